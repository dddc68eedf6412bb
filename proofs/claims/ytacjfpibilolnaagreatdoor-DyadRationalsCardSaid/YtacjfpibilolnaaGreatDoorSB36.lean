/- What the laws of dyadic numbers share: cutting in any direction, sizes, what is alike. -/
import Derived.Test.YtacjfpibilolnaaGreatDoorSB35
import Derived.Test.YtacjfpibilolnaaGreatDoorRows
import Derived.Deep.Strs
import Derived.ProofKit
import Derived.LaidMore
import Derived.OpenShut
import Derived.Stop.Joined
import Derived.Deep.Slices
import Derived.Below
import Derived.Carry
import Derived.Test.YtacjfpibilolnaaGreatDoorSB18
set_option maxRecDepth 100000
set_option maxHeartbeats 4000000
set_option linter.unusedVariables false
set_option linter.unusedSimpArgs false
namespace Go.Proofs.YtacjfpibilolnaaGreatDoor
open Go.RowKit Go.Shelf

/-- How long a dyadic number is, and how far its power lies from 0. -/
structure DB (q : Rat) (l E : Nat) : Prop where
  d : Dyd q
  l : nl (mg (dmn q)) ≤ l
  e : -(E : Int) ≤ dex q ∧ dex q ≤ E
theorem DB.ok {q : Rat} {l E : Nat} (h : DB q l E) (hl : l ≤ 100000) (hE : E ≤ 1000000) : DOk q := ⟨h.d, by have := h.l; omega, by have := h.e; omega⟩
theorem DB.mono {q : Rat} {l E l2 E2 : Nat} (h : DB q l E) (hl : l ≤ l2) (hE : E ≤ E2) : DB q l2 E2 := ⟨h.d, by have := h.l; omega, by have := h.e; omega⟩
theorem db_val {z e : Int} {l E : Nat} (hl : nl (mg z) ≤ l) (he : -(E : Int) ≤ e ∧ e ≤ E) : DB (dval z e) l (E + 32 * l) := by
  obtain ⟨h1, h2⟩ := form_bd z e
  refine ⟨dyd_val z e, by omega, ?_⟩
  omega
theorem db_zero (l E : Nat) : DB 0 l E := by
  have e0 := dval_zero 0
  exact ⟨by rw [← e0]; exact dyd_val 0 0, by rw [dmn_zero, mg0, nl_zero]; omega, by rw [dex_zero]; omega⟩
theorem db_neg {q : Rat} {l E : Nat} (h : DB q l E) : DB (-q) l E := by
  obtain ⟨h1, h2⟩ := form_neg h.d
  exact ⟨dyd_neg h.d, by rw [h1, mg_neg]; exact h.l, by rw [h2]; exact h.e⟩
theorem nl_shf_b {z d : Int} {l D : Nat} (h : nl (mg z) ≤ l) (h0 : 0 ≤ d) (h1 : d ≤ D) : nl (mg (shf z d)) ≤ l + (D / 32 + 1) := by
  obtain ⟨k, rfl⟩ := Int.eq_ofNat_of_zero_le h0
  unfold shf
  rw [if_pos h0, Int.toNat_natCast, mg_mul]
  have e : mg ((2 : Int) ^ k) = 2 ^ k := by unfold mg; rw [Int.natAbs_pow]; rfl
  rw [e]
  have h2 := nl_mul (mg z) (2 ^ k)
  rw [nl_two_pow] at h2
  have h3 : k / 32 ≤ D / 32 := Nat.div_le_div_right (by omega)
  omega
theorem db_add {a b : Rat} {l E : Nat} (ha : DB a l E) (hb : DB b l E) : DB (a + b) (l + E / 16 + 3) (E + 32 * (l + E / 16 + 3)) := by
  have h1 := ha.e
  have h2 := hb.e
  obtain ⟨F, hF⟩ : ∃ F, F = min (dex a) (dex b) := ⟨_, rfl⟩
  have hs : a + b = dval (shf (dmn a) (dex a - F) + shf (dmn b) (dex b - F)) F := by
    rw [dval_add, lev ha.d (by omega), lev hb.d (by omega)]
  have n1 := nl_shf_b ha.l (d := dex a - F) (D := 2 * E) (by omega) (by omega)
  have n2 := nl_shf_b hb.l (d := dex b - F) (D := 2 * E) (by omega) (by omega)
  have h3 := nl_add (mg (shf (dmn a) (dex a - F))) (mg (shf (dmn b) (dex b - F)))
  have h4 : nl (mg (shf (dmn a) (dex a - F) + shf (dmn b) (dex b - F))) ≤ nl (mg (shf (dmn a) (dex a - F)) + mg (shf (dmn b) (dex b - F))) := nl_mono (Int.natAbs_add_le _ _)
  rw [hs]
  exact db_val (by omega) (by omega)
theorem db_sub {a b : Rat} {l E : Nat} (ha : DB a l E) (hb : DB b l E) : DB (a - b) (l + E / 16 + 3) (E + 32 * (l + E / 16 + 3)) := by
  rw [Rat.sub_eq_add_neg]; exact db_add ha (db_neg hb)
theorem dmul_val2 {a b : Rat} (ha : Dyd a) (hb : Dyd b) : dval (dmn a * dmn b) (dex a + dex b) = a * b := by
  conv => rhs; rw [← dval_q ha, ← dval_q hb]
  unfold dval
  rw [Rat.intCast_mul, zp_add]
  generalize ((dmn a : Int) : Rat) = x
  generalize ((dmn b : Int) : Rat) = y
  generalize (2 : Rat) ^ dex a = u
  generalize (2 : Rat) ^ dex b = v
  grind
theorem db_mul {a b : Rat} {l E m F : Nat} (ha : DB a l E) (hb : DB b m F) : DB (a * b) (l + m) (E + F + 32 * (l + m)) := by
  have h1 := ha.e
  have h2 := hb.e
  rw [← dmul_val2 ha.d hb.d]
  refine db_val ?_ (by omega)
  rw [mg_mul]
  have := nl_mul (mg (dmn a)) (mg (dmn b))
  have h3 := ha.l
  have h4 := hb.l
  omega
theorem pow_szb (n : Int) {E : Nat} (h : -(E : Int) ≤ n ∧ n ≤ E) : nl (mg ((2 : Rat) ^ n).num) ≤ E / 32 + 1 ∧ nl ((2 : Rat) ^ n).den ≤ E / 32 + 1 := by
  rcases Int.lt_or_le n 0 with hn | hn
  · obtain ⟨k, rfl⟩ := Int.exists_eq_neg_ofNat (show n ≤ 0 by omega)
    rw [← pow_mk]
    have h0 : (2 ^ k : Nat) ≠ 0 := Nat.pos_iff_ne_zero.1 (Nat.two_pow_pos k)
    rw [Rat.num_mkRat, Rat.den_mkRat, if_neg h0, if_neg h0]
    have hd := nl_div (2 ^ k) (Nat.gcd (2 ^ k) (Int.natAbs 1))
    have hp := nl_two_pow k
    have hm : mg (1 / ((Nat.gcd (2 ^ k) (Int.natAbs 1) : Nat) : Int)) ≤ 1 := Int.natAbs_ediv_le_natAbs 1 _
    have h1 := nl_mono hm
    rw [nl_one] at h1
    have h3 : k / 32 ≤ E / 32 := Nat.div_le_div_right (by omega)
    constructor
    · omega
    · omega
  · obtain ⟨k, rfl⟩ := Int.eq_ofNat_of_zero_le hn
    rw [← pow_up, Rat.num_intCast, Rat.den_intCast, shf_one, mg_nat, nl_two_pow, nl_one]
    have h3 : k / 32 ≤ E / 32 := Nat.div_le_div_right (by omega)
    constructor <;> omega
theorem right_form {q : Rat} (h : -100000 ≤ dex q ∧ dex q ≤ 100000) : rightD (dmn q) (dex q) = true := by
  unfold rightD
  rcases nz_q q with k | ⟨k1, k2⟩
  · rw [if_neg (by omega), decide_eq_true k, decide_eq_true h.1, decide_eq_true h.2]; rfl
  · rw [if_pos k1, k2]; rfl
def PD (u : Value) (q : Rat) (W : World) : Prop := ∃ X c, u = .agg #[.bool (sg (dmn q)), .slice X (nl (mg (dmn q))) c, .int .i64 (dex q)] ∧ NatV W X c (mg (dmn q))
def PBD (n0 : Nat) (u : Value) (q : Rat) (W : World) : Prop := ∃ nb X c, u = .pointer (some ⟨nb, 0, none⟩) ∧ n0 ≤ nb ∧ BoxA W nb 28 #[.bool (sg (dmn q)), .slice X (nl (mg (dmn q))) c, .int .i64 (dex q)] ∧ NatV W X c (mg (dmn q))
theorem PD.below {W W' : World} {u : Value} {q : Rat} (h : PD u q W) (hb : Below W.heap.size W W') : PD u q W' := by
  obtain ⟨X, c, h1, h2⟩ := h; exact ⟨X, c, h1, h2.below hb⟩
theorem PD.put {W W' : World} {u : Value} {q : Rat} {k : Nat} (h : PD u q W) (hp : Put W W' k) : PD u q W' := by
  obtain ⟨X, c, h1, h2⟩ := h; exact ⟨X, c, h1, hp.nat h2⟩
theorem PBD.below {W W' : World} {u : Value} {q : Rat} {n0 : Nat} (h : PBD n0 u q W) (hb : Below W.heap.size W W') : PBD n0 u q W' := by
  obtain ⟨nb, X, c, h1, h2, h3, h4⟩ := h; exact ⟨nb, X, c, h1, h2, h3.below hb, h4.below hb⟩
theorem PBD.put {W W' : World} {u : Value} {q : Rat} {n0 k : Nat} (h : PBD n0 u q W) (hp : Put W W' k) (hne : u ≠ .pointer (some ⟨k, 0, none⟩)) : PBD n0 u q W' := by
  obtain ⟨nb, X, c, h1, h2, h3, h4⟩ := h
  exact ⟨nb, X, c, h1, h2, ⟨(hp.far nb (fun e => hne (by rw [h1, e]))).trans h3.at_⟩, hp.nat h4⟩
theorem tsameT_c (aA : Option Addr) (ac : Nat) (a : Rat) (bA : Option Addr) (bc : Nat) (b : Rat) (w : World) (ha : NatV w aA ac (mg (dmn a))) (hb : NatV w bA bc (mg (dmn b))) (oa : DOk a) (h : a = b) :
    Calls Tryz.prog 19 #[.agg #[.bool (sg (dmn a)), .slice aA (nl (mg (dmn a))) ac, .int .i64 (dex a)], .agg #[.bool (sg (dmn b)), .slice bA (nl (mg (dmn b))) bc, .int .i64 (dex b)]] w (fun e w' => e = .returned (.bool true) ∧ Below w.heap.size w w') := by
  subst h
  have l := oa.l
  refine (tsame_c aA ac a bA bc a w ha hb oa.d oa.d (by omega) (by omega)).mono ?_
  rintro e w1 ⟨rfl, h1⟩
  exact ⟨by rw [decide_eq_true rfl], h1⟩
theorem r9sameT_c (aA : Option Addr) (ac : Nat) (aB : Option Addr) (ad : Nat) (a : Rat) (bA : Option Addr) (bc : Nat) (bB : Option Addr) (bd : Nat) (b : Rat) (w : World) (ha : NatV w aA ac (mg a.num)) (ga : NatV w aB ad a.den) (hb : NatV w bA bc (mg b.num)) (gb : NatV w bB bd b.den) (la : nl (mg a.num) ≤ 1073741824) (ma : nl a.den ≤ 1073741824) (h : a = b) :
    Calls Tryz.prog 54 #[.agg #[.bool (sg a.num), .slice aA (nl (mg a.num)) ac, .slice aB (nl a.den) ad], .agg #[.bool (sg b.num), .slice bA (nl (mg b.num)) bc, .slice bB (nl b.den) bd]] w (fun e w' => e = .returned (.bool true) ∧ Below w.heap.size w w') := by
  subst h
  refine (r9same_c aA ac aB ad a bA bc bB bd a w ha ga hb gb la ma la ma).mono ?_
  rintro e w1 ⟨rfl, h1⟩
  exact ⟨by rw [decide_eq_true rfl], h1⟩
theorem zsameT_c (aA : Option Addr) (ac : Nat) (a : Int) (bA : Option Addr) (bc : Nat) (b : Int) (w : World) (ha : NatV w aA ac (mg a)) (hb : NatV w bA bc (mg b)) (la : nl (mg a) ≤ 1073741824) (h : a = b) :
    Calls Tryz.prog 20 #[.agg #[.bool (sg a), .slice aA (nl (mg a)) ac], .agg #[.bool (sg b), .slice bA (nl (mg b)) bc]] w (fun e w' => e = .returned (.bool true) ∧ Below w.heap.size w w') := by
  subst h
  refine (zsame_c aA ac a bA bc a w ha hb la la).mono ?_
  rintro e w1 ⟨rfl, h1⟩
  exact ⟨by rw [decide_eq_true rfl], h1⟩
theorem drightT_c (aA : Option Addr) (ac : Nat) (a : Rat) (w : World) (ha : NatV w aA ac (mg (dmn a))) (l : nl (mg (dmn a)) ≤ 65536) (h : -100000 ≤ dex a ∧ dex a ≤ 100000) :
    Calls Tryz.prog 26 #[.agg #[.bool (sg (dmn a)), .slice aA (nl (mg (dmn a))) ac, .int .i64 (dex a)]] w (fun e w' => e = .returned (.bool true) ∧ Below w.heap.size w w') := by
  refine (dright_c aA ac (dmn a) (dex a) w ha l).mono ?_
  rintro e w1 ⟨rfl, h1⟩
  exact ⟨by rw [right_form h], h1⟩
theorem trightT_c (aA : Option Addr) (ac : Nat) (a : Rat) (w : World) (ha : NatV w aA ac (mg (dmn a))) (l : nl (mg (dmn a)) ≤ 65536) (h : -100000 ≤ dex a ∧ dex a ≤ 100000) :
    Calls Tryz.prog 27 #[.agg #[.bool (sg (dmn a)), .slice aA (nl (mg (dmn a))) ac, .int .i64 (dex a)]] w (fun e w' => e = .returned (.bool true) ∧ Below w.heap.size w w') := by
  refine (tright_c aA ac (dmn a) (dex a) w ha l).mono ?_
  rintro e w1 ⟨rfl, h1⟩
  exact ⟨by rw [right_form h], h1⟩
end Go.Proofs.YtacjfpibilolnaaGreatDoor

/- What the laws of dyadic numbers share: what is made of raw numbers. -/
set_option linter.unusedVariables false
set_option linter.unusedSimpArgs false
namespace Go.Proofs.YtacjfpibilolnaaGreatDoor
open Go.RowKit Go.Shelf

theorem and16 (x : Int) : ∃ y : Nat, bits .and .i64 x 65535 = y ∧ y < 65536 := by
  have h1 : (BitVec.ofInt 64 x).toNat &&& 65535 < 2 ^ 16 := Nat.and_lt_two_pow _ (by decide)
  refine ⟨(BitVec.ofInt 64 x).toNat &&& 65535, ?_, h1⟩
  show IntKind.i64.wrap ((BitVec.ofInt 64 x &&& BitVec.ofInt 64 65535).toNat : Int) = _
  rw [BitVec.toNat_and, show (BitVec.ofInt 64 65535).toNat = 65535 from rfl]
  exact IntWalk.i64_in _ (by omega)
theorem cutE_bd (x : Int) : -200 ≤ cutE x ∧ cutE x ≤ 200 := by
  obtain ⟨y, h1, h2⟩ := and16 x
  unfold cutE
  rw [h1, Int.tmod_eq_emod_of_nonneg (by omega)]
  omega
theorem tmadeI_c (sa : Bool) (A : Option Addr) (c : Nat) (l : List Nat) (x : Int) (m : Nat) (i : Int) (w : World) (hl : Rd w A l) (Ll : Lim l) (Ql : l.length ≤ maxLen) (Cl : l.length ≤ c) (Zl : A = none → c = 0) (hm : m ≤ 65536) (hi : (m : Int) = i) :
    Calls Tryz.prog 14 #[.agg #[.bool sa, .slice A l.length c, .int .i64 x], .int .i64 i] w (RetD w (dval (ival sa (val (l.take m))) (cutE x))) := by
  subst hi; exact tmade_c sa A c m l x w hl Ll Ql Cl Zl hm (cutE_bd x)
theorem db_sz {a : Rat} {l E : Nat} (h : DB a l E) : nl (mg a.num) ≤ l + (E / 32 + 1) ∧ nl a.den ≤ 1 + (E / 32 + 1) := by
  have h1 := mul_sz ((dmn a : Int) : Rat) ((2 : Rat) ^ dex a)
  have h2 := pow_szb (dex a) h.e
  have h3 := h.l
  rw [dval_eq a h.d, Rat.num_intCast, Rat.den_intCast, nl_one] at h1
  omega
end Go.Proofs.YtacjfpibilolnaaGreatDoor

/- What an input gives a walk: whole numbers, rationals, dyadic numbers, pairs; the library's table as it was laid. -/
set_option linter.unusedVariables false
set_option linter.unusedSimpArgs false
namespace Go.Proofs.YtacjfpibilolnaaGreatDoor
open Go.RowKit Go.ChangeShapes Go.WideShapes Go.ChangeAt

theorem row_own : ownKnob Tryz.prog.godebug = none := by kernel_rfl
theorem row_out : laidOutB Tryz.prog = true := by kernel_rfl
theorem row_globD : Tryz.prog.globalNamed "math/bits.deBruijn32tab" = some 0 := by kernel_rfl
theorem row_globDT : (Tryz.prog.globals[0]?).map (·.type) = some 120 := by kernel_rfl
theorem row_cellsB : Tryz.prog.cellsOf 4 = 1 := by kernel_rfl
theorem row_cells8 : Tryz.prog.cellsOf 5 = 1 := by kernel_rfl
theorem row_cellsI : Tryz.prog.cellsOf 3 = 1 := by kernel_rfl
theorem row_cellsZ : Tryz.prog.cellsOf 24 = 2 := by kernel_rfl
theorem row_cells32 : Tryz.prog.cellsOf 58 = 1 := by kernel_rfl
theorem row_cellsS : Tryz.prog.cellsOf 22 = 1 := by kernel_rfl

section
variable {H : Type} {enc : TypeId × Value → H} {W : World} {base : Nat} {sp : Nat → Bool} {held : Bool}

/-- What the laws' walks ask of a slice of limbs. -/
def IsL (W : World) (A : Option Addr) (c : Nat) (l : List Nat) : Prop := Rd W A l ∧ Lim l ∧ l.length ≤ maxLen ∧ l.length ≤ c ∧ (A = none → c = 0)
theorem open_nat {fuel : Nat} {cs : List Value} {x : DataW H × List MemPlace} (h : DataW.trod enc Tryz.prog W base sp held fuel 22 cs = some x) :
    ∃ A c l, cs = [.slice A l.length c] ∧ IsL W A c l := by
  rcases open_ints Tryz.underlying22 Tryz.underlying58 row_cells32 h with ⟨rfl, _⟩ | ⟨a, len, cap, zs, rfl, _, hl, hm, hz, _, hcell, hwf⟩
  · exact ⟨none, 0, [], rfl, Rd.nil, Lim.nil, by decide, Nat.le_refl _, fun _ => rfl⟩
  · have hlz : len ≤ zs.length := by rw [hz]; split <;> omega
    have hlen : ((zs.take len).map Int.toNat).length = len := by rw [List.length_map, List.length_take]; omega
    refine ⟨some a, cap, (zs.take len).map Int.toNat, by rw [hlen], ?_, ?_, by rw [hlen]; omega, by rw [hlen]; exact hl, fun e => by cases e⟩
    · refine .inr ⟨a, rfl, fun i u hu => ?_⟩
      have hi : i < len := by
        have := (List.getElem?_eq_some_iff.1 hu).1
        rw [vals_length, hlen] at this; exact this
      have hi2 : i < zs.length := by omega
      rw [hcell i hi2]
      have h0 := bounds_u32 (hwf _ (List.getElem_mem hi2))
      simp only [vals, List.map_map, List.getElem?_map, List.getElem?_take_of_lt hi, List.getElem?_eq_getElem hi2, Option.map_some] at hu
      rw [← Option.some.inj hu]
      simp only [Function.comp, List.getD_eq_getElem?_getD, List.getElem?_eq_getElem hi2, Option.getD_some]
      rw [Int.toNat_of_nonneg h0.1]
    · intro y hy
      obtain ⟨z, hz2, rfl⟩ := List.mem_map.1 hy
      have := bounds_u32 (hwf _ (List.mem_of_mem_take hz2))
      omega

theorem open_mag {fuel : Nat} {cs : List Value} {x : DataW H × List MemPlace} (h : DataW.trod enc Tryz.prog W base sp held fuel 24 cs = some x) :
    ∃ b A c l, cs = [.bool b, .slice A l.length c] ∧ IsL W A c l := by
  obtain ⟨y0, y1, n, _, hl, h0, h1⟩ := trod_struct2 Tryz.underlying24 h
  rw [row_cellsZ] at hl
  match cs, hl with
  | [c0, c1], _ =>
    have e0 : DataW.trod enc Tryz.prog W base sp held n 4 (([c0, c1].drop 0).take (Tryz.prog.cellsOf 4)) = some y0 := h0
    have e1 : DataW.trod enc Tryz.prog W base sp held n 22 (([c0, c1].drop 1).take (Tryz.prog.cellsOf 22)) = some y1 := h1
    rw [row_cellsB] at e0
    rw [row_cellsS] at e1
    obtain ⟨b, kb, _⟩ := DataW.trod_bool Tryz.underlying4 (show DataW.trod enc Tryz.prog W base sp held n 4 [c0] = some y0 from e0)
    obtain ⟨A, c, l, k1, i1⟩ := open_nat (show DataW.trod enc Tryz.prog W base sp held n 22 [c1] = some y1 from e1)
    simp only [List.cons.injEq, and_true] at kb k1
    subst kb k1
    exact ⟨b, A, c, l, rfl, i1⟩
theorem okw_dyad {r : Reach} {b0 : Nat} {v : Value} (hv : Value.okWide Tryz.prog W r b0 28 v) : ∃ cs : Array Value, v = .agg cs ∧ cs.size = 3 := by
  simp only [Value.okWide, Tryz.underlying28] at hv
  obtain ⟨cs, rfl, hcs, _⟩ := hv
  exact ⟨cs, rfl, by rw [hcs]; kernel_rfl⟩
theorem open_dy {r : Reach} {b0 : Nat} {v : Value} {d : DataW H} {ps : List MemPlace} (hv : Value.okWide Tryz.prog W r b0 28 v) (h : DataW.Trod enc Tryz.prog W base sp held 28 v d ps) :
    ∃ b A c l x, v = .agg #[.bool b, .slice A l.length c, .int .i64 x] ∧ IsL W A c l := by
  obtain ⟨⟨cl⟩, rfl, hs⟩ := okw_dyad hv
  obtain ⟨fuel, hf⟩ := h
  obtain ⟨y0, y1, n, _, hl, h0, h1⟩ := trod_struct2 Tryz.underlying28 hf
  simp only [Value.cells] at h0 h1
  match cl, hs with
  | [c0, c1, c2], _ =>
    have e0 : DataW.trod enc Tryz.prog W base sp held n 24 (([c0, c1, c2].drop 0).take (Tryz.prog.cellsOf 24)) = some y0 := h0
    have e1 : DataW.trod enc Tryz.prog W base sp held n 3 (([c0, c1, c2].drop 2).take (Tryz.prog.cellsOf 3)) = some y1 := h1
    rw [row_cellsZ] at e0
    rw [row_cellsI] at e1
    obtain ⟨b, A, c, l, k0, i⟩ := open_mag (show DataW.trod enc Tryz.prog W base sp held n 24 [c0, c1] = some y0 from e0)
    obtain ⟨z, k1, _, _⟩ := DataW.trod_int Tryz.underlying3 (show DataW.trod enc Tryz.prog W base sp held n 3 [c2] = some y1 from e1)
    simp only [List.cons.injEq, and_true] at k0 k1
    obtain ⟨rfl, rfl⟩ := k0
    subst k1
    exact ⟨b, A, c, l, z, rfl, i⟩
end

/-- The library's table, as it was laid, gives the cells that the walks read. -/
theorem tab_core {W : World} {g0 : Nat} {t0 : TypeId} {cs0 : List Value} {xs : List (DataW Unit × List MemPlace)} {n : Nat} (hxs : xs.length = 32) (hl : cs0.length = 32)
    (hx : xs.map Prod.fst = Lib.deBruijn32tab.map (fun k => (DataW.lit (.int .u8 (k : Nat)) : DataW Unit)))
    (he : ∀ i, i < 32 → DataW.trod (fun _ => ()) Tryz.prog W 0 (fun _ => true) false n 5 ((cs0.drop i).take 1) = xs[i]?)
    (cell : ∀ i, W.cell? ⟨g0, i, none⟩ = cs0[i]?) : TabAt g0 Lib.deBruijn32tab W := by
  intro j hj
  have hj32 : j < 32 := hj
  have e := he j hj32
  rw [List.getElem?_eq_getElem (by omega : j < xs.length)] at e
  obtain ⟨z, hz, hd, _⟩ := DataW.trod_int Tryz.underlying5 e
  have h1 : (xs.map Prod.fst)[j]? = (Lib.deBruijn32tab.map (fun k => (DataW.lit (.int .u8 (k : Nat)) : DataW Unit)))[j]? := by rw [hx]
  rw [List.getElem?_map, List.getElem?_map, List.getElem?_eq_getElem (by omega : j < xs.length), hd, List.getElem?_eq_getElem hj] at h1
  simp only [Option.map_some, Option.some.injEq, DataW.lit.injEq, Lit.int.injEq, true_and] at h1
  rw [cell j]
  have h2 := congrArg (fun l => l[0]?) hz
  simp only [List.getElem?_take_of_lt Nat.zero_lt_one, List.getElem?_drop, Nat.add_zero, List.getElem?_cons_zero] at h2
  rw [h2, h1, List.getD_eq_getElem?_getD, List.getElem?_eq_getElem hj]; rfl
end Go.Proofs.YtacjfpibilolnaaGreatDoor

/- The sums of products modulo one prime, walked. -/
set_option linter.unusedVariables false
set_option linter.unusedSimpArgs false
namespace Go.Proofs.YtacjfpibilolnaaGreatDoor
open Go.RowKit Go.Shelf

/-- What is asked of a prime (that it is one is not). -/
structure Prm (p : Nat) : Prop where
  two : 2 < p
  small : p < 1073741824
  one : p % 1048576 = 1
  half : 3 ^ ((p - 1) / 2) % p = p - 1
  full : 2 ^ (p - 1) % p = 1
/-- The transform's root. -/
def rt (p k : Nat) : Nat := 3 ^ ((p - 1) / 2 ^ k) % p
theorem Prm.dvd {p : Nat} (h : Prm p) (k : Nat) (hk : k ≤ 20) : (p - 1) / 2 ^ k * 2 ^ k = p - 1 := by
  refine Nat.div_mul_cancel ?_
  have h1 : 1048576 ∣ p - 1 := by have := h.one; have := h.two; omega
  exact Nat.dvd_trans (show 2 ^ k ∣ 2 ^ 20 from Nat.pow_dvd_pow 2 hk) h1
section
variable {p : Nat} [NeZero p] {φ : Nat → Fin p}
theorem Prm.neg (h : Prm p) (hφ : Hom p φ) : pw (φ 3) ((p - 1) / 2) = -1 := by
  have h1 : φ (3 ^ ((p - 1) / 2)) = φ (p - 1) := by rw [← hφ.modp, h.half]
  rw [hφ.pow] at h1
  rw [h1]
  have h2 := hφ.add (p - 1) 1
  have := h.two
  rw [Nat.sub_add_cancel (by omega), hφ.p0, hφ.one] at h2
  grind
theorem Prm.root (h : Prm p) (hφ : Hom p φ) (k : Nat) (hk : k ≤ 20) : k = 0 ∨ pw (φ (rt p k)) (2 ^ (k - 1)) = -1 := by
  cases k with
  | zero => exact .inl rfl
  | succ k =>
    right
    unfold rt
    rw [hφ.modp, hφ.pow, pw_pw, Nat.add_sub_cancel, ← h.neg hφ]
    congr 1
    have h1 := h.dvd (k + 1) hk
    generalize (p - 1) / 2 ^ (k + 1) = x at h1 ⊢
    rw [Nat.pow_succ, ← Nat.mul_assoc] at h1
    omega
theorem Prm.unit (h : Prm p) (hφ : Hom p φ) : pw (φ 3) (p - 1) = 1 := by
  have h1 : p - 1 = (p - 1) / 2 * 2 := by have := h.one; have := h.two; omega
  rw [h1, ← pw_pw, h.neg hφ]
  simp only [pw]; grind
theorem Prm.back (h : Prm p) (hφ : Hom p φ) (k : Nat) : φ (rt p k) * φ (rt p k ^ (p - 2) % p) = 1 := by
  rw [hφ.modp, hφ.pow, ← pw_1 (φ (rt p k)), pw_pw, ← pw_add]
  have := h.two
  rw [show 1 + 1 * (p - 2) = p - 1 by omega]
  unfold rt
  rw [hφ.modp, hφ.pow, pw_pw, Nat.mul_comm, ← pw_pw, h.unit hφ, pw_one]
theorem sm_ones (hφ : Hom p φ) (n : Nat) : sm (fun _ => (1 : Fin p)) n = φ n := by
  induction n with
  | zero => exact hφ.zero.symm
  | succ n ih => rw [sm, ih, hφ.add, hφ.one]
theorem Prm.over (h : Prm p) (hφ : Hom p φ) (k : Nat) : φ (2 ^ k) * φ ((2 ^ k) ^ (p - 2) % p) = 1 := by
  rw [hφ.modp, hφ.pow (2 ^ k), ← pw_1 (φ (2 ^ k)), pw_pw, ← pw_add]
  have := h.two
  rw [show 1 + 1 * (p - 2) = p - 1 by omega, ← hφ.pow, ← Nat.pow_mul, Nat.mul_comm, Nat.pow_mul, hφ.pow, ← hφ.modp, h.full, hφ.one, pw_one]
/-- The whole way there and back. -/
theorem conv_math (h : Prm p) (hφ : Hom p φ) (k la lb : Nat) (hk : k ≤ 20) (a b X Y Z : Nat → Nat) (ha : ∀ i, la ≤ i → a i = 0) (hb : ∀ i, lb ≤ i → b i = 0) (hN : la + lb ≤ 2 ^ k + 1) (hl : 0 < lb) (hla : la ≤ 2 ^ k) (hlb : lb ≤ 2 ^ k)
    (hX : ∀ t, t < 2 ^ k → φ (X t) = dft (fun j => φ (a j)) (φ (rt p k)) (2 ^ k) t) (hY : ∀ t, t < 2 ^ k → φ (Y t) = dft (fun j => φ (b j)) (φ (rt p k)) (2 ^ k) t)
    (hZ : ∀ t, t < 2 ^ k → φ (Z t) = dft (fun j => φ (X j * Y j % p)) (φ (rt p k ^ (p - 2) % p)) (2 ^ k) t) :
    ∀ t, t < 2 ^ k → Z t * ((2 ^ k) ^ (p - 2) % p) % p = cv a b la t % p := by
  intro t ht
  have hp := h.two
  refine hφ.eq (Nat.mod_lt _ (by omega)) ?_ 
  rw [hφ.modp, hφ.mul, hZ t ht, hφ.cv]
  have e : dft (fun j => φ (X j * Y j % p)) (φ (rt p k ^ (p - 2) % p)) (2 ^ k) t = dft (dft (cv (fun i => φ (a i)) (fun i => φ (b i)) la) (φ (rt p k)) (2 ^ k)) (φ (rt p k ^ (p - 2) % p)) (2 ^ k) t := by
    unfold dft
    refine sm_congr fun j hj => ?_
    congr 1
    show φ (X j * Y j % p) = _
    rw [hφ.modp, hφ.mul, hX j hj, hY j hj]
    have hc := cv_poly (fun i => φ (a i)) (fun i => φ (b i)) la lb (2 ^ k) (pw (φ (rt p k)) j) (fun i hi => by simp only [hb i hi, hφ.zero]) hN hl
    simp only [pw_pw] at hc
    rw [hc]
    unfold dft
    obtain ⟨r, hr⟩ : ∃ r, 2 ^ k = la + r := ⟨2 ^ k - la, by omega⟩
    obtain ⟨r', hr'⟩ : ∃ r', 2 ^ k = lb + r' := ⟨2 ^ k - lb, by omega⟩
    have e1 : sm (fun i => φ (a i) * pw (φ (rt p k)) (j * i)) (2 ^ k) = sm (fun i => φ (a i) * pw (φ (rt p k)) (j * i)) la := by
      rw [hr]; exact sm_more _ _ _ fun i hi => by simp only [ha i hi, hφ.zero]; grind
    have e2 : sm (fun i => φ (b i) * pw (φ (rt p k)) (j * i)) (2 ^ k) = sm (fun i => φ (b i) * pw (φ (rt p k)) (j * i)) lb := by
      rw [hr']; exact sm_more _ _ _ fun i hi => by simp only [hb i hi, hφ.zero]; grind
    rw [e1, e2]
  rw [e, dft_back _ _ _ k t (h.root hφ k hk) (h.back hφ k) ht, sm_ones hφ]
  have := h.over hφ k
  grind
end

theorem mk64 (c : Int) (h0 : 0 ≤ c) (hc : c ≤ 4194304) : ∀ W : World, (Instr.makeSlice 152 (.int .i64 c) (.int .i64 c)).run Tryz.prog W =
    .ok (.slice (some ⟨W.heap.size, 0, none⟩) c.toNat c.toNat) (W.alloc (.cells (v64 (List.replicate c.toNat 0)).toArray 94)) := fun W => by
  obtain ⟨i0, hi, hz0, hz1, hz2⟩ := info_parts info_u64
  have := run_make (P := Tryz.prog) W 152 94 i0 _ Tryz.underlying152 hi hz0 .i64 .i64 c c h0 (Int.le_refl _) (by rw [hz2]; omega) (by omega)
  rw [hz1, Nat.mul_one] at this
  rw [this]
  congr 4
  apply Array.toList_inj.1
  show (madeCells #[.int .u64 0] c.toNat).toList = _
  rw [toList_madeCells_one]
  simp [v64]
end Go.Proofs.YtacjfpibilolnaaGreatDoor
