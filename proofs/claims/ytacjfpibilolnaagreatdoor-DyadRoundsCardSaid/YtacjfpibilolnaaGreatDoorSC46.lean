/- What the laws of dyadic numbers share: cutting in any direction, sizes, what is alike. -/
import Derived.Test.YtacjfpibilolnaaGreatDoorSC43
import Derived.Test.YtacjfpibilolnaaGreatDoorSC45
import Derived.Test.YtacjfpibilolnaaGreatDoorRows
import Derived.Deep.Strs
import Derived.ProofKit
import Derived.LaidMore
import Derived.OpenShut
import Derived.Stop.Joined
import Derived.Deep.Slices
import Derived.Below
import Derived.Carry
set_option maxRecDepth 100000
set_option maxHeartbeats 4000000
set_option linter.unusedVariables false
set_option linter.unusedSimpArgs false
namespace Go.Proofs.YtacjfpibilolnaaGreatDoor
open Go.RowKit Go.Shelf

/-- What a rational is cut to, and whether the direction is one. -/
def cutV (q : Rat) (n dr : Int) : Rat := if 0 ≤ dr ∧ dr ≤ 4 then dval (rnd dr (q * (2 : Rat) ^ n)) (-n) else 0
def cutK (dr : Int) : Int := if 0 ≤ dr ∧ dr ≤ 4 then 0 else 1
theorem cutV_in {q : Rat} {n dr : Int} (h0 : 0 ≤ dr) (h4 : dr ≤ 4) : cutV q n dr = dval (rnd dr (q * (2 : Rat) ^ n)) (-n) := if_pos ⟨h0, h4⟩
theorem cutK_in {dr : Int} (h0 : 0 ≤ dr) (h4 : dr ≤ 4) : cutK dr = 0 := if_pos ⟨h0, h4⟩
theorem cutV_out {q : Rat} {n dr : Int} (h : ¬ (0 ≤ dr ∧ dr ≤ 4)) : cutV q n dr = 0 := if_neg h
theorem cutK_out {dr : Int} (h : ¬ (0 ≤ dr ∧ dr ≤ 4)) : cutK dr = 1 := if_neg h
/-- How long a dyadic number is, and how far its power lies from 0. -/
structure DB (q : Rat) (l E : Nat) : Prop where
  d : Dyd q
  l : nl (mg (dmn q)) ≤ l
  e : -(E : Int) ≤ dex q ∧ dex q ≤ E
theorem DB.ok {q : Rat} {l E : Nat} (h : DB q l E) (hl : l ≤ 100000) (hE : E ≤ 1000000) : DOk q := ⟨h.d, by have := h.l; omega, by have := h.e; omega⟩
theorem DB.mono {q : Rat} {l E l2 E2 : Nat} (h : DB q l E) (hl : l ≤ l2) (hE : E ≤ E2) : DB q l2 E2 := ⟨h.d, by have := h.l; omega, by have := h.e; omega⟩
theorem db_val {z e : Int} {l E : Nat} (hl : nl (mg z) ≤ l) (he : -(E : Int) ≤ e ∧ e ≤ E) : DB (dval z e) l (E + 32 * l) := by
  obtain ⟨h1, h2⟩ := form_bd z e
  refine ⟨dyd_val z e, by omega, ?_⟩
  omega
theorem db_zero (l E : Nat) : DB 0 l E := by
  have e0 := dval_zero 0
  exact ⟨by rw [← e0]; exact dyd_val 0 0, by rw [dmn_zero, mg0, nl_zero]; omega, by rw [dex_zero]; omega⟩
theorem db_cut {q : Rat} {n dr : Int} {l E : Nat} (hl : nl (mg (q * (2 : Rat) ^ n).num) ≤ l) (hE : -(E : Int) ≤ n ∧ n ≤ E) : DB (cutV q n dr) l (E + 32 * l) := by
  unfold cutV
  split
  · exact db_val (Nat.le_trans (nl_mono (rnd_abs _ _)) hl) (by omega)
  · exact db_zero _ _
theorem pow_szb (n : Int) {E : Nat} (h : -(E : Int) ≤ n ∧ n ≤ E) : nl (mg ((2 : Rat) ^ n).num) ≤ E / 32 + 1 ∧ nl ((2 : Rat) ^ n).den ≤ E / 32 + 1 := by
  rcases Int.lt_or_le n 0 with hn | hn
  · obtain ⟨k, rfl⟩ := Int.exists_eq_neg_ofNat (show n ≤ 0 by omega)
    rw [← pow_mk]
    have h0 : (2 ^ k : Nat) ≠ 0 := Nat.pos_iff_ne_zero.1 (Nat.two_pow_pos k)
    rw [Rat.num_mkRat, Rat.den_mkRat, if_neg h0, if_neg h0]
    have hd := nl_div (2 ^ k) (Nat.gcd (2 ^ k) (Int.natAbs 1))
    have hp := nl_two_pow k
    have hm : mg (1 / ((Nat.gcd (2 ^ k) (Int.natAbs 1) : Nat) : Int)) ≤ 1 := Int.natAbs_ediv_le_natAbs 1 _
    have h1 := nl_mono hm
    rw [nl_one] at h1
    have h3 : k / 32 ≤ E / 32 := Nat.div_le_div_right (by omega)
    constructor
    · omega
    · omega
  · obtain ⟨k, rfl⟩ := Int.eq_ofNat_of_zero_le hn
    rw [← pow_up, Rat.num_intCast, Rat.den_intCast, shf_one, mg_nat, nl_two_pow, nl_one]
    have h3 : k / 32 ≤ E / 32 := Nat.div_le_div_right (by omega)
    constructor <;> omega
theorem right_form {q : Rat} (h : -100000 ≤ dex q ∧ dex q ≤ 100000) : rightD (dmn q) (dex q) = true := by
  unfold rightD
  rcases nz_q q with k | ⟨k1, k2⟩
  · rw [if_neg (by omega), decide_eq_true k, decide_eq_true h.1, decide_eq_true h.2]; rfl
  · rw [if_pos k1, k2]; rfl
def PD (u : Value) (q : Rat) (W : World) : Prop := ∃ X c, u = .agg #[.bool (sg (dmn q)), .slice X (nl (mg (dmn q))) c, .int .i64 (dex q)] ∧ NatV W X c (mg (dmn q))
def PBD (n0 : Nat) (u : Value) (q : Rat) (W : World) : Prop := ∃ nb X c, u = .pointer (some ⟨nb, 0, none⟩) ∧ n0 ≤ nb ∧ BoxA W nb 28 #[.bool (sg (dmn q)), .slice X (nl (mg (dmn q))) c, .int .i64 (dex q)] ∧ NatV W X c (mg (dmn q))
theorem PD.below {W W' : World} {u : Value} {q : Rat} (h : PD u q W) (hb : Below W.heap.size W W') : PD u q W' := by
  obtain ⟨X, c, h1, h2⟩ := h; exact ⟨X, c, h1, h2.below hb⟩
theorem PD.put {W W' : World} {u : Value} {q : Rat} {k : Nat} (h : PD u q W) (hp : Put W W' k) : PD u q W' := by
  obtain ⟨X, c, h1, h2⟩ := h; exact ⟨X, c, h1, hp.nat h2⟩
theorem PBD.below {W W' : World} {u : Value} {q : Rat} {n0 : Nat} (h : PBD n0 u q W) (hb : Below W.heap.size W W') : PBD n0 u q W' := by
  obtain ⟨nb, X, c, h1, h2, h3, h4⟩ := h; exact ⟨nb, X, c, h1, h2, h3.below hb, h4.below hb⟩
theorem PBD.put {W W' : World} {u : Value} {q : Rat} {n0 k : Nat} (h : PBD n0 u q W) (hp : Put W W' k) (hne : u ≠ .pointer (some ⟨k, 0, none⟩)) : PBD n0 u q W' := by
  obtain ⟨nb, X, c, h1, h2, h3, h4⟩ := h
  exact ⟨nb, X, c, h1, h2, ⟨(hp.far nb (fun e => hne (by rw [h1, e]))).trans h3.at_⟩, hp.nat h4⟩
theorem dcutA_c (aA : Option Addr) (ac : Nat) (aB : Option Addr) (ad : Nat) (a : Rat) (n dr : Int) (w : World) (ha : NatV w aA ac (mg a.num)) (ga : NatV w aB ad a.den) (hT : Tab w) (lq : nl (mg a.num) ≤ 100000) (ld : nl a.den ≤ 100000) (ln : -1000000 ≤ n ∧ n ≤ 1000000) :
    Calls Tryz.prog 15 #[.agg #[.bool (sg a.num), .slice aA (nl (mg a.num)) ac, .slice aB (nl a.den) ad], .int .i64 n, .int .i64 dr] w (RetDe w (cutV a n dr) (cutK dr)) := by
  by_cases h : 0 ≤ dr ∧ dr ≤ 4
  · rw [cutV_in h.1 h.2, cutK_in h.1 h.2]; exact cut_in aA ac aB ad a n dr w ha ga hT lq ld h.1 h.2 ln
  · rw [cutV_out h, cutK_out h]
    rcases Int.lt_or_le dr 0 with k | k
    · exact cut_neg aA ac aB ad a n dr w ha ga k
    · exact cut_big aA ac aB ad a n dr w ha ga (by omega)
theorem droundA_c (aA : Option Addr) (ac : Nat) (a : Rat) (n dr : Int) (w : World) (ha : NatV w aA ac (mg (dmn a))) (hT : Tab w) (oa : DOk a) (ln : -1000000 ≤ n ∧ n ≤ 1000000) :
    Calls Tryz.prog 17 #[.agg #[.bool (sg (dmn a)), .slice aA (nl (mg (dmn a))) ac, .int .i64 (dex a)], .int .i64 n, .int .i64 dr] w (RetDe w (cutV a n dr) (cutK dr)) := by
  by_cases h : 0 ≤ dr ∧ dr ≤ 4
  · rw [cutV_in h.1 h.2, cutK_in h.1 h.2]; exact dround_c aA ac a n dr w ha hT oa h.1 h.2 ln
  · rw [cutV_out h, cutK_out h]
    rcases Int.lt_or_le dr 0 with k | k
    · exact round_neg aA ac a n dr w ha k
    · exact round_big aA ac a n dr w ha (by omega)
theorem tcutA_c (aA : Option Addr) (ac : Nat) (aB : Option Addr) (ad : Nat) (a : Rat) (n dr : Int) (w : World) (ha : NatV w aA ac (mg a.num)) (ga : NatV w aB ad a.den) (la : nl (mg a.num) ≤ 60000) (ma : nl a.den ≤ 60000) (ln : -1000000 ≤ n ∧ n ≤ 1000000) :
    Calls Tryz.prog 16 #[.agg #[.bool (sg a.num), .slice aA (nl (mg a.num)) ac, .slice aB (nl a.den) ad], .int .i64 n, .int .i64 dr] w (RetDe w (cutV a n dr) (cutK dr)) := by
  by_cases h : 0 ≤ dr ∧ dr ≤ 4
  · rw [cutV_in h.1 h.2, cutK_in h.1 h.2]; exact tcut_in aA ac aB ad a n dr w ha ga ln la ma h.1 h.2
  · rw [cutV_out h, cutK_out h]
    rcases Int.lt_or_le dr 0 with k | k
    · exact tcut_neg aA ac aB ad a n dr w ha ga k
    · exact tcut_big aA ac aB ad a n dr w ha ga (by omega)
theorem troundA_c (aA : Option Addr) (ac : Nat) (a : Rat) (n dr : Int) (w : World) (ha : NatV w aA ac (mg (dmn a))) (oa : DOk a) (la : nl (mg a.num) ≤ 60000) (ma : nl a.den ≤ 60000) (ln : -1000000 ≤ n ∧ n ≤ 1000000) :
    Calls Tryz.prog 18 #[.agg #[.bool (sg (dmn a)), .slice aA (nl (mg (dmn a))) ac, .int .i64 (dex a)], .int .i64 n, .int .i64 dr] w (RetDe w (cutV a n dr) (cutK dr)) := by
  by_cases h : 0 ≤ dr ∧ dr ≤ 4
  · rw [cutV_in h.1 h.2, cutK_in h.1 h.2]; exact tround_in aA ac a n dr w ha oa ln la ma h.1 h.2
  · rw [cutV_out h, cutK_out h]
    rcases Int.lt_or_le dr 0 with k | k
    · exact tround_neg aA ac a n dr w ha oa la ma k
    · exact tround_big aA ac a n dr w ha oa la ma (by omega)
theorem tsameT_c (aA : Option Addr) (ac : Nat) (a : Rat) (bA : Option Addr) (bc : Nat) (b : Rat) (w : World) (ha : NatV w aA ac (mg (dmn a))) (hb : NatV w bA bc (mg (dmn b))) (oa : DOk a) (h : a = b) :
    Calls Tryz.prog 19 #[.agg #[.bool (sg (dmn a)), .slice aA (nl (mg (dmn a))) ac, .int .i64 (dex a)], .agg #[.bool (sg (dmn b)), .slice bA (nl (mg (dmn b))) bc, .int .i64 (dex b)]] w (fun e w' => e = .returned (.bool true) ∧ Below w.heap.size w w') := by
  subst h
  have l := oa.l
  refine (tsame_c aA ac a bA bc a w ha hb oa.d oa.d (by omega) (by omega)).mono ?_
  rintro e w1 ⟨rfl, h1⟩
  exact ⟨by rw [decide_eq_true rfl], h1⟩
theorem r9sameT_c (aA : Option Addr) (ac : Nat) (aB : Option Addr) (ad : Nat) (a : Rat) (bA : Option Addr) (bc : Nat) (bB : Option Addr) (bd : Nat) (b : Rat) (w : World) (ha : NatV w aA ac (mg a.num)) (ga : NatV w aB ad a.den) (hb : NatV w bA bc (mg b.num)) (gb : NatV w bB bd b.den) (la : nl (mg a.num) ≤ 1073741824) (ma : nl a.den ≤ 1073741824) (h : a = b) :
    Calls Tryz.prog 54 #[.agg #[.bool (sg a.num), .slice aA (nl (mg a.num)) ac, .slice aB (nl a.den) ad], .agg #[.bool (sg b.num), .slice bA (nl (mg b.num)) bc, .slice bB (nl b.den) bd]] w (fun e w' => e = .returned (.bool true) ∧ Below w.heap.size w w') := by
  subst h
  refine (r9same_c aA ac aB ad a bA bc bB bd a w ha ga hb gb la ma la ma).mono ?_
  rintro e w1 ⟨rfl, h1⟩
  exact ⟨by rw [decide_eq_true rfl], h1⟩
theorem zsameT_c (aA : Option Addr) (ac : Nat) (a : Int) (bA : Option Addr) (bc : Nat) (b : Int) (w : World) (ha : NatV w aA ac (mg a)) (hb : NatV w bA bc (mg b)) (la : nl (mg a) ≤ 1073741824) (h : a = b) :
    Calls Tryz.prog 20 #[.agg #[.bool (sg a), .slice aA (nl (mg a)) ac], .agg #[.bool (sg b), .slice bA (nl (mg b)) bc]] w (fun e w' => e = .returned (.bool true) ∧ Below w.heap.size w w') := by
  subst h
  refine (zsame_c aA ac a bA bc a w ha hb la la).mono ?_
  rintro e w1 ⟨rfl, h1⟩
  exact ⟨by rw [decide_eq_true rfl], h1⟩
theorem drightT_c (aA : Option Addr) (ac : Nat) (a : Rat) (w : World) (ha : NatV w aA ac (mg (dmn a))) (l : nl (mg (dmn a)) ≤ 65536) (h : -100000 ≤ dex a ∧ dex a ≤ 100000) :
    Calls Tryz.prog 26 #[.agg #[.bool (sg (dmn a)), .slice aA (nl (mg (dmn a))) ac, .int .i64 (dex a)]] w (fun e w' => e = .returned (.bool true) ∧ Below w.heap.size w w') := by
  refine (dright_c aA ac (dmn a) (dex a) w ha l).mono ?_
  rintro e w1 ⟨rfl, h1⟩
  exact ⟨by rw [right_form h], h1⟩
end Go.Proofs.YtacjfpibilolnaaGreatDoor

/- What the laws of dyadic numbers share: what is made of raw numbers. -/
set_option linter.unusedVariables false
set_option linter.unusedSimpArgs false
namespace Go.Proofs.YtacjfpibilolnaaGreatDoor
open Go.RowKit Go.Shelf

theorem r9madeI_c (sa : Bool) (A : Option Addr) (c : Nat) (l : List Nat) (B : Option Addr) (d : Nat) (k : List Nat) (m : Nat) (i : Int) (w : World) (hl : Rd w A l) (Ll : Lim l) (Ql : l.length ≤ maxLen) (Cl : l.length ≤ c) (Zl : A = none → c = 0) (hk : Rd w B k) (Lk : Lim k) (Qk : k.length ≤ maxLen) (Ck : k.length ≤ d) (Zk : B = none → d = 0) (hm : m ≤ 65536) (hi : (m : Int) = i) :
    Calls Tryz.prog 13 #[.agg #[.bool sa, .slice A l.length c, .slice B k.length d], .int .i64 i] w (RetR w (ratM sa (val (l.take m)) (val (k.take m)))) := by
  subst hi; exact r9made_c sa A c l B d k m w hl Ll Ql Cl Zl hk Lk Qk Ck Zk hm
theorem and16 (x : Int) : ∃ y : Nat, bits .and .i64 x 65535 = y ∧ y < 65536 := by
  have h1 : (BitVec.ofInt 64 x).toNat &&& 65535 < 2 ^ 16 := Nat.and_lt_two_pow _ (by decide)
  refine ⟨(BitVec.ofInt 64 x).toNat &&& 65535, ?_, h1⟩
  show IntKind.i64.wrap ((BitVec.ofInt 64 x &&& BitVec.ofInt 64 65535).toNat : Int) = _
  rw [BitVec.toNat_and, show (BitVec.ofInt 64 65535).toNat = 65535 from rfl]
  exact IntWalk.i64_in _ (by omega)
theorem cutE_bd (x : Int) : -200 ≤ cutE x ∧ cutE x ≤ 200 := by
  obtain ⟨y, h1, h2⟩ := and16 x
  unfold cutE
  rw [h1, Int.tmod_eq_emod_of_nonneg (by omega)]
  omega
theorem tmadeI_c (sa : Bool) (A : Option Addr) (c : Nat) (l : List Nat) (x : Int) (m : Nat) (i : Int) (w : World) (hl : Rd w A l) (Ll : Lim l) (Ql : l.length ≤ maxLen) (Cl : l.length ≤ c) (Zl : A = none → c = 0) (hm : m ≤ 65536) (hi : (m : Int) = i) :
    Calls Tryz.prog 14 #[.agg #[.bool sa, .slice A l.length c, .int .i64 x], .int .i64 i] w (RetD w (dval (ival sa (val (l.take m))) (cutE x))) := by
  subst hi; exact tmade_c sa A c m l x w hl Ll Ql Cl Zl hm (cutE_bd x)
theorem db_sz {a : Rat} {l E : Nat} (h : DB a l E) : nl (mg a.num) ≤ l + (E / 32 + 1) ∧ nl a.den ≤ 1 + (E / 32 + 1) := by
  have h1 := mul_sz ((dmn a : Int) : Rat) ((2 : Rat) ^ dex a)
  have h2 := pow_szb (dex a) h.e
  have h3 := h.l
  rw [dval_eq a h.d, Rat.num_intCast, Rat.den_intCast, nl_one] at h1
  omega
theorem scaled_eq {a : Rat} (h : Dyd a) (n : Int) : shf (dmn a) (dex a + n) = (a * (2 : Rat) ^ n).floor := by
  rw [shf_floor, zp_add, ← Rat.mul_assoc]
  have e := dval_q h
  unfold dval at e
  rw [e]
theorem ratM_sz {s : Bool} {n d m : Nat} (hn : nl n ≤ m) (hd : nl d ≤ m) (hm : 1 ≤ m) : nl (mg (ratM s n d).num) ≤ m ∧ nl (ratM s n d).den ≤ m := by
  unfold ratM
  have hp : (0 : Int) < ((if d = 0 then 1 else d : Nat) : Int) := by split <;> omega
  obtain ⟨_, _, _, h1, h2, h3, _⟩ := gcd_parts (n := ival s n) hp
  rw [h1, h3]
  refine ⟨Nat.le_trans (nl_mono (Int.natAbs_ediv_le_natAbs _ _)) (by rw [show (ival s n).natAbs = n from mg_ival s n]; exact hn), Nat.le_trans (nl_mono (Int.natAbs_ediv_le_natAbs _ _)) ?_⟩
  rw [Int.natAbs_natCast]
  split
  · rw [nl_one]; exact hm
  · exact hd
end Go.Proofs.YtacjfpibilolnaaGreatDoor

/- What an input gives a walk: whole numbers, rationals, dyadic numbers, pairs; the library's table as it was laid. -/
set_option linter.unusedVariables false
set_option linter.unusedSimpArgs false
namespace Go.Proofs.YtacjfpibilolnaaGreatDoor
open Go.RowKit Go.ChangeShapes Go.WideShapes Go.ChangeAt

theorem row_own : ownKnob Tryz.prog.godebug = none := by kernel_rfl
theorem row_out : laidOutB Tryz.prog = true := by kernel_rfl
theorem row_globD : Tryz.prog.globalNamed "math/bits.deBruijn32tab" = some 0 := by kernel_rfl
theorem row_globDT : (Tryz.prog.globals[0]?).map (·.type) = some 120 := by kernel_rfl
theorem row_cellsB : Tryz.prog.cellsOf 4 = 1 := by kernel_rfl
theorem row_cells8 : Tryz.prog.cellsOf 5 = 1 := by kernel_rfl
theorem row_cellsI : Tryz.prog.cellsOf 3 = 1 := by kernel_rfl
theorem row_cellsZ : Tryz.prog.cellsOf 24 = 2 := by kernel_rfl
theorem row_cells32 : Tryz.prog.cellsOf 58 = 1 := by kernel_rfl
theorem row_cellsS : Tryz.prog.cellsOf 22 = 1 := by kernel_rfl

section
variable {H : Type} {enc : TypeId × Value → H} {W : World} {base : Nat} {sp : Nat → Bool} {held : Bool}

/-- What the laws' walks ask of a slice of limbs. -/
def IsL (W : World) (A : Option Addr) (c : Nat) (l : List Nat) : Prop := Rd W A l ∧ Lim l ∧ l.length ≤ maxLen ∧ l.length ≤ c ∧ (A = none → c = 0)
theorem open_nat {fuel : Nat} {cs : List Value} {x : DataW H × List MemPlace} (h : DataW.trod enc Tryz.prog W base sp held fuel 22 cs = some x) :
    ∃ A c l, cs = [.slice A l.length c] ∧ IsL W A c l := by
  rcases open_ints Tryz.underlying22 Tryz.underlying58 row_cells32 h with ⟨rfl, _⟩ | ⟨a, len, cap, zs, rfl, _, hl, hm, hz, _, hcell, hwf⟩
  · exact ⟨none, 0, [], rfl, Rd.nil, Lim.nil, by decide, Nat.le_refl _, fun _ => rfl⟩
  · have hlz : len ≤ zs.length := by rw [hz]; split <;> omega
    have hlen : ((zs.take len).map Int.toNat).length = len := by rw [List.length_map, List.length_take]; omega
    refine ⟨some a, cap, (zs.take len).map Int.toNat, by rw [hlen], ?_, ?_, by rw [hlen]; omega, by rw [hlen]; exact hl, fun e => by cases e⟩
    · refine .inr ⟨a, rfl, fun i u hu => ?_⟩
      have hi : i < len := by
        have := (List.getElem?_eq_some_iff.1 hu).1
        rw [vals_length, hlen] at this; exact this
      have hi2 : i < zs.length := by omega
      rw [hcell i hi2]
      have h0 := bounds_u32 (hwf _ (List.getElem_mem hi2))
      simp only [vals, List.map_map, List.getElem?_map, List.getElem?_take_of_lt hi, List.getElem?_eq_getElem hi2, Option.map_some] at hu
      rw [← Option.some.inj hu]
      simp only [Function.comp, List.getD_eq_getElem?_getD, List.getElem?_eq_getElem hi2, Option.getD_some]
      rw [Int.toNat_of_nonneg h0.1]
    · intro y hy
      obtain ⟨z, hz2, rfl⟩ := List.mem_map.1 hy
      have := bounds_u32 (hwf _ (List.mem_of_mem_take hz2))
      omega

theorem open_mag {fuel : Nat} {cs : List Value} {x : DataW H × List MemPlace} (h : DataW.trod enc Tryz.prog W base sp held fuel 24 cs = some x) :
    ∃ b A c l, cs = [.bool b, .slice A l.length c] ∧ IsL W A c l := by
  obtain ⟨y0, y1, n, _, hl, h0, h1⟩ := trod_struct2 Tryz.underlying24 h
  rw [row_cellsZ] at hl
  match cs, hl with
  | [c0, c1], _ =>
    have e0 : DataW.trod enc Tryz.prog W base sp held n 4 (([c0, c1].drop 0).take (Tryz.prog.cellsOf 4)) = some y0 := h0
    have e1 : DataW.trod enc Tryz.prog W base sp held n 22 (([c0, c1].drop 1).take (Tryz.prog.cellsOf 22)) = some y1 := h1
    rw [row_cellsB] at e0
    rw [row_cellsS] at e1
    obtain ⟨b, kb, _⟩ := DataW.trod_bool Tryz.underlying4 (show DataW.trod enc Tryz.prog W base sp held n 4 [c0] = some y0 from e0)
    obtain ⟨A, c, l, k1, i1⟩ := open_nat (show DataW.trod enc Tryz.prog W base sp held n 22 [c1] = some y1 from e1)
    simp only [List.cons.injEq, and_true] at kb k1
    subst kb k1
    exact ⟨b, A, c, l, rfl, i1⟩
theorem okw_dyad {r : Reach} {b0 : Nat} {v : Value} (hv : Value.okWide Tryz.prog W r b0 28 v) : ∃ cs : Array Value, v = .agg cs ∧ cs.size = 3 := by
  simp only [Value.okWide, Tryz.underlying28] at hv
  obtain ⟨cs, rfl, hcs, _⟩ := hv
  exact ⟨cs, rfl, by rw [hcs]; kernel_rfl⟩
theorem open_dy {r : Reach} {b0 : Nat} {v : Value} {d : DataW H} {ps : List MemPlace} (hv : Value.okWide Tryz.prog W r b0 28 v) (h : DataW.Trod enc Tryz.prog W base sp held 28 v d ps) :
    ∃ b A c l x, v = .agg #[.bool b, .slice A l.length c, .int .i64 x] ∧ IsL W A c l := by
  obtain ⟨⟨cl⟩, rfl, hs⟩ := okw_dyad hv
  obtain ⟨fuel, hf⟩ := h
  obtain ⟨y0, y1, n, _, hl, h0, h1⟩ := trod_struct2 Tryz.underlying28 hf
  simp only [Value.cells] at h0 h1
  match cl, hs with
  | [c0, c1, c2], _ =>
    have e0 : DataW.trod enc Tryz.prog W base sp held n 24 (([c0, c1, c2].drop 0).take (Tryz.prog.cellsOf 24)) = some y0 := h0
    have e1 : DataW.trod enc Tryz.prog W base sp held n 3 (([c0, c1, c2].drop 2).take (Tryz.prog.cellsOf 3)) = some y1 := h1
    rw [row_cellsZ] at e0
    rw [row_cellsI] at e1
    obtain ⟨b, A, c, l, k0, i⟩ := open_mag (show DataW.trod enc Tryz.prog W base sp held n 24 [c0, c1] = some y0 from e0)
    obtain ⟨z, k1, _, _⟩ := DataW.trod_int Tryz.underlying3 (show DataW.trod enc Tryz.prog W base sp held n 3 [c2] = some y1 from e1)
    simp only [List.cons.injEq, and_true] at k0 k1
    obtain ⟨rfl, rfl⟩ := k0
    subst k1
    exact ⟨b, A, c, l, z, rfl, i⟩
theorem okw_rat {r : Reach} {b0 : Nat} {v : Value} (hv : Value.okWide Tryz.prog W r b0 26 v) : ∃ cs : Array Value, v = .agg cs ∧ cs.size = 3 := by
  simp only [Value.okWide, Tryz.underlying26] at hv
  obtain ⟨cs, rfl, hcs, _⟩ := hv
  exact ⟨cs, rfl, by rw [hcs]; kernel_rfl⟩
theorem open_ra {r : Reach} {b0 : Nat} {v : Value} {d : DataW H} {ps : List MemPlace} (hv : Value.okWide Tryz.prog W r b0 26 v) (h : DataW.Trod enc Tryz.prog W base sp held 26 v d ps) :
    ∃ b A c l B f k, v = .agg #[.bool b, .slice A l.length c, .slice B k.length f] ∧ IsL W A c l ∧ IsL W B f k := by
  obtain ⟨⟨cl⟩, rfl, hs⟩ := okw_rat hv
  obtain ⟨fuel, hf⟩ := h
  obtain ⟨y0, y1, n, _, hl, h0, h1⟩ := trod_struct2 Tryz.underlying26 hf
  simp only [Value.cells] at h0 h1
  match cl, hs with
  | [c0, c1, c2], _ =>
    have e0 : DataW.trod enc Tryz.prog W base sp held n 24 (([c0, c1, c2].drop 0).take (Tryz.prog.cellsOf 24)) = some y0 := h0
    have e1 : DataW.trod enc Tryz.prog W base sp held n 22 (([c0, c1, c2].drop 2).take (Tryz.prog.cellsOf 22)) = some y1 := h1
    rw [row_cellsZ] at e0
    rw [row_cellsS] at e1
    obtain ⟨b, A, c, l, k0, i⟩ := open_mag (show DataW.trod enc Tryz.prog W base sp held n 24 [c0, c1] = some y0 from e0)
    obtain ⟨B, f, k, k1, i1⟩ := open_nat (show DataW.trod enc Tryz.prog W base sp held n 22 [c2] = some y1 from e1)
    simp only [List.cons.injEq, and_true] at k0 k1
    obtain ⟨rfl, rfl⟩ := k0
    subst k1
    exact ⟨b, A, c, l, B, f, k, rfl, i, i1⟩
theorem okw_pi {r : Reach} {b0 : Nat} {v : Value} (hv : Value.okWide Tryz.prog W r b0 29 v) : ∃ cs : Array Value, v = .agg cs ∧ cs.size = 2 := by
  simp only [Value.okWide, Tryz.underlying29] at hv
  obtain ⟨cs, rfl, hcs, _⟩ := hv
  exact ⟨cs, rfl, by rw [hcs]; kernel_rfl⟩
theorem open_pi {r : Reach} {b0 : Nat} {v : Value} {d : DataW H} {ps : List MemPlace} (hv : Value.okWide Tryz.prog W r b0 29 v) (h : DataW.Trod enc Tryz.prog W base sp held 29 v d ps) :
    ∃ x y : Int, v = .agg #[.int .i64 (x : Int), .int .i64 (y : Int)] := by
  obtain ⟨⟨cl⟩, rfl, hs⟩ := okw_pi hv
  obtain ⟨fuel, hf⟩ := h
  obtain ⟨xs, n, _, _, hl, hx, he⟩ := DataW.trod_array Tryz.underlying29 hf
  simp only [Value.cells] at he
  match cl, hs with
  | [c0, c1], _ =>
    have e0 := he 0 (by decide)
    have e1 := he 1 (by decide)
    rw [row_cellsI] at e0 e1
    match xs, hx with
    | [x0, x1], _ =>
      obtain ⟨z0, k0, _, w0⟩ := DataW.trod_int Tryz.underlying3 (show DataW.trod enc Tryz.prog W base sp held n 3 [c0] = some x0 from e0)
      obtain ⟨z1, k1, _, w1⟩ := DataW.trod_int Tryz.underlying3 (show DataW.trod enc Tryz.prog W base sp held n 3 [c1] = some x1 from e1)
      simp only [List.cons.injEq, and_true] at k0 k1
      subst k0 k1
      exact ⟨z0, z1, rfl⟩
end

/-- The library's table, as it was laid, gives the cells that the walks read. -/
theorem tab_core {W : World} {g0 : Nat} {t0 : TypeId} {cs0 : List Value} {xs : List (DataW Unit × List MemPlace)} {n : Nat} (hxs : xs.length = 32) (hl : cs0.length = 32)
    (hx : xs.map Prod.fst = Lib.deBruijn32tab.map (fun k => (DataW.lit (.int .u8 (k : Nat)) : DataW Unit)))
    (he : ∀ i, i < 32 → DataW.trod (fun _ => ()) Tryz.prog W 0 (fun _ => true) false n 5 ((cs0.drop i).take 1) = xs[i]?)
    (cell : ∀ i, W.cell? ⟨g0, i, none⟩ = cs0[i]?) : TabAt g0 Lib.deBruijn32tab W := by
  intro j hj
  have hj32 : j < 32 := hj
  have e := he j hj32
  rw [List.getElem?_eq_getElem (by omega : j < xs.length)] at e
  obtain ⟨z, hz, hd, _⟩ := DataW.trod_int Tryz.underlying5 e
  have h1 : (xs.map Prod.fst)[j]? = (Lib.deBruijn32tab.map (fun k => (DataW.lit (.int .u8 (k : Nat)) : DataW Unit)))[j]? := by rw [hx]
  rw [List.getElem?_map, List.getElem?_map, List.getElem?_eq_getElem (by omega : j < xs.length), hd, List.getElem?_eq_getElem hj] at h1
  simp only [Option.map_some, Option.some.injEq, DataW.lit.injEq, Lit.int.injEq, true_and] at h1
  rw [cell j]
  have h2 := congrArg (fun l => l[0]?) hz
  simp only [List.getElem?_take_of_lt Nat.zero_lt_one, List.getElem?_drop, Nat.add_zero, List.getElem?_cons_zero] at h2
  rw [h2, h1, List.getD_eq_getElem?_getD, List.getElem?_eq_getElem hj]; rfl
theorem tab_of_laid {W : World} (h : laidMetH Tryz.prog [("math/bits.deBruijn32tab", Rows.laid_math_bits_deBruijn32tab)] W) : Tab W := by
  rw [MakeChecks.laidMetH_plain _ _ _ (by kernel_rfl)] at h
  obtain ⟨ps, ⟨g0, t0, cs0, f0, p0, q0, hg0, ht0, hv0, hd0, _, _⟩, _⟩ := h
  obtain rfl := Option.some.inj (row_globD.symm.trans hg0)
  obtain rfl := Option.some.inj (row_globDT.symm.trans ht0)
  obtain ⟨xs, n, _, hx, hl, hxs, he⟩ := DataW.trod_array Tryz.underlying120 hd0
  have h3 : Tryz.prog.cellsOf 120 = 32 := by kernel_rfl
  have cell := fun i => World.var?_cell hg0 hv0 i
  obtain ⟨cl⟩ := cs0
  simp only [row_cells8, Nat.mul_one] at he
  refine tab_core (t0 := 0) hxs (by rw [← h3]; exact hl) ?_ he (fun i => by simpa using cell i)
  simp only [Rows.laid_math_bits_deBruijn32tab, Prod.mk.injEq, DataW.agg.injEq] at hx
  exact hx.1.symm
theorem door_met (os : Os) (args : Array Value) : laidMetH Tryz.prog [("math/bits.deBruijn32tab", Rows.laid_math_bits_deBruijn32tab)] ((World.doorLaid Tryz.prog 400 os).forCall (fun _ _ => 0) ⟨#[], args, []⟩).memory :=
  laidMetH_of_parts3 (fuel := 8) (laidMet_of_run' 8 (by kernel_rfl) (by kernel_rfl)) (by kernel_rfl) (by kernel_rfl)
end Go.Proofs.YtacjfpibilolnaaGreatDoor
