/- For all inputs down is not above the rational and up not below it, less than a step apart from it, towards 0 and away from it are these by its sign, and the nearest is one of them, at most half a step away: DyadSides returns true and leaves its arguments as they were. Conditions: Each package-level variable that the row lists (math/bits.deBruijn32tab) holds at the call what the library's text lays; the tie is given and covers the pruned copy of the repository. -/
import Derived.Test.YtpaffggdeedopaaGreatDoorD04
import Derived.Deep.CutRange
import Derived.Test.YtpaffggdeedopaaGreatDoorCards
import Derived.Test.YtpaffggdeedopaaGreatDoorTie
import Derived.SevenTiedAt
set_option maxRecDepth 100000
set_option maxHeartbeats 4000000
/- Laws of dyadic numbers: DyadSides. -/
set_option linter.unusedVariables false
set_option linter.unusedSimpArgs false
namespace Go.Proofs.YtpaffggdeedopaaGreatDoor
open Go.RowKit Go.Shelf
attribute [local go_sem] max2_i min2_i max_two min_two

theorem BoxA.set {W : World} {k : Nat} {t : TypeId} {us : Array Value} (h : BoxA W k t us) (i : Nat) (v : Value) : BoxA (W.setCell ⟨k, i, none⟩ v) k t (us.setIfInBounds i v) := ⟨by have := heap_setCell_same W k i _ _ v h.at_; simpa using this⟩
theorem far3 {W : World} {k i j l : Nat} {v0 v1 v2 : Value} (b : Nat) (hb : b ≠ k) : (((W.setCell ⟨k, i, none⟩ v0).setCell ⟨k, j, none⟩ v1).setCell ⟨k, l, none⟩ v2).heap[b]? = W.heap[b]? := by
  rw [Below.heap_setCell _ _ _ _ (by simpa using hb), Below.heap_setCell _ _ _ _ (by simpa using hb), Below.heap_setCell _ _ _ _ (by simpa using hb)]
theorem BoxA.keepA {W : World} {k i j l : Nat} {t : TypeId} {us : Array Value} {v0 v1 v2 : Value} (h : BoxA W k t us) (hu : ∀ u ∈ us.toList, NotU u) {A : Option Addr} {c n : Nat} (hN : NatV W A c n) : NatV (((W.setCell ⟨k, i, none⟩ v0).setCell ⟨k, j, none⟩ v1).setCell ⟨k, l, none⟩ v2) A c n := h.keep hu (fun b hb => far3 b hb) hN
theorem BoxA.farA {W : World} {k b i j l : Nat} {t : TypeId} {us : Array Value} {v0 v1 v2 : Value} (h : BoxA W b t us) (hb : b ≠ k) : BoxA (((W.setCell ⟨k, i, none⟩ v0).setCell ⟨k, j, none⟩ v1).setCell ⟨k, l, none⟩ v2) b t us := ⟨(far3 b hb).trans h.at_⟩
theorem Below.setA {w W : World} {k i j l : Nat} {v0 v1 v2 : Value} (h : Below w.heap.size w W) (hk : w.heap.size ≤ k) : Below w.heap.size w (((W.setCell ⟨k, i, none⟩ v0).setCell ⟨k, j, none⟩ v1).setCell ⟨k, l, none⟩ v2) := ((h.setCell (p := ⟨k, i, none⟩) hk _).setCell (p := ⟨k, j, none⟩) hk _).setCell (p := ⟨k, l, none⟩) hk _
theorem rcmp_le {x y : Rat} (h : x ≤ y) : decide (rcmp x y ≤ 0) = true := by
  unfold rcmp
  by_cases k : x < y
  · rw [if_pos k]; rfl
  · rw [if_neg k, if_neg (Rat.not_lt.2 h)]; rfl
theorem rcmp_ge {x y : Rat} (h : y ≤ x) : decide (0 ≤ rcmp x y) = true := by
  unfold rcmp
  rw [if_neg (Rat.not_lt.2 h)]
  by_cases k : y < x
  · rw [if_pos k]; rfl
  · rw [if_neg k]; rfl
theorem rcmp_gt {x y : Rat} (h : y < x) : decide (0 < rcmp x y) = true := by
  unfold rcmp
  rw [if_neg (Rat.not_lt.2 (Rat.le_of_lt h)), if_pos h]; rfl
theorem rcmp_lt {x y : Rat} (h : x < y) : decide (rcmp x y < 0) = true := by
  unfold rcmp
  rw [if_pos h]; rfl
theorem add_szg {a b : Rat} {A B C D : Nat} (la : nl (mg a.num) ≤ A) (ma : nl a.den ≤ B) (lb : nl (mg b.num) ≤ C) (mb : nl b.den ≤ D) : nl (mg (a + b).num) ≤ A + B + C + D + 1 ∧ nl (a + b).den ≤ B + D := by
  have h0 : a.den * b.den ≠ 0 := Nat.mul_ne_zero a.den_nz b.den_nz
  rw [Rat.add_def', Rat.num_mkRat, Rat.den_mkRat, if_neg h0, if_neg h0]
  constructor
  · refine Nat.le_trans (nl_mono (Int.natAbs_ediv_le_natAbs _ _)) ?_
    have h1 : mg (a.num * (b.den : Int) + b.num * (a.den : Int)) ≤ mg a.num * b.den + mg b.num * a.den := by
      refine Nat.le_trans (Int.natAbs_add_le _ _) ?_
      rw [Int.natAbs_mul, Int.natAbs_mul]; exact Nat.le_refl _
    refine Nat.le_trans (nl_mono h1) ?_
    have h2 := nl_add (mg a.num * b.den) (mg b.num * a.den)
    have h3 := nl_mul (mg a.num) b.den
    have h4 := nl_mul (mg b.num) a.den
    omega
  · refine Nat.le_trans (nl_div _ _) ?_
    have := nl_mul a.den b.den; omega
theorem sub_szg {a b : Rat} {A B C D : Nat} (la : nl (mg a.num) ≤ A) (ma : nl a.den ≤ B) (lb : nl (mg b.num) ≤ C) (mb : nl b.den ≤ D) : nl (mg (a - b).num) ≤ A + B + C + D + 1 ∧ nl (a - b).den ≤ B + D := by
  rw [Rat.sub_eq_add_neg]
  exact add_szg la ma (by rw [Rat.neg_num, mg_neg]; exact lb) (by rw [Rat.neg_den]; exact mb)
theorem lista (vs : Array Value) : vs.toList.all (fun u => match u with | .int .u32 _ => false | _ => true) = true → ∀ u ∈ vs.toList, NotU u := by
  intro h u hu x e
  have := List.all_eq_true.1 h u hu
  rw [e] at this
  cases this
set_option maxHeartbeats 16000000 in
theorem dyadSides_c (sa : Bool) (b0 : Nat) (A : Option Addr) (c : Nat) (l : List Nat) (B : Option Addr) (d : Nat) (k : List Nat) (w : World) (hT : Tab w) (hl : Rd w A l) (Ll : Lim l) (Ql : l.length ≤ maxLen) (Cl : l.length ≤ c) (Zl : A = none → c = 0) (hk : Rd w B k) (Lk : Lim k) (Qk : k.length ≤ maxLen) (Ck : k.length ≤ d) (Zk : B = none → d = 0) (hb0 : b0 < 65536) :
    Calls Tryz.prog 3 #[.agg #[.bool sa, .slice A l.length c, .slice B k.length d], .int .u16 (b0 : Nat)] w fun e w' => e = .returned (.bool true) ∧ Below w.heap.size w w' := by
  replace Zl := Lib.hid Zl
  replace Zk := Lib.hid Zk
  have hT0 := hT
  have hl0 := hl
  have hk0 := hk
  obtain ⟨rn, Ern⟩ : ∃ y, y = b0 % 401 := ⟨_, rfl⟩
  have Irn : (b0 : Int) % 401 = (rn : Int) := by omega
  have Jrn : (b0 : Int).tmod 401 = (rn : Int) := by rw [Int.tmod_eq_emod_of_nonneg (by omega)]; exact Irn
  have Brn : rn < 401 := by omega
  replace Ern := Lib.hid Ern
  obtain ⟨n, En⟩ : ∃ q : Int, q = (rn : Int) - 200 := ⟨_, rfl⟩
  have In : (rn : Int) - 200 = n := En.symm
  have Bn : -200 ≤ n ∧ n ≤ 200 := by omega
  have Wn : IntKind.i64.wrap n = n := IntWalk.i64_in _ (by omega)
  have Wrn : IntKind.i64.wrap (rn : Int) = (rn : Int) := IntWalk.i64_in _ (by omega)
  replace En := Lib.hid En
  have Wb0 : IntKind.i64.wrap (b0 : Int) = (b0 : Int) := IntWalk.i64_in _ (by omega)
  obtain ⟨nn, Enn⟩ : ∃ q : Int, q = -n := ⟨_, rfl⟩
  have Inn : -n = nn := Enn.symm
  have Wnn : IntKind.i64.wrap nn = nn := IntWalk.i64_in _ (by omega)
  have bnn : -200 ≤ nn ∧ nn ≤ 200 := by omega
  replace Enn := Lib.hid Enn
  obtain ⟨v, Ev⟩ : ∃ z : Rat, z = ratM sa (val (l.take 8)) (val (k.take 8)) := ⟨_, rfl⟩
  have Nv : nl (mg v.num) ≤ 8 ∧ nl v.den ≤ 8 := by rw [Ev]; exact ratM_sz (made_nl l Ll 8) (made_nl k Lk 8) (by decide)
  have C1 := fun (W : World) (h1 : Rd W A l) (h2 : Rd W B k) => r9madeI_c sa A c l B d k 8 8 W h1 Ll Ql Cl Zl.out h2 Lk Qk Ck Zk.out (by decide) rfl
  rw [← Ev] at C1
  replace Ev := Lib.hid Ev
  replace C1 := Lib.hid C1
  have szn := mul_sz v ((2 : Rat) ^ n)
  have spn := pow_szb n (E := 200) (by omega)
  obtain ⟨hb1, Ra⟩ := bx1 w #[.bool sa, .slice A l.length c, .slice B k.length d] 26
  replace hT := hT.below hb1
  replace hl := hl.below hb1
  replace hk := hk.below hb1
  have HBT := hb1
  clear hb1
  have qa0 := Ra.c (i := 0) rfl
  have qa1 := Ra.c (i := 1) rfl
  have qa2 := Ra.c (i := 2) rfl
  go_enter Tryz.func3, Tryz.ntmps3
  go_wp2_with (fail)
  refine (Calls.mono (dhead_c _ hT) ?_)
  rintro e W2 ⟨rfl, hb2⟩
  replace hT := hT.below hb2
  replace hl := hl.below hb2
  replace hk := hk.below hb2
  replace Ra := Ra.below hb2
  replace qa0 := cbl hb2 qa0
  replace qa1 := cbl hb2 qa1
  replace qa2 := cbl hb2 qa2
  replace HBT := Below.cons HBT hb2
  clear hb2
  go_wp2_with (fail)
  obtain ⟨v2, Ev2⟩ : ∃ zq : Rat, zq = v := ⟨_, rfl⟩
  refine (Calls.mono (R := RetR W2 v2) (by rw [Ev2]; with_reducible exact (C1.out _ hl hk)) ?_)
  replace Ev2 := Lib.hid Ev2
  rintro e W3 ⟨Xv2, cv2, Yv2, dv2, rfl, hv2, gv2, hb3⟩
  replace hT := hT.below hb3
  replace hl := hl.below hb3
  replace hk := hk.below hb3
  replace Ra := Ra.below hb3
  replace qa0 := cbl hb3 qa0
  replace qa1 := cbl hb3 qa1
  replace qa2 := cbl hb3 qa2
  replace HBT := Below.cons HBT hb3
  clear hb3
  have hv2 : v2 = v := Ev2.out
  subst hv2
  clear Ra
  clear qa0
  clear qa1
  clear qa2
  have hsz := HBT.size
  obtain ⟨hb4, Rv⟩ := bx1 W3 #[.bool (sg v2.num), .slice Xv2 (nl (mg v2.num)) cv2, .slice Yv2 (nl v2.den) dv2] 26
  replace hT := hT.below hb4
  replace hv2 := hv2.below hb4
  replace gv2 := gv2.below hb4
  replace HBT := Below.cons HBT hb4
  clear hb4
  have qv0 := Rv.c (i := 0) rfl
  have qv1 := Rv.c (i := 1) rfl
  have qv2 := Rv.c (i := 2) rfl
  have hb5 : Below ((W3.alloc (.cells #[.bool (sg v2.num), .slice Xv2 (nl (mg v2.num)) cv2, .slice Yv2 (nl v2.den) dv2] 26))).heap.size ((W3.alloc (.cells #[.bool (sg v2.num), .slice Xv2 (nl (mg v2.num)) cv2, .slice Yv2 (nl v2.den) dv2] 26))) ((W3.alloc (.cells #[.bool (sg v2.num), .slice Xv2 (nl (mg v2.num)) cv2, .slice Yv2 (nl v2.den) dv2] 26)).alloc (.cells #[.bool false, .slice none 0 0, .int .i64 0, .bool false, .slice none 0 0, .int .i64 0, .bool false, .slice none 0 0, .int .i64 0, .bool false, .slice none 0 0, .int .i64 0, .bool false, .slice none 0 0, .int .i64 0] 32)) := (Below.alloc (Below.refl _ _) (Nat.le_refl _) _)
  replace hT := hT.below hb5
  replace hv2 := hv2.below hb5
  replace gv2 := gv2.below hb5
  replace Rv := Rv.below hb5
  replace qv0 := cbl hb5 qv0
  replace qv1 := cbl hb5 qv1
  replace qv2 := cbl hb5 qv2
  replace HBT := Below.cons HBT hb5
  clear hb5
  have Rl : BoxA ((W3.alloc (.cells #[.bool (sg v2.num), .slice Xv2 (nl (mg v2.num)) cv2, .slice Yv2 (nl v2.den) dv2] 26)).alloc (.cells #[.bool false, .slice none 0 0, .int .i64 0, .bool false, .slice none 0 0, .int .i64 0, .bool false, .slice none 0 0, .int .i64 0, .bool false, .slice none 0 0, .int .i64 0, .bool false, .slice none 0 0, .int .i64 0] 32)) (W3.heap.size + 1) 32 #[.bool false, .slice none 0 0, .int .i64 0, .bool false, .slice none 0 0, .int .i64 0, .bool false, .slice none 0 0, .int .i64 0, .bool false, .slice none 0 0, .int .i64 0, .bool false, .slice none 0 0, .int .i64 0] := ⟨by repeat (first | exact at_new (by first | (simp; done) | (simp; omega)) | refine at_old (by first | (simp; done) | (simp; omega)) ?_)⟩
  have hkl : w.heap.size ≤ (W3.heap.size + 1) := by omega
  replace hkl := Lib.hid hkl
  clear hsz
  have lv : W3.heap.size ≠ (W3.heap.size + 1) := by omega
  replace lv := Lib.hid lv
  go_wp2_with (fail)
  refine wp_loop_rounds 6 ?_
  rw [rounds_succ]
  go_wp2_with (fail)
  obtain ⟨x0, Ex0⟩ : ∃ zq : Rat, zq = dval (rnd 0 (v2 * (2 : Rat) ^ n)) nn := ⟨_, rfl⟩
  have Ox0 : DB x0 15 680 := by rw [Ex0, show nn = -n from Enn.out]; exact db_rnd (l := 15) (by omega) (by omega)
  have Gx0 : dmn x0 ≠ 0 → nn ≤ dex x0 := by rw [Ex0]; exact dval_exp
  replace Gx0 := Lib.hid Gx0
  have CT : Calls Tryz.prog 15 #[.agg #[.bool (sg v2.num), .slice Xv2 (nl (mg v2.num)) cv2, .slice Yv2 (nl v2.den) dv2], .int .i64 n, .int .i64 0] ((W3.alloc (.cells #[.bool (sg v2.num), .slice Xv2 (nl (mg v2.num)) cv2, .slice Yv2 (nl v2.den) dv2] 26)).alloc (.cells #[.bool false, .slice none 0 0, .int .i64 0, .bool false, .slice none 0 0, .int .i64 0, .bool false, .slice none 0 0, .int .i64 0, .bool false, .slice none 0 0, .int .i64 0, .bool false, .slice none 0 0, .int .i64 0] 32)) (RetDe ((W3.alloc (.cells #[.bool (sg v2.num), .slice Xv2 (nl (mg v2.num)) cv2, .slice Yv2 (nl v2.den) dv2] 26)).alloc (.cells #[.bool false, .slice none 0 0, .int .i64 0, .bool false, .slice none 0 0, .int .i64 0, .bool false, .slice none 0 0, .int .i64 0, .bool false, .slice none 0 0, .int .i64 0, .bool false, .slice none 0 0, .int .i64 0] 32)) x0 0) := by rw [Ex0]; rw [show nn = -n from Enn.out]; exact cut_in Xv2 cv2 Yv2 dv2 v2 n 0 _ hv2 gv2 hT (by omega) (by omega) (by decide) (by decide) (by omega)
  replace Ex0 := Lib.hid Ex0
  refine (Calls.mono CT ?_)
  clear CT
  rintro e W6 ⟨Xx0, cx0, rfl, hx0, hb6⟩
  replace hT := hT.below hb6
  replace hv2 := hv2.below hb6
  replace gv2 := gv2.below hb6
  replace Rv := Rv.below hb6
  replace qv0 := cbl hb6 qv0
  replace qv1 := cbl hb6 qv1
  replace qv2 := cbl hb6 qv2
  replace Rl := Rl.below hb6
  replace HBT := Below.cons HBT hb6
  clear hb6
  obtain ⟨hb7, Rx0⟩ := bx1 W6 #[.bool (sg (dmn x0)), .slice Xx0 (nl (mg (dmn x0))) cx0, .int .i64 (dex x0)] 31
  replace hT := hT.below hb7
  replace hv2 := hv2.below hb7
  replace gv2 := gv2.below hb7
  replace Rv := Rv.below hb7
  replace qv0 := cbl hb7 qv0
  replace qv1 := cbl hb7 qv1
  replace qv2 := cbl hb7 qv2
  replace Rl := Rl.below hb7
  replace hx0 := hx0.below hb7
  replace HBT := Below.cons HBT hb7
  clear hb7
  have qx00 := Rx0.c (i := 0) rfl
  have qx01 := Rx0.c (i := 1) rfl
  have qx02 := Rx0.c (i := 2) rfl
  go_upto_region 8 with (fail)
  go_cut [58] from 27 to 61 (fun s58 wx => s58 = .bool false ∧ Below ((W6.alloc (.cells #[.bool (sg (dmn x0)), .slice Xx0 (nl (mg (dmn x0))) cx0, .int .i64 (dex x0)] 31))).heap.size (W6.alloc (.cells #[.bool (sg (dmn x0)), .slice Xx0 (nl (mg (dmn x0))) cx0, .int .i64 (dex x0)] 31)) wx)
  case first =>
    have HC0 := Below.refl (W6.alloc (.cells #[.bool (sg (dmn x0)), .slice Xx0 (nl (mg (dmn x0))) cx0, .int .i64 (dex x0)] 31)).heap.size (W6.alloc (.cells #[.bool (sg (dmn x0)), .slice Xx0 (nl (mg (dmn x0))) cx0, .int .i64 (dex x0)] 31))
    go_wp2_with (fail)
    refine (Calls.mono (trightT_c Xx0 cx0 x0 _ hx0 (Nat.le_trans Ox0.l (by decide)) (by have := Ox0.e; omega)) ?_)
    rintro e W9 ⟨rfl, hb9⟩
    replace HC0 := Below.cons HC0 hb9
    replace qx00 := cbl hb9 qx00
    replace qx01 := cbl hb9 qx01
    replace qx02 := cbl hb9 qx02
    clear hb9
    by_cases z0 : dmn x0 = 0
    · have t1 : decide (0 < (nl (mg (dmn x0)) : Int)) = false := by rw [z0, mg0, nl_zero]; rfl
      have t2 : decide (0 < nl (mg (dmn x0))) = false := by rw [z0, mg0, nl_zero]; rfl
      replace z0 := Lib.hid z0
      go_wp2_with (fail)
      go_meet
      exact ⟨rfl, HC0⟩
    · have t1 : decide (0 < (nl (mg (dmn x0)) : Int)) = true := by have := nl_pos.2 (fun e => z0 (mg_zero.1 e)); simp; omega
      have t2 : decide (0 < nl (mg (dmn x0))) = true := by have := nl_pos.2 (fun e => z0 (mg_zero.1 e)); simp; omega
      have t3 : decide (dex x0 < nn) = false := by have := Gx0.out z0; simp; omega
      replace z0 := Lib.hid z0
      go_wp2_with (fail)
      go_meet
      exact ⟨rfl, HC0⟩
  case rest =>
    obtain ⟨rfl, hbc⟩ := hcut
    replace hT := hT.below hbc
    replace hv2 := hv2.below hbc
    replace gv2 := gv2.below hbc
    replace Rv := Rv.below hbc
    replace qv0 := cbl hbc qv0
    replace qv1 := cbl hbc qv1
    replace qv2 := cbl hbc qv2
    replace Rl := Rl.below hbc
    replace hx0 := hx0.below hbc
    replace Rx0 := Rx0.below hbc
    replace qx00 := cbl hbc qx00
    replace qx01 := cbl hbc qx01
    replace qx02 := cbl hbc qx02
    replace HBT := Below.cons HBT hbc
    clear hbc Gx0
    have fl0 := Rl.f (i := 0)
    have ql0 := Rl.c (i := 0) rfl
    have fl1 := Rl.f (i := 1)
    have ql1 := Rl.c (i := 1) rfl
    have fl2 := Rl.f (i := 2)
    have ql2 := Rl.c (i := 2) rfl
    go_wp2_with (fail)
    have nu : ∀ u ∈ (#[.bool false, .slice none 0 0, .int .i64 0, .bool false, .slice none 0 0, .int .i64 0, .bool false, .slice none 0 0, .int .i64 0, .bool false, .slice none 0 0, .int .i64 0, .bool false, .slice none 0 0, .int .i64 0] : Array Value).toList, NotU u := lista _ rfl
    clear Rx0
    clear qx00
    clear qx01
    clear qx02
    have hv2' := Rl.keepA (i := 0) (j := 1) (l := 2) (v0 := .bool (sg (dmn x0))) (v1 := .slice Xx0 (nl (mg (dmn x0))) cx0) (v2 := .int .i64 (dex x0)) nu hv2
    have gv2' := Rl.keepA (i := 0) (j := 1) (l := 2) (v0 := .bool (sg (dmn x0))) (v1 := .slice Xx0 (nl (mg (dmn x0))) cx0) (v2 := .int .i64 (dex x0)) nu gv2
    have hx0' := Rl.keepA (i := 0) (j := 1) (l := 2) (v0 := .bool (sg (dmn x0))) (v1 := .slice Xx0 (nl (mg (dmn x0))) cx0) (v2 := .int .i64 (dex x0)) nu hx0
    have Rv' : BoxA ((((wc).setCell ⟨(W3.heap.size + 1), 0, none⟩ (.bool (sg (dmn x0)))).setCell ⟨(W3.heap.size + 1), 1, none⟩ (.slice Xx0 (nl (mg (dmn x0))) cx0)).setCell ⟨(W3.heap.size + 1), 2, none⟩ (.int .i64 (dex x0))) _ _ _ := Rv.farA lv.out
    have HBT' := Below.setA (k := (W3.heap.size + 1)) (i := 0) (j := 1) (l := 2) (v0 := .bool (sg (dmn x0))) (v1 := .slice Xx0 (nl (mg (dmn x0))) cx0) (v2 := .int .i64 (dex x0)) HBT hkl.out
    have hT' := hT0.below HBT'
    have Rl' : BoxA ((((wc).setCell ⟨(W3.heap.size + 1), 0, none⟩ (.bool (sg (dmn x0)))).setCell ⟨(W3.heap.size + 1), 1, none⟩ (.slice Xx0 (nl (mg (dmn x0))) cx0)).setCell ⟨(W3.heap.size + 1), 2, none⟩ (.int .i64 (dex x0))) (W3.heap.size + 1) 32 #[.bool (sg (dmn x0)), .slice Xx0 (nl (mg (dmn x0))) cx0, .int .i64 (dex x0), .bool false, .slice none 0 0, .int .i64 0, .bool false, .slice none 0 0, .int .i64 0, .bool false, .slice none 0 0, .int .i64 0, .bool false, .slice none 0 0, .int .i64 0] := by have := ((Rl.set 0 (.bool (sg (dmn x0)))).set 1 (.slice Xx0 (nl (mg (dmn x0))) cx0)).set 2 (.int .i64 (dex x0)); simpa using this
    clear hv2 gv2 hx0 Rv HBT hT Rl nu fl0 fl1 fl2 ql0 ql1 ql2 qv0 qv1 qv2
    have hv2 := hv2'
    clear hv2'
    have gv2 := gv2'
    clear gv2'
    have hx0 := hx0'
    clear hx0'
    have Rv := Rv'
    clear Rv'
    have HBT := HBT'
    clear HBT'
    have hT := hT'
    clear hT'
    have Rl := Rl'
    clear Rl'
    have qv0 := Rv.c (i := 0) rfl
    have qv1 := Rv.c (i := 1) rfl
    have qv2 := Rv.c (i := 2) rfl
    generalize hWn : ((((wc).setCell ⟨(W3.heap.size + 1), 0, none⟩ (.bool (sg (dmn x0)))).setCell ⟨(W3.heap.size + 1), 1, none⟩ (.slice Xx0 (nl (mg (dmn x0))) cx0)).setCell ⟨(W3.heap.size + 1), 2, none⟩ (.int .i64 (dex x0))) = V0 at *
    clear hWn
    rw [rounds_succ]
    go_wp2_with (fail)
    obtain ⟨x1, Ex1⟩ : ∃ zq : Rat, zq = dval (rnd 1 (v2 * (2 : Rat) ^ n)) nn := ⟨_, rfl⟩
    have Ox1 : DB x1 15 680 := by rw [Ex1, show nn = -n from Enn.out]; exact db_rnd (l := 15) (by omega) (by omega)
    have Gx1 : dmn x1 ≠ 0 → nn ≤ dex x1 := by rw [Ex1]; exact dval_exp
    replace Gx1 := Lib.hid Gx1
    have CT : Calls Tryz.prog 15 #[.agg #[.bool (sg v2.num), .slice Xv2 (nl (mg v2.num)) cv2, .slice Yv2 (nl v2.den) dv2], .int .i64 n, .int .i64 1] V0 (RetDe V0 x1 0) := by rw [Ex1]; rw [show nn = -n from Enn.out]; exact cut_in Xv2 cv2 Yv2 dv2 v2 n 1 _ hv2 gv2 hT (by omega) (by omega) (by decide) (by decide) (by omega)
    replace Ex1 := Lib.hid Ex1
    refine (Calls.mono CT ?_)
    clear CT
    rintro e W8 ⟨Xx1, cx1, rfl, hx1, hb8⟩
    replace hT := hT.below hb8
    replace hv2 := hv2.below hb8
    replace gv2 := gv2.below hb8
    replace Rv := Rv.below hb8
    replace qv0 := cbl hb8 qv0
    replace qv1 := cbl hb8 qv1
    replace qv2 := cbl hb8 qv2
    replace Rl := Rl.below hb8
    replace hx0 := hx0.below hb8
    replace HBT := Below.cons HBT hb8
    clear hb8
    obtain ⟨hb9, Rx1⟩ := bx1 W8 #[.bool (sg (dmn x1)), .slice Xx1 (nl (mg (dmn x1))) cx1, .int .i64 (dex x1)] 31
    replace hT := hT.below hb9
    replace hv2 := hv2.below hb9
    replace gv2 := gv2.below hb9
    replace Rv := Rv.below hb9
    replace qv0 := cbl hb9 qv0
    replace qv1 := cbl hb9 qv1
    replace qv2 := cbl hb9 qv2
    replace Rl := Rl.below hb9
    replace hx0 := hx0.below hb9
    replace hx1 := hx1.below hb9
    replace HBT := Below.cons HBT hb9
    clear hb9
    have qx10 := Rx1.c (i := 0) rfl
    have qx11 := Rx1.c (i := 1) rfl
    have qx12 := Rx1.c (i := 2) rfl
    go_upto_region 8 with (fail)
    go_cut [58] from 27 to 61 (fun s58 wx => s58 = .bool false ∧ Below ((W8.alloc (.cells #[.bool (sg (dmn x1)), .slice Xx1 (nl (mg (dmn x1))) cx1, .int .i64 (dex x1)] 31))).heap.size (W8.alloc (.cells #[.bool (sg (dmn x1)), .slice Xx1 (nl (mg (dmn x1))) cx1, .int .i64 (dex x1)] 31)) wx)
    case first =>
      have HC0 := Below.refl (W8.alloc (.cells #[.bool (sg (dmn x1)), .slice Xx1 (nl (mg (dmn x1))) cx1, .int .i64 (dex x1)] 31)).heap.size (W8.alloc (.cells #[.bool (sg (dmn x1)), .slice Xx1 (nl (mg (dmn x1))) cx1, .int .i64 (dex x1)] 31))
      go_wp2_with (fail)
      refine (Calls.mono (trightT_c Xx1 cx1 x1 _ hx1 (Nat.le_trans Ox1.l (by decide)) (by have := Ox1.e; omega)) ?_)
      rintro e W9 ⟨rfl, hb9⟩
      replace HC0 := Below.cons HC0 hb9
      replace qx10 := cbl hb9 qx10
      replace qx11 := cbl hb9 qx11
      replace qx12 := cbl hb9 qx12
      clear hb9
      by_cases z0 : dmn x1 = 0
      · have t1 : decide (0 < (nl (mg (dmn x1)) : Int)) = false := by rw [z0, mg0, nl_zero]; rfl
        have t2 : decide (0 < nl (mg (dmn x1))) = false := by rw [z0, mg0, nl_zero]; rfl
        replace z0 := Lib.hid z0
        go_wp2_with (fail)
        go_meet
        exact ⟨rfl, HC0⟩
      · have t1 : decide (0 < (nl (mg (dmn x1)) : Int)) = true := by have := nl_pos.2 (fun e => z0 (mg_zero.1 e)); simp; omega
        have t2 : decide (0 < nl (mg (dmn x1))) = true := by have := nl_pos.2 (fun e => z0 (mg_zero.1 e)); simp; omega
        have t3 : decide (dex x1 < nn) = false := by have := Gx1.out z0; simp; omega
        replace z0 := Lib.hid z0
        go_wp2_with (fail)
        go_meet
        exact ⟨rfl, HC0⟩
    case rest =>
      obtain ⟨rfl, hbc⟩ := hcut
      replace hT := hT.below hbc
      replace hv2 := hv2.below hbc
      replace gv2 := gv2.below hbc
      replace Rv := Rv.below hbc
      replace qv0 := cbl hbc qv0
      replace qv1 := cbl hbc qv1
      replace qv2 := cbl hbc qv2
      replace Rl := Rl.below hbc
      replace hx0 := hx0.below hbc
      replace hx1 := hx1.below hbc
      replace Rx1 := Rx1.below hbc
      replace qx10 := cbl hbc qx10
      replace qx11 := cbl hbc qx11
      replace qx12 := cbl hbc qx12
      replace HBT := Below.cons HBT hbc
      clear hbc Gx1
      have fl0 := Rl.f (i := 3)
      have ql0 := Rl.c (i := 3) rfl
      have fl1 := Rl.f (i := 4)
      have ql1 := Rl.c (i := 4) rfl
      have fl2 := Rl.f (i := 5)
      have ql2 := Rl.c (i := 5) rfl
      go_wp2_with (fail)
      have nu : ∀ u ∈ (#[.bool (sg (dmn x0)), .slice Xx0 (nl (mg (dmn x0))) cx0, .int .i64 (dex x0), .bool false, .slice none 0 0, .int .i64 0, .bool false, .slice none 0 0, .int .i64 0, .bool false, .slice none 0 0, .int .i64 0, .bool false, .slice none 0 0, .int .i64 0] : Array Value).toList, NotU u := lista _ rfl
      clear Rx1
      clear qx10
      clear qx11
      clear qx12
      have hv2' := Rl.keepA (i := 3) (j := 4) (l := 5) (v0 := .bool (sg (dmn x1))) (v1 := .slice Xx1 (nl (mg (dmn x1))) cx1) (v2 := .int .i64 (dex x1)) nu hv2
      have gv2' := Rl.keepA (i := 3) (j := 4) (l := 5) (v0 := .bool (sg (dmn x1))) (v1 := .slice Xx1 (nl (mg (dmn x1))) cx1) (v2 := .int .i64 (dex x1)) nu gv2
      have hx0' := Rl.keepA (i := 3) (j := 4) (l := 5) (v0 := .bool (sg (dmn x1))) (v1 := .slice Xx1 (nl (mg (dmn x1))) cx1) (v2 := .int .i64 (dex x1)) nu hx0
      have hx1' := Rl.keepA (i := 3) (j := 4) (l := 5) (v0 := .bool (sg (dmn x1))) (v1 := .slice Xx1 (nl (mg (dmn x1))) cx1) (v2 := .int .i64 (dex x1)) nu hx1
      have Rv' : BoxA ((((wc).setCell ⟨(W3.heap.size + 1), 3, none⟩ (.bool (sg (dmn x1)))).setCell ⟨(W3.heap.size + 1), 4, none⟩ (.slice Xx1 (nl (mg (dmn x1))) cx1)).setCell ⟨(W3.heap.size + 1), 5, none⟩ (.int .i64 (dex x1))) _ _ _ := Rv.farA lv.out
      have HBT' := Below.setA (k := (W3.heap.size + 1)) (i := 3) (j := 4) (l := 5) (v0 := .bool (sg (dmn x1))) (v1 := .slice Xx1 (nl (mg (dmn x1))) cx1) (v2 := .int .i64 (dex x1)) HBT hkl.out
      have hT' := hT0.below HBT'
      have Rl' : BoxA ((((wc).setCell ⟨(W3.heap.size + 1), 3, none⟩ (.bool (sg (dmn x1)))).setCell ⟨(W3.heap.size + 1), 4, none⟩ (.slice Xx1 (nl (mg (dmn x1))) cx1)).setCell ⟨(W3.heap.size + 1), 5, none⟩ (.int .i64 (dex x1))) (W3.heap.size + 1) 32 #[.bool (sg (dmn x0)), .slice Xx0 (nl (mg (dmn x0))) cx0, .int .i64 (dex x0), .bool (sg (dmn x1)), .slice Xx1 (nl (mg (dmn x1))) cx1, .int .i64 (dex x1), .bool false, .slice none 0 0, .int .i64 0, .bool false, .slice none 0 0, .int .i64 0, .bool false, .slice none 0 0, .int .i64 0] := by have := ((Rl.set 3 (.bool (sg (dmn x1)))).set 4 (.slice Xx1 (nl (mg (dmn x1))) cx1)).set 5 (.int .i64 (dex x1)); simpa using this
      clear hv2 gv2 hx0 hx1 Rv HBT hT Rl nu fl0 fl1 fl2 ql0 ql1 ql2 qv0 qv1 qv2
      have hv2 := hv2'
      clear hv2'
      have gv2 := gv2'
      clear gv2'
      have hx0 := hx0'
      clear hx0'
      have hx1 := hx1'
      clear hx1'
      have Rv := Rv'
      clear Rv'
      have HBT := HBT'
      clear HBT'
      have hT := hT'
      clear hT'
      have Rl := Rl'
      clear Rl'
      have qv0 := Rv.c (i := 0) rfl
      have qv1 := Rv.c (i := 1) rfl
      have qv2 := Rv.c (i := 2) rfl
      generalize hWn : ((((wc).setCell ⟨(W3.heap.size + 1), 3, none⟩ (.bool (sg (dmn x1)))).setCell ⟨(W3.heap.size + 1), 4, none⟩ (.slice Xx1 (nl (mg (dmn x1))) cx1)).setCell ⟨(W3.heap.size + 1), 5, none⟩ (.int .i64 (dex x1))) = V1 at *
      clear hWn
      rw [rounds_succ]
      go_wp2_with (fail)
      obtain ⟨x2, Ex2⟩ : ∃ zq : Rat, zq = dval (rnd 2 (v2 * (2 : Rat) ^ n)) nn := ⟨_, rfl⟩
      have Ox2 : DB x2 15 680 := by rw [Ex2, show nn = -n from Enn.out]; exact db_rnd (l := 15) (by omega) (by omega)
      have Gx2 : dmn x2 ≠ 0 → nn ≤ dex x2 := by rw [Ex2]; exact dval_exp
      replace Gx2 := Lib.hid Gx2
      have CT : Calls Tryz.prog 15 #[.agg #[.bool (sg v2.num), .slice Xv2 (nl (mg v2.num)) cv2, .slice Yv2 (nl v2.den) dv2], .int .i64 n, .int .i64 2] V1 (RetDe V1 x2 0) := by rw [Ex2]; rw [show nn = -n from Enn.out]; exact cut_in Xv2 cv2 Yv2 dv2 v2 n 2 _ hv2 gv2 hT (by omega) (by omega) (by decide) (by decide) (by omega)
      replace Ex2 := Lib.hid Ex2
      refine (Calls.mono CT ?_)
      clear CT
      rintro e W10 ⟨Xx2, cx2, rfl, hx2, hb10⟩
      replace hT := hT.below hb10
      replace hv2 := hv2.below hb10
      replace gv2 := gv2.below hb10
      replace Rv := Rv.below hb10
      replace qv0 := cbl hb10 qv0
      replace qv1 := cbl hb10 qv1
      replace qv2 := cbl hb10 qv2
      replace Rl := Rl.below hb10
      replace hx0 := hx0.below hb10
      replace hx1 := hx1.below hb10
      replace HBT := Below.cons HBT hb10
      clear hb10
      obtain ⟨hb11, Rx2⟩ := bx1 W10 #[.bool (sg (dmn x2)), .slice Xx2 (nl (mg (dmn x2))) cx2, .int .i64 (dex x2)] 31
      replace hT := hT.below hb11
      replace hv2 := hv2.below hb11
      replace gv2 := gv2.below hb11
      replace Rv := Rv.below hb11
      replace qv0 := cbl hb11 qv0
      replace qv1 := cbl hb11 qv1
      replace qv2 := cbl hb11 qv2
      replace Rl := Rl.below hb11
      replace hx0 := hx0.below hb11
      replace hx1 := hx1.below hb11
      replace hx2 := hx2.below hb11
      replace HBT := Below.cons HBT hb11
      clear hb11
      have qx20 := Rx2.c (i := 0) rfl
      have qx21 := Rx2.c (i := 1) rfl
      have qx22 := Rx2.c (i := 2) rfl
      go_upto_region 8 with (fail)
      go_cut [58] from 27 to 61 (fun s58 wx => s58 = .bool false ∧ Below ((W10.alloc (.cells #[.bool (sg (dmn x2)), .slice Xx2 (nl (mg (dmn x2))) cx2, .int .i64 (dex x2)] 31))).heap.size (W10.alloc (.cells #[.bool (sg (dmn x2)), .slice Xx2 (nl (mg (dmn x2))) cx2, .int .i64 (dex x2)] 31)) wx)
      case first =>
        have HC0 := Below.refl (W10.alloc (.cells #[.bool (sg (dmn x2)), .slice Xx2 (nl (mg (dmn x2))) cx2, .int .i64 (dex x2)] 31)).heap.size (W10.alloc (.cells #[.bool (sg (dmn x2)), .slice Xx2 (nl (mg (dmn x2))) cx2, .int .i64 (dex x2)] 31))
        go_wp2_with (fail)
        refine (Calls.mono (trightT_c Xx2 cx2 x2 _ hx2 (Nat.le_trans Ox2.l (by decide)) (by have := Ox2.e; omega)) ?_)
        rintro e W9 ⟨rfl, hb9⟩
        replace HC0 := Below.cons HC0 hb9
        replace qx20 := cbl hb9 qx20
        replace qx21 := cbl hb9 qx21
        replace qx22 := cbl hb9 qx22
        clear hb9
        by_cases z0 : dmn x2 = 0
        · have t1 : decide (0 < (nl (mg (dmn x2)) : Int)) = false := by rw [z0, mg0, nl_zero]; rfl
          have t2 : decide (0 < nl (mg (dmn x2))) = false := by rw [z0, mg0, nl_zero]; rfl
          replace z0 := Lib.hid z0
          go_wp2_with (fail)
          go_meet
          exact ⟨rfl, HC0⟩
        · have t1 : decide (0 < (nl (mg (dmn x2)) : Int)) = true := by have := nl_pos.2 (fun e => z0 (mg_zero.1 e)); simp; omega
          have t2 : decide (0 < nl (mg (dmn x2))) = true := by have := nl_pos.2 (fun e => z0 (mg_zero.1 e)); simp; omega
          have t3 : decide (dex x2 < nn) = false := by have := Gx2.out z0; simp; omega
          replace z0 := Lib.hid z0
          go_wp2_with (fail)
          go_meet
          exact ⟨rfl, HC0⟩
      case rest =>
        obtain ⟨rfl, hbc⟩ := hcut
        replace hT := hT.below hbc
        replace hv2 := hv2.below hbc
        replace gv2 := gv2.below hbc
        replace Rv := Rv.below hbc
        replace qv0 := cbl hbc qv0
        replace qv1 := cbl hbc qv1
        replace qv2 := cbl hbc qv2
        replace Rl := Rl.below hbc
        replace hx0 := hx0.below hbc
        replace hx1 := hx1.below hbc
        replace hx2 := hx2.below hbc
        replace Rx2 := Rx2.below hbc
        replace qx20 := cbl hbc qx20
        replace qx21 := cbl hbc qx21
        replace qx22 := cbl hbc qx22
        replace HBT := Below.cons HBT hbc
        clear hbc Gx2
        have fl0 := Rl.f (i := 6)
        have ql0 := Rl.c (i := 6) rfl
        have fl1 := Rl.f (i := 7)
        have ql1 := Rl.c (i := 7) rfl
        have fl2 := Rl.f (i := 8)
        have ql2 := Rl.c (i := 8) rfl
        go_wp2_with (fail)
        have nu : ∀ u ∈ (#[.bool (sg (dmn x0)), .slice Xx0 (nl (mg (dmn x0))) cx0, .int .i64 (dex x0), .bool (sg (dmn x1)), .slice Xx1 (nl (mg (dmn x1))) cx1, .int .i64 (dex x1), .bool false, .slice none 0 0, .int .i64 0, .bool false, .slice none 0 0, .int .i64 0, .bool false, .slice none 0 0, .int .i64 0] : Array Value).toList, NotU u := lista _ rfl
        clear Rx2
        clear qx20
        clear qx21
        clear qx22
        have hv2' := Rl.keepA (i := 6) (j := 7) (l := 8) (v0 := .bool (sg (dmn x2))) (v1 := .slice Xx2 (nl (mg (dmn x2))) cx2) (v2 := .int .i64 (dex x2)) nu hv2
        have gv2' := Rl.keepA (i := 6) (j := 7) (l := 8) (v0 := .bool (sg (dmn x2))) (v1 := .slice Xx2 (nl (mg (dmn x2))) cx2) (v2 := .int .i64 (dex x2)) nu gv2
        have hx0' := Rl.keepA (i := 6) (j := 7) (l := 8) (v0 := .bool (sg (dmn x2))) (v1 := .slice Xx2 (nl (mg (dmn x2))) cx2) (v2 := .int .i64 (dex x2)) nu hx0
        have hx1' := Rl.keepA (i := 6) (j := 7) (l := 8) (v0 := .bool (sg (dmn x2))) (v1 := .slice Xx2 (nl (mg (dmn x2))) cx2) (v2 := .int .i64 (dex x2)) nu hx1
        have hx2' := Rl.keepA (i := 6) (j := 7) (l := 8) (v0 := .bool (sg (dmn x2))) (v1 := .slice Xx2 (nl (mg (dmn x2))) cx2) (v2 := .int .i64 (dex x2)) nu hx2
        have Rv' : BoxA ((((wc).setCell ⟨(W3.heap.size + 1), 6, none⟩ (.bool (sg (dmn x2)))).setCell ⟨(W3.heap.size + 1), 7, none⟩ (.slice Xx2 (nl (mg (dmn x2))) cx2)).setCell ⟨(W3.heap.size + 1), 8, none⟩ (.int .i64 (dex x2))) _ _ _ := Rv.farA lv.out
        have HBT' := Below.setA (k := (W3.heap.size + 1)) (i := 6) (j := 7) (l := 8) (v0 := .bool (sg (dmn x2))) (v1 := .slice Xx2 (nl (mg (dmn x2))) cx2) (v2 := .int .i64 (dex x2)) HBT hkl.out
        have hT' := hT0.below HBT'
        have Rl' : BoxA ((((wc).setCell ⟨(W3.heap.size + 1), 6, none⟩ (.bool (sg (dmn x2)))).setCell ⟨(W3.heap.size + 1), 7, none⟩ (.slice Xx2 (nl (mg (dmn x2))) cx2)).setCell ⟨(W3.heap.size + 1), 8, none⟩ (.int .i64 (dex x2))) (W3.heap.size + 1) 32 #[.bool (sg (dmn x0)), .slice Xx0 (nl (mg (dmn x0))) cx0, .int .i64 (dex x0), .bool (sg (dmn x1)), .slice Xx1 (nl (mg (dmn x1))) cx1, .int .i64 (dex x1), .bool (sg (dmn x2)), .slice Xx2 (nl (mg (dmn x2))) cx2, .int .i64 (dex x2), .bool false, .slice none 0 0, .int .i64 0, .bool false, .slice none 0 0, .int .i64 0] := by have := ((Rl.set 6 (.bool (sg (dmn x2)))).set 7 (.slice Xx2 (nl (mg (dmn x2))) cx2)).set 8 (.int .i64 (dex x2)); simpa using this
        clear hv2 gv2 hx0 hx1 hx2 Rv HBT hT Rl nu fl0 fl1 fl2 ql0 ql1 ql2 qv0 qv1 qv2
        have hv2 := hv2'
        clear hv2'
        have gv2 := gv2'
        clear gv2'
        have hx0 := hx0'
        clear hx0'
        have hx1 := hx1'
        clear hx1'
        have hx2 := hx2'
        clear hx2'
        have Rv := Rv'
        clear Rv'
        have HBT := HBT'
        clear HBT'
        have hT := hT'
        clear hT'
        have Rl := Rl'
        clear Rl'
        have qv0 := Rv.c (i := 0) rfl
        have qv1 := Rv.c (i := 1) rfl
        have qv2 := Rv.c (i := 2) rfl
        generalize hWn : ((((wc).setCell ⟨(W3.heap.size + 1), 6, none⟩ (.bool (sg (dmn x2)))).setCell ⟨(W3.heap.size + 1), 7, none⟩ (.slice Xx2 (nl (mg (dmn x2))) cx2)).setCell ⟨(W3.heap.size + 1), 8, none⟩ (.int .i64 (dex x2))) = V2 at *
        clear hWn
        rw [rounds_succ]
        go_wp2_with (fail)
        obtain ⟨x3, Ex3⟩ : ∃ zq : Rat, zq = dval (rnd 3 (v2 * (2 : Rat) ^ n)) nn := ⟨_, rfl⟩
        have Ox3 : DB x3 15 680 := by rw [Ex3, show nn = -n from Enn.out]; exact db_rnd (l := 15) (by omega) (by omega)
        have Gx3 : dmn x3 ≠ 0 → nn ≤ dex x3 := by rw [Ex3]; exact dval_exp
        replace Gx3 := Lib.hid Gx3
        have CT : Calls Tryz.prog 15 #[.agg #[.bool (sg v2.num), .slice Xv2 (nl (mg v2.num)) cv2, .slice Yv2 (nl v2.den) dv2], .int .i64 n, .int .i64 3] V2 (RetDe V2 x3 0) := by rw [Ex3]; rw [show nn = -n from Enn.out]; exact cut_in Xv2 cv2 Yv2 dv2 v2 n 3 _ hv2 gv2 hT (by omega) (by omega) (by decide) (by decide) (by omega)
        replace Ex3 := Lib.hid Ex3
        refine (Calls.mono CT ?_)
        clear CT
        rintro e W12 ⟨Xx3, cx3, rfl, hx3, hb12⟩
        replace hT := hT.below hb12
        replace hv2 := hv2.below hb12
        replace gv2 := gv2.below hb12
        replace Rv := Rv.below hb12
        replace qv0 := cbl hb12 qv0
        replace qv1 := cbl hb12 qv1
        replace qv2 := cbl hb12 qv2
        replace Rl := Rl.below hb12
        replace hx0 := hx0.below hb12
        replace hx1 := hx1.below hb12
        replace hx2 := hx2.below hb12
        replace HBT := Below.cons HBT hb12
        clear hb12
        obtain ⟨hb13, Rx3⟩ := bx1 W12 #[.bool (sg (dmn x3)), .slice Xx3 (nl (mg (dmn x3))) cx3, .int .i64 (dex x3)] 31
        replace hT := hT.below hb13
        replace hv2 := hv2.below hb13
        replace gv2 := gv2.below hb13
        replace Rv := Rv.below hb13
        replace qv0 := cbl hb13 qv0
        replace qv1 := cbl hb13 qv1
        replace qv2 := cbl hb13 qv2
        replace Rl := Rl.below hb13
        replace hx0 := hx0.below hb13
        replace hx1 := hx1.below hb13
        replace hx2 := hx2.below hb13
        replace hx3 := hx3.below hb13
        replace HBT := Below.cons HBT hb13
        clear hb13
        have qx30 := Rx3.c (i := 0) rfl
        have qx31 := Rx3.c (i := 1) rfl
        have qx32 := Rx3.c (i := 2) rfl
        go_upto_region 8 with (fail)
        go_cut [58] from 27 to 61 (fun s58 wx => s58 = .bool false ∧ Below ((W12.alloc (.cells #[.bool (sg (dmn x3)), .slice Xx3 (nl (mg (dmn x3))) cx3, .int .i64 (dex x3)] 31))).heap.size (W12.alloc (.cells #[.bool (sg (dmn x3)), .slice Xx3 (nl (mg (dmn x3))) cx3, .int .i64 (dex x3)] 31)) wx)
        case first =>
          have HC0 := Below.refl (W12.alloc (.cells #[.bool (sg (dmn x3)), .slice Xx3 (nl (mg (dmn x3))) cx3, .int .i64 (dex x3)] 31)).heap.size (W12.alloc (.cells #[.bool (sg (dmn x3)), .slice Xx3 (nl (mg (dmn x3))) cx3, .int .i64 (dex x3)] 31))
          go_wp2_with (fail)
          refine (Calls.mono (trightT_c Xx3 cx3 x3 _ hx3 (Nat.le_trans Ox3.l (by decide)) (by have := Ox3.e; omega)) ?_)
          rintro e W9 ⟨rfl, hb9⟩
          replace HC0 := Below.cons HC0 hb9
          replace qx30 := cbl hb9 qx30
          replace qx31 := cbl hb9 qx31
          replace qx32 := cbl hb9 qx32
          clear hb9
          by_cases z0 : dmn x3 = 0
          · have t1 : decide (0 < (nl (mg (dmn x3)) : Int)) = false := by rw [z0, mg0, nl_zero]; rfl
            have t2 : decide (0 < nl (mg (dmn x3))) = false := by rw [z0, mg0, nl_zero]; rfl
            replace z0 := Lib.hid z0
            go_wp2_with (fail)
            go_meet
            exact ⟨rfl, HC0⟩
          · have t1 : decide (0 < (nl (mg (dmn x3)) : Int)) = true := by have := nl_pos.2 (fun e => z0 (mg_zero.1 e)); simp; omega
            have t2 : decide (0 < nl (mg (dmn x3))) = true := by have := nl_pos.2 (fun e => z0 (mg_zero.1 e)); simp; omega
            have t3 : decide (dex x3 < nn) = false := by have := Gx3.out z0; simp; omega
            replace z0 := Lib.hid z0
            go_wp2_with (fail)
            go_meet
            exact ⟨rfl, HC0⟩
        case rest =>
          obtain ⟨rfl, hbc⟩ := hcut
          replace hT := hT.below hbc
          replace hv2 := hv2.below hbc
          replace gv2 := gv2.below hbc
          replace Rv := Rv.below hbc
          replace qv0 := cbl hbc qv0
          replace qv1 := cbl hbc qv1
          replace qv2 := cbl hbc qv2
          replace Rl := Rl.below hbc
          replace hx0 := hx0.below hbc
          replace hx1 := hx1.below hbc
          replace hx2 := hx2.below hbc
          replace hx3 := hx3.below hbc
          replace Rx3 := Rx3.below hbc
          replace qx30 := cbl hbc qx30
          replace qx31 := cbl hbc qx31
          replace qx32 := cbl hbc qx32
          replace HBT := Below.cons HBT hbc
          clear hbc Gx3
          have fl0 := Rl.f (i := 9)
          have ql0 := Rl.c (i := 9) rfl
          have fl1 := Rl.f (i := 10)
          have ql1 := Rl.c (i := 10) rfl
          have fl2 := Rl.f (i := 11)
          have ql2 := Rl.c (i := 11) rfl
          go_wp2_with (fail)
          have nu : ∀ u ∈ (#[.bool (sg (dmn x0)), .slice Xx0 (nl (mg (dmn x0))) cx0, .int .i64 (dex x0), .bool (sg (dmn x1)), .slice Xx1 (nl (mg (dmn x1))) cx1, .int .i64 (dex x1), .bool (sg (dmn x2)), .slice Xx2 (nl (mg (dmn x2))) cx2, .int .i64 (dex x2), .bool false, .slice none 0 0, .int .i64 0, .bool false, .slice none 0 0, .int .i64 0] : Array Value).toList, NotU u := lista _ rfl
          clear Rx3
          clear qx30
          clear qx31
          clear qx32
          have hv2' := Rl.keepA (i := 9) (j := 10) (l := 11) (v0 := .bool (sg (dmn x3))) (v1 := .slice Xx3 (nl (mg (dmn x3))) cx3) (v2 := .int .i64 (dex x3)) nu hv2
          have gv2' := Rl.keepA (i := 9) (j := 10) (l := 11) (v0 := .bool (sg (dmn x3))) (v1 := .slice Xx3 (nl (mg (dmn x3))) cx3) (v2 := .int .i64 (dex x3)) nu gv2
          have hx0' := Rl.keepA (i := 9) (j := 10) (l := 11) (v0 := .bool (sg (dmn x3))) (v1 := .slice Xx3 (nl (mg (dmn x3))) cx3) (v2 := .int .i64 (dex x3)) nu hx0
          have hx1' := Rl.keepA (i := 9) (j := 10) (l := 11) (v0 := .bool (sg (dmn x3))) (v1 := .slice Xx3 (nl (mg (dmn x3))) cx3) (v2 := .int .i64 (dex x3)) nu hx1
          have hx2' := Rl.keepA (i := 9) (j := 10) (l := 11) (v0 := .bool (sg (dmn x3))) (v1 := .slice Xx3 (nl (mg (dmn x3))) cx3) (v2 := .int .i64 (dex x3)) nu hx2
          have hx3' := Rl.keepA (i := 9) (j := 10) (l := 11) (v0 := .bool (sg (dmn x3))) (v1 := .slice Xx3 (nl (mg (dmn x3))) cx3) (v2 := .int .i64 (dex x3)) nu hx3
          have Rv' : BoxA ((((wc).setCell ⟨(W3.heap.size + 1), 9, none⟩ (.bool (sg (dmn x3)))).setCell ⟨(W3.heap.size + 1), 10, none⟩ (.slice Xx3 (nl (mg (dmn x3))) cx3)).setCell ⟨(W3.heap.size + 1), 11, none⟩ (.int .i64 (dex x3))) _ _ _ := Rv.farA lv.out
          have HBT' := Below.setA (k := (W3.heap.size + 1)) (i := 9) (j := 10) (l := 11) (v0 := .bool (sg (dmn x3))) (v1 := .slice Xx3 (nl (mg (dmn x3))) cx3) (v2 := .int .i64 (dex x3)) HBT hkl.out
          have hT' := hT0.below HBT'
          have Rl' : BoxA ((((wc).setCell ⟨(W3.heap.size + 1), 9, none⟩ (.bool (sg (dmn x3)))).setCell ⟨(W3.heap.size + 1), 10, none⟩ (.slice Xx3 (nl (mg (dmn x3))) cx3)).setCell ⟨(W3.heap.size + 1), 11, none⟩ (.int .i64 (dex x3))) (W3.heap.size + 1) 32 #[.bool (sg (dmn x0)), .slice Xx0 (nl (mg (dmn x0))) cx0, .int .i64 (dex x0), .bool (sg (dmn x1)), .slice Xx1 (nl (mg (dmn x1))) cx1, .int .i64 (dex x1), .bool (sg (dmn x2)), .slice Xx2 (nl (mg (dmn x2))) cx2, .int .i64 (dex x2), .bool (sg (dmn x3)), .slice Xx3 (nl (mg (dmn x3))) cx3, .int .i64 (dex x3), .bool false, .slice none 0 0, .int .i64 0] := by have := ((Rl.set 9 (.bool (sg (dmn x3)))).set 10 (.slice Xx3 (nl (mg (dmn x3))) cx3)).set 11 (.int .i64 (dex x3)); simpa using this
          clear hv2 gv2 hx0 hx1 hx2 hx3 Rv HBT hT Rl nu fl0 fl1 fl2 ql0 ql1 ql2 qv0 qv1 qv2
          have hv2 := hv2'
          clear hv2'
          have gv2 := gv2'
          clear gv2'
          have hx0 := hx0'
          clear hx0'
          have hx1 := hx1'
          clear hx1'
          have hx2 := hx2'
          clear hx2'
          have hx3 := hx3'
          clear hx3'
          have Rv := Rv'
          clear Rv'
          have HBT := HBT'
          clear HBT'
          have hT := hT'
          clear hT'
          have Rl := Rl'
          clear Rl'
          have qv0 := Rv.c (i := 0) rfl
          have qv1 := Rv.c (i := 1) rfl
          have qv2 := Rv.c (i := 2) rfl
          generalize hWn : ((((wc).setCell ⟨(W3.heap.size + 1), 9, none⟩ (.bool (sg (dmn x3)))).setCell ⟨(W3.heap.size + 1), 10, none⟩ (.slice Xx3 (nl (mg (dmn x3))) cx3)).setCell ⟨(W3.heap.size + 1), 11, none⟩ (.int .i64 (dex x3))) = V3 at *
          clear hWn
          rw [rounds_succ]
          go_wp2_with (fail)
          obtain ⟨x4, Ex4⟩ : ∃ zq : Rat, zq = dval (rnd 4 (v2 * (2 : Rat) ^ n)) nn := ⟨_, rfl⟩
          have Ox4 : DB x4 15 680 := by rw [Ex4, show nn = -n from Enn.out]; exact db_rnd (l := 15) (by omega) (by omega)
          have Gx4 : dmn x4 ≠ 0 → nn ≤ dex x4 := by rw [Ex4]; exact dval_exp
          replace Gx4 := Lib.hid Gx4
          have CT : Calls Tryz.prog 15 #[.agg #[.bool (sg v2.num), .slice Xv2 (nl (mg v2.num)) cv2, .slice Yv2 (nl v2.den) dv2], .int .i64 n, .int .i64 4] V3 (RetDe V3 x4 0) := by rw [Ex4]; rw [show nn = -n from Enn.out]; exact cut_in Xv2 cv2 Yv2 dv2 v2 n 4 _ hv2 gv2 hT (by omega) (by omega) (by decide) (by decide) (by omega)
          replace Ex4 := Lib.hid Ex4
          refine (Calls.mono CT ?_)
          clear CT
          rintro e W14 ⟨Xx4, cx4, rfl, hx4, hb14⟩
          replace hT := hT.below hb14
          replace hv2 := hv2.below hb14
          replace gv2 := gv2.below hb14
          replace Rv := Rv.below hb14
          replace qv0 := cbl hb14 qv0
          replace qv1 := cbl hb14 qv1
          replace qv2 := cbl hb14 qv2
          replace Rl := Rl.below hb14
          replace hx0 := hx0.below hb14
          replace hx1 := hx1.below hb14
          replace hx2 := hx2.below hb14
          replace hx3 := hx3.below hb14
          replace HBT := Below.cons HBT hb14
          clear hb14
          obtain ⟨hb15, Rx4⟩ := bx1 W14 #[.bool (sg (dmn x4)), .slice Xx4 (nl (mg (dmn x4))) cx4, .int .i64 (dex x4)] 31
          replace hT := hT.below hb15
          replace hv2 := hv2.below hb15
          replace gv2 := gv2.below hb15
          replace Rv := Rv.below hb15
          replace qv0 := cbl hb15 qv0
          replace qv1 := cbl hb15 qv1
          replace qv2 := cbl hb15 qv2
          replace Rl := Rl.below hb15
          replace hx0 := hx0.below hb15
          replace hx1 := hx1.below hb15
          replace hx2 := hx2.below hb15
          replace hx3 := hx3.below hb15
          replace hx4 := hx4.below hb15
          replace HBT := Below.cons HBT hb15
          clear hb15
          have qx40 := Rx4.c (i := 0) rfl
          have qx41 := Rx4.c (i := 1) rfl
          have qx42 := Rx4.c (i := 2) rfl
          go_upto_region 8 with (fail)
          go_cut [58] from 27 to 61 (fun s58 wx => s58 = .bool false ∧ Below ((W14.alloc (.cells #[.bool (sg (dmn x4)), .slice Xx4 (nl (mg (dmn x4))) cx4, .int .i64 (dex x4)] 31))).heap.size (W14.alloc (.cells #[.bool (sg (dmn x4)), .slice Xx4 (nl (mg (dmn x4))) cx4, .int .i64 (dex x4)] 31)) wx)
          case first =>
            have HC0 := Below.refl (W14.alloc (.cells #[.bool (sg (dmn x4)), .slice Xx4 (nl (mg (dmn x4))) cx4, .int .i64 (dex x4)] 31)).heap.size (W14.alloc (.cells #[.bool (sg (dmn x4)), .slice Xx4 (nl (mg (dmn x4))) cx4, .int .i64 (dex x4)] 31))
            go_wp2_with (fail)
            refine (Calls.mono (trightT_c Xx4 cx4 x4 _ hx4 (Nat.le_trans Ox4.l (by decide)) (by have := Ox4.e; omega)) ?_)
            rintro e W9 ⟨rfl, hb9⟩
            replace HC0 := Below.cons HC0 hb9
            replace qx40 := cbl hb9 qx40
            replace qx41 := cbl hb9 qx41
            replace qx42 := cbl hb9 qx42
            clear hb9
            by_cases z0 : dmn x4 = 0
            · have t1 : decide (0 < (nl (mg (dmn x4)) : Int)) = false := by rw [z0, mg0, nl_zero]; rfl
              have t2 : decide (0 < nl (mg (dmn x4))) = false := by rw [z0, mg0, nl_zero]; rfl
              replace z0 := Lib.hid z0
              go_wp2_with (fail)
              go_meet
              exact ⟨rfl, HC0⟩
            · have t1 : decide (0 < (nl (mg (dmn x4)) : Int)) = true := by have := nl_pos.2 (fun e => z0 (mg_zero.1 e)); simp; omega
              have t2 : decide (0 < nl (mg (dmn x4))) = true := by have := nl_pos.2 (fun e => z0 (mg_zero.1 e)); simp; omega
              have t3 : decide (dex x4 < nn) = false := by have := Gx4.out z0; simp; omega
              replace z0 := Lib.hid z0
              go_wp2_with (fail)
              go_meet
              exact ⟨rfl, HC0⟩
          case rest =>
            obtain ⟨rfl, hbc⟩ := hcut
            replace hT := hT.below hbc
            replace hv2 := hv2.below hbc
            replace gv2 := gv2.below hbc
            replace Rv := Rv.below hbc
            replace qv0 := cbl hbc qv0
            replace qv1 := cbl hbc qv1
            replace qv2 := cbl hbc qv2
            replace Rl := Rl.below hbc
            replace hx0 := hx0.below hbc
            replace hx1 := hx1.below hbc
            replace hx2 := hx2.below hbc
            replace hx3 := hx3.below hbc
            replace hx4 := hx4.below hbc
            replace Rx4 := Rx4.below hbc
            replace qx40 := cbl hbc qx40
            replace qx41 := cbl hbc qx41
            replace qx42 := cbl hbc qx42
            replace HBT := Below.cons HBT hbc
            clear hbc Gx4
            have fl0 := Rl.f (i := 12)
            have ql0 := Rl.c (i := 12) rfl
            have fl1 := Rl.f (i := 13)
            have ql1 := Rl.c (i := 13) rfl
            have fl2 := Rl.f (i := 14)
            have ql2 := Rl.c (i := 14) rfl
            go_wp2_with (fail)
            have nu : ∀ u ∈ (#[.bool (sg (dmn x0)), .slice Xx0 (nl (mg (dmn x0))) cx0, .int .i64 (dex x0), .bool (sg (dmn x1)), .slice Xx1 (nl (mg (dmn x1))) cx1, .int .i64 (dex x1), .bool (sg (dmn x2)), .slice Xx2 (nl (mg (dmn x2))) cx2, .int .i64 (dex x2), .bool (sg (dmn x3)), .slice Xx3 (nl (mg (dmn x3))) cx3, .int .i64 (dex x3), .bool false, .slice none 0 0, .int .i64 0] : Array Value).toList, NotU u := lista _ rfl
            clear Rx4
            clear qx40
            clear qx41
            clear qx42
            have hv2' := Rl.keepA (i := 12) (j := 13) (l := 14) (v0 := .bool (sg (dmn x4))) (v1 := .slice Xx4 (nl (mg (dmn x4))) cx4) (v2 := .int .i64 (dex x4)) nu hv2
            have gv2' := Rl.keepA (i := 12) (j := 13) (l := 14) (v0 := .bool (sg (dmn x4))) (v1 := .slice Xx4 (nl (mg (dmn x4))) cx4) (v2 := .int .i64 (dex x4)) nu gv2
            have hx0' := Rl.keepA (i := 12) (j := 13) (l := 14) (v0 := .bool (sg (dmn x4))) (v1 := .slice Xx4 (nl (mg (dmn x4))) cx4) (v2 := .int .i64 (dex x4)) nu hx0
            have hx1' := Rl.keepA (i := 12) (j := 13) (l := 14) (v0 := .bool (sg (dmn x4))) (v1 := .slice Xx4 (nl (mg (dmn x4))) cx4) (v2 := .int .i64 (dex x4)) nu hx1
            have hx2' := Rl.keepA (i := 12) (j := 13) (l := 14) (v0 := .bool (sg (dmn x4))) (v1 := .slice Xx4 (nl (mg (dmn x4))) cx4) (v2 := .int .i64 (dex x4)) nu hx2
            have hx3' := Rl.keepA (i := 12) (j := 13) (l := 14) (v0 := .bool (sg (dmn x4))) (v1 := .slice Xx4 (nl (mg (dmn x4))) cx4) (v2 := .int .i64 (dex x4)) nu hx3
            have hx4' := Rl.keepA (i := 12) (j := 13) (l := 14) (v0 := .bool (sg (dmn x4))) (v1 := .slice Xx4 (nl (mg (dmn x4))) cx4) (v2 := .int .i64 (dex x4)) nu hx4
            have Rv' : BoxA ((((wc).setCell ⟨(W3.heap.size + 1), 12, none⟩ (.bool (sg (dmn x4)))).setCell ⟨(W3.heap.size + 1), 13, none⟩ (.slice Xx4 (nl (mg (dmn x4))) cx4)).setCell ⟨(W3.heap.size + 1), 14, none⟩ (.int .i64 (dex x4))) _ _ _ := Rv.farA lv.out
            have HBT' := Below.setA (k := (W3.heap.size + 1)) (i := 12) (j := 13) (l := 14) (v0 := .bool (sg (dmn x4))) (v1 := .slice Xx4 (nl (mg (dmn x4))) cx4) (v2 := .int .i64 (dex x4)) HBT hkl.out
            have hT' := hT0.below HBT'
            have Rl' : BoxA ((((wc).setCell ⟨(W3.heap.size + 1), 12, none⟩ (.bool (sg (dmn x4)))).setCell ⟨(W3.heap.size + 1), 13, none⟩ (.slice Xx4 (nl (mg (dmn x4))) cx4)).setCell ⟨(W3.heap.size + 1), 14, none⟩ (.int .i64 (dex x4))) (W3.heap.size + 1) 32 #[.bool (sg (dmn x0)), .slice Xx0 (nl (mg (dmn x0))) cx0, .int .i64 (dex x0), .bool (sg (dmn x1)), .slice Xx1 (nl (mg (dmn x1))) cx1, .int .i64 (dex x1), .bool (sg (dmn x2)), .slice Xx2 (nl (mg (dmn x2))) cx2, .int .i64 (dex x2), .bool (sg (dmn x3)), .slice Xx3 (nl (mg (dmn x3))) cx3, .int .i64 (dex x3), .bool (sg (dmn x4)), .slice Xx4 (nl (mg (dmn x4))) cx4, .int .i64 (dex x4)] := by have := ((Rl.set 12 (.bool (sg (dmn x4)))).set 13 (.slice Xx4 (nl (mg (dmn x4))) cx4)).set 14 (.int .i64 (dex x4)); simpa using this
            clear hv2 gv2 hx0 hx1 hx2 hx3 hx4 Rv HBT hT Rl nu fl0 fl1 fl2 ql0 ql1 ql2 qv0 qv1 qv2
            have hv2 := hv2'
            clear hv2'
            have gv2 := gv2'
            clear gv2'
            have hx0 := hx0'
            clear hx0'
            have hx1 := hx1'
            clear hx1'
            have hx2 := hx2'
            clear hx2'
            have hx3 := hx3'
            clear hx3'
            have hx4 := hx4'
            clear hx4'
            have Rv := Rv'
            clear Rv'
            have HBT := HBT'
            clear HBT'
            have hT := hT'
            clear hT'
            have Rl := Rl'
            clear Rl'
            have qv0 := Rv.c (i := 0) rfl
            have qv1 := Rv.c (i := 1) rfl
            have qv2 := Rv.c (i := 2) rfl
            generalize hWn : ((((wc).setCell ⟨(W3.heap.size + 1), 12, none⟩ (.bool (sg (dmn x4)))).setCell ⟨(W3.heap.size + 1), 13, none⟩ (.slice Xx4 (nl (mg (dmn x4))) cx4)).setCell ⟨(W3.heap.size + 1), 14, none⟩ (.int .i64 (dex x4))) = V4 at *
            clear hWn
            rw [rounds_succ]
            go_wp2_with (fail)
            obtain ⟨one, Eone⟩ : ∃ zq : Int, zq = (1 : Int) := ⟨_, rfl⟩
            have None : nl (mg one) ≤ 1 := by rw [Eone]; exact Nat.le_of_eq nl_one
            refine (Calls.mono (R := RetI V4 one) (by rw [Eone]; with_reducible exact (zof1_c _)) ?_)
            replace Eone := Lib.hid Eone
            rintro e W16 ⟨Xone, cone, rfl, hone, hb16⟩
            replace hT := hT.below hb16
            replace hv2 := hv2.below hb16
            replace gv2 := gv2.below hb16
            replace Rv := Rv.below hb16
            replace qv0 := cbl hb16 qv0
            replace qv1 := cbl hb16 qv1
            replace qv2 := cbl hb16 qv2
            replace Rl := Rl.below hb16
            replace hx0 := hx0.below hb16
            replace hx1 := hx1.below hb16
            replace hx2 := hx2.below hb16
            replace hx3 := hx3.below hb16
            replace hx4 := hx4.below hb16
            replace HBT := Below.cons HBT hb16
            clear hb16
            go_wp2_with (fail)
            obtain ⟨st, Est⟩ : ∃ z : Rat, z = dval 1 nn := ⟨_, rfl⟩
            have Ost : DB st 1 232 := by rw [Est]; exact (db_val (l := 1) (E := 200) (show nl (mg 1) ≤ 1 from Nat.le_of_eq nl_one) (by omega)).mono (by decide) (by decide)
            have Nst := db_sz Ost
            have CT : Calls Tryz.prog 17 #[.agg #[.bool (sg one), .slice Xone (nl (mg one)) cone, .int .i64 nn]] W16 (RetR W16 st) := by
              obtain ⟨k1, k2⟩ := form_of_nz (m := 1) (e := nn) (Or.inl (by decide))
              have e1 := Eone.out
              have hq := hone
              rw [e1] at hq ⊢
              have h := trat_c Xone cone (dval 1 nn) _ (by rw [k1]; exact hq) (by rw [← Est]; exact Ost.ok (by decide) (by decide))
              rw [k1, k2] at h
              rw [Est]; exact h
            replace Est := Lib.hid Est
            refine (Calls.mono CT ?_)
            clear CT
            rintro e W17 ⟨Xst, cst, Yst, dst, rfl, hst, gst, hb17⟩
            replace hT := hT.below hb17
            replace hv2 := hv2.below hb17
            replace gv2 := gv2.below hb17
            replace Rv := Rv.below hb17
            replace qv0 := cbl hb17 qv0
            replace qv1 := cbl hb17 qv1
            replace qv2 := cbl hb17 qv2
            replace Rl := Rl.below hb17
            replace hx0 := hx0.below hb17
            replace hx1 := hx1.below hb17
            replace hx2 := hx2.below hb17
            replace hx3 := hx3.below hb17
            replace hx4 := hx4.below hb17
            replace hone := hone.below hb17
            replace HBT := Below.cons HBT hb17
            clear hb17
            obtain ⟨hb18, Rst⟩ := bx1 W17 #[.bool (sg st.num), .slice Xst (nl (mg st.num)) cst, .slice Yst (nl st.den) dst] 26
            replace hT := hT.below hb18
            replace hv2 := hv2.below hb18
            replace gv2 := gv2.below hb18
            replace Rv := Rv.below hb18
            replace qv0 := cbl hb18 qv0
            replace qv1 := cbl hb18 qv1
            replace qv2 := cbl hb18 qv2
            replace Rl := Rl.below hb18
            replace hx0 := hx0.below hb18
            replace hx1 := hx1.below hb18
            replace hx2 := hx2.below hb18
            replace hx3 := hx3.below hb18
            replace hx4 := hx4.below hb18
            replace hone := hone.below hb18
            replace hst := hst.below hb18
            replace gst := gst.below hb18
            replace HBT := Below.cons HBT hb18
            clear hb18
            clear hone
            go_wp2_with (fail)
            have ql0 := Rl.c (i := 0) rfl
            have ql1 := Rl.c (i := 1) rfl
            have ql2 := Rl.c (i := 2) rfl
            have ql3 := Rl.c (i := 3) rfl
            have ql4 := Rl.c (i := 4) rfl
            have ql5 := Rl.c (i := 5) rfl
            have ql12 := Rl.c (i := 12) rfl
            have ql13 := Rl.c (i := 13) rfl
            have ql14 := Rl.c (i := 14) rfl
            obtain ⟨lo, Elo⟩ : ∃ z : Rat, z = x0 := ⟨_, rfl⟩
            have Nlo := db_sz Ox0
            rw [← Elo] at Nlo
            have C3 := fun (W : World) (h : NatV W Xx0 cx0 (mg (dmn x0))) => (show Calls Tryz.prog 17 #[.agg #[.bool (sg (dmn x0)), .slice Xx0 (nl (mg (dmn x0))) cx0, .int .i64 (dex x0)]] W (RetR W lo) by rw [Elo]; exact trat_c Xx0 cx0 x0 W h (Ox0.ok (by decide) (by decide)))
            replace C3 := Lib.hid C3
            replace Elo := Lib.hid Elo
            obtain ⟨up, Eup⟩ : ∃ z : Rat, z = x1 := ⟨_, rfl⟩
            have Nup := db_sz Ox1
            rw [← Eup] at Nup
            have C4 := fun (W : World) (h : NatV W Xx1 cx1 (mg (dmn x1))) => (show Calls Tryz.prog 17 #[.agg #[.bool (sg (dmn x1)), .slice Xx1 (nl (mg (dmn x1))) cx1, .int .i64 (dex x1)]] W (RetR W up) by rw [Eup]; exact trat_c Xx1 cx1 x1 W h (Ox1.ok (by decide) (by decide)))
            replace C4 := Lib.hid C4
            replace Eup := Lib.hid Eup
            obtain ⟨nr, Enr⟩ : ∃ z : Rat, z = x4 := ⟨_, rfl⟩
            have Nnr := db_sz Ox4
            rw [← Enr] at Nnr
            have C5 := fun (W : World) (h : NatV W Xx4 cx4 (mg (dmn x4))) => (show Calls Tryz.prog 17 #[.agg #[.bool (sg (dmn x4)), .slice Xx4 (nl (mg (dmn x4))) cx4, .int .i64 (dex x4)]] W (RetR W nr) by rw [Enr]; exact trat_c Xx4 cx4 x4 W h (Ox4.ok (by decide) (by decide)))
            replace C5 := Lib.hid C5
            replace Enr := Lib.hid Enr
            generalize hV5 : (W17.alloc (.cells #[.bool (sg st.num), .slice Xst (nl (mg st.num)) cst, .slice Yst (nl st.den) dst] 26)) = V5 at *
            replace hV5 := Lib.hid hV5
            refine wp_region_inv (fun E a' w' => ∃ (u67 u68 u69 u70 u71 u72 u73 u74 u75 u13 u14 u15 : Value),
              a' = { tmps := #[.agg #[.bool sa, .slice A l.length c, .slice B k.length d], .int .u16 (b0 : Nat), .pointer (some ⟨w.heap.size, 0, none⟩), undef, .bool false, .bool true, .pointer (some ⟨W3.heap.size, 0, none⟩), .int .i64 n, .pointer (some ⟨(W3.heap.size + 1), 0, none⟩), .int .i64 5, .pointer (some ⟨W14.heap.size, 0, none⟩), .int .i64 0, .pointer (some ⟨W17.heap.size, 0, none⟩), u13, u14, u15, undef, undef, undef, .bool true, .agg #[.bool sa, .slice A l.length c, .slice B k.length d], .agg #[.bool (sg v2.num), .slice Xv2 (nl (mg v2.num)) cv2, .slice Yv2 (nl v2.den) dv2], .int .u16 (b0 : Nat), .int .i64 (b0 : Int), .int .i64 (rn : Int), .int .i64 n, .agg #[.bool false, .slice none 0 0, .int .i64 0, .bool false, .slice none 0 0, .int .i64 0, .bool false, .slice none 0 0, .int .i64 0, .bool false, .slice none 0 0, .int .i64 0, .bool false, .slice none 0 0, .int .i64 0], .int .i64 5, .bool false, .int .i64 4, .int .i64 5, u31, u32, u33, u34, u35, u36, u37, u38, u39, u40, u41, u42, u43, u44, u45, u46, u47, u48, u49, u50, u51, u52, u53, u54, u55, u56, u57, .bool false, .int .i64 4, .agg #[.bool (sg (dmn x4)), .slice Xx4 (nl (mg (dmn x4))) cx4, .int .i64 (dex x4)], .pointer (some ⟨(W3.heap.size + 1), 12, none⟩), .agg #[.bool (sg one), .slice Xone (nl (mg one)) cone], .int .i64 n, .int .i64 nn, .agg #[.bool (sg one), .slice Xone (nl (mg one)) cone, .int .i64 nn], .agg #[.bool (sg st.num), .slice Xst (nl (mg st.num)) cst, .slice Yst (nl st.den) dst], u67, u68, u69, u70, u71, u72, u73, u74, u75, undef, undef, undef, undef, undef, undef, undef, undef, undef, undef, undef, undef, undef, undef, undef, undef, undef, undef, undef, undef, undef, undef, undef, undef, undef, undef, undef, undef, undef, undef, undef, undef, undef, undef, undef, undef, undef, undef, undef, undef, undef, undef, undef, undef, undef, undef, undef, undef, undef, undef, undef, undef, undef, undef, undef, undef, undef, undef, undef, undef, undef, undef, undef, undef, undef, undef, undef, undef, undef, undef, undef, undef, undef, undef, undef, undef, undef, undef, undef, undef, undef, undef], defers := [] } ∧
              (E 0 = true → u67 = .pointer (some ⟨(W3.heap.size + 1), 0, none⟩)) ∧
              (E 1 = true → u68 = .agg #[.bool (sg (dmn x0)), .slice Xx0 (nl (mg (dmn x0))) cx0, .int .i64 (dex x0)]) ∧
              (E 2 = true → PR u69 lo w') ∧
              (E 3 = true → u70 = .pointer (some ⟨(W3.heap.size + 1), 3, none⟩)) ∧
              (E 4 = true → u71 = .agg #[.bool (sg (dmn x1)), .slice Xx1 (nl (mg (dmn x1))) cx1, .int .i64 (dex x1)]) ∧
              (E 5 = true → PR u72 up w') ∧
              (E 6 = true → u73 = .pointer (some ⟨(W3.heap.size + 1), 12, none⟩)) ∧
              (E 7 = true → u74 = .agg #[.bool (sg (dmn x4)), .slice Xx4 (nl (mg (dmn x4))) cx4, .int .i64 (dex x4)]) ∧
              (E 8 = true → PR u75 nr w') ∧
              (E 9 = true → PB3 26 V5.heap.size u13 w') ∧
              (E 10 = true → PB3 26 V5.heap.size u14 w') ∧
              (E 11 = true → PB3 26 V5.heap.size u15 w') ∧
              (E 12 = true → PBR V5.heap.size u13 lo w') ∧
              (E 13 = true → PBR V5.heap.size u14 up w') ∧
              (E 14 = true → PBR V5.heap.size u15 nr w') ∧
              (E 12 = true → E 9 = true) ∧
              (E 13 = true → E 10 = true) ∧
              (E 14 = true → E 11 = true) ∧
              (E 9 = true → E 10 = true → u13 ≠ u14) ∧
              (E 9 = true → E 11 = true → u13 ≠ u15) ∧
              (E 10 = true → E 11 = true → u14 ≠ u15) ∧
              Below V5.heap.size V5 w') (by kernel_rfl) (by kernel_rfl) ?init ?fin ?step
            case init => exact ⟨_, _, _, _, _, _, _, _, _, _, _, _, rfl, by simp, by simp, by simp, by simp, by simp, by simp, by simp, by simp, by simp, by simp, by simp, by simp, by simp, by simp, by simp, by simp, by simp, by simp, by simp, by simp, by simp, (Below.refl _ _).drew⟩
            case step =>
              rintro E a' w' i ⟨u67, u68, u69, u70, u71, u72, u73, u74, u75, u13, u14, u15, rfl, h0, h1, h2, h3, h4, h5, h6, h7, h8, h9, h10, h11, h12, h13, h14, hD12, hD13, hD14, hN9_10, hN9_11, hN10_11, hB⟩ hi hEi hdep
              have ql0 := cbl hB ql0
              have ql1 := cbl hB ql1
              have ql2 := cbl hB ql2
              have ql3 := cbl hB ql3
              have ql4 := cbl hB ql4
              have ql5 := cbl hB ql5
              have ql12 := cbl hB ql12
              have ql13 := cbl hB ql13
              have ql14 := cbl hB ql14
              obtain rfl | rfl | rfl | rfl | rfl | rfl | rfl | rfl | rfl | rfl | rfl | rfl | rfl | rfl | rfl : i = 0 ∨ i = 1 ∨ i = 2 ∨ i = 3 ∨ i = 4 ∨ i = 5 ∨ i = 6 ∨ i = 7 ∨ i = 8 ∨ i = 9 ∨ i = 10 ∨ i = 11 ∨ i = 12 ∨ i = 13 ∨ i = 14 := by simp at hi; omega
              · skip
                refine wpOp_step rfl (fun K' hK' => ?_)
                go_simp
                refine hK' _ _ ?_
                exact ⟨_, _, _, _, _, _, _, _, _, _, _, _, rfl, fun _ => rfl, keepD (by decide) h1, keepD (by decide) h2, keepD (by decide) h3, keepD (by decide) h4, keepD (by decide) h5, keepD (by decide) h6, keepD (by decide) h7, keepD (by decide) h8, keepD (by decide) h9, keepD (by decide) h10, keepD (by decide) h11, keepD (by decide) h12, keepD (by decide) h13, keepD (by decide) h14, (fun h => by have := hD12 (by simpa using h); simpa using this), (fun h => by have := hD13 (by simpa using h); simpa using this), (fun h => by have := hD14 (by simpa using h); simpa using this), (fun h k => hN9_10 (by simpa using h) (by simpa using k)), (fun h k => hN9_11 (by simpa using h) (by simpa using k)), (fun h k => hN10_11 (by simpa using h) (by simpa using k)), hB⟩
              · skip
                have d0 := hdep _ rfl ⟨0, .data⟩ (by simp) rfl
                obtain rfl := h0 d0
                refine wpOp_step rfl (fun K' hK' => ?_)
                go_simp
                refine hK' _ _ ?_
                exact ⟨_, _, _, _, _, _, _, _, _, _, _, _, rfl, keepD (by decide) h0, fun _ => rfl, keepD (by decide) h2, keepD (by decide) h3, keepD (by decide) h4, keepD (by decide) h5, keepD (by decide) h6, keepD (by decide) h7, keepD (by decide) h8, keepD (by decide) h9, keepD (by decide) h10, keepD (by decide) h11, keepD (by decide) h12, keepD (by decide) h13, keepD (by decide) h14, (fun h => by have := hD12 (by simpa using h); simpa using this), (fun h => by have := hD13 (by simpa using h); simpa using this), (fun h => by have := hD14 (by simpa using h); simpa using this), (fun h k => hN9_10 (by simpa using h) (by simpa using k)), (fun h k => hN9_11 (by simpa using h) (by simpa using k)), (fun h k => hN10_11 (by simpa using h) (by simpa using k)), hB⟩
              · skip
                have d1 := hdep _ rfl ⟨1, .data⟩ (by simp) rfl
                obtain rfl := h1 d1
                refine wpOp_step rfl (fun K' hK' => ?_)
                go_simp
                refine (Calls.mono (C3.out w' (hx0.below hB)) ?_)
                rintro e W1 ⟨Xr, cr, Yr, dr, rfl, kr, lr, kb⟩
                refine hK' _ _ ?_
                exact ⟨_, _, _, _, _, _, _, _, _, _, _, _, rfl, keepD (by decide) h0, keepD (by decide) h1, fun _ => ⟨Xr, cr, Yr, dr, rfl, kr, lr⟩, keepD (by decide) h3, keepD (by decide) h4, keepP (by decide) h5 (fun h => h.below kb), keepD (by decide) h6, keepD (by decide) h7, keepP (by decide) h8 (fun h => h.below kb), keepP (by decide) h9 (fun h => h.below kb), keepP (by decide) h10 (fun h => h.below kb), keepP (by decide) h11 (fun h => h.below kb), keepP (by decide) h12 (fun h => h.below kb), keepP (by decide) h13 (fun h => h.below kb), keepP (by decide) h14 (fun h => h.below kb), (fun h => by have := hD12 (by simpa using h); simpa using this), (fun h => by have := hD13 (by simpa using h); simpa using this), (fun h => by have := hD14 (by simpa using h); simpa using this), (fun h k => hN9_10 (by simpa using h) (by simpa using k)), (fun h k => hN9_11 (by simpa using h) (by simpa using k)), (fun h k => hN10_11 (by simpa using h) (by simpa using k)), Below.cons hB kb⟩
              · skip
                refine wpOp_step rfl (fun K' hK' => ?_)
                go_simp
                refine hK' _ _ ?_
                exact ⟨_, _, _, _, _, _, _, _, _, _, _, _, rfl, keepD (by decide) h0, keepD (by decide) h1, keepD (by decide) h2, fun _ => rfl, keepD (by decide) h4, keepD (by decide) h5, keepD (by decide) h6, keepD (by decide) h7, keepD (by decide) h8, keepD (by decide) h9, keepD (by decide) h10, keepD (by decide) h11, keepD (by decide) h12, keepD (by decide) h13, keepD (by decide) h14, (fun h => by have := hD12 (by simpa using h); simpa using this), (fun h => by have := hD13 (by simpa using h); simpa using this), (fun h => by have := hD14 (by simpa using h); simpa using this), (fun h k => hN9_10 (by simpa using h) (by simpa using k)), (fun h k => hN9_11 (by simpa using h) (by simpa using k)), (fun h k => hN10_11 (by simpa using h) (by simpa using k)), hB⟩
              · skip
                have d3 := hdep _ rfl ⟨3, .data⟩ (by simp) rfl
                obtain rfl := h3 d3
                refine wpOp_step rfl (fun K' hK' => ?_)
                go_simp
                refine hK' _ _ ?_
                exact ⟨_, _, _, _, _, _, _, _, _, _, _, _, rfl, keepD (by decide) h0, keepD (by decide) h1, keepD (by decide) h2, keepD (by decide) h3, fun _ => rfl, keepD (by decide) h5, keepD (by decide) h6, keepD (by decide) h7, keepD (by decide) h8, keepD (by decide) h9, keepD (by decide) h10, keepD (by decide) h11, keepD (by decide) h12, keepD (by decide) h13, keepD (by decide) h14, (fun h => by have := hD12 (by simpa using h); simpa using this), (fun h => by have := hD13 (by simpa using h); simpa using this), (fun h => by have := hD14 (by simpa using h); simpa using this), (fun h k => hN9_10 (by simpa using h) (by simpa using k)), (fun h k => hN9_11 (by simpa using h) (by simpa using k)), (fun h k => hN10_11 (by simpa using h) (by simpa using k)), hB⟩
              · skip
                have d4 := hdep _ rfl ⟨4, .data⟩ (by simp) rfl
                obtain rfl := h4 d4
                refine wpOp_step rfl (fun K' hK' => ?_)
                go_simp
                refine (Calls.mono (C4.out w' (hx1.below hB)) ?_)
                rintro e W1 ⟨Xr, cr, Yr, dr, rfl, kr, lr, kb⟩
                refine hK' _ _ ?_
                exact ⟨_, _, _, _, _, _, _, _, _, _, _, _, rfl, keepD (by decide) h0, keepD (by decide) h1, keepP (by decide) h2 (fun h => h.below kb), keepD (by decide) h3, keepD (by decide) h4, fun _ => ⟨Xr, cr, Yr, dr, rfl, kr, lr⟩, keepD (by decide) h6, keepD (by decide) h7, keepP (by decide) h8 (fun h => h.below kb), keepP (by decide) h9 (fun h => h.below kb), keepP (by decide) h10 (fun h => h.below kb), keepP (by decide) h11 (fun h => h.below kb), keepP (by decide) h12 (fun h => h.below kb), keepP (by decide) h13 (fun h => h.below kb), keepP (by decide) h14 (fun h => h.below kb), (fun h => by have := hD12 (by simpa using h); simpa using this), (fun h => by have := hD13 (by simpa using h); simpa using this), (fun h => by have := hD14 (by simpa using h); simpa using this), (fun h k => hN9_10 (by simpa using h) (by simpa using k)), (fun h k => hN9_11 (by simpa using h) (by simpa using k)), (fun h k => hN10_11 (by simpa using h) (by simpa using k)), Below.cons hB kb⟩
              · skip
                refine wpOp_step rfl (fun K' hK' => ?_)
                go_simp
                refine hK' _ _ ?_
                exact ⟨_, _, _, _, _, _, _, _, _, _, _, _, rfl, keepD (by decide) h0, keepD (by decide) h1, keepD (by decide) h2, keepD (by decide) h3, keepD (by decide) h4, keepD (by decide) h5, fun _ => rfl, keepD (by decide) h7, keepD (by decide) h8, keepD (by decide) h9, keepD (by decide) h10, keepD (by decide) h11, keepD (by decide) h12, keepD (by decide) h13, keepD (by decide) h14, (fun h => by have := hD12 (by simpa using h); simpa using this), (fun h => by have := hD13 (by simpa using h); simpa using this), (fun h => by have := hD14 (by simpa using h); simpa using this), (fun h k => hN9_10 (by simpa using h) (by simpa using k)), (fun h k => hN9_11 (by simpa using h) (by simpa using k)), (fun h k => hN10_11 (by simpa using h) (by simpa using k)), hB⟩
              · skip
                have d6 := hdep _ rfl ⟨6, .data⟩ (by simp) rfl
                obtain rfl := h6 d6
                refine wpOp_step rfl (fun K' hK' => ?_)
                go_simp
                refine hK' _ _ ?_
                exact ⟨_, _, _, _, _, _, _, _, _, _, _, _, rfl, keepD (by decide) h0, keepD (by decide) h1, keepD (by decide) h2, keepD (by decide) h3, keepD (by decide) h4, keepD (by decide) h5, keepD (by decide) h6, fun _ => rfl, keepD (by decide) h8, keepD (by decide) h9, keepD (by decide) h10, keepD (by decide) h11, keepD (by decide) h12, keepD (by decide) h13, keepD (by decide) h14, (fun h => by have := hD12 (by simpa using h); simpa using this), (fun h => by have := hD13 (by simpa using h); simpa using this), (fun h => by have := hD14 (by simpa using h); simpa using this), (fun h k => hN9_10 (by simpa using h) (by simpa using k)), (fun h k => hN9_11 (by simpa using h) (by simpa using k)), (fun h k => hN10_11 (by simpa using h) (by simpa using k)), hB⟩
              · skip
                have d7 := hdep _ rfl ⟨7, .data⟩ (by simp) rfl
                obtain rfl := h7 d7
                refine wpOp_step rfl (fun K' hK' => ?_)
                go_simp
                refine (Calls.mono (C5.out w' (hx4.below hB)) ?_)
                rintro e W1 ⟨Xr, cr, Yr, dr, rfl, kr, lr, kb⟩
                refine hK' _ _ ?_
                exact ⟨_, _, _, _, _, _, _, _, _, _, _, _, rfl, keepD (by decide) h0, keepD (by decide) h1, keepP (by decide) h2 (fun h => h.below kb), keepD (by decide) h3, keepD (by decide) h4, keepP (by decide) h5 (fun h => h.below kb), keepD (by decide) h6, keepD (by decide) h7, fun _ => ⟨Xr, cr, Yr, dr, rfl, kr, lr⟩, keepP (by decide) h9 (fun h => h.below kb), keepP (by decide) h10 (fun h => h.below kb), keepP (by decide) h11 (fun h => h.below kb), keepP (by decide) h12 (fun h => h.below kb), keepP (by decide) h13 (fun h => h.below kb), keepP (by decide) h14 (fun h => h.below kb), (fun h => by have := hD12 (by simpa using h); simpa using this), (fun h => by have := hD13 (by simpa using h); simpa using this), (fun h => by have := hD14 (by simpa using h); simpa using this), (fun h k => hN9_10 (by simpa using h) (by simpa using k)), (fun h k => hN9_11 (by simpa using h) (by simpa using k)), (fun h k => hN10_11 (by simpa using h) (by simpa using k)), Below.cons hB kb⟩
              · skip
                have kb : Below w'.heap.size w' (w'.alloc (.cells #[.bool false, .slice none 0 0, .slice none 0 0] 26)) := (Below.refl _ _).alloc (Nat.le_refl _) _
                refine wpOp_step rfl (fun K' hK' => ?_)
                go_simp
                refine hK' _ _ ?_
                exact ⟨_, _, _, _, _, _, _, _, _, _, _, _, rfl, keepD (by decide) h0, keepD (by decide) h1, keepP (by decide) h2 (fun h => h.below kb), keepD (by decide) h3, keepD (by decide) h4, keepP (by decide) h5 (fun h => h.below kb), keepD (by decide) h6, keepD (by decide) h7, keepP (by decide) h8 (fun h => h.below kb), fun _ => ⟨_, _, _, _, rfl, hB.size, ⟨at_new rfl⟩, notU_bool _, notU_slice _ _ _, notU_slice _ _ _⟩, keepP (by decide) h10 (fun h => h.below kb), keepP (by decide) h11 (fun h => h.below kb), (fun h => by have h2 := hD12 (by simpa using h); rw [hEi] at h2; cases h2), keepP (by decide) h13 (fun h => h.below kb), keepP (by decide) h14 (fun h => h.below kb), (fun _ => by simp), (fun h => by have := hD13 (by simpa using h); simpa using this), (fun h => by have := hD14 (by simpa using h); simpa using this), (fun _ h => by obtain ⟨n2, e2, l2⟩ := (h10 (by simpa using h)).lt; rw [e2]; intro e3; simp at e3 <;> omega), (fun _ h => by obtain ⟨n2, e2, l2⟩ := (h11 (by simpa using h)).lt; rw [e2]; intro e3; simp at e3 <;> omega), (fun h k => hN10_11 (by simpa using h) (by simpa using k)), Below.cons hB kb⟩
              · skip
                have kb : Below w'.heap.size w' (w'.alloc (.cells #[.bool false, .slice none 0 0, .slice none 0 0] 26)) := (Below.refl _ _).alloc (Nat.le_refl _) _
                refine wpOp_step rfl (fun K' hK' => ?_)
                go_simp
                refine hK' _ _ ?_
                exact ⟨_, _, _, _, _, _, _, _, _, _, _, _, rfl, keepD (by decide) h0, keepD (by decide) h1, keepP (by decide) h2 (fun h => h.below kb), keepD (by decide) h3, keepD (by decide) h4, keepP (by decide) h5 (fun h => h.below kb), keepD (by decide) h6, keepD (by decide) h7, keepP (by decide) h8 (fun h => h.below kb), keepP (by decide) h9 (fun h => h.below kb), fun _ => ⟨_, _, _, _, rfl, hB.size, ⟨at_new rfl⟩, notU_bool _, notU_slice _ _ _, notU_slice _ _ _⟩, keepP (by decide) h11 (fun h => h.below kb), keepP (by decide) h12 (fun h => h.below kb), (fun h => by have h2 := hD13 (by simpa using h); rw [hEi] at h2; cases h2), keepP (by decide) h14 (fun h => h.below kb), (fun h => by have := hD12 (by simpa using h); simpa using this), (fun _ => by simp), (fun h => by have := hD14 (by simpa using h); simpa using this), (fun h _ => by obtain ⟨n2, e2, l2⟩ := (h9 (by simpa using h)).lt; rw [e2]; intro e3; simp at e3 <;> omega), (fun h k => hN9_11 (by simpa using h) (by simpa using k)), (fun _ h => by obtain ⟨n2, e2, l2⟩ := (h11 (by simpa using h)).lt; rw [e2]; intro e3; simp at e3 <;> omega), Below.cons hB kb⟩
              · skip
                have kb : Below w'.heap.size w' (w'.alloc (.cells #[.bool false, .slice none 0 0, .slice none 0 0] 26)) := (Below.refl _ _).alloc (Nat.le_refl _) _
                refine wpOp_step rfl (fun K' hK' => ?_)
                go_simp
                refine hK' _ _ ?_
                exact ⟨_, _, _, _, _, _, _, _, _, _, _, _, rfl, keepD (by decide) h0, keepD (by decide) h1, keepP (by decide) h2 (fun h => h.below kb), keepD (by decide) h3, keepD (by decide) h4, keepP (by decide) h5 (fun h => h.below kb), keepD (by decide) h6, keepD (by decide) h7, keepP (by decide) h8 (fun h => h.below kb), keepP (by decide) h9 (fun h => h.below kb), keepP (by decide) h10 (fun h => h.below kb), fun _ => ⟨_, _, _, _, rfl, hB.size, ⟨at_new rfl⟩, notU_bool _, notU_slice _ _ _, notU_slice _ _ _⟩, keepP (by decide) h12 (fun h => h.below kb), keepP (by decide) h13 (fun h => h.below kb), (fun h => by have h2 := hD14 (by simpa using h); rw [hEi] at h2; cases h2), (fun h => by have := hD12 (by simpa using h); simpa using this), (fun h => by have := hD13 (by simpa using h); simpa using this), (fun _ => by simp), (fun h k => hN9_10 (by simpa using h) (by simpa using k)), (fun h _ => by obtain ⟨n2, e2, l2⟩ := (h9 (by simpa using h)).lt; rw [e2]; intro e3; simp at e3 <;> omega), (fun h _ => by obtain ⟨n2, e2, l2⟩ := (h10 (by simpa using h)).lt; rw [e2]; intro e3; simp at e3 <;> omega), Below.cons hB kb⟩
              · skip
                have d9 := hdep _ rfl ⟨9, .data⟩ (by simp) rfl
                obtain ⟨nb, z0, z1, z2, rfl, hn, hb, nz0, nz1, nz2⟩ := h9 d9
                have d2 := hdep _ rfl ⟨2, .data⟩ (by simp) rfl
                obtain ⟨X_2, c_2, Y_2, d_2, rfl, k_2, l_2⟩ := h2 d2
                have fz0 := hb.f (i := 0)
                have cz0 := hb.c (i := 0) rfl
                have fz1 := hb.f (i := 1)
                have cz1 := hb.c (i := 1) rfl
                have fz2 := hb.f (i := 2)
                have cz2 := hb.c (i := 2) rfl
                have hp := hb.put3 (notU3 nz0 nz1 nz2) (.bool (sg lo.num)) (.slice X_2 (nl (mg lo.num)) c_2) (.slice Y_2 (nl lo.den) d_2)
                have hs := hb.store3 (.bool (sg lo.num)) (.slice X_2 (nl (mg lo.num)) c_2) (.slice Y_2 (nl lo.den) d_2)
                refine wpOp_step rfl (fun K' hK' => ?_)
                go_simp
                refine hK' _ _ ?_
                exact ⟨_, _, _, _, _, _, _, _, _, _, _, _, rfl, keepD (by decide) h0, keepD (by decide) h1, keepP (by decide) h2 (fun h => h.put hp), keepD (by decide) h3, keepD (by decide) h4, keepP (by decide) h5 (fun h => h.put hp), keepD (by decide) h6, keepD (by decide) h7, keepP (by decide) h8 (fun h => h.put hp), (fun _ => ⟨nb, _, _, _, rfl, hn, hs, notU_bool _, notU_slice _ _ _, notU_slice _ _ _⟩), keepP' (by decide) h10 (fun e h => h.put hp (fun e3 => hN9_10 d9 (by simpa using e) e3.symm)), keepP' (by decide) h11 (fun e h => h.put hp (fun e3 => hN9_11 d9 (by simpa using e) e3.symm)), fun _ => ⟨nb, X_2, c_2, Y_2, d_2, rfl, hn, hs, hp.nat k_2, hp.nat l_2⟩, keepP' (by decide) h13 (fun e h => h.put hp (fun e3 => hN9_10 d9 (hD13 (by simpa using e)) e3.symm)), keepP' (by decide) h14 (fun e h => h.put hp (fun e3 => hN9_11 d9 (hD14 (by simpa using e)) e3.symm)), (fun _ => by simp [d9]), (fun h => by have := hD13 (by simpa using h); simpa using this), (fun h => by have := hD14 (by simpa using h); simpa using this), (fun h k => hN9_10 (by simpa using h) (by simpa using k)), (fun h k => hN9_11 (by simpa using h) (by simpa using k)), (fun h k => hN10_11 (by simpa using h) (by simpa using k)), Below.store3 hB hn⟩
              · skip
                have d10 := hdep _ rfl ⟨10, .data⟩ (by simp) rfl
                obtain ⟨nb, z0, z1, z2, rfl, hn, hb, nz0, nz1, nz2⟩ := h10 d10
                have d5 := hdep _ rfl ⟨5, .data⟩ (by simp) rfl
                obtain ⟨X_5, c_5, Y_5, d_5, rfl, k_5, l_5⟩ := h5 d5
                have fz0 := hb.f (i := 0)
                have cz0 := hb.c (i := 0) rfl
                have fz1 := hb.f (i := 1)
                have cz1 := hb.c (i := 1) rfl
                have fz2 := hb.f (i := 2)
                have cz2 := hb.c (i := 2) rfl
                have hp := hb.put3 (notU3 nz0 nz1 nz2) (.bool (sg up.num)) (.slice X_5 (nl (mg up.num)) c_5) (.slice Y_5 (nl up.den) d_5)
                have hs := hb.store3 (.bool (sg up.num)) (.slice X_5 (nl (mg up.num)) c_5) (.slice Y_5 (nl up.den) d_5)
                refine wpOp_step rfl (fun K' hK' => ?_)
                go_simp
                refine hK' _ _ ?_
                exact ⟨_, _, _, _, _, _, _, _, _, _, _, _, rfl, keepD (by decide) h0, keepD (by decide) h1, keepP (by decide) h2 (fun h => h.put hp), keepD (by decide) h3, keepD (by decide) h4, keepP (by decide) h5 (fun h => h.put hp), keepD (by decide) h6, keepD (by decide) h7, keepP (by decide) h8 (fun h => h.put hp), keepP' (by decide) h9 (fun e h => h.put hp (hN9_10 (by simpa using e) d10)), (fun _ => ⟨nb, _, _, _, rfl, hn, hs, notU_bool _, notU_slice _ _ _, notU_slice _ _ _⟩), keepP' (by decide) h11 (fun e h => h.put hp (fun e3 => hN10_11 d10 (by simpa using e) e3.symm)), keepP' (by decide) h12 (fun e h => h.put hp (hN9_10 (hD12 (by simpa using e)) d10)), fun _ => ⟨nb, X_5, c_5, Y_5, d_5, rfl, hn, hs, hp.nat k_5, hp.nat l_5⟩, keepP' (by decide) h14 (fun e h => h.put hp (fun e3 => hN10_11 d10 (hD14 (by simpa using e)) e3.symm)), (fun h => by have := hD12 (by simpa using h); simpa using this), (fun _ => by simp [d10]), (fun h => by have := hD14 (by simpa using h); simpa using this), (fun h k => hN9_10 (by simpa using h) (by simpa using k)), (fun h k => hN9_11 (by simpa using h) (by simpa using k)), (fun h k => hN10_11 (by simpa using h) (by simpa using k)), Below.store3 hB hn⟩
              · skip
                have d11 := hdep _ rfl ⟨11, .data⟩ (by simp) rfl
                obtain ⟨nb, z0, z1, z2, rfl, hn, hb, nz0, nz1, nz2⟩ := h11 d11
                have d8 := hdep _ rfl ⟨8, .data⟩ (by simp) rfl
                obtain ⟨X_8, c_8, Y_8, d_8, rfl, k_8, l_8⟩ := h8 d8
                have fz0 := hb.f (i := 0)
                have cz0 := hb.c (i := 0) rfl
                have fz1 := hb.f (i := 1)
                have cz1 := hb.c (i := 1) rfl
                have fz2 := hb.f (i := 2)
                have cz2 := hb.c (i := 2) rfl
                have hp := hb.put3 (notU3 nz0 nz1 nz2) (.bool (sg nr.num)) (.slice X_8 (nl (mg nr.num)) c_8) (.slice Y_8 (nl nr.den) d_8)
                have hs := hb.store3 (.bool (sg nr.num)) (.slice X_8 (nl (mg nr.num)) c_8) (.slice Y_8 (nl nr.den) d_8)
                refine wpOp_step rfl (fun K' hK' => ?_)
                go_simp
                refine hK' _ _ ?_
                exact ⟨_, _, _, _, _, _, _, _, _, _, _, _, rfl, keepD (by decide) h0, keepD (by decide) h1, keepP (by decide) h2 (fun h => h.put hp), keepD (by decide) h3, keepD (by decide) h4, keepP (by decide) h5 (fun h => h.put hp), keepD (by decide) h6, keepD (by decide) h7, keepP (by decide) h8 (fun h => h.put hp), keepP' (by decide) h9 (fun e h => h.put hp (hN9_11 (by simpa using e) d11)), keepP' (by decide) h10 (fun e h => h.put hp (hN10_11 (by simpa using e) d11)), (fun _ => ⟨nb, _, _, _, rfl, hn, hs, notU_bool _, notU_slice _ _ _, notU_slice _ _ _⟩), keepP' (by decide) h12 (fun e h => h.put hp (hN9_11 (hD12 (by simpa using e)) d11)), keepP' (by decide) h13 (fun e h => h.put hp (hN10_11 (hD13 (by simpa using e)) d11)), fun _ => ⟨nb, X_8, c_8, Y_8, d_8, rfl, hn, hs, hp.nat k_8, hp.nat l_8⟩, (fun h => by have := hD12 (by simpa using h); simpa using this), (fun h => by have := hD13 (by simpa using h); simpa using this), (fun _ => by simp [d11]), (fun h k => hN9_10 (by simpa using h) (by simpa using k)), (fun h k => hN9_11 (by simpa using h) (by simpa using k)), (fun h k => hN10_11 (by simpa using h) (by simpa using k)), Below.store3 hB hn⟩
            case fin =>
              rintro E a' w' ⟨u67, u68, u69, u70, u71, u72, u73, u74, u75, u13, u14, u15, rfl, h0, h1, h2, h3, h4, h5, h6, h7, h8, h9, h10, h11, h12, h13, h14, hD12, hD13, hD14, hN9_10, hN9_11, hN10_11, hB⟩ hall
              clear ql0
              clear ql1
              clear ql2
              clear ql3
              clear ql4
              clear ql5
              clear ql12
              clear ql13
              clear ql14
              obtain ⟨nblo, Xlo, clo, Ylo, dlo, rfl, hnlo, Rlo, hlo, glo⟩ := h12 (hall 12 (by simp))
              obtain ⟨nbup, Xup, cup, Yup, dup, rfl, hnup, Rup, hup, gup⟩ := h13 (hall 13 (by simp))
              obtain ⟨nbnr, Xnr, cnr, Ynr, dnr, rfl, hnnr, Rnr, hnr, gnr⟩ := h14 (hall 14 (by simp))
              replace hT := hT.below hB
              replace hv2 := hv2.below hB
              replace gv2 := gv2.below hB
              replace Rv := Rv.below hB
              replace qv0 := cbl hB qv0
              replace qv1 := cbl hB qv1
              replace qv2 := cbl hB qv2
              replace Rl := Rl.below hB
              replace hx0 := hx0.below hB
              replace hx1 := hx1.below hB
              replace hx2 := hx2.below hB
              replace hx3 := hx3.below hB
              replace hx4 := hx4.below hB
              replace hst := hst.below hB
              replace gst := gst.below hB
              replace Rst := Rst.below hB
              replace HBT := Below.cons HBT hB
              have kvlo := hnlo
              have qlo0 := Rlo.c (i := 0) rfl
              have qlo1 := Rlo.c (i := 1) rfl
              have qlo2 := Rlo.c (i := 2) rfl
              have kvup := hnup
              have qup0 := Rup.c (i := 0) rfl
              have qup1 := Rup.c (i := 1) rfl
              have qup2 := Rup.c (i := 2) rfl
              have kvnr := hnnr
              have qnr0 := Rnr.c (i := 0) rfl
              have qnr1 := Rnr.c (i := 1) rfl
              have qnr2 := Rnr.c (i := 2) rfl
              obtain rfl := h0 (hall 0 (by simp))
              obtain rfl := h1 (hall 1 (by simp))
              obtain rfl := h3 (hall 3 (by simp))
              obtain rfl := h4 (hall 4 (by simp))
              obtain rfl := h6 (hall 6 (by simp))
              obtain rfl := h7 (hall 7 (by simp))
              clear hall
              generalize hV6 : w' = V6 at *
              clear hV6
              go_wp2_with (fail)
              obtain ⟨fb, Efb⟩ : ∃ z : Rat, z = rabs (v2 - nr) := ⟨_, rfl⟩
              obtain ⟨fa, Efa⟩ : ∃ zq : Rat, zq = v2 - nr := ⟨_, rfl⟩
              have Nfa := sub_szg Nv.1 Nv.2 Nnr.1 Nnr.2
              rw [← Efa] at Nfa Efb
              have Nfb : nl (mg fb.num) ≤ 80 ∧ nl fb.den ≤ 60 := by rw [Efb]; unfold rabs; split; (rw [Rat.neg_num, mg_neg, Rat.neg_den]; omega); omega
              replace Efb := Lib.hid Efb
              refine (Calls.mono (R := RetR V6 fa) (by rw [Efa]; with_reducible exact (r9sub_c Xv2 cv2 Yv2 dv2 v2 Xnr cnr Ynr dnr nr _ hv2 gv2 hnr gnr (by omega) (by omega) (by omega) (by omega))) ?_)
              replace Efa := Lib.hid Efa
              rintro e W19 ⟨Xfa, cfa, Yfa, dfa, rfl, hfa, gfa, hb19⟩
              replace hT := hT.below hb19
              replace hv2 := hv2.below hb19
              replace gv2 := gv2.below hb19
              replace Rv := Rv.below hb19
              replace qv0 := cbl hb19 qv0
              replace qv1 := cbl hb19 qv1
              replace qv2 := cbl hb19 qv2
              replace Rl := Rl.below hb19
              replace hx0 := hx0.below hb19
              replace hx1 := hx1.below hb19
              replace hx2 := hx2.below hb19
              replace hx3 := hx3.below hb19
              replace hx4 := hx4.below hb19
              replace hst := hst.below hb19
              replace gst := gst.below hb19
              replace Rst := Rst.below hb19
              replace hlo := hlo.below hb19
              replace glo := glo.below hb19
              replace Rlo := Rlo.below hb19
              replace qlo0 := cbl hb19 qlo0
              replace qlo1 := cbl hb19 qlo1
              replace qlo2 := cbl hb19 qlo2
              replace hup := hup.below hb19
              replace gup := gup.below hb19
              replace Rup := Rup.below hb19
              replace qup0 := cbl hb19 qup0
              replace qup1 := cbl hb19 qup1
              replace qup2 := cbl hb19 qup2
              replace hnr := hnr.below hb19
              replace gnr := gnr.below hb19
              replace Rnr := Rnr.below hb19
              replace qnr0 := cbl hb19 qnr0
              replace qnr1 := cbl hb19 qnr1
              replace qnr2 := cbl hb19 qnr2
              replace HBT := Below.cons HBT hb19
              clear hb19
              have HQ := Below.refl W19.heap.size W19
              have zhT := hT
              have zhv2 := hv2
              have zgv2 := gv2
              have zRv := Rv
              have zqv0 := qv0
              have zqv1 := qv1
              have zqv2 := qv2
              have zRl := Rl
              have zhx0 := hx0
              have zhx1 := hx1
              have zhx2 := hx2
              have zhx3 := hx3
              have zhx4 := hx4
              have zhst := hst
              have zgst := gst
              have zRst := Rst
              have zhlo := hlo
              have zglo := glo
              have zRlo := Rlo
              have zqlo0 := qlo0
              have zqlo1 := qlo1
              have zqlo2 := qlo2
              have zhup := hup
              have zgup := gup
              have zRup := Rup
              have zqup0 := qup0
              have zqup1 := qup1
              have zqup2 := qup2
              have zhnr := hnr
              have zgnr := gnr
              have zRnr := Rnr
              have zqnr0 := qnr0
              have zqnr1 := qnr1
              have zqnr2 := qnr2
              have zHBT := HBT
              obtain ⟨hb20, Rfa⟩ := bx1 W19 #[.bool (sg fa.num), .slice Xfa (nl (mg fa.num)) cfa, .slice Yfa (nl fa.den) dfa] 26
              replace hT := hT.below hb20
              replace hv2 := hv2.below hb20
              replace gv2 := gv2.below hb20
              replace Rv := Rv.below hb20
              replace qv0 := cbl hb20 qv0
              replace qv1 := cbl hb20 qv1
              replace qv2 := cbl hb20 qv2
              replace Rl := Rl.below hb20
              replace hx0 := hx0.below hb20
              replace hx1 := hx1.below hb20
              replace hx2 := hx2.below hb20
              replace hx3 := hx3.below hb20
              replace hx4 := hx4.below hb20
              replace hst := hst.below hb20
              replace gst := gst.below hb20
              replace Rst := Rst.below hb20
              replace hlo := hlo.below hb20
              replace glo := glo.below hb20
              replace Rlo := Rlo.below hb20
              replace qlo0 := cbl hb20 qlo0
              replace qlo1 := cbl hb20 qlo1
              replace qlo2 := cbl hb20 qlo2
              replace hup := hup.below hb20
              replace gup := gup.below hb20
              replace Rup := Rup.below hb20
              replace qup0 := cbl hb20 qup0
              replace qup1 := cbl hb20 qup1
              replace qup2 := cbl hb20 qup2
              replace hnr := hnr.below hb20
              replace gnr := gnr.below hb20
              replace Rnr := Rnr.below hb20
              replace qnr0 := cbl hb20 qnr0
              replace qnr1 := cbl hb20 qnr1
              replace qnr2 := cbl hb20 qnr2
              replace hfa := hfa.below hb20
              replace gfa := gfa.below hb20
              replace HQ := Below.cons HQ hb20
              replace HBT := Below.cons HBT hb20
              clear hb20
              have qfa0 := Rfa.c (i := 0) rfl
              have qfa1 := Rfa.c (i := 1) rfl
              have qfa2 := Rfa.c (i := 2) rfl
              go_wp2_with (fail)
              obtain ⟨sf, Esf⟩ : ∃ z, z = fa.num.sign := ⟨_, rfl⟩
              have CG := r9sign_c Xfa cfa Yfa dfa fa _ hfa gfa (by omega)
              rw [← Esf] at CG
              replace CG := Lib.hid CG
              replace Esf := Lib.hid Esf
              refine (Calls.mono (CG.out) ?_)
              rintro e W21 ⟨rfl, hb21⟩
              replace hT := hT.below hb21
              replace hv2 := hv2.below hb21
              replace gv2 := gv2.below hb21
              replace Rv := Rv.below hb21
              replace qv0 := cbl hb21 qv0
              replace qv1 := cbl hb21 qv1
              replace qv2 := cbl hb21 qv2
              replace Rl := Rl.below hb21
              replace hx0 := hx0.below hb21
              replace hx1 := hx1.below hb21
              replace hx2 := hx2.below hb21
              replace hx3 := hx3.below hb21
              replace hx4 := hx4.below hb21
              replace hst := hst.below hb21
              replace gst := gst.below hb21
              replace Rst := Rst.below hb21
              replace hlo := hlo.below hb21
              replace glo := glo.below hb21
              replace Rlo := Rlo.below hb21
              replace qlo0 := cbl hb21 qlo0
              replace qlo1 := cbl hb21 qlo1
              replace qlo2 := cbl hb21 qlo2
              replace hup := hup.below hb21
              replace gup := gup.below hb21
              replace Rup := Rup.below hb21
              replace qup0 := cbl hb21 qup0
              replace qup1 := cbl hb21 qup1
              replace qup2 := cbl hb21 qup2
              replace hnr := hnr.below hb21
              replace gnr := gnr.below hb21
              replace Rnr := Rnr.below hb21
              replace qnr0 := cbl hb21 qnr0
              replace qnr1 := cbl hb21 qnr1
              replace qnr2 := cbl hb21 qnr2
              replace hfa := hfa.below hb21
              replace gfa := gfa.below hb21
              replace HQ := Below.cons HQ hb21
              replace Rfa := Rfa.below hb21
              replace qfa0 := cbl hb21 qfa0
              replace qfa1 := cbl hb21 qfa1
              replace qfa2 := cbl hb21 qfa2
              replace HBT := Below.cons HBT hb21
              clear hb21
              clear CG
              go_upto_if 81 with (fail)
              go_cut [] from 79 to 83 (fun wx => ∃ (X : Option Addr) (c : Nat) (Y : Option Addr) (d : Nat), BoxA wx W19.heap.size 26 #[.bool (sg fb.num), .slice X (nl (mg fb.num)) c, .slice Y (nl fb.den) d] ∧ NatV wx X c (mg fb.num) ∧ NatV wx Y d fb.den ∧ Below W19.heap.size W19 wx)
              case first =>
                by_cases hs : fa < 0
                · skip
                  have t1 : decide (sf < 0) = true := by rw [Esf.out, decide_eq_true_eq, Int.sign_neg_iff]; exact num_neg.1 hs
                  have hfb : fb = -fa := by rw [Efb.out]; unfold rabs; rw [if_pos hs]
                  clear hs
                  replace hfb := Lib.hid hfb
                  simp only [t1]
                  go_wp2_with (fail)
                  obtain ⟨fn, Efn⟩ : ∃ zq : Rat, zq = -fa := ⟨_, rfl⟩
                  refine (Calls.mono (R := RetR W21 fn) (by rw [Efn]; with_reducible exact (r9neg_c Xfa cfa Yfa dfa fa _ hfa gfa (by omega))) ?_)
                  replace Efn := Lib.hid Efn
                  rintro e W22 ⟨Xfn, cfn, Yfn, dfn, rfl, hfn, gfn, hb22⟩
                  replace hfa := hfa.below hb22
                  replace gfa := gfa.below hb22
                  replace HQ := Below.cons HQ hb22
                  replace Rfa := Rfa.below hb22
                  replace qfa0 := cbl hb22 qfa0
                  replace qfa1 := cbl hb22 qfa1
                  replace qfa2 := cbl hb22 qfa2
                  replace HBT := Below.cons HBT hb22
                  clear hb22
                  have hfn : fn = fb := by rw [Efn.out, hfb.out]
                  subst hfn
                  have fzfa0 := Rfa.f (i := 0)
                  have fzfa1 := Rfa.f (i := 1)
                  have fzfa2 := Rfa.f (i := 2)
                  go_wp2_with (fail)
                  go_meet
                  exact ⟨Xfn, cfn, Yfn, dfn, Rfa.store3 (.bool (sg fn.num)) (.slice Xfn (nl (mg fn.num)) cfn) (.slice Yfn (nl fn.den) dfn), Rfa.keep3 (nuB rfl) hfn, Rfa.keep3 (nuB rfl) gfn, Below.store3 HQ (Nat.le_refl _)⟩
                · skip
                  have t1 : decide (sf < 0) = false := by rw [Esf.out, decide_eq_false_iff_not, Int.sign_neg_iff]; exact fun e => hs (num_neg.2 e)
                  have hfb : fb = fa := by rw [Efb.out]; unfold rabs; rw [if_neg hs]
                  clear hs
                  replace hfb := Lib.hid hfb
                  simp only [t1]
                  go_wp2_with (fail)
                  go_meet
                  rw [hfb.out]
                  exact ⟨Xfa, cfa, Yfa, dfa, Rfa, hfa, gfa, HQ⟩
              case rest =>
                obtain ⟨Xfb, cfb, Yfb, dfb, Rfb, hfb, gfb, hbq⟩ := hcut
                clear hT hv2 gv2 Rv qv0 qv1 qv2 Rl hx0 hx1 hx2 hx3 hx4 hst gst Rst hlo glo Rlo qlo0 qlo1 qlo2 hup gup Rup qup0 qup1 qup2 hnr gnr Rnr qnr0 qnr1 qnr2 hfa gfa HQ Rfa qfa0 qfa1 qfa2 HBT
                have hT := zhT
                clear zhT
                have hv2 := zhv2
                clear zhv2
                have gv2 := zgv2
                clear zgv2
                have Rv := zRv
                clear zRv
                have qv0 := zqv0
                clear zqv0
                have qv1 := zqv1
                clear zqv1
                have qv2 := zqv2
                clear zqv2
                have Rl := zRl
                clear zRl
                have hx0 := zhx0
                clear zhx0
                have hx1 := zhx1
                clear zhx1
                have hx2 := zhx2
                clear zhx2
                have hx3 := zhx3
                clear zhx3
                have hx4 := zhx4
                clear zhx4
                have hst := zhst
                clear zhst
                have gst := zgst
                clear zgst
                have Rst := zRst
                clear zRst
                have hlo := zhlo
                clear zhlo
                have glo := zglo
                clear zglo
                have Rlo := zRlo
                clear zRlo
                have qlo0 := zqlo0
                clear zqlo0
                have qlo1 := zqlo1
                clear zqlo1
                have qlo2 := zqlo2
                clear zqlo2
                have hup := zhup
                clear zhup
                have gup := zgup
                clear zgup
                have Rup := zRup
                clear zRup
                have qup0 := zqup0
                clear zqup0
                have qup1 := zqup1
                clear zqup1
                have qup2 := zqup2
                clear zqup2
                have hnr := zhnr
                clear zhnr
                have gnr := zgnr
                clear zgnr
                have Rnr := zRnr
                clear zRnr
                have qnr0 := zqnr0
                clear zqnr0
                have qnr1 := zqnr1
                clear zqnr1
                have qnr2 := zqnr2
                clear zqnr2
                have HBT := zHBT
                clear zHBT
                replace hT := hT.below hbq
                replace hv2 := hv2.below hbq
                replace gv2 := gv2.below hbq
                replace Rv := Rv.below hbq
                replace qv0 := cbl hbq qv0
                replace qv1 := cbl hbq qv1
                replace qv2 := cbl hbq qv2
                replace Rl := Rl.below hbq
                replace hx0 := hx0.below hbq
                replace hx1 := hx1.below hbq
                replace hx2 := hx2.below hbq
                replace hx3 := hx3.below hbq
                replace hx4 := hx4.below hbq
                replace hst := hst.below hbq
                replace gst := gst.below hbq
                replace Rst := Rst.below hbq
                replace hlo := hlo.below hbq
                replace glo := glo.below hbq
                replace Rlo := Rlo.below hbq
                replace qlo0 := cbl hbq qlo0
                replace qlo1 := cbl hbq qlo1
                replace qlo2 := cbl hbq qlo2
                replace hup := hup.below hbq
                replace gup := gup.below hbq
                replace Rup := Rup.below hbq
                replace qup0 := cbl hbq qup0
                replace qup1 := cbl hbq qup1
                replace qup2 := cbl hbq qup2
                replace hnr := hnr.below hbq
                replace gnr := gnr.below hbq
                replace Rnr := Rnr.below hbq
                replace qnr0 := cbl hbq qnr0
                replace qnr1 := cbl hbq qnr1
                replace qnr2 := cbl hbq qnr2
                replace HBT := Below.cons HBT hbq
                clear hbq
                clear qlo0
                clear qlo1
                clear qlo2
                clear qup0
                clear qup1
                clear qup2
                clear qnr0
                clear qnr1
                clear qnr2
                generalize hVc : wc = Vc at *
                clear hVc
                have hw16 := HBT.size
                replace hw16 := Lib.hid hw16
                have ltl := Rl.lt
                replace ltl := Lib.hid ltl
                have ltv := Rv.lt
                replace ltv := Lib.hid ltv
                have ltlo := Rlo.lt
                replace ltlo := Lib.hid ltlo
                have ltup := Rup.lt
                replace ltup := Lib.hid ltup
                have ltnr := Rnr.lt
                replace ltnr := Lib.hid ltnr
                have ltfb := Rfb.lt
                replace ltfb := Lib.hid ltfb
                have ltst := Rst.lt
                replace ltst := Lib.hid ltst
                have yhT := hT
                have yhv2 := hv2
                have ygv2 := gv2
                have yRv := Rv
                have yqv0 := qv0
                have yqv1 := qv1
                have yqv2 := qv2
                have yRl := Rl
                have yhx0 := hx0
                have yhx1 := hx1
                have yhx2 := hx2
                have yhx3 := hx3
                have yhx4 := hx4
                have yhst := hst
                have ygst := gst
                have yRst := Rst
                have yhlo := hlo
                have yglo := glo
                have yRlo := Rlo
                have yhup := hup
                have ygup := gup
                have yRup := Rup
                have yhnr := hnr
                have ygnr := gnr
                have yRnr := Rnr
                have yhfb := hfb
                have ygfb := gfb
                have yRfb := Rfb
                have yHBT := HBT
                have HQ2 := Below.refl Vc.heap.size Vc
                have ql0 := Rl.c (i := 0) rfl
                have ql1 := Rl.c (i := 1) rfl
                have ql2 := Rl.c (i := 2) rfl
                have ql3 := Rl.c (i := 3) rfl
                have ql4 := Rl.c (i := 4) rfl
                have ql5 := Rl.c (i := 5) rfl
                go_wp2_with (fail)
                refine wp_region_inv (fun E a' w' => ∃ (u84 u85 u86 u87 u17 u18 : Value),
                  a' = { tmps := #[.agg #[.bool sa, .slice A l.length c, .slice B k.length d], .int .u16 (b0 : Nat), .pointer (some ⟨w.heap.size, 0, none⟩), undef, .bool false, .bool true, .pointer (some ⟨W3.heap.size, 0, none⟩), .int .i64 n, .pointer (some ⟨(W3.heap.size + 1), 0, none⟩), .int .i64 5, .pointer (some ⟨W14.heap.size, 0, none⟩), .int .i64 0, .pointer (some ⟨W17.heap.size, 0, none⟩), .pointer (some ⟨nblo, 0, none⟩), .pointer (some ⟨nbup, 0, none⟩), .pointer (some ⟨nbnr, 0, none⟩), .pointer (some ⟨W19.heap.size, 0, none⟩), u17, u18, .bool true, .agg #[.bool sa, .slice A l.length c, .slice B k.length d], .agg #[.bool (sg v2.num), .slice Xv2 (nl (mg v2.num)) cv2, .slice Yv2 (nl v2.den) dv2], .int .u16 (b0 : Nat), .int .i64 (b0 : Int), .int .i64 (rn : Int), .int .i64 n, .agg #[.bool false, .slice none 0 0, .int .i64 0, .bool false, .slice none 0 0, .int .i64 0, .bool false, .slice none 0 0, .int .i64 0, .bool false, .slice none 0 0, .int .i64 0, .bool false, .slice none 0 0, .int .i64 0], .int .i64 5, .bool false, .int .i64 4, .int .i64 5, u31, u32, u33, u34, u35, u36, u37, u38, u39, u40, u41, u42, u43, u44, u45, u46, u47, u48, u49, u50, u51, u52, u53, u54, u55, u56, u57, .bool false, .int .i64 4, .agg #[.bool (sg (dmn x4)), .slice Xx4 (nl (mg (dmn x4))) cx4, .int .i64 (dex x4)], .pointer (some ⟨(W3.heap.size + 1), 12, none⟩), .agg #[.bool (sg one), .slice Xone (nl (mg one)) cone], .int .i64 n, .int .i64 nn, .agg #[.bool (sg one), .slice Xone (nl (mg one)) cone, .int .i64 nn], .agg #[.bool (sg st.num), .slice Xst (nl (mg st.num)) cst, .slice Yst (nl st.den) dst], .pointer (some ⟨(W3.heap.size + 1), 0, none⟩), .agg #[.bool (sg (dmn x0)), .slice Xx0 (nl (mg (dmn x0))) cx0, .int .i64 (dex x0)], u69, .pointer (some ⟨(W3.heap.size + 1), 3, none⟩), .agg #[.bool (sg (dmn x1)), .slice Xx1 (nl (mg (dmn x1))) cx1, .int .i64 (dex x1)], u72, .pointer (some ⟨(W3.heap.size + 1), 12, none⟩), .agg #[.bool (sg (dmn x4)), .slice Xx4 (nl (mg (dmn x4))) cx4, .int .i64 (dex x4)], u75, .agg #[.bool (sg v2.num), .slice Xv2 (nl (mg v2.num)) cv2, .slice Yv2 (nl v2.den) dv2], .agg #[.bool (sg nr.num), .slice Xnr (nl (mg nr.num)) cnr, .slice Ynr (nl nr.den) dnr], .agg #[.bool (sg fa.num), .slice Xfa (nl (mg fa.num)) cfa, .slice Yfa (nl fa.den) dfa], u79, u80, u81, u82, u83, u84, u85, u86, u87, undef, undef, undef, undef, undef, undef, undef, undef, undef, undef, undef, undef, undef, undef, undef, undef, undef, undef, undef, undef, undef, undef, undef, undef, undef, undef, undef, undef, undef, undef, undef, undef, undef, undef, undef, undef, undef, undef, undef, undef, undef, undef, undef, undef, undef, undef, undef, undef, undef, undef, undef, undef, undef, undef, undef, undef, undef, undef, undef, undef, undef, undef, undef, undef, undef, undef, undef, undef, undef, undef], defers := [] } ∧
                  (E 0 = true → u84 = .pointer (some ⟨(W3.heap.size + 1), 0, none⟩)) ∧
                  (E 1 = true → PD u85 x0 w') ∧
                  (E 2 = true → u86 = .pointer (some ⟨(W3.heap.size + 1), 3, none⟩)) ∧
                  (E 3 = true → PD u87 x1 w') ∧
                  (E 4 = true → PB3 31 Vc.heap.size u17 w') ∧
                  (E 5 = true → PB3 31 Vc.heap.size u18 w') ∧
                  (E 6 = true → PBD Vc.heap.size u17 x0 w') ∧
                  (E 7 = true → PBD Vc.heap.size u18 x1 w') ∧
                  (E 6 = true → E 4 = true) ∧
                  (E 7 = true → E 5 = true) ∧
                  (E 4 = true → E 5 = true → u17 ≠ u18) ∧
                  Below Vc.heap.size Vc w') (by kernel_rfl) (by kernel_rfl) ?init ?fin ?step
                case init => exact ⟨_, _, _, _, _, _, rfl, by simp, by simp, by simp, by simp, by simp, by simp, by simp, by simp, by simp, by simp, by simp, (Below.refl _ _).drew⟩
                case step =>
                  rintro E a' w' i ⟨u84, u85, u86, u87, u17, u18, rfl, h0, h1, h2, h3, h4, h5, h6, h7, hD6, hD7, hN4_5, hB⟩ hi hEi hdep
                  have ql0 := cbl hB ql0
                  have ql1 := cbl hB ql1
                  have ql2 := cbl hB ql2
                  have ql3 := cbl hB ql3
                  have ql4 := cbl hB ql4
                  have ql5 := cbl hB ql5
                  obtain rfl | rfl | rfl | rfl | rfl | rfl | rfl | rfl : i = 0 ∨ i = 1 ∨ i = 2 ∨ i = 3 ∨ i = 4 ∨ i = 5 ∨ i = 6 ∨ i = 7 := by simp at hi; omega
                  · skip
                    refine wpOp_step rfl (fun K' hK' => ?_)
                    go_simp
                    refine hK' _ _ ?_
                    exact ⟨_, _, _, _, _, _, rfl, fun _ => rfl, keepD (by decide) h1, keepD (by decide) h2, keepD (by decide) h3, keepD (by decide) h4, keepD (by decide) h5, keepD (by decide) h6, keepD (by decide) h7, (fun h => by have := hD6 (by simpa using h); simpa using this), (fun h => by have := hD7 (by simpa using h); simpa using this), (fun h k => hN4_5 (by simpa using h) (by simpa using k)), hB⟩
                  · skip
                    have d0 := hdep _ rfl ⟨0, .data⟩ (by simp) rfl
                    obtain rfl := h0 d0
                    refine wpOp_step rfl (fun K' hK' => ?_)
                    go_simp
                    refine hK' _ _ ?_
                    exact ⟨_, _, _, _, _, _, rfl, keepD (by decide) h0, fun _ => ⟨_, _, rfl, hx0.below hB⟩, keepD (by decide) h2, keepD (by decide) h3, keepD (by decide) h4, keepD (by decide) h5, keepD (by decide) h6, keepD (by decide) h7, (fun h => by have := hD6 (by simpa using h); simpa using this), (fun h => by have := hD7 (by simpa using h); simpa using this), (fun h k => hN4_5 (by simpa using h) (by simpa using k)), hB⟩
                  · skip
                    refine wpOp_step rfl (fun K' hK' => ?_)
                    go_simp
                    refine hK' _ _ ?_
                    exact ⟨_, _, _, _, _, _, rfl, keepD (by decide) h0, keepD (by decide) h1, fun _ => rfl, keepD (by decide) h3, keepD (by decide) h4, keepD (by decide) h5, keepD (by decide) h6, keepD (by decide) h7, (fun h => by have := hD6 (by simpa using h); simpa using this), (fun h => by have := hD7 (by simpa using h); simpa using this), (fun h k => hN4_5 (by simpa using h) (by simpa using k)), hB⟩
                  · skip
                    have d2 := hdep _ rfl ⟨2, .data⟩ (by simp) rfl
                    obtain rfl := h2 d2
                    refine wpOp_step rfl (fun K' hK' => ?_)
                    go_simp
                    refine hK' _ _ ?_
                    exact ⟨_, _, _, _, _, _, rfl, keepD (by decide) h0, keepD (by decide) h1, keepD (by decide) h2, fun _ => ⟨_, _, rfl, hx1.below hB⟩, keepD (by decide) h4, keepD (by decide) h5, keepD (by decide) h6, keepD (by decide) h7, (fun h => by have := hD6 (by simpa using h); simpa using this), (fun h => by have := hD7 (by simpa using h); simpa using this), (fun h k => hN4_5 (by simpa using h) (by simpa using k)), hB⟩
                  · skip
                    have kb : Below w'.heap.size w' (w'.alloc (.cells #[.bool false, .slice none 0 0, .int .i64 0] 31)) := (Below.refl _ _).alloc (Nat.le_refl _) _
                    refine wpOp_step rfl (fun K' hK' => ?_)
                    go_simp
                    refine hK' _ _ ?_
                    exact ⟨_, _, _, _, _, _, rfl, keepD (by decide) h0, keepP (by decide) h1 (fun h => h.below kb), keepD (by decide) h2, keepP (by decide) h3 (fun h => h.below kb), fun _ => ⟨_, _, _, _, rfl, hB.size, ⟨at_new rfl⟩, notU_bool _, notU_slice _ _ _, notU_i64 _⟩, keepP (by decide) h5 (fun h => h.below kb), (fun h => by have h2 := hD6 (by simpa using h); rw [hEi] at h2; cases h2), keepP (by decide) h7 (fun h => h.below kb), (fun _ => by simp), (fun h => by have := hD7 (by simpa using h); simpa using this), (fun _ h => by obtain ⟨n2, e2, l2⟩ := (h5 (by simpa using h)).lt; rw [e2]; intro e3; simp at e3 <;> omega), Below.cons hB kb⟩
                  · skip
                    have kb : Below w'.heap.size w' (w'.alloc (.cells #[.bool false, .slice none 0 0, .int .i64 0] 31)) := (Below.refl _ _).alloc (Nat.le_refl _) _
                    refine wpOp_step rfl (fun K' hK' => ?_)
                    go_simp
                    refine hK' _ _ ?_
                    exact ⟨_, _, _, _, _, _, rfl, keepD (by decide) h0, keepP (by decide) h1 (fun h => h.below kb), keepD (by decide) h2, keepP (by decide) h3 (fun h => h.below kb), keepP (by decide) h4 (fun h => h.below kb), fun _ => ⟨_, _, _, _, rfl, hB.size, ⟨at_new rfl⟩, notU_bool _, notU_slice _ _ _, notU_i64 _⟩, keepP (by decide) h6 (fun h => h.below kb), (fun h => by have h2 := hD7 (by simpa using h); rw [hEi] at h2; cases h2), (fun h => by have := hD6 (by simpa using h); simpa using this), (fun _ => by simp), (fun h _ => by obtain ⟨n2, e2, l2⟩ := (h4 (by simpa using h)).lt; rw [e2]; intro e3; simp at e3 <;> omega), Below.cons hB kb⟩
                  · skip
                    have d4 := hdep _ rfl ⟨4, .data⟩ (by simp) rfl
                    obtain ⟨nb, z0, z1, z2, rfl, hn, hb, nz0, nz1, nz2⟩ := h4 d4
                    have d1 := hdep _ rfl ⟨1, .data⟩ (by simp) rfl
                    obtain ⟨X_1, c_1, rfl, k_1⟩ := h1 d1
                    have fz0 := hb.f (i := 0)
                    have cz0 := hb.c (i := 0) rfl
                    have fz1 := hb.f (i := 1)
                    have cz1 := hb.c (i := 1) rfl
                    have fz2 := hb.f (i := 2)
                    have cz2 := hb.c (i := 2) rfl
                    have hp := hb.put3 (notU3 nz0 nz1 nz2) (.bool (sg (dmn x0))) (.slice X_1 (nl (mg (dmn x0))) c_1) (.int .i64 (dex x0))
                    have hs := hb.store3 (.bool (sg (dmn x0))) (.slice X_1 (nl (mg (dmn x0))) c_1) (.int .i64 (dex x0))
                    refine wpOp_step rfl (fun K' hK' => ?_)
                    go_simp
                    refine hK' _ _ ?_
                    exact ⟨_, _, _, _, _, _, rfl, keepD (by decide) h0, keepP (by decide) h1 (fun h => h.put hp), keepD (by decide) h2, keepP (by decide) h3 (fun h => h.put hp), (fun _ => ⟨nb, _, _, _, rfl, hn, hs, notU_bool _, notU_slice _ _ _, notU_i64 _⟩), keepP' (by decide) h5 (fun e h => h.put hp (fun e3 => hN4_5 d4 (by simpa using e) e3.symm)), fun _ => ⟨nb, X_1, c_1, rfl, hn, hs, hp.nat k_1⟩, keepP' (by decide) h7 (fun e h => h.put hp (fun e3 => hN4_5 d4 (hD7 (by simpa using e)) e3.symm)), (fun _ => by simp [d4]), (fun h => by have := hD7 (by simpa using h); simpa using this), (fun h k => hN4_5 (by simpa using h) (by simpa using k)), Below.store3 hB hn⟩
                  · skip
                    have d5 := hdep _ rfl ⟨5, .data⟩ (by simp) rfl
                    obtain ⟨nb, z0, z1, z2, rfl, hn, hb, nz0, nz1, nz2⟩ := h5 d5
                    have d3 := hdep _ rfl ⟨3, .data⟩ (by simp) rfl
                    obtain ⟨X_3, c_3, rfl, k_3⟩ := h3 d3
                    have fz0 := hb.f (i := 0)
                    have cz0 := hb.c (i := 0) rfl
                    have fz1 := hb.f (i := 1)
                    have cz1 := hb.c (i := 1) rfl
                    have fz2 := hb.f (i := 2)
                    have cz2 := hb.c (i := 2) rfl
                    have hp := hb.put3 (notU3 nz0 nz1 nz2) (.bool (sg (dmn x1))) (.slice X_3 (nl (mg (dmn x1))) c_3) (.int .i64 (dex x1))
                    have hs := hb.store3 (.bool (sg (dmn x1))) (.slice X_3 (nl (mg (dmn x1))) c_3) (.int .i64 (dex x1))
                    refine wpOp_step rfl (fun K' hK' => ?_)
                    go_simp
                    refine hK' _ _ ?_
                    exact ⟨_, _, _, _, _, _, rfl, keepD (by decide) h0, keepP (by decide) h1 (fun h => h.put hp), keepD (by decide) h2, keepP (by decide) h3 (fun h => h.put hp), keepP' (by decide) h4 (fun e h => h.put hp (hN4_5 (by simpa using e) d5)), (fun _ => ⟨nb, _, _, _, rfl, hn, hs, notU_bool _, notU_slice _ _ _, notU_i64 _⟩), keepP' (by decide) h6 (fun e h => h.put hp (hN4_5 (hD6 (by simpa using e)) d5)), fun _ => ⟨nb, X_3, c_3, rfl, hn, hs, hp.nat k_3⟩, (fun h => by have := hD6 (by simpa using h); simpa using this), (fun _ => by simp [d5]), (fun h k => hN4_5 (by simpa using h) (by simpa using k)), Below.store3 hB hn⟩
                case fin =>
                  rintro E a' w' ⟨u84, u85, u86, u87, u17, u18, rfl, h0, h1, h2, h3, h4, h5, h6, h7, hD6, hD7, hN4_5, hB⟩ hall
                  clear ql0
                  clear ql1
                  clear ql2
                  clear ql3
                  clear ql4
                  clear ql5
                  obtain ⟨nbin, Xin, cin, rfl, hnin, Rin, hin⟩ := h6 (hall 6 (by simp))
                  obtain ⟨nbou, Xou, cou, rfl, hnou, Rou, hou⟩ := h7 (hall 7 (by simp))
                  have hne := hN4_5 (hall 4 (by simp)) (hall 5 (by simp))
                  obtain rfl := h0 (hall 0 (by simp))
                  obtain rfl := h2 (hall 2 (by simp))
                  replace hT := hT.below hB
                  replace hv2 := hv2.below hB
                  replace gv2 := gv2.below hB
                  replace Rv := Rv.below hB
                  replace qv0 := cbl hB qv0
                  replace qv1 := cbl hB qv1
                  replace qv2 := cbl hB qv2
                  replace Rl := Rl.below hB
                  replace hx0 := hx0.below hB
                  replace hx1 := hx1.below hB
                  replace hx2 := hx2.below hB
                  replace hx3 := hx3.below hB
                  replace hx4 := hx4.below hB
                  replace hst := hst.below hB
                  replace gst := gst.below hB
                  replace Rst := Rst.below hB
                  replace hlo := hlo.below hB
                  replace glo := glo.below hB
                  replace Rlo := Rlo.below hB
                  replace hup := hup.below hB
                  replace gup := gup.below hB
                  replace Rup := Rup.below hB
                  replace hnr := hnr.below hB
                  replace gnr := gnr.below hB
                  replace Rnr := Rnr.below hB
                  replace hfb := hfb.below hB
                  replace gfb := gfb.below hB
                  replace Rfb := Rfb.below hB
                  replace HQ2 := Below.cons HQ2 hB
                  replace HBT := Below.cons HBT hB
                  clear hall
                  generalize hV7 : w' = V7 at *
                  clear hV7
                  have qv0 := Rv.c (i := 0) rfl
                  have qv1 := Rv.c (i := 1) rfl
                  have qv2 := Rv.c (i := 2) rfl
                  go_wp2_with (fail)
                  obtain ⟨sv, Esv⟩ : ∃ z, z = v2.num.sign := ⟨_, rfl⟩
                  have CG := r9sign_c Xv2 cv2 Yv2 dv2 v2 _ hv2 gv2 (by omega)
                  rw [← Esv] at CG
                  replace CG := Lib.hid CG
                  replace Esv := Lib.hid Esv
                  refine (Calls.mono (CG.out) ?_)
                  rintro e W22 ⟨rfl, hb22⟩
                  replace hT := hT.below hb22
                  replace hv2 := hv2.below hb22
                  replace gv2 := gv2.below hb22
                  replace Rv := Rv.below hb22
                  replace qv0 := cbl hb22 qv0
                  replace qv1 := cbl hb22 qv1
                  replace qv2 := cbl hb22 qv2
                  replace Rl := Rl.below hb22
                  replace hx0 := hx0.below hb22
                  replace hx1 := hx1.below hb22
                  replace hx2 := hx2.below hb22
                  replace hx3 := hx3.below hb22
                  replace hx4 := hx4.below hb22
                  replace hst := hst.below hb22
                  replace gst := gst.below hb22
                  replace Rst := Rst.below hb22
                  replace hlo := hlo.below hb22
                  replace glo := glo.below hb22
                  replace Rlo := Rlo.below hb22
                  replace hup := hup.below hb22
                  replace gup := gup.below hb22
                  replace Rup := Rup.below hb22
                  replace hnr := hnr.below hb22
                  replace gnr := gnr.below hb22
                  replace Rnr := Rnr.below hb22
                  replace hfb := hfb.below hb22
                  replace gfb := gfb.below hb22
                  replace Rfb := Rfb.below hb22
                  replace HQ2 := Below.cons HQ2 hb22
                  replace hin := hin.below hb22
                  replace hou := hou.below hb22
                  replace Rin := Rin.below hb22
                  replace Rou := Rou.below hb22
                  replace HBT := Below.cons HBT hb22
                  clear hb22
                  clear CG
                  clear qv0
                  clear qv1
                  clear qv2
                  have hno : nbin ≠ nbou := fun e => hne (by rw [e])
                  clear hne
                  replace hno := Lib.hid hno
                  have e0 : x0 = dval (v2 * (2 : Rat) ^ n).floor (-n) := by rw [Ex0.out, rnd_0, Enn.out]
                  have e1 : x1 = dval (v2 * (2 : Rat) ^ n).ceil (-n) := by rw [Ex1.out, rnd_1, Enn.out]
                  have es : st = dval 1 (-n) := by rw [Est.out, Enn.out]
                  have hr2 := rnd_2 v2 n
                  have hr3 := rnd_3 v2 n
                  replace e0 := Lib.hid e0
                  replace e1 := Lib.hid e1
                  replace es := Lib.hid es
                  go_upto_if 90 with (fail)
                  go_cut [] from 88 to 94 (fun wx => ∃ (X : Option Addr) (c : Nat) (Y : Option Addr) (d : Nat), BoxA wx nbin 31 #[.bool (sg (dmn x2)), .slice X (nl (mg (dmn x2))) c, .int .i64 (dex x2)] ∧ BoxA wx nbou 31 #[.bool (sg (dmn x3)), .slice Y (nl (mg (dmn x3))) d, .int .i64 (dex x3)] ∧ NatV wx X c (mg (dmn x2)) ∧ NatV wx Y d (mg (dmn x3)) ∧ Below Vc.heap.size Vc wx)
                  case first =>
                    clear yHBT
                    clear yhT
                    clear yhv2 ygv2
                    clear yRv
                    clear yqv0
                    clear yqv1
                    clear yqv2
                    clear yRl
                    clear yhx0
                    clear yhx1
                    clear yhx2
                    clear yhx3
                    clear yhx4
                    clear yhst ygst
                    clear yRst
                    clear yhlo yglo
                    clear yRlo
                    clear yhup ygup
                    clear yRup
                    clear yhnr ygnr
                    clear yRnr
                    clear yhfb ygfb
                    clear yRfb
                    clear hT
                    clear hv2 gv2
                    clear Rv
                    clear hx2
                    clear hx3
                    clear hx4
                    clear hst gst
                    clear Rst
                    clear hlo glo
                    clear Rlo
                    clear hup gup
                    clear Rup
                    clear hnr gnr
                    clear Rnr
                    clear hfb gfb
                    clear Rfb
                    by_cases hv : v2 < 0
                    · skip
                      have t1 : decide (sv < 0) = true := by rw [Esv.out, decide_eq_true_eq, Int.sign_neg_iff]; exact num_neg.1 hv
                      have e2 : x2 = x1 := by rw [Ex2.out, hr2, if_pos hv, e1.out, Enn.out]
                      have e3 : x3 = x0 := by rw [Ex3.out, hr3, if_pos hv, e0.out, Enn.out]
                      clear hv hr2 hr3
                      replace e2 := Lib.hid e2
                      replace e3 := Lib.hid e3
                      simp only [t1]
                      replace ltl := ltl.out
                      replace hno := hno.out
                      replace hw16 := hw16.out
                      have ql0 := Rl.c (i := 0) rfl
                      have ql1 := Rl.c (i := 1) rfl
                      have ql2 := Rl.c (i := 2) rfl
                      have ql3 := Rl.c (i := 3) rfl
                      have ql4 := Rl.c (i := 4) rfl
                      have ql5 := Rl.c (i := 5) rfl
                      have qin0 := Rin.c (i := 0) rfl
                      have qin1 := Rin.c (i := 1) rfl
                      have qin2 := Rin.c (i := 2) rfl
                      have qou0 := Rou.c (i := 0) rfl
                      have qou1 := Rou.c (i := 1) rfl
                      have qou2 := Rou.c (i := 2) rfl
                      have fin0_23 := Rin.f (i := 0)
                      have fin1_23 := Rin.f (i := 1)
                      have fin2_23 := Rin.f (i := 2)
                      have Rl_23 : BoxA (((W22.setCell ⟨nbin, 0, none⟩ (.bool (sg (dmn x1)))).setCell ⟨nbin, 1, none⟩ (.slice Xx1 (nl (mg (dmn x1))) cx1)).setCell ⟨nbin, 2, none⟩ (.int .i64 (dex x1))) _ _ _ := Rl.other3 (by simp <;> omega)
                      have Rin_23 := Rin.store3 (.bool (sg (dmn x1))) (.slice Xx1 (nl (mg (dmn x1))) cx1) (.int .i64 (dex x1))
                      have Rou_23 : BoxA (((W22.setCell ⟨nbin, 0, none⟩ (.bool (sg (dmn x1)))).setCell ⟨nbin, 1, none⟩ (.slice Xx1 (nl (mg (dmn x1))) cx1)).setCell ⟨nbin, 2, none⟩ (.int .i64 (dex x1))) _ _ _ := Rou.other3 (by simp <;> omega)
                      have hx0_23 := Rin.keep3 (v0 := .bool (sg (dmn x1))) (v1 := .slice Xx1 (nl (mg (dmn x1))) cx1) (v2 := .int .i64 (dex x1)) (nuB rfl) hx0
                      have hx1_23 := Rin.keep3 (v0 := .bool (sg (dmn x1))) (v1 := .slice Xx1 (nl (mg (dmn x1))) cx1) (v2 := .int .i64 (dex x1)) (nuB rfl) hx1
                      have HQ2_23 := Below.store3 (v0 := .bool (sg (dmn x1))) (v1 := .slice Xx1 (nl (mg (dmn x1))) cx1) (v2 := .int .i64 (dex x1)) HQ2 (k := nbin) (by first | exact Nat.le_refl _ | omega)
                      have hin_23 := Rin.keep3 (v0 := .bool (sg (dmn x1))) (v1 := .slice Xx1 (nl (mg (dmn x1))) cx1) (v2 := .int .i64 (dex x1)) (nuB rfl) hin
                      have hou_23 := Rin.keep3 (v0 := .bool (sg (dmn x1))) (v1 := .slice Xx1 (nl (mg (dmn x1))) cx1) (v2 := .int .i64 (dex x1)) (nuB rfl) hou
                      have ql0_23 := Rl_23.c (i := 0) rfl
                      have ql1_23 := Rl_23.c (i := 1) rfl
                      have ql2_23 := Rl_23.c (i := 2) rfl
                      have ql3_23 := Rl_23.c (i := 3) rfl
                      have ql4_23 := Rl_23.c (i := 4) rfl
                      have ql5_23 := Rl_23.c (i := 5) rfl
                      have qin0_23 := Rin_23.c (i := 0) rfl
                      have qin1_23 := Rin_23.c (i := 1) rfl
                      have qin2_23 := Rin_23.c (i := 2) rfl
                      have qou0_23 := Rou_23.c (i := 0) rfl
                      have qou1_23 := Rou_23.c (i := 1) rfl
                      have qou2_23 := Rou_23.c (i := 2) rfl
                      have HBT_23 := Below.store3 (v0 := .bool (sg (dmn x1))) (v1 := .slice Xx1 (nl (mg (dmn x1))) cx1) (v2 := .int .i64 (dex x1)) HBT (k := nbin) (by first | exact Nat.le_refl _ | omega)
                      have fou0_24 := Rou_23.f (i := 0)
                      have fou1_24 := Rou_23.f (i := 1)
                      have fou2_24 := Rou_23.f (i := 2)
                      have Rl_24 : BoxA ((((((W22.setCell ⟨nbin, 0, none⟩ (.bool (sg (dmn x1)))).setCell ⟨nbin, 1, none⟩ (.slice Xx1 (nl (mg (dmn x1))) cx1)).setCell ⟨nbin, 2, none⟩ (.int .i64 (dex x1))).setCell ⟨nbou, 0, none⟩ (.bool (sg (dmn x0)))).setCell ⟨nbou, 1, none⟩ (.slice Xx0 (nl (mg (dmn x0))) cx0)).setCell ⟨nbou, 2, none⟩ (.int .i64 (dex x0))) _ _ _ := Rl_23.other3 (by simp <;> omega)
                      have Rin_24 : BoxA ((((((W22.setCell ⟨nbin, 0, none⟩ (.bool (sg (dmn x1)))).setCell ⟨nbin, 1, none⟩ (.slice Xx1 (nl (mg (dmn x1))) cx1)).setCell ⟨nbin, 2, none⟩ (.int .i64 (dex x1))).setCell ⟨nbou, 0, none⟩ (.bool (sg (dmn x0)))).setCell ⟨nbou, 1, none⟩ (.slice Xx0 (nl (mg (dmn x0))) cx0)).setCell ⟨nbou, 2, none⟩ (.int .i64 (dex x0))) _ _ _ := Rin_23.other3 (by simp <;> omega)
                      have Rou_24 := Rou_23.store3 (.bool (sg (dmn x0))) (.slice Xx0 (nl (mg (dmn x0))) cx0) (.int .i64 (dex x0))
                      have hx0_24 := Rou_23.keep3 (v0 := .bool (sg (dmn x0))) (v1 := .slice Xx0 (nl (mg (dmn x0))) cx0) (v2 := .int .i64 (dex x0)) (nuB rfl) hx0_23
                      have hx1_24 := Rou_23.keep3 (v0 := .bool (sg (dmn x0))) (v1 := .slice Xx0 (nl (mg (dmn x0))) cx0) (v2 := .int .i64 (dex x0)) (nuB rfl) hx1_23
                      have HQ2_24 := Below.store3 (v0 := .bool (sg (dmn x0))) (v1 := .slice Xx0 (nl (mg (dmn x0))) cx0) (v2 := .int .i64 (dex x0)) HQ2_23 (k := nbou) (by first | exact Nat.le_refl _ | omega)
                      have hin_24 := Rou_23.keep3 (v0 := .bool (sg (dmn x0))) (v1 := .slice Xx0 (nl (mg (dmn x0))) cx0) (v2 := .int .i64 (dex x0)) (nuB rfl) hin_23
                      have hou_24 := Rou_23.keep3 (v0 := .bool (sg (dmn x0))) (v1 := .slice Xx0 (nl (mg (dmn x0))) cx0) (v2 := .int .i64 (dex x0)) (nuB rfl) hou_23
                      have ql0_24 := Rl_24.c (i := 0) rfl
                      have ql1_24 := Rl_24.c (i := 1) rfl
                      have ql2_24 := Rl_24.c (i := 2) rfl
                      have ql3_24 := Rl_24.c (i := 3) rfl
                      have ql4_24 := Rl_24.c (i := 4) rfl
                      have ql5_24 := Rl_24.c (i := 5) rfl
                      have qin0_24 := Rin_24.c (i := 0) rfl
                      have qin1_24 := Rin_24.c (i := 1) rfl
                      have qin2_24 := Rin_24.c (i := 2) rfl
                      have qou0_24 := Rou_24.c (i := 0) rfl
                      have qou1_24 := Rou_24.c (i := 1) rfl
                      have qou2_24 := Rou_24.c (i := 2) rfl
                      have HBT_24 := Below.store3 (v0 := .bool (sg (dmn x0))) (v1 := .slice Xx0 (nl (mg (dmn x0))) cx0) (v2 := .int .i64 (dex x0)) HBT_23 (k := nbou) (by first | exact Nat.le_refl _ | omega)
                      replace ltl := Lib.hid ltl
                      replace hno := Lib.hid hno
                      replace hw16 := Lib.hid hw16
                      go_wp2_with (fail)
                      go_meet
                      rw [e2.out, e3.out]
                      exact ⟨Xx1, cx1, Xx0, cx0, Rin_24, Rou_24, hx1_24, hx0_24, HQ2_24⟩
                    · skip
                      have t1 : decide (sv < 0) = false := by rw [Esv.out, decide_eq_false_iff_not, Int.sign_neg_iff]; exact fun e => hv (num_neg.2 e)
                      have e2 : x2 = x0 := by rw [Ex2.out, hr2, if_neg hv, e0.out, Enn.out]
                      have e3 : x3 = x1 := by rw [Ex3.out, hr3, if_neg hv, e1.out, Enn.out]
                      clear hv hr2 hr3
                      replace e2 := Lib.hid e2
                      replace e3 := Lib.hid e3
                      simp only [t1]
                      go_wp2_with (fail)
                      go_meet
                      rw [e2.out, e3.out]
                      exact ⟨Xin, cin, Xou, cou, Rin, Rou, hin, hou, HQ2⟩
                  case rest =>
                    obtain ⟨Xin', cin', Xou', cou', Rin', Rou', hin', hou', hbq⟩ := hcut
                    clear hT hv2 gv2 Rv Rl hx0 hx1 hx2 hx3 hx4 hst gst Rst hlo glo Rlo hup gup Rup hnr gnr Rnr hfb gfb Rfb HQ2 hin hou Rin Rou HBT
                    have hT := yhT
                    clear yhT
                    have hv2 := yhv2
                    clear yhv2
                    have gv2 := ygv2
                    clear ygv2
                    have Rv := yRv
                    clear yRv
                    have qv0 := yqv0
                    clear yqv0
                    have qv1 := yqv1
                    clear yqv1
                    have qv2 := yqv2
                    clear yqv2
                    have Rl := yRl
                    clear yRl
                    have hx0 := yhx0
                    clear yhx0
                    have hx1 := yhx1
                    clear yhx1
                    have hx2 := yhx2
                    clear yhx2
                    have hx3 := yhx3
                    clear yhx3
                    have hx4 := yhx4
                    clear yhx4
                    have hst := yhst
                    clear yhst
                    have gst := ygst
                    clear ygst
                    have Rst := yRst
                    clear yRst
                    have hlo := yhlo
                    clear yhlo
                    have glo := yglo
                    clear yglo
                    have Rlo := yRlo
                    clear yRlo
                    have hup := yhup
                    clear yhup
                    have gup := ygup
                    clear ygup
                    have Rup := yRup
                    clear yRup
                    have hnr := yhnr
                    clear yhnr
                    have gnr := ygnr
                    clear ygnr
                    have Rnr := yRnr
                    clear yRnr
                    have hfb := yhfb
                    clear yhfb
                    have gfb := ygfb
                    clear ygfb
                    have Rfb := yRfb
                    clear yRfb
                    have HBT := yHBT
                    clear yHBT
                    replace hT := hT.below hbq
                    replace hv2 := hv2.below hbq
                    replace gv2 := gv2.below hbq
                    replace Rv := Rv.below hbq
                    replace qv0 := cbl hbq qv0
                    replace qv1 := cbl hbq qv1
                    replace qv2 := cbl hbq qv2
                    replace Rl := Rl.below hbq
                    replace hx0 := hx0.below hbq
                    replace hx1 := hx1.below hbq
                    replace hx2 := hx2.below hbq
                    replace hx3 := hx3.below hbq
                    replace hx4 := hx4.below hbq
                    replace hst := hst.below hbq
                    replace gst := gst.below hbq
                    replace Rst := Rst.below hbq
                    replace hlo := hlo.below hbq
                    replace glo := glo.below hbq
                    replace Rlo := Rlo.below hbq
                    replace hup := hup.below hbq
                    replace gup := gup.below hbq
                    replace Rup := Rup.below hbq
                    replace hnr := hnr.below hbq
                    replace gnr := gnr.below hbq
                    replace Rnr := Rnr.below hbq
                    replace hfb := hfb.below hbq
                    replace gfb := gfb.below hbq
                    replace Rfb := Rfb.below hbq
                    replace HBT := Below.cons HBT hbq
                    clear hbq
                    clear hr2 hr3
                    obtain ⟨k1, Ek1⟩ : ∃ z : Int, z = rcmp lo v2 := ⟨_, rfl⟩
                    have tk1 : decide (k1 ≤ 0) = true := by rw [Ek1, Elo.out, e0.out]; exact rcmp_le (side_low _ _)
                    replace Ek1 := Lib.hid Ek1
                    obtain ⟨k2, Ek2⟩ : ∃ z : Int, z = rcmp up v2 := ⟨_, rfl⟩
                    have tk2 : decide (0 ≤ k2) = true := by rw [Ek2, Eup.out, e1.out]; exact rcmp_ge (side_high _ _)
                    replace Ek2 := Lib.hid Ek2
                    obtain ⟨k3, Ek3⟩ : ∃ z : Int, z = rcmp (lo + st) v2 := ⟨_, rfl⟩
                    have tk3 : decide (0 < k3) = true := by rw [Ek3, Elo.out, e0.out, es.out]; exact rcmp_gt (side_low1 _ _)
                    replace Ek3 := Lib.hid Ek3
                    obtain ⟨k4, Ek4⟩ : ∃ z : Int, z = rcmp (up - st) v2 := ⟨_, rfl⟩
                    have tk4 : decide (k4 < 0) = true := by rw [Ek4, Eup.out, e1.out, es.out]; exact rcmp_lt (side_high1 _ _)
                    replace Ek4 := Lib.hid Ek4
                    obtain ⟨k5, Ek5⟩ : ∃ z : Int, z = rcmp (fb + fb) st := ⟨_, rfl⟩
                    have tk5 : decide (k5 ≤ 0) = true := by rw [Ek5, Efb.out, Efa.out, Enr.out, Ex4.out, Enn.out, es.out]; exact rcmp_le (side_far _ _)
                    replace Ek5 := Lib.hid Ek5
                    have hnear := rnd_near (v2 * (2 : Rat) ^ n)
                    have hn4 : x4 = x0 ∨ x4 = x1 := by rcases hnear with k | k; (left; rw [Ex4.out, k, e0.out, Enn.out]); (right; rw [Ex4.out, k, e1.out, Enn.out])
                    clear hnear
                    clear qv0
                    clear qv1
                    clear qv2
                    go_wp2_with (fail)
                    rcases Decidable.em (x4 = x0) with hq | hq
                    · skip
                      replace hq := Lib.hid hq
                      replace hn4 := Lib.hid hn4
                      have hd23 := drb (wc)
                      replace hT := hT.below hd23
                      replace hv2 := hv2.below hd23
                      replace gv2 := gv2.below hd23
                      replace Rv := Rv.below hd23
                      replace Rl := Rl.below hd23
                      replace hx0 := hx0.below hd23
                      replace hx1 := hx1.below hd23
                      replace hx2 := hx2.below hd23
                      replace hx3 := hx3.below hd23
                      replace hx4 := hx4.below hd23
                      replace hst := hst.below hd23
                      replace gst := gst.below hd23
                      replace Rst := Rst.below hd23
                      replace hlo := hlo.below hd23
                      replace glo := glo.below hd23
                      replace Rlo := Rlo.below hd23
                      replace hup := hup.below hd23
                      replace gup := gup.below hd23
                      replace Rup := Rup.below hd23
                      replace hnr := hnr.below hd23
                      replace gnr := gnr.below hd23
                      replace Rnr := Rnr.below hd23
                      replace hfb := hfb.below hd23
                      replace gfb := gfb.below hd23
                      replace Rfb := Rfb.below hd23
                      replace hin' := hin'.below hd23
                      replace hou' := hou'.below hd23
                      replace Rin' := Rin'.below hd23
                      replace Rou' := Rou'.below hd23
                      replace HBT := Below.cons HBT hd23
                      clear hd23
                      have C23_0 := fun (W : World) (A0 : Option Addr) (c0 : Nat) (B0 : Option Addr) (d0 : Nat) (A1 : Option Addr) (c1 : Nat) (B1 : Option Addr) (d1 : Nat) (h0 : NatV W A0 c0 (mg lo.num)) (g0 : NatV W B0 d0 lo.den) (h1 : NatV W A1 c1 (mg v2.num)) (g1 : NatV W B1 d1 v2.den) => (show Calls Tryz.prog 22 #[.agg #[.bool (sg lo.num), .slice A0 (nl (mg lo.num)) c0, .slice B0 (nl lo.den) d0], .agg #[.bool (sg v2.num), .slice A1 (nl (mg v2.num)) c1, .slice B1 (nl v2.den) d1]] W (fun e w' => e = .returned (.int .i64 k1) ∧ Below W.heap.size W w') by rw [Ek1.out]; exact r9cmp_c A0 c0 B0 d0 lo A1 c1 B1 d1 v2 W h0 g0 h1 g1 (by omega) (by omega) (by omega) (by omega))
                      replace C23_0 := Lib.hid C23_0
                      have C23_1 := fun (W : World) (A0 : Option Addr) (c0 : Nat) (B0 : Option Addr) (d0 : Nat) (A1 : Option Addr) (c1 : Nat) (B1 : Option Addr) (d1 : Nat) (h0 : NatV W A0 c0 (mg up.num)) (g0 : NatV W B0 d0 up.den) (h1 : NatV W A1 c1 (mg v2.num)) (g1 : NatV W B1 d1 v2.den) => (show Calls Tryz.prog 22 #[.agg #[.bool (sg up.num), .slice A0 (nl (mg up.num)) c0, .slice B0 (nl up.den) d0], .agg #[.bool (sg v2.num), .slice A1 (nl (mg v2.num)) c1, .slice B1 (nl v2.den) d1]] W (fun e w' => e = .returned (.int .i64 k2) ∧ Below W.heap.size W w') by rw [Ek2.out]; exact r9cmp_c A0 c0 B0 d0 up A1 c1 B1 d1 v2 W h0 g0 h1 g1 (by omega) (by omega) (by omega) (by omega))
                      replace C23_1 := Lib.hid C23_1
                      obtain ⟨a1, Ea1⟩ : ∃ zq : Rat, zq = lo + st := ⟨_, rfl⟩
                      have Na1 := add_szg Nlo.1 Nlo.2 Nst.1 Nst.2
                      rw [← Ea1] at Na1
                      have C23_2 := fun (W : World) (A0 : Option Addr) (c0 : Nat) (B0 : Option Addr) (d0 : Nat) (A1 : Option Addr) (c1 : Nat) (B1 : Option Addr) (d1 : Nat) (h0 : NatV W A0 c0 (mg lo.num)) (g0 : NatV W B0 d0 lo.den) (h1 : NatV W A1 c1 (mg st.num)) (g1 : NatV W B1 d1 st.den) => (show Calls Tryz.prog 23 #[.agg #[.bool (sg lo.num), .slice A0 (nl (mg lo.num)) c0, .slice B0 (nl lo.den) d0], .agg #[.bool (sg st.num), .slice A1 (nl (mg st.num)) c1, .slice B1 (nl st.den) d1]] W (RetR W a1) by rw [Ea1]; exact r9add_c A0 c0 B0 d0 lo A1 c1 B1 d1 st W h0 g0 h1 g1 (by omega) (by omega) (by omega) (by omega))
                      replace Ea1 := Lib.hid Ea1
                      replace C23_2 := Lib.hid C23_2
                      have C23_3 := fun (W : World) (A0 : Option Addr) (c0 : Nat) (B0 : Option Addr) (d0 : Nat) (A1 : Option Addr) (c1 : Nat) (B1 : Option Addr) (d1 : Nat) (h0 : NatV W A0 c0 (mg a1.num)) (g0 : NatV W B0 d0 a1.den) (h1 : NatV W A1 c1 (mg v2.num)) (g1 : NatV W B1 d1 v2.den) => (show Calls Tryz.prog 22 #[.agg #[.bool (sg a1.num), .slice A0 (nl (mg a1.num)) c0, .slice B0 (nl a1.den) d0], .agg #[.bool (sg v2.num), .slice A1 (nl (mg v2.num)) c1, .slice B1 (nl v2.den) d1]] W (fun e w' => e = .returned (.int .i64 k3) ∧ Below W.heap.size W w') by rw [Ek3.out, ← Ea1.out]; exact r9cmp_c A0 c0 B0 d0 a1 A1 c1 B1 d1 v2 W h0 g0 h1 g1 (by omega) (by omega) (by omega) (by omega))
                      replace C23_3 := Lib.hid C23_3
                      obtain ⟨a2, Ea2⟩ : ∃ zq : Rat, zq = up - st := ⟨_, rfl⟩
                      have Na2 := sub_szg Nup.1 Nup.2 Nst.1 Nst.2
                      rw [← Ea2] at Na2
                      have C23_4 := fun (W : World) (A0 : Option Addr) (c0 : Nat) (B0 : Option Addr) (d0 : Nat) (A1 : Option Addr) (c1 : Nat) (B1 : Option Addr) (d1 : Nat) (h0 : NatV W A0 c0 (mg up.num)) (g0 : NatV W B0 d0 up.den) (h1 : NatV W A1 c1 (mg st.num)) (g1 : NatV W B1 d1 st.den) => (show Calls Tryz.prog 19 #[.agg #[.bool (sg up.num), .slice A0 (nl (mg up.num)) c0, .slice B0 (nl up.den) d0], .agg #[.bool (sg st.num), .slice A1 (nl (mg st.num)) c1, .slice B1 (nl st.den) d1]] W (RetR W a2) by rw [Ea2]; exact r9sub_c A0 c0 B0 d0 up A1 c1 B1 d1 st W h0 g0 h1 g1 (by omega) (by omega) (by omega) (by omega))
                      replace Ea2 := Lib.hid Ea2
                      replace C23_4 := Lib.hid C23_4
                      have C23_5 := fun (W : World) (A0 : Option Addr) (c0 : Nat) (B0 : Option Addr) (d0 : Nat) (A1 : Option Addr) (c1 : Nat) (B1 : Option Addr) (d1 : Nat) (h0 : NatV W A0 c0 (mg a2.num)) (g0 : NatV W B0 d0 a2.den) (h1 : NatV W A1 c1 (mg v2.num)) (g1 : NatV W B1 d1 v2.den) => (show Calls Tryz.prog 22 #[.agg #[.bool (sg a2.num), .slice A0 (nl (mg a2.num)) c0, .slice B0 (nl a2.den) d0], .agg #[.bool (sg v2.num), .slice A1 (nl (mg v2.num)) c1, .slice B1 (nl v2.den) d1]] W (fun e w' => e = .returned (.int .i64 k4) ∧ Below W.heap.size W w') by rw [Ek4.out, ← Ea2.out]; exact r9cmp_c A0 c0 B0 d0 a2 A1 c1 B1 d1 v2 W h0 g0 h1 g1 (by omega) (by omega) (by omega) (by omega))
                      replace C23_5 := Lib.hid C23_5
                      have C23_6 := fun (W : World) (A0 : Option Addr) (c0 : Nat) (A1 : Option Addr) (c1 : Nat) (h0 : NatV W A0 c0 (mg (dmn x2))) (h1 : NatV W A1 c1 (mg (dmn x2)))  => (show Calls Tryz.prog 24 #[.agg #[.bool (sg (dmn x2)), .slice A0 (nl (mg (dmn x2))) c0, .int .i64 (dex x2)], .agg #[.bool (sg (dmn x2)), .slice A1 (nl (mg (dmn x2))) c1, .int .i64 (dex x2)]] W (fun e w' => e = .returned (.bool true) ∧ Below W.heap.size W w') by exact tsameT_c A0 c0 x2 A1 c1 x2 W h0 h1 (Ox2.ok (by decide) (by decide)) (by exact rfl))
                      replace C23_6 := Lib.hid C23_6
                      have C23_7 := fun (W : World) (A0 : Option Addr) (c0 : Nat) (A1 : Option Addr) (c1 : Nat) (h0 : NatV W A0 c0 (mg (dmn x3))) (h1 : NatV W A1 c1 (mg (dmn x3)))  => (show Calls Tryz.prog 24 #[.agg #[.bool (sg (dmn x3)), .slice A0 (nl (mg (dmn x3))) c0, .int .i64 (dex x3)], .agg #[.bool (sg (dmn x3)), .slice A1 (nl (mg (dmn x3))) c1, .int .i64 (dex x3)]] W (fun e w' => e = .returned (.bool true) ∧ Below W.heap.size W w') by exact tsameT_c A0 c0 x3 A1 c1 x3 W h0 h1 (Ox3.ok (by decide) (by decide)) (by exact rfl))
                      replace C23_7 := Lib.hid C23_7
                      have C23_8 := fun (W : World) (A0 : Option Addr) (c0 : Nat) (A1 : Option Addr) (c1 : Nat) (h0 : NatV W A0 c0 (mg (dmn x4))) (h1 : NatV W A1 c1 (mg (dmn x0)))  => (show Calls Tryz.prog 24 #[.agg #[.bool (sg (dmn x4)), .slice A0 (nl (mg (dmn x4))) c0, .int .i64 (dex x4)], .agg #[.bool (sg (dmn x0)), .slice A1 (nl (mg (dmn x0))) c1, .int .i64 (dex x0)]] W (fun e w' => e = .returned (.bool true) ∧ Below W.heap.size W w') by exact tsameT_c A0 c0 x4 A1 c1 x0 W h0 h1 (Ox4.ok (by decide) (by decide)) (by exact hq.out))
                      replace C23_8 := Lib.hid C23_8
                      obtain ⟨a3, Ea3⟩ : ∃ zq : Rat, zq = fb + fb := ⟨_, rfl⟩
                      have Na3 := add_szg Nfb.1 Nfb.2 Nfb.1 Nfb.2
                      rw [← Ea3] at Na3
                      have C23_9 := fun (W : World) (A0 : Option Addr) (c0 : Nat) (B0 : Option Addr) (d0 : Nat) (A1 : Option Addr) (c1 : Nat) (B1 : Option Addr) (d1 : Nat) (h0 : NatV W A0 c0 (mg fb.num)) (g0 : NatV W B0 d0 fb.den) (h1 : NatV W A1 c1 (mg fb.num)) (g1 : NatV W B1 d1 fb.den) => (show Calls Tryz.prog 23 #[.agg #[.bool (sg fb.num), .slice A0 (nl (mg fb.num)) c0, .slice B0 (nl fb.den) d0], .agg #[.bool (sg fb.num), .slice A1 (nl (mg fb.num)) c1, .slice B1 (nl fb.den) d1]] W (RetR W a3) by rw [Ea3]; exact r9add_c A0 c0 B0 d0 fb A1 c1 B1 d1 fb W h0 g0 h1 g1 (by omega) (by omega) (by omega) (by omega))
                      replace Ea3 := Lib.hid Ea3
                      replace C23_9 := Lib.hid C23_9
                      have C23_10 := fun (W : World) (A0 : Option Addr) (c0 : Nat) (B0 : Option Addr) (d0 : Nat) (A1 : Option Addr) (c1 : Nat) (B1 : Option Addr) (d1 : Nat) (h0 : NatV W A0 c0 (mg a3.num)) (g0 : NatV W B0 d0 a3.den) (h1 : NatV W A1 c1 (mg st.num)) (g1 : NatV W B1 d1 st.den) => (show Calls Tryz.prog 22 #[.agg #[.bool (sg a3.num), .slice A0 (nl (mg a3.num)) c0, .slice B0 (nl a3.den) d0], .agg #[.bool (sg st.num), .slice A1 (nl (mg st.num)) c1, .slice B1 (nl st.den) d1]] W (fun e w' => e = .returned (.int .i64 k5) ∧ Below W.heap.size W w') by rw [Ek5.out, ← Ea3.out]; exact r9cmp_c A0 c0 B0 d0 a3 A1 c1 B1 d1 st W h0 g0 h1 g1 (by omega) (by omega) (by omega) (by omega))
                      replace C23_10 := Lib.hid C23_10
                      obtain ⟨S, hS⟩ : ∃ S : World → Prop, S = fun W => W.cell? ⟨nblo, 0, none⟩ = some (.bool (sg lo.num)) ∧ W.cell? ⟨nblo, 1, none⟩ = some (.slice Xlo (nl (mg lo.num)) clo) ∧ W.cell? ⟨nblo, 2, none⟩ = some (.slice Ylo (nl lo.den) dlo) ∧ W.cell? ⟨W3.heap.size, 0, none⟩ = some (.bool (sg v2.num)) ∧ W.cell? ⟨W3.heap.size, 1, none⟩ = some (.slice Xv2 (nl (mg v2.num)) cv2) ∧ W.cell? ⟨W3.heap.size, 2, none⟩ = some (.slice Yv2 (nl v2.den) dv2) ∧ W.cell? ⟨nbup, 0, none⟩ = some (.bool (sg up.num)) ∧ W.cell? ⟨nbup, 1, none⟩ = some (.slice Xup (nl (mg up.num)) cup) ∧ W.cell? ⟨nbup, 2, none⟩ = some (.slice Yup (nl up.den) dup) ∧ W.cell? ⟨W17.heap.size, 0, none⟩ = some (.bool (sg st.num)) ∧ W.cell? ⟨W17.heap.size, 1, none⟩ = some (.slice Xst (nl (mg st.num)) cst) ∧ W.cell? ⟨W17.heap.size, 2, none⟩ = some (.slice Yst (nl st.den) dst) ∧ W.cell? ⟨(W3.heap.size + 1), 0, none⟩ = some (.bool (sg (dmn x0))) ∧ W.cell? ⟨(W3.heap.size + 1), 1, none⟩ = some (.slice Xx0 (nl (mg (dmn x0))) cx0) ∧ W.cell? ⟨(W3.heap.size + 1), 2, none⟩ = some (.int .i64 (dex x0)) ∧ W.cell? ⟨(W3.heap.size + 1), 3, none⟩ = some (.bool (sg (dmn x1))) ∧ W.cell? ⟨(W3.heap.size + 1), 4, none⟩ = some (.slice Xx1 (nl (mg (dmn x1))) cx1) ∧ W.cell? ⟨(W3.heap.size + 1), 5, none⟩ = some (.int .i64 (dex x1)) ∧ W.cell? ⟨(W3.heap.size + 1), 6, none⟩ = some (.bool (sg (dmn x2))) ∧ W.cell? ⟨(W3.heap.size + 1), 7, none⟩ = some (.slice Xx2 (nl (mg (dmn x2))) cx2) ∧ W.cell? ⟨(W3.heap.size + 1), 8, none⟩ = some (.int .i64 (dex x2)) ∧ W.cell? ⟨(W3.heap.size + 1), 9, none⟩ = some (.bool (sg (dmn x3))) ∧ W.cell? ⟨(W3.heap.size + 1), 10, none⟩ = some (.slice Xx3 (nl (mg (dmn x3))) cx3) ∧ W.cell? ⟨(W3.heap.size + 1), 11, none⟩ = some (.int .i64 (dex x3)) ∧ W.cell? ⟨(W3.heap.size + 1), 12, none⟩ = some (.bool (sg (dmn x4))) ∧ W.cell? ⟨(W3.heap.size + 1), 13, none⟩ = some (.slice Xx4 (nl (mg (dmn x4))) cx4) ∧ W.cell? ⟨(W3.heap.size + 1), 14, none⟩ = some (.int .i64 (dex x4)) ∧ W.cell? ⟨nbin, 0, none⟩ = some (.bool (sg (dmn x2))) ∧ W.cell? ⟨nbin, 1, none⟩ = some (.slice Xin' (nl (mg (dmn x2))) cin') ∧ W.cell? ⟨nbin, 2, none⟩ = some (.int .i64 (dex x2)) ∧ W.cell? ⟨nbou, 0, none⟩ = some (.bool (sg (dmn x3))) ∧ W.cell? ⟨nbou, 1, none⟩ = some (.slice Xou' (nl (mg (dmn x3))) cou') ∧ W.cell? ⟨nbou, 2, none⟩ = some (.int .i64 (dex x3)) ∧ W.cell? ⟨W19.heap.size, 0, none⟩ = some (.bool (sg fb.num)) ∧ W.cell? ⟨W19.heap.size, 1, none⟩ = some (.slice Xfb (nl (mg fb.num)) cfb) ∧ W.cell? ⟨W19.heap.size, 2, none⟩ = some (.slice Yfb (nl fb.den) dfb) := ⟨_, rfl⟩
                      have HSq : S (wc).drew := by rw [hS]; exact ⟨(Rlo.c (i := 0) rfl), (Rlo.c (i := 1) rfl), (Rlo.c (i := 2) rfl), (Rv.c (i := 0) rfl), (Rv.c (i := 1) rfl), (Rv.c (i := 2) rfl), (Rup.c (i := 0) rfl), (Rup.c (i := 1) rfl), (Rup.c (i := 2) rfl), (Rst.c (i := 0) rfl), (Rst.c (i := 1) rfl), (Rst.c (i := 2) rfl), (Rl.c (i := 0) rfl), (Rl.c (i := 1) rfl), (Rl.c (i := 2) rfl), (Rl.c (i := 3) rfl), (Rl.c (i := 4) rfl), (Rl.c (i := 5) rfl), (Rl.c (i := 6) rfl), (Rl.c (i := 7) rfl), (Rl.c (i := 8) rfl), (Rl.c (i := 9) rfl), (Rl.c (i := 10) rfl), (Rl.c (i := 11) rfl), (Rl.c (i := 12) rfl), (Rl.c (i := 13) rfl), (Rl.c (i := 14) rfl), (Rin'.c (i := 0) rfl), (Rin'.c (i := 1) rfl), (Rin'.c (i := 2) rfl), (Rou'.c (i := 0) rfl), (Rou'.c (i := 1) rfl), (Rou'.c (i := 2) rfl), (Rfb.c (i := 0) rfl), (Rfb.c (i := 1) rfl), (Rfb.c (i := 2) rfl)⟩
                      have hSb : ∀ W W' : World, Below W.heap.size W W' → S W → S W' := by rw [hS]; exact fun W W' hb h => ⟨cell_below hb h.1, cell_below hb h.2.1, cell_below hb h.2.2.1, cell_below hb h.2.2.2.1, cell_below hb h.2.2.2.2.1, cell_below hb h.2.2.2.2.2.1, cell_below hb h.2.2.2.2.2.2.1, cell_below hb h.2.2.2.2.2.2.2.1, cell_below hb h.2.2.2.2.2.2.2.2.1, cell_below hb h.2.2.2.2.2.2.2.2.2.1, cell_below hb h.2.2.2.2.2.2.2.2.2.2.1, cell_below hb h.2.2.2.2.2.2.2.2.2.2.2.1, cell_below hb h.2.2.2.2.2.2.2.2.2.2.2.2.1, cell_below hb h.2.2.2.2.2.2.2.2.2.2.2.2.2.1, cell_below hb h.2.2.2.2.2.2.2.2.2.2.2.2.2.2.1, cell_below hb h.2.2.2.2.2.2.2.2.2.2.2.2.2.2.2.1, cell_below hb h.2.2.2.2.2.2.2.2.2.2.2.2.2.2.2.2.1, cell_below hb h.2.2.2.2.2.2.2.2.2.2.2.2.2.2.2.2.2.1, cell_below hb h.2.2.2.2.2.2.2.2.2.2.2.2.2.2.2.2.2.2.1, cell_below hb h.2.2.2.2.2.2.2.2.2.2.2.2.2.2.2.2.2.2.2.1, cell_below hb h.2.2.2.2.2.2.2.2.2.2.2.2.2.2.2.2.2.2.2.2.1, cell_below hb h.2.2.2.2.2.2.2.2.2.2.2.2.2.2.2.2.2.2.2.2.2.1, cell_below hb h.2.2.2.2.2.2.2.2.2.2.2.2.2.2.2.2.2.2.2.2.2.2.1, cell_below hb h.2.2.2.2.2.2.2.2.2.2.2.2.2.2.2.2.2.2.2.2.2.2.2.1, cell_below hb h.2.2.2.2.2.2.2.2.2.2.2.2.2.2.2.2.2.2.2.2.2.2.2.2.1, cell_below hb h.2.2.2.2.2.2.2.2.2.2.2.2.2.2.2.2.2.2.2.2.2.2.2.2.2.1, cell_below hb h.2.2.2.2.2.2.2.2.2.2.2.2.2.2.2.2.2.2.2.2.2.2.2.2.2.2.1, cell_below hb h.2.2.2.2.2.2.2.2.2.2.2.2.2.2.2.2.2.2.2.2.2.2.2.2.2.2.2.1, cell_below hb h.2.2.2.2.2.2.2.2.2.2.2.2.2.2.2.2.2.2.2.2.2.2.2.2.2.2.2.2.1, cell_below hb h.2.2.2.2.2.2.2.2.2.2.2.2.2.2.2.2.2.2.2.2.2.2.2.2.2.2.2.2.2.1, cell_below hb h.2.2.2.2.2.2.2.2.2.2.2.2.2.2.2.2.2.2.2.2.2.2.2.2.2.2.2.2.2.2.1, cell_below hb h.2.2.2.2.2.2.2.2.2.2.2.2.2.2.2.2.2.2.2.2.2.2.2.2.2.2.2.2.2.2.2.1, cell_below hb h.2.2.2.2.2.2.2.2.2.2.2.2.2.2.2.2.2.2.2.2.2.2.2.2.2.2.2.2.2.2.2.2.1, cell_below hb h.2.2.2.2.2.2.2.2.2.2.2.2.2.2.2.2.2.2.2.2.2.2.2.2.2.2.2.2.2.2.2.2.2.1, cell_below hb h.2.2.2.2.2.2.2.2.2.2.2.2.2.2.2.2.2.2.2.2.2.2.2.2.2.2.2.2.2.2.2.2.2.2.1, cell_below hb h.2.2.2.2.2.2.2.2.2.2.2.2.2.2.2.2.2.2.2.2.2.2.2.2.2.2.2.2.2.2.2.2.2.2.2⟩
                      replace hSb := Lib.hid hSb
                      replace hS := Lib.hid hS
                      refine wp_region_seq S [(0, true), (1, true), (2, false), (3, true), (4, true), (5, true), (6, true), (7, false), (8, true), (9, true), (10, true), (11, true), (12, true), (14, true), (13, false), (15, false), (16, true), (17, true), (18, true), (19, true), (20, true), (22, true), (21, false), (23, false), (24, true), (25, true), (26, true), (27, true), (28, true), (29, true), (30, false), (31, true), (32, true), (33, true), (34, true), (35, true), (36, false), (37, true), (38, true), (39, true), (40, true), (41, true), (42, true), (43, false), (44, true), (45, true), (46, true), (47, true), (48, true), (49, true), (50, true), (51, true), (52, true), (53, true), (54, true), (56, true), (55, false), (57, false), (58, true), (59, true), (60, true), (61, true), (62, true), (63, true)] (by kernel_rfl) (by kernel_rfl) (by kernel_rfl) HSq (fun hSq => ?_)
                      clear hSq
                      replace HSq := Lib.hid HSq
                      clear Rlo Rv Rup Rst Rl Rin' Rou' Rfb
                      refine SeqP.take (v := ?_) rfl (fun _ _ _ h => h) (Or.inl ⟨by rfl, ?_⟩) ?_
                      rotate_left 1
                      · intro wq hSw; rw [hS.out] at hSw; (try dsimp only at hSw); go_simp; try with_reducible rfl
                      try simp only [Act.put, List.setIfInBounds_toArray, List.set_cons_zero, List.set_cons_succ]
                      refine SeqP.take (v := ?_) rfl (fun _ _ _ h => h) (Or.inl ⟨by rfl, ?_⟩) ?_
                      rotate_left 1
                      · intro wq hSw; rw [hS.out] at hSw; (try dsimp only at hSw); go_simp; try with_reducible rfl
                      try simp only [Act.put, List.setIfInBounds_toArray, List.set_cons_zero, List.set_cons_succ]
                      refine SeqP.call rfl (by rfl) (fun Kq hKq => ?_)
                      go_simp
                      go_at_call 22
                      with_reducible refine (C23_0.out _ _ _ _ _ _ _ _ _ hlo glo hv2 gv2).mono ?_
                      rintro e W24 ⟨rfl, hb24⟩
                      replace hT := hT.below hb24
                      replace hv2 := hv2.below hb24
                      replace gv2 := gv2.below hb24
                      replace hx0 := hx0.below hb24
                      replace hx1 := hx1.below hb24
                      replace hx2 := hx2.below hb24
                      replace hx3 := hx3.below hb24
                      replace hx4 := hx4.below hb24
                      replace hst := hst.below hb24
                      replace gst := gst.below hb24
                      replace hlo := hlo.below hb24
                      replace glo := glo.below hb24
                      replace hup := hup.below hb24
                      replace gup := gup.below hb24
                      replace hnr := hnr.below hb24
                      replace gnr := gnr.below hb24
                      replace Rnr := Rnr.below hb24
                      replace hfb := hfb.below hb24
                      replace gfb := gfb.below hb24
                      replace hin' := hin'.below hb24
                      replace hou' := hou'.below hb24
                      replace HBT := Below.cons HBT hb24
                      replace HSq := Lib.hid (hSb.out _ _ hb24 HSq.out)
                      clear hb24
                      refine hKq.out _ _ HSq.out (fun hSq => ?_)
                      clear hSq hKq Kq
                      try simp only [Act.put, List.setIfInBounds_toArray, List.set_cons_zero, List.set_cons_succ]
                      refine SeqP.take (v := ?_) rfl (fun _ _ _ h => h) (Or.inl ⟨by rfl, ?_⟩) ?_
                      rotate_left 1
                      · intro wq hSw; rw [hS.out] at hSw; (try dsimp only at hSw); go_simp; try with_reducible rfl
                      try simp only [Act.put, List.setIfInBounds_toArray, List.set_cons_zero, List.set_cons_succ]
                      refine SeqP.take (v := ?_) rfl (fun _ _ _ h => h) (Or.inl ⟨by rfl, ?_⟩) ?_
                      rotate_left 1
                      · intro wq hSw; rw [hS.out] at hSw; (try dsimp only at hSw); go_simp; try with_reducible rfl
                      try simp only [Act.put, List.setIfInBounds_toArray, List.set_cons_zero, List.set_cons_succ]
                      refine SeqP.take (v := ?_) rfl (fun _ _ _ h => h) (Or.inl ⟨by rfl, ?_⟩) ?_
                      rotate_left 1
                      · intro wq hSw; rw [hS.out] at hSw; (try dsimp only at hSw); go_simp; try with_reducible rfl
                      try simp only [Act.put, List.setIfInBounds_toArray, List.set_cons_zero, List.set_cons_succ]
                      refine SeqP.take (v := ?_) rfl (fun _ _ _ h => h) (Or.inl ⟨by rfl, ?_⟩) ?_
                      rotate_left 1
                      · intro wq hSw; rw [hS.out] at hSw; (try dsimp only at hSw); go_simp; try with_reducible rfl
                      try simp only [Act.put, List.setIfInBounds_toArray, List.set_cons_zero, List.set_cons_succ]
                      refine SeqP.call rfl (by rfl) (fun Kq hKq => ?_)
                      go_simp
                      go_at_call 22
                      with_reducible refine (C23_1.out _ _ _ _ _ _ _ _ _ hup gup hv2 gv2).mono ?_
                      rintro e W25 ⟨rfl, hb25⟩
                      replace hT := hT.below hb25
                      replace hv2 := hv2.below hb25
                      replace gv2 := gv2.below hb25
                      replace hx0 := hx0.below hb25
                      replace hx1 := hx1.below hb25
                      replace hx2 := hx2.below hb25
                      replace hx3 := hx3.below hb25
                      replace hx4 := hx4.below hb25
                      replace hst := hst.below hb25
                      replace gst := gst.below hb25
                      replace hlo := hlo.below hb25
                      replace glo := glo.below hb25
                      replace hup := hup.below hb25
                      replace gup := gup.below hb25
                      replace hnr := hnr.below hb25
                      replace gnr := gnr.below hb25
                      replace Rnr := Rnr.below hb25
                      replace hfb := hfb.below hb25
                      replace gfb := gfb.below hb25
                      replace hin' := hin'.below hb25
                      replace hou' := hou'.below hb25
                      replace HBT := Below.cons HBT hb25
                      replace HSq := Lib.hid (hSb.out _ _ hb25 HSq.out)
                      clear hb25
                      refine hKq.out _ _ HSq.out (fun hSq => ?_)
                      clear hSq hKq Kq
                      try simp only [Act.put, List.setIfInBounds_toArray, List.set_cons_zero, List.set_cons_succ]
                      refine SeqP.take (v := ?_) rfl (fun _ _ _ h => h) (Or.inl ⟨by rfl, ?_⟩) ?_
                      rotate_left 1
                      · intro wq hSw; rw [hS.out] at hSw; (try dsimp only at hSw); go_simp; try with_reducible rfl
                      try simp only [Act.put, List.setIfInBounds_toArray, List.set_cons_zero, List.set_cons_succ]
                      refine SeqP.take (v := ?_) rfl (fun _ _ _ h => h) (Or.inl ⟨by rfl, ?_⟩) ?_
                      rotate_left 1
                      · intro wq hSw; rw [hS.out] at hSw; (try dsimp only at hSw); go_simp; try with_reducible rfl
                      try simp only [Act.put, List.setIfInBounds_toArray, List.set_cons_zero, List.set_cons_succ]
                      refine SeqP.take (v := ?_) rfl (fun _ _ _ h => h) (Or.inl ⟨by rfl, ?_⟩) ?_
                      rotate_left 1
                      · intro wq hSw; rw [hS.out] at hSw; (try dsimp only at hSw); go_simp; try with_reducible rfl
                      try simp only [Act.put, List.setIfInBounds_toArray, List.set_cons_zero, List.set_cons_succ]
                      refine SeqP.take (v := ?_) rfl (fun _ _ _ h => h) (Or.inl ⟨by rfl, ?_⟩) ?_
                      rotate_left 1
                      · intro wq hSw; rw [hS.out] at hSw; (try dsimp only at hSw); go_simp; try with_reducible rfl
                      try simp only [Act.put, List.setIfInBounds_toArray, List.set_cons_zero, List.set_cons_succ]
                      refine SeqP.take (v := ?_) rfl (fun _ _ _ h => h) (Or.inl ⟨by rfl, ?_⟩) ?_
                      rotate_left 1
                      · intro wq hSw; rw [hS.out] at hSw; (try dsimp only at hSw); go_simp; try with_reducible rfl
                      try simp only [Act.put, List.setIfInBounds_toArray, List.set_cons_zero, List.set_cons_succ]
                      refine SeqP.take (v := ?_) rfl (fun _ _ _ h => h) (Or.inl ⟨by rfl, ?_⟩) ?_
                      rotate_left 1
                      · intro wq hSw; rw [hS.out] at hSw; (try dsimp only at hSw); go_simp; try with_reducible rfl
                      try simp only [Act.put, List.setIfInBounds_toArray, List.set_cons_zero, List.set_cons_succ]
                      refine SeqP.call rfl (by rfl) (fun Kq hKq => ?_)
                      go_simp
                      go_at_call 23
                      with_reducible refine (C23_2.out _ _ _ _ _ _ _ _ _ hlo glo hst gst).mono ?_
                      rintro e W26 ⟨Xa1, ca1, Ya1, da1, rfl, ha1, ga1, hb26⟩
                      replace hT := hT.below hb26
                      replace hv2 := hv2.below hb26
                      replace gv2 := gv2.below hb26
                      replace hx0 := hx0.below hb26
                      replace hx1 := hx1.below hb26
                      replace hx2 := hx2.below hb26
                      replace hx3 := hx3.below hb26
                      replace hx4 := hx4.below hb26
                      replace hst := hst.below hb26
                      replace gst := gst.below hb26
                      replace hlo := hlo.below hb26
                      replace glo := glo.below hb26
                      replace hup := hup.below hb26
                      replace gup := gup.below hb26
                      replace hnr := hnr.below hb26
                      replace gnr := gnr.below hb26
                      replace Rnr := Rnr.below hb26
                      replace hfb := hfb.below hb26
                      replace gfb := gfb.below hb26
                      replace hin' := hin'.below hb26
                      replace hou' := hou'.below hb26
                      replace HBT := Below.cons HBT hb26
                      replace HSq := Lib.hid (hSb.out _ _ hb26 HSq.out)
                      clear hb26
                      refine hKq.out _ _ HSq.out (fun hSq => ?_)
                      clear hSq hKq Kq
                      try simp only [Act.put, List.setIfInBounds_toArray, List.set_cons_zero, List.set_cons_succ]
                      refine SeqP.call rfl (by rfl) (fun Kq hKq => ?_)
                      go_simp
                      go_at_call 22
                      with_reducible refine (C23_3.out _ _ _ _ _ _ _ _ _ ha1 ga1 hv2 gv2).mono ?_
                      rintro e W27 ⟨rfl, hb27⟩
                      replace hT := hT.below hb27
                      replace hv2 := hv2.below hb27
                      replace gv2 := gv2.below hb27
                      replace hx0 := hx0.below hb27
                      replace hx1 := hx1.below hb27
                      replace hx2 := hx2.below hb27
                      replace hx3 := hx3.below hb27
                      replace hx4 := hx4.below hb27
                      replace hst := hst.below hb27
                      replace gst := gst.below hb27
                      replace hlo := hlo.below hb27
                      replace glo := glo.below hb27
                      replace hup := hup.below hb27
                      replace gup := gup.below hb27
                      replace hnr := hnr.below hb27
                      replace gnr := gnr.below hb27
                      replace Rnr := Rnr.below hb27
                      replace hfb := hfb.below hb27
                      replace gfb := gfb.below hb27
                      replace hin' := hin'.below hb27
                      replace hou' := hou'.below hb27
                      replace HBT := Below.cons HBT hb27
                      replace HSq := Lib.hid (hSb.out _ _ hb27 HSq.out)
                      clear hb27
                      refine hKq.out _ _ HSq.out (fun hSq => ?_)
                      clear hSq hKq Kq
                      try simp only [Act.put, List.setIfInBounds_toArray, List.set_cons_zero, List.set_cons_succ]
                      refine SeqP.take (v := ?_) rfl (fun _ _ _ h => h) (Or.inl ⟨by rfl, ?_⟩) ?_
                      rotate_left 1
                      · intro wq hSw; rw [hS.out] at hSw; (try dsimp only at hSw); go_simp; try with_reducible rfl
                      try simp only [Act.put, List.setIfInBounds_toArray, List.set_cons_zero, List.set_cons_succ]
                      refine SeqP.take (v := ?_) rfl (fun _ _ _ h => h) (Or.inl ⟨by rfl, ?_⟩) ?_
                      rotate_left 1
                      · intro wq hSw; rw [hS.out] at hSw; (try dsimp only at hSw); go_simp; try with_reducible rfl
                      try simp only [Act.put, List.setIfInBounds_toArray, List.set_cons_zero, List.set_cons_succ]
                      refine SeqP.take (v := ?_) rfl (fun _ _ _ h => h) (Or.inl ⟨by rfl, ?_⟩) ?_
                      rotate_left 1
                      · intro wq hSw; rw [hS.out] at hSw; (try dsimp only at hSw); go_simp; try with_reducible rfl
                      try simp only [Act.put, List.setIfInBounds_toArray, List.set_cons_zero, List.set_cons_succ]
                      refine SeqP.take (v := ?_) rfl (fun _ _ _ h => h) (Or.inl ⟨by rfl, ?_⟩) ?_
                      rotate_left 1
                      · intro wq hSw; rw [hS.out] at hSw; (try dsimp only at hSw); go_simp; try with_reducible rfl
                      try simp only [Act.put, List.setIfInBounds_toArray, List.set_cons_zero, List.set_cons_succ]
                      refine SeqP.take (v := ?_) rfl (fun _ _ _ h => h) (Or.inl ⟨by rfl, ?_⟩) ?_
                      rotate_left 1
                      · intro wq hSw; rw [hS.out] at hSw; (try dsimp only at hSw); go_simp; try with_reducible rfl
                      try simp only [Act.put, List.setIfInBounds_toArray, List.set_cons_zero, List.set_cons_succ]
                      refine SeqP.take (v := ?_) rfl (fun _ _ _ h => h) (Or.inl ⟨by rfl, ?_⟩) ?_
                      rotate_left 1
                      · intro wq hSw; rw [hS.out] at hSw; (try dsimp only at hSw); go_simp; try with_reducible rfl
                      try simp only [Act.put, List.setIfInBounds_toArray, List.set_cons_zero, List.set_cons_succ]
                      refine SeqP.call rfl (by rfl) (fun Kq hKq => ?_)
                      go_simp
                      go_at_call 19
                      with_reducible refine (C23_4.out _ _ _ _ _ _ _ _ _ hup gup hst gst).mono ?_
                      rintro e W28 ⟨Xa2, ca2, Ya2, da2, rfl, ha2, ga2, hb28⟩
                      replace hT := hT.below hb28
                      replace hv2 := hv2.below hb28
                      replace gv2 := gv2.below hb28
                      replace hx0 := hx0.below hb28
                      replace hx1 := hx1.below hb28
                      replace hx2 := hx2.below hb28
                      replace hx3 := hx3.below hb28
                      replace hx4 := hx4.below hb28
                      replace hst := hst.below hb28
                      replace gst := gst.below hb28
                      replace hlo := hlo.below hb28
                      replace glo := glo.below hb28
                      replace hup := hup.below hb28
                      replace gup := gup.below hb28
                      replace hnr := hnr.below hb28
                      replace gnr := gnr.below hb28
                      replace Rnr := Rnr.below hb28
                      replace hfb := hfb.below hb28
                      replace gfb := gfb.below hb28
                      replace hin' := hin'.below hb28
                      replace hou' := hou'.below hb28
                      replace HBT := Below.cons HBT hb28
                      replace HSq := Lib.hid (hSb.out _ _ hb28 HSq.out)
                      clear hb28
                      refine hKq.out _ _ HSq.out (fun hSq => ?_)
                      clear hSq hKq Kq
                      try simp only [Act.put, List.setIfInBounds_toArray, List.set_cons_zero, List.set_cons_succ]
                      refine SeqP.call rfl (by rfl) (fun Kq hKq => ?_)
                      go_simp
                      go_at_call 22
                      with_reducible refine (C23_5.out _ _ _ _ _ _ _ _ _ ha2 ga2 hv2 gv2).mono ?_
                      rintro e W29 ⟨rfl, hb29⟩
                      replace hT := hT.below hb29
                      replace hv2 := hv2.below hb29
                      replace gv2 := gv2.below hb29
                      replace hx0 := hx0.below hb29
                      replace hx1 := hx1.below hb29
                      replace hx2 := hx2.below hb29
                      replace hx3 := hx3.below hb29
                      replace hx4 := hx4.below hb29
                      replace hst := hst.below hb29
                      replace gst := gst.below hb29
                      replace hlo := hlo.below hb29
                      replace glo := glo.below hb29
                      replace hup := hup.below hb29
                      replace gup := gup.below hb29
                      replace hnr := hnr.below hb29
                      replace gnr := gnr.below hb29
                      replace Rnr := Rnr.below hb29
                      replace hfb := hfb.below hb29
                      replace gfb := gfb.below hb29
                      replace hin' := hin'.below hb29
                      replace hou' := hou'.below hb29
                      replace HBT := Below.cons HBT hb29
                      replace HSq := Lib.hid (hSb.out _ _ hb29 HSq.out)
                      clear hb29
                      refine hKq.out _ _ HSq.out (fun hSq => ?_)
                      clear hSq hKq Kq
                      try simp only [Act.put, List.setIfInBounds_toArray, List.set_cons_zero, List.set_cons_succ]
                      refine SeqP.take (v := ?_) rfl (fun _ _ _ h => h) (Or.inl ⟨by rfl, ?_⟩) ?_
                      rotate_left 1
                      · intro wq hSw; rw [hS.out] at hSw; (try dsimp only at hSw); go_simp; try with_reducible rfl
                      try simp only [Act.put, List.setIfInBounds_toArray, List.set_cons_zero, List.set_cons_succ]
                      refine SeqP.take (v := ?_) rfl (fun _ _ _ h => h) (Or.inl ⟨by rfl, ?_⟩) ?_
                      rotate_left 1
                      · intro wq hSw; rw [hS.out] at hSw; (try dsimp only at hSw); go_simp; try with_reducible rfl
                      try simp only [Act.put, List.setIfInBounds_toArray, List.set_cons_zero, List.set_cons_succ]
                      refine SeqP.take (v := ?_) rfl (fun _ _ _ h => h) (Or.inl ⟨by rfl, ?_⟩) ?_
                      rotate_left 1
                      · intro wq hSw; rw [hS.out] at hSw; (try dsimp only at hSw); go_simp; try with_reducible rfl
                      try simp only [Act.put, List.setIfInBounds_toArray, List.set_cons_zero, List.set_cons_succ]
                      refine SeqP.take (v := ?_) rfl (fun _ _ _ h => h) (Or.inl ⟨by rfl, ?_⟩) ?_
                      rotate_left 1
                      · intro wq hSw; rw [hS.out] at hSw; (try dsimp only at hSw); go_simp; try with_reducible rfl
                      try simp only [Act.put, List.setIfInBounds_toArray, List.set_cons_zero, List.set_cons_succ]
                      refine SeqP.take (v := ?_) rfl (fun _ _ _ h => h) (Or.inl ⟨by rfl, ?_⟩) ?_
                      rotate_left 1
                      · intro wq hSw; rw [hS.out] at hSw; (try dsimp only at hSw); go_simp; try with_reducible rfl
                      try simp only [Act.put, List.setIfInBounds_toArray, List.set_cons_zero, List.set_cons_succ]
                      refine SeqP.take (v := ?_) rfl (fun _ _ _ h => h) (Or.inl ⟨by rfl, ?_⟩) ?_
                      rotate_left 1
                      · intro wq hSw; rw [hS.out] at hSw; (try dsimp only at hSw); go_simp; try with_reducible rfl
                      try simp only [Act.put, List.setIfInBounds_toArray, List.set_cons_zero, List.set_cons_succ]
                      refine SeqP.call rfl (by rfl) (fun Kq hKq => ?_)
                      go_simp
                      go_at_call 24
                      with_reducible refine (C23_6.out _ _ _ _ _ hx2 hin').mono ?_
                      rintro e W30 ⟨rfl, hb30⟩
                      replace hT := hT.below hb30
                      replace hv2 := hv2.below hb30
                      replace gv2 := gv2.below hb30
                      replace hx0 := hx0.below hb30
                      replace hx1 := hx1.below hb30
                      replace hx2 := hx2.below hb30
                      replace hx3 := hx3.below hb30
                      replace hx4 := hx4.below hb30
                      replace hst := hst.below hb30
                      replace gst := gst.below hb30
                      replace hlo := hlo.below hb30
                      replace glo := glo.below hb30
                      replace hup := hup.below hb30
                      replace gup := gup.below hb30
                      replace hnr := hnr.below hb30
                      replace gnr := gnr.below hb30
                      replace Rnr := Rnr.below hb30
                      replace hfb := hfb.below hb30
                      replace gfb := gfb.below hb30
                      replace hin' := hin'.below hb30
                      replace hou' := hou'.below hb30
                      replace HBT := Below.cons HBT hb30
                      replace HSq := Lib.hid (hSb.out _ _ hb30 HSq.out)
                      clear hb30
                      refine hKq.out _ _ HSq.out (fun hSq => ?_)
                      clear hSq hKq Kq
                      try simp only [Act.put, List.setIfInBounds_toArray, List.set_cons_zero, List.set_cons_succ]
                      refine SeqP.take (v := ?_) rfl (fun _ _ _ h => h) (Or.inl ⟨by rfl, ?_⟩) ?_
                      rotate_left 1
                      · intro wq hSw; rw [hS.out] at hSw; (try dsimp only at hSw); go_simp; try with_reducible rfl
                      try simp only [Act.put, List.setIfInBounds_toArray, List.set_cons_zero, List.set_cons_succ]
                      refine SeqP.take (v := ?_) rfl (fun _ _ _ h => h) (Or.inl ⟨by rfl, ?_⟩) ?_
                      rotate_left 1
                      · intro wq hSw; rw [hS.out] at hSw; (try dsimp only at hSw); go_simp; try with_reducible rfl
                      try simp only [Act.put, List.setIfInBounds_toArray, List.set_cons_zero, List.set_cons_succ]
                      refine SeqP.take (v := ?_) rfl (fun _ _ _ h => h) (Or.inl ⟨by rfl, ?_⟩) ?_
                      rotate_left 1
                      · intro wq hSw; rw [hS.out] at hSw; (try dsimp only at hSw); go_simp; try with_reducible rfl
                      try simp only [Act.put, List.setIfInBounds_toArray, List.set_cons_zero, List.set_cons_succ]
                      refine SeqP.take (v := ?_) rfl (fun _ _ _ h => h) (Or.inl ⟨by rfl, ?_⟩) ?_
                      rotate_left 1
                      · intro wq hSw; rw [hS.out] at hSw; (try dsimp only at hSw); go_simp; try with_reducible rfl
                      try simp only [Act.put, List.setIfInBounds_toArray, List.set_cons_zero, List.set_cons_succ]
                      refine SeqP.take (v := ?_) rfl (fun _ _ _ h => h) (Or.inl ⟨by rfl, ?_⟩) ?_
                      rotate_left 1
                      · intro wq hSw; rw [hS.out] at hSw; (try dsimp only at hSw); go_simp; try with_reducible rfl
                      try simp only [Act.put, List.setIfInBounds_toArray, List.set_cons_zero, List.set_cons_succ]
                      refine SeqP.call rfl (by rfl) (fun Kq hKq => ?_)
                      go_simp
                      go_at_call 24
                      with_reducible refine (C23_7.out _ _ _ _ _ hx3 hou').mono ?_
                      rintro e W31 ⟨rfl, hb31⟩
                      replace hT := hT.below hb31
                      replace hv2 := hv2.below hb31
                      replace gv2 := gv2.below hb31
                      replace hx0 := hx0.below hb31
                      replace hx1 := hx1.below hb31
                      replace hx2 := hx2.below hb31
                      replace hx3 := hx3.below hb31
                      replace hx4 := hx4.below hb31
                      replace hst := hst.below hb31
                      replace gst := gst.below hb31
                      replace hlo := hlo.below hb31
                      replace glo := glo.below hb31
                      replace hup := hup.below hb31
                      replace gup := gup.below hb31
                      replace hnr := hnr.below hb31
                      replace gnr := gnr.below hb31
                      replace Rnr := Rnr.below hb31
                      replace hfb := hfb.below hb31
                      replace gfb := gfb.below hb31
                      replace hin' := hin'.below hb31
                      replace hou' := hou'.below hb31
                      replace HBT := Below.cons HBT hb31
                      replace HSq := Lib.hid (hSb.out _ _ hb31 HSq.out)
                      clear hb31
                      refine hKq.out _ _ HSq.out (fun hSq => ?_)
                      clear hSq hKq Kq
                      try simp only [Act.put, List.setIfInBounds_toArray, List.set_cons_zero, List.set_cons_succ]
                      refine SeqP.take (v := ?_) rfl (fun _ _ _ h => h) (Or.inl ⟨by rfl, ?_⟩) ?_
                      rotate_left 1
                      · intro wq hSw; rw [hS.out] at hSw; (try dsimp only at hSw); go_simp; try with_reducible rfl
                      try simp only [Act.put, List.setIfInBounds_toArray, List.set_cons_zero, List.set_cons_succ]
                      refine SeqP.take (v := ?_) rfl (fun _ _ _ h => h) (Or.inl ⟨by rfl, ?_⟩) ?_
                      rotate_left 1
                      · intro wq hSw; rw [hS.out] at hSw; (try dsimp only at hSw); go_simp; try with_reducible rfl
                      try simp only [Act.put, List.setIfInBounds_toArray, List.set_cons_zero, List.set_cons_succ]
                      refine SeqP.take (v := ?_) rfl (fun _ _ _ h => h) (Or.inl ⟨by rfl, ?_⟩) ?_
                      rotate_left 1
                      · intro wq hSw; rw [hS.out] at hSw; (try dsimp only at hSw); go_simp; try with_reducible rfl
                      try simp only [Act.put, List.setIfInBounds_toArray, List.set_cons_zero, List.set_cons_succ]
                      refine SeqP.take (v := ?_) rfl (fun _ _ _ h => h) (Or.inl ⟨by rfl, ?_⟩) ?_
                      rotate_left 1
                      · intro wq hSw; rw [hS.out] at hSw; (try dsimp only at hSw); go_simp; try with_reducible rfl
                      try simp only [Act.put, List.setIfInBounds_toArray, List.set_cons_zero, List.set_cons_succ]
                      refine SeqP.take (v := ?_) rfl (fun _ _ _ h => h) (Or.inl ⟨by rfl, ?_⟩) ?_
                      rotate_left 1
                      · intro wq hSw; rw [hS.out] at hSw; (try dsimp only at hSw); go_simp; try with_reducible rfl
                      try simp only [Act.put, List.setIfInBounds_toArray, List.set_cons_zero, List.set_cons_succ]
                      refine SeqP.take (v := ?_) rfl (fun _ _ _ h => h) (Or.inl ⟨by rfl, ?_⟩) ?_
                      rotate_left 1
                      · intro wq hSw; rw [hS.out] at hSw; (try dsimp only at hSw); go_simp; try with_reducible rfl
                      try simp only [Act.put, List.setIfInBounds_toArray, List.set_cons_zero, List.set_cons_succ]
                      refine SeqP.call rfl (by rfl) (fun Kq hKq => ?_)
                      go_simp
                      go_at_call 24
                      with_reducible refine (C23_8.out _ _ _ _ _ hx4 hx0).mono ?_
                      rintro e W32 ⟨rfl, hb32⟩
                      replace hT := hT.below hb32
                      replace hv2 := hv2.below hb32
                      replace gv2 := gv2.below hb32
                      replace hx0 := hx0.below hb32
                      replace hx1 := hx1.below hb32
                      replace hx2 := hx2.below hb32
                      replace hx3 := hx3.below hb32
                      replace hx4 := hx4.below hb32
                      replace hst := hst.below hb32
                      replace gst := gst.below hb32
                      replace hlo := hlo.below hb32
                      replace glo := glo.below hb32
                      replace hup := hup.below hb32
                      replace gup := gup.below hb32
                      replace hnr := hnr.below hb32
                      replace gnr := gnr.below hb32
                      replace Rnr := Rnr.below hb32
                      replace hfb := hfb.below hb32
                      replace gfb := gfb.below hb32
                      replace hin' := hin'.below hb32
                      replace hou' := hou'.below hb32
                      replace HBT := Below.cons HBT hb32
                      replace HSq := Lib.hid (hSb.out _ _ hb32 HSq.out)
                      clear hb32
                      refine hKq.out _ _ HSq.out (fun hSq => ?_)
                      clear hSq hKq Kq
                      try simp only [Act.put, List.setIfInBounds_toArray, List.set_cons_zero, List.set_cons_succ]
                      refine SeqP.take (v := ?_) rfl (fun _ _ _ h => h) (Or.inl ⟨by rfl, ?_⟩) ?_
                      rotate_left 1
                      · intro wq hSw; rw [hS.out] at hSw; (try dsimp only at hSw); go_simp; try with_reducible rfl
                      try simp only [Act.put, List.setIfInBounds_toArray, List.set_cons_zero, List.set_cons_succ]
                      refine SeqP.take (v := undef) rfl (fun _ _ _ h => h) (Or.inr ⟨by rfl, rfl⟩) ?_
                      try simp only [Act.put, List.setIfInBounds_toArray, List.set_cons_zero, List.set_cons_succ]
                      refine SeqP.take (v := undef) rfl (fun _ _ _ h => h) (Or.inr ⟨by rfl, rfl⟩) ?_
                      try simp only [Act.put, List.setIfInBounds_toArray, List.set_cons_zero, List.set_cons_succ]
                      refine SeqP.take (v := undef) rfl (fun _ _ _ h => h) (Or.inr ⟨by rfl, rfl⟩) ?_
                      try simp only [Act.put, List.setIfInBounds_toArray, List.set_cons_zero, List.set_cons_succ]
                      refine SeqP.take (v := undef) rfl (fun _ _ _ h => h) (Or.inr ⟨by rfl, rfl⟩) ?_
                      try simp only [Act.put, List.setIfInBounds_toArray, List.set_cons_zero, List.set_cons_succ]
                      refine SeqP.take (v := undef) rfl (fun _ _ _ h => h) (Or.inr ⟨by rfl, rfl⟩) ?_
                      try simp only [Act.put, List.setIfInBounds_toArray, List.set_cons_zero, List.set_cons_succ]
                      refine SeqP.take (v := ?_) rfl (fun _ _ _ h => h) (Or.inl ⟨by rfl, ?_⟩) ?_
                      rotate_left 1
                      · intro wq hSw; rw [hS.out] at hSw; (try dsimp only at hSw); go_simp; try with_reducible rfl
                      try simp only [Act.put, List.setIfInBounds_toArray, List.set_cons_zero, List.set_cons_succ]
                      refine SeqP.take (v := ?_) rfl (fun _ _ _ h => h) (Or.inl ⟨by rfl, ?_⟩) ?_
                      rotate_left 1
                      · intro wq hSw; rw [hS.out] at hSw; (try dsimp only at hSw); go_simp; try with_reducible rfl
                      try simp only [Act.put, List.setIfInBounds_toArray, List.set_cons_zero, List.set_cons_succ]
                      refine SeqP.take (v := ?_) rfl (fun _ _ _ h => h) (Or.inl ⟨by rfl, ?_⟩) ?_
                      rotate_left 1
                      · intro wq hSw; rw [hS.out] at hSw; (try dsimp only at hSw); go_simp; try with_reducible rfl
                      try simp only [Act.put, List.setIfInBounds_toArray, List.set_cons_zero, List.set_cons_succ]
                      refine SeqP.take (v := ?_) rfl (fun _ _ _ h => h) (Or.inl ⟨by rfl, ?_⟩) ?_
                      rotate_left 1
                      · intro wq hSw; rw [hS.out] at hSw; (try dsimp only at hSw); go_simp; try with_reducible rfl
                      try simp only [Act.put, List.setIfInBounds_toArray, List.set_cons_zero, List.set_cons_succ]
                      refine SeqP.take (v := ?_) rfl (fun _ _ _ h => h) (Or.inl ⟨by rfl, ?_⟩) ?_
                      rotate_left 1
                      · intro wq hSw; rw [hS.out] at hSw; (try dsimp only at hSw); go_simp; try with_reducible rfl
                      try simp only [Act.put, List.setIfInBounds_toArray, List.set_cons_zero, List.set_cons_succ]
                      refine SeqP.take (v := ?_) rfl (fun _ _ _ h => h) (Or.inl ⟨by rfl, ?_⟩) ?_
                      rotate_left 1
                      · intro wq hSw; rw [hS.out] at hSw; (try dsimp only at hSw); go_simp; try with_reducible rfl
                      try simp only [Act.put, List.setIfInBounds_toArray, List.set_cons_zero, List.set_cons_succ]
                      refine SeqP.call rfl (by rfl) (fun Kq hKq => ?_)
                      go_simp
                      go_at_call 23
                      with_reducible refine (C23_9.out _ _ _ _ _ _ _ _ _ hfb gfb hfb gfb).mono ?_
                      rintro e W33 ⟨Xa3, ca3, Ya3, da3, rfl, ha3, ga3, hb33⟩
                      replace hT := hT.below hb33
                      replace hv2 := hv2.below hb33
                      replace gv2 := gv2.below hb33
                      replace hx0 := hx0.below hb33
                      replace hx1 := hx1.below hb33
                      replace hx2 := hx2.below hb33
                      replace hx3 := hx3.below hb33
                      replace hx4 := hx4.below hb33
                      replace hst := hst.below hb33
                      replace gst := gst.below hb33
                      replace hlo := hlo.below hb33
                      replace glo := glo.below hb33
                      replace hup := hup.below hb33
                      replace gup := gup.below hb33
                      replace hnr := hnr.below hb33
                      replace gnr := gnr.below hb33
                      replace Rnr := Rnr.below hb33
                      replace hfb := hfb.below hb33
                      replace gfb := gfb.below hb33
                      replace hin' := hin'.below hb33
                      replace hou' := hou'.below hb33
                      replace HBT := Below.cons HBT hb33
                      replace HSq := Lib.hid (hSb.out _ _ hb33 HSq.out)
                      clear hb33
                      refine hKq.out _ _ HSq.out (fun hSq => ?_)
                      clear hSq hKq Kq
                      try simp only [Act.put, List.setIfInBounds_toArray, List.set_cons_zero, List.set_cons_succ]
                      refine SeqP.call rfl (by rfl) (fun Kq hKq => ?_)
                      go_simp
                      go_at_call 22
                      with_reducible refine (C23_10.out _ _ _ _ _ _ _ _ _ ha3 ga3 hst gst).mono ?_
                      rintro e W34 ⟨rfl, hb34⟩
                      replace hT := hT.below hb34
                      replace hv2 := hv2.below hb34
                      replace gv2 := gv2.below hb34
                      replace hx0 := hx0.below hb34
                      replace hx1 := hx1.below hb34
                      replace hx2 := hx2.below hb34
                      replace hx3 := hx3.below hb34
                      replace hx4 := hx4.below hb34
                      replace hst := hst.below hb34
                      replace gst := gst.below hb34
                      replace hlo := hlo.below hb34
                      replace glo := glo.below hb34
                      replace hup := hup.below hb34
                      replace gup := gup.below hb34
                      replace hnr := hnr.below hb34
                      replace gnr := gnr.below hb34
                      replace Rnr := Rnr.below hb34
                      replace hfb := hfb.below hb34
                      replace gfb := gfb.below hb34
                      replace hin' := hin'.below hb34
                      replace hou' := hou'.below hb34
                      replace ha3 := ha3.below hb34
                      replace ga3 := ga3.below hb34
                      replace HBT := Below.cons HBT hb34
                      replace HSq := Lib.hid (hSb.out _ _ hb34 HSq.out)
                      clear hb34
                      refine hKq.out _ _ HSq.out (fun hSq => ?_)
                      clear hSq hKq Kq
                      try simp only [Act.put, List.setIfInBounds_toArray, List.set_cons_zero, List.set_cons_succ]
                      refine SeqP.take (v := ?_) rfl (fun _ _ _ h => h) (Or.inl ⟨by rfl, ?_⟩) ?_
                      rotate_left 1
                      · intro wq hSw; rw [hS.out] at hSw; (try dsimp only at hSw); go_simp; try with_reducible rfl
                      try simp only [Act.put, List.setIfInBounds_toArray, List.set_cons_zero, List.set_cons_succ]
                      refine SeqP.take (v := ?_) rfl (fun _ _ _ h => h) (Or.inl ⟨by rfl, ?_⟩) ?_
                      rotate_left 1
                      · intro wq hSw; rw [hS.out] at hSw; (try dsimp only at hSw); go_simp; try with_reducible rfl
                      try simp only [Act.put, List.setIfInBounds_toArray, List.set_cons_zero, List.set_cons_succ]
                      refine SeqP.take (v := ?_) rfl (fun _ _ _ h => h) (Or.inl ⟨by rfl, ?_⟩) ?_
                      rotate_left 1
                      · intro wq hSw; rw [hS.out] at hSw; (try dsimp only at hSw); go_simp; try with_reducible rfl
                      try simp only [Act.put, List.setIfInBounds_toArray, List.set_cons_zero, List.set_cons_succ]
                      refine SeqP.take (v := ?_) rfl (fun _ _ _ h => h) (Or.inl ⟨by rfl, ?_⟩) ?_
                      rotate_left 1
                      · intro wq hSw; rw [hS.out] at hSw; (try dsimp only at hSw); go_simp; try with_reducible rfl
                      try simp only [Act.put, List.setIfInBounds_toArray, List.set_cons_zero, List.set_cons_succ]
                      refine SeqP.take (v := ?_) rfl (fun _ _ _ h => h) (Or.inl ⟨by rfl, ?_⟩) ?_
                      rotate_left 1
                      · intro wq hSw; rw [hS.out] at hSw; (try dsimp only at hSw); go_simp; try with_reducible rfl
                      try simp only [Act.put, List.setIfInBounds_toArray, List.set_cons_zero, List.set_cons_succ]
                      refine SeqP.take (v := ?_) rfl (fun _ _ _ h => h) (Or.inl ⟨by rfl, ?_⟩) ?_
                      rotate_left 1
                      · intro wq hSw; rw [hS.out] at hSw; (try dsimp only at hSw); go_simp; try with_reducible rfl
                      try simp only [Act.put, List.setIfInBounds_toArray, List.set_cons_zero, List.set_cons_succ]
                      refine SeqP.done ?_
                      clear hSb
                      clear HSq
                      all_goals (try go_wp2_with (fail))
                      go_ret
                      exact ⟨rfl, HBT⟩
                    · skip
                      have hq1 : x4 = x1 := hn4.resolve_left hq
                      replace hq := Lib.hid hq
                      replace hq1 := Lib.hid hq1
                      replace hn4 := Lib.hid hn4
                      have hd23 := drb (wc)
                      replace hT := hT.below hd23
                      replace hv2 := hv2.below hd23
                      replace gv2 := gv2.below hd23
                      replace Rv := Rv.below hd23
                      replace Rl := Rl.below hd23
                      replace hx0 := hx0.below hd23
                      replace hx1 := hx1.below hd23
                      replace hx2 := hx2.below hd23
                      replace hx3 := hx3.below hd23
                      replace hx4 := hx4.below hd23
                      replace hst := hst.below hd23
                      replace gst := gst.below hd23
                      replace Rst := Rst.below hd23
                      replace hlo := hlo.below hd23
                      replace glo := glo.below hd23
                      replace Rlo := Rlo.below hd23
                      replace hup := hup.below hd23
                      replace gup := gup.below hd23
                      replace Rup := Rup.below hd23
                      replace hnr := hnr.below hd23
                      replace gnr := gnr.below hd23
                      replace Rnr := Rnr.below hd23
                      replace hfb := hfb.below hd23
                      replace gfb := gfb.below hd23
                      replace Rfb := Rfb.below hd23
                      replace hin' := hin'.below hd23
                      replace hou' := hou'.below hd23
                      replace Rin' := Rin'.below hd23
                      replace Rou' := Rou'.below hd23
                      replace HBT := Below.cons HBT hd23
                      clear hd23
                      have C23_0 := fun (W : World) (A0 : Option Addr) (c0 : Nat) (B0 : Option Addr) (d0 : Nat) (A1 : Option Addr) (c1 : Nat) (B1 : Option Addr) (d1 : Nat) (h0 : NatV W A0 c0 (mg lo.num)) (g0 : NatV W B0 d0 lo.den) (h1 : NatV W A1 c1 (mg v2.num)) (g1 : NatV W B1 d1 v2.den) => (show Calls Tryz.prog 22 #[.agg #[.bool (sg lo.num), .slice A0 (nl (mg lo.num)) c0, .slice B0 (nl lo.den) d0], .agg #[.bool (sg v2.num), .slice A1 (nl (mg v2.num)) c1, .slice B1 (nl v2.den) d1]] W (fun e w' => e = .returned (.int .i64 k1) ∧ Below W.heap.size W w') by rw [Ek1.out]; exact r9cmp_c A0 c0 B0 d0 lo A1 c1 B1 d1 v2 W h0 g0 h1 g1 (by omega) (by omega) (by omega) (by omega))
                      replace C23_0 := Lib.hid C23_0
                      have C23_1 := fun (W : World) (A0 : Option Addr) (c0 : Nat) (B0 : Option Addr) (d0 : Nat) (A1 : Option Addr) (c1 : Nat) (B1 : Option Addr) (d1 : Nat) (h0 : NatV W A0 c0 (mg up.num)) (g0 : NatV W B0 d0 up.den) (h1 : NatV W A1 c1 (mg v2.num)) (g1 : NatV W B1 d1 v2.den) => (show Calls Tryz.prog 22 #[.agg #[.bool (sg up.num), .slice A0 (nl (mg up.num)) c0, .slice B0 (nl up.den) d0], .agg #[.bool (sg v2.num), .slice A1 (nl (mg v2.num)) c1, .slice B1 (nl v2.den) d1]] W (fun e w' => e = .returned (.int .i64 k2) ∧ Below W.heap.size W w') by rw [Ek2.out]; exact r9cmp_c A0 c0 B0 d0 up A1 c1 B1 d1 v2 W h0 g0 h1 g1 (by omega) (by omega) (by omega) (by omega))
                      replace C23_1 := Lib.hid C23_1
                      obtain ⟨a1, Ea1⟩ : ∃ zq : Rat, zq = lo + st := ⟨_, rfl⟩
                      have Na1 := add_szg Nlo.1 Nlo.2 Nst.1 Nst.2
                      rw [← Ea1] at Na1
                      have C23_2 := fun (W : World) (A0 : Option Addr) (c0 : Nat) (B0 : Option Addr) (d0 : Nat) (A1 : Option Addr) (c1 : Nat) (B1 : Option Addr) (d1 : Nat) (h0 : NatV W A0 c0 (mg lo.num)) (g0 : NatV W B0 d0 lo.den) (h1 : NatV W A1 c1 (mg st.num)) (g1 : NatV W B1 d1 st.den) => (show Calls Tryz.prog 23 #[.agg #[.bool (sg lo.num), .slice A0 (nl (mg lo.num)) c0, .slice B0 (nl lo.den) d0], .agg #[.bool (sg st.num), .slice A1 (nl (mg st.num)) c1, .slice B1 (nl st.den) d1]] W (RetR W a1) by rw [Ea1]; exact r9add_c A0 c0 B0 d0 lo A1 c1 B1 d1 st W h0 g0 h1 g1 (by omega) (by omega) (by omega) (by omega))
                      replace Ea1 := Lib.hid Ea1
                      replace C23_2 := Lib.hid C23_2
                      have C23_3 := fun (W : World) (A0 : Option Addr) (c0 : Nat) (B0 : Option Addr) (d0 : Nat) (A1 : Option Addr) (c1 : Nat) (B1 : Option Addr) (d1 : Nat) (h0 : NatV W A0 c0 (mg a1.num)) (g0 : NatV W B0 d0 a1.den) (h1 : NatV W A1 c1 (mg v2.num)) (g1 : NatV W B1 d1 v2.den) => (show Calls Tryz.prog 22 #[.agg #[.bool (sg a1.num), .slice A0 (nl (mg a1.num)) c0, .slice B0 (nl a1.den) d0], .agg #[.bool (sg v2.num), .slice A1 (nl (mg v2.num)) c1, .slice B1 (nl v2.den) d1]] W (fun e w' => e = .returned (.int .i64 k3) ∧ Below W.heap.size W w') by rw [Ek3.out, ← Ea1.out]; exact r9cmp_c A0 c0 B0 d0 a1 A1 c1 B1 d1 v2 W h0 g0 h1 g1 (by omega) (by omega) (by omega) (by omega))
                      replace C23_3 := Lib.hid C23_3
                      obtain ⟨a2, Ea2⟩ : ∃ zq : Rat, zq = up - st := ⟨_, rfl⟩
                      have Na2 := sub_szg Nup.1 Nup.2 Nst.1 Nst.2
                      rw [← Ea2] at Na2
                      have C23_4 := fun (W : World) (A0 : Option Addr) (c0 : Nat) (B0 : Option Addr) (d0 : Nat) (A1 : Option Addr) (c1 : Nat) (B1 : Option Addr) (d1 : Nat) (h0 : NatV W A0 c0 (mg up.num)) (g0 : NatV W B0 d0 up.den) (h1 : NatV W A1 c1 (mg st.num)) (g1 : NatV W B1 d1 st.den) => (show Calls Tryz.prog 19 #[.agg #[.bool (sg up.num), .slice A0 (nl (mg up.num)) c0, .slice B0 (nl up.den) d0], .agg #[.bool (sg st.num), .slice A1 (nl (mg st.num)) c1, .slice B1 (nl st.den) d1]] W (RetR W a2) by rw [Ea2]; exact r9sub_c A0 c0 B0 d0 up A1 c1 B1 d1 st W h0 g0 h1 g1 (by omega) (by omega) (by omega) (by omega))
                      replace Ea2 := Lib.hid Ea2
                      replace C23_4 := Lib.hid C23_4
                      have C23_5 := fun (W : World) (A0 : Option Addr) (c0 : Nat) (B0 : Option Addr) (d0 : Nat) (A1 : Option Addr) (c1 : Nat) (B1 : Option Addr) (d1 : Nat) (h0 : NatV W A0 c0 (mg a2.num)) (g0 : NatV W B0 d0 a2.den) (h1 : NatV W A1 c1 (mg v2.num)) (g1 : NatV W B1 d1 v2.den) => (show Calls Tryz.prog 22 #[.agg #[.bool (sg a2.num), .slice A0 (nl (mg a2.num)) c0, .slice B0 (nl a2.den) d0], .agg #[.bool (sg v2.num), .slice A1 (nl (mg v2.num)) c1, .slice B1 (nl v2.den) d1]] W (fun e w' => e = .returned (.int .i64 k4) ∧ Below W.heap.size W w') by rw [Ek4.out, ← Ea2.out]; exact r9cmp_c A0 c0 B0 d0 a2 A1 c1 B1 d1 v2 W h0 g0 h1 g1 (by omega) (by omega) (by omega) (by omega))
                      replace C23_5 := Lib.hid C23_5
                      have C23_6 := fun (W : World) (A0 : Option Addr) (c0 : Nat) (A1 : Option Addr) (c1 : Nat) (h0 : NatV W A0 c0 (mg (dmn x2))) (h1 : NatV W A1 c1 (mg (dmn x2)))  => (show Calls Tryz.prog 24 #[.agg #[.bool (sg (dmn x2)), .slice A0 (nl (mg (dmn x2))) c0, .int .i64 (dex x2)], .agg #[.bool (sg (dmn x2)), .slice A1 (nl (mg (dmn x2))) c1, .int .i64 (dex x2)]] W (fun e w' => e = .returned (.bool true) ∧ Below W.heap.size W w') by exact tsameT_c A0 c0 x2 A1 c1 x2 W h0 h1 (Ox2.ok (by decide) (by decide)) (by exact rfl))
                      replace C23_6 := Lib.hid C23_6
                      have C23_7 := fun (W : World) (A0 : Option Addr) (c0 : Nat) (A1 : Option Addr) (c1 : Nat) (h0 : NatV W A0 c0 (mg (dmn x3))) (h1 : NatV W A1 c1 (mg (dmn x3)))  => (show Calls Tryz.prog 24 #[.agg #[.bool (sg (dmn x3)), .slice A0 (nl (mg (dmn x3))) c0, .int .i64 (dex x3)], .agg #[.bool (sg (dmn x3)), .slice A1 (nl (mg (dmn x3))) c1, .int .i64 (dex x3)]] W (fun e w' => e = .returned (.bool true) ∧ Below W.heap.size W w') by exact tsameT_c A0 c0 x3 A1 c1 x3 W h0 h1 (Ox3.ok (by decide) (by decide)) (by exact rfl))
                      replace C23_7 := Lib.hid C23_7
                      have C23_8 := fun (W : World) (A0 : Option Addr) (c0 : Nat) (A1 : Option Addr) (c1 : Nat) (h0 : NatV W A0 c0 (mg (dmn x4))) (h1 : NatV W A1 c1 (mg (dmn x0)))  => (show Calls Tryz.prog 24 #[.agg #[.bool (sg (dmn x4)), .slice A0 (nl (mg (dmn x4))) c0, .int .i64 (dex x4)], .agg #[.bool (sg (dmn x0)), .slice A1 (nl (mg (dmn x0))) c1, .int .i64 (dex x0)]] W (fun e w' => e = .returned (.bool false) ∧ Below W.heap.size W w') by have h := tsame_c A0 c0 x4 A1 c1 x0 W h0 h1 Ox4.d Ox0.d (Nat.le_trans Ox4.l (by decide)) (Nat.le_trans Ox0.l (by decide)); rw [decide_eq_false (hq.out)] at h; exact h)
                      replace C23_8 := Lib.hid C23_8
                      have C23_9 := fun (W : World) (A0 : Option Addr) (c0 : Nat) (A1 : Option Addr) (c1 : Nat) (h0 : NatV W A0 c0 (mg (dmn x4))) (h1 : NatV W A1 c1 (mg (dmn x1)))  => (show Calls Tryz.prog 24 #[.agg #[.bool (sg (dmn x4)), .slice A0 (nl (mg (dmn x4))) c0, .int .i64 (dex x4)], .agg #[.bool (sg (dmn x1)), .slice A1 (nl (mg (dmn x1))) c1, .int .i64 (dex x1)]] W (fun e w' => e = .returned (.bool true) ∧ Below W.heap.size W w') by exact tsameT_c A0 c0 x4 A1 c1 x1 W h0 h1 (Ox4.ok (by decide) (by decide)) (by exact hq1.out))
                      replace C23_9 := Lib.hid C23_9
                      obtain ⟨a3, Ea3⟩ : ∃ zq : Rat, zq = fb + fb := ⟨_, rfl⟩
                      have Na3 := add_szg Nfb.1 Nfb.2 Nfb.1 Nfb.2
                      rw [← Ea3] at Na3
                      have C23_10 := fun (W : World) (A0 : Option Addr) (c0 : Nat) (B0 : Option Addr) (d0 : Nat) (A1 : Option Addr) (c1 : Nat) (B1 : Option Addr) (d1 : Nat) (h0 : NatV W A0 c0 (mg fb.num)) (g0 : NatV W B0 d0 fb.den) (h1 : NatV W A1 c1 (mg fb.num)) (g1 : NatV W B1 d1 fb.den) => (show Calls Tryz.prog 23 #[.agg #[.bool (sg fb.num), .slice A0 (nl (mg fb.num)) c0, .slice B0 (nl fb.den) d0], .agg #[.bool (sg fb.num), .slice A1 (nl (mg fb.num)) c1, .slice B1 (nl fb.den) d1]] W (RetR W a3) by rw [Ea3]; exact r9add_c A0 c0 B0 d0 fb A1 c1 B1 d1 fb W h0 g0 h1 g1 (by omega) (by omega) (by omega) (by omega))
                      replace Ea3 := Lib.hid Ea3
                      replace C23_10 := Lib.hid C23_10
                      have C23_11 := fun (W : World) (A0 : Option Addr) (c0 : Nat) (B0 : Option Addr) (d0 : Nat) (A1 : Option Addr) (c1 : Nat) (B1 : Option Addr) (d1 : Nat) (h0 : NatV W A0 c0 (mg a3.num)) (g0 : NatV W B0 d0 a3.den) (h1 : NatV W A1 c1 (mg st.num)) (g1 : NatV W B1 d1 st.den) => (show Calls Tryz.prog 22 #[.agg #[.bool (sg a3.num), .slice A0 (nl (mg a3.num)) c0, .slice B0 (nl a3.den) d0], .agg #[.bool (sg st.num), .slice A1 (nl (mg st.num)) c1, .slice B1 (nl st.den) d1]] W (fun e w' => e = .returned (.int .i64 k5) ∧ Below W.heap.size W w') by rw [Ek5.out, ← Ea3.out]; exact r9cmp_c A0 c0 B0 d0 a3 A1 c1 B1 d1 st W h0 g0 h1 g1 (by omega) (by omega) (by omega) (by omega))
                      replace C23_11 := Lib.hid C23_11
                      obtain ⟨S, hS⟩ : ∃ S : World → Prop, S = fun W => W.cell? ⟨nblo, 0, none⟩ = some (.bool (sg lo.num)) ∧ W.cell? ⟨nblo, 1, none⟩ = some (.slice Xlo (nl (mg lo.num)) clo) ∧ W.cell? ⟨nblo, 2, none⟩ = some (.slice Ylo (nl lo.den) dlo) ∧ W.cell? ⟨W3.heap.size, 0, none⟩ = some (.bool (sg v2.num)) ∧ W.cell? ⟨W3.heap.size, 1, none⟩ = some (.slice Xv2 (nl (mg v2.num)) cv2) ∧ W.cell? ⟨W3.heap.size, 2, none⟩ = some (.slice Yv2 (nl v2.den) dv2) ∧ W.cell? ⟨nbup, 0, none⟩ = some (.bool (sg up.num)) ∧ W.cell? ⟨nbup, 1, none⟩ = some (.slice Xup (nl (mg up.num)) cup) ∧ W.cell? ⟨nbup, 2, none⟩ = some (.slice Yup (nl up.den) dup) ∧ W.cell? ⟨W17.heap.size, 0, none⟩ = some (.bool (sg st.num)) ∧ W.cell? ⟨W17.heap.size, 1, none⟩ = some (.slice Xst (nl (mg st.num)) cst) ∧ W.cell? ⟨W17.heap.size, 2, none⟩ = some (.slice Yst (nl st.den) dst) ∧ W.cell? ⟨(W3.heap.size + 1), 0, none⟩ = some (.bool (sg (dmn x0))) ∧ W.cell? ⟨(W3.heap.size + 1), 1, none⟩ = some (.slice Xx0 (nl (mg (dmn x0))) cx0) ∧ W.cell? ⟨(W3.heap.size + 1), 2, none⟩ = some (.int .i64 (dex x0)) ∧ W.cell? ⟨(W3.heap.size + 1), 3, none⟩ = some (.bool (sg (dmn x1))) ∧ W.cell? ⟨(W3.heap.size + 1), 4, none⟩ = some (.slice Xx1 (nl (mg (dmn x1))) cx1) ∧ W.cell? ⟨(W3.heap.size + 1), 5, none⟩ = some (.int .i64 (dex x1)) ∧ W.cell? ⟨(W3.heap.size + 1), 6, none⟩ = some (.bool (sg (dmn x2))) ∧ W.cell? ⟨(W3.heap.size + 1), 7, none⟩ = some (.slice Xx2 (nl (mg (dmn x2))) cx2) ∧ W.cell? ⟨(W3.heap.size + 1), 8, none⟩ = some (.int .i64 (dex x2)) ∧ W.cell? ⟨(W3.heap.size + 1), 9, none⟩ = some (.bool (sg (dmn x3))) ∧ W.cell? ⟨(W3.heap.size + 1), 10, none⟩ = some (.slice Xx3 (nl (mg (dmn x3))) cx3) ∧ W.cell? ⟨(W3.heap.size + 1), 11, none⟩ = some (.int .i64 (dex x3)) ∧ W.cell? ⟨(W3.heap.size + 1), 12, none⟩ = some (.bool (sg (dmn x4))) ∧ W.cell? ⟨(W3.heap.size + 1), 13, none⟩ = some (.slice Xx4 (nl (mg (dmn x4))) cx4) ∧ W.cell? ⟨(W3.heap.size + 1), 14, none⟩ = some (.int .i64 (dex x4)) ∧ W.cell? ⟨nbin, 0, none⟩ = some (.bool (sg (dmn x2))) ∧ W.cell? ⟨nbin, 1, none⟩ = some (.slice Xin' (nl (mg (dmn x2))) cin') ∧ W.cell? ⟨nbin, 2, none⟩ = some (.int .i64 (dex x2)) ∧ W.cell? ⟨nbou, 0, none⟩ = some (.bool (sg (dmn x3))) ∧ W.cell? ⟨nbou, 1, none⟩ = some (.slice Xou' (nl (mg (dmn x3))) cou') ∧ W.cell? ⟨nbou, 2, none⟩ = some (.int .i64 (dex x3)) ∧ W.cell? ⟨W19.heap.size, 0, none⟩ = some (.bool (sg fb.num)) ∧ W.cell? ⟨W19.heap.size, 1, none⟩ = some (.slice Xfb (nl (mg fb.num)) cfb) ∧ W.cell? ⟨W19.heap.size, 2, none⟩ = some (.slice Yfb (nl fb.den) dfb) := ⟨_, rfl⟩
                      have HSq : S (wc).drew := by rw [hS]; exact ⟨(Rlo.c (i := 0) rfl), (Rlo.c (i := 1) rfl), (Rlo.c (i := 2) rfl), (Rv.c (i := 0) rfl), (Rv.c (i := 1) rfl), (Rv.c (i := 2) rfl), (Rup.c (i := 0) rfl), (Rup.c (i := 1) rfl), (Rup.c (i := 2) rfl), (Rst.c (i := 0) rfl), (Rst.c (i := 1) rfl), (Rst.c (i := 2) rfl), (Rl.c (i := 0) rfl), (Rl.c (i := 1) rfl), (Rl.c (i := 2) rfl), (Rl.c (i := 3) rfl), (Rl.c (i := 4) rfl), (Rl.c (i := 5) rfl), (Rl.c (i := 6) rfl), (Rl.c (i := 7) rfl), (Rl.c (i := 8) rfl), (Rl.c (i := 9) rfl), (Rl.c (i := 10) rfl), (Rl.c (i := 11) rfl), (Rl.c (i := 12) rfl), (Rl.c (i := 13) rfl), (Rl.c (i := 14) rfl), (Rin'.c (i := 0) rfl), (Rin'.c (i := 1) rfl), (Rin'.c (i := 2) rfl), (Rou'.c (i := 0) rfl), (Rou'.c (i := 1) rfl), (Rou'.c (i := 2) rfl), (Rfb.c (i := 0) rfl), (Rfb.c (i := 1) rfl), (Rfb.c (i := 2) rfl)⟩
                      have hSb : ∀ W W' : World, Below W.heap.size W W' → S W → S W' := by rw [hS]; exact fun W W' hb h => ⟨cell_below hb h.1, cell_below hb h.2.1, cell_below hb h.2.2.1, cell_below hb h.2.2.2.1, cell_below hb h.2.2.2.2.1, cell_below hb h.2.2.2.2.2.1, cell_below hb h.2.2.2.2.2.2.1, cell_below hb h.2.2.2.2.2.2.2.1, cell_below hb h.2.2.2.2.2.2.2.2.1, cell_below hb h.2.2.2.2.2.2.2.2.2.1, cell_below hb h.2.2.2.2.2.2.2.2.2.2.1, cell_below hb h.2.2.2.2.2.2.2.2.2.2.2.1, cell_below hb h.2.2.2.2.2.2.2.2.2.2.2.2.1, cell_below hb h.2.2.2.2.2.2.2.2.2.2.2.2.2.1, cell_below hb h.2.2.2.2.2.2.2.2.2.2.2.2.2.2.1, cell_below hb h.2.2.2.2.2.2.2.2.2.2.2.2.2.2.2.1, cell_below hb h.2.2.2.2.2.2.2.2.2.2.2.2.2.2.2.2.1, cell_below hb h.2.2.2.2.2.2.2.2.2.2.2.2.2.2.2.2.2.1, cell_below hb h.2.2.2.2.2.2.2.2.2.2.2.2.2.2.2.2.2.2.1, cell_below hb h.2.2.2.2.2.2.2.2.2.2.2.2.2.2.2.2.2.2.2.1, cell_below hb h.2.2.2.2.2.2.2.2.2.2.2.2.2.2.2.2.2.2.2.2.1, cell_below hb h.2.2.2.2.2.2.2.2.2.2.2.2.2.2.2.2.2.2.2.2.2.1, cell_below hb h.2.2.2.2.2.2.2.2.2.2.2.2.2.2.2.2.2.2.2.2.2.2.1, cell_below hb h.2.2.2.2.2.2.2.2.2.2.2.2.2.2.2.2.2.2.2.2.2.2.2.1, cell_below hb h.2.2.2.2.2.2.2.2.2.2.2.2.2.2.2.2.2.2.2.2.2.2.2.2.1, cell_below hb h.2.2.2.2.2.2.2.2.2.2.2.2.2.2.2.2.2.2.2.2.2.2.2.2.2.1, cell_below hb h.2.2.2.2.2.2.2.2.2.2.2.2.2.2.2.2.2.2.2.2.2.2.2.2.2.2.1, cell_below hb h.2.2.2.2.2.2.2.2.2.2.2.2.2.2.2.2.2.2.2.2.2.2.2.2.2.2.2.1, cell_below hb h.2.2.2.2.2.2.2.2.2.2.2.2.2.2.2.2.2.2.2.2.2.2.2.2.2.2.2.2.1, cell_below hb h.2.2.2.2.2.2.2.2.2.2.2.2.2.2.2.2.2.2.2.2.2.2.2.2.2.2.2.2.2.1, cell_below hb h.2.2.2.2.2.2.2.2.2.2.2.2.2.2.2.2.2.2.2.2.2.2.2.2.2.2.2.2.2.2.1, cell_below hb h.2.2.2.2.2.2.2.2.2.2.2.2.2.2.2.2.2.2.2.2.2.2.2.2.2.2.2.2.2.2.2.1, cell_below hb h.2.2.2.2.2.2.2.2.2.2.2.2.2.2.2.2.2.2.2.2.2.2.2.2.2.2.2.2.2.2.2.2.1, cell_below hb h.2.2.2.2.2.2.2.2.2.2.2.2.2.2.2.2.2.2.2.2.2.2.2.2.2.2.2.2.2.2.2.2.2.1, cell_below hb h.2.2.2.2.2.2.2.2.2.2.2.2.2.2.2.2.2.2.2.2.2.2.2.2.2.2.2.2.2.2.2.2.2.2.1, cell_below hb h.2.2.2.2.2.2.2.2.2.2.2.2.2.2.2.2.2.2.2.2.2.2.2.2.2.2.2.2.2.2.2.2.2.2.2⟩
                      replace hSb := Lib.hid hSb
                      replace hS := Lib.hid hS
                      refine wp_region_seq S [(0, true), (1, true), (2, false), (3, true), (4, true), (5, true), (6, true), (7, false), (8, true), (9, true), (10, true), (11, true), (12, true), (14, true), (13, false), (15, false), (16, true), (17, true), (18, true), (19, true), (20, true), (22, true), (21, false), (23, false), (24, true), (25, true), (26, true), (27, true), (28, true), (29, true), (30, false), (31, true), (32, true), (33, true), (34, true), (35, true), (36, false), (37, true), (38, true), (39, true), (40, true), (41, true), (42, true), (43, false), (44, true), (45, true), (46, true), (47, true), (48, true), (49, false), (50, true), (51, true), (52, true), (53, true), (54, true), (56, true), (55, false), (57, false), (58, true), (59, true), (60, true), (61, true), (62, true), (63, true)] (by kernel_rfl) (by kernel_rfl) (by kernel_rfl) HSq (fun hSq => ?_)
                      clear hSq
                      replace HSq := Lib.hid HSq
                      clear Rlo Rv Rup Rst Rl Rin' Rou' Rfb
                      refine SeqP.take (v := ?_) rfl (fun _ _ _ h => h) (Or.inl ⟨by rfl, ?_⟩) ?_
                      rotate_left 1
                      · intro wq hSw; rw [hS.out] at hSw; (try dsimp only at hSw); go_simp; try with_reducible rfl
                      try simp only [Act.put, List.setIfInBounds_toArray, List.set_cons_zero, List.set_cons_succ]
                      refine SeqP.take (v := ?_) rfl (fun _ _ _ h => h) (Or.inl ⟨by rfl, ?_⟩) ?_
                      rotate_left 1
                      · intro wq hSw; rw [hS.out] at hSw; (try dsimp only at hSw); go_simp; try with_reducible rfl
                      try simp only [Act.put, List.setIfInBounds_toArray, List.set_cons_zero, List.set_cons_succ]
                      refine SeqP.call rfl (by rfl) (fun Kq hKq => ?_)
                      go_simp
                      go_at_call 22
                      with_reducible refine (C23_0.out _ _ _ _ _ _ _ _ _ hlo glo hv2 gv2).mono ?_
                      rintro e W24 ⟨rfl, hb24⟩
                      replace hT := hT.below hb24
                      replace hv2 := hv2.below hb24
                      replace gv2 := gv2.below hb24
                      replace hx0 := hx0.below hb24
                      replace hx1 := hx1.below hb24
                      replace hx2 := hx2.below hb24
                      replace hx3 := hx3.below hb24
                      replace hx4 := hx4.below hb24
                      replace hst := hst.below hb24
                      replace gst := gst.below hb24
                      replace hlo := hlo.below hb24
                      replace glo := glo.below hb24
                      replace hup := hup.below hb24
                      replace gup := gup.below hb24
                      replace hnr := hnr.below hb24
                      replace gnr := gnr.below hb24
                      replace Rnr := Rnr.below hb24
                      replace hfb := hfb.below hb24
                      replace gfb := gfb.below hb24
                      replace hin' := hin'.below hb24
                      replace hou' := hou'.below hb24
                      replace HBT := Below.cons HBT hb24
                      replace HSq := Lib.hid (hSb.out _ _ hb24 HSq.out)
                      clear hb24
                      refine hKq.out _ _ HSq.out (fun hSq => ?_)
                      clear hSq hKq Kq
                      try simp only [Act.put, List.setIfInBounds_toArray, List.set_cons_zero, List.set_cons_succ]
                      refine SeqP.take (v := ?_) rfl (fun _ _ _ h => h) (Or.inl ⟨by rfl, ?_⟩) ?_
                      rotate_left 1
                      · intro wq hSw; rw [hS.out] at hSw; (try dsimp only at hSw); go_simp; try with_reducible rfl
                      try simp only [Act.put, List.setIfInBounds_toArray, List.set_cons_zero, List.set_cons_succ]
                      refine SeqP.take (v := ?_) rfl (fun _ _ _ h => h) (Or.inl ⟨by rfl, ?_⟩) ?_
                      rotate_left 1
                      · intro wq hSw; rw [hS.out] at hSw; (try dsimp only at hSw); go_simp; try with_reducible rfl
                      try simp only [Act.put, List.setIfInBounds_toArray, List.set_cons_zero, List.set_cons_succ]
                      refine SeqP.take (v := ?_) rfl (fun _ _ _ h => h) (Or.inl ⟨by rfl, ?_⟩) ?_
                      rotate_left 1
                      · intro wq hSw; rw [hS.out] at hSw; (try dsimp only at hSw); go_simp; try with_reducible rfl
                      try simp only [Act.put, List.setIfInBounds_toArray, List.set_cons_zero, List.set_cons_succ]
                      refine SeqP.take (v := ?_) rfl (fun _ _ _ h => h) (Or.inl ⟨by rfl, ?_⟩) ?_
                      rotate_left 1
                      · intro wq hSw; rw [hS.out] at hSw; (try dsimp only at hSw); go_simp; try with_reducible rfl
                      try simp only [Act.put, List.setIfInBounds_toArray, List.set_cons_zero, List.set_cons_succ]
                      refine SeqP.call rfl (by rfl) (fun Kq hKq => ?_)
                      go_simp
                      go_at_call 22
                      with_reducible refine (C23_1.out _ _ _ _ _ _ _ _ _ hup gup hv2 gv2).mono ?_
                      rintro e W25 ⟨rfl, hb25⟩
                      replace hT := hT.below hb25
                      replace hv2 := hv2.below hb25
                      replace gv2 := gv2.below hb25
                      replace hx0 := hx0.below hb25
                      replace hx1 := hx1.below hb25
                      replace hx2 := hx2.below hb25
                      replace hx3 := hx3.below hb25
                      replace hx4 := hx4.below hb25
                      replace hst := hst.below hb25
                      replace gst := gst.below hb25
                      replace hlo := hlo.below hb25
                      replace glo := glo.below hb25
                      replace hup := hup.below hb25
                      replace gup := gup.below hb25
                      replace hnr := hnr.below hb25
                      replace gnr := gnr.below hb25
                      replace Rnr := Rnr.below hb25
                      replace hfb := hfb.below hb25
                      replace gfb := gfb.below hb25
                      replace hin' := hin'.below hb25
                      replace hou' := hou'.below hb25
                      replace HBT := Below.cons HBT hb25
                      replace HSq := Lib.hid (hSb.out _ _ hb25 HSq.out)
                      clear hb25
                      refine hKq.out _ _ HSq.out (fun hSq => ?_)
                      clear hSq hKq Kq
                      try simp only [Act.put, List.setIfInBounds_toArray, List.set_cons_zero, List.set_cons_succ]
                      refine SeqP.take (v := ?_) rfl (fun _ _ _ h => h) (Or.inl ⟨by rfl, ?_⟩) ?_
                      rotate_left 1
                      · intro wq hSw; rw [hS.out] at hSw; (try dsimp only at hSw); go_simp; try with_reducible rfl
                      try simp only [Act.put, List.setIfInBounds_toArray, List.set_cons_zero, List.set_cons_succ]
                      refine SeqP.take (v := ?_) rfl (fun _ _ _ h => h) (Or.inl ⟨by rfl, ?_⟩) ?_
                      rotate_left 1
                      · intro wq hSw; rw [hS.out] at hSw; (try dsimp only at hSw); go_simp; try with_reducible rfl
                      try simp only [Act.put, List.setIfInBounds_toArray, List.set_cons_zero, List.set_cons_succ]
                      refine SeqP.take (v := ?_) rfl (fun _ _ _ h => h) (Or.inl ⟨by rfl, ?_⟩) ?_
                      rotate_left 1
                      · intro wq hSw; rw [hS.out] at hSw; (try dsimp only at hSw); go_simp; try with_reducible rfl
                      try simp only [Act.put, List.setIfInBounds_toArray, List.set_cons_zero, List.set_cons_succ]
                      refine SeqP.take (v := ?_) rfl (fun _ _ _ h => h) (Or.inl ⟨by rfl, ?_⟩) ?_
                      rotate_left 1
                      · intro wq hSw; rw [hS.out] at hSw; (try dsimp only at hSw); go_simp; try with_reducible rfl
                      try simp only [Act.put, List.setIfInBounds_toArray, List.set_cons_zero, List.set_cons_succ]
                      refine SeqP.take (v := ?_) rfl (fun _ _ _ h => h) (Or.inl ⟨by rfl, ?_⟩) ?_
                      rotate_left 1
                      · intro wq hSw; rw [hS.out] at hSw; (try dsimp only at hSw); go_simp; try with_reducible rfl
                      try simp only [Act.put, List.setIfInBounds_toArray, List.set_cons_zero, List.set_cons_succ]
                      refine SeqP.take (v := ?_) rfl (fun _ _ _ h => h) (Or.inl ⟨by rfl, ?_⟩) ?_
                      rotate_left 1
                      · intro wq hSw; rw [hS.out] at hSw; (try dsimp only at hSw); go_simp; try with_reducible rfl
                      try simp only [Act.put, List.setIfInBounds_toArray, List.set_cons_zero, List.set_cons_succ]
                      refine SeqP.call rfl (by rfl) (fun Kq hKq => ?_)
                      go_simp
                      go_at_call 23
                      with_reducible refine (C23_2.out _ _ _ _ _ _ _ _ _ hlo glo hst gst).mono ?_
                      rintro e W26 ⟨Xa1, ca1, Ya1, da1, rfl, ha1, ga1, hb26⟩
                      replace hT := hT.below hb26
                      replace hv2 := hv2.below hb26
                      replace gv2 := gv2.below hb26
                      replace hx0 := hx0.below hb26
                      replace hx1 := hx1.below hb26
                      replace hx2 := hx2.below hb26
                      replace hx3 := hx3.below hb26
                      replace hx4 := hx4.below hb26
                      replace hst := hst.below hb26
                      replace gst := gst.below hb26
                      replace hlo := hlo.below hb26
                      replace glo := glo.below hb26
                      replace hup := hup.below hb26
                      replace gup := gup.below hb26
                      replace hnr := hnr.below hb26
                      replace gnr := gnr.below hb26
                      replace Rnr := Rnr.below hb26
                      replace hfb := hfb.below hb26
                      replace gfb := gfb.below hb26
                      replace hin' := hin'.below hb26
                      replace hou' := hou'.below hb26
                      replace HBT := Below.cons HBT hb26
                      replace HSq := Lib.hid (hSb.out _ _ hb26 HSq.out)
                      clear hb26
                      refine hKq.out _ _ HSq.out (fun hSq => ?_)
                      clear hSq hKq Kq
                      try simp only [Act.put, List.setIfInBounds_toArray, List.set_cons_zero, List.set_cons_succ]
                      refine SeqP.call rfl (by rfl) (fun Kq hKq => ?_)
                      go_simp
                      go_at_call 22
                      with_reducible refine (C23_3.out _ _ _ _ _ _ _ _ _ ha1 ga1 hv2 gv2).mono ?_
                      rintro e W27 ⟨rfl, hb27⟩
                      replace hT := hT.below hb27
                      replace hv2 := hv2.below hb27
                      replace gv2 := gv2.below hb27
                      replace hx0 := hx0.below hb27
                      replace hx1 := hx1.below hb27
                      replace hx2 := hx2.below hb27
                      replace hx3 := hx3.below hb27
                      replace hx4 := hx4.below hb27
                      replace hst := hst.below hb27
                      replace gst := gst.below hb27
                      replace hlo := hlo.below hb27
                      replace glo := glo.below hb27
                      replace hup := hup.below hb27
                      replace gup := gup.below hb27
                      replace hnr := hnr.below hb27
                      replace gnr := gnr.below hb27
                      replace Rnr := Rnr.below hb27
                      replace hfb := hfb.below hb27
                      replace gfb := gfb.below hb27
                      replace hin' := hin'.below hb27
                      replace hou' := hou'.below hb27
                      replace HBT := Below.cons HBT hb27
                      replace HSq := Lib.hid (hSb.out _ _ hb27 HSq.out)
                      clear hb27
                      refine hKq.out _ _ HSq.out (fun hSq => ?_)
                      clear hSq hKq Kq
                      try simp only [Act.put, List.setIfInBounds_toArray, List.set_cons_zero, List.set_cons_succ]
                      refine SeqP.take (v := ?_) rfl (fun _ _ _ h => h) (Or.inl ⟨by rfl, ?_⟩) ?_
                      rotate_left 1
                      · intro wq hSw; rw [hS.out] at hSw; (try dsimp only at hSw); go_simp; try with_reducible rfl
                      try simp only [Act.put, List.setIfInBounds_toArray, List.set_cons_zero, List.set_cons_succ]
                      refine SeqP.take (v := ?_) rfl (fun _ _ _ h => h) (Or.inl ⟨by rfl, ?_⟩) ?_
                      rotate_left 1
                      · intro wq hSw; rw [hS.out] at hSw; (try dsimp only at hSw); go_simp; try with_reducible rfl
                      try simp only [Act.put, List.setIfInBounds_toArray, List.set_cons_zero, List.set_cons_succ]
                      refine SeqP.take (v := ?_) rfl (fun _ _ _ h => h) (Or.inl ⟨by rfl, ?_⟩) ?_
                      rotate_left 1
                      · intro wq hSw; rw [hS.out] at hSw; (try dsimp only at hSw); go_simp; try with_reducible rfl
                      try simp only [Act.put, List.setIfInBounds_toArray, List.set_cons_zero, List.set_cons_succ]
                      refine SeqP.take (v := ?_) rfl (fun _ _ _ h => h) (Or.inl ⟨by rfl, ?_⟩) ?_
                      rotate_left 1
                      · intro wq hSw; rw [hS.out] at hSw; (try dsimp only at hSw); go_simp; try with_reducible rfl
                      try simp only [Act.put, List.setIfInBounds_toArray, List.set_cons_zero, List.set_cons_succ]
                      refine SeqP.take (v := ?_) rfl (fun _ _ _ h => h) (Or.inl ⟨by rfl, ?_⟩) ?_
                      rotate_left 1
                      · intro wq hSw; rw [hS.out] at hSw; (try dsimp only at hSw); go_simp; try with_reducible rfl
                      try simp only [Act.put, List.setIfInBounds_toArray, List.set_cons_zero, List.set_cons_succ]
                      refine SeqP.take (v := ?_) rfl (fun _ _ _ h => h) (Or.inl ⟨by rfl, ?_⟩) ?_
                      rotate_left 1
                      · intro wq hSw; rw [hS.out] at hSw; (try dsimp only at hSw); go_simp; try with_reducible rfl
                      try simp only [Act.put, List.setIfInBounds_toArray, List.set_cons_zero, List.set_cons_succ]
                      refine SeqP.call rfl (by rfl) (fun Kq hKq => ?_)
                      go_simp
                      go_at_call 19
                      with_reducible refine (C23_4.out _ _ _ _ _ _ _ _ _ hup gup hst gst).mono ?_
                      rintro e W28 ⟨Xa2, ca2, Ya2, da2, rfl, ha2, ga2, hb28⟩
                      replace hT := hT.below hb28
                      replace hv2 := hv2.below hb28
                      replace gv2 := gv2.below hb28
                      replace hx0 := hx0.below hb28
                      replace hx1 := hx1.below hb28
                      replace hx2 := hx2.below hb28
                      replace hx3 := hx3.below hb28
                      replace hx4 := hx4.below hb28
                      replace hst := hst.below hb28
                      replace gst := gst.below hb28
                      replace hlo := hlo.below hb28
                      replace glo := glo.below hb28
                      replace hup := hup.below hb28
                      replace gup := gup.below hb28
                      replace hnr := hnr.below hb28
                      replace gnr := gnr.below hb28
                      replace Rnr := Rnr.below hb28
                      replace hfb := hfb.below hb28
                      replace gfb := gfb.below hb28
                      replace hin' := hin'.below hb28
                      replace hou' := hou'.below hb28
                      replace HBT := Below.cons HBT hb28
                      replace HSq := Lib.hid (hSb.out _ _ hb28 HSq.out)
                      clear hb28
                      refine hKq.out _ _ HSq.out (fun hSq => ?_)
                      clear hSq hKq Kq
                      try simp only [Act.put, List.setIfInBounds_toArray, List.set_cons_zero, List.set_cons_succ]
                      refine SeqP.call rfl (by rfl) (fun Kq hKq => ?_)
                      go_simp
                      go_at_call 22
                      with_reducible refine (C23_5.out _ _ _ _ _ _ _ _ _ ha2 ga2 hv2 gv2).mono ?_
                      rintro e W29 ⟨rfl, hb29⟩
                      replace hT := hT.below hb29
                      replace hv2 := hv2.below hb29
                      replace gv2 := gv2.below hb29
                      replace hx0 := hx0.below hb29
                      replace hx1 := hx1.below hb29
                      replace hx2 := hx2.below hb29
                      replace hx3 := hx3.below hb29
                      replace hx4 := hx4.below hb29
                      replace hst := hst.below hb29
                      replace gst := gst.below hb29
                      replace hlo := hlo.below hb29
                      replace glo := glo.below hb29
                      replace hup := hup.below hb29
                      replace gup := gup.below hb29
                      replace hnr := hnr.below hb29
                      replace gnr := gnr.below hb29
                      replace Rnr := Rnr.below hb29
                      replace hfb := hfb.below hb29
                      replace gfb := gfb.below hb29
                      replace hin' := hin'.below hb29
                      replace hou' := hou'.below hb29
                      replace HBT := Below.cons HBT hb29
                      replace HSq := Lib.hid (hSb.out _ _ hb29 HSq.out)
                      clear hb29
                      refine hKq.out _ _ HSq.out (fun hSq => ?_)
                      clear hSq hKq Kq
                      try simp only [Act.put, List.setIfInBounds_toArray, List.set_cons_zero, List.set_cons_succ]
                      refine SeqP.take (v := ?_) rfl (fun _ _ _ h => h) (Or.inl ⟨by rfl, ?_⟩) ?_
                      rotate_left 1
                      · intro wq hSw; rw [hS.out] at hSw; (try dsimp only at hSw); go_simp; try with_reducible rfl
                      try simp only [Act.put, List.setIfInBounds_toArray, List.set_cons_zero, List.set_cons_succ]
                      refine SeqP.take (v := ?_) rfl (fun _ _ _ h => h) (Or.inl ⟨by rfl, ?_⟩) ?_
                      rotate_left 1
                      · intro wq hSw; rw [hS.out] at hSw; (try dsimp only at hSw); go_simp; try with_reducible rfl
                      try simp only [Act.put, List.setIfInBounds_toArray, List.set_cons_zero, List.set_cons_succ]
                      refine SeqP.take (v := ?_) rfl (fun _ _ _ h => h) (Or.inl ⟨by rfl, ?_⟩) ?_
                      rotate_left 1
                      · intro wq hSw; rw [hS.out] at hSw; (try dsimp only at hSw); go_simp; try with_reducible rfl
                      try simp only [Act.put, List.setIfInBounds_toArray, List.set_cons_zero, List.set_cons_succ]
                      refine SeqP.take (v := ?_) rfl (fun _ _ _ h => h) (Or.inl ⟨by rfl, ?_⟩) ?_
                      rotate_left 1
                      · intro wq hSw; rw [hS.out] at hSw; (try dsimp only at hSw); go_simp; try with_reducible rfl
                      try simp only [Act.put, List.setIfInBounds_toArray, List.set_cons_zero, List.set_cons_succ]
                      refine SeqP.take (v := ?_) rfl (fun _ _ _ h => h) (Or.inl ⟨by rfl, ?_⟩) ?_
                      rotate_left 1
                      · intro wq hSw; rw [hS.out] at hSw; (try dsimp only at hSw); go_simp; try with_reducible rfl
                      try simp only [Act.put, List.setIfInBounds_toArray, List.set_cons_zero, List.set_cons_succ]
                      refine SeqP.take (v := ?_) rfl (fun _ _ _ h => h) (Or.inl ⟨by rfl, ?_⟩) ?_
                      rotate_left 1
                      · intro wq hSw; rw [hS.out] at hSw; (try dsimp only at hSw); go_simp; try with_reducible rfl
                      try simp only [Act.put, List.setIfInBounds_toArray, List.set_cons_zero, List.set_cons_succ]
                      refine SeqP.call rfl (by rfl) (fun Kq hKq => ?_)
                      go_simp
                      go_at_call 24
                      with_reducible refine (C23_6.out _ _ _ _ _ hx2 hin').mono ?_
                      rintro e W30 ⟨rfl, hb30⟩
                      replace hT := hT.below hb30
                      replace hv2 := hv2.below hb30
                      replace gv2 := gv2.below hb30
                      replace hx0 := hx0.below hb30
                      replace hx1 := hx1.below hb30
                      replace hx2 := hx2.below hb30
                      replace hx3 := hx3.below hb30
                      replace hx4 := hx4.below hb30
                      replace hst := hst.below hb30
                      replace gst := gst.below hb30
                      replace hlo := hlo.below hb30
                      replace glo := glo.below hb30
                      replace hup := hup.below hb30
                      replace gup := gup.below hb30
                      replace hnr := hnr.below hb30
                      replace gnr := gnr.below hb30
                      replace Rnr := Rnr.below hb30
                      replace hfb := hfb.below hb30
                      replace gfb := gfb.below hb30
                      replace hin' := hin'.below hb30
                      replace hou' := hou'.below hb30
                      replace HBT := Below.cons HBT hb30
                      replace HSq := Lib.hid (hSb.out _ _ hb30 HSq.out)
                      clear hb30
                      refine hKq.out _ _ HSq.out (fun hSq => ?_)
                      clear hSq hKq Kq
                      try simp only [Act.put, List.setIfInBounds_toArray, List.set_cons_zero, List.set_cons_succ]
                      refine SeqP.take (v := ?_) rfl (fun _ _ _ h => h) (Or.inl ⟨by rfl, ?_⟩) ?_
                      rotate_left 1
                      · intro wq hSw; rw [hS.out] at hSw; (try dsimp only at hSw); go_simp; try with_reducible rfl
                      try simp only [Act.put, List.setIfInBounds_toArray, List.set_cons_zero, List.set_cons_succ]
                      refine SeqP.take (v := ?_) rfl (fun _ _ _ h => h) (Or.inl ⟨by rfl, ?_⟩) ?_
                      rotate_left 1
                      · intro wq hSw; rw [hS.out] at hSw; (try dsimp only at hSw); go_simp; try with_reducible rfl
                      try simp only [Act.put, List.setIfInBounds_toArray, List.set_cons_zero, List.set_cons_succ]
                      refine SeqP.take (v := ?_) rfl (fun _ _ _ h => h) (Or.inl ⟨by rfl, ?_⟩) ?_
                      rotate_left 1
                      · intro wq hSw; rw [hS.out] at hSw; (try dsimp only at hSw); go_simp; try with_reducible rfl
                      try simp only [Act.put, List.setIfInBounds_toArray, List.set_cons_zero, List.set_cons_succ]
                      refine SeqP.take (v := ?_) rfl (fun _ _ _ h => h) (Or.inl ⟨by rfl, ?_⟩) ?_
                      rotate_left 1
                      · intro wq hSw; rw [hS.out] at hSw; (try dsimp only at hSw); go_simp; try with_reducible rfl
                      try simp only [Act.put, List.setIfInBounds_toArray, List.set_cons_zero, List.set_cons_succ]
                      refine SeqP.take (v := ?_) rfl (fun _ _ _ h => h) (Or.inl ⟨by rfl, ?_⟩) ?_
                      rotate_left 1
                      · intro wq hSw; rw [hS.out] at hSw; (try dsimp only at hSw); go_simp; try with_reducible rfl
                      try simp only [Act.put, List.setIfInBounds_toArray, List.set_cons_zero, List.set_cons_succ]
                      refine SeqP.call rfl (by rfl) (fun Kq hKq => ?_)
                      go_simp
                      go_at_call 24
                      with_reducible refine (C23_7.out _ _ _ _ _ hx3 hou').mono ?_
                      rintro e W31 ⟨rfl, hb31⟩
                      replace hT := hT.below hb31
                      replace hv2 := hv2.below hb31
                      replace gv2 := gv2.below hb31
                      replace hx0 := hx0.below hb31
                      replace hx1 := hx1.below hb31
                      replace hx2 := hx2.below hb31
                      replace hx3 := hx3.below hb31
                      replace hx4 := hx4.below hb31
                      replace hst := hst.below hb31
                      replace gst := gst.below hb31
                      replace hlo := hlo.below hb31
                      replace glo := glo.below hb31
                      replace hup := hup.below hb31
                      replace gup := gup.below hb31
                      replace hnr := hnr.below hb31
                      replace gnr := gnr.below hb31
                      replace Rnr := Rnr.below hb31
                      replace hfb := hfb.below hb31
                      replace gfb := gfb.below hb31
                      replace hin' := hin'.below hb31
                      replace hou' := hou'.below hb31
                      replace HBT := Below.cons HBT hb31
                      replace HSq := Lib.hid (hSb.out _ _ hb31 HSq.out)
                      clear hb31
                      refine hKq.out _ _ HSq.out (fun hSq => ?_)
                      clear hSq hKq Kq
                      try simp only [Act.put, List.setIfInBounds_toArray, List.set_cons_zero, List.set_cons_succ]
                      refine SeqP.take (v := ?_) rfl (fun _ _ _ h => h) (Or.inl ⟨by rfl, ?_⟩) ?_
                      rotate_left 1
                      · intro wq hSw; rw [hS.out] at hSw; (try dsimp only at hSw); go_simp; try with_reducible rfl
                      try simp only [Act.put, List.setIfInBounds_toArray, List.set_cons_zero, List.set_cons_succ]
                      refine SeqP.take (v := ?_) rfl (fun _ _ _ h => h) (Or.inl ⟨by rfl, ?_⟩) ?_
                      rotate_left 1
                      · intro wq hSw; rw [hS.out] at hSw; (try dsimp only at hSw); go_simp; try with_reducible rfl
                      try simp only [Act.put, List.setIfInBounds_toArray, List.set_cons_zero, List.set_cons_succ]
                      refine SeqP.take (v := ?_) rfl (fun _ _ _ h => h) (Or.inl ⟨by rfl, ?_⟩) ?_
                      rotate_left 1
                      · intro wq hSw; rw [hS.out] at hSw; (try dsimp only at hSw); go_simp; try with_reducible rfl
                      try simp only [Act.put, List.setIfInBounds_toArray, List.set_cons_zero, List.set_cons_succ]
                      refine SeqP.take (v := ?_) rfl (fun _ _ _ h => h) (Or.inl ⟨by rfl, ?_⟩) ?_
                      rotate_left 1
                      · intro wq hSw; rw [hS.out] at hSw; (try dsimp only at hSw); go_simp; try with_reducible rfl
                      try simp only [Act.put, List.setIfInBounds_toArray, List.set_cons_zero, List.set_cons_succ]
                      refine SeqP.take (v := ?_) rfl (fun _ _ _ h => h) (Or.inl ⟨by rfl, ?_⟩) ?_
                      rotate_left 1
                      · intro wq hSw; rw [hS.out] at hSw; (try dsimp only at hSw); go_simp; try with_reducible rfl
                      try simp only [Act.put, List.setIfInBounds_toArray, List.set_cons_zero, List.set_cons_succ]
                      refine SeqP.take (v := ?_) rfl (fun _ _ _ h => h) (Or.inl ⟨by rfl, ?_⟩) ?_
                      rotate_left 1
                      · intro wq hSw; rw [hS.out] at hSw; (try dsimp only at hSw); go_simp; try with_reducible rfl
                      try simp only [Act.put, List.setIfInBounds_toArray, List.set_cons_zero, List.set_cons_succ]
                      refine SeqP.call rfl (by rfl) (fun Kq hKq => ?_)
                      go_simp
                      go_at_call 24
                      with_reducible refine (C23_8.out _ _ _ _ _ hx4 hx0).mono ?_
                      rintro e W32 ⟨rfl, hb32⟩
                      replace hT := hT.below hb32
                      replace hv2 := hv2.below hb32
                      replace gv2 := gv2.below hb32
                      replace hx0 := hx0.below hb32
                      replace hx1 := hx1.below hb32
                      replace hx2 := hx2.below hb32
                      replace hx3 := hx3.below hb32
                      replace hx4 := hx4.below hb32
                      replace hst := hst.below hb32
                      replace gst := gst.below hb32
                      replace hlo := hlo.below hb32
                      replace glo := glo.below hb32
                      replace hup := hup.below hb32
                      replace gup := gup.below hb32
                      replace hnr := hnr.below hb32
                      replace gnr := gnr.below hb32
                      replace Rnr := Rnr.below hb32
                      replace hfb := hfb.below hb32
                      replace gfb := gfb.below hb32
                      replace hin' := hin'.below hb32
                      replace hou' := hou'.below hb32
                      replace HBT := Below.cons HBT hb32
                      replace HSq := Lib.hid (hSb.out _ _ hb32 HSq.out)
                      clear hb32
                      refine hKq.out _ _ HSq.out (fun hSq => ?_)
                      clear hSq hKq Kq
                      try simp only [Act.put, List.setIfInBounds_toArray, List.set_cons_zero, List.set_cons_succ]
                      refine SeqP.take (v := ?_) rfl (fun _ _ _ h => h) (Or.inl ⟨by rfl, ?_⟩) ?_
                      rotate_left 1
                      · intro wq hSw; rw [hS.out] at hSw; (try dsimp only at hSw); go_simp; try with_reducible rfl
                      try simp only [Act.put, List.setIfInBounds_toArray, List.set_cons_zero, List.set_cons_succ]
                      refine SeqP.take (v := ?_) rfl (fun _ _ _ h => h) (Or.inl ⟨by rfl, ?_⟩) ?_
                      rotate_left 1
                      · intro wq hSw; rw [hS.out] at hSw; (try dsimp only at hSw); go_simp; try with_reducible rfl
                      try simp only [Act.put, List.setIfInBounds_toArray, List.set_cons_zero, List.set_cons_succ]
                      refine SeqP.take (v := ?_) rfl (fun _ _ _ h => h) (Or.inl ⟨by rfl, ?_⟩) ?_
                      rotate_left 1
                      · intro wq hSw; rw [hS.out] at hSw; (try dsimp only at hSw); go_simp; try with_reducible rfl
                      try simp only [Act.put, List.setIfInBounds_toArray, List.set_cons_zero, List.set_cons_succ]
                      refine SeqP.take (v := ?_) rfl (fun _ _ _ h => h) (Or.inl ⟨by rfl, ?_⟩) ?_
                      rotate_left 1
                      · intro wq hSw; rw [hS.out] at hSw; (try dsimp only at hSw); go_simp; try with_reducible rfl
                      try simp only [Act.put, List.setIfInBounds_toArray, List.set_cons_zero, List.set_cons_succ]
                      refine SeqP.take (v := ?_) rfl (fun _ _ _ h => h) (Or.inl ⟨by rfl, ?_⟩) ?_
                      rotate_left 1
                      · intro wq hSw; rw [hS.out] at hSw; (try dsimp only at hSw); go_simp; try with_reducible rfl
                      try simp only [Act.put, List.setIfInBounds_toArray, List.set_cons_zero, List.set_cons_succ]
                      refine SeqP.call rfl (by rfl) (fun Kq hKq => ?_)
                      go_simp
                      go_at_call 24
                      with_reducible refine (C23_9.out _ _ _ _ _ hx4 hx1).mono ?_
                      rintro e W33 ⟨rfl, hb33⟩
                      replace hT := hT.below hb33
                      replace hv2 := hv2.below hb33
                      replace gv2 := gv2.below hb33
                      replace hx0 := hx0.below hb33
                      replace hx1 := hx1.below hb33
                      replace hx2 := hx2.below hb33
                      replace hx3 := hx3.below hb33
                      replace hx4 := hx4.below hb33
                      replace hst := hst.below hb33
                      replace gst := gst.below hb33
                      replace hlo := hlo.below hb33
                      replace glo := glo.below hb33
                      replace hup := hup.below hb33
                      replace gup := gup.below hb33
                      replace hnr := hnr.below hb33
                      replace gnr := gnr.below hb33
                      replace Rnr := Rnr.below hb33
                      replace hfb := hfb.below hb33
                      replace gfb := gfb.below hb33
                      replace hin' := hin'.below hb33
                      replace hou' := hou'.below hb33
                      replace HBT := Below.cons HBT hb33
                      replace HSq := Lib.hid (hSb.out _ _ hb33 HSq.out)
                      clear hb33
                      refine hKq.out _ _ HSq.out (fun hSq => ?_)
                      clear hSq hKq Kq
                      try simp only [Act.put, List.setIfInBounds_toArray, List.set_cons_zero, List.set_cons_succ]
                      refine SeqP.take (v := ?_) rfl (fun _ _ _ h => h) (Or.inl ⟨by rfl, ?_⟩) ?_
                      rotate_left 1
                      · intro wq hSw; rw [hS.out] at hSw; (try dsimp only at hSw); go_simp; try with_reducible rfl
                      try simp only [Act.put, List.setIfInBounds_toArray, List.set_cons_zero, List.set_cons_succ]
                      refine SeqP.take (v := ?_) rfl (fun _ _ _ h => h) (Or.inl ⟨by rfl, ?_⟩) ?_
                      rotate_left 1
                      · intro wq hSw; rw [hS.out] at hSw; (try dsimp only at hSw); go_simp; try with_reducible rfl
                      try simp only [Act.put, List.setIfInBounds_toArray, List.set_cons_zero, List.set_cons_succ]
                      refine SeqP.take (v := ?_) rfl (fun _ _ _ h => h) (Or.inl ⟨by rfl, ?_⟩) ?_
                      rotate_left 1
                      · intro wq hSw; rw [hS.out] at hSw; (try dsimp only at hSw); go_simp; try with_reducible rfl
                      try simp only [Act.put, List.setIfInBounds_toArray, List.set_cons_zero, List.set_cons_succ]
                      refine SeqP.take (v := ?_) rfl (fun _ _ _ h => h) (Or.inl ⟨by rfl, ?_⟩) ?_
                      rotate_left 1
                      · intro wq hSw; rw [hS.out] at hSw; (try dsimp only at hSw); go_simp; try with_reducible rfl
                      try simp only [Act.put, List.setIfInBounds_toArray, List.set_cons_zero, List.set_cons_succ]
                      refine SeqP.take (v := ?_) rfl (fun _ _ _ h => h) (Or.inl ⟨by rfl, ?_⟩) ?_
                      rotate_left 1
                      · intro wq hSw; rw [hS.out] at hSw; (try dsimp only at hSw); go_simp; try with_reducible rfl
                      try simp only [Act.put, List.setIfInBounds_toArray, List.set_cons_zero, List.set_cons_succ]
                      refine SeqP.take (v := ?_) rfl (fun _ _ _ h => h) (Or.inl ⟨by rfl, ?_⟩) ?_
                      rotate_left 1
                      · intro wq hSw; rw [hS.out] at hSw; (try dsimp only at hSw); go_simp; try with_reducible rfl
                      try simp only [Act.put, List.setIfInBounds_toArray, List.set_cons_zero, List.set_cons_succ]
                      refine SeqP.call rfl (by rfl) (fun Kq hKq => ?_)
                      go_simp
                      go_at_call 23
                      with_reducible refine (C23_10.out _ _ _ _ _ _ _ _ _ hfb gfb hfb gfb).mono ?_
                      rintro e W34 ⟨Xa3, ca3, Ya3, da3, rfl, ha3, ga3, hb34⟩
                      replace hT := hT.below hb34
                      replace hv2 := hv2.below hb34
                      replace gv2 := gv2.below hb34
                      replace hx0 := hx0.below hb34
                      replace hx1 := hx1.below hb34
                      replace hx2 := hx2.below hb34
                      replace hx3 := hx3.below hb34
                      replace hx4 := hx4.below hb34
                      replace hst := hst.below hb34
                      replace gst := gst.below hb34
                      replace hlo := hlo.below hb34
                      replace glo := glo.below hb34
                      replace hup := hup.below hb34
                      replace gup := gup.below hb34
                      replace hnr := hnr.below hb34
                      replace gnr := gnr.below hb34
                      replace Rnr := Rnr.below hb34
                      replace hfb := hfb.below hb34
                      replace gfb := gfb.below hb34
                      replace hin' := hin'.below hb34
                      replace hou' := hou'.below hb34
                      replace HBT := Below.cons HBT hb34
                      replace HSq := Lib.hid (hSb.out _ _ hb34 HSq.out)
                      clear hb34
                      refine hKq.out _ _ HSq.out (fun hSq => ?_)
                      clear hSq hKq Kq
                      try simp only [Act.put, List.setIfInBounds_toArray, List.set_cons_zero, List.set_cons_succ]
                      refine SeqP.call rfl (by rfl) (fun Kq hKq => ?_)
                      go_simp
                      go_at_call 22
                      with_reducible refine (C23_11.out _ _ _ _ _ _ _ _ _ ha3 ga3 hst gst).mono ?_
                      rintro e W35 ⟨rfl, hb35⟩
                      replace hT := hT.below hb35
                      replace hv2 := hv2.below hb35
                      replace gv2 := gv2.below hb35
                      replace hx0 := hx0.below hb35
                      replace hx1 := hx1.below hb35
                      replace hx2 := hx2.below hb35
                      replace hx3 := hx3.below hb35
                      replace hx4 := hx4.below hb35
                      replace hst := hst.below hb35
                      replace gst := gst.below hb35
                      replace hlo := hlo.below hb35
                      replace glo := glo.below hb35
                      replace hup := hup.below hb35
                      replace gup := gup.below hb35
                      replace hnr := hnr.below hb35
                      replace gnr := gnr.below hb35
                      replace Rnr := Rnr.below hb35
                      replace hfb := hfb.below hb35
                      replace gfb := gfb.below hb35
                      replace hin' := hin'.below hb35
                      replace hou' := hou'.below hb35
                      replace ha3 := ha3.below hb35
                      replace ga3 := ga3.below hb35
                      replace HBT := Below.cons HBT hb35
                      replace HSq := Lib.hid (hSb.out _ _ hb35 HSq.out)
                      clear hb35
                      refine hKq.out _ _ HSq.out (fun hSq => ?_)
                      clear hSq hKq Kq
                      try simp only [Act.put, List.setIfInBounds_toArray, List.set_cons_zero, List.set_cons_succ]
                      refine SeqP.take (v := ?_) rfl (fun _ _ _ h => h) (Or.inl ⟨by rfl, ?_⟩) ?_
                      rotate_left 1
                      · intro wq hSw; rw [hS.out] at hSw; (try dsimp only at hSw); go_simp; try with_reducible rfl
                      try simp only [Act.put, List.setIfInBounds_toArray, List.set_cons_zero, List.set_cons_succ]
                      refine SeqP.take (v := ?_) rfl (fun _ _ _ h => h) (Or.inl ⟨by rfl, ?_⟩) ?_
                      rotate_left 1
                      · intro wq hSw; rw [hS.out] at hSw; (try dsimp only at hSw); go_simp; try with_reducible rfl
                      try simp only [Act.put, List.setIfInBounds_toArray, List.set_cons_zero, List.set_cons_succ]
                      refine SeqP.take (v := ?_) rfl (fun _ _ _ h => h) (Or.inl ⟨by rfl, ?_⟩) ?_
                      rotate_left 1
                      · intro wq hSw; rw [hS.out] at hSw; (try dsimp only at hSw); go_simp; try with_reducible rfl
                      try simp only [Act.put, List.setIfInBounds_toArray, List.set_cons_zero, List.set_cons_succ]
                      refine SeqP.take (v := ?_) rfl (fun _ _ _ h => h) (Or.inl ⟨by rfl, ?_⟩) ?_
                      rotate_left 1
                      · intro wq hSw; rw [hS.out] at hSw; (try dsimp only at hSw); go_simp; try with_reducible rfl
                      try simp only [Act.put, List.setIfInBounds_toArray, List.set_cons_zero, List.set_cons_succ]
                      refine SeqP.take (v := ?_) rfl (fun _ _ _ h => h) (Or.inl ⟨by rfl, ?_⟩) ?_
                      rotate_left 1
                      · intro wq hSw; rw [hS.out] at hSw; (try dsimp only at hSw); go_simp; try with_reducible rfl
                      try simp only [Act.put, List.setIfInBounds_toArray, List.set_cons_zero, List.set_cons_succ]
                      refine SeqP.take (v := ?_) rfl (fun _ _ _ h => h) (Or.inl ⟨by rfl, ?_⟩) ?_
                      rotate_left 1
                      · intro wq hSw; rw [hS.out] at hSw; (try dsimp only at hSw); go_simp; try with_reducible rfl
                      try simp only [Act.put, List.setIfInBounds_toArray, List.set_cons_zero, List.set_cons_succ]
                      refine SeqP.done ?_
                      clear hSb
                      clear HSq
                      all_goals (try go_wp2_with (fail))
                      go_ret
                      exact ⟨rfl, HBT⟩
end Go.Proofs.YtpaffggdeedopaaGreatDoor

set_option linter.unusedVariables false
set_option linter.unusedSimpArgs false
namespace Go.Proofs.YtpaffggdeedopaaGreatDoor
open Go.RowKit Go.ChangeShapes Go.WideShapes Go.ChangeAt

theorem dyadSides_lifted (os : Os) (started : os.Started) (H : Type) (enc : TypeId × Value → H) :
    ReturnsInHanded {} Tryz.checked os 3 .any (fun w args => (Rows.dyadSidesSpec.pre enc Tryz.prog Tryz.f3 [] false w args ∧ laidMetH Tryz.prog [("math/bits.deBruijn32tab", Rows.laid_math_bits_deBruijn32tab)] w) ∧ sizedMet enc Tryz.prog Tryz.f3 (OpenSpec.ofChange Rows.dyadSidesSpec) false w args)
      (Rows.dyadSidesSpec.post enc Tryz.prog Tryz.f3 false true false false) := by
  refine returnsInHanded_of_change_and (C := Tryz.checked) (X := fun w _ => laidMetH Tryz.prog [("math/bits.deBruijn32tab", Rows.laid_math_bits_deBruijn32tab)] w) (fun _ _ _ hh h => h.of_heap hh) row_own started (by kernel_rfl) Tryz.func3
    (ChangeSpec.witness_shaped (enc := enc) (C := Tryz.checked) (os := os) (X := fun w _ => laidMetH Tryz.prog [("math/bits.deBruijn32tab", Rows.laid_math_bits_deBruijn32tab)] w) false (World.doorLaid Tryz.prog 400 os) #[.agg #[.bool false, .slice none 0 0, .slice none 0 0], .int .u16 0] 8 rfl (World.shaped_of_RefB (by kernel_rfl) (by kernel_rfl)) (by kernel_rfl) (by kernel_rfl) (by kernel_rfl) (door_met os _)) ?_
  intro W base args ds gs before hval0 hW _ _ hL _
  have hval : ∀ (j : Nat) t v, Tryz.f3.params[j]? = some t → args[j]? = some v → Value.okWide Tryz.prog W .any base t v := hval0
  have hW' := hW
  obtain ⟨p, q, hA0, hV, rfl, hfz, hnd⟩ := hW
  have hA : DataW.TrodAll enc Tryz.prog W 0 (fun _ => true) true Tryz.f3.params.toList args.toList ds p := hA0
  rw [Tryz.params3] at hA hval
  obtain ⟨v0, vs0, d0, ds0, p0, q0, hargs, rfl, rfl, h0, r0⟩ := trodAll_cons hA
  obtain ⟨v1, vs1, d1, ds1, p1, q1, rfl, rfl, rfl, h1, r1⟩ := trodAll_cons r0
  obtain ⟨rfl, rfl, rfl⟩ := trodAll_nil r1
  obtain rfl : args = #[v0, v1] := by cases args; simp_all
  obtain ⟨rfl, rfl⟩ := trodVars_none hV
  have hT := tab_of_laid hL
  have k0 := h0
  have lt0 : ∀ x ∈ p0, x.block < W.heap.size := by obtain ⟨m, hm⟩ := k0; exact DataW.trod_lt m _ _ _ hm
  obtain ⟨b0, A0, c0, l0, B0, e0, m0, rfl, i0, j0⟩ := open_ra (hval 0 26 v0 rfl rfl) h0
  obtain ⟨z1, rfl, rfl, rfl, w1⟩ := open_int Tryz.underlying27 (hval 1 27 v1 rfl rfl) h1
  have bz1 := bounds_u16 w1
  obtain ⟨n1, rfl⟩ := Int.eq_ofNat_of_zero_le bz1.1
  have bn1 : n1 < 65536 := by omega
  clear hA0 hval0 hval hL
  have hcall := dyadSides_c b0 n1 A0 c0 l0 B0 e0 m0 W hT i0.1 i0.2.1 i0.2.2.1 i0.2.2.2.1 i0.2.2.2.2 j0.1 j0.2.1 j0.2.2.1 j0.2.2.2.1 j0.2.2.2.2 bn1
  refine hcall.mono fun e W' ⟨he, bel⟩ => ?_
  subst he
  exact ⟨_, rfl, _, _, _, [], _, [], hW', trodAll_mk1 (shut_bool Tryz.underlying4 _), (trodAll_cons_mk (Below.trod row_out (by kernel_rfl) (of_decide_eq_true (by kernel_rfl)) k0 bel lt0) (trodAll_cons_mk (shut_int Tryz.underlying27 w1) trodAll_mk0)), rfl, bel.frame _, fun h => by cases h⟩
theorem dyadSides_holds : Rows.DyadSidesSaid :=
  OpenClaim.holds_of_wide 3 Tryz.f3 rfl rfl rfl rfl rfl rfl rfl ⟨rfl, rfl, rfl, rfl, rfl⟩ rfl rfl rfl rfl rfl (by kernel_rfl) Tryz.func3 (by kernel_rfl)
    (of_decide_eq_true (by kernel_rfl)) (by unfold Func.isWrapper; first | (rw [if_pos (by decide +kernel)]; kernel_rfl) | (rw [if_neg (by decide +kernel)]; exact ⟨rfl, rfl⟩))
    (fun os started H enc _ => dyadSides_lifted os started H enc)

/-- The card, tied to the program's text. -/
theorem dyadSides_card : Rows.DyadSidesCardSaid :=
  Claim7.holds_tied_plain_at .later [] [.data] true (true, "656b37b7ccc5af8af5a85e438c408380abd1ad709ff303cf5fc9993104b47efd") false
    dyadSides_holds (fun _ h => by cases h) (by kernel_rfl) (fun _ h => by cases h) dyadSides_row_tie rfl ⟨rfl, rfl⟩ (by kernel_rfl) rfl
    (fun f fn hf hfn => by
      obtain rfl : f = 3 := Option.some.inj ((show Tryz.prog.funcNamed "ziggurat/zigguratlaw10.DyadSides" = some 3 by kernel_rfl).symm.trans hf) |>.symm
      obtain rfl : fn = Tryz.f3 := (Option.some.inj (Tryz.func3.symm.trans hfn)).symm
      exact ⟨by kernel_rfl, fun j t ht => by
        rw [Tryz.params3] at ht
        have hm : t ∈ [26, 27] := by simpa using Array.mem_of_getElem? ht
        have hall : ([26, 27].all fun u => !Tryz.prog.wantsStandIn u) = true := by kernel_rfl
        exact (show Tryz.prog.wantsStandIn t = false by simpa using List.all_eq_true.1 hall t hm)⟩)
    (by kernel_rfl)
#print axioms dyadSides_card
end Go.Proofs.YtpaffggdeedopaaGreatDoor
