/- The document's dyadic numbers, walked: Made. -/
import Derived.Test.YtacjfpibilolnaaGreatDoorSC41
import Derived.Test.YtacjfpibilolnaaGreatDoorSC40
set_option maxRecDepth 100000
set_option maxHeartbeats 4000000
set_option linter.unusedVariables false
set_option linter.unusedSimpArgs false
namespace Go.Proofs.YtacjfpibilolnaaGreatDoor
open Go.RowKit Go.Shelf
attribute [local go_sem] max2_i min2_i max_two min_two

/-- The power that is made of any number. -/
def cutE (x : Int) : Int := Int.tmod (bits .and .i64 x 65535) 401 - 200
theorem tmade_c (sa : Bool) (A : Option Addr) (c m : Nat) (l : List Nat) (x : Int) (w : World) (h : Rd w A l) (hL : Lim l) (hl : l.length ≤ maxLen) (hc : l.length ≤ c) (hnil : A = none → c = 0) (hm : m ≤ 65536) (hx : -200 ≤ cutE x ∧ cutE x ≤ 200) :
    Calls Tryz.prog 14 #[.agg #[.bool sa, .slice A l.length c, .int .i64 x], .int .i64 (m : Nat)] w (RetD w (dval (ival sa (val (l.take m))) (cutE x))) := by
  have lv : nl (val (l.take m)) ≤ 65536 := Nat.le_trans (made_nl l hL m) hm
  obtain ⟨y, Ey⟩ : ∃ z, z = cutE x := ⟨_, rfl⟩
  have Iy : Int.tmod (bits .and .i64 x 65535) 401 - 200 = y := Ey.symm
  rw [← Ey] at hx ⊢
  have Wy : IntKind.i64.wrap y = y := IntWalk.i64_in _ (by omega)
  replace Ey := Lib.hid Ey
  obtain ⟨hb1, Ra, Rr⟩ := bx2 w #[.bool sa, .slice A l.length c, .int .i64 x] 28 #[.bool false, .slice none 0 0, .int .i64 0] 28
  replace h := h.below hb1
  have HBT := hb1
  clear hb1
  have qa0 := Ra.c (i := 0) rfl
  have qa1 := Ra.c (i := 1) rfl
  have qa2 := Ra.c (i := 2) rfl
  have qr0 := Rr.c (i := 0) rfl
  have qr1 := Rr.c (i := 1) rfl
  have qr2 := Rr.c (i := 2) rfl
  go_enter Tryz.func14, Tryz.ntmps14
  go_wp2_with (fail)
  have hd2 := drb (((w.alloc (.cells #[.bool sa, .slice A l.length c, .int .i64 x] 28)).alloc (.cells #[.bool false, .slice none 0 0, .int .i64 0] 28)))
  replace h := h.below hd2
  replace Ra := Ra.below hd2
  replace qa0 := cbl hd2 qa0
  replace qa1 := cbl hd2 qa1
  replace qa2 := cbl hd2 qa2
  replace Rr := Rr.below hd2
  replace qr0 := cbl hd2 qr0
  replace qr1 := cbl hd2 qr1
  replace qr2 := cbl hd2 qr2
  replace HBT := Below.cons HBT hd2
  clear hd2
  obtain ⟨n, En⟩ : ∃ zq : Int, zq = ival sa (val (l.take m)) := ⟨_, rfl⟩
  have Nn : nl (mg n) ≤ 65536 := by rw [En, mg_ival]; exact lv
  have C2_0 := fun (W : World) (h1 : Rd W A l) => zmade_c sa A c m l W h1 hL hl hc hnil (by omega)
  simp only [← En] at C2_0
  replace En := Lib.hid En
  replace C2_0 := Lib.hid C2_0
  obtain ⟨q, Eq⟩ : ∃ zq : Rat, zq = dval n y := ⟨_, rfl⟩
  have C2_1 := fun (W : World) (A : Option Addr) (c : Nat) (h1 : NatV W A c (mg n)) => tmake_c A c n y W h1 (by omega) (by omega)
  simp only [← Eq] at C2_1
  replace Eq := Lib.hid Eq
  replace C2_1 := Lib.hid C2_1
  go_region_held3 (fun W => W.cell? ⟨w.heap.size, 0, none⟩ = some (.bool sa) ∧ W.cell? ⟨w.heap.size, 1, none⟩ = some (.slice A l.length c) ∧ W.cell? ⟨w.heap.size, 2, none⟩ = some (.int .i64 x))
    (first
      | exact ⟨qa0, qa1, qa2⟩
      | exact ⟨qa0_3, qa1_3, qa2_3⟩
      | exact ⟨qa0_4, qa1_4, qa2_4⟩
      | exact ⟨((Ra_4.other3 (by simp <;> omega)).c (i := 0) rfl), ((Ra_4.other3 (by simp <;> omega)).c (i := 1) rfl), ((Ra_4.other3 (by simp <;> omega)).c (i := 2) rfl)⟩
      | go_keep)
    (first
      | (go_at_call 23; (with_reducible refine (C2_0.out _ h).mono ?_); rintro e W3 ⟨Xn, cn, rfl, hn, hb3⟩; have h_3 := h.below hb3; have Ra_3 := Ra.below hb3; have qa0_3 := cbl hb3 qa0; have qa1_3 := cbl hb3 qa1; have qa2_3 := cbl hb3 qa2; have Rr_3 := Rr.below hb3; have qr0_3 := cbl hb3 qr0; have qr1_3 := cbl hb3 qr1; have qr2_3 := cbl hb3 qr2; have HBT_3 := Below.cons HBT hb3)
      | (go_at_call 37; (with_reducible refine (C2_1.out _ _ _ hn).mono ?_); rintro e W4 ⟨Xq, cq, rfl, hq, hb4⟩; have h_4 := h_3.below hb4; have Ra_4 := Ra_3.below hb4; have qa0_4 := cbl hb4 qa0_3; have qa1_4 := cbl hb4 qa1_3; have qa2_4 := cbl hb4 qa2_3; have Rr_4 := Rr_3.below hb4; have qr0_4 := cbl hb4 qr0_3; have qr1_4 := cbl hb4 qr1_3; have qr2_4 := cbl hb4 qr2_3; have hn_4 := hn.below hb4; have HBT_4 := Below.cons HBT_3 hb4; have fz0 := Rr_4.f (i := 0); have fz1 := Rr_4.f (i := 1); have fz2 := Rr_4.f (i := 2)))
  all_goals (try go_wp2_with (fail))
  have hzq : q = (dval (ival sa (val (l.take m))) y) := by rw [Eq.out, En.out]
  subst hzq
  have RS := Rr_4.store3 (.bool (sg (dmn (((dval (ival sa (val (l.take m))) y)))))) (.slice Xq (nl (mg (dmn (((dval (ival sa (val (l.take m))) y)))))) cq) (.int .i64 (dex (((dval (ival sa (val (l.take m))) y)))))
  have e0 := RS.c (i := 0) rfl
  have e1 := RS.c (i := 1) rfl
  have e2 := RS.c (i := 2) rfl
  refine bodyPost_ret (v := .agg #[.bool (sg (dmn (((dval (ival sa (val (l.take m))) y))))), .slice Xq (nl (mg (dmn (((dval (ival sa (val (l.take m))) y)))))) cq, .int .i64 (dex (((dval (ival sa (val (l.take m))) y))))]) (by simp [results, Tryz.results14, go_sem, e0, e1, e2]) rfl ?_
  exact ⟨Xq, cq, rfl, (Rr_4.keep3 (nuB rfl) hq), (Below.store3 HBT_4 (by first | exact Nat.le_refl _ | omega))⟩
end Go.Proofs.YtacjfpibilolnaaGreatDoor

/- The document's dyadic numbers, walked: Mid. -/
set_option linter.unusedVariables false
set_option linter.unusedSimpArgs false
namespace Go.Proofs.YtacjfpibilolnaaGreatDoor
open Go.RowKit Go.Shelf
attribute [local go_sem] max2_i min2_i max_two min_two

theorem add_sz2 (a b : Rat) (la : nl (mg a.num) ≤ 100000) (ma : nl a.den ≤ 100000) (lb : nl (mg b.num) ≤ 100000) (mb : nl b.den ≤ 100000) : nl (mg (a + b).num) ≤ 200001 ∧ nl (a + b).den ≤ 200000 := by
  have h0 : a.den * b.den ≠ 0 := Nat.mul_ne_zero a.den_nz b.den_nz
  rw [Rat.add_def', Rat.num_mkRat, Rat.den_mkRat, if_neg h0, if_neg h0]
  constructor
  · refine Nat.le_trans (nl_mono (Int.natAbs_ediv_le_natAbs _ _)) ?_
    have h1 : mg (a.num * (b.den : Int) + b.num * (a.den : Int)) ≤ mg a.num * b.den + mg b.num * a.den := by
      refine Nat.le_trans (Int.natAbs_add_le _ _) ?_
      rw [Int.natAbs_mul, Int.natAbs_mul]; exact Nat.le_refl _
    refine Nat.le_trans (nl_mono h1) ?_
    have h2 := nl_add (mg a.num * b.den) (mg b.num * a.den)
    have h3 := nl_mul (mg a.num) b.den
    have h4 := nl_mul (mg b.num) a.den
    have h5 : ∀ x y : Nat, nl x ≤ 200000 → nl y ≤ 200000 → nl (x + y) ≤ 200001 := by
      intro x y hx hy
      have := nl_add x y
      omega
    exact h5 _ _ (by omega) (by omega)
  · refine Nat.le_trans (nl_div _ _) ?_
    have := nl_mul a.den b.den; omega
end Go.Proofs.YtacjfpibilolnaaGreatDoor

/- Whether a natural, a whole number is right. -/
set_option linter.unusedVariables false
set_option linter.unusedSimpArgs false
namespace Go.Proofs.YtacjfpibilolnaaGreatDoor
open Go.RowKit Go.Shelf
attribute [local go_sem] max2_i min2_i max_two min_two

theorem right_c (A : Option Addr) (c a : Nat) (w : World) (hA : NatV w A c a) (ha : nl a ≤ 65536) :
    Calls Tryz.prog 116 #[.slice A (nl a) c] w fun e w' => e = .returned (.bool true) ∧ w' = w := by
  by_cases h : nl a = 0
  · rw [h]
    go_enter Tryz.func116, Tryz.ntmps116
    go_wp2_with (fail)
    go_ret
    exact ⟨rfl, rfl⟩
  · obtain ⟨k, hk⟩ : ∃ k, nl a = k + 1 := ⟨nl a - 1, by omega⟩
    obtain ⟨ad, rfl, hcx⟩ := hA.rd.get k (by show k < nl a; omega)
    have hne : gl (limbs a) k ≠ 0 := by
      have h2 := limbs_last a (fun e => h (by rw [e, nl_zero]))
      rwa [hk, Nat.add_sub_cancel] at h2
    obtain ⟨x, hx⟩ : ∃ x, x = gl (limbs a) k := ⟨_, rfl⟩
    rw [← hx] at hcx hne
    have h1 : ((nl a : Int) == 0) = false := ieqF (by omega)
    have hkI : (nl a : Int) - 1 = (k : Int) := by omega
    have hkl : k < nl a := by omega
    have h2 : ((x : Int) != 0) = true := ineT (by omega)
    have h3 : decide ((nl a : Int) ≤ 65536) = true := by simp; omega
    replace hx := Lib.hid hx
    clear hne h hk
    go_enter Tryz.func116, Tryz.ntmps116
    go_wp2_with (fail)
    go_ret
    exact ⟨rfl, rfl⟩

theorem iright_n (aA : Option Addr) (ac : Nat) (a : Int) (w : World) (ha : NatV w aA ac (mg a)) (la : nl (mg a) ≤ 65536) (h0 : a < 0) :
    Calls Tryz.prog 75 #[.agg #[.bool (sg a), .slice aA (nl (mg a)) ac]] w (fun e w' => e = .returned (.bool true) ∧ Below w.heap.size w w') := by
  have ts : sg a = true := sg_t h0
  have m0 : mg a ≠ 0 := fun k => by have := mg_zero.1 k; omega
  have t1 : ((nl (mg a) : Int) == 0) = false := ieqF (by have := nl_pos.2 m0; omega)
  have t2 : (nl (mg a) == 0) = false := by have := nl_pos.2 m0; simp; omega
  replace h0 := Lib.hid h0
  obtain ⟨hb1, Ra⟩ := bx1 w #[.bool true, .slice aA (nl (mg a)) ac] 24
  replace ha := ha.below hb1
  have HBT := hb1
  clear hb1
  have qa0 := Ra.c (i := 0) rfl
  have qa1 := Ra.c (i := 1) rfl
  go_enter Tryz.func75, Tryz.ntmps75
  go_wp2_with (fail)
  refine (Calls.mono (right_c aA ac (mg a) _ ha la) ?_)
  rintro e w' ⟨rfl, hw⟩
  subst hw
  go_wp2_with (fail)
  go_ret
  exact ⟨rfl, HBT⟩
theorem iright_z (aA : Option Addr) (ac : Nat) (a : Int) (w : World) (ha : NatV w aA ac (mg a)) (la : nl (mg a) ≤ 65536) (h0 : a = 0) :
    Calls Tryz.prog 75 #[.agg #[.bool (sg a), .slice aA (nl (mg a)) ac]] w (fun e w' => e = .returned (.bool true) ∧ Below w.heap.size w w') := by
  have ts : sg a = false := sg_f (by omega)
  replace h0 := Lib.hid h0
  obtain ⟨hb1, Ra⟩ := bx1 w #[.bool false, .slice aA (nl (mg a)) ac] 24
  replace ha := ha.below hb1
  have HBT := hb1
  clear hb1
  have qa0 := Ra.c (i := 0) rfl
  have qa1 := Ra.c (i := 1) rfl
  go_enter Tryz.func75, Tryz.ntmps75
  go_wp2_with (fail)
  refine (Calls.mono (right_c aA ac (mg a) _ ha la) ?_)
  rintro e w' ⟨rfl, hw⟩
  subst hw
  go_wp2_with (fail)
  go_ret
  exact ⟨rfl, HBT⟩
theorem iright_p (aA : Option Addr) (ac : Nat) (a : Int) (w : World) (ha : NatV w aA ac (mg a)) (la : nl (mg a) ≤ 65536) (h0 : 0 < a) :
    Calls Tryz.prog 75 #[.agg #[.bool (sg a), .slice aA (nl (mg a)) ac]] w (fun e w' => e = .returned (.bool true) ∧ Below w.heap.size w w') := by
  have ts : sg a = false := sg_f (by omega)
  replace h0 := Lib.hid h0
  obtain ⟨hb1, Ra⟩ := bx1 w #[.bool false, .slice aA (nl (mg a)) ac] 24
  replace ha := ha.below hb1
  have HBT := hb1
  clear hb1
  have qa0 := Ra.c (i := 0) rfl
  have qa1 := Ra.c (i := 1) rfl
  go_enter Tryz.func75, Tryz.ntmps75
  go_wp2_with (fail)
  refine (Calls.mono (right_c aA ac (mg a) _ ha la) ?_)
  rintro e w' ⟨rfl, hw⟩
  subst hw
  go_wp2_with (fail)
  go_ret
  exact ⟨rfl, HBT⟩
theorem iright_c (aA : Option Addr) (ac : Nat) (a : Int) (w : World) (ha : NatV w aA ac (mg a)) (la : nl (mg a) ≤ 65536) :
    Calls Tryz.prog 75 #[.agg #[.bool (sg a), .slice aA (nl (mg a)) ac]] w fun e w' => e = .returned (.bool true) ∧ Below w.heap.size w w' := by
  obtain h | h | h : a < 0 ∨ a = 0 ∨ 0 < a := by omega
  · exact iright_n aA ac a w ha la h
  · exact iright_z aA ac a w ha la h
  · exact iright_p aA ac a w ha la h
end Go.Proofs.YtacjfpibilolnaaGreatDoor

/- Whether a dyadic number is right. -/
set_option linter.unusedVariables false
set_option linter.unusedSimpArgs false
namespace Go.Proofs.YtacjfpibilolnaaGreatDoor
open Go.RowKit Go.Shelf
attribute [local go_sem] max2_i min2_i max_two min_two

/-- Whether a whole number times a power of 2 is of the one form. -/
def rightD (z e : Int) : Bool := if z = 0 then e == 0 else decide (z % 2 = 1) && (decide (-100000 ≤ e) && decide (e ≤ 100000))
theorem dright_z (aA : Option Addr) (ac : Nat) (a x : Int) (w : World) (ha : NatV w aA ac (mg a)) (la : nl (mg a) ≤ 65536) (h0 : a = 0) :
    Calls Tryz.prog 26 #[.agg #[.bool (sg a), .slice aA (nl (mg a)) ac, .int .i64 x]] w (fun e w' => e = .returned (.bool (rightD a x)) ∧ Below w.heap.size w w') := by
  have hr : rightD a x = (x == 0) := by unfold rightD; rw [if_pos h0]
  have t1 : decide (0 < (nl (mg a) : Int)) = false := by rw [h0, mg0, nl_zero]; rfl
  have t2 : decide (0 < nl (mg a)) = false := by rw [h0, mg0, nl_zero]; rfl
  have t3 : ((nl (mg a) : Int) == 0) = true := ieqT (by rw [h0, mg0, nl_zero]; rfl)
  have t4 : (nl (mg a) == 0) = true := by rw [h0, mg0, nl_zero]; rfl
  rw [hr]
  clear hr
  replace h0 := Lib.hid h0
  obtain ⟨hb1, Ra⟩ := bx1 w #[.bool (sg a), .slice aA (nl (mg a)) ac, .int .i64 x] 28
  replace ha := ha.below hb1
  have HBT := hb1
  clear hb1
  have qa0 := Ra.c (i := 0) rfl
  have qa1 := Ra.c (i := 1) rfl
  have qa2 := Ra.c (i := 2) rfl
  go_enter Tryz.func26, Tryz.ntmps26
  go_wp2_with (fail)
  refine (Calls.mono (iright_c aA ac a _ ha la) ?_)
  rintro e W1 ⟨rfl, hb1⟩
  replace ha := ha.below hb1
  replace Ra := Ra.below hb1
  replace qa0 := cbl hb1 qa0
  replace qa1 := cbl hb1 qa1
  replace qa2 := cbl hb1 qa2
  replace HBT := Below.cons HBT hb1
  clear hb1
  go_wp2_with (fail)
  go_ret
  exact ⟨rfl, HBT⟩
theorem dright_e (aA : Option Addr) (ac : Nat) (a x : Int) (w : World) (ha : NatV w aA ac (mg a)) (la : nl (mg a) ≤ 65536) (h0 : a ≠ 0) (h1 : a % 2 = 0) :
    Calls Tryz.prog 26 #[.agg #[.bool (sg a), .slice aA (nl (mg a)) ac, .int .i64 x]] w (fun e w' => e = .returned (.bool (rightD a x)) ∧ Below w.heap.size w w') := by
  have m0 : mg a ≠ 0 := fun k => h0 (mg_zero.1 k)
  have t1 : decide (0 < (nl (mg a) : Int)) = true := by have := nl_pos.2 m0; simp; omega
  have t2 : decide (0 < nl (mg a)) = true := by have := nl_pos.2 m0; simp; omega
  have t3 : ((nl (mg a) : Int) == 0) = false := ieqF (by have := nl_pos.2 m0; omega)
  have t4 : (nl (mg a) == 0) = false := by have := nl_pos.2 m0; simp; omega
  have t9 := nl_pos.2 m0
  replace m0 := Lib.hid m0
  have hr : rightD a x = false := by unfold rightD; rw [if_neg h0, decide_eq_false (by omega)]; rfl
  rw [hr]
  clear hr
  replace h0 := Lib.hid h0
  obtain ⟨hb1, Ra⟩ := bx1 w #[.bool (sg a), .slice aA (nl (mg a)) ac, .int .i64 x] 28
  replace ha := ha.below hb1
  have HBT := hb1
  clear hb1
  have qa0 := Ra.c (i := 0) rfl
  have qa1 := Ra.c (i := 1) rfl
  have qa2 := Ra.c (i := 2) rfl
  go_enter Tryz.func26, Tryz.ntmps26
  go_wp2_with (fail)
  refine (Calls.mono (iright_c aA ac a _ ha la) ?_)
  rintro e W1 ⟨rfl, hb1⟩
  replace ha := ha.below hb1
  replace Ra := Ra.below hb1
  replace qa0 := cbl hb1 qa0
  replace qa1 := cbl hb1 qa1
  replace qa2 := cbl hb1 qa2
  replace HBT := Below.cons HBT hb1
  clear hb1
  obtain ⟨ad, eX, hc0⟩ := ha.rd.get 0 (by exact t9)
  obtain ⟨y, Ey⟩ : ∃ x, x = gl (limbs (mg a)) 0 := ⟨_, rfl⟩
  have hxl : y < 4294967296 := by rw [Ey]; exact (lim_limbs _).gl 0
  have hxv : y = mg a / 4294967296 ^ 0 % 4294967296 := by rw [Ey, limbs_gl]
  rw [← Ey, show ad.add 0 = ad by cases ad; simp [Addr.add]; try (split <;> simp)] at hc0
  have hod := odd_limb hxv
  have hand := and_one_u32 y hxl
  have hy : y % 2 = 0 := by simp only [decide_eq_decide] at hod; omega
  rw [hy] at hand
  replace Ey := Lib.hid Ey
  replace hxv := Lib.hid hxv
  replace hod := Lib.hid hod
  replace hy := Lib.hid hy
  replace h1 := Lib.hid h1
  subst eX
  go_wp2_with (fail)
  go_ret
  exact ⟨rfl, HBT⟩
theorem dright_o (aA : Option Addr) (ac : Nat) (a x : Int) (w : World) (ha : NatV w aA ac (mg a)) (la : nl (mg a) ≤ 65536) (h0 : a ≠ 0) (h1 : a % 2 = 1) (h2 : -100000 ≤ x) :
    Calls Tryz.prog 26 #[.agg #[.bool (sg a), .slice aA (nl (mg a)) ac, .int .i64 x]] w (fun e w' => e = .returned (.bool (rightD a x)) ∧ Below w.heap.size w w') := by
  have m0 : mg a ≠ 0 := fun k => h0 (mg_zero.1 k)
  have t1 : decide (0 < (nl (mg a) : Int)) = true := by have := nl_pos.2 m0; simp; omega
  have t2 : decide (0 < nl (mg a)) = true := by have := nl_pos.2 m0; simp; omega
  have t3 : ((nl (mg a) : Int) == 0) = false := ieqF (by have := nl_pos.2 m0; omega)
  have t4 : (nl (mg a) == 0) = false := by have := nl_pos.2 m0; simp; omega
  have t9 := nl_pos.2 m0
  replace m0 := Lib.hid m0
  have t5 : decide (-100000 ≤ x) = true := decide_eq_true h2
  have hr : rightD a x = decide (x ≤ 100000) := by unfold rightD; rw [if_neg h0, decide_eq_true h1, t5]; rfl
  rw [hr]
  clear hr
  replace h0 := Lib.hid h0
  obtain ⟨hb1, Ra⟩ := bx1 w #[.bool (sg a), .slice aA (nl (mg a)) ac, .int .i64 x] 28
  replace ha := ha.below hb1
  have HBT := hb1
  clear hb1
  have qa0 := Ra.c (i := 0) rfl
  have qa1 := Ra.c (i := 1) rfl
  have qa2 := Ra.c (i := 2) rfl
  go_enter Tryz.func26, Tryz.ntmps26
  go_wp2_with (fail)
  refine (Calls.mono (iright_c aA ac a _ ha la) ?_)
  rintro e W1 ⟨rfl, hb1⟩
  replace ha := ha.below hb1
  replace Ra := Ra.below hb1
  replace qa0 := cbl hb1 qa0
  replace qa1 := cbl hb1 qa1
  replace qa2 := cbl hb1 qa2
  replace HBT := Below.cons HBT hb1
  clear hb1
  obtain ⟨ad, eX, hc0⟩ := ha.rd.get 0 (by exact t9)
  obtain ⟨y, Ey⟩ : ∃ x, x = gl (limbs (mg a)) 0 := ⟨_, rfl⟩
  have hxl : y < 4294967296 := by rw [Ey]; exact (lim_limbs _).gl 0
  have hxv : y = mg a / 4294967296 ^ 0 % 4294967296 := by rw [Ey, limbs_gl]
  rw [← Ey, show ad.add 0 = ad by cases ad; simp [Addr.add]; try (split <;> simp)] at hc0
  have hod := odd_limb hxv
  have hand := and_one_u32 y hxl
  have hy : y % 2 = 1 := by simp only [decide_eq_decide] at hod; omega
  rw [hy] at hand
  replace Ey := Lib.hid Ey
  replace hxv := Lib.hid hxv
  replace hod := Lib.hid hod
  replace hy := Lib.hid hy
  replace h1 := Lib.hid h1
  subst eX
  go_wp2_with (fail)
  go_ret
  exact ⟨rfl, HBT⟩
theorem dright_l (aA : Option Addr) (ac : Nat) (a x : Int) (w : World) (ha : NatV w aA ac (mg a)) (la : nl (mg a) ≤ 65536) (h0 : a ≠ 0) (h1 : a % 2 = 1) (h2 : x < -100000) :
    Calls Tryz.prog 26 #[.agg #[.bool (sg a), .slice aA (nl (mg a)) ac, .int .i64 x]] w (fun e w' => e = .returned (.bool (rightD a x)) ∧ Below w.heap.size w w') := by
  have m0 : mg a ≠ 0 := fun k => h0 (mg_zero.1 k)
  have t1 : decide (0 < (nl (mg a) : Int)) = true := by have := nl_pos.2 m0; simp; omega
  have t2 : decide (0 < nl (mg a)) = true := by have := nl_pos.2 m0; simp; omega
  have t3 : ((nl (mg a) : Int) == 0) = false := ieqF (by have := nl_pos.2 m0; omega)
  have t4 : (nl (mg a) == 0) = false := by have := nl_pos.2 m0; simp; omega
  have t9 := nl_pos.2 m0
  replace m0 := Lib.hid m0
  have t5 : decide (-100000 ≤ x) = false := decide_eq_false (by omega)
  have hr : rightD a x = false := by unfold rightD; rw [if_neg h0, decide_eq_true h1, t5]; rfl
  rw [hr]
  clear hr
  replace h0 := Lib.hid h0
  obtain ⟨hb1, Ra⟩ := bx1 w #[.bool (sg a), .slice aA (nl (mg a)) ac, .int .i64 x] 28
  replace ha := ha.below hb1
  have HBT := hb1
  clear hb1
  have qa0 := Ra.c (i := 0) rfl
  have qa1 := Ra.c (i := 1) rfl
  have qa2 := Ra.c (i := 2) rfl
  go_enter Tryz.func26, Tryz.ntmps26
  go_wp2_with (fail)
  refine (Calls.mono (iright_c aA ac a _ ha la) ?_)
  rintro e W1 ⟨rfl, hb1⟩
  replace ha := ha.below hb1
  replace Ra := Ra.below hb1
  replace qa0 := cbl hb1 qa0
  replace qa1 := cbl hb1 qa1
  replace qa2 := cbl hb1 qa2
  replace HBT := Below.cons HBT hb1
  clear hb1
  obtain ⟨ad, eX, hc0⟩ := ha.rd.get 0 (by exact t9)
  obtain ⟨y, Ey⟩ : ∃ x, x = gl (limbs (mg a)) 0 := ⟨_, rfl⟩
  have hxl : y < 4294967296 := by rw [Ey]; exact (lim_limbs _).gl 0
  have hxv : y = mg a / 4294967296 ^ 0 % 4294967296 := by rw [Ey, limbs_gl]
  rw [← Ey, show ad.add 0 = ad by cases ad; simp [Addr.add]; try (split <;> simp)] at hc0
  have hod := odd_limb hxv
  have hand := and_one_u32 y hxl
  have hy : y % 2 = 1 := by simp only [decide_eq_decide] at hod; omega
  rw [hy] at hand
  replace Ey := Lib.hid Ey
  replace hxv := Lib.hid hxv
  replace hod := Lib.hid hod
  replace hy := Lib.hid hy
  replace h1 := Lib.hid h1
  subst eX
  go_wp2_with (fail)
  go_ret
  exact ⟨rfl, HBT⟩
theorem dright_c (aA : Option Addr) (ac : Nat) (a x : Int) (w : World) (ha : NatV w aA ac (mg a)) (la : nl (mg a) ≤ 65536) :
    Calls Tryz.prog 26 #[.agg #[.bool (sg a), .slice aA (nl (mg a)) ac, .int .i64 x]] w (fun e w' => e = .returned (.bool (rightD a x)) ∧ Below w.heap.size w w') := by
  by_cases h0 : a = 0
  · exact dright_z aA ac a x w ha la h0
  · by_cases h1 : a % 2 = 0
    · exact dright_e aA ac a x w ha la h0 h1
    · by_cases h2 : -100000 ≤ x
      · exact dright_o aA ac a x w ha la h0 (by omega) h2
      · exact dright_l aA ac a x w ha la h0 (by omega) (by omega)
end Go.Proofs.YtacjfpibilolnaaGreatDoor

/- Whether a number is right, the document's way. -/
set_option linter.unusedVariables false
set_option linter.unusedSimpArgs false
namespace Go.Proofs.YtacjfpibilolnaaGreatDoor
open Go.RowKit Go.Shelf
attribute [local go_sem] max2_i min2_i max_two min_two

end Go.Proofs.YtacjfpibilolnaaGreatDoor

/- How long the parts of a dyadic number's rational are. -/
set_option linter.unusedVariables false
namespace Go.Proofs.YtacjfpibilolnaaGreatDoor

end Go.Proofs.YtacjfpibilolnaaGreatDoor
