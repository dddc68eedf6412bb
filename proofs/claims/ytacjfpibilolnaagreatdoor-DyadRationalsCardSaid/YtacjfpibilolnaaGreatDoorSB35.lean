/- Whether a natural, a whole number is right. -/
import Derived.Test.YtacjfpibilolnaaGreatDoorSB34
import Derived.Test.YtacjfpibilolnaaGreatDoorSB01
set_option maxRecDepth 100000
set_option maxHeartbeats 4000000
set_option linter.unusedVariables false
set_option linter.unusedSimpArgs false
namespace Go.Proofs.YtacjfpibilolnaaGreatDoor
open Go.RowKit Go.Shelf
attribute [local go_sem] max2_i min2_i max_two min_two

theorem right_c (A : Option Addr) (c a : Nat) (w : World) (hA : NatV w A c a) (ha : nl a ≤ 65536) :
    Calls Tryz.prog 116 #[.slice A (nl a) c] w fun e w' => e = .returned (.bool true) ∧ w' = w := by
  by_cases h : nl a = 0
  · rw [h]
    go_enter Tryz.func116, Tryz.ntmps116
    go_wp2_with (fail)
    go_ret
    exact ⟨rfl, rfl⟩
  · obtain ⟨k, hk⟩ : ∃ k, nl a = k + 1 := ⟨nl a - 1, by omega⟩
    obtain ⟨ad, rfl, hcx⟩ := hA.rd.get k (by show k < nl a; omega)
    have hne : gl (limbs a) k ≠ 0 := by
      have h2 := limbs_last a (fun e => h (by rw [e, nl_zero]))
      rwa [hk, Nat.add_sub_cancel] at h2
    obtain ⟨x, hx⟩ : ∃ x, x = gl (limbs a) k := ⟨_, rfl⟩
    rw [← hx] at hcx hne
    have h1 : ((nl a : Int) == 0) = false := ieqF (by omega)
    have hkI : (nl a : Int) - 1 = (k : Int) := by omega
    have hkl : k < nl a := by omega
    have h2 : ((x : Int) != 0) = true := ineT (by omega)
    have h3 : decide ((nl a : Int) ≤ 65536) = true := by simp; omega
    replace hx := Lib.hid hx
    clear hne h hk
    go_enter Tryz.func116, Tryz.ntmps116
    go_wp2_with (fail)
    go_ret
    exact ⟨rfl, rfl⟩

theorem iright_n (aA : Option Addr) (ac : Nat) (a : Int) (w : World) (ha : NatV w aA ac (mg a)) (la : nl (mg a) ≤ 65536) (h0 : a < 0) :
    Calls Tryz.prog 75 #[.agg #[.bool (sg a), .slice aA (nl (mg a)) ac]] w (fun e w' => e = .returned (.bool true) ∧ Below w.heap.size w w') := by
  have ts : sg a = true := sg_t h0
  have m0 : mg a ≠ 0 := fun k => by have := mg_zero.1 k; omega
  have t1 : ((nl (mg a) : Int) == 0) = false := ieqF (by have := nl_pos.2 m0; omega)
  have t2 : (nl (mg a) == 0) = false := by have := nl_pos.2 m0; simp; omega
  replace h0 := Lib.hid h0
  obtain ⟨hb1, Ra⟩ := bx1 w #[.bool true, .slice aA (nl (mg a)) ac] 24
  replace ha := ha.below hb1
  have HBT := hb1
  clear hb1
  have qa0 := Ra.c (i := 0) rfl
  have qa1 := Ra.c (i := 1) rfl
  go_enter Tryz.func75, Tryz.ntmps75
  go_wp2_with (fail)
  refine (Calls.mono (right_c aA ac (mg a) _ ha la) ?_)
  rintro e w' ⟨rfl, hw⟩
  subst hw
  go_wp2_with (fail)
  go_ret
  exact ⟨rfl, HBT⟩
theorem iright_z (aA : Option Addr) (ac : Nat) (a : Int) (w : World) (ha : NatV w aA ac (mg a)) (la : nl (mg a) ≤ 65536) (h0 : a = 0) :
    Calls Tryz.prog 75 #[.agg #[.bool (sg a), .slice aA (nl (mg a)) ac]] w (fun e w' => e = .returned (.bool true) ∧ Below w.heap.size w w') := by
  have ts : sg a = false := sg_f (by omega)
  replace h0 := Lib.hid h0
  obtain ⟨hb1, Ra⟩ := bx1 w #[.bool false, .slice aA (nl (mg a)) ac] 24
  replace ha := ha.below hb1
  have HBT := hb1
  clear hb1
  have qa0 := Ra.c (i := 0) rfl
  have qa1 := Ra.c (i := 1) rfl
  go_enter Tryz.func75, Tryz.ntmps75
  go_wp2_with (fail)
  refine (Calls.mono (right_c aA ac (mg a) _ ha la) ?_)
  rintro e w' ⟨rfl, hw⟩
  subst hw
  go_wp2_with (fail)
  go_ret
  exact ⟨rfl, HBT⟩
theorem iright_p (aA : Option Addr) (ac : Nat) (a : Int) (w : World) (ha : NatV w aA ac (mg a)) (la : nl (mg a) ≤ 65536) (h0 : 0 < a) :
    Calls Tryz.prog 75 #[.agg #[.bool (sg a), .slice aA (nl (mg a)) ac]] w (fun e w' => e = .returned (.bool true) ∧ Below w.heap.size w w') := by
  have ts : sg a = false := sg_f (by omega)
  replace h0 := Lib.hid h0
  obtain ⟨hb1, Ra⟩ := bx1 w #[.bool false, .slice aA (nl (mg a)) ac] 24
  replace ha := ha.below hb1
  have HBT := hb1
  clear hb1
  have qa0 := Ra.c (i := 0) rfl
  have qa1 := Ra.c (i := 1) rfl
  go_enter Tryz.func75, Tryz.ntmps75
  go_wp2_with (fail)
  refine (Calls.mono (right_c aA ac (mg a) _ ha la) ?_)
  rintro e w' ⟨rfl, hw⟩
  subst hw
  go_wp2_with (fail)
  go_ret
  exact ⟨rfl, HBT⟩
theorem iright_c (aA : Option Addr) (ac : Nat) (a : Int) (w : World) (ha : NatV w aA ac (mg a)) (la : nl (mg a) ≤ 65536) :
    Calls Tryz.prog 75 #[.agg #[.bool (sg a), .slice aA (nl (mg a)) ac]] w fun e w' => e = .returned (.bool true) ∧ Below w.heap.size w w' := by
  obtain h | h | h : a < 0 ∨ a = 0 ∨ 0 < a := by omega
  · exact iright_n aA ac a w ha la h
  · exact iright_z aA ac a w ha la h
  · exact iright_p aA ac a w ha la h
end Go.Proofs.YtacjfpibilolnaaGreatDoor

/- Whether a dyadic number is right. -/
set_option linter.unusedVariables false
set_option linter.unusedSimpArgs false
namespace Go.Proofs.YtacjfpibilolnaaGreatDoor
open Go.RowKit Go.Shelf
attribute [local go_sem] max2_i min2_i max_two min_two

/-- Whether a whole number times a power of 2 is of the one form. -/
def rightD (z e : Int) : Bool := if z = 0 then e == 0 else decide (z % 2 = 1) && (decide (-100000 ≤ e) && decide (e ≤ 100000))
theorem dright_z (aA : Option Addr) (ac : Nat) (a x : Int) (w : World) (ha : NatV w aA ac (mg a)) (la : nl (mg a) ≤ 65536) (h0 : a = 0) :
    Calls Tryz.prog 26 #[.agg #[.bool (sg a), .slice aA (nl (mg a)) ac, .int .i64 x]] w (fun e w' => e = .returned (.bool (rightD a x)) ∧ Below w.heap.size w w') := by
  have hr : rightD a x = (x == 0) := by unfold rightD; rw [if_pos h0]
  have t1 : decide (0 < (nl (mg a) : Int)) = false := by rw [h0, mg0, nl_zero]; rfl
  have t2 : decide (0 < nl (mg a)) = false := by rw [h0, mg0, nl_zero]; rfl
  have t3 : ((nl (mg a) : Int) == 0) = true := ieqT (by rw [h0, mg0, nl_zero]; rfl)
  have t4 : (nl (mg a) == 0) = true := by rw [h0, mg0, nl_zero]; rfl
  rw [hr]
  clear hr
  replace h0 := Lib.hid h0
  obtain ⟨hb1, Ra⟩ := bx1 w #[.bool (sg a), .slice aA (nl (mg a)) ac, .int .i64 x] 28
  replace ha := ha.below hb1
  have HBT := hb1
  clear hb1
  have qa0 := Ra.c (i := 0) rfl
  have qa1 := Ra.c (i := 1) rfl
  have qa2 := Ra.c (i := 2) rfl
  go_enter Tryz.func26, Tryz.ntmps26
  go_wp2_with (fail)
  refine (Calls.mono (iright_c aA ac a _ ha la) ?_)
  rintro e W1 ⟨rfl, hb1⟩
  replace ha := ha.below hb1
  replace Ra := Ra.below hb1
  replace qa0 := cbl hb1 qa0
  replace qa1 := cbl hb1 qa1
  replace qa2 := cbl hb1 qa2
  replace HBT := Below.cons HBT hb1
  clear hb1
  go_wp2_with (fail)
  go_ret
  exact ⟨rfl, HBT⟩
theorem dright_e (aA : Option Addr) (ac : Nat) (a x : Int) (w : World) (ha : NatV w aA ac (mg a)) (la : nl (mg a) ≤ 65536) (h0 : a ≠ 0) (h1 : a % 2 = 0) :
    Calls Tryz.prog 26 #[.agg #[.bool (sg a), .slice aA (nl (mg a)) ac, .int .i64 x]] w (fun e w' => e = .returned (.bool (rightD a x)) ∧ Below w.heap.size w w') := by
  have m0 : mg a ≠ 0 := fun k => h0 (mg_zero.1 k)
  have t1 : decide (0 < (nl (mg a) : Int)) = true := by have := nl_pos.2 m0; simp; omega
  have t2 : decide (0 < nl (mg a)) = true := by have := nl_pos.2 m0; simp; omega
  have t3 : ((nl (mg a) : Int) == 0) = false := ieqF (by have := nl_pos.2 m0; omega)
  have t4 : (nl (mg a) == 0) = false := by have := nl_pos.2 m0; simp; omega
  have t9 := nl_pos.2 m0
  replace m0 := Lib.hid m0
  have hr : rightD a x = false := by unfold rightD; rw [if_neg h0, decide_eq_false (by omega)]; rfl
  rw [hr]
  clear hr
  replace h0 := Lib.hid h0
  obtain ⟨hb1, Ra⟩ := bx1 w #[.bool (sg a), .slice aA (nl (mg a)) ac, .int .i64 x] 28
  replace ha := ha.below hb1
  have HBT := hb1
  clear hb1
  have qa0 := Ra.c (i := 0) rfl
  have qa1 := Ra.c (i := 1) rfl
  have qa2 := Ra.c (i := 2) rfl
  go_enter Tryz.func26, Tryz.ntmps26
  go_wp2_with (fail)
  refine (Calls.mono (iright_c aA ac a _ ha la) ?_)
  rintro e W1 ⟨rfl, hb1⟩
  replace ha := ha.below hb1
  replace Ra := Ra.below hb1
  replace qa0 := cbl hb1 qa0
  replace qa1 := cbl hb1 qa1
  replace qa2 := cbl hb1 qa2
  replace HBT := Below.cons HBT hb1
  clear hb1
  obtain ⟨ad, eX, hc0⟩ := ha.rd.get 0 (by exact t9)
  obtain ⟨y, Ey⟩ : ∃ x, x = gl (limbs (mg a)) 0 := ⟨_, rfl⟩
  have hxl : y < 4294967296 := by rw [Ey]; exact (lim_limbs _).gl 0
  have hxv : y = mg a / 4294967296 ^ 0 % 4294967296 := by rw [Ey, limbs_gl]
  rw [← Ey, show ad.add 0 = ad by cases ad; simp [Addr.add]; try (split <;> simp)] at hc0
  have hod := odd_limb hxv
  have hand := and_one_u32 y hxl
  have hy : y % 2 = 0 := by simp only [decide_eq_decide] at hod; omega
  rw [hy] at hand
  replace Ey := Lib.hid Ey
  replace hxv := Lib.hid hxv
  replace hod := Lib.hid hod
  replace hy := Lib.hid hy
  replace h1 := Lib.hid h1
  subst eX
  go_wp2_with (fail)
  go_ret
  exact ⟨rfl, HBT⟩
theorem dright_o (aA : Option Addr) (ac : Nat) (a x : Int) (w : World) (ha : NatV w aA ac (mg a)) (la : nl (mg a) ≤ 65536) (h0 : a ≠ 0) (h1 : a % 2 = 1) (h2 : -100000 ≤ x) :
    Calls Tryz.prog 26 #[.agg #[.bool (sg a), .slice aA (nl (mg a)) ac, .int .i64 x]] w (fun e w' => e = .returned (.bool (rightD a x)) ∧ Below w.heap.size w w') := by
  have m0 : mg a ≠ 0 := fun k => h0 (mg_zero.1 k)
  have t1 : decide (0 < (nl (mg a) : Int)) = true := by have := nl_pos.2 m0; simp; omega
  have t2 : decide (0 < nl (mg a)) = true := by have := nl_pos.2 m0; simp; omega
  have t3 : ((nl (mg a) : Int) == 0) = false := ieqF (by have := nl_pos.2 m0; omega)
  have t4 : (nl (mg a) == 0) = false := by have := nl_pos.2 m0; simp; omega
  have t9 := nl_pos.2 m0
  replace m0 := Lib.hid m0
  have t5 : decide (-100000 ≤ x) = true := decide_eq_true h2
  have hr : rightD a x = decide (x ≤ 100000) := by unfold rightD; rw [if_neg h0, decide_eq_true h1, t5]; rfl
  rw [hr]
  clear hr
  replace h0 := Lib.hid h0
  obtain ⟨hb1, Ra⟩ := bx1 w #[.bool (sg a), .slice aA (nl (mg a)) ac, .int .i64 x] 28
  replace ha := ha.below hb1
  have HBT := hb1
  clear hb1
  have qa0 := Ra.c (i := 0) rfl
  have qa1 := Ra.c (i := 1) rfl
  have qa2 := Ra.c (i := 2) rfl
  go_enter Tryz.func26, Tryz.ntmps26
  go_wp2_with (fail)
  refine (Calls.mono (iright_c aA ac a _ ha la) ?_)
  rintro e W1 ⟨rfl, hb1⟩
  replace ha := ha.below hb1
  replace Ra := Ra.below hb1
  replace qa0 := cbl hb1 qa0
  replace qa1 := cbl hb1 qa1
  replace qa2 := cbl hb1 qa2
  replace HBT := Below.cons HBT hb1
  clear hb1
  obtain ⟨ad, eX, hc0⟩ := ha.rd.get 0 (by exact t9)
  obtain ⟨y, Ey⟩ : ∃ x, x = gl (limbs (mg a)) 0 := ⟨_, rfl⟩
  have hxl : y < 4294967296 := by rw [Ey]; exact (lim_limbs _).gl 0
  have hxv : y = mg a / 4294967296 ^ 0 % 4294967296 := by rw [Ey, limbs_gl]
  rw [← Ey, show ad.add 0 = ad by cases ad; simp [Addr.add]; try (split <;> simp)] at hc0
  have hod := odd_limb hxv
  have hand := and_one_u32 y hxl
  have hy : y % 2 = 1 := by simp only [decide_eq_decide] at hod; omega
  rw [hy] at hand
  replace Ey := Lib.hid Ey
  replace hxv := Lib.hid hxv
  replace hod := Lib.hid hod
  replace hy := Lib.hid hy
  replace h1 := Lib.hid h1
  subst eX
  go_wp2_with (fail)
  go_ret
  exact ⟨rfl, HBT⟩
theorem dright_l (aA : Option Addr) (ac : Nat) (a x : Int) (w : World) (ha : NatV w aA ac (mg a)) (la : nl (mg a) ≤ 65536) (h0 : a ≠ 0) (h1 : a % 2 = 1) (h2 : x < -100000) :
    Calls Tryz.prog 26 #[.agg #[.bool (sg a), .slice aA (nl (mg a)) ac, .int .i64 x]] w (fun e w' => e = .returned (.bool (rightD a x)) ∧ Below w.heap.size w w') := by
  have m0 : mg a ≠ 0 := fun k => h0 (mg_zero.1 k)
  have t1 : decide (0 < (nl (mg a) : Int)) = true := by have := nl_pos.2 m0; simp; omega
  have t2 : decide (0 < nl (mg a)) = true := by have := nl_pos.2 m0; simp; omega
  have t3 : ((nl (mg a) : Int) == 0) = false := ieqF (by have := nl_pos.2 m0; omega)
  have t4 : (nl (mg a) == 0) = false := by have := nl_pos.2 m0; simp; omega
  have t9 := nl_pos.2 m0
  replace m0 := Lib.hid m0
  have t5 : decide (-100000 ≤ x) = false := decide_eq_false (by omega)
  have hr : rightD a x = false := by unfold rightD; rw [if_neg h0, decide_eq_true h1, t5]; rfl
  rw [hr]
  clear hr
  replace h0 := Lib.hid h0
  obtain ⟨hb1, Ra⟩ := bx1 w #[.bool (sg a), .slice aA (nl (mg a)) ac, .int .i64 x] 28
  replace ha := ha.below hb1
  have HBT := hb1
  clear hb1
  have qa0 := Ra.c (i := 0) rfl
  have qa1 := Ra.c (i := 1) rfl
  have qa2 := Ra.c (i := 2) rfl
  go_enter Tryz.func26, Tryz.ntmps26
  go_wp2_with (fail)
  refine (Calls.mono (iright_c aA ac a _ ha la) ?_)
  rintro e W1 ⟨rfl, hb1⟩
  replace ha := ha.below hb1
  replace Ra := Ra.below hb1
  replace qa0 := cbl hb1 qa0
  replace qa1 := cbl hb1 qa1
  replace qa2 := cbl hb1 qa2
  replace HBT := Below.cons HBT hb1
  clear hb1
  obtain ⟨ad, eX, hc0⟩ := ha.rd.get 0 (by exact t9)
  obtain ⟨y, Ey⟩ : ∃ x, x = gl (limbs (mg a)) 0 := ⟨_, rfl⟩
  have hxl : y < 4294967296 := by rw [Ey]; exact (lim_limbs _).gl 0
  have hxv : y = mg a / 4294967296 ^ 0 % 4294967296 := by rw [Ey, limbs_gl]
  rw [← Ey, show ad.add 0 = ad by cases ad; simp [Addr.add]; try (split <;> simp)] at hc0
  have hod := odd_limb hxv
  have hand := and_one_u32 y hxl
  have hy : y % 2 = 1 := by simp only [decide_eq_decide] at hod; omega
  rw [hy] at hand
  replace Ey := Lib.hid Ey
  replace hxv := Lib.hid hxv
  replace hod := Lib.hid hod
  replace hy := Lib.hid hy
  replace h1 := Lib.hid h1
  subst eX
  go_wp2_with (fail)
  go_ret
  exact ⟨rfl, HBT⟩
theorem dright_c (aA : Option Addr) (ac : Nat) (a x : Int) (w : World) (ha : NatV w aA ac (mg a)) (la : nl (mg a) ≤ 65536) :
    Calls Tryz.prog 26 #[.agg #[.bool (sg a), .slice aA (nl (mg a)) ac, .int .i64 x]] w (fun e w' => e = .returned (.bool (rightD a x)) ∧ Below w.heap.size w w') := by
  by_cases h0 : a = 0
  · exact dright_z aA ac a x w ha la h0
  · by_cases h1 : a % 2 = 0
    · exact dright_e aA ac a x w ha la h0 h1
    · by_cases h2 : -100000 ≤ x
      · exact dright_o aA ac a x w ha la h0 (by omega) h2
      · exact dright_l aA ac a x w ha la h0 (by omega) (by omega)
end Go.Proofs.YtacjfpibilolnaaGreatDoor

/- Whether a number is right, the document's way. -/
set_option linter.unusedVariables false
set_option linter.unusedSimpArgs false
namespace Go.Proofs.YtacjfpibilolnaaGreatDoor
open Go.RowKit Go.Shelf
attribute [local go_sem] max2_i min2_i max_two min_two

theorem zright_n (aA : Option Addr) (ac : Nat) (a : Int) (w : World) (ha : NatV w aA ac (mg a)) (la : nl (mg a) ≤ 65536) (h0 : a < 0) :
    Calls Tryz.prog 76 #[.agg #[.bool (sg a), .slice aA (nl (mg a)) ac]] w (fun e w' => e = .returned (.bool true) ∧ Below w.heap.size w w') := by
  have ts : sg a = true := sg_t h0
  have m0 : mg a ≠ 0 := fun k => by have := mg_zero.1 k; omega
  have t1 : ((nl (mg a) : Int) == 0) = false := ieqF (by have := nl_pos.2 m0; omega)
  have t2 : (nl (mg a) == 0) = false := by have := nl_pos.2 m0; simp; omega
  have t5 : decide (0 < (nl (mg a) : Int)) = true := by have := nl_pos.2 m0; simp; omega
  have t6 : decide (0 < nl (mg a)) = true := by have := nl_pos.2 m0; simp; omega
  replace h0 := Lib.hid h0
  obtain ⟨hb1, Ra⟩ := bx1 w #[.bool true, .slice aA (nl (mg a)) ac] 24
  replace ha := ha.below hb1
  have HBT := hb1
  clear hb1
  have qa0 := Ra.c (i := 0) rfl
  have qa1 := Ra.c (i := 1) rfl
  go_enter Tryz.func76, Tryz.ntmps76
  go_wp2_with (fail)
  refine (Calls.mono (rright_c aA ac (mg a) _ ha la) ?_)
  rintro e w' ⟨rfl, hw⟩
  subst hw
  go_wp2_with (fail)
  go_ret
  exact ⟨rfl, HBT⟩
theorem zright_z (aA : Option Addr) (ac : Nat) (a : Int) (w : World) (ha : NatV w aA ac (mg a)) (la : nl (mg a) ≤ 65536) (h0 : a = 0) :
    Calls Tryz.prog 76 #[.agg #[.bool (sg a), .slice aA (nl (mg a)) ac]] w (fun e w' => e = .returned (.bool true) ∧ Below w.heap.size w w') := by
  have ts : sg a = false := sg_f (by omega)
  replace h0 := Lib.hid h0
  obtain ⟨hb1, Ra⟩ := bx1 w #[.bool false, .slice aA (nl (mg a)) ac] 24
  replace ha := ha.below hb1
  have HBT := hb1
  clear hb1
  have qa0 := Ra.c (i := 0) rfl
  have qa1 := Ra.c (i := 1) rfl
  go_enter Tryz.func76, Tryz.ntmps76
  go_wp2_with (fail)
  refine (Calls.mono (rright_c aA ac (mg a) _ ha la) ?_)
  rintro e w' ⟨rfl, hw⟩
  subst hw
  go_wp2_with (fail)
  go_ret
  exact ⟨rfl, HBT⟩
theorem zright_p (aA : Option Addr) (ac : Nat) (a : Int) (w : World) (ha : NatV w aA ac (mg a)) (la : nl (mg a) ≤ 65536) (h0 : 0 < a) :
    Calls Tryz.prog 76 #[.agg #[.bool (sg a), .slice aA (nl (mg a)) ac]] w (fun e w' => e = .returned (.bool true) ∧ Below w.heap.size w w') := by
  have ts : sg a = false := sg_f (by omega)
  replace h0 := Lib.hid h0
  obtain ⟨hb1, Ra⟩ := bx1 w #[.bool false, .slice aA (nl (mg a)) ac] 24
  replace ha := ha.below hb1
  have HBT := hb1
  clear hb1
  have qa0 := Ra.c (i := 0) rfl
  have qa1 := Ra.c (i := 1) rfl
  go_enter Tryz.func76, Tryz.ntmps76
  go_wp2_with (fail)
  refine (Calls.mono (rright_c aA ac (mg a) _ ha la) ?_)
  rintro e w' ⟨rfl, hw⟩
  subst hw
  go_wp2_with (fail)
  go_ret
  exact ⟨rfl, HBT⟩
theorem zright_c (aA : Option Addr) (ac : Nat) (a : Int) (w : World) (ha : NatV w aA ac (mg a)) (la : nl (mg a) ≤ 65536) :
    Calls Tryz.prog 76 #[.agg #[.bool (sg a), .slice aA (nl (mg a)) ac]] w fun e w' => e = .returned (.bool true) ∧ Below w.heap.size w w' := by
  obtain h | h | h : a < 0 ∨ a = 0 ∨ 0 < a := by omega
  · exact zright_n aA ac a w ha la h
  · exact zright_z aA ac a w ha la h
  · exact zright_p aA ac a w ha la h
theorem tright_z (aA : Option Addr) (ac : Nat) (a x : Int) (w : World) (ha : NatV w aA ac (mg a)) (la : nl (mg a) ≤ 65536) (h0 : a = 0) :
    Calls Tryz.prog 27 #[.agg #[.bool (sg a), .slice aA (nl (mg a)) ac, .int .i64 x]] w (fun e w' => e = .returned (.bool (rightD a x)) ∧ Below w.heap.size w w') := by
  have hr : rightD a x = (x == 0) := by unfold rightD; rw [if_pos h0]
  have t1 : decide (0 < (nl (mg a) : Int)) = false := by rw [h0, mg0, nl_zero]; rfl
  have t2 : decide (0 < nl (mg a)) = false := by rw [h0, mg0, nl_zero]; rfl
  have t3 : ((nl (mg a) : Int) == 0) = true := ieqT (by rw [h0, mg0, nl_zero]; rfl)
  have t4 : (nl (mg a) == 0) = true := by rw [h0, mg0, nl_zero]; rfl
  rw [hr]
  clear hr
  replace h0 := Lib.hid h0
  obtain ⟨hb1, Ra⟩ := bx1 w #[.bool (sg a), .slice aA (nl (mg a)) ac, .int .i64 x] 28
  replace ha := ha.below hb1
  have HBT := hb1
  clear hb1
  have qa0 := Ra.c (i := 0) rfl
  have qa1 := Ra.c (i := 1) rfl
  have qa2 := Ra.c (i := 2) rfl
  go_enter Tryz.func27, Tryz.ntmps27
  go_wp2_with (fail)
  refine (Calls.mono (zright_c aA ac a _ ha la) ?_)
  rintro e W1 ⟨rfl, hb1⟩
  replace ha := ha.below hb1
  replace Ra := Ra.below hb1
  replace qa0 := cbl hb1 qa0
  replace qa1 := cbl hb1 qa1
  replace qa2 := cbl hb1 qa2
  replace HBT := Below.cons HBT hb1
  clear hb1
  go_wp2_with (fail)
  go_ret
  exact ⟨rfl, HBT⟩
theorem tright_e (aA : Option Addr) (ac : Nat) (a x : Int) (w : World) (ha : NatV w aA ac (mg a)) (la : nl (mg a) ≤ 65536) (h0 : a ≠ 0) (h1 : a % 2 = 0) :
    Calls Tryz.prog 27 #[.agg #[.bool (sg a), .slice aA (nl (mg a)) ac, .int .i64 x]] w (fun e w' => e = .returned (.bool (rightD a x)) ∧ Below w.heap.size w w') := by
  have m0 : mg a ≠ 0 := fun k => h0 (mg_zero.1 k)
  have t1 : decide (0 < (nl (mg a) : Int)) = true := by have := nl_pos.2 m0; simp; omega
  have t2 : decide (0 < nl (mg a)) = true := by have := nl_pos.2 m0; simp; omega
  have t3 : ((nl (mg a) : Int) == 0) = false := ieqF (by have := nl_pos.2 m0; omega)
  have t4 : (nl (mg a) == 0) = false := by have := nl_pos.2 m0; simp; omega
  have t9 := nl_pos.2 m0
  replace m0 := Lib.hid m0
  have hr : rightD a x = false := by unfold rightD; rw [if_neg h0, decide_eq_false (by omega)]; rfl
  rw [hr]
  clear hr
  replace h0 := Lib.hid h0
  obtain ⟨hb1, Ra⟩ := bx1 w #[.bool (sg a), .slice aA (nl (mg a)) ac, .int .i64 x] 28
  replace ha := ha.below hb1
  have HBT := hb1
  clear hb1
  have qa0 := Ra.c (i := 0) rfl
  have qa1 := Ra.c (i := 1) rfl
  have qa2 := Ra.c (i := 2) rfl
  go_enter Tryz.func27, Tryz.ntmps27
  go_wp2_with (fail)
  refine (Calls.mono (zright_c aA ac a _ ha la) ?_)
  rintro e W1 ⟨rfl, hb1⟩
  replace ha := ha.below hb1
  replace Ra := Ra.below hb1
  replace qa0 := cbl hb1 qa0
  replace qa1 := cbl hb1 qa1
  replace qa2 := cbl hb1 qa2
  replace HBT := Below.cons HBT hb1
  clear hb1
  obtain ⟨ad, eX, hc0⟩ := ha.rd.get 0 (by exact t9)
  obtain ⟨y, Ey⟩ : ∃ x, x = gl (limbs (mg a)) 0 := ⟨_, rfl⟩
  have hxl : y < 4294967296 := by rw [Ey]; exact (lim_limbs _).gl 0
  have hxv : y = mg a / 4294967296 ^ 0 % 4294967296 := by rw [Ey, limbs_gl]
  rw [← Ey, show ad.add 0 = ad by cases ad; simp [Addr.add]; try (split <;> simp)] at hc0
  have hod := odd_limb hxv
  have hand := and_one_u32 y hxl
  have hy : y % 2 = 0 := by simp only [decide_eq_decide] at hod; omega
  have hm : (y : Int) % 2 = 0 := by omega
  have hm2 : Int.tmod (y : Int) 2 = 0 := by rw [Int.tmod_eq_emod_of_nonneg (Int.natCast_nonneg y)]; exact hm
  clear hand
  replace Ey := Lib.hid Ey
  replace hxv := Lib.hid hxv
  replace hod := Lib.hid hod
  replace hy := Lib.hid hy
  replace h1 := Lib.hid h1
  subst eX
  go_wp2_with (fail)
  go_ret
  exact ⟨rfl, HBT⟩
theorem tright_o (aA : Option Addr) (ac : Nat) (a x : Int) (w : World) (ha : NatV w aA ac (mg a)) (la : nl (mg a) ≤ 65536) (h0 : a ≠ 0) (h1 : a % 2 = 1) (h2 : -100000 ≤ x) :
    Calls Tryz.prog 27 #[.agg #[.bool (sg a), .slice aA (nl (mg a)) ac, .int .i64 x]] w (fun e w' => e = .returned (.bool (rightD a x)) ∧ Below w.heap.size w w') := by
  have m0 : mg a ≠ 0 := fun k => h0 (mg_zero.1 k)
  have t1 : decide (0 < (nl (mg a) : Int)) = true := by have := nl_pos.2 m0; simp; omega
  have t2 : decide (0 < nl (mg a)) = true := by have := nl_pos.2 m0; simp; omega
  have t3 : ((nl (mg a) : Int) == 0) = false := ieqF (by have := nl_pos.2 m0; omega)
  have t4 : (nl (mg a) == 0) = false := by have := nl_pos.2 m0; simp; omega
  have t9 := nl_pos.2 m0
  replace m0 := Lib.hid m0
  have t5 : decide (-100000 ≤ x) = true := decide_eq_true h2
  have hr : rightD a x = decide (x ≤ 100000) := by unfold rightD; rw [if_neg h0, decide_eq_true h1, t5]; rfl
  rw [hr]
  clear hr
  replace h0 := Lib.hid h0
  obtain ⟨hb1, Ra⟩ := bx1 w #[.bool (sg a), .slice aA (nl (mg a)) ac, .int .i64 x] 28
  replace ha := ha.below hb1
  have HBT := hb1
  clear hb1
  have qa0 := Ra.c (i := 0) rfl
  have qa1 := Ra.c (i := 1) rfl
  have qa2 := Ra.c (i := 2) rfl
  go_enter Tryz.func27, Tryz.ntmps27
  go_wp2_with (fail)
  refine (Calls.mono (zright_c aA ac a _ ha la) ?_)
  rintro e W1 ⟨rfl, hb1⟩
  replace ha := ha.below hb1
  replace Ra := Ra.below hb1
  replace qa0 := cbl hb1 qa0
  replace qa1 := cbl hb1 qa1
  replace qa2 := cbl hb1 qa2
  replace HBT := Below.cons HBT hb1
  clear hb1
  obtain ⟨ad, eX, hc0⟩ := ha.rd.get 0 (by exact t9)
  obtain ⟨y, Ey⟩ : ∃ x, x = gl (limbs (mg a)) 0 := ⟨_, rfl⟩
  have hxl : y < 4294967296 := by rw [Ey]; exact (lim_limbs _).gl 0
  have hxv : y = mg a / 4294967296 ^ 0 % 4294967296 := by rw [Ey, limbs_gl]
  rw [← Ey, show ad.add 0 = ad by cases ad; simp [Addr.add]; try (split <;> simp)] at hc0
  have hod := odd_limb hxv
  have hand := and_one_u32 y hxl
  have hy : y % 2 = 1 := by simp only [decide_eq_decide] at hod; omega
  have hm : (y : Int) % 2 = 1 := by omega
  have hm2 : Int.tmod (y : Int) 2 = 1 := by rw [Int.tmod_eq_emod_of_nonneg (Int.natCast_nonneg y)]; exact hm
  clear hand
  replace Ey := Lib.hid Ey
  replace hxv := Lib.hid hxv
  replace hod := Lib.hid hod
  replace hy := Lib.hid hy
  replace h1 := Lib.hid h1
  subst eX
  go_wp2_with (fail)
  go_ret
  exact ⟨rfl, HBT⟩
theorem tright_l (aA : Option Addr) (ac : Nat) (a x : Int) (w : World) (ha : NatV w aA ac (mg a)) (la : nl (mg a) ≤ 65536) (h0 : a ≠ 0) (h1 : a % 2 = 1) (h2 : x < -100000) :
    Calls Tryz.prog 27 #[.agg #[.bool (sg a), .slice aA (nl (mg a)) ac, .int .i64 x]] w (fun e w' => e = .returned (.bool (rightD a x)) ∧ Below w.heap.size w w') := by
  have m0 : mg a ≠ 0 := fun k => h0 (mg_zero.1 k)
  have t1 : decide (0 < (nl (mg a) : Int)) = true := by have := nl_pos.2 m0; simp; omega
  have t2 : decide (0 < nl (mg a)) = true := by have := nl_pos.2 m0; simp; omega
  have t3 : ((nl (mg a) : Int) == 0) = false := ieqF (by have := nl_pos.2 m0; omega)
  have t4 : (nl (mg a) == 0) = false := by have := nl_pos.2 m0; simp; omega
  have t9 := nl_pos.2 m0
  replace m0 := Lib.hid m0
  have t5 : decide (-100000 ≤ x) = false := decide_eq_false (by omega)
  have hr : rightD a x = false := by unfold rightD; rw [if_neg h0, decide_eq_true h1, t5]; rfl
  rw [hr]
  clear hr
  replace h0 := Lib.hid h0
  obtain ⟨hb1, Ra⟩ := bx1 w #[.bool (sg a), .slice aA (nl (mg a)) ac, .int .i64 x] 28
  replace ha := ha.below hb1
  have HBT := hb1
  clear hb1
  have qa0 := Ra.c (i := 0) rfl
  have qa1 := Ra.c (i := 1) rfl
  have qa2 := Ra.c (i := 2) rfl
  go_enter Tryz.func27, Tryz.ntmps27
  go_wp2_with (fail)
  refine (Calls.mono (zright_c aA ac a _ ha la) ?_)
  rintro e W1 ⟨rfl, hb1⟩
  replace ha := ha.below hb1
  replace Ra := Ra.below hb1
  replace qa0 := cbl hb1 qa0
  replace qa1 := cbl hb1 qa1
  replace qa2 := cbl hb1 qa2
  replace HBT := Below.cons HBT hb1
  clear hb1
  obtain ⟨ad, eX, hc0⟩ := ha.rd.get 0 (by exact t9)
  obtain ⟨y, Ey⟩ : ∃ x, x = gl (limbs (mg a)) 0 := ⟨_, rfl⟩
  have hxl : y < 4294967296 := by rw [Ey]; exact (lim_limbs _).gl 0
  have hxv : y = mg a / 4294967296 ^ 0 % 4294967296 := by rw [Ey, limbs_gl]
  rw [← Ey, show ad.add 0 = ad by cases ad; simp [Addr.add]; try (split <;> simp)] at hc0
  have hod := odd_limb hxv
  have hand := and_one_u32 y hxl
  have hy : y % 2 = 1 := by simp only [decide_eq_decide] at hod; omega
  have hm : (y : Int) % 2 = 1 := by omega
  have hm2 : Int.tmod (y : Int) 2 = 1 := by rw [Int.tmod_eq_emod_of_nonneg (Int.natCast_nonneg y)]; exact hm
  clear hand
  replace Ey := Lib.hid Ey
  replace hxv := Lib.hid hxv
  replace hod := Lib.hid hod
  replace hy := Lib.hid hy
  replace h1 := Lib.hid h1
  subst eX
  go_wp2_with (fail)
  go_ret
  exact ⟨rfl, HBT⟩
theorem tright_c (aA : Option Addr) (ac : Nat) (a x : Int) (w : World) (ha : NatV w aA ac (mg a)) (la : nl (mg a) ≤ 65536) :
    Calls Tryz.prog 27 #[.agg #[.bool (sg a), .slice aA (nl (mg a)) ac, .int .i64 x]] w (fun e w' => e = .returned (.bool (rightD a x)) ∧ Below w.heap.size w w') := by
  by_cases h0 : a = 0
  · exact tright_z aA ac a x w ha la h0
  · by_cases h1 : a % 2 = 0
    · exact tright_e aA ac a x w ha la h0 h1
    · by_cases h2 : -100000 ≤ x
      · exact tright_o aA ac a x w ha la h0 (by omega) h2
      · exact tright_l aA ac a x w ha la h0 (by omega) (by omega)
end Go.Proofs.YtacjfpibilolnaaGreatDoor

/- How long the parts of a dyadic number's rational are. -/
set_option linter.unusedVariables false
namespace Go.Proofs.YtacjfpibilolnaaGreatDoor

end Go.Proofs.YtacjfpibilolnaaGreatDoor

/- The document's rationals, walked: Made; the laws' own small numbers. -/
set_option linter.unusedVariables false
set_option linter.unusedSimpArgs false
namespace Go.Proofs.YtacjfpibilolnaaGreatDoor
open Go.RowKit Go.Shelf
attribute [local go_sem] max2_i min2_i max_two min_two

/-- A whole number and a power, as they are given. -/
def RetDr (w : World) (z x : Int) (e : Ending) (w' : World) : Prop := ∃ A c, e = .returned (.agg #[.bool (sg z), .slice A (nl (mg z)) c, .int .i64 x]) ∧ NatV w' A c (mg z) ∧ Below w.heap.size w w'
theorem retDr_nz {w w' : World} {z x : Int} {e : Ending} (h : RetDr w z x e w') (hn : Nz z x) : RetD w (dval z x) e w' := by
  obtain ⟨A, c, h1, h2, h3⟩ := h
  obtain ⟨k1, k2⟩ := form_of_nz hn
  exact ⟨A, c, by rw [k1, k2]; exact h1, by rw [k1]; exact h2, h3⟩
theorem ld_c (z x : Int) (w : World) (h0 : -9223372036854775808 ≤ z) (h1 : z < 9223372036854775808) :
    Calls Tryz.prog 58 #[.int .i64 z, .int .i64 x] w (RetDr w z x) := by
  obtain ⟨hb1, Rr⟩ := bx1 w #[.bool false, .slice none 0 0, .int .i64 0] 28
  have HBT := hb1
  clear hb1
  have qr0 := Rr.c (i := 0) rfl
  have qr1 := Rr.c (i := 1) rfl
  have qr2 := Rr.c (i := 2) rfl
  go_enter Tryz.func58, Tryz.ntmps58
  go_wp2_with (fail)
  obtain ⟨v, Ev⟩ : ∃ zq : Int, zq = z := ⟨_, rfl⟩
  refine (Calls.mono (R := RetI (w.alloc (.cells #[.bool false, .slice none 0 0, .int .i64 0] 28)) v) (by rw [Ev]; with_reducible exact (zof_c z _ h0 h1)) ?_)
  replace Ev := Lib.hid Ev
  rintro e W2 ⟨Xv, cv, rfl, hv, hb2⟩
  replace Rr := Rr.below hb2
  replace qr0 := cbl hb2 qr0
  replace qr1 := cbl hb2 qr1
  replace qr2 := cbl hb2 qr2
  replace HBT := Below.cons HBT hb2
  clear hb2
  have fzr0 := Rr.f (i := 0)
  have fzr1 := Rr.f (i := 1)
  have fzr2 := Rr.f (i := 2)
  go_wp2_with (fail)
  have hzv : v = z := by exact Ev.out
  subst hzv
  have RS := Rr.store3 (.bool (sg v)) (.slice Xv (nl (mg v)) cv) (.int .i64 x)
  have e0 := RS.c (i := 0) rfl
  have e1 := RS.c (i := 1) rfl
  have e2 := RS.c (i := 2) rfl
  refine bodyPost_ret (v := .agg #[.bool (sg v), .slice Xv (nl (mg v)) cv, .int .i64 x]) (by simp [results, Tryz.results58, go_sem, e0, e1, e2]) rfl ?_
  exact ⟨Xv, cv, rfl, (Rr.keep3 (nuB rfl) hv), (Below.store3 HBT (by first | exact Nat.le_refl _ | omega))⟩
theorem lq_c (n m : Int) (w : World) (n0 : -1000000 ≤ n) (n1 : n ≤ 1000000) (m0 : 0 < m) (m1 : m ≤ 1000000) :
    Calls Tryz.prog 57 #[.int .i64 n, .int .i64 m] w (RetR w (Rat.divInt n m)) := by
  obtain ⟨y, Ey⟩ : ∃ z : Rat, z = Rat.divInt n m := ⟨_, rfl⟩
  rw [← Ey]
  replace Ey := Lib.hid Ey
  obtain ⟨hb1, Rr⟩ := bx1 w #[.bool false, .slice none 0 0, .slice none 0 0] 26
  have HBT := hb1
  clear hb1
  have qr0 := Rr.c (i := 0) rfl
  have qr1 := Rr.c (i := 1) rfl
  have qr2 := Rr.c (i := 2) rfl
  go_enter Tryz.func57, Tryz.ntmps57
  go_wp2_with (fail)
  obtain ⟨u, Eu⟩ : ∃ zq : Int, zq = n := ⟨_, rfl⟩
  have Nu : nl (mg u) ≤ 1 := by rw [Eu]; exact nl_le.2 (by unfold mg; omega)
  refine (Calls.mono (R := RetI (w.alloc (.cells #[.bool false, .slice none 0 0, .slice none 0 0] 26)) u) (by rw [Eu]; with_reducible exact (zof_c n _ (by omega) (by omega))) ?_)
  replace Eu := Lib.hid Eu
  rintro e W2 ⟨Xu, cu, rfl, hu, hb2⟩
  replace Rr := Rr.below hb2
  replace qr0 := cbl hb2 qr0
  replace qr1 := cbl hb2 qr1
  replace qr2 := cbl hb2 qr2
  replace HBT := Below.cons HBT hb2
  clear hb2
  go_wp2_with (fail)
  obtain ⟨v, Ev⟩ : ∃ zq : Int, zq = m := ⟨_, rfl⟩
  have Nv : nl (mg v) ≤ 1 := by rw [Ev]; exact nl_le.2 (by unfold mg; omega)
  have pv : 0 < v := by omega
  refine (Calls.mono (R := RetI W2 v) (by rw [Ev]; with_reducible exact (zof_c m _ (by omega) (by omega))) ?_)
  replace Ev := Lib.hid Ev
  rintro e W3 ⟨Xv, cv, rfl, hv, hb3⟩
  replace Rr := Rr.below hb3
  replace qr0 := cbl hb3 qr0
  replace qr1 := cbl hb3 qr1
  replace qr2 := cbl hb3 qr2
  replace hu := hu.below hb3
  replace HBT := Below.cons HBT hb3
  clear hb3
  go_wp2_with (fail)
  obtain ⟨q, Eq⟩ : ∃ zq : Rat, zq = Rat.divInt u v := ⟨_, rfl⟩
  have CT4 := (r9make_c Xu cu u Xv cv v _ hu hv (by omega) (by omega) pv)
  rw [← Eq] at CT4
  replace Eq := Lib.hid Eq
  replace CT4 := Lib.hid CT4
  refine (Calls.mono CT4.out ?_)
  clear CT4
  rintro e W4 ⟨Xq, cq, Yq, dq, rfl, hq, gq, hb4⟩
  replace Rr := Rr.below hb4
  replace qr0 := cbl hb4 qr0
  replace qr1 := cbl hb4 qr1
  replace qr2 := cbl hb4 qr2
  replace hu := hu.below hb4
  replace hv := hv.below hb4
  replace HBT := Below.cons HBT hb4
  clear hb4
  obtain ⟨hb5, Rq⟩ := bx1 W4 #[.bool (sg q.num), .slice Xq (nl (mg q.num)) cq, .slice Yq (nl q.den) dq] 26
  replace Rr := Rr.below hb5
  replace qr0 := cbl hb5 qr0
  replace qr1 := cbl hb5 qr1
  replace qr2 := cbl hb5 qr2
  replace hu := hu.below hb5
  replace hv := hv.below hb5
  replace hq := hq.below hb5
  replace gq := gq.below hb5
  replace HBT := Below.cons HBT hb5
  clear hb5
  have qq0 := Rq.c (i := 0) rfl
  have qq1 := Rq.c (i := 1) rfl
  have qq2 := Rq.c (i := 2) rfl
  have fzr0 := Rr.f (i := 0)
  have fzr1 := Rr.f (i := 1)
  have fzr2 := Rr.f (i := 2)
  go_wp2_with (fail)
  have hzq : q = y := by rw [Eq.out, Eu.out, Ev.out, Ey.out]
  subst hzq
  have RS := Rr.store3 (.bool (sg q.num)) (.slice Xq (nl (mg q.num)) cq) (.slice Yq (nl q.den) dq)
  have e0 := RS.c (i := 0) rfl
  have e1 := RS.c (i := 1) rfl
  have e2 := RS.c (i := 2) rfl
  refine bodyPost_ret (v := .agg #[.bool (sg q.num), .slice Xq (nl (mg q.num)) cq, .slice Yq (nl q.den) dq]) (by simp [results, Tryz.results57, go_sem, e0, e1, e2]) rfl ?_
  exact ⟨Xq, cq, Yq, dq, rfl, (Rr.keep3 (nuB rfl) hq), (Rr.keep3 (nuB rfl) gq), (Below.store3 HBT (by first | exact Nat.le_refl _ | omega))⟩
end Go.Proofs.YtacjfpibilolnaaGreatDoor

/- Rounding in five directions: what the laws say of it. No Go in it. -/
set_option linter.unusedVariables false
set_option linter.unusedSimpArgs false
namespace Go.Proofs.YtacjfpibilolnaaGreatDoor

theorem dbl (x : Rat) : x + x = 2 * x := by grind
end Go.Proofs.YtacjfpibilolnaaGreatDoor

/- A rational rounded to a whole number, the document's way. -/
set_option linter.unusedVariables false
set_option linter.unusedSimpArgs false
namespace Go.Proofs.YtacjfpibilolnaaGreatDoor
open Go.RowKit Go.Shelf
attribute [local go_sem] max2_i min2_i max_two min_two

theorem PBR.put {W W' : World} {u : Value} {q : Rat} {n0 k : Nat} (h : PBR n0 u q W) (hp : Put W W' k) (hne : u ≠ .pointer (some ⟨k, 0, none⟩)) : PBR n0 u q W' := by
  obtain ⟨nb, X, c, Y, d, h1, h2, h3, h4, h5⟩ := h
  exact ⟨nb, X, c, Y, d, h1, h2, ⟨(hp.far nb (fun e => hne (by rw [h1, e]))).trans h3.at_⟩, hp.nat h4, hp.nat h5⟩
end Go.Proofs.YtacjfpibilolnaaGreatDoor

/- A rational, a dyadic number, rounded, the document's way: Cut, Round. -/
set_option linter.unusedVariables false
set_option linter.unusedSimpArgs false
namespace Go.Proofs.YtacjfpibilolnaaGreatDoor
open Go.RowKit Go.Shelf
attribute [local go_sem] max2_i min2_i max_two min_two

end Go.Proofs.YtacjfpibilolnaaGreatDoor
