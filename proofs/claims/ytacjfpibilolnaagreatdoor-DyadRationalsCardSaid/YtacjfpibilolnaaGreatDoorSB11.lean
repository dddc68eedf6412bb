/- Whole numbers, walked: Add. -/
import Derived.Test.YtacjfpibilolnaaGreatDoorSB09
import Derived.Test.YtacjfpibilolnaaGreatDoorSB06
set_option maxRecDepth 100000
set_option maxHeartbeats 4000000
set_option linter.unusedVariables false
set_option linter.unusedSimpArgs false
namespace Go.Proofs.YtacjfpibilolnaaGreatDoor
open Go.RowKit Go.Shelf
attribute [local go_sem] max2_i min2_i max_two min_two

theorem BoxA.other2 {W : World} {j k : Nat} {t : TypeId} {us : Array Value} {v0 v1 : Value} (h : BoxA W j t us) (hne : j ≠ k) : BoxA ((W.setCell ⟨k, 0, none⟩ v0).setCell ⟨k, 1, none⟩ v1) j t us := ⟨(set2_far j hne).trans h.at_⟩
theorem BoxA.other3 {W : World} {j k : Nat} {t : TypeId} {us : Array Value} {v0 v1 v2 : Value} (h : BoxA W j t us) (hne : j ≠ k) : BoxA (((W.setCell ⟨k, 0, none⟩ v0).setCell ⟨k, 1, none⟩ v1).setCell ⟨k, 2, none⟩ v2) j t us := ⟨(set3_far j hne).trans h.at_⟩
theorem ival_add {a b : Int} (h : sg a = sg b) : ival (sg a) (mg a + mg b) = a + b := by
  unfold sg at h; unfold ival sg mg
  simp only [decide_eq_decide] at h
  by_cases ha : a < 0
  · have := h.1 ha; simp [ha]; omega
  · have : ¬ b < 0 := fun e => ha (h.2 e); simp [ha]; omega
theorem ival_sub {a b : Int} (h : sg a ≠ sg b) (hl : mg b ≤ mg a) : ival (sg a) (mg a - mg b) = a + b := by
  unfold sg at h; unfold mg at hl; unfold ival sg mg
  by_cases ha : a < 0
  · have : ¬ b < 0 := fun e => h (by simp [ha, e]); simp [ha]; omega
  · have : b < 0 := Decidable.byContradiction fun e => h (by simp [ha, e]); simp [ha]; omega
theorem iadd_same (aA : Option Addr) (ac : Nat) (a : Int) (bA : Option Addr) (bc : Nat) (b : Int) (w : World) (ha : NatV w aA ac (mg a)) (hb : NatV w bA bc (mg b)) (la : nl (mg a) ≤ 1048576) (lb : nl (mg b) ≤ 1048576) (hs : sg a = sg b) :
    Calls Tryz.prog 91 #[.agg #[.bool (sg a), .slice aA (nl (mg a)) ac], .agg #[.bool (sg b), .slice bA (nl (mg b)) bc]] w (RetI w (a + b)) := by
  have t1 : (sg a == sg b) = true := beq_iff_eq.mpr hs
  have hv := ival_add hs
  replace hv := Lib.hid hv
  replace hs := Lib.hid hs
  have hb1 : Below (w).heap.size (w) (((w.alloc (.cells #[.bool (sg a), .slice aA (nl (mg a)) ac] 24)).alloc (.cells #[.bool (sg b), .slice bA (nl (mg b)) bc] 24)).alloc (.cells #[.bool false, .slice none 0 0] 24)) := (Below.alloc (Below.alloc (Below.alloc (Below.refl _ _) (Nat.le_refl _) _) (by simp <;> omega) _) (by simp <;> omega) _)
  replace ha := ha.below hb1
  replace hb := hb.below hb1
  have HBT := hb1
  clear hb1
  have Ra : BoxA (((w.alloc (.cells #[.bool (sg a), .slice aA (nl (mg a)) ac] 24)).alloc (.cells #[.bool (sg b), .slice bA (nl (mg b)) bc] 24)).alloc (.cells #[.bool false, .slice none 0 0] 24)) w.heap.size 24 #[.bool (sg a), .slice aA (nl (mg a)) ac] := ⟨by repeat (first | exact at_new (by simp) | refine at_old (by simp <;> omega) ?_)⟩
  have qa0 := Ra.c (i := 0) rfl
  have qa1 := Ra.c (i := 1) rfl
  have Rb : BoxA (((w.alloc (.cells #[.bool (sg a), .slice aA (nl (mg a)) ac] 24)).alloc (.cells #[.bool (sg b), .slice bA (nl (mg b)) bc] 24)).alloc (.cells #[.bool false, .slice none 0 0] 24)) (w.heap.size + 1) 24 #[.bool (sg b), .slice bA (nl (mg b)) bc] := ⟨by repeat (first | exact at_new (by simp) | refine at_old (by simp <;> omega) ?_)⟩
  have qb0 := Rb.c (i := 0) rfl
  have qb1 := Rb.c (i := 1) rfl
  have Rr : BoxA (((w.alloc (.cells #[.bool (sg a), .slice aA (nl (mg a)) ac] 24)).alloc (.cells #[.bool (sg b), .slice bA (nl (mg b)) bc] 24)).alloc (.cells #[.bool false, .slice none 0 0] 24)) (w.heap.size + 2) 24 #[.bool false, .slice none 0 0] := ⟨by repeat (first | exact at_new (by simp) | refine at_old (by simp <;> omega) ?_)⟩
  have qr0 := Rr.c (i := 0) rfl
  have qr1 := Rr.c (i := 1) rfl
  go_enter Tryz.func91, Tryz.ntmps91
  go_wp2_with (fail)
  have hd2 := drb ((((w.alloc (.cells #[.bool (sg a), .slice aA (nl (mg a)) ac] 24)).alloc (.cells #[.bool (sg b), .slice bA (nl (mg b)) bc] 24)).alloc (.cells #[.bool false, .slice none 0 0] 24)))
  replace ha := ha.below hd2
  replace hb := hb.below hd2
  replace Ra := Ra.below hd2
  replace qa0 := cbl hd2 qa0
  replace qa1 := cbl hd2 qa1
  replace Rb := Rb.below hd2
  replace qb0 := cbl hd2 qb0
  replace qb1 := cbl hd2 qb1
  replace Rr := Rr.below hd2
  replace qr0 := cbl hd2 qr0
  replace qr1 := cbl hd2 qr1
  replace HBT := Below.cons HBT hd2
  clear hd2
  obtain ⟨n, En⟩ : ∃ zq : Nat, zq = mg a + mg b := ⟨_, rfl⟩
  have Bn : nl n ≤ 2097154 := by rw [En]; have := nl_add (mg a) (mg b); omega
  have C2_0 := fun (W : World) (h1 : NatV W aA ac (mg a)) (h2 : NatV W bA bc (mg b)) => add_c aA ac (mg a) bA bc (mg b) W h1 h2 (by omega) (by omega)
  simp only [← En] at C2_0
  replace En := Lib.hid En
  replace C2_0 := Lib.hid C2_0
  obtain ⟨z, Ez⟩ : ∃ zq : Int, zq = ival (sg a) n := ⟨_, rfl⟩
  have C2_1 := fun (W : World) (A : Option Addr) (c : Nat) (h1 : NatV W A c n) => imake_c (sg a) A c n W h1 (by omega)
  simp only [← Ez] at C2_1
  replace Ez := Lib.hid Ez
  replace C2_1 := Lib.hid C2_1
  go_region_held3 (fun W => W.cell? ⟨w.heap.size, 0, none⟩ = some (.bool (sg a)) ∧ W.cell? ⟨w.heap.size, 1, none⟩ = some (.slice aA (nl (mg a)) ac) ∧ W.cell? ⟨(w.heap.size + 1), 1, none⟩ = some (.slice bA (nl (mg b)) bc))
    (first
      | exact ⟨qa0, qa1, qb1⟩
      | exact ⟨qa0_3, qa1_3, qb1_3⟩
      | exact ⟨qa0_4, qa1_4, qb1_4⟩
      | exact ⟨((Ra_4.other2 (by simp <;> omega)).c (i := 0) rfl), ((Ra_4.other2 (by simp <;> omega)).c (i := 1) rfl), ((Rb_4.other2 (by simp <;> omega)).c (i := 1) rfl)⟩
      | go_keep)
    (first
      | (go_at_call 107; (with_reducible refine (C2_0.out _ ha hb).mono ?_); rintro e W3 ⟨Xn, cn, rfl, hn, hb3⟩; have ha_3 := ha.below hb3; have hb_3 := hb.below hb3; have Ra_3 := Ra.below hb3; have qa0_3 := cbl hb3 qa0; have qa1_3 := cbl hb3 qa1; have Rb_3 := Rb.below hb3; have qb0_3 := cbl hb3 qb0; have qb1_3 := cbl hb3 qb1; have Rr_3 := Rr.below hb3; have qr0_3 := cbl hb3 qr0; have qr1_3 := cbl hb3 qr1; have HBT_3 := Below.cons HBT hb3)
      | (go_at_call 64; (with_reducible refine (C2_1.out _ _ _ hn).mono ?_); rintro e W4 ⟨Xz, cz, rfl, hz, hb4⟩; have ha_4 := ha_3.below hb4; have hb_4 := hb_3.below hb4; have Ra_4 := Ra_3.below hb4; have qa0_4 := cbl hb4 qa0_3; have qa1_4 := cbl hb4 qa1_3; have Rb_4 := Rb_3.below hb4; have qb0_4 := cbl hb4 qb0_3; have qb1_4 := cbl hb4 qb1_3; have Rr_4 := Rr_3.below hb4; have qr0_4 := cbl hb4 qr0_3; have qr1_4 := cbl hb4 qr1_3; have hn_4 := hn.below hb4; have HBT_4 := Below.cons HBT_3 hb4; have fz0 := Rr_4.f (i := 0); have fz1 := Rr_4.f (i := 1)))
  all_goals (try go_wp2_with (fail))
  have hz : z = a + b := by rw [Ez.out, En.out]; exact hv.out
  subst hz
  have RS := Rr_4.store2 (.bool (sg ((a + b)))) (.slice Xz (nl (mg ((a + b)))) cz)
  have e0 := RS.c (i := 0) rfl
  have e1 := RS.c (i := 1) rfl
  refine bodyPost_ret (v := .agg #[.bool (sg ((a + b))), .slice Xz (nl (mg ((a + b)))) cz]) (by simp [results, Tryz.results91, go_sem, e0, e1]) rfl ?_
  exact ⟨Xz, cz, rfl, (Rr_4.keep2 (nuB rfl) hz), (Below.store2 HBT_4 (by first | exact Nat.le_refl _ | omega))⟩
theorem iadd_apart (aA : Option Addr) (ac : Nat) (a : Int) (bA : Option Addr) (bc : Nat) (b : Int) (w : World) (ha : NatV w aA ac (mg a)) (hb : NatV w bA bc (mg b)) (la : nl (mg a) ≤ 1048576) (lb : nl (mg b) ≤ 1048576) (hs : sg a ≠ sg b) :
    Calls Tryz.prog 91 #[.agg #[.bool (sg a), .slice aA (nl (mg a)) ac], .agg #[.bool (sg b), .slice bA (nl (mg b)) bc]] w (RetI w (a + b)) := by
  have t1 : (sg a == sg b) = false := beq_eq_false_iff_ne.mpr hs
  have hb1 : Below (w).heap.size (w) (((w.alloc (.cells #[.bool (sg a), .slice aA (nl (mg a)) ac] 24)).alloc (.cells #[.bool (sg b), .slice bA (nl (mg b)) bc] 24)).alloc (.cells #[.bool false, .slice none 0 0] 24)) := (Below.alloc (Below.alloc (Below.alloc (Below.refl _ _) (Nat.le_refl _) _) (by simp <;> omega) _) (by simp <;> omega) _)
  replace ha := ha.below hb1
  replace hb := hb.below hb1
  have HBT := hb1
  clear hb1
  have Ra : BoxA (((w.alloc (.cells #[.bool (sg a), .slice aA (nl (mg a)) ac] 24)).alloc (.cells #[.bool (sg b), .slice bA (nl (mg b)) bc] 24)).alloc (.cells #[.bool false, .slice none 0 0] 24)) w.heap.size 24 #[.bool (sg a), .slice aA (nl (mg a)) ac] := ⟨by repeat (first | exact at_new (by simp) | refine at_old (by simp <;> omega) ?_)⟩
  have qa0 := Ra.c (i := 0) rfl
  have qa1 := Ra.c (i := 1) rfl
  have Rb : BoxA (((w.alloc (.cells #[.bool (sg a), .slice aA (nl (mg a)) ac] 24)).alloc (.cells #[.bool (sg b), .slice bA (nl (mg b)) bc] 24)).alloc (.cells #[.bool false, .slice none 0 0] 24)) (w.heap.size + 1) 24 #[.bool (sg b), .slice bA (nl (mg b)) bc] := ⟨by repeat (first | exact at_new (by simp) | refine at_old (by simp <;> omega) ?_)⟩
  have qb0 := Rb.c (i := 0) rfl
  have qb1 := Rb.c (i := 1) rfl
  have Rr : BoxA (((w.alloc (.cells #[.bool (sg a), .slice aA (nl (mg a)) ac] 24)).alloc (.cells #[.bool (sg b), .slice bA (nl (mg b)) bc] 24)).alloc (.cells #[.bool false, .slice none 0 0] 24)) (w.heap.size + 2) 24 #[.bool false, .slice none 0 0] := ⟨by repeat (first | exact at_new (by simp) | refine at_old (by simp <;> omega) ?_)⟩
  have qr0 := Rr.c (i := 0) rfl
  have qr1 := Rr.c (i := 1) rfl
  go_enter Tryz.func91, Tryz.ntmps91
  go_wp2_with (fail)
  refine (Calls.mono (cmp_c aA ac (mg a) bA bc (mg b) _ ha hb (by omega) (by omega)) ?_)
  rintro e W2 ⟨rfl, hb2⟩
  replace ha := ha.below hb2
  replace hb := hb.below hb2
  replace Ra := Ra.below hb2
  replace qa0 := cbl hb2 qa0
  replace qa1 := cbl hb2 qa1
  replace Rb := Rb.below hb2
  replace qb0 := cbl hb2 qb0
  replace qb1 := cbl hb2 qb1
  replace Rr := Rr.below hb2
  replace qr0 := cbl hb2 qr0
  replace qr1 := cbl hb2 qr1
  replace HBT := Below.cons HBT hb2
  clear hb2
  by_cases hl : mg a < mg b
  · have t2 : decide (cmpN (mg a) (mg b) < 0) = true := by rw [decide_eq_true_eq, cmpN_neg]; exact hl
    have hle : mg a ≤ mg b := Nat.le_of_lt hl
    have hv := ival_sub (fun e => hs e.symm) hle
    replace hv := Lib.hid hv
    replace hl := Lib.hid hl
    have fa0_3 := Ra.f (i := 0)
    have fa1_3 := Ra.f (i := 1)
    have Ra_3 := Ra.store2 (.bool (sg b)) (.slice bA (nl (mg b)) bc)
    have Rb_3 : BoxA ((W2.setCell ⟨w.heap.size, 0, none⟩ (.bool (sg b))).setCell ⟨w.heap.size, 1, none⟩ (.slice bA (nl (mg b)) bc)) _ _ _ := Rb.other2 (by simp <;> omega)
    have Rr_3 : BoxA ((W2.setCell ⟨w.heap.size, 0, none⟩ (.bool (sg b))).setCell ⟨w.heap.size, 1, none⟩ (.slice bA (nl (mg b)) bc)) _ _ _ := Rr.other2 (by simp <;> omega)
    have ha_3 := Ra.keep2 (v0 := .bool (sg b)) (v1 := .slice bA (nl (mg b)) bc) (nuB rfl) ha
    have hb_3 := Ra.keep2 (v0 := .bool (sg b)) (v1 := .slice bA (nl (mg b)) bc) (nuB rfl) hb
    have qa0_3 := Ra_3.c (i := 0) rfl
    have qa1_3 := Ra_3.c (i := 1) rfl
    have qb0_3 := Rb_3.c (i := 0) rfl
    have qb1_3 := Rb_3.c (i := 1) rfl
    have qr0_3 := Rr_3.c (i := 0) rfl
    have qr1_3 := Rr_3.c (i := 1) rfl
    have HBT_3 := Below.store2 (v0 := .bool (sg b)) (v1 := .slice bA (nl (mg b)) bc) HBT (k := w.heap.size) (by first | exact Nat.le_refl _ | omega)
    have fb0_4 := Rb_3.f (i := 0)
    have fb1_4 := Rb_3.f (i := 1)
    have Ra_4 : BoxA ((((W2.setCell ⟨w.heap.size, 0, none⟩ (.bool (sg b))).setCell ⟨w.heap.size, 1, none⟩ (.slice bA (nl (mg b)) bc)).setCell ⟨(w.heap.size + 1), 0, none⟩ (.bool (sg a))).setCell ⟨(w.heap.size + 1), 1, none⟩ (.slice aA (nl (mg a)) ac)) _ _ _ := Ra_3.other2 (by simp <;> omega)
    have Rb_4 := Rb_3.store2 (.bool (sg a)) (.slice aA (nl (mg a)) ac)
    have Rr_4 : BoxA ((((W2.setCell ⟨w.heap.size, 0, none⟩ (.bool (sg b))).setCell ⟨w.heap.size, 1, none⟩ (.slice bA (nl (mg b)) bc)).setCell ⟨(w.heap.size + 1), 0, none⟩ (.bool (sg a))).setCell ⟨(w.heap.size + 1), 1, none⟩ (.slice aA (nl (mg a)) ac)) _ _ _ := Rr_3.other2 (by simp <;> omega)
    have ha_4 := Rb_3.keep2 (v0 := .bool (sg a)) (v1 := .slice aA (nl (mg a)) ac) (nuB rfl) ha_3
    have hb_4 := Rb_3.keep2 (v0 := .bool (sg a)) (v1 := .slice aA (nl (mg a)) ac) (nuB rfl) hb_3
    have qa0_4 := Ra_4.c (i := 0) rfl
    have qa1_4 := Ra_4.c (i := 1) rfl
    have qb0_4 := Rb_4.c (i := 0) rfl
    have qb1_4 := Rb_4.c (i := 1) rfl
    have qr0_4 := Rr_4.c (i := 0) rfl
    have qr1_4 := Rr_4.c (i := 1) rfl
    have HBT_4 := Below.store2 (v0 := .bool (sg a)) (v1 := .slice aA (nl (mg a)) ac) HBT_3 (k := (w.heap.size + 1)) (by first | exact Nat.le_refl _ | omega)
    go_wp2_with (fail)
    clear fa0_3 fa1_3 Ra Rb Rr ha hb qa0 qa1 qb0 qb1 qr0 qr1 HBT fb0_4 fb1_4 Ra_3 Rb_3 Rr_3 ha_3 hb_3 qa0_3 qa1_3 qb0_3 qb1_3 qr0_3 qr1_3 HBT_3
    obtain ⟨n, En⟩ : ∃ zq : Nat, zq = mg b - mg a := ⟨_, rfl⟩
    have Bn : nl n ≤ 1048576 := by rw [En]; have := nl_sub (mg b) (mg a); omega
    have CS := sub_c bA bc (mg b) aA ac (mg a) _ hb_4 ha_4 (by omega) (by omega) hle
    rw [← En] at CS
    replace En := Lib.hid En
    refine (Calls.mono CS ?_)
    rintro e W5 ⟨Xn, cn, rfl, hn, hb5⟩
    clear CS
    replace Ra_4 := Ra_4.below hb5
    replace Rb_4 := Rb_4.below hb5
    replace Rr_4 := Rr_4.below hb5
    replace ha_4 := ha_4.below hb5
    replace hb_4 := hb_4.below hb5
    replace qa0_4 := cbl hb5 qa0_4
    replace qa1_4 := cbl hb5 qa1_4
    replace qb0_4 := cbl hb5 qb0_4
    replace qb1_4 := cbl hb5 qb1_4
    replace qr0_4 := cbl hb5 qr0_4
    replace qr1_4 := cbl hb5 qr1_4
    have HBT := Below.cons HBT_4 hb5
    clear hb5
    go_wp2_with (fail)
    obtain ⟨z, Ez⟩ : ∃ zq : Int, zq = ival (sg b) n := ⟨_, rfl⟩
    refine (Calls.mono (R := RetI W5 z) (by rw [Ez]; exact (imake_c (sg b) Xn cn n _ hn (by omega))) ?_)
    replace Ez := Lib.hid Ez
    rintro e W6 ⟨Xz, cz, rfl, hz, hb6⟩
    replace Ra_4 := Ra_4.below hb6
    replace Rb_4 := Rb_4.below hb6
    replace Rr_4 := Rr_4.below hb6
    replace ha_4 := ha_4.below hb6
    replace hb_4 := hb_4.below hb6
    replace qa0_4 := cbl hb6 qa0_4
    replace qa1_4 := cbl hb6 qa1_4
    replace qb0_4 := cbl hb6 qb0_4
    replace qb1_4 := cbl hb6 qb1_4
    replace qr0_4 := cbl hb6 qr0_4
    replace qr1_4 := cbl hb6 qr1_4
    replace hn := hn.below hb6
    replace HBT := Below.cons HBT hb6
    clear hb6
    have fz0 := Rr_4.f (i := 0)
    have fz1 := Rr_4.f (i := 1)
    go_wp2_with (fail)
    have hz : z = a + b := by rw [Ez.out, En.out]; exact hv.out.trans (Int.add_comm b a)
    subst hz
    have RS := Rr_4.store2 (.bool (sg ((a + b)))) (.slice Xz (nl (mg ((a + b)))) cz)
    have e0 := RS.c (i := 0) rfl
    have e1 := RS.c (i := 1) rfl
    refine bodyPost_ret (v := .agg #[.bool (sg ((a + b))), .slice Xz (nl (mg ((a + b)))) cz]) (by simp [results, Tryz.results91, go_sem, e0, e1]) rfl ?_
    exact ⟨Xz, cz, rfl, (Rr_4.keep2 (nuB rfl) hz), (Below.store2 HBT (by first | exact Nat.le_refl _ | omega))⟩
  · have t2 : decide (cmpN (mg a) (mg b) < 0) = false := by rw [decide_eq_false_iff_not, cmpN_neg]; exact hl
    have hle : mg b ≤ mg a := by omega
    have hv := ival_sub hs hle
    replace hv := Lib.hid hv
    replace hl := Lib.hid hl
    go_wp2_with (fail)
    obtain ⟨n, En⟩ : ∃ zq : Nat, zq = mg a - mg b := ⟨_, rfl⟩
    have Bn : nl n ≤ 1048576 := by rw [En]; have := nl_sub (mg a) (mg b); omega
    have CS := sub_c aA ac (mg a) bA bc (mg b) _ ha hb (by omega) (by omega) hle
    rw [← En] at CS
    replace En := Lib.hid En
    refine (Calls.mono CS ?_)
    rintro e W3 ⟨Xn, cn, rfl, hn, hb3⟩
    clear CS
    replace ha := ha.below hb3
    replace hb := hb.below hb3
    replace Ra := Ra.below hb3
    replace qa0 := cbl hb3 qa0
    replace qa1 := cbl hb3 qa1
    replace Rb := Rb.below hb3
    replace qb0 := cbl hb3 qb0
    replace qb1 := cbl hb3 qb1
    replace Rr := Rr.below hb3
    replace qr0 := cbl hb3 qr0
    replace qr1 := cbl hb3 qr1
    replace HBT := Below.cons HBT hb3
    clear hb3
    go_wp2_with (fail)
    obtain ⟨z, Ez⟩ : ∃ zq : Int, zq = ival (sg a) n := ⟨_, rfl⟩
    refine (Calls.mono (R := RetI W3 z) (by rw [Ez]; exact (imake_c (sg a) Xn cn n _ hn (by omega))) ?_)
    replace Ez := Lib.hid Ez
    rintro e W4 ⟨Xz, cz, rfl, hz, hb4⟩
    replace ha := ha.below hb4
    replace hb := hb.below hb4
    replace Ra := Ra.below hb4
    replace qa0 := cbl hb4 qa0
    replace qa1 := cbl hb4 qa1
    replace Rb := Rb.below hb4
    replace qb0 := cbl hb4 qb0
    replace qb1 := cbl hb4 qb1
    replace Rr := Rr.below hb4
    replace qr0 := cbl hb4 qr0
    replace qr1 := cbl hb4 qr1
    replace hn := hn.below hb4
    replace HBT := Below.cons HBT hb4
    clear hb4
    have fz0 := Rr.f (i := 0)
    have fz1 := Rr.f (i := 1)
    go_wp2_with (fail)
    have hz : z = a + b := by rw [Ez.out, En.out]; exact hv.out
    subst hz
    have RS := Rr.store2 (.bool (sg ((a + b)))) (.slice Xz (nl (mg ((a + b)))) cz)
    have e0 := RS.c (i := 0) rfl
    have e1 := RS.c (i := 1) rfl
    refine bodyPost_ret (v := .agg #[.bool (sg ((a + b))), .slice Xz (nl (mg ((a + b)))) cz]) (by simp [results, Tryz.results91, go_sem, e0, e1]) rfl ?_
    exact ⟨Xz, cz, rfl, (Rr.keep2 (nuB rfl) hz), (Below.store2 HBT (by first | exact Nat.le_refl _ | omega))⟩
theorem iadd_c (aA : Option Addr) (ac : Nat) (a : Int) (bA : Option Addr) (bc : Nat) (b : Int) (w : World) (ha : NatV w aA ac (mg a)) (hb : NatV w bA bc (mg b)) (la : nl (mg a) ≤ 1048576) (lb : nl (mg b) ≤ 1048576) :
    Calls Tryz.prog 91 #[.agg #[.bool (sg a), .slice aA (nl (mg a)) ac], .agg #[.bool (sg b), .slice bA (nl (mg b)) bc]] w (RetI w (a + b)) := by
  by_cases h : sg a = sg b
  · exact iadd_same aA ac a bA bc b w ha hb la lb h
  · exact iadd_apart aA ac a bA bc b w ha hb la lb h
end Go.Proofs.YtacjfpibilolnaaGreatDoor

/- A third of a natural; its values at points; a natural cut into thirds. -/
set_option linter.unusedVariables false
set_option linter.unusedSimpArgs false
namespace Go.Proofs.YtacjfpibilolnaaGreatDoor
open Go.RowKit Go.Shelf
attribute [local go_sem] max2_i min2_i max_two min_two

theorem or64 (r x : Nat) (hr : r < 4294967296) (hx : x < 4294967296) : bits .or .u64 ((r : Int) * 4294967296) (x : Int) = ((r * 4294967296 + x : Nat) : Int) := by
  have e : ((r : Int) * 4294967296) = ((r * 4294967296 : Nat) : Int) := by simp
  rw [e, u64_or_nat _ _ (by omega) (by omega)]
  congr 1
  rw [Nat.mul_comm, show 4294967296 = 2 ^ 32 from rfl, ← Nat.two_pow_add_eq_or_of_lt (i := 32) (by omega)]

theorem third_math (a k x q r : Nat) (hq : q = a / 4294967296 ^ (k + 1)) (hx : x = a / 4294967296 ^ k % 4294967296) (hr : r = q % 3) :
    a / 4294967296 ^ k / 3 = 4294967296 * (q / 3) + (r * 4294967296 + x) / 3 ∧ a / 4294967296 ^ k % 3 = (r * 4294967296 + x) % 3 := by
  have h : q = a / 4294967296 ^ k / 4294967296 := by rw [hq, Nat.pow_succ, ← Nat.div_div_eq_div_mul]
  generalize a / 4294967296 ^ k = t at *
  omega

theorem third_c (A : Option Addr) (c a : Nat) (w : World) (hA : NatV w A c a) (ha : nl a ≤ 1073741824) :
    Calls Tryz.prog 152 #[.slice A (nl a) c] w (RetN w (a / 3)) := by
  have hmk := mk32 (nl a) (nl a) (by omega) (by omega) (by omega)
  have hown0 := ownsMade32 w w.heap.size (nl a) (Nat.le_refl _) (by omega)
  have hb0 : Below w.heap.size w (w.alloc (.cells (madeCells #[.int .u32 0] (nl a)) 58)) := (Below.refl _ _).alloc (Nat.le_refl _) _
  rw [Int.toNat_natCast] at hmk
  go_enter Tryz.func152, Tryz.ntmps152
  go_wp2_with (fail)
  go_loopw [4, 5] (fun vr vi wr => ∃ (k : Nat) (L : List Nat), vi = .int .i64 ((k : Int) - 1) ∧ vr = .int .u64 ((a / 4294967296 ^ k % 3 : Nat) : Int) ∧ k ≤ nl a ∧ Below w.heap.size w wr ∧ wr.ownsRow w.heap.size 58 1 (.slice (some ⟨w.heap.size, 0, none⟩) (nl a) (nl a)) (nl a) (vals L) ∧
    Hid (L.length = nl a) ∧ Lim L ∧ Hid (val L = 4294967296 ^ k * (a / 4294967296 ^ k / 3)) ∧ Hid (∀ j, j < k → gl L j = 0)) (fun vr vi wr => (intOf vi + 1).toNat)
  case atStart =>
    have e : a / 4294967296 ^ nl a = 0 := Nat.div_eq_of_lt (nl_lt a)
    exact ⟨nl a, _, rfl, by rw [e]; rfl, Nat.le_refl _, hb0, hown0, Lib.hid (by simp), Lim.replicate _ _ (by decide), Lib.hid (by rw [val_replicate, e]; simp), Lib.hid (fun j _ => by simp [gl, List.getElem?_replicate]; split <;> rfl)⟩
  case round =>
    obtain ⟨k, L, rfl, rfl, hk, hb, hown, hlen, hlim, hval, hz⟩ := hrel
    cases k with
    | zero =>
      obtain ⟨X, cx, e, hcx, hcm, hrd⟩ := ownV_rd hown
      cases e
      have hv := hval.out
      rw [Nat.pow_zero, Nat.one_mul, Nat.div_one] at hv
      have hmake := make_c (some ⟨w.heap.size, 0, none⟩) (nl a) (nl a) L wr hlen.out hrd hlim (by omega) (Nat.le_refl _)
      rw [hv] at hmake
      have HM := Lib.hid hmake
      clear hmake hown hrd hv
      go_wp2_with (fail)
      refine HM.out.mono ?_
      rintro e w2 ⟨Y, cy, rfl, h1, h2⟩
      go_wp2_with (fail)
      go_ret
      exact ⟨Y, cy, rfl, h1, hb.trans (h2.mono hb.size)⟩
    | succ k =>
      rw [show (((k + 1 : Nat) : Int) - 1) = (k : Int) by omega]
      obtain ⟨ad, rfl, hcx⟩ := (hA.rd.below hb).get k hk
      have hxl := (lim_limbs a).gl k
      obtain ⟨x, hx⟩ : ∃ x, gl (limbs a) k = x := ⟨_, rfl⟩
      rw [hx] at hcx hxl
      obtain ⟨q, hq⟩ : ∃ q, q = a / 4294967296 ^ (k + 1) := ⟨_, rfl⟩
      obtain ⟨r, hr⟩ : ∃ r, r = q % 3 := ⟨_, rfl⟩
      have hm := third_math a k x q r hq (by rw [← hx, limbs_gl]) hr
      rw [← hq] at hval
      rw [← hq, ← hr]
      have hr3 : r < 3 := by omega
      have hor := or64 r x (by omega) hxl
      obtain ⟨t, ht⟩ : ∃ t, r * 4294967296 + x = t := ⟨_, rfl⟩
      rw [ht] at hor hm
      have htb : t < 12884901888 := by omega
      have HM := Lib.hid hm
      have HX := Lib.hid hx
      have HQ := Lib.hid hq
      have HR := Lib.hid hr
      have HT := Lib.hid ht
      clear hm hx hq hr ht
      have hcell : wr.cell? ⟨w.heap.size, k, none⟩ = some (.int .u32 (gl L k : Nat)) := by
        rw [hown.cellAt k (by omega), vals_get L _ (by rw [hlen.out]; omega)]
      have hfo := hown.frozenAt k
      go_wp2_with (fail)
      go_roundw
      case rel =>
        have ed : ((t : Int) / 3) = ((t / 3 : Nat) : Int) := by omega
        have em : ((t : Int) % 3) = ((t % 3 : Nat) : Int) := by omega
        rw [ed, em]
        obtain ⟨r1, r2⟩ := hown.stored k (.int .u32 ((t / 3 : Nat) : Int))
        have hM : k < L.length := by rw [hlen.out]; omega
        refine ⟨k, L.set k (t / 3), rfl, by rw [HM.out.2], by omega, hb.setCell (p := ⟨w.heap.size, k, none⟩) (Nat.le_refl _) _, by rw [vals_set]; exact r1, Lib.hid (by simp [hlen.out]), hlim.set _ _ (by omega), Lib.hid ?_, Lib.hid ?_⟩
        · have hs := val_set k (t / 3) hM
          rw [← gl_eq, hz.out k (by omega), Nat.mul_zero, Nat.add_zero, hval.out, Nat.pow_succ] at hs
          rw [hs, HM.out.1]
          grind
        · intro j hj
          rw [gl_set_ne (by omega)]
          exact hz.out j (by omega)
      case measure => simp [intOf] <;> omega

/-- The array of three naturals. -/
def arr3 (X : Option Addr) (cx x : Nat) (Y : Option Addr) (cy y : Nat) (Z : Option Addr) (cz z : Nat) : Value := .agg #[.slice X (nl x) cx, .slice Y (nl y) cy, .slice Z (nl z) cz]

theorem at_cells {W : World} {b : Nat} {u0 u1 u2 : Value} {t : TypeId} (h : W.heap[b]? = some (.cells #[u0, u1, u2] t (0, 0))) :
    (W.cell? ⟨b, 0, none⟩ = some u0 ∧ W.cell? ⟨b, 1, none⟩ = some u1 ∧ W.cell? ⟨b, 2, none⟩ = some u2) ∧ W.frozen? ⟨b, 0, none⟩ = false ∧ W.frozen? ⟨b, 1, none⟩ = false ∧ W.frozen? ⟨b, 2, none⟩ = false := by
  simp [World.cell?, World.frozen?, h]

/-- Limbs that are read lie in no block that holds slices: they are there when that one is written. -/
theorem Rd.apart {W W' : World} {A : Option Addr} {l : List Nat} {s : Nat} (h : Rd W A l) (hp : ∀ q : Addr, q.block = s → ∀ x : Nat, W.cell? q ≠ some (.int .u32 (x : Nat))) (hk : ∀ k, k ≠ s → W'.heap[k]? = W.heap[k]?) : Rd W' A l := by
  rcases h with h | ⟨ad, rfl, h⟩
  · exact .inl h
  · refine .inr ⟨ad, rfl, fun i u hu => ?_⟩
    have h1 := h i u hu
    obtain ⟨hi, hu2⟩ := List.getElem?_eq_some_iff.1 hu
    have hil : i < l.length := by simpa [vals] using hi
    rw [vals_get l i hil] at hu
    cases hu
    have hne : (ad.add i).block ≠ s := fun e => hp _ e _ h1
    rw [World.cell?_of_block (w := W) (a := ad.add i) (hk _ hne)]
    exact h1
theorem NatV.apart {W W' : World} {A : Option Addr} {c n s : Nat} (h : NatV W A c n) (hp : ∀ q : Addr, q.block = s → ∀ x : Nat, W.cell? q ≠ some (.int .u32 (x : Nat))) (hk : ∀ k, k ≠ s → W'.heap[k]? = W.heap[k]?) : NatV W' A c n := ⟨h.rd.apart hp hk, h.cap, h.cmax⟩
theorem slices_apart {W : World} {s : Nat} {A0 A1 A2 : Option Addr} {n0 n1 n2 c0 c1 c2 : Nat} {t : TypeId} (h : W.heap[s]? = some (.cells #[.slice A0 n0 c0, .slice A1 n1 c1, .slice A2 n2 c2] t (0, 0))) :
    ∀ q : Addr, q.block = s → ∀ x : Nat, W.cell? q ≠ some (.int .u32 (x : Nat)) := by
  intro q hq x
  subst hq
  unfold World.cell?
  rw [h]
  simp only
  split
  · simp
  · rcases hq : q.off with _ | _ | _ | k <;> simp

theorem three_made {W : World} {s : Nat} {a0 a1 a2 u0 u1 u2 : Value} {t : TypeId} (h : W.heap[s]? = some (.cells #[a0, a1, a2] t (0, 0))) :
    (W.setCell ⟨s, 0, none⟩ u0).cell? ⟨s, 0, none⟩ = some u0 ∧ ((W.setCell ⟨s, 0, none⟩ u0).setCell ⟨s, 1, none⟩ u1).cell? ⟨s, 1, none⟩ = some u1 ∧ (((W.setCell ⟨s, 0, none⟩ u0).setCell ⟨s, 1, none⟩ u1).setCell ⟨s, 2, none⟩ u2).cell? ⟨s, 2, none⟩ = some u2 := by
  have h0 := heap_setCell_same W s 0 _ _ u0 h
  have h1 := heap_setCell_same _ s 1 _ _ u1 h0
  have h2 := heap_setCell_same _ s 2 _ _ u2 h1
  refine ⟨?_, ?_, ?_⟩
  · unfold World.cell?; rw [h0]; simp
  · unfold World.cell?; rw [h1]; simp
  · unfold World.cell?; rw [h2]; simp

theorem three_cells {w W : World} {u0 u1 u2 : Value} (h : Below w.heap.size w W) : Below w.heap.size w (((W.setCell ⟨w.heap.size, 0, none⟩ u0).setCell ⟨w.heap.size, 1, none⟩ u1).setCell ⟨w.heap.size, 2, none⟩ u2) :=
  ((h.setCell (p := ⟨w.heap.size, 0, none⟩) (Nat.le_refl _) _).setCell (p := ⟨w.heap.size, 1, none⟩) (Nat.le_refl _) _).setCell (p := ⟨w.heap.size, 2, none⟩) (Nat.le_refl _) _

theorem cut3_c (A : Option Addr) (c a k m Bk Bn : Nat) (w : World) (hA : NatV w A c a) (ha : nl a ≤ 1073741824) (hk : w.cell? ⟨Bk, 0, none⟩ = some (.int .i64 k)) (hm : w.cell? ⟨Bn, 0, none⟩ = some (.int .i64 ((2 * k + m : Nat) : Int))) (hkm : 2 * k + m ≤ 1073741824) :
    Calls Tryz.prog 149 #[.slice A (nl a) c, .pointer (some ⟨Bk, 0, none⟩), .pointer (some ⟨Bn, 0, none⟩)] w fun e w' => ∃ X cx Y cy Z cz, e = .returned (arr3 X cx (cut a 0 k) Y cy (cut a k k) Z cz (cut a (2 * k) m)) ∧
      NatV w' X cx (cut a 0 k) ∧ NatV w' Y cy (cut a k k) ∧ NatV w' Z cz (cut a (2 * k) m) ∧ Below w.heap.size w w' := by
  have p1 : ∀ W, NatV W A c a → Calls Tryz.prog 146 #[.slice A (nl a) c, .int .i64 0, .int .i64 (k : Int)] W (RetN W (cut a 0 k)) := fun W h => part_e A c a _ _ 0 k W h ha (by omega) (by omega) (by omega)
  have p2 : ∀ W, NatV W A c a → Calls Tryz.prog 146 #[.slice A (nl a) c, .int .i64 (k : Int), .int .i64 (2 * (k : Int))] W (RetN W (cut a k k)) := fun W h => part_e A c a _ _ k k W h ha (by omega) (by omega) (by omega)
  have p3 : ∀ W, NatV W A c a → Calls Tryz.prog 146 #[.slice A (nl a) c, .int .i64 (2 * (k : Int)), .int .i64 ((2 * k + m : Nat) : Int)] W (RetN W (cut a (2 * k) m)) := fun W h => part_e A c a _ _ (2 * k) m W h ha (by omega) (by omega) (by omega)
  have P1 := Lib.hid p1
  have P2 := Lib.hid p2
  have P3 := Lib.hid p3
  obtain ⟨s, hs⟩ : ∃ s, s = 2 * k + m := ⟨_, rfl⟩
  rw [← hs] at hm P3 hkm
  have HS := Lib.hid hs
  have z1 : IntKind.i64.wrap (2 * (k : Int)) = 2 * (k : Int) := IntWalk.i64_in _ (by omega)
  clear p1 p2 p3 hs
  go_enter Tryz.func149, Tryz.ntmps149
  have hb0 : Below w.heap.size w (w.alloc (.cells #[.slice none 0 0, .slice none 0 0, .slice none 0 0] 139)) := (Below.refl _ _).alloc (Nat.le_refl _) _
  have hA0 := hA.below hb0.drew
  have hr0 : ((w.alloc (.cells #[.slice none 0 0, .slice none 0 0, .slice none 0 0] 139)).drew).heap[w.heap.size]? = some (.cells #[.slice none 0 0, .slice none 0 0, .slice none 0 0] 139 (0, 0)) := heap_alloc_new w _
  have hlt0 : w.heap.size < ((w.alloc (.cells #[.slice none 0 0, .slice none 0 0, .slice none 0 0] 139)).drew).heap.size := by show _ < (w.alloc _).heap.size; simp
  have hlt1 : ∀ {W1 : World}, Below ((w.alloc (.cells #[.slice none 0 0, .slice none 0 0, .slice none 0 0] 139)).drew).heap.size ((w.alloc (.cells #[.slice none 0 0, .slice none 0 0, .slice none 0 0] 139)).drew) W1 → w.heap.size < W1.heap.size := fun h => Nat.lt_of_lt_of_le hlt0 h.size
  have hlt2 : ∀ {W1 W2 : World}, Below ((w.alloc (.cells #[.slice none 0 0, .slice none 0 0, .slice none 0 0] 139)).drew).heap.size ((w.alloc (.cells #[.slice none 0 0, .slice none 0 0, .slice none 0 0] 139)).drew) W1 → Below W1.heap.size W1 W2 → w.heap.size < W2.heap.size := fun h k => Nat.lt_of_lt_of_le (hlt1 h) k.size
  have KQ := fun {W : World} {u0 u1 u2 : Value} (h : Below w.heap.size w W) => three_cells (u0 := u0) (u1 := u1) (u2 := u2) h
  have hkne : Bk ≠ w.heap.size := by have := World.block_lt_of_cell? w _ hk; simp at this; omega
  have hmne : Bn ≠ w.heap.size := by have := World.block_lt_of_cell? w _ hm; simp at this; omega
  have hk0 := cbl hb0.drew hk
  have hm0 := cbl hb0.drew hm
  go_wp2_with (fail)
  go_region_held3 (fun W => W.cell? ⟨Bk, 0, none⟩ = some (.int .i64 (k : Int)) ∧ W.cell? ⟨Bn, 0, none⟩ = some (.int .i64 (s : Int)) ∧ NatV W A c a)
    (first
      | exact ⟨hk0, hm0, hA0⟩
      | go_keep
      | exact ⟨cell_below (KQ hbt3) hk, cell_below (KQ hbt3) hm, hA.below (KQ hbt3)⟩
      | exact ⟨hk3, hm3, hA3⟩
      | exact ⟨hk2, hm2, hA2⟩
      | exact ⟨hk1, hm1, hA1⟩)
    (first
      | (go_at_call 146; (with_reducible refine (P1.out _ hA0).mono ?_); rintro e W1 ⟨X, cx, rfl, hX, hb1⟩; have hA1 := hA0.below hb1; have hk1 := cbl hb1 hk0; have hm1 := cbl hb1 hm0)
      | (go_at_call 146; (with_reducible refine (P2.out _ hA1).mono ?_); rintro e W2 ⟨Y, cy, rfl, hY, hb2⟩; have hA2 := hA1.below hb2; have hk2 := cbl hb2 hk1; have hm2 := cbl hb2 hm1)
      | (go_at_call 146; (with_reducible refine (P3.out _ hA2).mono ?_); rintro e W3 ⟨Z, cz, rfl, hZ, hb3⟩; have hA3 := hA2.below hb3; have hk3 := cbl hb3 hk2; have hm3 := cbl hb3 hm2; have hbt3 := ((hb0.drew.cons hb1).cons hb2).cons hb3; have hR3 := (((hb3.block _ (hlt2 hb1 hb2)).trans ((hb2.block _ (hlt1 hb1)).trans ((hb1.block _ hlt0).trans hr0)))); have hr3 := at_cells hR3; obtain ⟨⟨q0, q1, q2⟩, f0, f1, f2⟩ := hr3))
  go_wp2_with (fail)
  have hk : ∀ j, j ≠ w.heap.size → (((W3.setCell ⟨w.heap.size, 0, none⟩ (.slice X (nl (cut a 0 k)) cx)).setCell ⟨w.heap.size, 1, none⟩ (.slice Y (nl (cut a k k)) cy)).setCell ⟨w.heap.size, 2, none⟩ (.slice Z (nl (cut a (2 * k) m)) cz)).heap[j]? = W3.heap[j]? := fun j hj => by
    rw [Below.heap_setCell _ _ _ _ (by simpa using hj), Below.heap_setCell _ _ _ _ (by simpa using hj), Below.heap_setCell _ _ _ _ (by simpa using hj)]
  have hp := slices_apart hR3
  obtain ⟨e0, e1, e2⟩ := three_made (u0 := .slice X (nl (cut a 0 k)) cx) (u1 := .slice Y (nl (cut a k k)) cy) (u2 := .slice Z (nl (cut a (2 * k) m)) cz) hR3
  refine bodyPost_ret (v := arr3 X cx (cut a 0 k) Y cy (cut a k k) Z cz (cut a (2 * k) m)) (by simp [results, Tryz.results149, go_sem, arr3, e0, e1, e2]) rfl ⟨X, cx, Y, cy, Z, cz, rfl, ((hX.below hb2).below hb3).apart hp hk, (hY.below hb3).apart hp hk, hZ.apart hp hk, KQ hbt3⟩
end Go.Proofs.YtacjfpibilolnaaGreatDoor
