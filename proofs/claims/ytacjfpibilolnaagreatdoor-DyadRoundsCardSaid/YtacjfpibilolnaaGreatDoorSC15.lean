/- Whole numbers, walked: Add. -/
import Derived.Test.YtacjfpibilolnaaGreatDoorSC13
import Derived.Test.YtacjfpibilolnaaGreatDoorSC07
import Derived.WalkMore
set_option maxRecDepth 100000
set_option maxHeartbeats 4000000
set_option linter.unusedVariables false
set_option linter.unusedSimpArgs false
namespace Go.Proofs.YtacjfpibilolnaaGreatDoor
open Go.RowKit Go.Shelf
attribute [local go_sem] max2_i min2_i max_two min_two

theorem BoxA.other2 {W : World} {j k : Nat} {t : TypeId} {us : Array Value} {v0 v1 : Value} (h : BoxA W j t us) (hne : j ≠ k) : BoxA ((W.setCell ⟨k, 0, none⟩ v0).setCell ⟨k, 1, none⟩ v1) j t us := ⟨(set2_far j hne).trans h.at_⟩
theorem BoxA.other3 {W : World} {j k : Nat} {t : TypeId} {us : Array Value} {v0 v1 v2 : Value} (h : BoxA W j t us) (hne : j ≠ k) : BoxA (((W.setCell ⟨k, 0, none⟩ v0).setCell ⟨k, 1, none⟩ v1).setCell ⟨k, 2, none⟩ v2) j t us := ⟨(set3_far j hne).trans h.at_⟩
theorem ival_add {a b : Int} (h : sg a = sg b) : ival (sg a) (mg a + mg b) = a + b := by
  unfold sg at h; unfold ival sg mg
  simp only [decide_eq_decide] at h
  by_cases ha : a < 0
  · have := h.1 ha; simp [ha]; omega
  · have : ¬ b < 0 := fun e => ha (h.2 e); simp [ha]; omega
theorem ival_sub {a b : Int} (h : sg a ≠ sg b) (hl : mg b ≤ mg a) : ival (sg a) (mg a - mg b) = a + b := by
  unfold sg at h; unfold mg at hl; unfold ival sg mg
  by_cases ha : a < 0
  · have : ¬ b < 0 := fun e => h (by simp [ha, e]); simp [ha]; omega
  · have : b < 0 := Decidable.byContradiction fun e => h (by simp [ha, e]); simp [ha]; omega
theorem iadd_same (aA : Option Addr) (ac : Nat) (a : Int) (bA : Option Addr) (bc : Nat) (b : Int) (w : World) (ha : NatV w aA ac (mg a)) (hb : NatV w bA bc (mg b)) (la : nl (mg a) ≤ 1048576) (lb : nl (mg b) ≤ 1048576) (hs : sg a = sg b) :
    Calls Tryz.prog 91 #[.agg #[.bool (sg a), .slice aA (nl (mg a)) ac], .agg #[.bool (sg b), .slice bA (nl (mg b)) bc]] w (RetI w (a + b)) := by
  have t1 : (sg a == sg b) = true := beq_iff_eq.mpr hs
  have hv := ival_add hs
  replace hv := Lib.hid hv
  replace hs := Lib.hid hs
  have hb1 : Below (w).heap.size (w) (((w.alloc (.cells #[.bool (sg a), .slice aA (nl (mg a)) ac] 24)).alloc (.cells #[.bool (sg b), .slice bA (nl (mg b)) bc] 24)).alloc (.cells #[.bool false, .slice none 0 0] 24)) := (Below.alloc (Below.alloc (Below.alloc (Below.refl _ _) (Nat.le_refl _) _) (by simp <;> omega) _) (by simp <;> omega) _)
  replace ha := ha.below hb1
  replace hb := hb.below hb1
  have HBT := hb1
  clear hb1
  have Ra : BoxA (((w.alloc (.cells #[.bool (sg a), .slice aA (nl (mg a)) ac] 24)).alloc (.cells #[.bool (sg b), .slice bA (nl (mg b)) bc] 24)).alloc (.cells #[.bool false, .slice none 0 0] 24)) w.heap.size 24 #[.bool (sg a), .slice aA (nl (mg a)) ac] := ⟨by repeat (first | exact at_new (by simp) | refine at_old (by simp <;> omega) ?_)⟩
  have qa0 := Ra.c (i := 0) rfl
  have qa1 := Ra.c (i := 1) rfl
  have Rb : BoxA (((w.alloc (.cells #[.bool (sg a), .slice aA (nl (mg a)) ac] 24)).alloc (.cells #[.bool (sg b), .slice bA (nl (mg b)) bc] 24)).alloc (.cells #[.bool false, .slice none 0 0] 24)) (w.heap.size + 1) 24 #[.bool (sg b), .slice bA (nl (mg b)) bc] := ⟨by repeat (first | exact at_new (by simp) | refine at_old (by simp <;> omega) ?_)⟩
  have qb0 := Rb.c (i := 0) rfl
  have qb1 := Rb.c (i := 1) rfl
  have Rr : BoxA (((w.alloc (.cells #[.bool (sg a), .slice aA (nl (mg a)) ac] 24)).alloc (.cells #[.bool (sg b), .slice bA (nl (mg b)) bc] 24)).alloc (.cells #[.bool false, .slice none 0 0] 24)) (w.heap.size + 2) 24 #[.bool false, .slice none 0 0] := ⟨by repeat (first | exact at_new (by simp) | refine at_old (by simp <;> omega) ?_)⟩
  have qr0 := Rr.c (i := 0) rfl
  have qr1 := Rr.c (i := 1) rfl
  go_enter Tryz.func91, Tryz.ntmps91
  go_wp2_with (fail)
  have hd2 := drb ((((w.alloc (.cells #[.bool (sg a), .slice aA (nl (mg a)) ac] 24)).alloc (.cells #[.bool (sg b), .slice bA (nl (mg b)) bc] 24)).alloc (.cells #[.bool false, .slice none 0 0] 24)))
  replace ha := ha.below hd2
  replace hb := hb.below hd2
  replace Ra := Ra.below hd2
  replace qa0 := cbl hd2 qa0
  replace qa1 := cbl hd2 qa1
  replace Rb := Rb.below hd2
  replace qb0 := cbl hd2 qb0
  replace qb1 := cbl hd2 qb1
  replace Rr := Rr.below hd2
  replace qr0 := cbl hd2 qr0
  replace qr1 := cbl hd2 qr1
  replace HBT := Below.cons HBT hd2
  clear hd2
  obtain ⟨n, En⟩ : ∃ zq : Nat, zq = mg a + mg b := ⟨_, rfl⟩
  have Bn : nl n ≤ 2097154 := by rw [En]; have := nl_add (mg a) (mg b); omega
  have C2_0 := fun (W : World) (h1 : NatV W aA ac (mg a)) (h2 : NatV W bA bc (mg b)) => add_c aA ac (mg a) bA bc (mg b) W h1 h2 (by omega) (by omega)
  simp only [← En] at C2_0
  replace En := Lib.hid En
  replace C2_0 := Lib.hid C2_0
  obtain ⟨z, Ez⟩ : ∃ zq : Int, zq = ival (sg a) n := ⟨_, rfl⟩
  have C2_1 := fun (W : World) (A : Option Addr) (c : Nat) (h1 : NatV W A c n) => imake_c (sg a) A c n W h1 (by omega)
  simp only [← Ez] at C2_1
  replace Ez := Lib.hid Ez
  replace C2_1 := Lib.hid C2_1
  go_region_held3 (fun W => W.cell? ⟨w.heap.size, 0, none⟩ = some (.bool (sg a)) ∧ W.cell? ⟨w.heap.size, 1, none⟩ = some (.slice aA (nl (mg a)) ac) ∧ W.cell? ⟨(w.heap.size + 1), 1, none⟩ = some (.slice bA (nl (mg b)) bc))
    (first
      | exact ⟨qa0, qa1, qb1⟩
      | exact ⟨qa0_3, qa1_3, qb1_3⟩
      | exact ⟨qa0_4, qa1_4, qb1_4⟩
      | exact ⟨((Ra_4.other2 (by simp <;> omega)).c (i := 0) rfl), ((Ra_4.other2 (by simp <;> omega)).c (i := 1) rfl), ((Rb_4.other2 (by simp <;> omega)).c (i := 1) rfl)⟩
      | go_keep)
    (first
      | (go_at_call 107; (with_reducible refine (C2_0.out _ ha hb).mono ?_); rintro e W3 ⟨Xn, cn, rfl, hn, hb3⟩; have ha_3 := ha.below hb3; have hb_3 := hb.below hb3; have Ra_3 := Ra.below hb3; have qa0_3 := cbl hb3 qa0; have qa1_3 := cbl hb3 qa1; have Rb_3 := Rb.below hb3; have qb0_3 := cbl hb3 qb0; have qb1_3 := cbl hb3 qb1; have Rr_3 := Rr.below hb3; have qr0_3 := cbl hb3 qr0; have qr1_3 := cbl hb3 qr1; have HBT_3 := Below.cons HBT hb3)
      | (go_at_call 64; (with_reducible refine (C2_1.out _ _ _ hn).mono ?_); rintro e W4 ⟨Xz, cz, rfl, hz, hb4⟩; have ha_4 := ha_3.below hb4; have hb_4 := hb_3.below hb4; have Ra_4 := Ra_3.below hb4; have qa0_4 := cbl hb4 qa0_3; have qa1_4 := cbl hb4 qa1_3; have Rb_4 := Rb_3.below hb4; have qb0_4 := cbl hb4 qb0_3; have qb1_4 := cbl hb4 qb1_3; have Rr_4 := Rr_3.below hb4; have qr0_4 := cbl hb4 qr0_3; have qr1_4 := cbl hb4 qr1_3; have hn_4 := hn.below hb4; have HBT_4 := Below.cons HBT_3 hb4; have fz0 := Rr_4.f (i := 0); have fz1 := Rr_4.f (i := 1)))
  all_goals (try go_wp2_with (fail))
  have hz : z = a + b := by rw [Ez.out, En.out]; exact hv.out
  subst hz
  have RS := Rr_4.store2 (.bool (sg ((a + b)))) (.slice Xz (nl (mg ((a + b)))) cz)
  have e0 := RS.c (i := 0) rfl
  have e1 := RS.c (i := 1) rfl
  refine bodyPost_ret (v := .agg #[.bool (sg ((a + b))), .slice Xz (nl (mg ((a + b)))) cz]) (by simp [results, Tryz.results91, go_sem, e0, e1]) rfl ?_
  exact ⟨Xz, cz, rfl, (Rr_4.keep2 (nuB rfl) hz), (Below.store2 HBT_4 (by first | exact Nat.le_refl _ | omega))⟩
theorem iadd_apart (aA : Option Addr) (ac : Nat) (a : Int) (bA : Option Addr) (bc : Nat) (b : Int) (w : World) (ha : NatV w aA ac (mg a)) (hb : NatV w bA bc (mg b)) (la : nl (mg a) ≤ 1048576) (lb : nl (mg b) ≤ 1048576) (hs : sg a ≠ sg b) :
    Calls Tryz.prog 91 #[.agg #[.bool (sg a), .slice aA (nl (mg a)) ac], .agg #[.bool (sg b), .slice bA (nl (mg b)) bc]] w (RetI w (a + b)) := by
  have t1 : (sg a == sg b) = false := beq_eq_false_iff_ne.mpr hs
  have hb1 : Below (w).heap.size (w) (((w.alloc (.cells #[.bool (sg a), .slice aA (nl (mg a)) ac] 24)).alloc (.cells #[.bool (sg b), .slice bA (nl (mg b)) bc] 24)).alloc (.cells #[.bool false, .slice none 0 0] 24)) := (Below.alloc (Below.alloc (Below.alloc (Below.refl _ _) (Nat.le_refl _) _) (by simp <;> omega) _) (by simp <;> omega) _)
  replace ha := ha.below hb1
  replace hb := hb.below hb1
  have HBT := hb1
  clear hb1
  have Ra : BoxA (((w.alloc (.cells #[.bool (sg a), .slice aA (nl (mg a)) ac] 24)).alloc (.cells #[.bool (sg b), .slice bA (nl (mg b)) bc] 24)).alloc (.cells #[.bool false, .slice none 0 0] 24)) w.heap.size 24 #[.bool (sg a), .slice aA (nl (mg a)) ac] := ⟨by repeat (first | exact at_new (by simp) | refine at_old (by simp <;> omega) ?_)⟩
  have qa0 := Ra.c (i := 0) rfl
  have qa1 := Ra.c (i := 1) rfl
  have Rb : BoxA (((w.alloc (.cells #[.bool (sg a), .slice aA (nl (mg a)) ac] 24)).alloc (.cells #[.bool (sg b), .slice bA (nl (mg b)) bc] 24)).alloc (.cells #[.bool false, .slice none 0 0] 24)) (w.heap.size + 1) 24 #[.bool (sg b), .slice bA (nl (mg b)) bc] := ⟨by repeat (first | exact at_new (by simp) | refine at_old (by simp <;> omega) ?_)⟩
  have qb0 := Rb.c (i := 0) rfl
  have qb1 := Rb.c (i := 1) rfl
  have Rr : BoxA (((w.alloc (.cells #[.bool (sg a), .slice aA (nl (mg a)) ac] 24)).alloc (.cells #[.bool (sg b), .slice bA (nl (mg b)) bc] 24)).alloc (.cells #[.bool false, .slice none 0 0] 24)) (w.heap.size + 2) 24 #[.bool false, .slice none 0 0] := ⟨by repeat (first | exact at_new (by simp) | refine at_old (by simp <;> omega) ?_)⟩
  have qr0 := Rr.c (i := 0) rfl
  have qr1 := Rr.c (i := 1) rfl
  go_enter Tryz.func91, Tryz.ntmps91
  go_wp2_with (fail)
  refine (Calls.mono (cmp_c aA ac (mg a) bA bc (mg b) _ ha hb (by omega) (by omega)) ?_)
  rintro e W2 ⟨rfl, hb2⟩
  replace ha := ha.below hb2
  replace hb := hb.below hb2
  replace Ra := Ra.below hb2
  replace qa0 := cbl hb2 qa0
  replace qa1 := cbl hb2 qa1
  replace Rb := Rb.below hb2
  replace qb0 := cbl hb2 qb0
  replace qb1 := cbl hb2 qb1
  replace Rr := Rr.below hb2
  replace qr0 := cbl hb2 qr0
  replace qr1 := cbl hb2 qr1
  replace HBT := Below.cons HBT hb2
  clear hb2
  by_cases hl : mg a < mg b
  · have t2 : decide (cmpN (mg a) (mg b) < 0) = true := by rw [decide_eq_true_eq, cmpN_neg]; exact hl
    have hle : mg a ≤ mg b := Nat.le_of_lt hl
    have hv := ival_sub (fun e => hs e.symm) hle
    replace hv := Lib.hid hv
    replace hl := Lib.hid hl
    have fa0_3 := Ra.f (i := 0)
    have fa1_3 := Ra.f (i := 1)
    have Ra_3 := Ra.store2 (.bool (sg b)) (.slice bA (nl (mg b)) bc)
    have Rb_3 : BoxA ((W2.setCell ⟨w.heap.size, 0, none⟩ (.bool (sg b))).setCell ⟨w.heap.size, 1, none⟩ (.slice bA (nl (mg b)) bc)) _ _ _ := Rb.other2 (by simp <;> omega)
    have Rr_3 : BoxA ((W2.setCell ⟨w.heap.size, 0, none⟩ (.bool (sg b))).setCell ⟨w.heap.size, 1, none⟩ (.slice bA (nl (mg b)) bc)) _ _ _ := Rr.other2 (by simp <;> omega)
    have ha_3 := Ra.keep2 (v0 := .bool (sg b)) (v1 := .slice bA (nl (mg b)) bc) (nuB rfl) ha
    have hb_3 := Ra.keep2 (v0 := .bool (sg b)) (v1 := .slice bA (nl (mg b)) bc) (nuB rfl) hb
    have qa0_3 := Ra_3.c (i := 0) rfl
    have qa1_3 := Ra_3.c (i := 1) rfl
    have qb0_3 := Rb_3.c (i := 0) rfl
    have qb1_3 := Rb_3.c (i := 1) rfl
    have qr0_3 := Rr_3.c (i := 0) rfl
    have qr1_3 := Rr_3.c (i := 1) rfl
    have HBT_3 := Below.store2 (v0 := .bool (sg b)) (v1 := .slice bA (nl (mg b)) bc) HBT (k := w.heap.size) (by first | exact Nat.le_refl _ | omega)
    have fb0_4 := Rb_3.f (i := 0)
    have fb1_4 := Rb_3.f (i := 1)
    have Ra_4 : BoxA ((((W2.setCell ⟨w.heap.size, 0, none⟩ (.bool (sg b))).setCell ⟨w.heap.size, 1, none⟩ (.slice bA (nl (mg b)) bc)).setCell ⟨(w.heap.size + 1), 0, none⟩ (.bool (sg a))).setCell ⟨(w.heap.size + 1), 1, none⟩ (.slice aA (nl (mg a)) ac)) _ _ _ := Ra_3.other2 (by simp <;> omega)
    have Rb_4 := Rb_3.store2 (.bool (sg a)) (.slice aA (nl (mg a)) ac)
    have Rr_4 : BoxA ((((W2.setCell ⟨w.heap.size, 0, none⟩ (.bool (sg b))).setCell ⟨w.heap.size, 1, none⟩ (.slice bA (nl (mg b)) bc)).setCell ⟨(w.heap.size + 1), 0, none⟩ (.bool (sg a))).setCell ⟨(w.heap.size + 1), 1, none⟩ (.slice aA (nl (mg a)) ac)) _ _ _ := Rr_3.other2 (by simp <;> omega)
    have ha_4 := Rb_3.keep2 (v0 := .bool (sg a)) (v1 := .slice aA (nl (mg a)) ac) (nuB rfl) ha_3
    have hb_4 := Rb_3.keep2 (v0 := .bool (sg a)) (v1 := .slice aA (nl (mg a)) ac) (nuB rfl) hb_3
    have qa0_4 := Ra_4.c (i := 0) rfl
    have qa1_4 := Ra_4.c (i := 1) rfl
    have qb0_4 := Rb_4.c (i := 0) rfl
    have qb1_4 := Rb_4.c (i := 1) rfl
    have qr0_4 := Rr_4.c (i := 0) rfl
    have qr1_4 := Rr_4.c (i := 1) rfl
    have HBT_4 := Below.store2 (v0 := .bool (sg a)) (v1 := .slice aA (nl (mg a)) ac) HBT_3 (k := (w.heap.size + 1)) (by first | exact Nat.le_refl _ | omega)
    go_wp2_with (fail)
    clear fa0_3 fa1_3 Ra Rb Rr ha hb qa0 qa1 qb0 qb1 qr0 qr1 HBT fb0_4 fb1_4 Ra_3 Rb_3 Rr_3 ha_3 hb_3 qa0_3 qa1_3 qb0_3 qb1_3 qr0_3 qr1_3 HBT_3
    obtain ⟨n, En⟩ : ∃ zq : Nat, zq = mg b - mg a := ⟨_, rfl⟩
    have Bn : nl n ≤ 1048576 := by rw [En]; have := nl_sub (mg b) (mg a); omega
    have CS := sub_c bA bc (mg b) aA ac (mg a) _ hb_4 ha_4 (by omega) (by omega) hle
    rw [← En] at CS
    replace En := Lib.hid En
    refine (Calls.mono CS ?_)
    rintro e W5 ⟨Xn, cn, rfl, hn, hb5⟩
    clear CS
    replace Ra_4 := Ra_4.below hb5
    replace Rb_4 := Rb_4.below hb5
    replace Rr_4 := Rr_4.below hb5
    replace ha_4 := ha_4.below hb5
    replace hb_4 := hb_4.below hb5
    replace qa0_4 := cbl hb5 qa0_4
    replace qa1_4 := cbl hb5 qa1_4
    replace qb0_4 := cbl hb5 qb0_4
    replace qb1_4 := cbl hb5 qb1_4
    replace qr0_4 := cbl hb5 qr0_4
    replace qr1_4 := cbl hb5 qr1_4
    have HBT := Below.cons HBT_4 hb5
    clear hb5
    go_wp2_with (fail)
    obtain ⟨z, Ez⟩ : ∃ zq : Int, zq = ival (sg b) n := ⟨_, rfl⟩
    refine (Calls.mono (R := RetI W5 z) (by rw [Ez]; exact (imake_c (sg b) Xn cn n _ hn (by omega))) ?_)
    replace Ez := Lib.hid Ez
    rintro e W6 ⟨Xz, cz, rfl, hz, hb6⟩
    replace Ra_4 := Ra_4.below hb6
    replace Rb_4 := Rb_4.below hb6
    replace Rr_4 := Rr_4.below hb6
    replace ha_4 := ha_4.below hb6
    replace hb_4 := hb_4.below hb6
    replace qa0_4 := cbl hb6 qa0_4
    replace qa1_4 := cbl hb6 qa1_4
    replace qb0_4 := cbl hb6 qb0_4
    replace qb1_4 := cbl hb6 qb1_4
    replace qr0_4 := cbl hb6 qr0_4
    replace qr1_4 := cbl hb6 qr1_4
    replace hn := hn.below hb6
    replace HBT := Below.cons HBT hb6
    clear hb6
    have fz0 := Rr_4.f (i := 0)
    have fz1 := Rr_4.f (i := 1)
    go_wp2_with (fail)
    have hz : z = a + b := by rw [Ez.out, En.out]; exact hv.out.trans (Int.add_comm b a)
    subst hz
    have RS := Rr_4.store2 (.bool (sg ((a + b)))) (.slice Xz (nl (mg ((a + b)))) cz)
    have e0 := RS.c (i := 0) rfl
    have e1 := RS.c (i := 1) rfl
    refine bodyPost_ret (v := .agg #[.bool (sg ((a + b))), .slice Xz (nl (mg ((a + b)))) cz]) (by simp [results, Tryz.results91, go_sem, e0, e1]) rfl ?_
    exact ⟨Xz, cz, rfl, (Rr_4.keep2 (nuB rfl) hz), (Below.store2 HBT (by first | exact Nat.le_refl _ | omega))⟩
  · have t2 : decide (cmpN (mg a) (mg b) < 0) = false := by rw [decide_eq_false_iff_not, cmpN_neg]; exact hl
    have hle : mg b ≤ mg a := by omega
    have hv := ival_sub hs hle
    replace hv := Lib.hid hv
    replace hl := Lib.hid hl
    go_wp2_with (fail)
    obtain ⟨n, En⟩ : ∃ zq : Nat, zq = mg a - mg b := ⟨_, rfl⟩
    have Bn : nl n ≤ 1048576 := by rw [En]; have := nl_sub (mg a) (mg b); omega
    have CS := sub_c aA ac (mg a) bA bc (mg b) _ ha hb (by omega) (by omega) hle
    rw [← En] at CS
    replace En := Lib.hid En
    refine (Calls.mono CS ?_)
    rintro e W3 ⟨Xn, cn, rfl, hn, hb3⟩
    clear CS
    replace ha := ha.below hb3
    replace hb := hb.below hb3
    replace Ra := Ra.below hb3
    replace qa0 := cbl hb3 qa0
    replace qa1 := cbl hb3 qa1
    replace Rb := Rb.below hb3
    replace qb0 := cbl hb3 qb0
    replace qb1 := cbl hb3 qb1
    replace Rr := Rr.below hb3
    replace qr0 := cbl hb3 qr0
    replace qr1 := cbl hb3 qr1
    replace HBT := Below.cons HBT hb3
    clear hb3
    go_wp2_with (fail)
    obtain ⟨z, Ez⟩ : ∃ zq : Int, zq = ival (sg a) n := ⟨_, rfl⟩
    refine (Calls.mono (R := RetI W3 z) (by rw [Ez]; exact (imake_c (sg a) Xn cn n _ hn (by omega))) ?_)
    replace Ez := Lib.hid Ez
    rintro e W4 ⟨Xz, cz, rfl, hz, hb4⟩
    replace ha := ha.below hb4
    replace hb := hb.below hb4
    replace Ra := Ra.below hb4
    replace qa0 := cbl hb4 qa0
    replace qa1 := cbl hb4 qa1
    replace Rb := Rb.below hb4
    replace qb0 := cbl hb4 qb0
    replace qb1 := cbl hb4 qb1
    replace Rr := Rr.below hb4
    replace qr0 := cbl hb4 qr0
    replace qr1 := cbl hb4 qr1
    replace hn := hn.below hb4
    replace HBT := Below.cons HBT hb4
    clear hb4
    have fz0 := Rr.f (i := 0)
    have fz1 := Rr.f (i := 1)
    go_wp2_with (fail)
    have hz : z = a + b := by rw [Ez.out, En.out]; exact hv.out
    subst hz
    have RS := Rr.store2 (.bool (sg ((a + b)))) (.slice Xz (nl (mg ((a + b)))) cz)
    have e0 := RS.c (i := 0) rfl
    have e1 := RS.c (i := 1) rfl
    refine bodyPost_ret (v := .agg #[.bool (sg ((a + b))), .slice Xz (nl (mg ((a + b)))) cz]) (by simp [results, Tryz.results91, go_sem, e0, e1]) rfl ?_
    exact ⟨Xz, cz, rfl, (Rr.keep2 (nuB rfl) hz), (Below.store2 HBT (by first | exact Nat.le_refl _ | omega))⟩
theorem iadd_c (aA : Option Addr) (ac : Nat) (a : Int) (bA : Option Addr) (bc : Nat) (b : Int) (w : World) (ha : NatV w aA ac (mg a)) (hb : NatV w bA bc (mg b)) (la : nl (mg a) ≤ 1048576) (lb : nl (mg b) ≤ 1048576) :
    Calls Tryz.prog 91 #[.agg #[.bool (sg a), .slice aA (nl (mg a)) ac], .agg #[.bool (sg b), .slice bA (nl (mg b)) bc]] w (RetI w (a + b)) := by
  by_cases h : sg a = sg b
  · exact iadd_same aA ac a bA bc b w ha hb la lb h
  · exact iadd_apart aA ac a bA bc b w ha hb la lb h
end Go.Proofs.YtacjfpibilolnaaGreatDoor

/- A third of a natural; its values at points; a natural cut into thirds. -/
set_option linter.unusedVariables false
set_option linter.unusedSimpArgs false
namespace Go.Proofs.YtacjfpibilolnaaGreatDoor
open Go.RowKit Go.Shelf
attribute [local go_sem] max2_i min2_i max_two min_two

theorem or64 (r x : Nat) (hr : r < 4294967296) (hx : x < 4294967296) : bits .or .u64 ((r : Int) * 4294967296) (x : Int) = ((r * 4294967296 + x : Nat) : Int) := by
  have e : ((r : Int) * 4294967296) = ((r * 4294967296 : Nat) : Int) := by simp
  rw [e, u64_or_nat _ _ (by omega) (by omega)]
  congr 1
  rw [Nat.mul_comm, show 4294967296 = 2 ^ 32 from rfl, ← Nat.two_pow_add_eq_or_of_lt (i := 32) (by omega)]





/-- Limbs that are read lie in no block that holds slices: they are there when that one is written. -/
theorem Rd.apart {W W' : World} {A : Option Addr} {l : List Nat} {s : Nat} (h : Rd W A l) (hp : ∀ q : Addr, q.block = s → ∀ x : Nat, W.cell? q ≠ some (.int .u32 (x : Nat))) (hk : ∀ k, k ≠ s → W'.heap[k]? = W.heap[k]?) : Rd W' A l := by
  rcases h with h | ⟨ad, rfl, h⟩
  · exact .inl h
  · refine .inr ⟨ad, rfl, fun i u hu => ?_⟩
    have h1 := h i u hu
    obtain ⟨hi, hu2⟩ := List.getElem?_eq_some_iff.1 hu
    have hil : i < l.length := by simpa [vals] using hi
    rw [vals_get l i hil] at hu
    cases hu
    have hne : (ad.add i).block ≠ s := fun e => hp _ e _ h1
    rw [World.cell?_of_block (w := W) (a := ad.add i) (hk _ hne)]
    exact h1
theorem NatV.apart {W W' : World} {A : Option Addr} {c n s : Nat} (h : NatV W A c n) (hp : ∀ q : Addr, q.block = s → ∀ x : Nat, W.cell? q ≠ some (.int .u32 (x : Nat))) (hk : ∀ k, k ≠ s → W'.heap[k]? = W.heap[k]?) : NatV W' A c n := ⟨h.rd.apart hp hk, h.cap, h.cmax⟩



end Go.Proofs.YtacjfpibilolnaaGreatDoor

/- Division by school, walked: a digit guessed. -/
set_option linter.unusedVariables false
set_option linter.unusedSimpArgs false
namespace Go.Proofs.YtacjfpibilolnaaGreatDoor
open Go.RowKit Go.Shelf
attribute [local go_sem] max2_i min2_i max_two min_two

theorem guess_c (x2 x1 x0 y1 y0 : Nat) (w : World) (h2 : x2 < 4294967296) (h1 : x1 < 4294967296) (h0 : x0 < 4294967296) (g1 : y1 < 4294967296) (g0 : y0 < 4294967296) (hy : 0 < y1) (hxy : x2 ≤ y1) :
    Calls Tryz.prog 143 #[.int .u32 x2, .int .u32 x1, .int .u32 x0, .int .u32 y1, .int .u32 y0] w fun e w' => e = .returned (.int .u64 (dig3 x2 x1 x0 y1 y0 : Nat)) ∧ Below w.heap.size w w' := by
  obtain ⟨t, ht⟩ : ∃ t, t = x2 * 4294967296 + x1 := ⟨_, rfl⟩
  have hor := or64 x2 x1 h2 h1
  rw [← ht] at hor
  have htl : t < 18446744073709551616 := by omega
  have h2I : (x2 : Int) < 4294967296 := by omega
  have h2J : (0 : Int) ≤ (x2 : Int) := by omega
  obtain ⟨q0, hq0⟩ : ∃ z, z = t / y1 := ⟨_, rfl⟩
  obtain ⟨r0, hr0⟩ : ∃ z, z = t % y1 := ⟨_, rfl⟩
  have hq0I : (t : Int) / (y1 : Int) = (q0 : Int) := by rw [hq0]; exact (Int.natCast_ediv t y1).symm
  have hr0I : (t : Int) % (y1 : Int) = (r0 : Int) := by rw [hr0]; exact (Int.natCast_emod t y1).symm
  have hq0T : (t : Int).tdiv (y1 : Int) = (q0 : Int) := by rw [Int.tdiv_eq_ediv_of_nonneg (by omega)]; exact hq0I
  have hr0T : (t : Int).tmod (y1 : Int) = (r0 : Int) := by rw [Int.tmod_eq_emod_of_nonneg (by omega)]; exact hr0I
  have hq0l : q0 < 18446744073709551616 := by rw [hq0]; exact Nat.lt_of_le_of_lt (Nat.div_le_self _ _) htl
  have hr0l : r0 < 4294967296 := by rw [hr0]; exact Nat.lt_trans (Nat.mod_lt _ hy) g1
  have hq0W : IntKind.u64.wrap (q0 : Int) = (q0 : Int) := IntWalk.u64_in _ (by omega)
  have hr0W : IntKind.u64.wrap (r0 : Int) = (r0 : Int) := IntWalk.u64_in _ (by omega)
  have htW : IntKind.u64.wrap (t : Int) = (t : Int) := IntWalk.u64_in _ (by omega)
  have hyW : IntKind.u64.wrap (y1 : Int) = (y1 : Int) := IntWalk.u64_in _ (by omega)
  have hz : ((y1 : Int) == 0) = false := ieqF (by omega)
  have hz2 : ¬ (y1 : Int) = 0 := by omega
  have hz3 : ¬ y1 = 0 := by omega
  obtain ⟨D, hD⟩ : ∃ D, D = dig3 x2 x1 x0 y1 y0 := ⟨_, rfl⟩
  have hstart : D ≤ q0 := by rw [hD, hq0, ht]; exact dig3_start hy h0
  have hinv : q0 * y1 + r0 = x2 * 4294967296 + x1 := by rw [hq0, hr0, ← ht, Nat.mul_comm]; exact Nat.div_add_mod t y1
  have hstep : ∀ q r, q * y1 + r = x2 * 4294967296 + x1 → D ≤ q → (4294967296 ≤ q ∨ r * 4294967296 + x0 < q * y0) → 1 ≤ q ∧ D ≤ q - 1 ∧ (q - 1) * y1 + (r + y1) = x2 * 4294967296 + x1 := fun q r a b c => by rw [hD] at b ⊢; exact dig3_step a b c hy
  have hdone : ∀ q r, q * y1 + r = x2 * 4294967296 + x1 → D ≤ q → q < 4294967296 → q * y0 ≤ r * 4294967296 + x0 → q = D := fun q r a b c d => by rw [hD] at b ⊢; exact dig3_done a b c d hy
  have hbrk : ∀ q r, q * y1 + r = x2 * 4294967296 + x1 → D ≤ q → 4294967296 ≤ r → q = D := fun q r a b c => by rw [hD] at b ⊢; exact dig3_brk a b c hxy h1 g0 hy
  rw [← hD]
  replace hstep := Lib.hid hstep
  replace hdone := Lib.hid hdone
  replace hbrk := Lib.hid hbrk
  replace hinv := Lib.hid hinv
  replace hstart := Lib.hid hstart
  replace hD := Lib.hid hD
  replace ht := Lib.hid ht
  replace hq0 := Lib.hid hq0
  replace hr0 := Lib.hid hr0
  go_enter Tryz.func143, Tryz.ntmps143
  go_wp2_with (fail)
  go_step3
  go_wp2_with (fail)
  go_quiet (fail)
  clear hq0I hr0I hq0T hr0T hq0W hr0W htW hyW hz hz2 hz3 hor
  go_wp2_with (fail)
  go_step3
  go_wp2_with (fail)
  go_loopw [12, 13] (fun vq vr wr => ∃ q r : Nat, vq = .int .u64 q ∧ vr = .int .u64 r ∧ r < 4294967296 ∧ q < 18446744073709551616 ∧ Hid (q * y1 + r = x2 * 4294967296 + x1) ∧ Hid (D ≤ q) ∧ Below w.heap.size w wr) (fun vq vr wr => (intOf vq).toNat)
  case atStart => exact ⟨q0, r0, rfl, rfl, hr0l, hq0l, hinv, hstart, (Below.refl _ _).drewN _⟩
  case round =>
    obtain ⟨q, r, rfl, rfl, hrl, hql, hi, hd, hbr⟩ := hrel
    obtain ⟨p, hp⟩ : ∃ p, p = q * y0 := ⟨_, rfl⟩
    have hpI : (q : Int) * (y0 : Int) = (p : Int) := by rw [hp]; exact (Int.natCast_mul q y0).symm
    have hor := or64 r x0 hrl h0
    obtain ⟨u, hu⟩ : ∃ u, u = r * 4294967296 + x0 := ⟨_, rfl⟩
    rw [← hu] at hor
    have hul : u < 18446744073709551616 := by omega
    obtain ⟨r', hr'⟩ : ∃ z, z = r + y1 := ⟨_, rfl⟩
    have hrI : (r : Int) + (y1 : Int) = (r' : Int) := by omega
    have hrl' : r' < 8589934592 := by omega
    have hrJ : (r : Int) < 4294967296 := by omega
    have hrS : IntKind.u64.wrap ((r : Int) * 4294967296) = (r : Int) * 4294967296 := IntWalk.u64_in _ (by omega)
    have hrK : (r : Int) ≤ 4294967295 := by omega
    by_cases hc : 4294967296 ≤ q ∨ u < p
    · obtain ⟨e1, e2, e3⟩ := hstep.out q r hi.out hd.out (by rw [← hu, ← hp]; exact hc)
      obtain ⟨q', hq'⟩ : ∃ z, z = q - 1 := ⟨_, rfl⟩
      have hqI : (q : Int) - 1 = (q' : Int) := by omega
      have hql' : q' < 18446744073709551616 := by omega
      have hqq : q' < q := by omega
      rw [← hq', ← hr'] at e3
      rw [← hq'] at e2
      have hb := hbrk.out q' r' e3 e2
      have qW : IntKind.u64.wrap (q' : Int) = (q' : Int) := IntWalk.u64_in _ (by omega)
      replace hql' := Lib.hid hql'
      replace hql := Lib.hid hql
      replace hul := Lib.hid hul
      replace hq0l := Lib.hid hq0l
      replace htl := Lib.hid htl
      replace e2 := Lib.hid e2
      replace e3 := Lib.hid e3
      replace hb := Lib.hid hb
      replace hu := Lib.hid hu
      replace hq' := Lib.hid hq'
      replace hr' := Lib.hid hr'
      by_cases hq4 : 4294967296 ≤ q
      · have d1 : decide ((4294967296 : Int) ≤ (q : Int)) = true := by simp; omega
        clear hpI hc
        replace hp := Lib.hid hp
        replace hq4 := Lib.hid hq4
        by_cases hr4 : 4294967296 ≤ r'
        · have d3 : decide ((4294967296 : Int) ≤ (r' : Int)) = true := by simp; omega
          replace hr4 := Lib.hid hr4
          go_wp2_with (fail)
          (try rw [Exit.noGoto_ret])
          go_ret
          exact ⟨by rw [hb.out hr4.out]; rfl, hbr⟩
        · have d3 : decide ((4294967296 : Int) ≤ (r' : Int)) = false := by simp; omega
          replace hr4 := Lib.hid hr4
          go_wp2_with (fail)
          go_roundw
          case rel => exact ⟨q', r', by first | rfl | trivial, by first | rfl | trivial, by have := hr4.out; omega, hql'.out, e3, e2, hbr⟩
          case measure => simp only [intOf]; omega
      · have hup : u < p := by omega
        have d1 : decide ((4294967296 : Int) ≤ (q : Int)) = false := by simp; omega
        have d2 : decide ((u : Int) < (p : Int)) = true := by simp; omega
        have d2n : decide (u < p) = true := by simp; omega
        have hpl : p ≤ 18446744065119617025 := by rw [hp]; exact mul_bd (by omega) g0
        have pM : IntKind.u64.wrap ((q : Int) * (y0 : Int)) = (p : Int) := by rw [hpI]; exact IntWalk.u64_in _ (by omega)
        have pW : IntKind.u64.wrap (p : Int) = (p : Int) := IntWalk.u64_in _ (by omega)
        clear hc
        have hpJ : (p : Int) ≤ 18446744073709551615 := by omega
        replace hpl := Lib.hid hpl
        replace hp := Lib.hid hp
        replace hup := Lib.hid hup
        replace hq4 := Lib.hid hq4
        by_cases hr4 : 4294967296 ≤ r'
        · have d3 : decide ((4294967296 : Int) ≤ (r' : Int)) = true := by simp; omega
          replace hr4 := Lib.hid hr4
          go_wp2_with (fail)
          (try rw [Exit.noGoto_ret])
          go_ret
          exact ⟨by rw [hb.out hr4.out]; rfl, hbr⟩
        · have d3 : decide ((4294967296 : Int) ≤ (r' : Int)) = false := by simp; omega
          replace hr4 := Lib.hid hr4
          go_wp2_with (fail)
          go_roundw
          case rel => exact ⟨q', r', by first | rfl | trivial, by first | rfl | trivial, by have := hr4.out; omega, hql'.out, e3, e2, hbr⟩
          case measure => simp only [intOf]; omega
    · have hq4 : q < 4294967296 := by omega
      have hup : ¬ u < p := by omega
      have hpl : p ≤ 18446744065119617025 := by rw [hp]; exact mul_bd hq4 g0
      have hfin := hdone.out q r hi.out hd.out hq4 (by rw [← hu, ← hp]; omega)
      have pM : IntKind.u64.wrap ((q : Int) * (y0 : Int)) = (p : Int) := by rw [hpI]; exact IntWalk.u64_in _ (by omega)
      have pW : IntKind.u64.wrap (p : Int) = (p : Int) := IntWalk.u64_in _ (by omega)
      have d1 : decide ((4294967296 : Int) ≤ (q : Int)) = false := by simp; omega
      have d2 : decide ((u : Int) < (p : Int)) = false := by simp; omega
      have d2n : decide (u < p) = false := by simp; omega
      clear hc
      replace hq4 := Lib.hid hq4
      replace hup := Lib.hid hup
      have hpJ : (p : Int) ≤ 18446744073709551615 := by omega
      replace hpl := Lib.hid hpl
      replace hql := Lib.hid hql
      replace hul := Lib.hid hul
      replace hq0l := Lib.hid hq0l
      replace htl := Lib.hid htl
      replace hfin := Lib.hid hfin
      replace hp := Lib.hid hp
      replace hu := Lib.hid hu
      clear hrI
      replace hr' := Lib.hid hr'
      go_wp2_with (fail)
      (try rw [Exit.noGoto_ret])
      go_ret
      exact ⟨by rw [hfin.out]; rfl, hbr⟩
end Go.Proofs.YtacjfpibilolnaaGreatDoor
