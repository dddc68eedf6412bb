/- Whole numbers, walked: Add. -/
import Derived.Test.YtopigejgadnkaaaGreatDoorV01
import Derived.WalkMore
import Derived.RangeFuncNested
import Derived.Laws.EntriesVeiled
import Derived.WalkSmall
import Derived.Laws.BitsAllLaws
import Derived.Stop.RegionWithIn
import Derived.Deep.RegionHeld3
import Derived.IntWalk
import Derived.BigQuiet
import Derived.Deep.QuietTactic
import Derived.Shelf.Spec.TrailingZeros
import Derived.RangeFuncFrom
import Derived.RangeFuncBox
import Derived.RangeFuncLeaves
set_option maxRecDepth 100000
set_option maxHeartbeats 4000000
set_option linter.unusedVariables false
set_option linter.unusedSimpArgs false
namespace Go.Proofs.YtopigejgadnkaaaGreatDoor
open Go.RowKit Go.Shelf
attribute [local go_sem] max2_i min2_i max_two min_two

theorem BoxA.other2 {W : World} {j k : Nat} {t : TypeId} {us : Array Value} {v0 v1 : Value} (h : BoxA W j t us) (hne : j ≠ k) : BoxA ((W.setCell ⟨k, 0, none⟩ v0).setCell ⟨k, 1, none⟩ v1) j t us := ⟨(set2_far j hne).trans h.at_⟩
theorem BoxA.other3 {W : World} {j k : Nat} {t : TypeId} {us : Array Value} {v0 v1 v2 : Value} (h : BoxA W j t us) (hne : j ≠ k) : BoxA (((W.setCell ⟨k, 0, none⟩ v0).setCell ⟨k, 1, none⟩ v1).setCell ⟨k, 2, none⟩ v2) j t us := ⟨(set3_far j hne).trans h.at_⟩
theorem ival_add {a b : Int} (h : sg a = sg b) : ival (sg a) (mg a + mg b) = a + b := by
  unfold sg at h; unfold ival sg mg
  simp only [decide_eq_decide] at h
  by_cases ha : a < 0
  · have := h.1 ha; simp [ha]; omega
  · have : ¬ b < 0 := fun e => ha (h.2 e); simp [ha]; omega
theorem ival_sub {a b : Int} (h : sg a ≠ sg b) (hl : mg b ≤ mg a) : ival (sg a) (mg a - mg b) = a + b := by
  unfold sg at h; unfold mg at hl; unfold ival sg mg
  by_cases ha : a < 0
  · have : ¬ b < 0 := fun e => h (by simp [ha, e]); simp [ha]; omega
  · have : b < 0 := Decidable.byContradiction fun e => h (by simp [ha, e]); simp [ha]; omega
theorem iadd_same (aA : Option Addr) (ac : Nat) (a : Int) (bA : Option Addr) (bc : Nat) (b : Int) (w : World) (ha : NatV w aA ac (mg a)) (hb : NatV w bA bc (mg b)) (la : nl (mg a) ≤ 1048576) (lb : nl (mg b) ≤ 1048576) (hs : sg a = sg b) :
    Calls Tryz.prog 57 #[.agg #[.bool (sg a), .slice aA (nl (mg a)) ac], .agg #[.bool (sg b), .slice bA (nl (mg b)) bc]] w (RetI w (a + b)) := by
  have t1 : (sg a == sg b) = true := beq_iff_eq.mpr hs
  have hv := ival_add hs
  replace hv := Lib.hid hv
  replace hs := Lib.hid hs
  have hb1 : Below (w).heap.size (w) (((w.alloc (.cells #[.bool (sg a), .slice aA (nl (mg a)) ac] 24)).alloc (.cells #[.bool (sg b), .slice bA (nl (mg b)) bc] 24)).alloc (.cells #[.bool false, .slice none 0 0] 24)) := (Below.alloc (Below.alloc (Below.alloc (Below.refl _ _) (Nat.le_refl _) _) (by simp <;> omega) _) (by simp <;> omega) _)
  replace ha := ha.below hb1
  replace hb := hb.below hb1
  have HBT := hb1
  clear hb1
  have Ra : BoxA (((w.alloc (.cells #[.bool (sg a), .slice aA (nl (mg a)) ac] 24)).alloc (.cells #[.bool (sg b), .slice bA (nl (mg b)) bc] 24)).alloc (.cells #[.bool false, .slice none 0 0] 24)) w.heap.size 24 #[.bool (sg a), .slice aA (nl (mg a)) ac] := ⟨by repeat (first | exact at_new (by simp) | refine at_old (by simp <;> omega) ?_)⟩
  have qa0 := Ra.c (i := 0) rfl
  have qa1 := Ra.c (i := 1) rfl
  have Rb : BoxA (((w.alloc (.cells #[.bool (sg a), .slice aA (nl (mg a)) ac] 24)).alloc (.cells #[.bool (sg b), .slice bA (nl (mg b)) bc] 24)).alloc (.cells #[.bool false, .slice none 0 0] 24)) (w.heap.size + 1) 24 #[.bool (sg b), .slice bA (nl (mg b)) bc] := ⟨by repeat (first | exact at_new (by simp) | refine at_old (by simp <;> omega) ?_)⟩
  have qb0 := Rb.c (i := 0) rfl
  have qb1 := Rb.c (i := 1) rfl
  have Rr : BoxA (((w.alloc (.cells #[.bool (sg a), .slice aA (nl (mg a)) ac] 24)).alloc (.cells #[.bool (sg b), .slice bA (nl (mg b)) bc] 24)).alloc (.cells #[.bool false, .slice none 0 0] 24)) (w.heap.size + 2) 24 #[.bool false, .slice none 0 0] := ⟨by repeat (first | exact at_new (by simp) | refine at_old (by simp <;> omega) ?_)⟩
  have qr0 := Rr.c (i := 0) rfl
  have qr1 := Rr.c (i := 1) rfl
  go_enter Tryz.func57, Tryz.ntmps57
  go_wp2_with (fail)
  have hd2 := drb ((((w.alloc (.cells #[.bool (sg a), .slice aA (nl (mg a)) ac] 24)).alloc (.cells #[.bool (sg b), .slice bA (nl (mg b)) bc] 24)).alloc (.cells #[.bool false, .slice none 0 0] 24)))
  replace ha := ha.below hd2
  replace hb := hb.below hd2
  replace Ra := Ra.below hd2
  replace qa0 := cbl hd2 qa0
  replace qa1 := cbl hd2 qa1
  replace Rb := Rb.below hd2
  replace qb0 := cbl hd2 qb0
  replace qb1 := cbl hd2 qb1
  replace Rr := Rr.below hd2
  replace qr0 := cbl hd2 qr0
  replace qr1 := cbl hd2 qr1
  replace HBT := Below.cons HBT hd2
  clear hd2
  obtain ⟨n, En⟩ : ∃ zq : Nat, zq = mg a + mg b := ⟨_, rfl⟩
  have Bn : nl n ≤ 2097154 := by rw [En]; have := nl_add (mg a) (mg b); omega
  have C2_0 := fun (W : World) (h1 : NatV W aA ac (mg a)) (h2 : NatV W bA bc (mg b)) => add_c aA ac (mg a) bA bc (mg b) W h1 h2 (by omega) (by omega)
  simp only [← En] at C2_0
  replace En := Lib.hid En
  replace C2_0 := Lib.hid C2_0
  obtain ⟨z, Ez⟩ : ∃ zq : Int, zq = ival (sg a) n := ⟨_, rfl⟩
  have C2_1 := fun (W : World) (A : Option Addr) (c : Nat) (h1 : NatV W A c n) => imake_c (sg a) A c n W h1 (by omega)
  simp only [← Ez] at C2_1
  replace Ez := Lib.hid Ez
  replace C2_1 := Lib.hid C2_1
  go_region_held3 (fun W => W.cell? ⟨w.heap.size, 0, none⟩ = some (.bool (sg a)) ∧ W.cell? ⟨w.heap.size, 1, none⟩ = some (.slice aA (nl (mg a)) ac) ∧ W.cell? ⟨(w.heap.size + 1), 1, none⟩ = some (.slice bA (nl (mg b)) bc))
    (first
      | exact ⟨qa0, qa1, qb1⟩
      | exact ⟨qa0_3, qa1_3, qb1_3⟩
      | exact ⟨qa0_4, qa1_4, qb1_4⟩
      | exact ⟨((Ra_4.other2 (by simp <;> omega)).c (i := 0) rfl), ((Ra_4.other2 (by simp <;> omega)).c (i := 1) rfl), ((Rb_4.other2 (by simp <;> omega)).c (i := 1) rfl)⟩
      | go_keep)
    (first
      | (go_at_call 88; (with_reducible refine (C2_0.out _ ha hb).mono ?_); rintro e W3 ⟨Xn, cn, rfl, hn, hb3⟩; have ha_3 := ha.below hb3; have hb_3 := hb.below hb3; have Ra_3 := Ra.below hb3; have qa0_3 := cbl hb3 qa0; have qa1_3 := cbl hb3 qa1; have Rb_3 := Rb.below hb3; have qb0_3 := cbl hb3 qb0; have qb1_3 := cbl hb3 qb1; have Rr_3 := Rr.below hb3; have qr0_3 := cbl hb3 qr0; have qr1_3 := cbl hb3 qr1; have HBT_3 := Below.cons HBT hb3)
      | (go_at_call 35; (with_reducible refine (C2_1.out _ _ _ hn).mono ?_); rintro e W4 ⟨Xz, cz, rfl, hz, hb4⟩; have ha_4 := ha_3.below hb4; have hb_4 := hb_3.below hb4; have Ra_4 := Ra_3.below hb4; have qa0_4 := cbl hb4 qa0_3; have qa1_4 := cbl hb4 qa1_3; have Rb_4 := Rb_3.below hb4; have qb0_4 := cbl hb4 qb0_3; have qb1_4 := cbl hb4 qb1_3; have Rr_4 := Rr_3.below hb4; have qr0_4 := cbl hb4 qr0_3; have qr1_4 := cbl hb4 qr1_3; have hn_4 := hn.below hb4; have HBT_4 := Below.cons HBT_3 hb4; have fz0 := Rr_4.f (i := 0); have fz1 := Rr_4.f (i := 1)))
  all_goals (try go_wp2_with (fail))
  have hz : z = a + b := by rw [Ez.out, En.out]; exact hv.out
  subst hz
  have RS := Rr_4.store2 (.bool (sg ((a + b)))) (.slice Xz (nl (mg ((a + b)))) cz)
  have e0 := RS.c (i := 0) rfl
  have e1 := RS.c (i := 1) rfl
  refine bodyPost_ret (v := .agg #[.bool (sg ((a + b))), .slice Xz (nl (mg ((a + b)))) cz]) (by simp [results, Tryz.results57, go_sem, e0, e1]) rfl ?_
  exact ⟨Xz, cz, rfl, (Rr_4.keep2 (nuB rfl) hz), (Below.store2 HBT_4 (by first | exact Nat.le_refl _ | omega))⟩
theorem iadd_apart (aA : Option Addr) (ac : Nat) (a : Int) (bA : Option Addr) (bc : Nat) (b : Int) (w : World) (ha : NatV w aA ac (mg a)) (hb : NatV w bA bc (mg b)) (la : nl (mg a) ≤ 1048576) (lb : nl (mg b) ≤ 1048576) (hs : sg a ≠ sg b) :
    Calls Tryz.prog 57 #[.agg #[.bool (sg a), .slice aA (nl (mg a)) ac], .agg #[.bool (sg b), .slice bA (nl (mg b)) bc]] w (RetI w (a + b)) := by
  have t1 : (sg a == sg b) = false := beq_eq_false_iff_ne.mpr hs
  have hb1 : Below (w).heap.size (w) (((w.alloc (.cells #[.bool (sg a), .slice aA (nl (mg a)) ac] 24)).alloc (.cells #[.bool (sg b), .slice bA (nl (mg b)) bc] 24)).alloc (.cells #[.bool false, .slice none 0 0] 24)) := (Below.alloc (Below.alloc (Below.alloc (Below.refl _ _) (Nat.le_refl _) _) (by simp <;> omega) _) (by simp <;> omega) _)
  replace ha := ha.below hb1
  replace hb := hb.below hb1
  have HBT := hb1
  clear hb1
  have Ra : BoxA (((w.alloc (.cells #[.bool (sg a), .slice aA (nl (mg a)) ac] 24)).alloc (.cells #[.bool (sg b), .slice bA (nl (mg b)) bc] 24)).alloc (.cells #[.bool false, .slice none 0 0] 24)) w.heap.size 24 #[.bool (sg a), .slice aA (nl (mg a)) ac] := ⟨by repeat (first | exact at_new (by simp) | refine at_old (by simp <;> omega) ?_)⟩
  have qa0 := Ra.c (i := 0) rfl
  have qa1 := Ra.c (i := 1) rfl
  have Rb : BoxA (((w.alloc (.cells #[.bool (sg a), .slice aA (nl (mg a)) ac] 24)).alloc (.cells #[.bool (sg b), .slice bA (nl (mg b)) bc] 24)).alloc (.cells #[.bool false, .slice none 0 0] 24)) (w.heap.size + 1) 24 #[.bool (sg b), .slice bA (nl (mg b)) bc] := ⟨by repeat (first | exact at_new (by simp) | refine at_old (by simp <;> omega) ?_)⟩
  have qb0 := Rb.c (i := 0) rfl
  have qb1 := Rb.c (i := 1) rfl
  have Rr : BoxA (((w.alloc (.cells #[.bool (sg a), .slice aA (nl (mg a)) ac] 24)).alloc (.cells #[.bool (sg b), .slice bA (nl (mg b)) bc] 24)).alloc (.cells #[.bool false, .slice none 0 0] 24)) (w.heap.size + 2) 24 #[.bool false, .slice none 0 0] := ⟨by repeat (first | exact at_new (by simp) | refine at_old (by simp <;> omega) ?_)⟩
  have qr0 := Rr.c (i := 0) rfl
  have qr1 := Rr.c (i := 1) rfl
  go_enter Tryz.func57, Tryz.ntmps57
  go_wp2_with (fail)
  refine (Calls.mono (cmp_c aA ac (mg a) bA bc (mg b) _ ha hb (by omega) (by omega)) ?_)
  rintro e W2 ⟨rfl, hb2⟩
  replace ha := ha.below hb2
  replace hb := hb.below hb2
  replace Ra := Ra.below hb2
  replace qa0 := cbl hb2 qa0
  replace qa1 := cbl hb2 qa1
  replace Rb := Rb.below hb2
  replace qb0 := cbl hb2 qb0
  replace qb1 := cbl hb2 qb1
  replace Rr := Rr.below hb2
  replace qr0 := cbl hb2 qr0
  replace qr1 := cbl hb2 qr1
  replace HBT := Below.cons HBT hb2
  clear hb2
  by_cases hl : mg a < mg b
  · have t2 : decide (cmpN (mg a) (mg b) < 0) = true := by rw [decide_eq_true_eq, cmpN_neg]; exact hl
    have hle : mg a ≤ mg b := Nat.le_of_lt hl
    have hv := ival_sub (fun e => hs e.symm) hle
    replace hv := Lib.hid hv
    replace hl := Lib.hid hl
    have fa0_3 := Ra.f (i := 0)
    have fa1_3 := Ra.f (i := 1)
    have Ra_3 := Ra.store2 (.bool (sg b)) (.slice bA (nl (mg b)) bc)
    have Rb_3 : BoxA ((W2.setCell ⟨w.heap.size, 0, none⟩ (.bool (sg b))).setCell ⟨w.heap.size, 1, none⟩ (.slice bA (nl (mg b)) bc)) _ _ _ := Rb.other2 (by simp <;> omega)
    have Rr_3 : BoxA ((W2.setCell ⟨w.heap.size, 0, none⟩ (.bool (sg b))).setCell ⟨w.heap.size, 1, none⟩ (.slice bA (nl (mg b)) bc)) _ _ _ := Rr.other2 (by simp <;> omega)
    have ha_3 := Ra.keep2 (v0 := .bool (sg b)) (v1 := .slice bA (nl (mg b)) bc) (nuB rfl) ha
    have hb_3 := Ra.keep2 (v0 := .bool (sg b)) (v1 := .slice bA (nl (mg b)) bc) (nuB rfl) hb
    have qa0_3 := Ra_3.c (i := 0) rfl
    have qa1_3 := Ra_3.c (i := 1) rfl
    have qb0_3 := Rb_3.c (i := 0) rfl
    have qb1_3 := Rb_3.c (i := 1) rfl
    have qr0_3 := Rr_3.c (i := 0) rfl
    have qr1_3 := Rr_3.c (i := 1) rfl
    have HBT_3 := Below.store2 (v0 := .bool (sg b)) (v1 := .slice bA (nl (mg b)) bc) HBT (k := w.heap.size) (by first | exact Nat.le_refl _ | omega)
    have fb0_4 := Rb_3.f (i := 0)
    have fb1_4 := Rb_3.f (i := 1)
    have Ra_4 : BoxA ((((W2.setCell ⟨w.heap.size, 0, none⟩ (.bool (sg b))).setCell ⟨w.heap.size, 1, none⟩ (.slice bA (nl (mg b)) bc)).setCell ⟨(w.heap.size + 1), 0, none⟩ (.bool (sg a))).setCell ⟨(w.heap.size + 1), 1, none⟩ (.slice aA (nl (mg a)) ac)) _ _ _ := Ra_3.other2 (by simp <;> omega)
    have Rb_4 := Rb_3.store2 (.bool (sg a)) (.slice aA (nl (mg a)) ac)
    have Rr_4 : BoxA ((((W2.setCell ⟨w.heap.size, 0, none⟩ (.bool (sg b))).setCell ⟨w.heap.size, 1, none⟩ (.slice bA (nl (mg b)) bc)).setCell ⟨(w.heap.size + 1), 0, none⟩ (.bool (sg a))).setCell ⟨(w.heap.size + 1), 1, none⟩ (.slice aA (nl (mg a)) ac)) _ _ _ := Rr_3.other2 (by simp <;> omega)
    have ha_4 := Rb_3.keep2 (v0 := .bool (sg a)) (v1 := .slice aA (nl (mg a)) ac) (nuB rfl) ha_3
    have hb_4 := Rb_3.keep2 (v0 := .bool (sg a)) (v1 := .slice aA (nl (mg a)) ac) (nuB rfl) hb_3
    have qa0_4 := Ra_4.c (i := 0) rfl
    have qa1_4 := Ra_4.c (i := 1) rfl
    have qb0_4 := Rb_4.c (i := 0) rfl
    have qb1_4 := Rb_4.c (i := 1) rfl
    have qr0_4 := Rr_4.c (i := 0) rfl
    have qr1_4 := Rr_4.c (i := 1) rfl
    have HBT_4 := Below.store2 (v0 := .bool (sg a)) (v1 := .slice aA (nl (mg a)) ac) HBT_3 (k := (w.heap.size + 1)) (by first | exact Nat.le_refl _ | omega)
    go_wp2_with (fail)
    clear fa0_3 fa1_3 Ra Rb Rr ha hb qa0 qa1 qb0 qb1 qr0 qr1 HBT fb0_4 fb1_4 Ra_3 Rb_3 Rr_3 ha_3 hb_3 qa0_3 qa1_3 qb0_3 qb1_3 qr0_3 qr1_3 HBT_3
    obtain ⟨n, En⟩ : ∃ zq : Nat, zq = mg b - mg a := ⟨_, rfl⟩
    have Bn : nl n ≤ 1048576 := by rw [En]; have := nl_sub (mg b) (mg a); omega
    have CS := sub_c bA bc (mg b) aA ac (mg a) _ hb_4 ha_4 (by omega) (by omega) hle
    rw [← En] at CS
    replace En := Lib.hid En
    refine (Calls.mono CS ?_)
    rintro e W5 ⟨Xn, cn, rfl, hn, hb5⟩
    clear CS
    replace Ra_4 := Ra_4.below hb5
    replace Rb_4 := Rb_4.below hb5
    replace Rr_4 := Rr_4.below hb5
    replace ha_4 := ha_4.below hb5
    replace hb_4 := hb_4.below hb5
    replace qa0_4 := cbl hb5 qa0_4
    replace qa1_4 := cbl hb5 qa1_4
    replace qb0_4 := cbl hb5 qb0_4
    replace qb1_4 := cbl hb5 qb1_4
    replace qr0_4 := cbl hb5 qr0_4
    replace qr1_4 := cbl hb5 qr1_4
    have HBT := Below.cons HBT_4 hb5
    clear hb5
    go_wp2_with (fail)
    obtain ⟨z, Ez⟩ : ∃ zq : Int, zq = ival (sg b) n := ⟨_, rfl⟩
    refine (Calls.mono (R := RetI W5 z) (by rw [Ez]; exact (imake_c (sg b) Xn cn n _ hn (by omega))) ?_)
    replace Ez := Lib.hid Ez
    rintro e W6 ⟨Xz, cz, rfl, hz, hb6⟩
    replace Ra_4 := Ra_4.below hb6
    replace Rb_4 := Rb_4.below hb6
    replace Rr_4 := Rr_4.below hb6
    replace ha_4 := ha_4.below hb6
    replace hb_4 := hb_4.below hb6
    replace qa0_4 := cbl hb6 qa0_4
    replace qa1_4 := cbl hb6 qa1_4
    replace qb0_4 := cbl hb6 qb0_4
    replace qb1_4 := cbl hb6 qb1_4
    replace qr0_4 := cbl hb6 qr0_4
    replace qr1_4 := cbl hb6 qr1_4
    replace hn := hn.below hb6
    replace HBT := Below.cons HBT hb6
    clear hb6
    have fz0 := Rr_4.f (i := 0)
    have fz1 := Rr_4.f (i := 1)
    go_wp2_with (fail)
    have hz : z = a + b := by rw [Ez.out, En.out]; exact hv.out.trans (Int.add_comm b a)
    subst hz
    have RS := Rr_4.store2 (.bool (sg ((a + b)))) (.slice Xz (nl (mg ((a + b)))) cz)
    have e0 := RS.c (i := 0) rfl
    have e1 := RS.c (i := 1) rfl
    refine bodyPost_ret (v := .agg #[.bool (sg ((a + b))), .slice Xz (nl (mg ((a + b)))) cz]) (by simp [results, Tryz.results57, go_sem, e0, e1]) rfl ?_
    exact ⟨Xz, cz, rfl, (Rr_4.keep2 (nuB rfl) hz), (Below.store2 HBT (by first | exact Nat.le_refl _ | omega))⟩
  · have t2 : decide (cmpN (mg a) (mg b) < 0) = false := by rw [decide_eq_false_iff_not, cmpN_neg]; exact hl
    have hle : mg b ≤ mg a := by omega
    have hv := ival_sub hs hle
    replace hv := Lib.hid hv
    replace hl := Lib.hid hl
    go_wp2_with (fail)
    obtain ⟨n, En⟩ : ∃ zq : Nat, zq = mg a - mg b := ⟨_, rfl⟩
    have Bn : nl n ≤ 1048576 := by rw [En]; have := nl_sub (mg a) (mg b); omega
    have CS := sub_c aA ac (mg a) bA bc (mg b) _ ha hb (by omega) (by omega) hle
    rw [← En] at CS
    replace En := Lib.hid En
    refine (Calls.mono CS ?_)
    rintro e W3 ⟨Xn, cn, rfl, hn, hb3⟩
    clear CS
    replace ha := ha.below hb3
    replace hb := hb.below hb3
    replace Ra := Ra.below hb3
    replace qa0 := cbl hb3 qa0
    replace qa1 := cbl hb3 qa1
    replace Rb := Rb.below hb3
    replace qb0 := cbl hb3 qb0
    replace qb1 := cbl hb3 qb1
    replace Rr := Rr.below hb3
    replace qr0 := cbl hb3 qr0
    replace qr1 := cbl hb3 qr1
    replace HBT := Below.cons HBT hb3
    clear hb3
    go_wp2_with (fail)
    obtain ⟨z, Ez⟩ : ∃ zq : Int, zq = ival (sg a) n := ⟨_, rfl⟩
    refine (Calls.mono (R := RetI W3 z) (by rw [Ez]; exact (imake_c (sg a) Xn cn n _ hn (by omega))) ?_)
    replace Ez := Lib.hid Ez
    rintro e W4 ⟨Xz, cz, rfl, hz, hb4⟩
    replace ha := ha.below hb4
    replace hb := hb.below hb4
    replace Ra := Ra.below hb4
    replace qa0 := cbl hb4 qa0
    replace qa1 := cbl hb4 qa1
    replace Rb := Rb.below hb4
    replace qb0 := cbl hb4 qb0
    replace qb1 := cbl hb4 qb1
    replace Rr := Rr.below hb4
    replace qr0 := cbl hb4 qr0
    replace qr1 := cbl hb4 qr1
    replace hn := hn.below hb4
    replace HBT := Below.cons HBT hb4
    clear hb4
    have fz0 := Rr.f (i := 0)
    have fz1 := Rr.f (i := 1)
    go_wp2_with (fail)
    have hz : z = a + b := by rw [Ez.out, En.out]; exact hv.out
    subst hz
    have RS := Rr.store2 (.bool (sg ((a + b)))) (.slice Xz (nl (mg ((a + b)))) cz)
    have e0 := RS.c (i := 0) rfl
    have e1 := RS.c (i := 1) rfl
    refine bodyPost_ret (v := .agg #[.bool (sg ((a + b))), .slice Xz (nl (mg ((a + b)))) cz]) (by simp [results, Tryz.results57, go_sem, e0, e1]) rfl ?_
    exact ⟨Xz, cz, rfl, (Rr.keep2 (nuB rfl) hz), (Below.store2 HBT (by first | exact Nat.le_refl _ | omega))⟩
theorem iadd_c (aA : Option Addr) (ac : Nat) (a : Int) (bA : Option Addr) (bc : Nat) (b : Int) (w : World) (ha : NatV w aA ac (mg a)) (hb : NatV w bA bc (mg b)) (la : nl (mg a) ≤ 1048576) (lb : nl (mg b) ≤ 1048576) :
    Calls Tryz.prog 57 #[.agg #[.bool (sg a), .slice aA (nl (mg a)) ac], .agg #[.bool (sg b), .slice bA (nl (mg b)) bc]] w (RetI w (a + b)) := by
  by_cases h : sg a = sg b
  · exact iadd_same aA ac a bA bc b w ha hb la lb h
  · exact iadd_apart aA ac a bA bc b w ha hb la lb h
theorem or64 (r x : Nat) (hr : r < 4294967296) (hx : x < 4294967296) : bits .or .u64 ((r : Int) * 4294967296) (x : Int) = ((r * 4294967296 + x : Nat) : Int) := by
  have e : ((r : Int) * 4294967296) = ((r * 4294967296 : Nat) : Int) := by simp
  rw [e, u64_or_nat _ _ (by omega) (by omega)]
  congr 1
  rw [Nat.mul_comm, show 4294967296 = 2 ^ 32 from rfl, ← Nat.two_pow_add_eq_or_of_lt (i := 32) (by omega)]





theorem Rd.apart {W W' : World} {A : Option Addr} {l : List Nat} {s : Nat} (h : Rd W A l) (hp : ∀ q : Addr, q.block = s → ∀ x : Nat, W.cell? q ≠ some (.int .u32 (x : Nat))) (hk : ∀ k, k ≠ s → W'.heap[k]? = W.heap[k]?) : Rd W' A l := by
  rcases h with h | ⟨ad, rfl, h⟩
  · exact .inl h
  · refine .inr ⟨ad, rfl, fun i u hu => ?_⟩
    have h1 := h i u hu
    obtain ⟨hi, hu2⟩ := List.getElem?_eq_some_iff.1 hu
    have hil : i < l.length := by simpa [vals] using hi
    rw [vals_get l i hil] at hu
    cases hu
    have hne : (ad.add i).block ≠ s := fun e => hp _ e _ h1
    rw [World.cell?_of_block (w := W) (a := ad.add i) (hk _ hne)]
    exact h1
theorem NatV.apart {W W' : World} {A : Option Addr} {c n s : Nat} (h : NatV W A c n) (hp : ∀ q : Addr, q.block = s → ∀ x : Nat, W.cell? q ≠ some (.int .u32 (x : Nat))) (hk : ∀ k, k ≠ s → W'.heap[k]? = W.heap[k]?) : NatV W' A c n := ⟨h.rd.apart hp hk, h.cap, h.cmax⟩



theorem guess_c (x2 x1 x0 y1 y0 : Nat) (w : World) (h2 : x2 < 4294967296) (h1 : x1 < 4294967296) (h0 : x0 < 4294967296) (g1 : y1 < 4294967296) (g0 : y0 < 4294967296) (hy : 0 < y1) (hxy : x2 ≤ y1) :
    Calls Tryz.prog 125 #[.int .u32 x2, .int .u32 x1, .int .u32 x0, .int .u32 y1, .int .u32 y0] w fun e w' => e = .returned (.int .u64 (dig3 x2 x1 x0 y1 y0 : Nat)) ∧ Below w.heap.size w w' := by
  obtain ⟨t, ht⟩ : ∃ t, t = x2 * 4294967296 + x1 := ⟨_, rfl⟩
  have hor := or64 x2 x1 h2 h1
  rw [← ht] at hor
  have htl : t < 18446744073709551616 := by omega
  have h2I : (x2 : Int) < 4294967296 := by omega
  have h2J : (0 : Int) ≤ (x2 : Int) := by omega
  obtain ⟨q0, hq0⟩ : ∃ z, z = t / y1 := ⟨_, rfl⟩
  obtain ⟨r0, hr0⟩ : ∃ z, z = t % y1 := ⟨_, rfl⟩
  have hq0I : (t : Int) / (y1 : Int) = (q0 : Int) := by rw [hq0]; exact (Int.natCast_ediv t y1).symm
  have hr0I : (t : Int) % (y1 : Int) = (r0 : Int) := by rw [hr0]; exact (Int.natCast_emod t y1).symm
  have hq0T : (t : Int).tdiv (y1 : Int) = (q0 : Int) := by rw [Int.tdiv_eq_ediv_of_nonneg (by omega)]; exact hq0I
  have hr0T : (t : Int).tmod (y1 : Int) = (r0 : Int) := by rw [Int.tmod_eq_emod_of_nonneg (by omega)]; exact hr0I
  have hq0l : q0 < 18446744073709551616 := by rw [hq0]; exact Nat.lt_of_le_of_lt (Nat.div_le_self _ _) htl
  have hr0l : r0 < 4294967296 := by rw [hr0]; exact Nat.lt_trans (Nat.mod_lt _ hy) g1
  have hq0W : IntKind.u64.wrap (q0 : Int) = (q0 : Int) := IntWalk.u64_in _ (by omega)
  have hr0W : IntKind.u64.wrap (r0 : Int) = (r0 : Int) := IntWalk.u64_in _ (by omega)
  have htW : IntKind.u64.wrap (t : Int) = (t : Int) := IntWalk.u64_in _ (by omega)
  have hyW : IntKind.u64.wrap (y1 : Int) = (y1 : Int) := IntWalk.u64_in _ (by omega)
  have hz : ((y1 : Int) == 0) = false := ieqF (by omega)
  have hz2 : ¬ (y1 : Int) = 0 := by omega
  have hz3 : ¬ y1 = 0 := by omega
  obtain ⟨D, hD⟩ : ∃ D, D = dig3 x2 x1 x0 y1 y0 := ⟨_, rfl⟩
  have hstart : D ≤ q0 := by rw [hD, hq0, ht]; exact dig3_start hy h0
  have hinv : q0 * y1 + r0 = x2 * 4294967296 + x1 := by rw [hq0, hr0, ← ht, Nat.mul_comm]; exact Nat.div_add_mod t y1
  have hstep : ∀ q r, q * y1 + r = x2 * 4294967296 + x1 → D ≤ q → (4294967296 ≤ q ∨ r * 4294967296 + x0 < q * y0) → 1 ≤ q ∧ D ≤ q - 1 ∧ (q - 1) * y1 + (r + y1) = x2 * 4294967296 + x1 := fun q r a b c => by rw [hD] at b ⊢; exact dig3_step a b c hy
  have hdone : ∀ q r, q * y1 + r = x2 * 4294967296 + x1 → D ≤ q → q < 4294967296 → q * y0 ≤ r * 4294967296 + x0 → q = D := fun q r a b c d => by rw [hD] at b ⊢; exact dig3_done a b c d hy
  have hbrk : ∀ q r, q * y1 + r = x2 * 4294967296 + x1 → D ≤ q → 4294967296 ≤ r → q = D := fun q r a b c => by rw [hD] at b ⊢; exact dig3_brk a b c hxy h1 g0 hy
  rw [← hD]
  replace hstep := Lib.hid hstep
  replace hdone := Lib.hid hdone
  replace hbrk := Lib.hid hbrk
  replace hinv := Lib.hid hinv
  replace hstart := Lib.hid hstart
  replace hD := Lib.hid hD
  replace ht := Lib.hid ht
  replace hq0 := Lib.hid hq0
  replace hr0 := Lib.hid hr0
  go_enter Tryz.func125, Tryz.ntmps125
  go_wp2_with (fail)
  go_step3
  go_wp2_with (fail)
  go_quiet (fail)
  clear hq0I hr0I hq0T hr0T hq0W hr0W htW hyW hz hz2 hz3 hor
  go_wp2_with (fail)
  go_step3
  go_wp2_with (fail)
  go_loopw [12, 13] (fun vq vr wr => ∃ q r : Nat, vq = .int .u64 q ∧ vr = .int .u64 r ∧ r < 4294967296 ∧ q < 18446744073709551616 ∧ Hid (q * y1 + r = x2 * 4294967296 + x1) ∧ Hid (D ≤ q) ∧ Below w.heap.size w wr) (fun vq vr wr => (intOf vq).toNat)
  case atStart => exact ⟨q0, r0, rfl, rfl, hr0l, hq0l, hinv, hstart, (Below.refl _ _).drewN _⟩
  case round =>
    obtain ⟨q, r, rfl, rfl, hrl, hql, hi, hd, hbr⟩ := hrel
    obtain ⟨p, hp⟩ : ∃ p, p = q * y0 := ⟨_, rfl⟩
    have hpI : (q : Int) * (y0 : Int) = (p : Int) := by rw [hp]; exact (Int.natCast_mul q y0).symm
    have hor := or64 r x0 hrl h0
    obtain ⟨u, hu⟩ : ∃ u, u = r * 4294967296 + x0 := ⟨_, rfl⟩
    rw [← hu] at hor
    have hul : u < 18446744073709551616 := by omega
    obtain ⟨r', hr'⟩ : ∃ z, z = r + y1 := ⟨_, rfl⟩
    have hrI : (r : Int) + (y1 : Int) = (r' : Int) := by omega
    have hrl' : r' < 8589934592 := by omega
    have hrJ : (r : Int) < 4294967296 := by omega
    have hrS : IntKind.u64.wrap ((r : Int) * 4294967296) = (r : Int) * 4294967296 := IntWalk.u64_in _ (by omega)
    have hrK : (r : Int) ≤ 4294967295 := by omega
    by_cases hc : 4294967296 ≤ q ∨ u < p
    · obtain ⟨e1, e2, e3⟩ := hstep.out q r hi.out hd.out (by rw [← hu, ← hp]; exact hc)
      obtain ⟨q', hq'⟩ : ∃ z, z = q - 1 := ⟨_, rfl⟩
      have hqI : (q : Int) - 1 = (q' : Int) := by omega
      have hql' : q' < 18446744073709551616 := by omega
      have hqq : q' < q := by omega
      rw [← hq', ← hr'] at e3
      rw [← hq'] at e2
      have hb := hbrk.out q' r' e3 e2
      have qW : IntKind.u64.wrap (q' : Int) = (q' : Int) := IntWalk.u64_in _ (by omega)
      replace hql' := Lib.hid hql'
      replace hql := Lib.hid hql
      replace hul := Lib.hid hul
      replace hq0l := Lib.hid hq0l
      replace htl := Lib.hid htl
      replace e2 := Lib.hid e2
      replace e3 := Lib.hid e3
      replace hb := Lib.hid hb
      replace hu := Lib.hid hu
      replace hq' := Lib.hid hq'
      replace hr' := Lib.hid hr'
      by_cases hq4 : 4294967296 ≤ q
      · have d1 : decide ((4294967296 : Int) ≤ (q : Int)) = true := by simp; omega
        clear hpI hc
        replace hp := Lib.hid hp
        replace hq4 := Lib.hid hq4
        by_cases hr4 : 4294967296 ≤ r'
        · have d3 : decide ((4294967296 : Int) ≤ (r' : Int)) = true := by simp; omega
          replace hr4 := Lib.hid hr4
          go_wp2_with (fail)
          (try rw [Exit.noGoto_ret])
          go_ret
          exact ⟨by rw [hb.out hr4.out]; rfl, hbr⟩
        · have d3 : decide ((4294967296 : Int) ≤ (r' : Int)) = false := by simp; omega
          replace hr4 := Lib.hid hr4
          go_wp2_with (fail)
          go_roundw
          case rel => exact ⟨q', r', by first | rfl | trivial, by first | rfl | trivial, by have := hr4.out; omega, hql'.out, e3, e2, hbr⟩
          case measure => simp only [intOf]; omega
      · have hup : u < p := by omega
        have d1 : decide ((4294967296 : Int) ≤ (q : Int)) = false := by simp; omega
        have d2 : decide ((u : Int) < (p : Int)) = true := by simp; omega
        have d2n : decide (u < p) = true := by simp; omega
        have hpl : p ≤ 18446744065119617025 := by rw [hp]; exact mul_bd (by omega) g0
        have pM : IntKind.u64.wrap ((q : Int) * (y0 : Int)) = (p : Int) := by rw [hpI]; exact IntWalk.u64_in _ (by omega)
        have pW : IntKind.u64.wrap (p : Int) = (p : Int) := IntWalk.u64_in _ (by omega)
        clear hc
        have hpJ : (p : Int) ≤ 18446744073709551615 := by omega
        replace hpl := Lib.hid hpl
        replace hp := Lib.hid hp
        replace hup := Lib.hid hup
        replace hq4 := Lib.hid hq4
        by_cases hr4 : 4294967296 ≤ r'
        · have d3 : decide ((4294967296 : Int) ≤ (r' : Int)) = true := by simp; omega
          replace hr4 := Lib.hid hr4
          go_wp2_with (fail)
          (try rw [Exit.noGoto_ret])
          go_ret
          exact ⟨by rw [hb.out hr4.out]; rfl, hbr⟩
        · have d3 : decide ((4294967296 : Int) ≤ (r' : Int)) = false := by simp; omega
          replace hr4 := Lib.hid hr4
          go_wp2_with (fail)
          go_roundw
          case rel => exact ⟨q', r', by first | rfl | trivial, by first | rfl | trivial, by have := hr4.out; omega, hql'.out, e3, e2, hbr⟩
          case measure => simp only [intOf]; omega
    · have hq4 : q < 4294967296 := by omega
      have hup : ¬ u < p := by omega
      have hpl : p ≤ 18446744065119617025 := by rw [hp]; exact mul_bd hq4 g0
      have hfin := hdone.out q r hi.out hd.out hq4 (by rw [← hu, ← hp]; omega)
      have pM : IntKind.u64.wrap ((q : Int) * (y0 : Int)) = (p : Int) := by rw [hpI]; exact IntWalk.u64_in _ (by omega)
      have pW : IntKind.u64.wrap (p : Int) = (p : Int) := IntWalk.u64_in _ (by omega)
      have d1 : decide ((4294967296 : Int) ≤ (q : Int)) = false := by simp; omega
      have d2 : decide ((u : Int) < (p : Int)) = false := by simp; omega
      have d2n : decide (u < p) = false := by simp; omega
      clear hc
      replace hq4 := Lib.hid hq4
      replace hup := Lib.hid hup
      have hpJ : (p : Int) ≤ 18446744073709551615 := by omega
      replace hpl := Lib.hid hpl
      replace hql := Lib.hid hql
      replace hul := Lib.hid hul
      replace hq0l := Lib.hid hq0l
      replace htl := Lib.hid htl
      replace hfin := Lib.hid hfin
      replace hp := Lib.hid hp
      replace hu := Lib.hid hu
      clear hrI
      replace hr' := Lib.hid hr'
      go_wp2_with (fail)
      (try rw [Exit.noGoto_ret])
      go_ret
      exact ⟨by rw [hfin.out]; rfl, hbr⟩
end Go.Proofs.YtopigejgadnkaaaGreatDoor

namespace Go.Proofs.YtopigejgadnkaaaGreatDoor
open Go.RowKit Go.Shelf

attribute [local go_sem] Oper.semAt_some

def upto (n : Nat) : Nat → List {x : Nat // x < n}
  | 0 => []
  | d + 1 => upto n d ++ (if h : n - 1 - d < n then [⟨n - 1 - d, h⟩] else [])
theorem upto_step {n k : Nat} (h : k < n) : upto n (n - (k + 1)) ++ [⟨k, h⟩] = upto n (n - k) := by
  obtain ⟨d, hd⟩ : ∃ d, d = n - (k + 1) := ⟨_, rfl⟩
  rw [show n - k = d + 1 by omega, ← hd]
  have e : n - 1 - d = k := by omega
  subst e
  rw [upto, dif_pos (by omega)]
theorem upto_len {n d : Nat} (h : d ≤ n) : (upto n d).length = d := by
  induction d with
  | zero => rfl
  | succ d ih => rw [upto, dif_pos (by omega), List.length_append, ih (by omega)]; rfl
theorem backward_c (A : Option Addr) (n c : Nat) (w : World) :
    Calls Tryz.prog 141 #[.slice A n c] w fun e w' =>
      e = .returned (.func (.func 159) #[] #[.pointer (some ⟨w.heap.size, 0, none⟩)]) ∧ w' = w.alloc (.cells #[.slice A n c] 22) := by
  go_enter Tryz.func141, Tryz.ntmps141
  go_wp2_with (fail)
  go_ret
  exact ⟨rfl, rfl⟩
theorem backward1_in (l Ba : Nat) (S : Nat → Prop) (A : Option Addr) (na ca : Nat) (a : List Nat)
    (hna : a.length = na) (hla : na ≤ 1099511627776)
    (hSa : S Ba) (hSA : ∀ ad i, A = some ad → i < a.length → S (ad.add i).block)
    (J Jx : List {x : Nat // x < na} → World → Prop) (hJd : ∀ pre W, J pre W → J pre W.drew)
    (hY : ∀ pre x W, J pre W → pre.length < na → YieldAt Fence.wide 2 Tryz.prog l #[.int .i64 (x.1 : Nat), .int .u32 (gl a x.1 : Nat)] W fun e W' =>
      (e = .returned (.bool true) ∧ J (pre ++ [x]) W' ∧ KeepC S W W') ∨ (e = .returned (.bool false) ∧ Jx (pre ++ [x]) W'))
    (W : World) (h1 : W.cell? ⟨Ba, 0, none⟩ = some (.slice A na ca)) (hA : Rd W A a) (h0 : J [] W) :
    CallsIn Fence.wide 3 Tryz.prog 159 #[.func (.yield l) #[] #[], .pointer (some ⟨Ba, 0, none⟩)] W fun e W' =>
      (∃ v, e = .returned v) ∧ ((∃ xs, xs = upto na na ∧ J xs W') ∨ (∃ pre, pre.length ≤ na ∧ Jx pre W')) := by
  refine callsIn_of_wp Tryz.func159 rfl trivial ?_ rfl
  simp only [Tryz.ntmps159, List.size_toArray, List.length_cons, List.length_nil, Nat.reduceAdd, Nat.reduceSub, Array.replicate_succ, Array.replicate_zero, List.push_toArray, List.append_toArray, List.nil_append, List.cons_append]
  have HY := Lib.hid hY
  clear hY
  gi_wp2_with (fail)
  gi_loopw [3] (fun i wr => ∃ k : Nat, i = .int .i64 ((k : Int) - 1) ∧ k ≤ na ∧ J (upto na (na - k)) wr ∧ KeepC S W wr) (fun i wr => (intOf i + 1).toNat)
  case atStart => exact ⟨na, rfl, Nat.le_refl _, by rw [Nat.sub_self]; exact h0, fun p v _ h => h⟩
  case round =>
    obtain ⟨k, rfl, hk, hJ, hK⟩ := hrel
    cases k with
    | zero =>
      gi_wp2_with (fail)
      refine bodyPost_end (results_none rfl _ _ _) rfl ?_
      exact ⟨⟨_, rfl⟩, .inl ⟨_, rfl, hJ⟩⟩
    | succ k =>
      rw [show (((k + 1 : Nat) : Int) - 1) = (k : Int) by omega]
      have hkna : k < na := by omega
      have g1 := hK _ _ hSa h1
      have HA : Rd wr A a := hK.rd hSA hA
      obtain ⟨ad, rfl, hc⟩ := HA.get k (by omega)
      obtain ⟨fn, tmps, assign, body, hy, hR⟩ := HY.out _ (⟨k, hkna⟩ : {x : Nat // x < na}) wr hJ (by rw [upto_len (by omega)]; omega)
      have HR := Lib.hid (hR.mono (R' := fun e W' => ∃ b, e = .returned (.bool b) ∧ Hid ((b = true ∧ J (upto na (na - (k + 1)) ++ [(⟨k, hkna⟩ : {x : Nat // x < na})]) W' ∧ KeepC S wr W') ∨ (b = false ∧ Jx (upto na (na - (k + 1)) ++ [(⟨k, hkna⟩ : {x : Nat // x < na})]) W'))) (by
        rintro e W' (⟨rfl, h⟩ | ⟨rfl, h⟩)
        · exact ⟨true, rfl, Lib.hid (.inl ⟨rfl, h⟩)⟩
        · exact ⟨false, rfl, Lib.hid (.inr ⟨rfl, h⟩)⟩))
      have HK := Lib.hid hK
      have hlen : (upto na (na - (k + 1)) ++ [(⟨k, hkna⟩ : {x : Nat // x < na})]).length ≤ na := by rw [upto_step hkna, upto_len (by omega)]; omega
      clear hA hK hR hSA hJ hJd HA
      gi_wp2_with (first | (refine (Hid.out HR).mono ?_; rintro e W' ⟨y, rfl, hy⟩))
      · cases y with
        | true => exact absurd ‹(!true) = true› (by decide)
        | false =>
          obtain ⟨h, _⟩ | ⟨_, hx⟩ := hy.out
          · cases h
          · refine bodyPost_ret (results_none rfl _ _ _) rfl ?_
            exact ⟨⟨_, rfl⟩, .inr ⟨_, hlen, hx⟩⟩
      · cases y with
        | true =>
          obtain ⟨_, hJ2, hK2⟩ | ⟨h, _⟩ := hy.out
          · go_roundw
            case rel => exact ⟨k, rfl, by omega, by rw [← upto_step hkna]; exact hJ2, HK.out.t hK2⟩
            case measure => simp only [intOf]; omega
          · cases h
        | false => first | exact absurd ‹(!false) = false› (by decide) | simp_all
theorem backward_stops (Ba : Nat) (S : Nat → Prop) (A : Option Addr) (na ca : Nat) (a : List Nat) (w : World)
    (hna : a.length = na) (hla : na ≤ 1099511627776) (hSa : S Ba) (hSA : ∀ ad i, A = some ad → i < a.length → S (ad.add i).block)
    (h1 : w.cell? ⟨Ba, 0, none⟩ = some (.slice A na ca)) (hA : Rd w A a) :
    SeqStopsK Fence.wide 3 Tryz.prog 159 #[.pointer (some ⟨Ba, 0, none⟩)]
      (fun x : {x : Nat // x < na} => #[.int .i64 (x.1 : Nat), .int .u32 (gl a x.1 : Nat)]) (KeepC S) (fun xs => xs = upto na na) (fun pre => pre.length ≤ na) na w := fun l J Jx W hW hJ _ hY h0 =>
  backward1_in l Ba S A na ca a hna hla hSa hSA J Jx (fun pre W h => hJ pre W W.drew none h ⟨rfl, rfl, rfl, Nat.le_refl _, fun _ _ _ => rfl⟩ (fun r e => by cases e))
    hY W (cell_below hW h1) (hA.below hW) h0
theorem div32_c (h x m : Nat) (w : World) (hh : h < m) (hx : x < 4294967296) (hm : m < 4294967296) :
    Calls Tryz.prog 142 #[.int .u32 h, .int .u32 x, .int .u32 m] w fun e w' =>
      e = .returned (.tuple #[.int .u32 (((h * 4294967296 + x) / m : Nat) : Int), .int .u32 (((h * 4294967296 + x) % m : Nat) : Int)]) ∧ ∃ k, w' = w.drewN k := by
  obtain ⟨t, ht⟩ : ∃ t, t = h * 4294967296 + x := ⟨_, rfl⟩
  have hor := or64 h x (by omega) hx
  rw [← ht] at hor ⊢
  have htl : t < 18446744073709551616 := by omega
  obtain ⟨q, hq⟩ : ∃ q, q = t / m := ⟨_, rfl⟩
  obtain ⟨r, hr⟩ : ∃ r, r = t % m := ⟨_, rfl⟩
  rw [← hq, ← hr]
  have hqI : (t : Int) / (m : Int) = (q : Int) := by rw [hq]; exact (Int.natCast_ediv t m).symm
  have hrI : (t : Int) % (m : Int) = (r : Int) := by rw [hr]; exact (Int.natCast_emod t m).symm
  have hrl : r < 4294967296 := by rw [hr]; exact Nat.lt_trans (Nat.mod_lt _ (by omega)) hm
  have hql : q < 4294967296 := by
    rw [hq, Nat.div_lt_iff_lt_mul (by omega), ht]
    have h1 : (h + 1) * 4294967296 ≤ m * 4294967296 := Nat.mul_le_mul_right _ (by omega)
    rw [Nat.mul_comm 4294967296 m]
    omega
  have hm0 : ¬ (m : Int) = 0 := by omega
  have hm0N : ¬ m = 0 := by omega
  have hmb : ((m : Int) == 0) = false := ieqF (by omega)
  have hmh : decide (m ≤ h) = false := by simp; omega
  have hmh2 : ¬ m ≤ h := by omega
  replace ht := Lib.hid ht
  replace hq := Lib.hid hq
  replace hr := Lib.hid hr
  go_enter Tryz.func142, Tryz.ntmps142
  go_wp2_with (fail)
  go_quiet (fail)
  go_wp2_with (fail)
  exact bodyPost_ret (v := .tuple #[.int .u32 (q : Nat), .int .u32 (r : Nat)]) (by simp [results, Tryz.results142, go_sem]) rfl ⟨rfl, _, rfl⟩
end Go.Proofs.YtopigejgadnkaaaGreatDoor

namespace Go.Proofs.YtopigejgadnkaaaGreatDoor
open Go.RowKit Go.Shelf

attribute [local go_sem] Oper.semAt_some

def runD (m n : Nat) (a : List Nat) (pre : List {x : Nat // x < n}) : List Nat × Nat :=
  pre.foldl (fun s x => (s.1.set x.1 ((s.2 * 4294967296 + gl a x.1) / m), (s.2 * 4294967296 + gl a x.1) % m)) (List.replicate n 0, 0)
theorem runD_snoc (m n : Nat) (a : List Nat) (pre : List {x : Nat // x < n}) (x : {x : Nat // x < n}) : runD m n a (pre ++ [x]) = ((runD m n a pre).1.set x.1 (((runD m n a pre).2 * 4294967296 + gl a x.1) / m), ((runD m n a pre).2 * 4294967296 + gl a x.1) % m) := by
  simp [runD]
theorem snocI {α : Type} {P : List α → Prop} (h0 : P []) (h1 : ∀ l x, P l → P (l ++ [x])) : ∀ l, P l := fun l => by
  rw [← List.reverse_reverse l]
  induction l.reverse with
  | nil => exact h0
  | cons x l ih => rw [List.reverse_cons]; exact h1 _ _ ih
theorem boxed_other {W : World} {B : Nat} {t : TypeId} {v : Value} (h : Boxed W B t v) (p : Addr) (hne : B ≠ p.block) (u : Value) : Boxed (W.setCell p u) B t v := (Below.heap_setCell W p u B hne).trans h
theorem dig_div {h x m : Nat} (hh : h < m) (hx : x < 4294967296) : (h * 4294967296 + x) / m < 4294967296 := by
  rw [Nat.div_lt_iff_lt_mul (by omega)]
  have h1 : (h + 1) * 4294967296 ≤ m * 4294967296 := Nat.mul_le_mul_right _ (by omega)
  rw [Nat.mul_comm 4294967296 m]
  omega
theorem runD_ok {m n : Nat} {a : List Nat} (ha : Lim a) (hm : 0 < m) (pre : List {x : Nat // x < n}) : (runD m n a pre).1.length = n ∧ Lim (runD m n a pre).1 ∧ (runD m n a pre).2 < m := by
  induction pre using snocI with
  | h0 => exact ⟨by simp [runD], Lim.replicate n 0 (by decide), hm⟩
  | h1 pre x ih =>
    rw [runD_snoc]
    exact ⟨by rw [List.length_set]; exact ih.1, ih.2.1.set _ _ (dig_div ih.2.2 (ha.gl _)), Nat.mod_lt _ hm⟩
theorem div_dig_step {u q R m g B : Nat} (hm : 0 < m) (hu : u = (q * m + R) * B + g) : u / m = q * B + (R * B + g) / m ∧ u % m = (R * B + g) % m := by
  have e : u = (R * B + g) + m * (q * B) := by rw [hu, Nat.add_mul]; grind
  rw [e, Nat.add_mul_div_left _ _ hm, Nat.add_mul_mod_self_left]
  exact ⟨by omega, rfl⟩
theorem runD_val (a m n : Nat) (hn : nl a ≤ n) (hm : 0 < m) : ∀ d, d ≤ n → ∀ k, k + d = n → val (runD m n (limbs a) (upto n d)).1 = a / 4294967296 ^ k / m * 4294967296 ^ k ∧ (runD m n (limbs a) (upto n d)).2 = a / 4294967296 ^ k % m ∧ ∀ j, j < k → gl (runD m n (limbs a) (upto n d)).1 j = 0 := by
  intro d
  induction d with
  | zero =>
    intro _ k hk
    rw [div_nl (show nl a ≤ k by omega)]
    refine ⟨by simp [runD, upto, val_replicate], by simp [runD, upto], fun j _ => ?_⟩
    simp [runD, upto, gl, List.getD_eq_getElem?_getD, List.getElem?_replicate]
    split <;> rfl
  | succ d ih =>
    intro hd k hk
    obtain ⟨i1, i2, i3⟩ := ih (by omega) (k + 1) (by omega)
    have hs := upto_step (n := n) (k := k) (by omega)
    rw [show n - (k + 1) = d by omega, show n - k = d + 1 by omega] at hs
    have hlen := (runD_ok (m := m) (n := n) (lim_limbs a) hm (upto n d)).1
    rw [← hs, runD_snoc]
    have hB : (0 : Nat) < 4294967296 := by decide
    have e1 : a / 4294967296 ^ (k + 1) = a / 4294967296 ^ k / 4294967296 := by rw [Nat.pow_succ, Nat.div_div_eq_div_mul]
    have eg := limbs_gl a k
    obtain ⟨u, hu⟩ : ∃ u, u = a / 4294967296 ^ k := ⟨_, rfl⟩
    rw [← hu] at e1 eg
    rw [e1] at i1 i2
    have hdm := div_dig_step (u := u) (q := u / 4294967296 / m) (R := u / 4294967296 % m) (g := u % 4294967296) (B := 4294967296) hm (by
      have h1 := Nat.div_add_mod u 4294967296
      have h2 := Nat.div_add_mod (u / 4294967296) m
      rw [Nat.mul_comm (u / 4294967296 / m) m, h2]
      exact (Nat.div_add_mod' u 4294967296).symm)
    rw [← hu]
    rw [← i2, ← eg] at hdm
    refine ⟨?_, hdm.2.symm, fun j hj => by rw [gl_set_ne (by dsimp only; omega)]; exact i3 j (by omega)⟩
    have hv := val_set k (((runD m n (limbs a) (upto n d)).2 * 4294967296 + gl (limbs a) k) / m) (l := (runD m n (limbs a) (upto n d)).1) (by rw [hlen]; omega)
    rw [← gl_eq, i3 k (by omega), Nat.mul_zero, Nat.add_zero, i1] at hv
    rw [hv, hdm.1, Nat.pow_succ]
    generalize 4294967296 ^ k = P
    grind
theorem dsmall_c (A : Option Addr) (c a m : Nat) (w : World) (hA : NatV w A c a) (ha : nl a ≤ 16777216) (hm : m < 4294967296) (h0 : 0 < m) :
    Calls Tryz.prog 123 #[.slice A (nl a) c, .int .u32 (m : Nat)] w (RetS w (a / m) (a % m)) := by
  refine (callsIn_wide (n := 4)).1 ?_
  have hmk := mk32 (nl a) (nl a) (by omega) (by omega) (by omega)
  simp only [Int.toNat_natCast] at hmk
  have hmb : ((m : Int) == 0) = false := ieqF (by omega)
  obtain ⟨n, hn⟩ : ∃ n, n = nl a := ⟨_, rfl⟩
  have hla : (limbs a).length = n := hn.symm
  have hnl : n ≤ 16777216 := by omega
  have HA := Lib.hid hA
  rw [← hn] at hmk
  rw [show nl a = n from hn.symm]
  replace hn := Lib.hid hn
  clear hA ha
  refine callsIn_of_wp_marks Tryz.func123 rfl trivial ?_ rfl
  simp only [Tryz.ntmps123, List.size_toArray, List.length_cons, List.length_nil, Nat.reduceAdd, Nat.reduceSub, Array.replicate_succ, Array.replicate_zero, List.push_toArray, List.append_toArray, List.nil_append, List.cons_append]
  gi_wp2_with (first
    | (refine ⟨trivial, ?_⟩; gi_at_call 141; refine (callsIn_wide.2 (backward_c A n c _)).mono ?_; rintro e w' ⟨rfl, rfl⟩))
  obtain ⟨s, hs0⟩ : ∃ s, s = w.heap.size := ⟨_, rfl⟩
  obtain ⟨W8, hW8⟩ : ∃ W8, (((((w.alloc (.cells #[.int .u32 (m : Nat)] 62)).alloc (.cells (madeCells #[.int .u32 0] n) 62)).alloc (.cells #[.slice (some ⟨s + 1, 0, none⟩) n n] 22)).alloc (.cells #[.int .u32 0] 62)).alloc (.cells #[.slice A n c] 22)) = W8 := ⟨_, rfl⟩
  have bM : Boxed W8 s 62 (.int .u32 (m : Nat)) := by
    subst hs0 hW8; unfold Boxed; repeat (first | exact at_new (by simp) | refine at_old (by simp <;> omega) ?_)
  have bO : Boxed W8 (s + 2) 22 (.slice (some ⟨s + 1, 0, none⟩) n n) := by
    subst hs0 hW8; unfold Boxed; repeat (first | exact at_new (by simp) | refine at_old (by simp <;> omega) ?_)
  have bR : Boxed W8 (s + 3) 62 (.int .u32 0) := by
    subst hs0 hW8; unfold Boxed; repeat (first | exact at_new (by simp) | refine at_old (by simp <;> omega) ?_)
  have bA : Boxed W8 (s + 4) 22 (.slice A n c) := by
    subst hs0 hW8; unfold Boxed; repeat (first | exact at_new (by simp) | refine at_old (by simp <;> omega) ?_)
  have hR8 : W8.heap[s + 1]? = some (.cells (madeCells #[.int .u32 0] n) 62 (0, 0)) := by
    subst hs0 hW8; repeat (first | exact at_new (by simp) | refine at_old (by simp <;> omega) ?_)
  have hsz : W8.heap.size = s + 5 := by subst hs0 hW8; simp
  have hB0 : Below s w W8 := by
    subst hs0 hW8
    exact ((((((Below.refl _ w).alloc (Nat.le_refl _) _).alloc (by simp) _).alloc (by simp; omega) _).alloc (by simp; omega) _).alloc (by simp; omega) _)
  have hown0 : W8.ownsRow s 62 1 (.slice (some ⟨s + 1, 0, none⟩) n n) n (vals (List.replicate n 0)) := by
    refine ⟨by simp [vals], .inr ⟨s + 1, n, _, rfl, by omega, hR8, Nat.le_refl _, by simp only [maxLen]; omega, by rw [size_madeCells, Nat.mul_one], ?_⟩⟩
    rw [toList_madeCells_one]
    simp [vals]
  rw [← hs0]
  simp only [Nat.add_assoc, Nat.reduceAdd]
  rw [hW8]
  clear hW8
  have HS := Lib.hid hs0
  have hlt : ∀ (X : Option Addr) (l : List Nat), Rd w X l → ∀ ad i, X = some ad → i < l.length → (ad.add i).block < s := fun X l hX ad i e hi => by
    subst e
    obtain ⟨ad', e', hc⟩ := hX.get i hi
    cases e'
    rw [hs0]; exact World.block_lt_of_cell? w _ hc
  clear hs0
  refine wpIn_rangeFunc_ownF (Kp := KeepC (fun k => k < s ∨ k = s + 4)) (w0 := W8) rfl (by omega) (gf := 159) (lb := #[.pointer (some ⟨s + 4, 0, none⟩)]) rfl trivial (enters_of Tryz.func159 (by kernel_rfl) rfl)
    (backward_stops (s + 4) _ A n c (limbs a) W8 hla (by omega) (.inr rfl) (fun ad i e hi => .inl (hlt A (limbs a) HA.out.rd ad i e hi)) bA.cell (HA.out.rd.below (HS.out ▸ hB0)))
    KeepC.t KeepC.b (Below.refl _ _) (fun _ => rfl)
    (fun pre W => (Boxed W (s + 2) 22 (.slice (some ⟨s + 1, 0, none⟩) n n) ∧ W.ownsRow s 62 1 (.slice (some ⟨s + 1, 0, none⟩) n n) n (vals (runD m n (limbs a) pre).1)) ∧ Boxed W (s + 3) 62 (.int .u32 ((runD m n (limbs a) pre).2 : Nat)) ∧
      Boxed W s 62 (.int .u32 (m : Nat)) ∧ Below s w W)
    (fun _ _ _ => False) ?own (fun _ _ _ _ _ hs _ _ => hs) ?start
    (fun x => { tmps := #[.slice A n c, .int .u32 (m : Nat), undef, .pointer (some ⟨s, 0, none⟩), .slice none 0 0, .int .u32 0, .int .i64 0, .pointer (some ⟨s + 2, 0, none⟩), .pointer (some ⟨s + 3, 0, none⟩), .int .i64 (x.1 : Nat), .int .u32 (gl (limbs a) x.1 : Nat),
      .int .u32 (m : Nat), .bool false, .slice A n c, .int .i64 n, .slice (some ⟨s + 1, 0, none⟩) n n, .slice A n c, .func (.func 159) #[] #[.pointer (some ⟨s + 4, 0, none⟩)], .int .i64 (x.1 : Nat), .int .u32 (gl (limbs a) x.1 : Nat),
      undef, undef, undef, undef, undef, undef, undef, undef, undef, undef, undef, undef, undef], defers := [] }) ?assign ?body ?done ?stop
  case own =>
    refine OwnFrom.and (Own.from ?_ _) (OwnFrom.and (Own.from (boxed_own _ _ _) _) (OwnFrom.and (Own.from (boxed_own _ _ _) _) (ownFrom_below (Nat.le_of_eq HS.out) (by omega))))
    intro pre Y Z row h hg hr
    obtain ⟨h1, h2⟩ := h
    refine ⟨boxed_own _ _ (fun _ : Unit => _) () Y Z row h1 hg hr, h2.kept hg (.inr (fun e => ?_))⟩
    obtain ⟨o, ho, hc⟩ := hr (s + 1) e.symm
    rcases h2.2 with ⟨h, _⟩ | ⟨g, cap, cur, h, _, hgb, _⟩
    · cases h
    · cases h; rw [hgb] at ho; cases ho; cases hc
  case start => exact ⟨⟨bO, hown0⟩, bR, bM, hB0⟩
  case assign =>
    intro l x W K hK
    gi_wp2
    exact hK
  case stop =>
    rintro D c pre W _ _ h _
    exact h.elim
  case done =>
    rintro D ys W hD rfl ⟨⟨hv, hrow⟩, hr, hmm, hB⟩ hK
    have hval := runD_val a m n (Nat.le_of_eq hn.out.symm) h0 n (Nat.le_refl _) 0 (by omega)
    rw [Nat.pow_zero, Nat.div_one, Nat.mul_one] at hval
    have hok := runD_ok (m := m) (n := n) (lim_limbs a) h0 (upto n n)
    obtain ⟨X, cx, hXe, hcx, hcm, hrd⟩ := ownV_rd hrow
    cases hXe
    rw [hval.2.1] at hr
    have hc := hv.cell
    have hrc := hr.cell
    have hmake := fun (V : World) (h : Below W.heap.size W V) => make_c (some ⟨s + 1, 0, none⟩) n n (runD m n (limbs a) (upto n n)).1 V hok.1 (hrd.below h) hok.2.1 (by omega) hcx
    rw [hval.1] at hmake
    have HM := Lib.hid hmake
    replace hval := Lib.hid hval
    clear hmake hrow hrd hv hok
    gi_wp2_with (fail)
    refine wpIn_region_inv (fun E a' w' => ∃ (v4 v5 v6 u30 u31 u32 : Value) (Y : Option Addr) (cy : Nat),
      a' = { tmps := #[.slice A n c, .int .u32 (m : Nat), undef, .pointer (some ⟨s, 0, none⟩), v4, v5, v6, .pointer (some ⟨s + 2, 0, none⟩), .pointer (some ⟨s + 3, 0, none⟩), undef, undef,
        .int .u32 (m : Nat), .bool false, .slice A n c, .int .i64 n, .slice (some ⟨s + 1, 0, none⟩) n n, .slice A n c, .func (.func 159) #[] #[.pointer (some ⟨s + 4, 0, none⟩)], undef, undef,
        undef, undef, undef, undef, undef, undef, undef, undef, undef, undef, u30, u31, u32], defers := [{ target := Target.collected D, args := #[] }] } ∧
      (E 0 = true → u30 = .slice (some ⟨s + 1, 0, none⟩) n n) ∧ (E 1 = true → u31 = .slice Y (nl (a / m)) cy ∧ NatV w' Y cy (a / m)) ∧ (E 2 = true → u32 = .int .u32 ((a % m : Nat) : Int)) ∧
      (E 3 = true → v4 = .slice Y (nl (a / m)) cy) ∧ (E 4 = true → v5 = .int .u32 ((a % m : Nat) : Int)) ∧ (E 5 = true → v6 = .int .i64 0) ∧ (E 3 = true → E 1 = true) ∧ Below W.heap.size W w')
      (by kernel_rfl) (by kernel_rfl) ?init ?fin ?step
    case init => exact ⟨_, _, _, _, _, _, none, 0, rfl, by simp, by simp, by simp, by simp, by simp, by simp, by simp, (Below.refl _ _).drew⟩
    case fin =>
      rintro E a' w' ⟨v4, v5, v6, u30, u31, u32, Y, cy, rfl, h30, h31, h32, h4, h5, h6, _, hbY⟩ hall
      obtain ⟨_, hY⟩ := h31 (hall 1 (by decide))
      obtain rfl := h4 (hall 3 (by decide))
      obtain rfl := h5 (hall 4 (by decide))
      obtain rfl := h6 (hall 5 (by decide))
      gi_wp2_with (fail)
      have hDlt : D < W.heap.size := (Array.getElem?_eq_some_iff.1 hK).1
      have hK1 := (hbY.block D hDlt).trans hK
      refine ⟨by simp, .inl ⟨_, _, rfl, run_takeDeferred hK1, ?_⟩⟩
      have hDs : s ≤ D := by omega
      have hWs : s ≤ W.heap.size := by omega
      have hp : Below s w (w'.putObj D (.deferred none)) := (hB.trans (hbY.mono hWs)).trans (belowK_b (w := W8) (by omega) w' D _ _ hD hK1 rfl rfl)
      have hp2 : Below w.heap.size w (w'.putObj D (.deferred none)) := hp.mono (Nat.le_of_eq HS.out.symm)
      refine ⟨.tuple #[.slice Y (nl (a / m)) cy, .int .u32 ((a % m : Nat) : Int), .int .i64 0], by simp [results, Tryz.results123, go_sem], ?_⟩
      refine ⟨Y, cy, rfl, ⟨?_, hY.cap, hY.cmax⟩, hp2⟩
      rcases hY.rd with h | ⟨ad, rfl, h⟩
      · exact .inl h
      · exact .inr ⟨ad, rfl, fun i u hu => cell_kept (h i u hu) (grownBy_putObj' w' D _) (fun r e => by cases e; exact ⟨_, hK1, rfl⟩)⟩
    case step =>
      rintro E a' w' i ⟨v4, v5, v6, u30, u31, u32, Y, cy, rfl, h30, h31, h32, h4, h5, h6, h31', hbY⟩ hi hEi hdep
      have hcell := cell_below hbY hc
      have hcellr := cell_below hbY hrc
      obtain rfl | rfl | rfl | rfl | rfl | rfl : i = 0 ∨ i = 1 ∨ i = 2 ∨ i = 3 ∨ i = 4 ∨ i = 5 := by
        simp at hi; omega
      · refine wpOpIn_step rfl (fun K' hK' => ?_)
        go_simp
        refine hK' _ _ ?_
        exact ⟨_, _, _, _, _, _, Y, cy, rfl, fun _ => rfl, kd h31, kd h32, kd h4, kd h5, kd h6, (fun h => by first | rfl | (have := h31' (by simpa using h); simpa using this)), hbY⟩
      · have d0 := hdep _ rfl ⟨0, .data⟩ (by simp) rfl
        obtain rfl := h30 d0
        refine wpOpIn_step rfl (fun K' hK' => ?_)
        go_simp
        refine ⟨trivial, ?_⟩
        refine (callsIn_wide.2 (HM.out w' hbY)).mono ?_
        rintro e w1 ⟨Y1, c1, rfl, k1, k2⟩
        refine hK' _ _ ?_
        exact ⟨_, _, _, _, _, _, Y1, c1, rfl, kd h30, fun _ => ⟨rfl, k1⟩, kd h32, fun h => (by have h2 := h31' (by simpa using h); rw [hEi] at h2; cases h2), kd h5, kd h6, (fun h => by simp), Below.cons hbY k2⟩
      · refine wpOpIn_step rfl (fun K' hK' => ?_)
        go_simp
        refine hK' _ _ ?_
        exact ⟨_, _, _, _, _, _, Y, cy, rfl, kd h30, kd h31, fun _ => rfl, kd h4, kd h5, kd h6, (fun h => by first | rfl | (have := h31' (by simpa using h); simpa using this)), hbY⟩
      · have d1 := hdep _ rfl ⟨1, .data⟩ (by simp) rfl
        obtain ⟨rfl, hY⟩ := h31 d1
        refine wpOpIn_step rfl (fun K' hK' => ?_)
        go_simp
        refine hK' _ _ ?_
        exact ⟨_, _, _, _, _, _, Y, cy, rfl, kd h30, fun _ => ⟨rfl, hY⟩, kd h32, fun _ => rfl, kd h5, kd h6, (fun h => by simp [d1]), hbY⟩
      · have d2 := hdep _ rfl ⟨2, .data⟩ (by simp) rfl
        obtain rfl := h32 d2
        refine wpOpIn_step rfl (fun K' hK' => ?_)
        go_simp
        refine hK' _ _ ?_
        exact ⟨_, _, _, _, _, _, Y, cy, rfl, kd h30, kd h31, fun _ => rfl, kd h4, fun _ => rfl, kd h6, (fun h => by first | rfl | (have := h31' (by simpa using h); simpa using this)), hbY⟩
      · refine wpOpIn_step rfl (fun K' hK' => ?_)
        go_simp
        refine hK' _ _ ?_
        exact ⟨_, _, _, _, _, _, Y, cy, rfl, kd h30, kd h31, kd h32, kd h4, kd h5, fun _ => rfl, (fun h => by first | rfl | (have := h31' (by simpa using h); simpa using this)), hbY⟩
  case body =>
    rintro l pre x W ⟨⟨hv, hrow⟩, hR, hM, hB⟩ hlen
    have hx := (lim_limbs a).gl x.1
    have hok := runD_ok (m := m) (n := n) (lim_limbs a) h0 pre
    have hrun := runD_snoc m n (limbs a) pre x
    have HC := fun (V : World) => div32_c (runD m n (limbs a) pre).2 (gl (limbs a) x.1) m V hok.2.2 hx hm
    have hxn := x.2
    obtain ⟨r, hr⟩ : ∃ r, r = (runD m n (limbs a) pre).2 := ⟨_, rfl⟩
    obtain ⟨L, hL⟩ : ∃ L, L = (runD m n (limbs a) pre).1 := ⟨_, rfl⟩
    obtain ⟨g, hg⟩ : ∃ g, g = gl (limbs a) x.1 := ⟨_, rfl⟩
    obtain ⟨i, hi⟩ : ∃ i, i = x.1 := ⟨_, rfl⟩
    rw [← hr, ← hL, ← hg] at hrun
    rw [← hr, ← hg] at HC
    rw [← hg, ← hi]
    rw [← hr] at hR
    rw [← hL] at hrow hok
    rw [← hi] at hxn hrun
    obtain ⟨q1, hq1⟩ : ∃ z, z = (r * 4294967296 + g) / m := ⟨_, rfl⟩
    obtain ⟨r1, hr1⟩ : ∃ z, z = (r * 4294967296 + g) % m := ⟨_, rfl⟩
    rw [← hq1, ← hr1] at HC hrun
    have HCX := Lib.hid HC
    have HRN := Lib.hid hrun
    have HOK := Lib.hid hok
    replace hr := Lib.hid hr
    replace hL := Lib.hid hL
    replace hg := Lib.hid hg
    replace hi := Lib.hid hi
    replace hq1 := Lib.hid hq1
    replace hr1 := Lib.hid hr1
    clear HC hrun hok hmk
    have cO := hv.cell
    have cR := hR.cell
    have cM := hM.cell
    have fR := hR.frozen
    have cL : W.cell? ⟨s + 1, i, none⟩ = some (.int .u32 (gl L i : Nat)) := by rw [hrow.cellAt i (by omega), vals_get L _ (by rw [HOK.out.1]; exact hxn)]
    have fL := hrow.frozenAt i
    gi_wp2_with (fail)
    refine wpIn_region_inv (fun E a' w' => ∃ (u20 u21 u22 u23 u24 u25 u26 u27 u28 u29 : Value),
      a' = { tmps := #[.slice A n c, .int .u32 (m : Nat), undef, .pointer (some ⟨s, 0, none⟩), .slice none 0 0, .int .u32 0, .int .i64 0, .pointer (some ⟨s + 2, 0, none⟩), .pointer (some ⟨s + 3, 0, none⟩), .int .i64 (i : Nat), .int .u32 (g : Nat),
        .int .u32 (m : Nat), .bool false, .slice A n c, .int .i64 n, .slice (some ⟨s + 1, 0, none⟩) n n, .slice A n c, .func (.func 159) #[] #[.pointer (some ⟨s + 4, 0, none⟩)], .int .i64 (i : Nat), .int .u32 (g : Nat),
        u20, u21, u22, u23, u24, u25, u26, u27, u28, u29, undef, undef, undef], defers := [] } ∧
      (E 0 = true → u21 = .slice (some ⟨s + 1, 0, none⟩) n n) ∧ (E 1 = true → u22 = .int .i64 (i : Nat)) ∧ (E 2 = true → u23 = .int .u32 (r : Nat)) ∧ (E 3 = true → u24 = .int .u32 (g : Nat)) ∧ (E 4 = true → u25 = .int .u32 (m : Nat)) ∧
      (E 5 = true → u26 = .tuple #[.int .u32 (q1 : Nat), .int .u32 (r1 : Nat)]) ∧ (E 6 = true → u20 = .tuple #[.int .u32 (q1 : Nat), .int .u32 (r1 : Nat)]) ∧ (E 7 = true → u27 = .int .u32 (q1 : Nat)) ∧ (E 8 = true → u28 = .int .u32 (r1 : Nat)) ∧ (E 9 = true → u29 = .pointer (some ⟨s + 1, i, none⟩)) ∧
      ((E 10 = false ∧ E 11 = false ∧ ∃ k, w' = W.drewN k) ∨ (E 0 = true ∧ E 1 = true ∧ E 2 = true ∧ E 3 = true ∧ E 4 = true ∧ E 5 = true ∧ E 6 = true ∧ E 7 = true ∧ E 9 = true ∧ E 10 = true ∧ E 11 = false ∧ ∃ k, w' = (W.drewN k).setCell ⟨s + 1, i, none⟩ (.int .u32 (q1 : Nat))) ∨ (E 0 = true ∧ E 1 = true ∧ E 2 = true ∧ E 3 = true ∧ E 4 = true ∧ E 5 = true ∧ E 6 = true ∧ E 7 = true ∧ E 8 = true ∧ E 9 = true ∧ E 10 = true ∧ E 11 = true ∧ ∃ k, w' = ((W.drewN k).setCell ⟨s + 1, i, none⟩ (.int .u32 (q1 : Nat))).setCell ⟨s + 3, 0, none⟩ (.int .u32 (r1 : Nat)))))
      (by kernel_rfl) (by kernel_rfl) ?init ?fin ?step
    case init => exact ⟨_, _, _, _, _, _, _, _, _, _, rfl, by simp, by simp, by simp, by simp, by simp, by simp, by simp, by simp, by simp, by simp, .inl ⟨rfl, rfl, 1, rfl⟩⟩
    case fin =>
      rintro E a' w' ⟨u20, u21, u22, u23, u24, u25, u26, u27, u28, u29, rfl, h0, h1, h2, h3, h4, h5, h6, h7, h8, h9, hw⟩ hall
      have d11 := hall 11 (by decide)
      simp only [d11, Bool.true_eq_false, false_and, and_false, or_false, false_or] at hw
      obtain ⟨_, _, _, _, _, _, _, _, _, _, _, _, k, rfl⟩ := hw
      have K0 : KeepsOthers W (W.drewN k) := ⟨Nat.le_refl _, fun _ _ h _ => h⟩
      show KeepsOthers W _ ∧ KeepC _ W _ ∧ _
      refine ⟨(K0.trans (KeepsOthers.setCell _ _ _)).trans (KeepsOthers.setCell _ _ _), ?_, ⟨⟨?_, ?_⟩, ?_, ?_, ?_⟩⟩
      · intro p v hp hv
        rw [World.cell?_of_block (a := p) (Below.heap_setCell _ ⟨s + 3, 0, none⟩ _ p.block (by simp; omega)), World.cell?_of_block (a := p) (Below.heap_setCell _ ⟨s + 1, i, none⟩ _ p.block (by simp; omega))]
        exact hv
      · exact (boxed_other (W := W.drewN k) hv ⟨s + 1, i, none⟩ (by simp) _).other (by omega) _
      · rw [HRN.out, vals_set]
        exact ((show (W.drewN k).ownsRow s 62 1 (.slice (some ⟨s + 1, 0, none⟩) n n) n (vals L) from hrow).stored i (.int .u32 (q1 : Nat))).1.kept (grownBy_setCell' _ (s + 3) _) (.inr (by simp [Value.ownBlock]))
      · rw [HRN.out]
        exact Boxed.set _ (boxed_other (W := W.drewN k) hR ⟨s + 1, i, none⟩ (by simp) _)
      · exact (boxed_other (W := W.drewN k) hM ⟨s + 1, i, none⟩ (by simp) _).other (by omega) _
      · exact ((hB.drewN k).setCell (p := ⟨s + 1, i, none⟩) (by simp) _).setCell (p := ⟨s + 3, 0, none⟩) (by simp) _
    case step =>
      rintro E a' w' j ⟨u20, u21, u22, u23, u24, u25, u26, u27, u28, u29, rfl, h0, h1, h2, h3, h4, h5, h6, h7, h8, h9, hw⟩ hj hEi hdep
      obtain rfl | rfl | rfl | rfl | rfl | rfl | rfl | rfl | rfl | rfl | rfl | rfl : j = 0 ∨ j = 1 ∨ j = 2 ∨ j = 3 ∨ j = 4 ∨ j = 5 ∨ j = 6 ∨ j = 7 ∨ j = 8 ∨ j = 9 ∨ j = 10 ∨ j = 11 := by
        simp at hj; omega
      · simp only [hEi, Bool.false_eq_true, false_and, and_false, or_false] at hw
        obtain ⟨e10, e11, k, rfl⟩ := hw
        refine wpOpIn_step rfl (fun K' hK' => ?_)
        go_simp
        refine hK' _ _ ?_
        exact ⟨_, _, _, _, _, _, _, _, _, _, rfl, fun _ => rfl, kd h1, kd h2, kd h3, kd h4, kd h5, kd h6, kd h7, kd h8, kd h9, .inl ⟨by simp [e10], by simp [e11], _, (by first | rfl | (simp only [World.drewN_drewN]; rfl))⟩⟩
      · simp only [hEi, Bool.false_eq_true, false_and, and_false, or_false] at hw
        obtain ⟨e10, e11, k, rfl⟩ := hw
        refine wpOpIn_step rfl (fun K' hK' => ?_)
        go_simp
        refine hK' _ _ ?_
        exact ⟨_, _, _, _, _, _, _, _, _, _, rfl, kd h0, fun _ => rfl, kd h2, kd h3, kd h4, kd h5, kd h6, kd h7, kd h8, kd h9, .inl ⟨by simp [e10], by simp [e11], _, (by first | rfl | (simp only [World.drewN_drewN]; rfl))⟩⟩
      · simp only [hEi, Bool.false_eq_true, false_and, and_false, or_false] at hw
        obtain ⟨e10, e11, k, rfl⟩ := hw
        refine wpOpIn_step rfl (fun K' hK' => ?_)
        go_simp
        refine hK' _ _ ?_
        exact ⟨_, _, _, _, _, _, _, _, _, _, rfl, kd h0, kd h1, fun _ => rfl, kd h3, kd h4, kd h5, kd h6, kd h7, kd h8, kd h9, .inl ⟨by simp [e10], by simp [e11], _, (by first | rfl | (simp only [World.drewN_drewN]; rfl))⟩⟩
      · simp only [hEi, Bool.false_eq_true, false_and, and_false, or_false] at hw
        obtain ⟨e10, e11, k, rfl⟩ := hw
        refine wpOpIn_step rfl (fun K' hK' => ?_)
        go_simp
        refine hK' _ _ ?_
        exact ⟨_, _, _, _, _, _, _, _, _, _, rfl, kd h0, kd h1, kd h2, fun _ => rfl, kd h4, kd h5, kd h6, kd h7, kd h8, kd h9, .inl ⟨by simp [e10], by simp [e11], _, (by first | rfl | (simp only [World.drewN_drewN]; rfl))⟩⟩
      · simp only [hEi, Bool.false_eq_true, false_and, and_false, or_false] at hw
        obtain ⟨e10, e11, k, rfl⟩ := hw
        refine wpOpIn_step rfl (fun K' hK' => ?_)
        go_simp
        refine hK' _ _ ?_
        exact ⟨_, _, _, _, _, _, _, _, _, _, rfl, kd h0, kd h1, kd h2, kd h3, fun _ => rfl, kd h5, kd h6, kd h7, kd h8, kd h9, .inl ⟨by simp [e10], by simp [e11], _, (by first | rfl | (simp only [World.drewN_drewN]; rfl))⟩⟩
      · have d2 := hdep _ rfl ⟨2, .data⟩ (by simp) rfl
        obtain rfl := h2 d2
        have d3 := hdep _ rfl ⟨3, .data⟩ (by simp) rfl
        obtain rfl := h3 d3
        have d4 := hdep _ rfl ⟨4, .data⟩ (by simp) rfl
        obtain rfl := h4 d4
        simp only [hEi, Bool.false_eq_true, false_and, and_false, or_false] at hw
        obtain ⟨e10, e11, k, rfl⟩ := hw
        refine wpOpIn_step rfl (fun K' hK' => ?_)
        go_simp
        refine ⟨trivial, ?_⟩
        refine (CallsIn.inRound l (callsIn_wide.2 (HCX.out _))).mono ?_
        rintro e V ⟨rfl, kq, rfl⟩
        refine hK' _ _ ?_
        exact ⟨_, _, _, _, _, _, _, _, _, _, rfl, kd h0, kd h1, kd h2, kd h3, kd h4, fun _ => rfl, kd h6, kd h7, kd h8, kd h9, .inl ⟨by simp [e10], by simp [e11], _, (by first | rfl | (simp only [World.drewN_drewN]; rfl))⟩⟩
      · have d5 := hdep _ rfl ⟨5, .data⟩ (by simp) rfl
        obtain rfl := h5 d5
        simp only [hEi, Bool.false_eq_true, false_and, and_false, or_false] at hw
        obtain ⟨e10, e11, k, rfl⟩ := hw
        refine wpOpIn_step rfl (fun K' hK' => ?_)
        go_simp
        refine hK' _ _ ?_
        exact ⟨_, _, _, _, _, _, _, _, _, _, rfl, kd h0, kd h1, kd h2, kd h3, kd h4, kd h5, fun _ => rfl, kd h7, kd h8, kd h9, .inl ⟨by simp [e10], by simp [e11], _, (by first | rfl | (simp only [World.drewN_drewN]; rfl))⟩⟩
      · have d6 := hdep _ rfl ⟨6, .data⟩ (by simp) rfl
        obtain rfl := h6 d6
        simp only [hEi, Bool.false_eq_true, false_and, and_false, or_false] at hw
        obtain ⟨e10, e11, k, rfl⟩ := hw
        refine wpOpIn_step rfl (fun K' hK' => ?_)
        go_simp
        refine hK' _ _ ?_
        exact ⟨_, _, _, _, _, _, _, _, _, _, rfl, kd h0, kd h1, kd h2, kd h3, kd h4, kd h5, kd h6, fun _ => rfl, kd h8, kd h9, .inl ⟨by simp [e10], by simp [e11], _, (by first | rfl | (simp only [World.drewN_drewN]; rfl))⟩⟩
      · have d6 := hdep _ rfl ⟨6, .data⟩ (by simp) rfl
        obtain rfl := h6 d6
        simp only [hEi, Bool.false_eq_true, false_and, and_false, or_false] at hw
        refine wpOpIn_step rfl (fun K' hK' => ?_)
        go_simp
        refine hK' _ _ ?_
        rcases hw with ⟨e10, e11, k, rfl⟩ | ⟨d0, d1, d2, d3, d4, d5, d6, d7, d9, d10, e11, k, rfl⟩
        · exact ⟨_, _, _, _, _, _, _, _, _, _, rfl, kd h0, kd h1, kd h2, kd h3, kd h4, kd h5, kd h6, kd h7, fun _ => rfl, kd h9, .inl ⟨by simp [e10], by simp [e11], _, rfl⟩⟩
        · exact ⟨_, _, _, _, _, _, _, _, _, _, rfl, kd h0, kd h1, kd h2, kd h3, kd h4, kd h5, kd h6, kd h7, fun _ => rfl, kd h9, .inr (.inl ⟨by simp [d0], by simp [d1], by simp [d2], by simp [d3], by simp [d4], by simp [d5], by simp [d6], by simp [d7], by simp [d9], by simp [d10], by simp [e11], _, rfl⟩)⟩
      · have d0 := hdep _ rfl ⟨0, .data⟩ (by simp) rfl
        obtain rfl := h0 d0
        have d1 := hdep _ rfl ⟨1, .data⟩ (by simp) rfl
        obtain rfl := h1 d1
        simp only [hEi, Bool.false_eq_true, false_and, and_false, or_false] at hw
        obtain ⟨e10, e11, k, rfl⟩ := hw
        refine wpOpIn_step rfl (fun K' hK' => ?_)
        go_simp
        refine hK' _ _ ?_
        exact ⟨_, _, _, _, _, _, _, _, _, _, rfl, kd h0, kd h1, kd h2, kd h3, kd h4, kd h5, kd h6, kd h7, kd h8, fun _ => rfl, .inl ⟨by simp [e10], by simp [e11], _, (by first | rfl | (simp only [World.drewN_drewN]; rfl))⟩⟩
      · have d9 := hdep _ rfl ⟨9, .data⟩ (by simp) rfl
        have d7 := hdep _ rfl ⟨7, .data⟩ (by simp) rfl
        have d0 := hdep _ rfl ⟨0, .phase⟩ (by simp) rfl
        have d1 := hdep _ rfl ⟨1, .phase⟩ (by simp) rfl
        have d2 := hdep _ rfl ⟨2, .phase⟩ (by simp) rfl
        have d3 := hdep _ rfl ⟨3, .phase⟩ (by simp) rfl
        have d4 := hdep _ rfl ⟨4, .phase⟩ (by simp) rfl
        have d5 := hdep _ rfl ⟨5, .phase⟩ (by simp) rfl
        have d6 := hdep _ rfl ⟨6, .phase⟩ (by simp) rfl
        obtain rfl := h9 d9
        obtain rfl := h7 d7
        simp only [hEi, Bool.false_eq_true, false_and, and_false, or_false, true_and] at hw
        obtain ⟨e11, k, rfl⟩ := hw
        obtain rfl := h0 d0
        obtain rfl := h1 d1
        obtain rfl := h2 d2
        obtain rfl := h3 d3
        obtain rfl := h4 d4
        obtain rfl := h5 d5
        obtain rfl := h6 d6
        refine wpOpIn_step rfl (fun K' hK' => ?_)
        go_simp
        refine hK' _ _ ?_
        exact ⟨_, _, _, _, _, _, _, _, u28, _, rfl, fun _ => rfl, fun _ => rfl, fun _ => rfl, fun _ => rfl, fun _ => rfl, fun _ => rfl, fun _ => rfl, fun _ => rfl, kd h8, fun _ => rfl, .inr (.inl ⟨by simp [d0], by simp [d1], by simp [d2], by simp [d3], by simp [d4], by simp [d5], by simp [d6], by simp [d7], by simp [d9], by simp, by simp [e11], _, rfl⟩)⟩
      · have d8 := hdep _ rfl ⟨8, .data⟩ (by simp) rfl
        have d10 := hdep _ rfl ⟨10, .chain⟩ (by simp) rfl
        obtain rfl := h8 d8
        simp only [hEi, d10, Bool.true_eq_false, Bool.false_eq_true, false_and, and_false, or_false, false_or, true_and] at hw
        obtain ⟨d0, d1, d2, d3, d4, d5, d6, d7, d9, k, rfl⟩ := hw
        obtain rfl := h0 d0
        obtain rfl := h1 d1
        obtain rfl := h2 d2
        obtain rfl := h3 d3
        obtain rfl := h4 d4
        obtain rfl := h5 d5
        obtain rfl := h6 d6
        obtain rfl := h7 d7
        obtain rfl := h9 d9
        have bR := boxed_other (W := W.drewN k) hR ⟨s + 1, i, none⟩ (by simp) (.int .u32 (q1 : Nat))
        have cR2 := bR.cell
        have fR2 := bR.frozen
        refine wpOpIn_step rfl (fun K' hK' => ?_)
        go_simp
        refine hK' _ _ ?_
        exact ⟨_, _, _, _, _, _, _, _, _, _, rfl, fun _ => rfl, fun _ => rfl, fun _ => rfl, fun _ => rfl, fun _ => rfl, fun _ => rfl, fun _ => rfl, fun _ => rfl, fun _ => rfl, fun _ => rfl, .inr (.inr ⟨by simp [d0], by simp [d1], by simp [d2], by simp [d3], by simp [d4], by simp [d5], by simp [d6], by simp [d7], by simp [d8], by simp [d9], by simp [d10], by simp, _, rfl⟩)⟩
end Go.Proofs.YtopigejgadnkaaaGreatDoor

namespace Go.Proofs.YtopigejgadnkaaaGreatDoor
open Go.RowKit Go.Shelf
attribute [local go_sem] max2_i min2_i max_two min_two

end Go.Proofs.YtopigejgadnkaaaGreatDoor

namespace Go.Proofs.YtopigejgadnkaaaGreatDoor
open Go.RowKit Go.Shelf



end Go.Proofs.YtopigejgadnkaaaGreatDoor

namespace Go.Proofs.YtopigejgadnkaaaGreatDoor

def sm {R : Type} [Add R] [OfNat R 0] (f : Nat → R) : Nat → R
  | 0 => 0
  | n + 1 => sm f n + f n
def pw {R : Type} [Mul R] [OfNat R 1] (x : R) : Nat → R
  | 0 => 1
  | n + 1 => pw x n * x
def cv {R : Type} [Add R] [Mul R] [OfNat R 0] (a b : Nat → R) (n j : Nat) : R := sm (fun s => if s ≤ j then a s * b (j - s) else 0) n

section
variable {p : Nat} [NeZero p]


end

namespace NatS


end NatS

section
variable {p : Nat} [NeZero p]



end
end Go.Proofs.YtopigejgadnkaaaGreatDoor

namespace Go.Proofs.YtopigejgadnkaaaGreatDoor
open Go.RowKit



end Go.Proofs.YtopigejgadnkaaaGreatDoor

namespace Go.Proofs.YtopigejgadnkaaaGreatDoor

structure Hom (p : Nat) [NeZero p] (φ : Nat → Fin p) : Prop where
  add : ∀ a b, φ (a + b) = φ a + φ b
  mul : ∀ a b, φ (a * b) = φ a * φ b
  one : φ 1 = 1
  modp : ∀ n, φ (n % p) = φ n
  inj : ∀ a b, φ a = φ b → a % p = b % p

section
variable {p : Nat} [NeZero p] {φ : Nat → Fin p}
theorem Hom.zero (h : Hom p φ) : φ 0 = 0 := by
  have := h.add 0 0
  rw [Nat.add_zero] at this; grind
end



end Go.Proofs.YtopigejgadnkaaaGreatDoor

namespace Go.Proofs.YtopigejgadnkaaaGreatDoor
open Go.RowKit Go.Shelf

def v64 (L : List Nat) : List Value := L.map fun n => .int .u64 (n : Nat)
def Arr (W : World) (b : Nat) (L : List Nat) : Prop := W.heap[b]? = some (.cells (v64 L).toArray 67 (0, 0))
theorem Arr.cell {W b L} (h : Arr W b L) (i : Nat) (hi : i < L.length) : W.cell? ⟨b, i, none⟩ = some (.int .u64 (gl L i : Nat)) := by
  unfold World.cell?; rw [h]; simp [v64, gl, hi]
theorem Arr.frozen {W b L} (h : Arr W b L) (i : Nat) : W.frozen? ⟨b, i, none⟩ = false := by
  unfold World.frozen?; rw [h]; simp
theorem Arr.store {W b L} (h : Arr W b L) (i x : Nat) : Arr (W.setCell ⟨b, i, none⟩ (.int .u64 (x : Nat))) b (L.set i x) := by
  unfold Arr
  rw [heap_setCell_same W b i _ _ _ h]
  simp [v64, List.map_set]
theorem Arr.keep {W W' b L} (h : Arr W b L) (k : W'.heap[b]? = W.heap[b]?) : Arr W' b L := k.trans h
theorem Arr.lt {W b L} (h : Arr W b L) : b < W.heap.size := (Array.getElem?_eq_some_iff.1 h).1
theorem Arr.below {W W' b L} (h : Arr W b L) (k : Below W.heap.size W W') : Arr W' b L := h.keep (k.block b h.lt)
structure Only (b : Nat) (W W' : World) : Prop where
  os : W'.os = W.os
  tape : W'.tape = W.tape
  output : W'.output = W.output
  size : W.heap.size ≤ W'.heap.size
  block : ∀ k, k < W.heap.size → k ≠ b → W'.heap[k]? = W.heap[k]?
theorem Only.refl (b W) : Only b W W := ⟨rfl, rfl, rfl, Nat.le_refl _, fun _ _ _ => rfl⟩
theorem Only.of {b W W'} (h : Below W.heap.size W W') : Only b W W' := ⟨h.os, h.tape, h.output, h.size, fun k hk _ => h.block k hk⟩
theorem Only.trans {b A B C} (h : Only b A B) (k : Only b B C) : Only b A C :=
  ⟨k.os.trans h.os, k.tape.trans h.tape, k.output.trans h.output, Nat.le_trans h.size k.size, fun i hi hb => (k.block i (Nat.lt_of_lt_of_le hi h.size) hb).trans (h.block i hi hb)⟩
theorem Only.cons {b A B C} (h : Only b A B) (k : Below B.heap.size B C) : Only b A C := h.trans (.of k)
theorem Only.drew {b A B} (h : Only b A B) : Only b A B.drew := h.trans (.of (Below.refl _ _).drew)
theorem Only.set (b W i v) : Only b W (W.setCell ⟨b, i, none⟩ v) := by
  have h := (Below.refl b W).setCell (p := ⟨b, i, none⟩) (Nat.le_refl _) v
  exact ⟨h.os, h.tape, h.output, h.size, fun k _ hb => Below.heap_setCell W ⟨b, i, none⟩ v k hb⟩
theorem Only.store {b A B} (h : Only b A B) (i v) : Only b A (B.setCell ⟨b, i, none⟩ v) := h.trans (.set b B i v)
theorem Only.below {b n A B} (h : Only b A B) (hb : n ≤ b) (hn : n ≤ A.heap.size) : Below n A B := ⟨h.os, h.tape, h.output, h.size, fun k hk => h.block k (by omega) (by omega)⟩
theorem Only.cell {b A B p v} (h : Only b A B) (k : A.cell? p = some v) (hp : p.block ≠ b) : B.cell? p = some v :=
  (World.cell?_of_block (w := A) (a := p) (h.block p.block (World.block_lt_of_cell? A p k) hp)).trans k


end Go.Proofs.YtopigejgadnkaaaGreatDoor

namespace Go.Proofs.YtopigejgadnkaaaGreatDoor
open Go.RowKit Go.Shelf
attribute [local go_sem] max2_i min2_i max_two min_two

def A32 (W : World) (g : Nat) (X : List Nat) : Prop := ∃ cur : Array Value, W.heap[g]? = some (.cells cur 62 (0, 0)) ∧ X.length ≤ cur.size ∧ cur.toList.take X.length = vals X
theorem A32.cell {W g X} (h : A32 W g X) (i : Nat) (hi : i < X.length) : W.cell? ⟨g, i, none⟩ = some (.int .u32 (gl X i : Nat)) := by
  obtain ⟨cur, h1, h2, h3⟩ := h
  have h4 := vals_get X i hi
  rw [← h3, List.getElem?_take_of_lt hi, Array.getElem?_toList] at h4
  unfold World.cell?; rw [h1]; simpa using h4
theorem A32.frozen {W g X} (h : A32 W g X) (i : Nat) : W.frozen? ⟨g, i, none⟩ = false := by
  obtain ⟨cur, h1, _⟩ := h
  unfold World.frozen?; rw [h1]; simp
theorem A32.store {W g X} (h : A32 W g X) (i x : Nat) : A32 (W.setCell ⟨g, i, none⟩ (.int .u32 (x : Nat))) g (X.set i x) := by
  obtain ⟨cur, h1, h2, h3⟩ := h
  refine ⟨_, heap_setCell_same W g i _ _ _ h1, by simpa using h2, ?_⟩
  rw [List.length_set, vals_set, ← h3, Array.toList_setIfInBounds, List.take_set]
theorem A32.lt {W g X} (h : A32 W g X) : g < W.heap.size := by
  obtain ⟨cur, h1, _⟩ := h
  exact (Array.getElem?_eq_some_iff.1 h1).1
theorem A32.below {W W' g X} (h : A32 W g X) (k : Below W.heap.size W W') : A32 W' g X := by
  have hl := h.lt
  obtain ⟨cur, h1, h2⟩ := h
  exact ⟨cur, (k.block g hl).trans h1, h2⟩
theorem A32.other {W W' g b X} (h : A32 W g X) (k : Only b W W') (hb : g ≠ b) : A32 W' g X := by
  have hl := h.lt
  obtain ⟨cur, h1, h2⟩ := h
  exact ⟨cur, (k.block g hl hb).trans h1, h2⟩
theorem Only.nat {g : Nat} {W W' : World} {A : Option Addr} {c n : Nat} (h : Only g W W') (k : NatV W A c n) (far : ∀ ad, A = some ad → ad.block ≠ g) : NatV W' A c n := by
  refine ⟨?_, k.cap, k.cmax⟩
  rcases k.rd with h1 | ⟨ad, rfl, h1⟩
  · exact .inl h1
  · refine .inr ⟨ad, rfl, fun i v hv => h.cell (h1 i v hv) ?_⟩
    show (Addr.add ad i).block ≠ g
    unfold Addr.add; split <;> exact far ad rfl
theorem gl_set1 {l : List Nat} {i x : Nat} (h : i < l.length) : gl (l.set i x) i = x := by simp [gl, List.getD_eq_getElem?_getD, h]
theorem wnd_set {X : List Nat} {i k x : Nat} (h : i + k < X.length) : wnd (X.set (i + k) x) i (k + 1) = wnd X i k + 4294967296 ^ k * x := by
  rw [wnd, gl_set1 h, wnd_congr (Y := X) (fun j hj => gl_set_ne (by omega))]
theorem take_step {M X : List Nat} {i k q y cr br p d o lo br' cr' yk : Nat} (hl : i + k < M.length) (hv : wnd M i k + q * (y % 4294967296 ^ k) = wnd X i k + 4294967296 ^ k * (cr + br)) (ho : gl X (i + k) = o) (hy : yk = y / 4294967296 ^ k % 4294967296) (hp : p = q * yk + cr) (hc : cr' = p / 4294967296) (hlo : lo = p % 4294967296) (hd : o + 4294967296 * br' = d + lo + br) :
    wnd (M.set (i + k) d) i (k + 1) + q * (y % 4294967296 ^ (k + 1)) = wnd X i (k + 1) + 4294967296 ^ (k + 1) * (cr' + br') := by
  rw [wnd_set hl, wnd, ho, mod_dig, ← hy, Nat.pow_succ]
  have h1 := Nat.div_add_mod p 4294967296
  rw [← hc, ← hlo] at h1
  generalize 4294967296 ^ k = P at *
  generalize y % P = ym at *
  generalize wnd M i k = m at *
  generalize wnd X i k = x at *
  have e1 : q * yk + cr + br + d = o + 4294967296 * br' + 4294967296 * cr' := by omega
  grind
theorem take_c (g i n c : Nat) (X : List Nat) (B : Option Addr) (d y q : Nat) (w : World) (hX : A32 w g X) (hXl : Lim X) (hin : i + n + 1 ≤ X.length) (hXb : X.length ≤ 1073741824) (hc : n + 1 ≤ c) (hB : NatV w B d y) (hyn : nl y = n) (far : ∀ ad, B = some ad → ad.block ≠ g) (hq : q < 4294967296) :
    Calls Tryz.prog 126 #[.slice (some ⟨g, i, none⟩) (n + 1 : Nat) c, .slice B n d, .int .u64 (q : Nat)] w fun e w' => ∃ (X' : List Nat) (br : Nat), e = .returned (.bool (decide (0 < br))) ∧ br ≤ 1 ∧ Only g w w' ∧ A32 w' g X' ∧ Lim X' ∧ X'.length = X.length ∧ (∀ j, j < i ∨ i + n < j → gl X' j = gl X j) ∧ wnd X' i (n + 1) + q * y = wnd X i (n + 1) + 4294967296 ^ (n + 1) * br := by
  replace hyn := Lib.hid hyn
  have hXL := Lib.hid (rfl : X.length = X.length)
  obtain ⟨N, hN⟩ : ∃ N, N = X.length := ⟨_, rfl⟩
  rw [← hN] at hin hXb
  replace hN := Lib.hid hN
  replace far := Lib.hid far
  clear hXL
  go_enter Tryz.func126, Tryz.ntmps126
  go_wp2_with (fail)
  go_loopw [7, 8, 9, 10, 14] (fun vc vb vi vp ct wr => ∃ (k cr br : Nat) (M : List Nat), ct = .int .i64 k ∧ vc = .int .u64 cr ∧ vb = .int .u32 br ∧ k ≤ n + 1 ∧ cr < 4294967296 ∧ br ≤ 1 ∧ Only g w wr ∧ A32 wr g M ∧ Lim M ∧ Hid (M.length = N) ∧ Hid (∀ j, j < i ∨ i + k ≤ j → gl M j = gl X j) ∧ Hid (wnd M i k + q * (y % 4294967296 ^ k) = wnd X i k + 4294967296 ^ k * (cr + br)) ∧ Hid (k = n + 1 → cr = 0)) (fun vc vb vi vp ct wr => n + 1 - (intOf ct).toNat)
  case atStart => exact ⟨0, 0, 0, X, rfl, rfl, rfl, Nat.zero_le _, by decide, by decide, .refl _ _, hX, hXl, Lib.hid hN.out.symm, Lib.hid (fun _ _ => rfl), Lib.hid (by simp [wnd, Nat.mod_one]), Lib.hid (fun h => by omega)⟩
  case round =>
    obtain ⟨k, cr, br, M, rfl, rfl, rfl, hk, hcr, hbr, ho, hM, hMl, hlen, hout, hval, hend⟩ := hrel
    by_cases hlt : k < n + 1
    · have hik : i + k < M.length := by rw [hlen.out]; omega
      have hd0 : decide ((k : Int) < (n : Int) + 1) = true := by simp; omega
      have hcell := hM.cell (i + k) hik
      have hfz := hM.frozen (i + k)
      have hox := hout.out (i + k) (.inr (Nat.le_refl _))
      obtain ⟨o, hoo⟩ : ∃ o, o = gl M (i + k) := ⟨_, rfl⟩
      have hol : o < 4294967296 := by rw [hoo]; exact hMl.gl _
      rw [← hoo] at hcell hox
      obtain ⟨yk, hyk⟩ : ∃ z, z = y / 4294967296 ^ k % 4294967296 := ⟨_, rfl⟩
      have hykl : yk < 4294967296 := by rw [hyk]; exact dig_lt _ _
      obtain ⟨p, hp⟩ : ∃ p, p = q * yk + cr := ⟨_, rfl⟩
      have hpl : p ≤ 18446744069414584320 := by rw [hp]; have := mul_bd hq hykl; omega
      obtain ⟨lo, hlo⟩ : ∃ z, z = p % 4294967296 := ⟨_, rfl⟩
      have hloI : (p : Int) % 4294967296 = (lo : Int) := by omega
      have hlol : lo < 4294967296 := by omega
      obtain ⟨cr', hcr'⟩ : ∃ z, z = p / 4294967296 := ⟨_, rfl⟩
      have hcrI : (p : Int) / 4294967296 = (cr' : Int) := by omega
      have hcrl : cr' < 4294967296 := by omega
      have CS := sub32_c o lo br wr hol hlol hbr
      have hde := dif_eq hol hlol hbr
      have hdl := dif_lt o lo br
      have hbl := brw_le o lo br
      obtain ⟨dd, hdd⟩ : ∃ z, z = dif o lo br := ⟨_, rfl⟩
      obtain ⟨bb, hbb⟩ : ∃ z, z = brw o lo br := ⟨_, rfl⟩
      rw [← hdd, ← hbb] at CS hde
      rw [← hdd] at hdl
      rw [← hbb] at hbl
      have hst := hM.store (i + k) dd
      have hfin := take_step hik hval.out hox.symm hyk hp hcr' hlo hde
      have hgo : Hid (∀ j, j < i ∨ i + (k + 1) ≤ j → gl (M.set (i + k) dd) j = gl X j) := Lib.hid (fun j hj => by rw [gl_set_ne (by omega)]; exact hout.out j (by omega))
      have hle : Hid ((M.set (i + k) dd).length = N) := Lib.hid (by rw [List.length_set]; exact hlen.out)
      replace CS := Lib.hid CS
      replace hfin := Lib.hid hfin
      replace hik := Lib.hid hik
      replace hoo := Lib.hid hoo
      replace hlo := Lib.hid hlo
      replace hcr' := Lib.hid hcr'
      replace hdd := Lib.hid hdd
      replace hbb := Lib.hid hbb
      clear hde
      replace hox := Lib.hid hox
      by_cases hkn : k < n
      · obtain ⟨ad, hade, hcy⟩ := (ho.nat hB far.out).rd.get k (by show k < nl y; rw [hyn.out]; exact hkn)
        rw [limbs_gl, ← hyk] at hcy
        subst hade
        replace hyk := Lib.hid hyk
        obtain ⟨r, hr⟩ : ∃ r, r = q * yk := ⟨_, rfl⟩
        have hrI : (q : Int) * (yk : Int) = (r : Int) := by rw [hr]; exact (Int.natCast_mul q yk).symm
        have hrl : r ≤ 18446744065119617025 := by rw [hr]; exact mul_bd hq hykl
        have hpI : (r : Int) + (cr : Int) = (p : Int) := by rw [hp, hr]; simp
        replace hp := Lib.hid hp
        replace hr := Lib.hid hr
        go_wp2_with (fail)
        refine CS.out.mono ?_
        rintro e w' ⟨rfl, hww⟩
        subst hww
        go_wp2_with (fail)
        go_roundw
        case rel => exact ⟨k + 1, cr', bb, M.set (i + k) dd, by go_num, by first | rfl | trivial, by first | rfl | trivial, by omega, hcrl, hbl, ho.store _ _, hst, hMl.set _ _ hdl, hle, hgo, hfin, Lib.hid (fun h => by omega)⟩
        case measure => simp only [intOf]; omega
      · have hk2 : k = n := by omega
        have hy0 : yk = 0 := by rw [hyk, hk2, div_nl (Nat.le_of_eq hyn.out), Nat.zero_mod]
        have hpc : p = cr := by rw [hp, hy0]; simp
        have hc0 : cr' = 0 := by rw [hcr'.out]; omega
        have hlp : lo = p := by rw [hlo.out]; omega
        have CS2 := CS.out
        rw [hlp] at CS2
        replace CS2 := Lib.hid CS2
        clear hloI
        replace hlp := Lib.hid hlp
        subst hpc
        replace hc0 := Lib.hid hc0
        replace hk2 := Lib.hid hk2
        replace hy0 := Lib.hid hy0
        replace hyk := Lib.hid hyk
        replace hp := Lib.hid hp
        go_wp2_with (fail)
        refine CS2.out.mono ?_
        rintro e w' ⟨rfl, hww⟩
        subst hww
        go_wp2_with (fail)
        go_roundw
        case rel => exact ⟨k + 1, cr', bb, M.set (i + k) dd, by go_num, by first | rfl | trivial, by first | rfl | trivial, by omega, hcrl, hbl, ho.store _ _, hst, hMl.set _ _ hdl, hle, hgo, hfin, Lib.hid (fun h => hc0.out)⟩
        case measure => simp only [intOf]; omega
    · have hk2 : k = n + 1 := by omega
      have hc0 := hend.out hk2
      have h1 := hval.out
      rw [hk2, hc0, mod_nl (show nl y ≤ n + 1 by rw [hyn.out]; omega), Nat.zero_add] at h1
      have h2 : ∀ j, j < i ∨ i + n < j → gl M j = gl X j := fun j hj => hout.out j (by omega)
      have h3 : M.length = X.length := by rw [hlen.out, hN.out]
      replace h1 := Lib.hid h1
      replace h2 := Lib.hid h2
      replace h3 := Lib.hid h3
      replace hk2 := Lib.hid hk2
      replace hc0 := Lib.hid hc0
      go_wp2_with (fail)
      go_ret
      exact ⟨M, br, by first | rfl | (congr 2; simp), hbr, ho, hM, hMl, h3.out, h2.out, h1.out⟩
theorem back_step {M X : List Nat} {i k y cr o yk : Nat} (hl : i + k < M.length) (hv : wnd M i k + 4294967296 ^ k * cr = wnd X i k + y % 4294967296 ^ k) (ho : gl X (i + k) = o) (hy : yk = y / 4294967296 ^ k % 4294967296) :
    wnd (M.set (i + k) ((o + yk + cr) % 4294967296)) i (k + 1) + 4294967296 ^ (k + 1) * ((o + yk + cr) / 4294967296) = wnd X i (k + 1) + y % 4294967296 ^ (k + 1) := by
  rw [wnd_set hl, wnd, ho, mod_dig, ← hy, Nat.pow_succ]
  have h1 := Nat.div_add_mod (o + yk + cr) 4294967296
  generalize (o + yk + cr) % 4294967296 = s at *
  generalize (o + yk + cr) / 4294967296 = c at *
  generalize 4294967296 ^ k = P at *
  generalize y % P = ym at *
  generalize wnd M i k = m at *
  generalize wnd X i k = x at *
  grind
theorem back_c (g i n c : Nat) (X : List Nat) (B : Option Addr) (d y : Nat) (w : World) (hX : A32 w g X) (hXl : Lim X) (hin : i + n + 1 ≤ X.length) (hXb : X.length ≤ 1073741824) (hc : n + 1 ≤ c) (hB : NatV w B d y) (hyn : nl y = n) (far : ∀ ad, B = some ad → ad.block ≠ g) :
    Calls Tryz.prog 127 #[.slice (some ⟨g, i, none⟩) (n + 1 : Nat) c, .slice B n d] w fun e w' => ∃ (X' : List Nat) (cc : Nat), e = .returned (.tuple #[]) ∧ Only g w w' ∧ A32 w' g X' ∧ Lim X' ∧ X'.length = X.length ∧ (∀ j, j < i ∨ i + n < j → gl X' j = gl X j) ∧ wnd X' i (n + 1) + 4294967296 ^ (n + 1) * cc = wnd X i (n + 1) + y := by
  replace hyn := Lib.hid hyn
  obtain ⟨N, hN⟩ : ∃ N, N = X.length := ⟨_, rfl⟩
  rw [← hN] at hin hXb
  replace hN := Lib.hid hN
  replace far := Lib.hid far
  go_enter Tryz.func127, Tryz.ntmps127
  go_wp2_with (fail)
  go_loopw [4, 5, 8] (fun vc vi ct wr => ∃ (k cr : Nat) (M : List Nat), ct = .int .i64 k ∧ vc = .int .u32 cr ∧ k ≤ n ∧ cr ≤ 1 ∧ Only g w wr ∧ A32 wr g M ∧ Lim M ∧ Hid (M.length = N) ∧ Hid (∀ j, j < i ∨ i + k ≤ j → gl M j = gl X j) ∧ Hid (wnd M i k + 4294967296 ^ k * cr = wnd X i k + y % 4294967296 ^ k)) (fun vc vi ct wr => n - (intOf ct).toNat)
  case atStart => exact ⟨0, 0, X, rfl, rfl, Nat.zero_le _, by decide, .refl _ _, hX, hXl, Lib.hid hN.out.symm, Lib.hid (fun _ _ => rfl), Lib.hid (by simp [wnd, Nat.mod_one])⟩
  case round =>
    obtain ⟨k, cr, M, rfl, rfl, hk, hcr, ho, hM, hMl, hlen, hout, hval⟩ := hrel
    by_cases hlt : k < n
    · have hik : i + k < M.length := by rw [hlen.out]; omega
      have hMd : A32 wr.drew g M := hM
      have hcell := hMd.cell (i + k) hik
      have hfz := hMd.frozen (i + k)
      have hox := hout.out (i + k) (.inr (Nat.le_refl _))
      obtain ⟨o, hoo⟩ : ∃ o, o = gl M (i + k) := ⟨_, rfl⟩
      have hol : o < 4294967296 := by rw [hoo]; exact hMl.gl _
      rw [← hoo] at hcell hox
      obtain ⟨yk, hyk⟩ : ∃ z, z = y / 4294967296 ^ k % 4294967296 := ⟨_, rfl⟩
      have hykl : yk < 4294967296 := by rw [hyk]; exact dig_lt _ _
      have hfin := back_step (cr := cr) hik hval.out hox.symm hyk
      have CA := fun (W : World) => add32_c o yk cr W hol hykl hcr
      obtain ⟨s, hs⟩ : ∃ z, z = (o + yk + cr) % 4294967296 := ⟨_, rfl⟩
      obtain ⟨c', hc'⟩ : ∃ z, z = (o + yk + cr) / 4294967296 := ⟨_, rfl⟩
      have hsl : s < 4294967296 := by rw [hs]; exact Nat.mod_lt _ (by decide)
      have hcl : c' ≤ 1 := by omega
      rw [← hs, ← hc'] at hfin CA
      have hst := hMd.store (i + k) s
      have hgo : Hid (∀ j, j < i ∨ i + (k + 1) ≤ j → gl (M.set (i + k) s) j = gl X j) := Lib.hid (fun j hj => by rw [gl_set_ne (by omega)]; exact hout.out j (by omega))
      have hle : Hid ((M.set (i + k) s).length = N) := Lib.hid (by rw [List.length_set]; exact hlen.out)
      obtain ⟨ad, hade, hcy⟩ := (ho.drew.nat hB far.out).rd.get k (by show k < nl y; rw [hyn.out]; exact hlt)
      rw [limbs_gl, ← hyk] at hcy
      subst hade
      have hik2 : k < n + 1 := by omega
      replace CA := Lib.hid CA
      replace hfin := Lib.hid hfin
      replace hik := Lib.hid hik
      replace hoo := Lib.hid hoo
      replace hox := Lib.hid hox
      replace hs := Lib.hid hs
      replace hc' := Lib.hid hc'
      replace hyk := Lib.hid hyk
      go_wp2_with (fail)
      go_region_with (go_at_call 120; (with_reducible refine (CA.out _).mono ?_); rintro e w' ⟨rfl, rfl⟩)
      all_goals
        go_wp2_with (fail)
        go_roundw
        case rel => exact ⟨k + 1, c', M.set (i + k) s, by go_num, by first | rfl | trivial, by omega, hcl, ho.drew.store _ _, hst, hMl.set _ _ hsl, hle, hgo, hfin⟩
        case measure => simp only [intOf]; omega
    · have hk2 : k = n := by omega
      have hik : i + n < M.length := by rw [hlen.out]; omega
      have hcell := hM.cell (i + n) hik
      have hfz := hM.frozen (i + n)
      have hox := hout.out (i + n) (.inr (by omega))
      obtain ⟨o, hoo⟩ : ∃ o, o = gl M (i + n) := ⟨_, rfl⟩
      have hol : o < 4294967296 := by rw [hoo]; exact hMl.gl _
      rw [← hoo] at hcell hox
      have h1 := hval.out
      rw [hk2] at h1
      have hfin := back_step (cr := cr) hik h1 hox.symm rfl
      rw [div_nl (show nl y ≤ n by rw [hyn.out]; exact Nat.le_refl _), Nat.zero_mod, mod_nl (show nl y ≤ n + 1 by rw [hyn.out]; omega), Nat.add_zero] at hfin
      obtain ⟨s, hs⟩ : ∃ z, z = (o + cr) % 4294967296 := ⟨_, rfl⟩
      have hsI : ((o : Int) + (cr : Int)) % 4294967296 = (s : Int) := by omega
      have hsl : s < 4294967296 := by omega
      rw [← hs] at hfin
      have hst := hM.store (i + n) s
      have h2 : ∀ j, j < i ∨ i + n < j → gl (M.set (i + n) s) j = gl X j := fun j hj => by rw [gl_set_ne (by omega)]; exact hout.out j (by omega)
      have h3 : (M.set (i + n) s).length = X.length := by rw [List.length_set, hlen.out, hN.out]
      replace h2 := Lib.hid h2
      replace h3 := Lib.hid h3
      replace hfin := Lib.hid hfin
      replace hik := Lib.hid hik
      replace hoo := Lib.hid hoo
      replace hox := Lib.hid hox
      replace hs := Lib.hid hs
      replace hk2 := Lib.hid hk2
      clear h1
      go_wp2_with (fail)
      refine bodyPost_end (v := .tuple #[]) (by simp [results, Tryz.results127, go_sem]) rfl ?_
      refine ⟨M.set (i + n) s, _, rfl, ?_, ?_, hMl.set _ _ hsl, h3.out, h2.out, hfin.out⟩
      · first | exact ho.store _ _ | (simp only [hsI]; exact ho.store _ _)
      · first | exact hst | (simp only [hsI]; exact hst)
theorem lz32_c (x : Nat) (w : World) (h : x < 4294967296) :
    Calls Tryz.prog 124 #[.int .u32 (x : Nat)] w fun e w' => e = .returned (.int .i64 ((32 - Lib.bitLen x : Nat) : Int)) ∧ w' = w := by
  have CL := len32_c x w h
  have hb := Lib.bitLen_le x 32 (by decide) h
  obtain ⟨v, hv⟩ : ∃ v, v = Lib.bitLen x := ⟨_, rfl⟩
  rw [← hv] at CL hb ⊢
  replace CL := Lib.hid CL
  replace hv := Lib.hid hv
  go_enter Tryz.func124, Tryz.ntmps124
  go_wp2_with (fail)
  refine CL.out.mono ?_
  rintro e w' ⟨rfl, hw⟩
  replace hw := hw.symm
  subst hw
  go_wp2_with (fail)
  go_ret
  exact ⟨ret_int (by omega), rfl⟩
theorem nl_norm {b : Nat} (h : b ≠ 0) : nl (b * 2 ^ (32 - Lib.bitLen (gl (limbs b) (nl b - 1)))) = nl b := by
  have h1 := limbs_last b h
  have h2 := (lim_limbs b).gl (nl b - 1)
  obtain ⟨e1, e2, e3⟩ := Lib.bitLenAux_bounds 64 _ (Nat.lt_trans h2 (by decide)) h1
  have hb32 : Lib.bitLen (gl (limbs b) (nl b - 1)) ≤ 32 := Lib.bitLen_le _ 32 (by decide) h2
  have h3 : b / 4294967296 ^ (nl b - 1) = gl (limbs b) (nl b - 1) := pow32_top h
  change 1 ≤ Lib.bitLen (gl (limbs b) (nl b - 1)) at e1
  change gl (limbs b) (nl b - 1) < 2 ^ Lib.bitLen (gl (limbs b) (nl b - 1)) at e3
  have hp := nl_pos.2 h
  generalize Lib.bitLen (gl (limbs b) (nl b - 1)) = L at *
  refine Nat.le_antisymm ?_ (nl_mono (Nat.le_mul_of_pos_right _ (Nat.two_pow_pos _)))
  rw [nl_le]
  have h4 : b < 4294967296 ^ (nl b - 1) * 2 ^ L := by
    rw [Nat.mul_comm, ← Nat.div_lt_iff_lt_mul (Nat.pow_pos (by decide)), h3]; exact e3
  have h5 := Nat.mul_lt_mul_of_pos_right h4 (Nat.two_pow_pos (32 - L))
  rw [Nat.mul_assoc, ← Nat.pow_add, show L + (32 - L) = 32 by omega] at h5
  rw [show nl b = nl b - 1 + 1 by omega, Nat.pow_succ]
  simpa using h5
theorem A32.of {w : World} {b g n c : Nat} {L : List Nat} (h : w.ownsRow b 62 1 (.slice (some ⟨g, 0, none⟩) n c) n (vals L)) (hl : L.length = n) : A32 w g L ∧ b ≤ g := by
  rcases h.2 with ⟨e, _⟩ | ⟨g', cap, cur, e, h3, h4, h5, h6, h7, h8⟩
  · simp at e
  · simp only [Value.slice.injEq, Option.some.injEq, Addr.mk.injEq, and_true, true_and] at e
    obtain ⟨rfl, rfl⟩ := e
    refine ⟨⟨cur, h4, by omega, ?_⟩, h3⟩
    rw [hl]; simpa using h8
theorem A32.rd {W g X} (h : A32 W g X) : Rd W (some ⟨g, 0, none⟩) X := by
  refine .inr ⟨_, rfl, fun i u hu => ?_⟩
  have hi : i < X.length := by
    have := (List.getElem?_eq_some_iff.1 hu).1
    rwa [vals_length] at this
  have h1 := h.cell i hi
  rw [vals_get X i hi] at hu
  have e : (Addr.add ⟨g, 0, none⟩ i) = ⟨g, i, none⟩ := by simp only [Addr.add]; split <;> simp_all
  rw [e, h1, ← hu]
theorem far_of {w : World} {A : Option Addr} {c n g : Nat} (h : NatV w A c n) (hg : w.heap.size ≤ g) (hn : n ≠ 0) : ∀ ad, A = some ad → ad.block ≠ g := by
  rintro ad rfl
  obtain ⟨ad', e, hc⟩ := h.rd.get 0 (by show 0 < nl n; exact nl_pos.2 hn)
  cases e
  have h1 := World.block_lt_of_cell? w _ hc
  have h2 : (Addr.add ad 0).block = ad.block := by unfold Addr.add; split <;> rfl
  rw [h2] at h1
  omega
theorem wnd3 {X : List Nat} (hX : Lim X) (k n : Nat) : wnd X k (n + 2 + 1) = (gl X (k + n + 2) * 4294967296 * 4294967296 + gl X (k + n + 1) * 4294967296 + gl X (k + n)) * 4294967296 ^ n + wnd X k n := by
  have p1 : 4294967296 ^ (n + 1) = 4294967296 ^ n * 4294967296 := Nat.pow_succ _ _
  have p2 : 4294967296 ^ (n + 2) = 4294967296 ^ n * 4294967296 * 4294967296 := by rw [Nat.pow_succ, Nat.pow_succ]
  rw [wnd, wnd, wnd, p1, p2]
  rw [show k + (n + 2) = k + n + 2 by omega, show k + (n + 1) = k + n + 1 by omega]
  generalize 4294967296 ^ n = P
  grind
theorem nat2 {y n : Nat} (h : nl y = n + 2) : y = (gl (limbs y) (n + 1) * 4294967296 + gl (limbs y) n) * 4294967296 ^ n + wnd (limbs y) 0 n ∧ wnd (limbs y) 0 n < 4294967296 ^ n ∧ 0 < gl (limbs y) (n + 1) := by
  refine ⟨?_, wnd_lt (lim_limbs y) 0 n, ?_⟩
  · have h1 := wnd_val (limbs y) (n + 2) (by show nl y ≤ n + 2; omega)
    have p1 : 4294967296 ^ (n + 1) = 4294967296 ^ n * 4294967296 := Nat.pow_succ _ _
    rw [val_limbs, wnd, wnd, Nat.zero_add, Nat.zero_add, p1] at h1
    generalize wnd (limbs y) 0 n = v at *
    generalize gl (limbs y) n = p at *
    generalize gl (limbs y) (n + 1) = q at *
    generalize 4294967296 ^ n = P at *
    rw [← h1]
    clear h1 p1 h
    grind
  · have h1 := limbs_last y (fun e => by rw [e, nl_zero] at h; omega)
    rw [h] at h1
    exact Nat.pos_of_ne_zero h1
theorem step_row {M M' : List Nat} {y k n : Nat} (hM : Lim M) (hM' : Lim M') (hlt : val M < y * 4294967296 ^ (k + 1)) (hy : nl y = n) (hl : M'.length = M.length) (hkn : k + n + 1 ≤ M.length)
    (hout : ∀ j, j < k ∨ k + n < j → gl M' j = gl M j) (hw : wnd M' k (n + 1) = wnd M k (n + 1) % y) :
    wnd M k (n + 1) = val M / 4294967296 ^ k ∧ val M' = val M % 4294967296 ^ k + 4294967296 ^ k * (val M / 4294967296 ^ k % y) := by
  have hz : ∀ j, k + (n + 1) ≤ j → gl M j = 0 := fun j hj => by
    rw [val_gl hM, Nat.div_eq_of_lt, Nat.zero_mod]
    refine Nat.lt_of_lt_of_le hlt ?_
    have h1 := nl_lt y
    rw [hy] at h1
    refine Nat.le_trans (Nat.mul_le_mul_right _ (Nat.le_of_lt h1)) ?_
    rw [← Nat.pow_add]
    exact Nat.pow_le_pow_right (by decide) (by omega)
  have e1 := wnd_eq_div hM k (n + 1) hz
  refine ⟨e1, ?_⟩
  have hz' : ∀ j, k + (n + 1) ≤ j → gl M' j = 0 := fun j hj => by rw [hout j (by omega)]; exact hz j hj
  have e2 := wnd_eq_div hM' k (n + 1) hz'
  have e3 : val M' % 4294967296 ^ k = val M % 4294967296 ^ k := by
    rw [← val_take hM', ← val_take hM]
    congr 1
    apply List.ext_getElem?
    intro j
    by_cases hj : j < k
    · rw [List.getElem?_take_of_lt hj, List.getElem?_take_of_lt hj]
      have h1 := hout j (.inl hj)
      have hjl : j < M.length := by omega
      rw [gl_get hjl, gl_get (by omega)] at h1
      rw [List.getElem?_eq_getElem hjl, List.getElem?_eq_getElem (by omega), h1]
    · rw [List.getElem?_take_eq_none (by omega), List.getElem?_take_eq_none (by omega)]
  have h1 := Nat.div_add_mod (val M') (4294967296 ^ k)
  rw [← h1, e3, ← e2, hw, e1, Nat.add_comm]
theorem div_round {M M' Q : List Nat} {y k n a2 g : Nat} (hM : Lim M) (hM' : Lim M') (hlt : val M < y * 4294967296 ^ (k + 1)) (hy : nl y = n) (hl : M'.length = M.length) (hkn : k + n + 1 ≤ M.length)
    (hout : ∀ j, j < k ∨ k + n < j → gl M' j = gl M j) (hw : wnd M' k (n + 1) = wnd M k (n + 1) % y) (hsum : a2 = val Q * y + val M) (hQ : k < Q.length) (hz : ∀ j, j < k + 1 → gl Q j = 0) (hg : g = wnd M k (n + 1) / y) (hy0 : 0 < y) :
    val M' < y * 4294967296 ^ k ∧ a2 = val (Q.set k g) * y + val M' ∧ ∀ j, j < k → gl (Q.set k g) j = 0 := by
  obtain ⟨e1, e2⟩ := step_row hM hM' hlt hy hl hkn hout hw
  have hP : 0 < 4294967296 ^ k := Nat.pow_pos (by decide)
  have d1 := digit_less (V := val M) hy0 hP
  have d2 := digit_split (val M) y (4294967296 ^ k)
  rw [← e2] at d1 d2
  rw [← e1, ← hg] at d2
  have hs := val_set k g hQ
  rw [← gl_eq, hz k (by omega), Nat.mul_zero, Nat.add_zero] at hs
  refine ⟨d1, ?_, fun j hj => by rw [gl_set_ne (by omega)]; exact hz j (by omega)⟩
  rw [hs, hsum, d2]
  clear hs hsum d2 d1 e2 e1 hP hlt
  generalize 4294967296 ^ k = P
  grind
theorem row_zero {M : List Nat} {y k n : Nat} (hM : Lim M) (hlt : val M < y * 4294967296 ^ (k + 1)) (hy : nl y = n) : ∀ j, k + (n + 1) ≤ j → gl M j = 0 := fun j hj => by
  rw [val_gl hM, Nat.div_eq_of_lt, Nat.zero_mod]
  refine Nat.lt_of_lt_of_le hlt ?_
  have h1 := nl_lt y
  rw [hy] at h1
  refine Nat.le_trans (Nat.mul_le_mul_right _ (Nat.le_of_lt h1)) ?_
  rw [← Nat.pow_add]
  exact Nat.pow_le_pow_right (by decide) (by omega)
theorem top_le {W y x2 x1 x0 y1 y0 P wl yl : Nat} (hW : W = (x2 * 4294967296 * 4294967296 + x1 * 4294967296 + x0) * P + wl) (hy : y = (y1 * 4294967296 + y0) * P + yl) (hyl : yl < P) (h0 : y0 < 4294967296) (hlt : W < y * 4294967296) : x2 ≤ y1 := by
  apply Nat.le_of_not_lt
  intro h
  have h1 : (y1 * 4294967296 + y0 + 1) * P ≤ (x2 * 4294967296) * P := Nat.mul_le_mul_right _ (by omega)
  have h2 : (x2 * 4294967296 * 4294967296) * P ≤ (x2 * 4294967296 * 4294967296 + x1 * 4294967296 + x0) * P := Nat.mul_le_mul_right _ (by rw [Nat.add_assoc]; exact Nat.le_add_right _ _)
  rw [Nat.add_mul, Nat.one_mul] at h1
  have h3 : (x2 * 4294967296 * 4294967296) * P = (x2 * 4294967296) * P * 4294967296 := by grind
  omega
theorem Only.own {g b : Nat} {W W' : World} {q n c : Nat} {xs : List Value} (h : Only g W W') (k : W.ownsRow b 62 1 (.slice (some ⟨q, 0, none⟩) n c) n xs) (hq : q ≠ g) : W'.ownsRow b 62 1 (.slice (some ⟨q, 0, none⟩) n c) n xs := by
  rcases k with ⟨h1, ⟨h2, _⟩ | ⟨g', cap, cur, e, h3, h4, h5⟩⟩
  · simp at h2
  · have e2 := e
    simp only [Value.slice.injEq, Option.some.injEq, Addr.mk.injEq, and_true, true_and] at e2
    obtain ⟨rfl, _⟩ := e2
    exact ⟨h1, .inr ⟨_, cap, cur, e, h3, (h.block _ (Array.getElem?_eq_some_iff.1 h4).1 hq).trans h4, h5⟩⟩
set_option maxHeartbeats 8000000 in
theorem divmod2_c (A : Option Addr) (c a : Nat) (B : Option Addr) (d b : Nat) (w : World) (hA : NatV w A c a) (hB : NatV w B d b) (ha : nl a ≤ 16777216) (hb2 : 2 ≤ nl b) (hab : b ≤ a) :
    Calls Tryz.prog 98 #[.slice A (nl a) c, .slice B (nl b) d] w (RetQR w (a / b) (a % b)) := by
  have hba := nl_mono hab
  have hb0 : b ≠ 0 := fun e => by rw [e, nl_zero] at hb2; omega
  have ha0 : a ≠ 0 := by omega
  have t1 : ((nl b : Int) == 0) = false := ieqF (by omega)
  have t2 : ((nl b : Int) == 1) = false := ieqF (by omega)
  have t3 : decide (cmpN a b < 0) = false := by rw [decide_eq_false_iff_not, cmpN_neg]; omega
  have CC := cmp_c A c a B d b w hA hB (by omega) (by omega)
  obtain ⟨top, htop⟩ : ∃ z, z = gl (limbs b) (nl b - 1) := ⟨_, rfl⟩
  have htl : top < 4294967296 := by rw [htop]; exact (lim_limbs b).gl _
  obtain ⟨kb, hkb⟩ : ∃ k, nl b = k + 1 := ⟨nl b - 1, by omega⟩
  have hkbI : (nl b : Int) - 1 = (kb : Int) := by omega
  have hkbl : kb < nl b := by omega
  obtain ⟨bd, hbd, hcb⟩ := hB.rd.get kb (by show kb < nl b; omega)
  have hnorm := nl_norm hb0
  rw [← htop] at hnorm
  rw [show kb = nl b - 1 by omega, ← htop] at hcb
  rw [show nl b - 1 = kb by omega] at hcb
  subst hbd
  have CL := fun (W : World) => lz32_c top W htl
  have hbl : Lib.bitLen top ≤ 32 := Lib.bitLen_le top 32 (by decide) htl
  obtain ⟨s, hs⟩ : ∃ s, s = 32 - Lib.bitLen top := ⟨_, rfl⟩
  have hsl : s ≤ 32 := by omega
  rw [← hs] at hnorm CL
  obtain ⟨y, hy⟩ : ∃ y, y = b * 2 ^ s := ⟨_, rfl⟩
  rw [← hy] at hnorm
  obtain ⟨a2, ha2⟩ : ∃ z, z = a * 2 ^ s := ⟨_, rfl⟩
  have ha2l : nl a2 ≤ nl a + 1 := by
    rw [ha2, nl_le, Nat.pow_succ]
    exact Nat.mul_lt_mul_of_lt_of_le (nl_lt a) (by rw [show (4294967296 : Nat) = 2 ^ 32 from rfl]; exact Nat.pow_le_pow_right (by decide) hsl) (by decide)
  have ha2g : nl a ≤ nl a2 := by rw [ha2]; exact nl_mono (Nat.le_mul_of_pos_right _ (Nat.two_pow_pos _))
  have ha20 : a2 ≠ 0 := by rw [ha2]; exact Nat.mul_ne_zero ha0 (Nat.pos_iff_ne_zero.1 (Nat.two_pow_pos _))
  have hy0 : y ≠ 0 := fun e => by rw [e, nl_zero] at hnorm; omega
  obtain ⟨n, hn⟩ : ∃ n, nl y = n + 2 := ⟨nl y - 2, by omega⟩
  have hfit : a2 < y * 4294967296 ^ (nl a + 1 - nl b) := by
    rw [ha2, hy, Nat.mul_right_comm]
    refine Nat.mul_lt_mul_of_pos_right ?_ (Nat.two_pow_pos _)
    have h1 := nl_lt a
    have h2 := nl_ge hb0
    refine Nat.lt_of_lt_of_le h1 ?_
    refine Nat.le_trans ?_ (Nat.mul_le_mul_right _ h2)
    rw [← Nat.pow_add]; exact Nat.pow_le_pow_right (by decide) (by omega)
  replace CC := Lib.hid CC
  replace CL := Lib.hid CL
  replace htop := Lib.hid htop
  replace hkb := Lib.hid hkb
  replace hs := Lib.hid hs
  replace hy := Lib.hid hy
  replace ha2 := Lib.hid ha2
  replace hn := Lib.hid hn
  replace hfit := Lib.hid hfit
  replace hnorm := Lib.hid hnorm
  replace hb0 := Lib.hid hb0
  replace ha0 := Lib.hid ha0
  replace ha20 := Lib.hid ha20
  replace hy0 := Lib.hid hy0
  go_enter Tryz.func98, Tryz.ntmps98
  go_wp2_with (fail)
  refine CC.out.mono ?_
  rintro e W1 ⟨rfl, b1⟩
  replace hA := hA.below b1
  replace hB := hB.below b1
  replace hcb := cell_below b1 hcb
  go_wp2_with (fail)
  refine (CL.out W1).mono ?_
  rintro e w' ⟨rfl, hww⟩
  replace hww := hww.symm
  subst hww
  have C1 := shl_e (some bd) d b (s : Int) s W1 hB (by omega) rfl (by omega)
  rw [← hy.out] at C1
  replace C1 := Lib.hid C1
  go_wp2_with (fail)
  refine C1.out.mono ?_
  rintro e W2 ⟨Y, cy, rfl, hY, b2⟩
  replace hA := hA.below b2
  replace b1 := Below.cons b1 b2
  have C2 := shl_o A c a s W2 hA (by omega) (by omega) ha0.out
  rw [← ha2.out] at C2
  replace C2 := Lib.hid C2
  go_wp2_with (fail)
  refine C2.out.mono ?_
  rintro e W3 ⟨vx, rfl, hx, b3⟩
  have hb2W := b2.size
  have hY3 : ∀ W, Below W2.heap.size W2 W → NatV W Y cy y := fun W hW => hY.below hW
  replace hY3 := Lib.hid hY3
  have hA3 : ∀ W, Below W2.heap.size W2 W → NatV W A c a := fun W hW => hA.below hW
  replace hA3 := Lib.hid hA3
  have hfarY := far_of hY (Nat.le_refl _) hy0.out
  have hbw := b1.size
  obtain ⟨i0, hi, hz0, hz1, hz2⟩ := info_parts info_u32
  go_wp2_with (fail)
  go_loopw [12] (fun v12 wr => ∃ (m : Nat) (L : List Nat), Below W2.heap.size W2 wr ∧ wr.ownsRow W2.heap.size 62 1 v12 m (vals L) ∧ Hid (L.length = m) ∧ Lim L ∧ Hid (val L = a2) ∧ nl a ≤ m ∧ m ≤ nl a + 1) (fun v12 wr => nl a + 1 - (match v12 with | .slice _ m _ => m | _ => 0))
  case atStart => exact ⟨nl a2, limbs a2, b3, hx, Lib.hid rfl, lim_limbs a2, Lib.hid (val_limbs a2), ha2g, ha2l⟩
  case round =>
    obtain ⟨m, L, hb, hown, hlen, hlim, hval, hm1, hm2⟩ := hrel
    obtain ⟨X, cx, rfl, hcx, hcm, hrd⟩ := ownV_rd hown
    by_cases hlt : m ≤ nl a
    · go_wp2_with (at_builtin; refine wpList_append_own_at _ rfl _ _ 22 rfl W2.heap.size 62 i0 (.int .u32 0) 1 4 Tryz.underlying22 hi hz0 hz1 hz2 rfl (by decide) _ (m) (vals L) rfl (hown.alloc _) ⟨wr.heap.size, 0, none⟩ 1 1 [.int .u32 0] rfl rfl (cell_one_new _ _ _) (by simp [Value.oneCell']) (by simp only [maxLen]; omega) (by omega) (by simp; have := hb.size; omega) ?_)
      intro v' w1 hown1 hg1 _ _
      have hown2 := Lib.hid hown1
      have hg2 := Lib.hid hg1
      obtain ⟨X', cx', hve, _, _, _⟩ := ownV_rd hown1
      clear hown1 hg1
      subst hve
      go_wp2_with (fail)
      go_roundw
      case rel =>
        refine ⟨m + 1, L ++ [0], ?_, ?_, Lib.hid (by simp [hlen.out]), hlim.append (Lim.one (by decide)), Lib.hid (by rw [val_snoc, hval.out]; simp), by omega, by omega⟩
        · exact (hb.alloc hb.size _).grown hg2.out (by simp; have := hb.size; omega) (fun k e => own_base' hown k e)
        · rw [vals_append]; exact hown2.out
      case measure => simp only; omega
    · have hm : m = nl a + 1 := by omega
      obtain ⟨g, hge⟩ : ∃ g, X = some ⟨g, 0, none⟩ := by
        rcases hown.2 with ⟨_, e⟩ | ⟨g, _, _, e, _⟩
        · omega
        · simp at e; exact ⟨g, e.1⟩
      subst hge
      obtain ⟨hA32, hgb⟩ := A32.of hown hlen.out
      have hfar := fun ad (e : Y = some ad) => (show ad.block ≠ g from fun h => by
        have h1 := far_of hY (Nat.le_refl _) hy0.out ad e
        obtain ⟨ad', e', hc⟩ := hY.rd.get 0 (by show 0 < nl y; rw [hn.out]; omega)
        subst e
        cases e'
        have h2 := World.block_lt_of_cell? W2 _ hc
        have h3 : (Addr.add ad 0).block = ad.block := by unfold Addr.add; split <;> rfl
        rw [h3] at h2
        omega)
      replace hfar := Lib.hid hfar
      obtain ⟨yd, hyd, _⟩ := hY.rd.get 0 (by show 0 < nl y; rw [hn.out]; omega)
      subst hyd
      have hy2 : 2 ≤ nl y := by rw [hn.out]; omega
      have hyal : nl y ≤ nl a := by rw [hnorm.out]; exact hba
      obtain ⟨N, hN⟩ : ∃ N, N = m - nl y := ⟨_, rfl⟩
      have eN : (m : Int) - (nl y : Int) = (N : Int) := by omega
      have hNm : N ≤ m := by omega
      have hmk := mk32 (N : Int) (N : Int) (by omega) (Int.le_refl _) (by omega)
      rw [Int.toNat_natCast] at hmk
      obtain ⟨q0, hq0⟩ : ∃ q0, q0 = wr.heap.size := ⟨_, rfl⟩
      have hgq : g < q0 := by rw [hq0]; exact hA32.lt
      have hWq : W2.heap.size ≤ q0 := by rw [hq0]; exact hb.size
      have hown0 := ownsMade32 wr wr.heap.size N (Nat.le_refl _) (by omega)
      have hbm : Below wr.heap.size wr (wr.alloc (.cells (madeCells #[.int .u32 0] N) 62)) := (Below.refl _ _).alloc (Nat.le_refl _) _
      have hA4 := hA32.below hbm
      have hb4 := Below.cons hb hbm
      have hfit2 : val L < y * 4294967296 ^ N := by
        rw [hval.out, hN, hm, hnorm.out]; exact hfit.out
      rw [← hq0] at hown0
      have tm : ¬ ((m : Int) ≤ (nl a : Int)) := by omega
      have tmN : ¬ (m ≤ nl a) := by omega
      replace hN := Lib.hid hN
      replace hm := Lib.hid hm
      replace hfit2 := Lib.hid hfit2
      clear hown hrd hlt hbm
      replace hq0 := Lib.hid hq0
      go_wp2_with (fail)
      rw [← hq0.out]
      go_loopw [15, 16] (fun v15 v16 wq => ∃ (k : Nat) (M Q : List Nat), v15 = .int .i64 ((k : Int) - 1) ∧ k ≤ N ∧ Below W2.heap.size W2 wq ∧ A32 wq g M ∧ Hid (M.length = m) ∧ Lim M ∧ wq.ownsRow q0 62 1 (.slice (some ⟨q0, 0, none⟩) N N) N (vals Q) ∧ Hid (Q.length = N) ∧ Lim Q ∧ Hid (val M < y * 4294967296 ^ k) ∧ Hid (a2 = val Q * y + val M) ∧ Hid (∀ j, j < k → gl Q j = 0)) (fun v15 v16 wq => (intOf v15 + 1).toNat)
      case atStart => exact ⟨N, L, List.replicate N 0, rfl, Nat.le_refl _, hb4, hA4, hlen, hlim, hown0, Lib.hid (by simp), Lim.replicate N 0 (by decide), hfit2, Lib.hid (by rw [val_replicate, hval.out]; simp), Lib.hid (fun j _ => by simp [gl, List.getD_eq_getElem?_getD, List.getElem?_replicate]; split <;> rfl)⟩
      case round =>
        clear hown0 hA4 hb4 hA32 hlim
        replace hb := Lib.hid hb
        obtain ⟨k, M, Q, rfl, hk, hbq, hM, hMlen, hMl, hown, hQlen, hQl, hlt, hsum, hzq⟩ := hrel
        have hYq := hY3.out _ hbq
        cases k with
        | zero =>
          have hv := hlt.out
          rw [Nat.pow_zero, Nat.mul_one] at hv
          have hsm := hsum.out
          have hfin : val Q = a / b ∧ val M / 2 ^ s = a % b := by
            rw [ha2.out, hy.out] at hsm
            rw [hy.out] at hv
            exact rest_shift hsm hv (Nat.pos_iff_ne_zero.2 hb0.out)
          obtain ⟨Xq, cq, e, hcq, hcqm, hrd⟩ := ownV_rd hown
          cases e
          have hmake := make_c (some ⟨q0, 0, none⟩) N N Q wr hQlen.out hrd hQl (by omega) (Nat.le_refl _)
          have HM1 := fun (W : World) (h : Below wr.heap.size wr W) => make_c (some ⟨g, 0, none⟩) m cx M W hMlen.out (hM.below h).rd hMl (by omega) hcx
          rw [hfin.1] at hmake
          have hnv : nl (val M) ≤ 1073741824 := by
            have : nl (val M) ≤ nl y := nl_mono (Nat.le_of_lt hv)
            omega
          replace hmake := Lib.hid hmake
          replace HM1 := Lib.hid HM1
          replace hfin := Lib.hid hfin
          clear hown hrd hv hsm hM hYq
          replace hbq := Lib.hid hbq
          go_wp2_with (fail)
          refine hmake.out.mono ?_
          rintro e W4 ⟨X4, c4, rfl, h4, b4⟩
          go_wp2_with (fail)
          refine (HM1.out W4 b4).mono ?_
          rintro e W5 ⟨X5, c5, rfl, h5, b5⟩
          have SH := shr_e X5 c5 (val M) (s : Int) s W5 h5 hnv rfl (by omega)
          rw [hfin.out.2] at SH
          replace SH := Lib.hid SH
          have h4' := h4.below b5
          go_wp2_with (fail)
          refine SH.out.mono ?_
          rintro e W6 ⟨X6, c6, rfl, h6, b6⟩
          have h4'' := h4'.below b6
          have hB6 := Below.cons (Below.cons (Below.cons hbq.out b4) b5) b6
          go_wp2_with (fail)
          exact bodyPost_ret (v := .tuple #[.slice X4 (nl (a / b)) c4, .slice X6 (nl (a % b)) c6, .int .i64 0]) (by simp [results, Tryz.results98, go_sem]) rfl ⟨X4, c4, X6, c6, rfl, h4'', h6, Below.cons b1 hB6⟩
        | succ k =>
          rw [show (((k + 1 : Nat) : Int) - 1) = (k : Int) by omega]
          obtain ⟨k2, hk2⟩ : ∃ z, z = k + nl y := ⟨_, rfl⟩
          have hn2 := hn.out
          obtain ⟨k1, hk1⟩ : ∃ z, z = k + n + 1 := ⟨_, rfl⟩
          obtain ⟨k0, hk0⟩ : ∃ z, z = k + n := ⟨_, rfl⟩
          obtain ⟨n1, hn1⟩ : ∃ z, z = n + 1 := ⟨_, rfl⟩
          have hkm : k2 < m := by have := hN.out; omega
          have hm32 : m ≤ 16777217 := by omega
          have h2M : k2 < M.length := by rw [hMlen.out]; exact hkm
          have c2 := hM.cell k2 h2M
          have c1 := hM.cell k1 (by omega)
          have c0 := hM.cell k0 (by omega)
          obtain ⟨_, e, d1⟩ := hYq.rd.get n1 (by show n1 < nl y; omega)
          cases e
          obtain ⟨_, e, d0⟩ := hYq.rd.get n (by show n < nl y; omega)
          cases e
          have hx2 := hMl.gl k2
          have hx1 := hMl.gl k1
          have hx0 := hMl.gl k0
          have hy1 := (lim_limbs y).gl n1
          have hy0' := (lim_limbs y).gl n
          have N2 := nat2 hn2
          have W3' := wnd3 hMl k n
          have hltW : wnd M k (n + 2 + 1) < y * 4294967296 := by
            have h1 := wnd_eq_div hMl k (n + 2 + 1) (row_zero hMl hlt.out hn2)
            rw [h1, Nat.div_lt_iff_lt_mul (Nat.pow_pos (by decide)), Nat.mul_assoc, ← Nat.pow_succ']
            exact hlt.out
          rw [← hn1] at N2
          rw [show k + n + 2 = k2 by omega, ← hk1, ← hk0] at W3'
          obtain ⟨x2, ex2⟩ : ∃ z, z = gl M k2 := ⟨_, rfl⟩
          obtain ⟨x1, ex1⟩ : ∃ z, z = gl M k1 := ⟨_, rfl⟩
          obtain ⟨x0, ex0⟩ : ∃ z, z = gl M k0 := ⟨_, rfl⟩
          obtain ⟨y1, ey1⟩ : ∃ z, z = gl (limbs y) n1 := ⟨_, rfl⟩
          obtain ⟨y0, ey0⟩ : ∃ z, z = gl (limbs y) n := ⟨_, rfl⟩
          rw [← ex2] at c2 hx2 W3'
          rw [← ex1] at c1 hx1 W3'
          rw [← ex0] at c0 hx0 W3'
          rw [← ey1] at d1 hy1 N2
          rw [← ey0] at d0 hy0' N2
          have DG := dig3_ok W3' N2.1 (wnd_lt hMl k n) N2.2.1 N2.2.2 hltW
          have TL := top_le W3' N2.1 N2.2.1 hy0' hltW
          have GL := dig3_lt x2 x1 x0 y1 y0
          have GC := fun (W : World) => guess_c x2 x1 x0 y1 y0 W hx2 hx1 hx0 hy1 hy0' N2.2.2 TL
          obtain ⟨gg, hgg⟩ : ∃ z, z = dig3 x2 x1 x0 y1 y0 := ⟨_, rfl⟩
          rw [← hgg] at DG GL GC
          have w2 : IntKind.i64.wrap ((k : Int) + (nl y : Int)) = (k2 : Int) := by rw [IntWalk.i64_in _ (by omega)]; omega
          have w1 : IntKind.i64.wrap ((k2 : Int) - 1) = (k1 : Int) := by rw [IntWalk.i64_in _ (by omega)]; omega
          have w0 : IntKind.i64.wrap ((k2 : Int) - 2) = (k0 : Int) := by rw [IntWalk.i64_in _ (by omega)]; omega
          have v1 : IntKind.i64.wrap ((nl y : Int) - 1) = (n1 : Int) := by rw [IntWalk.i64_in _ (by omega)]; omega
          have v0 : IntKind.i64.wrap ((nl y : Int) - 2) = (n : Int) := by rw [IntWalk.i64_in _ (by omega)]; omega
          have p2 : (k : Int) + (nl y : Int) = (k2 : Int) := by omega
          have p1 : (k2 : Int) - 1 = (k1 : Int) := by omega
          have p0 : (k2 : Int) - 2 = (k0 : Int) := by omega
          have r1 : (nl y : Int) - 1 = (n1 : Int) := by omega
          have r0 : (nl y : Int) - 2 = (n : Int) := by omega
          have hk1m : k1 < m := by omega
          have hk0m : k0 < m := by omega
          have hn1y : n1 < nl y := by omega
          have hny : n < nl y := by omega
          have zk2 : (0 : Int) ≤ (k2 : Int) := by omega
          have lk2 : (k2 : Int) < (m : Int) := by omega
          have wwk2 : IntKind.i64.wrap (k2 : Int) = (k2 : Int) := IntWalk.i64_in _ (by omega)
          have zk1 : (0 : Int) ≤ (k1 : Int) := by omega
          have lk1 : (k1 : Int) < (m : Int) := by omega
          have wwk1 : IntKind.i64.wrap (k1 : Int) = (k1 : Int) := IntWalk.i64_in _ (by omega)
          have zk0 : (0 : Int) ≤ (k0 : Int) := by omega
          have lk0 : (k0 : Int) < (m : Int) := by omega
          have wwk0 : IntKind.i64.wrap (k0 : Int) = (k0 : Int) := IntWalk.i64_in _ (by omega)
          have zn1 : (0 : Int) ≤ (n1 : Int) := by omega
          have ln1 : (n1 : Int) < (nl y : Int) := by omega
          have wwn1 : IntKind.i64.wrap (n1 : Int) = (n1 : Int) := IntWalk.i64_in _ (by omega)
          have zn : (0 : Int) ≤ (n : Int) := by omega
          have ln : (n : Int) < (nl y : Int) := by omega
          have wwn : IntKind.i64.wrap (n : Int) = (n : Int) := IntWalk.i64_in _ (by omega)
          replace GC := Lib.hid GC
          replace hgg := Lib.hid hgg
          replace ex2 := Lib.hid ex2
          replace ex1 := Lib.hid ex1
          replace ex0 := Lib.hid ex0
          replace ey1 := Lib.hid ey1
          replace ey0 := Lib.hid ey0
          replace DG := Lib.hid DG
          replace N2 := Lib.hid N2
          replace W3' := Lib.hid W3'
          replace hltW := Lib.hid hltW
          have HK2 := Lib.hid hk2
          have HK1 := Lib.hid hk1
          have HK0 := Lib.hid hk0
          have HN1 := Lib.hid hn1
          clear hk2 hk1 hk0 hn1 hn2
          have hdV := (Below.refl wr.heap.size wr).drew
          have a2' := cell_below hdV c2
          have a1' := cell_below hdV c1
          have a0' := cell_below hdV c0
          have b1' := cell_below hdV d1
          have b0' := cell_below hdV d0
          go_wp2_with (fail)
          go_region_held3 (fun W => W.cell? ⟨g, k2, none⟩ = some (.int .u32 (x2 : Nat)) ∧ W.cell? ⟨g, k1, none⟩ = some (.int .u32 (x1 : Nat)) ∧ W.cell? ⟨g, k0, none⟩ = some (.int .u32 (x0 : Nat)) ∧ W.cell? (yd.add n1) = some (.int .u32 (y1 : Nat)) ∧ W.cell? (yd.add n) = some (.int .u32 (y0 : Nat)))
            (first
              | exact ⟨a2', a1', a0', b1', b0'⟩
              | exact ⟨cell_below hbG a2', cell_below hbG a1', cell_below hbG a0', cell_below hbG b1', cell_below hbG b0'⟩
              | go_keep)
            ((go_at_call 125; (with_reducible refine (GC.out _).mono ?_); rintro e W4 ⟨rfl, hbG⟩))
          clear w2 w1 w0 v1 v0 wwk2 wwk1 wwk0 wwn1 wwn a2' a1' a0' b1' b0' c2 c1 c0 d1 d0 p1 p0 r1 r0
          have hbW := hdV.cons hbG
          have hMW := hM.below hbW
          have hoW := own_below hown hbW
          have hBW := Below.cons hbq hbW
          clear hM hown hbq hYq hdV hbG
          obtain ⟨k3, hk3⟩ : ∃ z, z = k2 + 1 := ⟨_, rfl⟩
          have p3 : (k2 : Int) + 1 = (k3 : Int) := by omega
          have hk3m : k3 ≤ m := by omega
          have hk3c : k3 ≤ cx := by omega
          have hkk3 : k ≤ k3 := by have := HK2.out; omega
          have h3k : k3 - k = nl y + 1 := by have := HK2.out; omega
          have TK := take_c g k (nl y) (cx - k) M (some yd) cy y gg W4 hMW hMl (by rw [hMlen.out]; have := HK2.out; omega) (by rw [hMlen.out]; omega) (by have := HK2.out; omega) (hY3.out _ hBW) rfl hfar.out GL
          replace TK := Lib.hid TK
          replace hk3 := Lib.hid hk3
          clear hMW
          go_wp2_with (fail)
          refine TK.out.mono ?_
          rintro e W5 ⟨M1, br, rfl, hbr, ho5, hM5, hM5l, hM5len, hM5out, hM5w⟩
          have DG1 := DG.out
          rw [← hn.out] at DG1
          have hown5 := ho5.own hoW (by omega)
          have hb5 := hBW.trans (ho5.below hgb hBW.size)
          have hY5 := hY3.out _ hb5
          have hlen5 := hM5len.trans hMlen.out
          have hyP : y ≤ 4294967296 ^ (nl y + 1) := Nat.le_of_lt (Nat.lt_of_lt_of_le (nl_lt y) (Nat.pow_le_pow_right (by decide) (by omega)))
          have hkN : k < N := by omega
          by_cases h0 : br = 0
          · have hfin := take_fin0 (by rw [hM5w, h0, Nat.mul_zero, Nat.add_zero]) DG1.1 (Nat.pos_iff_ne_zero.2 hy0.out)
            have DR := div_round hMl hM5l hlt.out rfl hM5len (by rw [hMlen.out]; have := HK2.out; omega) hM5out hfin.2 hsum.out (by rw [hQlen.out]; omega) hzq.out hfin.1 (Nat.pos_iff_ne_zero.2 hy0.out)
            replace DR := Lib.hid DR
            replace hlen5 := Lib.hid hlen5
            subst h0
            have hcq : W5.cell? ⟨q0, k, none⟩ = some (.int .u32 (gl Q k : Nat)) := by rw [hown5.cellAt k (by omega), vals_get Q _ (by rw [hQlen.out]; omega)]
            have hfo := hown5.frozenAt k
            have hst := hown5.stored k (.int .u32 ((gg : Nat) : Int))
            have hAst := hM5.other (Only.set q0 W5 k (.int .u32 ((gg : Nat) : Int))) (by omega)
            have hbst := hb5.setCell (p := ⟨q0, k, none⟩) hWq (.int .u32 ((gg : Nat) : Int))
            clear hM5w hfin DG1 hyP hM5out hM5len
            go_wp2_with (fail)
            go_roundw
            case rel => exact ⟨k, M1, Q.set k gg, rfl, by omega, hbst, hAst, hlen5, hM5l, by rw [vals_set]; exact hst.1, Lib.hid (by rw [List.length_set]; exact hQlen.out), hQl.set _ _ GL, Lib.hid DR.out.1, Lib.hid DR.out.2.1, Lib.hid DR.out.2.2⟩
            case measure => simp only [intOf]; omega
          · have h1 : br = 1 := by omega
            subst h1
            rw [Nat.mul_one] at hM5w
            have hg1 : 1 ≤ gg := by
              rcases Nat.eq_zero_or_pos gg with h | h
              · rw [h, Nat.zero_mul] at hM5w
                have := wnd_lt hM5l k (nl y + 1)
                omega
              · exact h
            obtain ⟨g2, hg2⟩ : ∃ z, z = gg - 1 := ⟨_, rfl⟩
            have hg2I : (gg : Int) - 1 = (g2 : Int) := by omega
            have hg2l : g2 < 4294967296 := by omega
            have BK := back_c g k (nl y) (cx - k) M1 (some yd) cy y W5 hM5 hM5l (by rw [hlen5]; have := HK2.out; omega) (by rw [hlen5]; omega) (by have := HK2.out; omega) hY5 rfl hfar.out
            replace BK := Lib.hid BK
            replace hg2 := Lib.hid hg2
            replace hM5w := Lib.hid hM5w
            replace hM5out := Lib.hid hM5out
            replace hM5len := Lib.hid hM5len
            replace hlen5 := Lib.hid hlen5
            replace DG1 := Lib.hid DG1
            replace hyP := Lib.hid hyP
            clear hM5 hoW h0
            go_wp2_with (fail)
            refine BK.out.mono ?_
            rintro e W6 ⟨M2, cc, rfl, ho6, hM6, hM6l, hM6len, hM6out, hM6w⟩
            have hfin := take_fin1 hM5w.out (wnd_lt hM5l k (nl y + 1)) DG1.out.2 hM6w (wnd_lt hM6l k (nl y + 1)) hyP.out (Nat.pos_iff_ne_zero.2 hy0.out)
            rw [← hg2.out] at hfin
            have DR := div_round hMl hM6l hlt.out rfl (hM6len.trans hM5len.out) (by rw [hMlen.out]; have := HK2.out; omega) (fun j hj => (hM6out j hj).trans (hM5out.out j hj)) hfin.2.2 hsum.out (by rw [hQlen.out]; omega) hzq.out hfin.2.1 (Nat.pos_iff_ne_zero.2 hy0.out)
            replace DR := Lib.hid DR
            have hlen6 := Lib.hid (hM6len.trans hlen5.out)
            have hown6 := ho6.own hown5 (by omega)
            have hb6 := hb5.trans (ho6.below hgb hb5.size)
            have hcq : W6.cell? ⟨q0, k, none⟩ = some (.int .u32 (gl Q k : Nat)) := by rw [hown6.cellAt k (by omega), vals_get Q _ (by rw [hQlen.out]; omega)]
            have hfo := hown6.frozenAt k
            have hst := hown6.stored k (.int .u32 ((g2 : Nat) : Int))
            have hAst := hM6.other (Only.set q0 W6 k (.int .u32 ((g2 : Nat) : Int))) (by omega)
            have hbst := hb6.setCell (p := ⟨q0, k, none⟩) hWq (.int .u32 ((g2 : Nat) : Int))
            clear hM6w hfin hM6out hM6len hown5 hb5
            go_wp2_with (fail)
            go_roundw
            case rel => exact ⟨k, M2, Q.set k g2, rfl, by omega, hbst, hAst, hlen6, hM6l, by rw [vals_set]; exact hst.1, Lib.hid (by rw [List.length_set]; exact hQlen.out), hQl.set _ _ hg2l, Lib.hid DR.out.1, Lib.hid DR.out.2.1, Lib.hid DR.out.2.2⟩
            case measure => simp only [intOf]; omega
theorem ddivLt_c (A : Option Addr) (c a : Nat) (B : Option Addr) (d b : Nat) (w : World) (hA : NatV w A c a) (hB : NatV w B d b) (ha : nl a ≤ 16777216) (hb : nl b ≤ 16777216) (hab : a < b) :
    Calls Tryz.prog 98 #[.slice A (nl a) c, .slice B (nl b) d] w (RetQR w (a / b) (a % b)) := by
  have hb0 : b ≠ 0 := by omega
  have hbp := nl_pos.2 hb0
  have t1 : ((nl b : Int) == 0) = false := ieqF (by omega)
  have t3 : decide (cmpN a b < 0) = true := by rw [decide_eq_true_eq, cmpN_neg]; exact hab
  have CC := cmp_c A c a B d b w hA hB (by omega) (by omega)
  rw [Nat.div_eq_of_lt hab, Nat.mod_eq_of_lt hab]
  replace CC := Lib.hid CC
  go_enter Tryz.func98, Tryz.ntmps98
  go_wp2_with (fail)
  refine CC.out.mono ?_
  rintro e W1 ⟨rfl, b1⟩
  have hA1 := hA.below b1
  go_wp2_with (fail)
  exact bodyPost_ret (v := .tuple #[.slice none 0 0, .slice A (nl a) c, .int .i64 0]) (by simp [results, Tryz.results98, go_sem]) rfl ⟨none, 0, A, c, by rw [nl_zero], ⟨by rw [limbs_zero]; exact Rd.nil, by rw [nl_zero]; exact Nat.le_refl _, by decide⟩, hA1, b1⟩
theorem limb_one {b : Nat} (h : nl b = 1) : gl (limbs b) 0 = b ∧ b < 4294967296 := by
  have h1 := nl_lt b
  rw [h, Nat.pow_one] at h1
  rw [limbs_gl, Nat.pow_zero, Nat.div_one]
  exact ⟨Nat.mod_eq_of_lt h1, h1⟩
theorem make1_c (W : World) (s m : Nat) (h : W.heap[s]? = some (.cells #[.int .u32 (m : Nat)] 62 (0, 0))) (hm : m < 4294967296) :
    Calls Tryz.prog 79 #[.slice (some ⟨s, 0, none⟩) 1 1] W (RetN W m) := by
  have := make_c (some ⟨s, 0, none⟩) 1 1 [m] W rfl (rd_one W s m h) (Lim.one hm) (by decide) (Nat.le_refl _)
  rwa [show val [m] = m by simp [val]] at this
theorem ddiv1_c (A : Option Addr) (c a : Nat) (B : Option Addr) (d b : Nat) (w : World) (hA : NatV w A c a) (hB : NatV w B d b) (ha : nl a ≤ 16777216) (hb : nl b = 1) (hab : b ≤ a) :
    Calls Tryz.prog 98 #[.slice A (nl a) c, .slice B (nl b) d] w (RetQR w (a / b) (a % b)) := by
  have hb0 : 0 < b := Nat.pos_of_ne_zero (fun e => by rw [e, nl_zero] at hb; omega)
  obtain ⟨hl, hb32⟩ := limb_one hb
  have t3 : decide (cmpN a b < 0) = false := by rw [decide_eq_false_iff_not, cmpN_neg]; omega
  have CC := cmp_c A c a B d b w hA hB (by omega) (by omega)
  obtain ⟨bd, rfl, hcb⟩ := hB.rd.get 0 (by show 0 < nl b; omega)
  rw [hl] at hcb
  rw [hb] at CC ⊢
  obtain ⟨r, hr⟩ : ∃ r, r = a % b := ⟨_, rfl⟩
  have hr32 : r < 4294967296 := by rw [hr]; exact Nat.lt_trans (Nat.mod_lt _ hb0) hb32
  rw [← hr]
  replace CC := Lib.hid CC
  go_enter Tryz.func98, Tryz.ntmps98
  go_wp2_with (fail)
  refine CC.out.mono ?_
  rintro e W1 ⟨rfl, b1⟩
  have hA1 := hA.below b1
  replace hcb := cell_below b1 hcb
  have hcb0 : W1.cell? bd = some (.int .u32 (b : Nat)) := by
    have e : bd.add 0 = bd := by first | exact Addr.add_zero _ | (cases bd; simp [Addr.add]; try (split <;> simp)) | rfl
    rwa [e] at hcb
  have CS := dsmall_c A c a b W1 hA1 ha hb32 hb0
  rw [← hr] at CS
  replace hr := Lib.hid hr
  replace CS := Lib.hid CS
  go_wp2_with (fail)
  refine CS.out.mono ?_
  rintro e W2 ⟨X, cx, rfl, h1, b2⟩
  have b3 : Below W2.heap.size W2 (W2.alloc (.cells #[.int .u32 (r : Nat)] 62)) := (Below.refl _ _).alloc (Nat.le_refl _) _
  have CM := make1_c _ _ r (heap_alloc_new W2 (.cells #[.int .u32 (r : Nat)] 62)) hr32
  have hX := h1.below b3
  replace CM := Lib.hid CM
  go_wp2_with (fail)
  refine CM.out.mono ?_
  rintro e W4 ⟨Y, cy, rfl, h2, b4⟩
  go_wp2_with (fail)
  exact bodyPost_ret (v := .tuple #[.slice X (nl (a / b)) cx, .slice Y (nl r) cy, .int .i64 0]) (by simp [results, Tryz.results98, go_sem]) rfl ⟨X, cx, Y, cy, rfl, hX.below b4, h2, ((b1.cons b2).cons b3).cons b4⟩
theorem ddivmod_c (A : Option Addr) (c a : Nat) (B : Option Addr) (d b : Nat) (w : World) (hA : NatV w A c a) (hB : NatV w B d b) (ha : nl a ≤ 16777216) (hb : nl b ≤ 16777216) (hb0 : 0 < b) :
    Calls Tryz.prog 98 #[.slice A (nl a) c, .slice B (nl b) d] w (RetQR w (a / b) (a % b)) := by
  rcases Nat.lt_or_ge a b with h | h
  · exact ddivLt_c A c a B d b w hA hB ha hb h
  · have hp := nl_pos.2 (show b ≠ 0 by omega)
    by_cases h1 : nl b = 1
    · exact ddiv1_c A c a B d b w hA hB ha h1 h
    · exact divmod2_c A c a B d b w hA hB ha (by omega) h
def RetII (w : World) (q r : Int) (e : Ending) (w' : World) : Prop := ∃ A c B d, e = .returned (.tuple #[.agg #[.bool (sg q), .slice A (nl (mg q)) c], .agg #[.bool (sg r), .slice B (nl (mg r)) d], .int .i64 0]) ∧ NatV w' A c (mg q) ∧ NatV w' B d (mg r) ∧ Below w.heap.size w w'
def RetIb (w : World) (q : Int) (e : Ending) (w' : World) : Prop := ∃ A c, e = .returned (.tuple #[.agg #[.bool (sg q), .slice A (nl (mg q)) c], .bool true]) ∧ NatV w' A c (mg q) ∧ Below w.heap.size w w'
theorem ediv_uniq {a b q r : Int} (hb : b ≠ 0) (h : a = q * b + r) (h0 : 0 ≤ r) (h1 : r < b.natAbs) : a / b = q ∧ a % b = r := by
  rcases Int.lt_or_gt_of_ne hb with hn | hp
  · have e : a = (-q) * (-b) + r := by rw [Int.neg_mul_neg]; exact h
    have := (Int.ediv_emod_unique (a := a) (b := -b) (r := r) (q := -q) (by omega)).2 ⟨by rw [Int.mul_comm (-b) (-q)]; omega, h0, by omega⟩
    rw [Int.ediv_neg, Int.emod_neg] at this
    exact ⟨by omega, this.2⟩
  · exact (Int.ediv_emod_unique hp).2 ⟨by rw [Int.mul_comm b q]; omega, h0, by omega⟩
theorem ival_false (n : Nat) : ival false n = n := rfl
theorem dm_plain {a b : Int} (hb : b ≠ 0) (h : 0 ≤ a ∨ mg a % mg b = 0) : ival (sg a != sg b) (mg a / mg b) = a / b ∧ ival false (mg a % mg b) = a % b := by
  have hm := Nat.div_add_mod (mg a) (mg b)
  have hl := Nat.mod_lt (mg a) (show 0 < mg b from mg_pos.2 hb)
  generalize mg a / mg b = q at *
  generalize mg a % mg b = r at *
  have hm2 : ((mg b * q + r : Nat) : Int) = (mg a : Int) := by rw [hm]
  rw [Int.natCast_add, Int.natCast_mul] at hm2
  unfold mg at *
  have key : a = ival (sg a != sg b) q * b + ival false r := by
    rw [ival_false]
    unfold ival sg
    by_cases ha : a < 0
    · have hr : r = 0 := by omega
      subst hr
      by_cases hn : b < 0
      · have h1 : (b.natAbs : Int) = -b := by omega
        have h2 : (a.natAbs : Int) = -a := by omega
        rw [h1, h2] at hm2
        simp [ha, hn]; grind
      · have h1 : (b.natAbs : Int) = b := by omega
        have h2 : (a.natAbs : Int) = -a := by omega
        rw [h1, h2] at hm2
        simp [ha, hn]; grind
    · by_cases hn : b < 0
      · have h1 : (b.natAbs : Int) = -b := by omega
        have h2 : (a.natAbs : Int) = a := by omega
        rw [h1, h2] at hm2
        simp [ha, hn]; grind
      · have h1 : (b.natAbs : Int) = b := by omega
        have h2 : (a.natAbs : Int) = a := by omega
        rw [h1, h2] at hm2
        simp [ha, hn]; grind
  have := ediv_uniq hb key (by rw [ival_false]; omega) (by rw [ival_false]; omega)
  exact ⟨this.1.symm, this.2.symm⟩
theorem dm_below {a b : Int} (hb : b ≠ 0) (ha : a < 0) (h : mg a % mg b ≠ 0) : ival (sg a != sg b) (mg a / mg b + 1) = a / b ∧ ival false (mg b - mg a % mg b) = a % b := by
  have hm := Nat.div_add_mod (mg a) (mg b)
  have hl := Nat.mod_lt (mg a) (show 0 < mg b from mg_pos.2 hb)
  generalize mg a / mg b = q at *
  generalize mg a % mg b = r at *
  have hm2 : ((mg b * q + r : Nat) : Int) = (mg a : Int) := by rw [hm]
  rw [Int.natCast_add, Int.natCast_mul] at hm2
  unfold mg at *
  have hc : ((b.natAbs - r : Nat) : Int) = (b.natAbs : Int) - r := by omega
  have key : a = ival (sg a != sg b) (q + 1) * b + ival false (b.natAbs - r) := by
    rw [ival_false, hc]
    unfold ival sg
    have h2 : (a.natAbs : Int) = -a := by omega
    by_cases hn : b < 0
    · have h1 : (b.natAbs : Int) = -b := by omega
      rw [h1, h2] at hm2
      rw [h1]
      simp [ha, hn]; grind
    · have h1 : (b.natAbs : Int) = b := by omega
      rw [h1, h2] at hm2
      rw [h1]
      simp [ha, hn]; grind
  have := ediv_uniq hb key (by rw [ival_false]; omega) (by rw [ival_false]; omega)
  exact ⟨this.1.symm, this.2.symm⟩
theorem idiv_f (aA : Option Addr) (ac : Nat) (a : Int) (bA : Option Addr) (bc : Nat) (b : Int) (w : World) (ha : NatV w aA ac (mg a)) (hb : NatV w bA bc (mg b)) (la : nl (mg a) ≤ 1048576) (lb : nl (mg b) ≤ 1048576) (hb0 : b ≠ 0) (h : 0 ≤ a) :
    Calls Tryz.prog 51 #[.agg #[.bool (sg a), .slice aA (nl (mg a)) ac], .agg #[.bool (sg b), .slice bA (nl (mg b)) bc]] w (RetII w (a / b) (a % b)) := by
  have pb : 0 < mg b := mg_pos.2 hb0
  have hv := dm_plain hb0 (.inl h)
  obtain ⟨q, Eq⟩ : ∃ zq : Nat, zq = mg a / mg b := ⟨_, rfl⟩
  obtain ⟨r, Er⟩ : ∃ zq : Nat, zq = mg a % mg b := ⟨_, rfl⟩
  have Bq : nl q ≤ 1048576 := by rw [Eq]; have := nl_div (mg a) (mg b); omega
  have Br : nl r ≤ 1048576 := by rw [Er]; have := nl_mod_le (mg a) (mg b); omega
  have hrb : r ≤ mg b := by rw [Er]; exact Nat.le_of_lt (Nat.mod_lt _ pb)
  have ta : sg a = false := sg_f h
  rw [show (sg a != sg b) = sg b by rw [ta]; simp, ← Eq, ← Er] at hv
  replace hv := Lib.hid hv
  replace h := Lib.hid h
  obtain ⟨hb1, Ra, Rb, Rr, Rs⟩ := bx4 w #[.bool false, .slice aA (nl (mg a)) ac] 24 #[.bool (sg b), .slice bA (nl (mg b)) bc] 24 #[.bool false, .slice none 0 0] 24 #[.bool false, .slice none 0 0] 24
  replace ha := ha.below hb1
  replace hb := hb.below hb1
  have HBT := hb1
  clear hb1
  have qa0 := Ra.c (i := 0) rfl
  have qa1 := Ra.c (i := 1) rfl
  have qb0 := Rb.c (i := 0) rfl
  have qb1 := Rb.c (i := 1) rfl
  have qr0 := Rr.c (i := 0) rfl
  have qr1 := Rr.c (i := 1) rfl
  have qs0 := Rs.c (i := 0) rfl
  have qs1 := Rs.c (i := 1) rfl
  go_enter Tryz.func51, Tryz.ntmps51
  go_wp2_with (fail)
  have CD := ddivmod_c aA ac (mg a) bA bc (mg b) _ ha hb (by omega) (by omega) pb
  rw [← Eq, ← Er] at CD
  replace Eq := Lib.hid Eq
  replace Er := Lib.hid Er
  refine (Calls.mono CD ?_)
  clear CD
  rintro e W2 ⟨Xq, cq, Xr, cr, rfl, hq, hr, hb2⟩
  replace ha := ha.below hb2
  replace hb := hb.below hb2
  replace Ra := Ra.below hb2
  replace qa0 := cbl hb2 qa0
  replace qa1 := cbl hb2 qa1
  replace Rb := Rb.below hb2
  replace qb0 := cbl hb2 qb0
  replace qb1 := cbl hb2 qb1
  replace Rr := Rr.below hb2
  replace qr0 := cbl hb2 qr0
  replace qr1 := cbl hb2 qr1
  replace Rs := Rs.below hb2
  replace qs0 := cbl hb2 qs0
  replace qs1 := cbl hb2 qs1
  replace HBT := Below.cons HBT hb2
  clear hb2
  go_wp2_with (fail)
  obtain ⟨x, Ex⟩ : ∃ zq : Int, zq = ival (sg b) q := ⟨_, rfl⟩
  refine (Calls.mono (R := RetI W2 x) (by rw [Ex]; with_reducible exact (imake_c (sg b) Xq cq q _ hq (by omega))) ?_)
  replace Ex := Lib.hid Ex
  rintro e W3 ⟨Xx, cx, rfl, hx, hb3⟩
  replace ha := ha.below hb3
  replace hb := hb.below hb3
  replace Ra := Ra.below hb3
  replace qa0 := cbl hb3 qa0
  replace qa1 := cbl hb3 qa1
  replace Rb := Rb.below hb3
  replace qb0 := cbl hb3 qb0
  replace qb1 := cbl hb3 qb1
  replace Rr := Rr.below hb3
  replace qr0 := cbl hb3 qr0
  replace qr1 := cbl hb3 qr1
  replace Rs := Rs.below hb3
  replace qs0 := cbl hb3 qs0
  replace qs1 := cbl hb3 qs1
  replace hq := hq.below hb3
  replace hr := hr.below hb3
  replace HBT := Below.cons HBT hb3
  clear hb3
  go_wp2_with (fail)
  obtain ⟨y, Ey⟩ : ∃ zq : Int, zq = ival false r := ⟨_, rfl⟩
  refine (Calls.mono (R := RetI W3 y) (by rw [Ey]; with_reducible exact (imake_c false Xr cr r _ hr (by omega))) ?_)
  replace Ey := Lib.hid Ey
  rintro e W4 ⟨Xy, cy, rfl, hy, hb4⟩
  replace ha := ha.below hb4
  replace hb := hb.below hb4
  replace Ra := Ra.below hb4
  replace qa0 := cbl hb4 qa0
  replace qa1 := cbl hb4 qa1
  replace Rb := Rb.below hb4
  replace qb0 := cbl hb4 qb0
  replace qb1 := cbl hb4 qb1
  replace Rr := Rr.below hb4
  replace qr0 := cbl hb4 qr0
  replace qr1 := cbl hb4 qr1
  replace Rs := Rs.below hb4
  replace qs0 := cbl hb4 qs0
  replace qs1 := cbl hb4 qs1
  replace hq := hq.below hb4
  replace hr := hr.below hb4
  replace hx := hx.below hb4
  replace HBT := Below.cons HBT hb4
  clear hb4
  have hzx : x = a / b := by rw [Ex.out]; exact hv.out.1
  subst hzx
  have hzy : y = a % b := by rw [Ey.out]; exact hv.out.2
  subst hzy
  have fzr0 := Rr.f (i := 0)
  have fzr1 := Rr.f (i := 1)
  have fzs0 := Rs.f (i := 0)
  have fzs1 := Rs.f (i := 1)
  go_wp2_with (fail)
  have RU := Rr.store2 (.bool (sg ((a / b)))) (.slice Xx (nl (mg ((a / b)))) cx)
  have RV := (Rs.other2 (v0 := .bool (sg ((a / b)))) (v1 := .slice Xx (nl (mg ((a / b)))) cx) (show (w.heap.size + 1 + 1 + 1) ≠ (w.heap.size + 1 + 1) by omega)).store2 (.bool (sg ((a % b)))) (.slice Xy (nl (mg ((a % b)))) cy)
  have RU2 := RU.other2 (v0 := .bool (sg ((a % b)))) (v1 := .slice Xy (nl (mg ((a % b)))) cy) (show (w.heap.size + 1 + 1) ≠ (w.heap.size + 1 + 1 + 1) by omega)
  have e0 := RU2.c (i := 0) rfl
  have g0 := RV.c (i := 0) rfl
  have e1 := RU2.c (i := 1) rfl
  have g1 := RV.c (i := 1) rfl
  refine bodyPost_ret (v := .tuple #[.agg #[.bool (sg ((a / b))), .slice Xx (nl (mg ((a / b)))) cx], .agg #[.bool (sg ((a % b))), .slice Xy (nl (mg ((a % b)))) cy], .int .i64 0]) (by simp [results, Tryz.results51, go_sem, e0, e1, g0, g1]) rfl ?_
  exact ⟨Xx, cx, Xy, cy, rfl, ((Rs.other2 (v0 := .bool (sg ((a / b)))) (v1 := .slice Xx (nl (mg ((a / b)))) cx) (show (w.heap.size + 1 + 1 + 1) ≠ (w.heap.size + 1 + 1) by omega)).keep2 (nuB rfl) (Rr.keep2 (nuB rfl) hx)), ((Rs.other2 (v0 := .bool (sg ((a / b)))) (v1 := .slice Xx (nl (mg ((a / b)))) cx) (show (w.heap.size + 1 + 1 + 1) ≠ (w.heap.size + 1 + 1) by omega)).keep2 (nuB rfl) (Rr.keep2 (nuB rfl) hy)), Below.store2 (Below.store2 HBT (by omega)) (by omega)⟩
theorem idiv_z (aA : Option Addr) (ac : Nat) (a : Int) (bA : Option Addr) (bc : Nat) (b : Int) (w : World) (ha : NatV w aA ac (mg a)) (hb : NatV w bA bc (mg b)) (la : nl (mg a) ≤ 1048576) (lb : nl (mg b) ≤ 1048576) (hb0 : b ≠ 0) (h : a < 0) (h2 : mg a % mg b = 0) :
    Calls Tryz.prog 51 #[.agg #[.bool (sg a), .slice aA (nl (mg a)) ac], .agg #[.bool (sg b), .slice bA (nl (mg b)) bc]] w (RetII w (a / b) (a % b)) := by
  have pb : 0 < mg b := mg_pos.2 hb0
  have hv := dm_plain hb0 (.inr h2)
  obtain ⟨q, Eq⟩ : ∃ zq : Nat, zq = mg a / mg b := ⟨_, rfl⟩
  obtain ⟨r, Er⟩ : ∃ zq : Nat, zq = mg a % mg b := ⟨_, rfl⟩
  have Bq : nl q ≤ 1048576 := by rw [Eq]; have := nl_div (mg a) (mg b); omega
  have Br : nl r ≤ 1048576 := by rw [Er]; have := nl_mod_le (mg a) (mg b); omega
  have hrb : r ≤ mg b := by rw [Er]; exact Nat.le_of_lt (Nat.mod_lt _ pb)
  have ta : sg a = true := sg_t h
  obtain ⟨n, En⟩ : ∃ n : Bool, n = !sg b := ⟨_, rfl⟩
  have In : (!sg b) = n := En.symm
  rw [show (sg a != sg b) = n by rw [ta, ← In]; simp, ← Eq, ← Er] at hv
  replace hv := Lib.hid hv
  replace En := Lib.hid En
  rw [← Er] at h2
  have t1 : decide (0 < (nl r : Int)) = false := by rw [h2, nl_zero]; rfl
  have t2 : decide (0 < nl r) = false := by rw [h2, nl_zero]; rfl
  replace h2 := Lib.hid h2
  replace h := Lib.hid h
  obtain ⟨hb1, Ra, Rb, Rr, Rs⟩ := bx4 w #[.bool true, .slice aA (nl (mg a)) ac] 24 #[.bool (sg b), .slice bA (nl (mg b)) bc] 24 #[.bool false, .slice none 0 0] 24 #[.bool false, .slice none 0 0] 24
  replace ha := ha.below hb1
  replace hb := hb.below hb1
  have HBT := hb1
  clear hb1
  have qa0 := Ra.c (i := 0) rfl
  have qa1 := Ra.c (i := 1) rfl
  have qb0 := Rb.c (i := 0) rfl
  have qb1 := Rb.c (i := 1) rfl
  have qr0 := Rr.c (i := 0) rfl
  have qr1 := Rr.c (i := 1) rfl
  have qs0 := Rs.c (i := 0) rfl
  have qs1 := Rs.c (i := 1) rfl
  go_enter Tryz.func51, Tryz.ntmps51
  go_wp2_with (fail)
  have CD := ddivmod_c aA ac (mg a) bA bc (mg b) _ ha hb (by omega) (by omega) pb
  rw [← Eq, ← Er] at CD
  replace Eq := Lib.hid Eq
  replace Er := Lib.hid Er
  refine (Calls.mono CD ?_)
  clear CD
  rintro e W2 ⟨Xq, cq, Xr, cr, rfl, hq, hr, hb2⟩
  replace ha := ha.below hb2
  replace hb := hb.below hb2
  replace Ra := Ra.below hb2
  replace qa0 := cbl hb2 qa0
  replace qa1 := cbl hb2 qa1
  replace Rb := Rb.below hb2
  replace qb0 := cbl hb2 qb0
  replace qb1 := cbl hb2 qb1
  replace Rr := Rr.below hb2
  replace qr0 := cbl hb2 qr0
  replace qr1 := cbl hb2 qr1
  replace Rs := Rs.below hb2
  replace qs0 := cbl hb2 qs0
  replace qs1 := cbl hb2 qs1
  replace HBT := Below.cons HBT hb2
  clear hb2
  go_wp2_with (fail)
  obtain ⟨x, Ex⟩ : ∃ zq : Int, zq = ival n q := ⟨_, rfl⟩
  refine (Calls.mono (R := RetI W2 x) (by rw [Ex]; with_reducible exact (imake_c n Xq cq q _ hq (by omega))) ?_)
  replace Ex := Lib.hid Ex
  rintro e W3 ⟨Xx, cx, rfl, hx, hb3⟩
  replace ha := ha.below hb3
  replace hb := hb.below hb3
  replace Ra := Ra.below hb3
  replace qa0 := cbl hb3 qa0
  replace qa1 := cbl hb3 qa1
  replace Rb := Rb.below hb3
  replace qb0 := cbl hb3 qb0
  replace qb1 := cbl hb3 qb1
  replace Rr := Rr.below hb3
  replace qr0 := cbl hb3 qr0
  replace qr1 := cbl hb3 qr1
  replace Rs := Rs.below hb3
  replace qs0 := cbl hb3 qs0
  replace qs1 := cbl hb3 qs1
  replace hq := hq.below hb3
  replace hr := hr.below hb3
  replace HBT := Below.cons HBT hb3
  clear hb3
  go_wp2_with (fail)
  obtain ⟨y, Ey⟩ : ∃ zq : Int, zq = ival false r := ⟨_, rfl⟩
  refine (Calls.mono (R := RetI W3 y) (by rw [Ey]; with_reducible exact (imake_c false Xr cr r _ hr (by omega))) ?_)
  replace Ey := Lib.hid Ey
  rintro e W4 ⟨Xy, cy, rfl, hy, hb4⟩
  replace ha := ha.below hb4
  replace hb := hb.below hb4
  replace Ra := Ra.below hb4
  replace qa0 := cbl hb4 qa0
  replace qa1 := cbl hb4 qa1
  replace Rb := Rb.below hb4
  replace qb0 := cbl hb4 qb0
  replace qb1 := cbl hb4 qb1
  replace Rr := Rr.below hb4
  replace qr0 := cbl hb4 qr0
  replace qr1 := cbl hb4 qr1
  replace Rs := Rs.below hb4
  replace qs0 := cbl hb4 qs0
  replace qs1 := cbl hb4 qs1
  replace hq := hq.below hb4
  replace hr := hr.below hb4
  replace hx := hx.below hb4
  replace HBT := Below.cons HBT hb4
  clear hb4
  have hzx : x = a / b := by rw [Ex.out]; exact hv.out.1
  subst hzx
  have hzy : y = a % b := by rw [Ey.out]; exact hv.out.2
  subst hzy
  have fzr0 := Rr.f (i := 0)
  have fzr1 := Rr.f (i := 1)
  have fzs0 := Rs.f (i := 0)
  have fzs1 := Rs.f (i := 1)
  go_wp2_with (fail)
  have RU := Rr.store2 (.bool (sg ((a / b)))) (.slice Xx (nl (mg ((a / b)))) cx)
  have RV := (Rs.other2 (v0 := .bool (sg ((a / b)))) (v1 := .slice Xx (nl (mg ((a / b)))) cx) (show (w.heap.size + 1 + 1 + 1) ≠ (w.heap.size + 1 + 1) by omega)).store2 (.bool (sg ((a % b)))) (.slice Xy (nl (mg ((a % b)))) cy)
  have RU2 := RU.other2 (v0 := .bool (sg ((a % b)))) (v1 := .slice Xy (nl (mg ((a % b)))) cy) (show (w.heap.size + 1 + 1) ≠ (w.heap.size + 1 + 1 + 1) by omega)
  have e0 := RU2.c (i := 0) rfl
  have g0 := RV.c (i := 0) rfl
  have e1 := RU2.c (i := 1) rfl
  have g1 := RV.c (i := 1) rfl
  refine bodyPost_ret (v := .tuple #[.agg #[.bool (sg ((a / b))), .slice Xx (nl (mg ((a / b)))) cx], .agg #[.bool (sg ((a % b))), .slice Xy (nl (mg ((a % b)))) cy], .int .i64 0]) (by simp [results, Tryz.results51, go_sem, e0, e1, g0, g1]) rfl ?_
  exact ⟨Xx, cx, Xy, cy, rfl, ((Rs.other2 (v0 := .bool (sg ((a / b)))) (v1 := .slice Xx (nl (mg ((a / b)))) cx) (show (w.heap.size + 1 + 1 + 1) ≠ (w.heap.size + 1 + 1) by omega)).keep2 (nuB rfl) (Rr.keep2 (nuB rfl) hx)), ((Rs.other2 (v0 := .bool (sg ((a / b)))) (v1 := .slice Xx (nl (mg ((a / b)))) cx) (show (w.heap.size + 1 + 1 + 1) ≠ (w.heap.size + 1 + 1) by omega)).keep2 (nuB rfl) (Rr.keep2 (nuB rfl) hy)), Below.store2 (Below.store2 HBT (by omega)) (by omega)⟩
theorem idiv_t (aA : Option Addr) (ac : Nat) (a : Int) (bA : Option Addr) (bc : Nat) (b : Int) (w : World) (ha : NatV w aA ac (mg a)) (hb : NatV w bA bc (mg b)) (la : nl (mg a) ≤ 1048576) (lb : nl (mg b) ≤ 1048576) (hb0 : b ≠ 0) (h : a < 0) (h2 : mg a % mg b ≠ 0) :
    Calls Tryz.prog 51 #[.agg #[.bool (sg a), .slice aA (nl (mg a)) ac], .agg #[.bool (sg b), .slice bA (nl (mg b)) bc]] w (RetII w (a / b) (a % b)) := by
  have pb : 0 < mg b := mg_pos.2 hb0
  have hv := dm_below hb0 h h2
  obtain ⟨q, Eq⟩ : ∃ zq : Nat, zq = mg a / mg b := ⟨_, rfl⟩
  obtain ⟨r, Er⟩ : ∃ zq : Nat, zq = mg a % mg b := ⟨_, rfl⟩
  have Bq : nl q ≤ 1048576 := by rw [Eq]; have := nl_div (mg a) (mg b); omega
  have Br : nl r ≤ 1048576 := by rw [Er]; have := nl_mod_le (mg a) (mg b); omega
  have hrb : r ≤ mg b := by rw [Er]; exact Nat.le_of_lt (Nat.mod_lt _ pb)
  have ta : sg a = true := sg_t h
  obtain ⟨n, En⟩ : ∃ n : Bool, n = !sg b := ⟨_, rfl⟩
  have In : (!sg b) = n := En.symm
  rw [show (sg a != sg b) = n by rw [ta, ← In]; simp, ← Eq, ← Er] at hv
  replace hv := Lib.hid hv
  replace En := Lib.hid En
  rw [← Er] at h2
  have t1 : decide (0 < (nl r : Int)) = true := by have := nl_pos.2 h2; simp; omega
  have t2 : decide (0 < nl r) = true := by have := nl_pos.2 h2; simp; omega
  replace h2 := Lib.hid h2
  replace h := Lib.hid h
  obtain ⟨hb1, Ra, Rb, Rr, Rs⟩ := bx4 w #[.bool true, .slice aA (nl (mg a)) ac] 24 #[.bool (sg b), .slice bA (nl (mg b)) bc] 24 #[.bool false, .slice none 0 0] 24 #[.bool false, .slice none 0 0] 24
  replace ha := ha.below hb1
  replace hb := hb.below hb1
  have HBT := hb1
  clear hb1
  have qa0 := Ra.c (i := 0) rfl
  have qa1 := Ra.c (i := 1) rfl
  have qb0 := Rb.c (i := 0) rfl
  have qb1 := Rb.c (i := 1) rfl
  have qr0 := Rr.c (i := 0) rfl
  have qr1 := Rr.c (i := 1) rfl
  have qs0 := Rs.c (i := 0) rfl
  have qs1 := Rs.c (i := 1) rfl
  go_enter Tryz.func51, Tryz.ntmps51
  go_wp2_with (fail)
  have CD := ddivmod_c aA ac (mg a) bA bc (mg b) _ ha hb (by omega) (by omega) pb
  rw [← Eq, ← Er] at CD
  replace Eq := Lib.hid Eq
  replace Er := Lib.hid Er
  refine (Calls.mono CD ?_)
  clear CD
  rintro e W2 ⟨Xq, cq, Xr, cr, rfl, hq, hr, hb2⟩
  replace ha := ha.below hb2
  replace hb := hb.below hb2
  replace Ra := Ra.below hb2
  replace qa0 := cbl hb2 qa0
  replace qa1 := cbl hb2 qa1
  replace Rb := Rb.below hb2
  replace qb0 := cbl hb2 qb0
  replace qb1 := cbl hb2 qb1
  replace Rr := Rr.below hb2
  replace qr0 := cbl hb2 qr0
  replace qr1 := cbl hb2 qr1
  replace Rs := Rs.below hb2
  replace qs0 := cbl hb2 qs0
  replace qs1 := cbl hb2 qs1
  replace HBT := Below.cons HBT hb2
  clear hb2
  go_wp2_with (fail)
  obtain ⟨o, Eo⟩ : ∃ zq : Nat, zq = 1 := ⟨_, rfl⟩
  have Bo : nl o ≤ 1 := by rw [Eo, nl_one]; exact Nat.le_refl _
  refine (Calls.mono (R := RetN W2 o) (by rw [Eo]; with_reducible exact (ione_c _)) ?_)
  replace Eo := Lib.hid Eo
  rintro e W3 ⟨Xo, co, rfl, ho, hb3⟩
  replace ha := ha.below hb3
  replace hb := hb.below hb3
  replace Ra := Ra.below hb3
  replace qa0 := cbl hb3 qa0
  replace qa1 := cbl hb3 qa1
  replace Rb := Rb.below hb3
  replace qb0 := cbl hb3 qb0
  replace qb1 := cbl hb3 qb1
  replace Rr := Rr.below hb3
  replace qr0 := cbl hb3 qr0
  replace qr1 := cbl hb3 qr1
  replace Rs := Rs.below hb3
  replace qs0 := cbl hb3 qs0
  replace qs1 := cbl hb3 qs1
  replace hq := hq.below hb3
  replace hr := hr.below hb3
  replace HBT := Below.cons HBT hb3
  clear hb3
  go_wp2_with (fail)
  obtain ⟨q2, Eq2⟩ : ∃ zq : Nat, zq = q + o := ⟨_, rfl⟩
  have Bq2 : nl q2 ≤ 1048577 := by rw [Eq2]; have := nl_add q o; omega
  refine (Calls.mono (R := RetN W3 q2) (by rw [Eq2]; with_reducible exact (add_c Xq cq q Xo co o _ hq ho (by omega) (by omega))) ?_)
  replace Eq2 := Lib.hid Eq2
  rintro e W4 ⟨Xq2, cq2, rfl, hq2, hb4⟩
  replace ha := ha.below hb4
  replace hb := hb.below hb4
  replace Ra := Ra.below hb4
  replace qa0 := cbl hb4 qa0
  replace qa1 := cbl hb4 qa1
  replace Rb := Rb.below hb4
  replace qb0 := cbl hb4 qb0
  replace qb1 := cbl hb4 qb1
  replace Rr := Rr.below hb4
  replace qr0 := cbl hb4 qr0
  replace qr1 := cbl hb4 qr1
  replace Rs := Rs.below hb4
  replace qs0 := cbl hb4 qs0
  replace qs1 := cbl hb4 qs1
  replace hq := hq.below hb4
  replace hr := hr.below hb4
  replace ho := ho.below hb4
  replace HBT := Below.cons HBT hb4
  clear hb4
  go_wp2_with (fail)
  obtain ⟨r2, Er2⟩ : ∃ zq : Nat, zq = mg b - r := ⟨_, rfl⟩
  have Br2 : nl r2 ≤ 1048576 := by rw [Er2]; have := nl_sub (mg b) r; omega
  have CS := sub_c bA bc (mg b) Xr cr r _ hb hr (by omega) (by omega) hrb
  rw [← Er2] at CS
  replace Er2 := Lib.hid Er2
  refine (Calls.mono CS ?_)
  clear CS
  rintro e W5 ⟨Xr2, cr2, rfl, hr2, hb5⟩
  replace ha := ha.below hb5
  replace hb := hb.below hb5
  replace Ra := Ra.below hb5
  replace qa0 := cbl hb5 qa0
  replace qa1 := cbl hb5 qa1
  replace Rb := Rb.below hb5
  replace qb0 := cbl hb5 qb0
  replace qb1 := cbl hb5 qb1
  replace Rr := Rr.below hb5
  replace qr0 := cbl hb5 qr0
  replace qr1 := cbl hb5 qr1
  replace Rs := Rs.below hb5
  replace qs0 := cbl hb5 qs0
  replace qs1 := cbl hb5 qs1
  replace hq := hq.below hb5
  replace hr := hr.below hb5
  replace ho := ho.below hb5
  replace hq2 := hq2.below hb5
  replace HBT := Below.cons HBT hb5
  clear hb5
  go_wp2_with (fail)
  obtain ⟨x, Ex⟩ : ∃ zq : Int, zq = ival n q2 := ⟨_, rfl⟩
  refine (Calls.mono (R := RetI W5 x) (by rw [Ex]; with_reducible exact (imake_c n Xq2 cq2 q2 _ hq2 (by omega))) ?_)
  replace Ex := Lib.hid Ex
  rintro e W6 ⟨Xx, cx, rfl, hx, hb6⟩
  replace ha := ha.below hb6
  replace hb := hb.below hb6
  replace Ra := Ra.below hb6
  replace qa0 := cbl hb6 qa0
  replace qa1 := cbl hb6 qa1
  replace Rb := Rb.below hb6
  replace qb0 := cbl hb6 qb0
  replace qb1 := cbl hb6 qb1
  replace Rr := Rr.below hb6
  replace qr0 := cbl hb6 qr0
  replace qr1 := cbl hb6 qr1
  replace Rs := Rs.below hb6
  replace qs0 := cbl hb6 qs0
  replace qs1 := cbl hb6 qs1
  replace hq := hq.below hb6
  replace hr := hr.below hb6
  replace ho := ho.below hb6
  replace hq2 := hq2.below hb6
  replace hr2 := hr2.below hb6
  replace HBT := Below.cons HBT hb6
  clear hb6
  go_wp2_with (fail)
  obtain ⟨y, Ey⟩ : ∃ zq : Int, zq = ival false r2 := ⟨_, rfl⟩
  refine (Calls.mono (R := RetI W6 y) (by rw [Ey]; with_reducible exact (imake_c false Xr2 cr2 r2 _ hr2 (by omega))) ?_)
  replace Ey := Lib.hid Ey
  rintro e W7 ⟨Xy, cy, rfl, hy, hb7⟩
  replace ha := ha.below hb7
  replace hb := hb.below hb7
  replace Ra := Ra.below hb7
  replace qa0 := cbl hb7 qa0
  replace qa1 := cbl hb7 qa1
  replace Rb := Rb.below hb7
  replace qb0 := cbl hb7 qb0
  replace qb1 := cbl hb7 qb1
  replace Rr := Rr.below hb7
  replace qr0 := cbl hb7 qr0
  replace qr1 := cbl hb7 qr1
  replace Rs := Rs.below hb7
  replace qs0 := cbl hb7 qs0
  replace qs1 := cbl hb7 qs1
  replace hq := hq.below hb7
  replace hr := hr.below hb7
  replace ho := ho.below hb7
  replace hq2 := hq2.below hb7
  replace hr2 := hr2.below hb7
  replace hx := hx.below hb7
  replace HBT := Below.cons HBT hb7
  clear hb7
  have hzx : x = a / b := by rw [Ex.out, Eq2.out, Eo.out]; exact hv.out.1
  subst hzx
  have hzy : y = a % b := by rw [Ey.out, Er2.out]; exact hv.out.2
  subst hzy
  have fzr0 := Rr.f (i := 0)
  have fzr1 := Rr.f (i := 1)
  have fzs0 := Rs.f (i := 0)
  have fzs1 := Rs.f (i := 1)
  go_wp2_with (fail)
  have RU := Rr.store2 (.bool (sg ((a / b)))) (.slice Xx (nl (mg ((a / b)))) cx)
  have RV := (Rs.other2 (v0 := .bool (sg ((a / b)))) (v1 := .slice Xx (nl (mg ((a / b)))) cx) (show (w.heap.size + 1 + 1 + 1) ≠ (w.heap.size + 1 + 1) by omega)).store2 (.bool (sg ((a % b)))) (.slice Xy (nl (mg ((a % b)))) cy)
  have RU2 := RU.other2 (v0 := .bool (sg ((a % b)))) (v1 := .slice Xy (nl (mg ((a % b)))) cy) (show (w.heap.size + 1 + 1) ≠ (w.heap.size + 1 + 1 + 1) by omega)
  have e0 := RU2.c (i := 0) rfl
  have g0 := RV.c (i := 0) rfl
  have e1 := RU2.c (i := 1) rfl
  have g1 := RV.c (i := 1) rfl
  refine bodyPost_ret (v := .tuple #[.agg #[.bool (sg ((a / b))), .slice Xx (nl (mg ((a / b)))) cx], .agg #[.bool (sg ((a % b))), .slice Xy (nl (mg ((a % b)))) cy], .int .i64 0]) (by simp [results, Tryz.results51, go_sem, e0, e1, g0, g1]) rfl ?_
  exact ⟨Xx, cx, Xy, cy, rfl, ((Rs.other2 (v0 := .bool (sg ((a / b)))) (v1 := .slice Xx (nl (mg ((a / b)))) cx) (show (w.heap.size + 1 + 1 + 1) ≠ (w.heap.size + 1 + 1) by omega)).keep2 (nuB rfl) (Rr.keep2 (nuB rfl) hx)), ((Rs.other2 (v0 := .bool (sg ((a / b)))) (v1 := .slice Xx (nl (mg ((a / b)))) cx) (show (w.heap.size + 1 + 1 + 1) ≠ (w.heap.size + 1 + 1) by omega)).keep2 (nuB rfl) (Rr.keep2 (nuB rfl) hy)), Below.store2 (Below.store2 HBT (by omega)) (by omega)⟩
theorem idiv_c (aA : Option Addr) (ac : Nat) (a : Int) (bA : Option Addr) (bc : Nat) (b : Int) (w : World) (ha : NatV w aA ac (mg a)) (hb : NatV w bA bc (mg b)) (la : nl (mg a) ≤ 1048576) (lb : nl (mg b) ≤ 1048576) (hb0 : b ≠ 0) :
    Calls Tryz.prog 51 #[.agg #[.bool (sg a), .slice aA (nl (mg a)) ac], .agg #[.bool (sg b), .slice bA (nl (mg b)) bc]] w (RetII w (a / b) (a % b)) := by
  by_cases h : 0 ≤ a
  · exact idiv_f aA ac a bA bc b w ha hb la lb hb0 h
  · by_cases h2 : mg a % mg b = 0
    · exact idiv_z aA ac a bA bc b w ha hb la lb hb0 (by omega) h2
    · exact idiv_t aA ac a bA bc b w ha hb la lb hb0 (by omega) h2
theorem zmade_c (sa : Bool) (A : Option Addr) (c m : Nat) (l : List Nat) (w : World) (h : Rd w A l) (hL : Lim l) (hl : l.length ≤ maxLen) (hc : l.length ≤ c) (hnil : A = none → c = 0) (hm : m ≤ 1048576) :
    Calls Tryz.prog 19 #[.agg #[.bool sa, .slice A l.length c], .int .i64 (m : Nat)] w (RetI w (ival sa (val (l.take m)))) := by
  have lv : nl (val (l.take m)) ≤ 1048576 := Nat.le_trans (made_nl l hL m) hm
  obtain ⟨hb1, Ra, Rr⟩ := bx2 w #[.bool sa, .slice A l.length c] 24 #[.bool false, .slice none 0 0] 24
  replace h := h.below hb1
  have HBT := hb1
  clear hb1
  have qa0 := Ra.c (i := 0) rfl
  have qa1 := Ra.c (i := 1) rfl
  have qr0 := Rr.c (i := 0) rfl
  have qr1 := Rr.c (i := 1) rfl
  go_enter Tryz.func19, Tryz.ntmps19
  go_wp2_with (fail)
  have hd2 := drb (((w.alloc (.cells #[.bool sa, .slice A l.length c] 24)).alloc (.cells #[.bool false, .slice none 0 0] 24)))
  replace h := h.below hd2
  replace Ra := Ra.below hd2
  replace qa0 := cbl hd2 qa0
  replace qa1 := cbl hd2 qa1
  replace Rr := Rr.below hd2
  replace qr0 := cbl hd2 qr0
  replace qr1 := cbl hd2 qr1
  replace HBT := Below.cons HBT hd2
  clear hd2
  obtain ⟨n, En⟩ : ∃ zq : Nat, zq = val (l.take m) := ⟨_, rfl⟩
  rw [← En] at lv
  have C2_0 := fun (W : World) (h1 : Rd W A l) => made_n_c A c m l W h1 hL hl hc hnil (by omega)
  simp only [← En] at C2_0
  replace En := Lib.hid En
  replace C2_0 := Lib.hid C2_0
  obtain ⟨z, Ez⟩ : ∃ zq : Int, zq = ival sa n := ⟨_, rfl⟩
  have C2_1 := fun (W : World) (A : Option Addr) (c : Nat) (h1 : NatV W A c n) => rz_c sa A c n W h1 (by omega)
  simp only [← Ez] at C2_1
  replace Ez := Lib.hid Ez
  replace C2_1 := Lib.hid C2_1
  go_region_held3 (fun W => W.cell? ⟨w.heap.size, 0, none⟩ = some (.bool sa) ∧ W.cell? ⟨w.heap.size, 1, none⟩ = some (.slice A l.length c))
    (first
      | exact ⟨qa0, qa1⟩
      | exact ⟨qa0_3, qa1_3⟩
      | exact ⟨qa0_4, qa1_4⟩
      | exact ⟨((Ra_4.other2 (by simp <;> omega)).c (i := 0) rfl), ((Ra_4.other2 (by simp <;> omega)).c (i := 1) rfl)⟩
      | go_keep)
    (first
      | (go_at_call 32; (with_reducible refine (C2_0.out _ h).mono ?_); rintro e W3 ⟨Xn, cn, rfl, hn, hb3⟩; have h_3 := h.below hb3; have Ra_3 := Ra.below hb3; have qa0_3 := cbl hb3 qa0; have qa1_3 := cbl hb3 qa1; have Rr_3 := Rr.below hb3; have qr0_3 := cbl hb3 qr0; have qr1_3 := cbl hb3 qr1; have HBT_3 := Below.cons HBT hb3)
      | (go_at_call 37; (with_reducible refine (C2_1.out _ _ _ hn).mono ?_); rintro e W4 ⟨Xz, cz, rfl, hz, hb4⟩; have h_4 := h_3.below hb4; have Ra_4 := Ra_3.below hb4; have qa0_4 := cbl hb4 qa0_3; have qa1_4 := cbl hb4 qa1_3; have Rr_4 := Rr_3.below hb4; have qr0_4 := cbl hb4 qr0_3; have qr1_4 := cbl hb4 qr1_3; have hn_4 := hn.below hb4; have HBT_4 := Below.cons HBT_3 hb4; have fz0 := Rr_4.f (i := 0); have fz1 := Rr_4.f (i := 1)))
  all_goals (try go_wp2_with (fail))
  have hzz : z = (ival sa (val (l.take m))) := by rw [Ez.out, En.out]
  subst hzz
  have RS := Rr_4.store2 (.bool (sg (((ival sa (val (l.take m))))))) (.slice Xz (nl (mg (((ival sa (val (l.take m))))))) cz)
  have e0 := RS.c (i := 0) rfl
  have e1 := RS.c (i := 1) rfl
  refine bodyPost_ret (v := .agg #[.bool (sg (((ival sa (val (l.take m)))))), .slice Xz (nl (mg (((ival sa (val (l.take m))))))) cz]) (by simp [results, Tryz.results19, go_sem, e0, e1]) rfl ?_
  exact ⟨Xz, cz, rfl, (Rr_4.keep2 (nuB rfl) hz), (Below.store2 HBT_4 (by first | exact Nat.le_refl _ | omega))⟩
theorem ival_mul (a b : Int) : ival (sg a != sg b) (mg a * mg b) = a * b := by
  unfold ival sg mg
  rw [Int.natCast_mul]
  rcases Int.lt_or_le a 0 with h | h <;> rcases Int.lt_or_le b 0 with k | k
  · have e1 : (a.natAbs : Int) = -a := by omega
    have e2 : (b.natAbs : Int) = -b := by omega
    rw [e1, e2]; simp [h, k, Int.neg_mul, Int.mul_neg]
  · have e1 : (a.natAbs : Int) = -a := by omega
    have e2 : (b.natAbs : Int) = b := by omega
    rw [e1, e2]; simp [h, show ¬ b < 0 by omega, Int.neg_mul, Int.mul_neg]
  · have e1 : (a.natAbs : Int) = a := by omega
    have e2 : (b.natAbs : Int) = -b := by omega
    rw [e1, e2]; simp [k, show ¬ a < 0 by omega, Int.neg_mul, Int.mul_neg]
  · have e1 : (a.natAbs : Int) = a := by omega
    have e2 : (b.natAbs : Int) = b := by omega
    rw [e1, e2]; simp [show ¬ a < 0 by omega, show ¬ b < 0 by omega]
theorem cell_other2 {W : World} {j i k : Nat} {v v0 v1 : Value} (h : W.cell? ⟨j, i, none⟩ = some v) (hne : j ≠ k) : ((W.setCell ⟨k, 0, none⟩ v0).setCell ⟨k, 1, none⟩ v1).cell? ⟨j, i, none⟩ = some v := by
  unfold World.cell? at h ⊢
  rw [set2_far j hne]; exact h
theorem zdiv_f (aA : Option Addr) (ac : Nat) (a : Int) (bA : Option Addr) (bc : Nat) (b : Int) (w : World) (ha : NatV w aA ac (mg a)) (hb : NatV w bA bc (mg b)) (la : nl (mg a) ≤ 1048576) (lb : nl (mg b) ≤ 1048576) (hb0 : b ≠ 0) (h : 0 ≤ a) :
    Calls Tryz.prog 137 #[.agg #[.bool (sg a), .slice aA (nl (mg a)) ac], .agg #[.bool (sg b), .slice bA (nl (mg b)) bc]] w (RetII w (a / b) (a % b)) := by
  have pb : 0 < mg b := mg_pos.2 hb0
  have hv := dm_plain hb0 (.inl h)
  obtain ⟨q, Eq⟩ : ∃ zq : Nat, zq = mg a / mg b := ⟨_, rfl⟩
  obtain ⟨r, Er⟩ : ∃ zq : Nat, zq = mg a % mg b := ⟨_, rfl⟩
  have Bq : nl q ≤ 1048576 := by rw [Eq]; have := nl_div (mg a) (mg b); omega
  have Br : nl r ≤ 1048576 := by rw [Er]; have := nl_mod_le (mg a) (mg b); omega
  have hrb : r ≤ mg b := by rw [Er]; exact Nat.le_of_lt (Nat.mod_lt _ pb)
  have ta : sg a = false := sg_f h
  rw [show (sg a != sg b) = sg b by rw [ta]; simp, ← Eq, ← Er] at hv
  replace hv := Lib.hid hv
  replace h := Lib.hid h
  obtain ⟨hb1, Ra, Rb, Rr, Rs⟩ := bx4 w #[.bool false, .slice aA (nl (mg a)) ac] 24 #[.bool (sg b), .slice bA (nl (mg b)) bc] 24 #[.bool false, .slice none 0 0] 24 #[.bool false, .slice none 0 0] 24
  replace ha := ha.below hb1
  replace hb := hb.below hb1
  have HBT := hb1
  clear hb1
  have qa0 := Ra.c (i := 0) rfl
  have qa1 := Ra.c (i := 1) rfl
  have qb0 := Rb.c (i := 0) rfl
  have qb1 := Rb.c (i := 1) rfl
  have qr0 := Rr.c (i := 0) rfl
  have qr1 := Rr.c (i := 1) rfl
  have qs0 := Rs.c (i := 0) rfl
  have qs1 := Rs.c (i := 1) rfl
  go_enter Tryz.func137, Tryz.ntmps137
  go_wp2_with (fail)
  have CD := rdiv_c aA ac (mg a) bA bc (mg b) _ ha hb (by omega) (by omega) pb
  rw [← Eq, ← Er] at CD
  replace Eq := Lib.hid Eq
  replace Er := Lib.hid Er
  refine (Calls.mono CD ?_)
  clear CD
  rintro e W2 ⟨Xq, cq, Xr, cr, rfl, hq, hr, hb2⟩
  replace ha := ha.below hb2
  replace hb := hb.below hb2
  replace Ra := Ra.below hb2
  replace qa0 := cbl hb2 qa0
  replace qa1 := cbl hb2 qa1
  replace Rb := Rb.below hb2
  replace qb0 := cbl hb2 qb0
  replace qb1 := cbl hb2 qb1
  replace Rr := Rr.below hb2
  replace qr0 := cbl hb2 qr0
  replace qr1 := cbl hb2 qr1
  replace Rs := Rs.below hb2
  replace qs0 := cbl hb2 qs0
  replace qs1 := cbl hb2 qs1
  replace HBT := Below.cons HBT hb2
  clear hb2
  go_wp2_with (fail)
  obtain ⟨x, Ex⟩ : ∃ zq : Int, zq = ival (sg b) q := ⟨_, rfl⟩
  refine (Calls.mono (R := RetI W2 x) (by rw [Ex]; with_reducible exact (rz_c (sg b) Xq cq q _ hq (by omega))) ?_)
  replace Ex := Lib.hid Ex
  rintro e W3 ⟨Xx, cx, rfl, hx, hb3⟩
  replace ha := ha.below hb3
  replace hb := hb.below hb3
  replace Ra := Ra.below hb3
  replace qa0 := cbl hb3 qa0
  replace qa1 := cbl hb3 qa1
  replace Rb := Rb.below hb3
  replace qb0 := cbl hb3 qb0
  replace qb1 := cbl hb3 qb1
  replace Rr := Rr.below hb3
  replace qr0 := cbl hb3 qr0
  replace qr1 := cbl hb3 qr1
  replace Rs := Rs.below hb3
  replace qs0 := cbl hb3 qs0
  replace qs1 := cbl hb3 qs1
  replace hq := hq.below hb3
  replace hr := hr.below hb3
  replace HBT := Below.cons HBT hb3
  clear hb3
  go_wp2_with (fail)
  obtain ⟨y, Ey⟩ : ∃ zq : Int, zq = ival false r := ⟨_, rfl⟩
  refine (Calls.mono (R := RetI W3 y) (by rw [Ey]; with_reducible exact (rz_c false Xr cr r _ hr (by omega))) ?_)
  replace Ey := Lib.hid Ey
  rintro e W4 ⟨Xy, cy, rfl, hy, hb4⟩
  replace ha := ha.below hb4
  replace hb := hb.below hb4
  replace Ra := Ra.below hb4
  replace qa0 := cbl hb4 qa0
  replace qa1 := cbl hb4 qa1
  replace Rb := Rb.below hb4
  replace qb0 := cbl hb4 qb0
  replace qb1 := cbl hb4 qb1
  replace Rr := Rr.below hb4
  replace qr0 := cbl hb4 qr0
  replace qr1 := cbl hb4 qr1
  replace Rs := Rs.below hb4
  replace qs0 := cbl hb4 qs0
  replace qs1 := cbl hb4 qs1
  replace hq := hq.below hb4
  replace hr := hr.below hb4
  replace hx := hx.below hb4
  replace HBT := Below.cons HBT hb4
  clear hb4
  have hzx : x = a / b := by rw [Ex.out]; exact hv.out.1
  subst hzx
  have hzy : y = a % b := by rw [Ey.out]; exact hv.out.2
  subst hzy
  have fzr0 := Rr.f (i := 0)
  have fzr1 := Rr.f (i := 1)
  have fzs0 := Rs.f (i := 0)
  have fzs1 := Rs.f (i := 1)
  go_wp2_with (fail)
  have RU := Rr.store2 (.bool (sg ((a / b)))) (.slice Xx (nl (mg ((a / b)))) cx)
  have RV := (Rs.other2 (v0 := .bool (sg ((a / b)))) (v1 := .slice Xx (nl (mg ((a / b)))) cx) (show (w.heap.size + 1 + 1 + 1) ≠ (w.heap.size + 1 + 1) by omega)).store2 (.bool (sg ((a % b)))) (.slice Xy (nl (mg ((a % b)))) cy)
  have RU2 := RU.other2 (v0 := .bool (sg ((a % b)))) (v1 := .slice Xy (nl (mg ((a % b)))) cy) (show (w.heap.size + 1 + 1) ≠ (w.heap.size + 1 + 1 + 1) by omega)
  have e0 := RU2.c (i := 0) rfl
  have g0 := RV.c (i := 0) rfl
  have e1 := RU2.c (i := 1) rfl
  have g1 := RV.c (i := 1) rfl
  refine bodyPost_ret (v := .tuple #[.agg #[.bool (sg ((a / b))), .slice Xx (nl (mg ((a / b)))) cx], .agg #[.bool (sg ((a % b))), .slice Xy (nl (mg ((a % b)))) cy], .int .i64 0]) (by simp [results, Tryz.results137, go_sem, e0, e1, g0, g1]) rfl ?_
  exact ⟨Xx, cx, Xy, cy, rfl, ((Rs.other2 (v0 := .bool (sg ((a / b)))) (v1 := .slice Xx (nl (mg ((a / b)))) cx) (show (w.heap.size + 1 + 1 + 1) ≠ (w.heap.size + 1 + 1) by omega)).keep2 (nuB rfl) (Rr.keep2 (nuB rfl) hx)), ((Rs.other2 (v0 := .bool (sg ((a / b)))) (v1 := .slice Xx (nl (mg ((a / b)))) cx) (show (w.heap.size + 1 + 1 + 1) ≠ (w.heap.size + 1 + 1) by omega)).keep2 (nuB rfl) (Rr.keep2 (nuB rfl) hy)), Below.store2 (Below.store2 HBT (by omega)) (by omega)⟩
theorem zdiv_z (aA : Option Addr) (ac : Nat) (a : Int) (bA : Option Addr) (bc : Nat) (b : Int) (w : World) (ha : NatV w aA ac (mg a)) (hb : NatV w bA bc (mg b)) (la : nl (mg a) ≤ 1048576) (lb : nl (mg b) ≤ 1048576) (hb0 : b ≠ 0) (h : a < 0) (h2 : mg a % mg b = 0) :
    Calls Tryz.prog 137 #[.agg #[.bool (sg a), .slice aA (nl (mg a)) ac], .agg #[.bool (sg b), .slice bA (nl (mg b)) bc]] w (RetII w (a / b) (a % b)) := by
  have pb : 0 < mg b := mg_pos.2 hb0
  have hv := dm_plain hb0 (.inr h2)
  obtain ⟨q, Eq⟩ : ∃ zq : Nat, zq = mg a / mg b := ⟨_, rfl⟩
  obtain ⟨r, Er⟩ : ∃ zq : Nat, zq = mg a % mg b := ⟨_, rfl⟩
  have Bq : nl q ≤ 1048576 := by rw [Eq]; have := nl_div (mg a) (mg b); omega
  have Br : nl r ≤ 1048576 := by rw [Er]; have := nl_mod_le (mg a) (mg b); omega
  have hrb : r ≤ mg b := by rw [Er]; exact Nat.le_of_lt (Nat.mod_lt _ pb)
  have ta : sg a = true := sg_t h
  obtain ⟨n, En⟩ : ∃ n : Bool, n = !sg b := ⟨_, rfl⟩
  have In : (!sg b) = n := En.symm
  rw [show (sg a != sg b) = n by rw [ta, ← In]; simp, ← Eq, ← Er] at hv
  replace hv := Lib.hid hv
  replace En := Lib.hid En
  rw [← Er] at h2
  have t1 : ((nl r : Int) == 0) = true := ieqT (by rw [h2, nl_zero]; rfl)
  have t2 : (nl r == 0) = true := by rw [h2, nl_zero]; rfl
  replace h2 := Lib.hid h2
  replace h := Lib.hid h
  obtain ⟨hb1, Ra, Rb, Rr, Rs⟩ := bx4 w #[.bool true, .slice aA (nl (mg a)) ac] 24 #[.bool (sg b), .slice bA (nl (mg b)) bc] 24 #[.bool false, .slice none 0 0] 24 #[.bool false, .slice none 0 0] 24
  replace ha := ha.below hb1
  replace hb := hb.below hb1
  have HBT := hb1
  clear hb1
  have qa0 := Ra.c (i := 0) rfl
  have qa1 := Ra.c (i := 1) rfl
  have qb0 := Rb.c (i := 0) rfl
  have qb1 := Rb.c (i := 1) rfl
  have qr0 := Rr.c (i := 0) rfl
  have qr1 := Rr.c (i := 1) rfl
  have qs0 := Rs.c (i := 0) rfl
  have qs1 := Rs.c (i := 1) rfl
  go_enter Tryz.func137, Tryz.ntmps137
  go_wp2_with (fail)
  have CD := rdiv_c aA ac (mg a) bA bc (mg b) _ ha hb (by omega) (by omega) pb
  rw [← Eq, ← Er] at CD
  replace Eq := Lib.hid Eq
  replace Er := Lib.hid Er
  refine (Calls.mono CD ?_)
  clear CD
  rintro e W2 ⟨Xq, cq, Xr, cr, rfl, hq, hr, hb2⟩
  replace ha := ha.below hb2
  replace hb := hb.below hb2
  replace Ra := Ra.below hb2
  replace qa0 := cbl hb2 qa0
  replace qa1 := cbl hb2 qa1
  replace Rb := Rb.below hb2
  replace qb0 := cbl hb2 qb0
  replace qb1 := cbl hb2 qb1
  replace Rr := Rr.below hb2
  replace qr0 := cbl hb2 qr0
  replace qr1 := cbl hb2 qr1
  replace Rs := Rs.below hb2
  replace qs0 := cbl hb2 qs0
  replace qs1 := cbl hb2 qs1
  replace HBT := Below.cons HBT hb2
  clear hb2
  go_wp2_with (fail)
  obtain ⟨x, Ex⟩ : ∃ zq : Int, zq = ival n q := ⟨_, rfl⟩
  refine (Calls.mono (R := RetI W2 x) (by rw [Ex]; with_reducible exact (rz_c n Xq cq q _ hq (by omega))) ?_)
  replace Ex := Lib.hid Ex
  rintro e W3 ⟨Xx, cx, rfl, hx, hb3⟩
  replace ha := ha.below hb3
  replace hb := hb.below hb3
  replace Ra := Ra.below hb3
  replace qa0 := cbl hb3 qa0
  replace qa1 := cbl hb3 qa1
  replace Rb := Rb.below hb3
  replace qb0 := cbl hb3 qb0
  replace qb1 := cbl hb3 qb1
  replace Rr := Rr.below hb3
  replace qr0 := cbl hb3 qr0
  replace qr1 := cbl hb3 qr1
  replace Rs := Rs.below hb3
  replace qs0 := cbl hb3 qs0
  replace qs1 := cbl hb3 qs1
  replace hq := hq.below hb3
  replace hr := hr.below hb3
  replace HBT := Below.cons HBT hb3
  clear hb3
  go_wp2_with (fail)
  obtain ⟨y, Ey⟩ : ∃ zq : Int, zq = ival false r := ⟨_, rfl⟩
  refine (Calls.mono (R := RetI W3 y) (by rw [Ey]; with_reducible exact (rz_c false Xr cr r _ hr (by omega))) ?_)
  replace Ey := Lib.hid Ey
  rintro e W4 ⟨Xy, cy, rfl, hy, hb4⟩
  replace ha := ha.below hb4
  replace hb := hb.below hb4
  replace Ra := Ra.below hb4
  replace qa0 := cbl hb4 qa0
  replace qa1 := cbl hb4 qa1
  replace Rb := Rb.below hb4
  replace qb0 := cbl hb4 qb0
  replace qb1 := cbl hb4 qb1
  replace Rr := Rr.below hb4
  replace qr0 := cbl hb4 qr0
  replace qr1 := cbl hb4 qr1
  replace Rs := Rs.below hb4
  replace qs0 := cbl hb4 qs0
  replace qs1 := cbl hb4 qs1
  replace hq := hq.below hb4
  replace hr := hr.below hb4
  replace hx := hx.below hb4
  replace HBT := Below.cons HBT hb4
  clear hb4
  have hzx : x = a / b := by rw [Ex.out]; exact hv.out.1
  subst hzx
  have hzy : y = a % b := by rw [Ey.out]; exact hv.out.2
  subst hzy
  have fzr0 := Rr.f (i := 0)
  have fzr1 := Rr.f (i := 1)
  have fzs0 := Rs.f (i := 0)
  have fzs1 := Rs.f (i := 1)
  go_wp2_with (fail)
  have RU := Rr.store2 (.bool (sg ((a / b)))) (.slice Xx (nl (mg ((a / b)))) cx)
  have RV := (Rs.other2 (v0 := .bool (sg ((a / b)))) (v1 := .slice Xx (nl (mg ((a / b)))) cx) (show (w.heap.size + 1 + 1 + 1) ≠ (w.heap.size + 1 + 1) by omega)).store2 (.bool (sg ((a % b)))) (.slice Xy (nl (mg ((a % b)))) cy)
  have RU2 := RU.other2 (v0 := .bool (sg ((a % b)))) (v1 := .slice Xy (nl (mg ((a % b)))) cy) (show (w.heap.size + 1 + 1) ≠ (w.heap.size + 1 + 1 + 1) by omega)
  have e0 := RU2.c (i := 0) rfl
  have g0 := RV.c (i := 0) rfl
  have e1 := RU2.c (i := 1) rfl
  have g1 := RV.c (i := 1) rfl
  refine bodyPost_ret (v := .tuple #[.agg #[.bool (sg ((a / b))), .slice Xx (nl (mg ((a / b)))) cx], .agg #[.bool (sg ((a % b))), .slice Xy (nl (mg ((a % b)))) cy], .int .i64 0]) (by simp [results, Tryz.results137, go_sem, e0, e1, g0, g1]) rfl ?_
  exact ⟨Xx, cx, Xy, cy, rfl, ((Rs.other2 (v0 := .bool (sg ((a / b)))) (v1 := .slice Xx (nl (mg ((a / b)))) cx) (show (w.heap.size + 1 + 1 + 1) ≠ (w.heap.size + 1 + 1) by omega)).keep2 (nuB rfl) (Rr.keep2 (nuB rfl) hx)), ((Rs.other2 (v0 := .bool (sg ((a / b)))) (v1 := .slice Xx (nl (mg ((a / b)))) cx) (show (w.heap.size + 1 + 1 + 1) ≠ (w.heap.size + 1 + 1) by omega)).keep2 (nuB rfl) (Rr.keep2 (nuB rfl) hy)), Below.store2 (Below.store2 HBT (by omega)) (by omega)⟩
theorem zdiv_t (aA : Option Addr) (ac : Nat) (a : Int) (bA : Option Addr) (bc : Nat) (b : Int) (w : World) (ha : NatV w aA ac (mg a)) (hb : NatV w bA bc (mg b)) (la : nl (mg a) ≤ 1048576) (lb : nl (mg b) ≤ 1048576) (hb0 : b ≠ 0) (h : a < 0) (h2 : mg a % mg b ≠ 0) :
    Calls Tryz.prog 137 #[.agg #[.bool (sg a), .slice aA (nl (mg a)) ac], .agg #[.bool (sg b), .slice bA (nl (mg b)) bc]] w (RetII w (a / b) (a % b)) := by
  have pb : 0 < mg b := mg_pos.2 hb0
  have hv := dm_below hb0 h h2
  obtain ⟨q, Eq⟩ : ∃ zq : Nat, zq = mg a / mg b := ⟨_, rfl⟩
  obtain ⟨r, Er⟩ : ∃ zq : Nat, zq = mg a % mg b := ⟨_, rfl⟩
  have Bq : nl q ≤ 1048576 := by rw [Eq]; have := nl_div (mg a) (mg b); omega
  have Br : nl r ≤ 1048576 := by rw [Er]; have := nl_mod_le (mg a) (mg b); omega
  have hrb : r ≤ mg b := by rw [Er]; exact Nat.le_of_lt (Nat.mod_lt _ pb)
  have ta : sg a = true := sg_t h
  obtain ⟨n, En⟩ : ∃ n : Bool, n = !sg b := ⟨_, rfl⟩
  have In : (!sg b) = n := En.symm
  rw [show (sg a != sg b) = n by rw [ta, ← In]; simp, ← Eq, ← Er] at hv
  replace hv := Lib.hid hv
  replace En := Lib.hid En
  rw [← Er] at h2
  have t1 : ((nl r : Int) == 0) = false := ieqF (by have := nl_pos.2 h2; omega)
  have t2 : (nl r == 0) = false := by have := nl_pos.2 h2; simp; omega
  replace h2 := Lib.hid h2
  replace h := Lib.hid h
  obtain ⟨hb1, Ra, Rb, Rr, Rs⟩ := bx4 w #[.bool true, .slice aA (nl (mg a)) ac] 24 #[.bool (sg b), .slice bA (nl (mg b)) bc] 24 #[.bool false, .slice none 0 0] 24 #[.bool false, .slice none 0 0] 24
  replace ha := ha.below hb1
  replace hb := hb.below hb1
  have HBT := hb1
  clear hb1
  have qa0 := Ra.c (i := 0) rfl
  have qa1 := Ra.c (i := 1) rfl
  have qb0 := Rb.c (i := 0) rfl
  have qb1 := Rb.c (i := 1) rfl
  have qr0 := Rr.c (i := 0) rfl
  have qr1 := Rr.c (i := 1) rfl
  have qs0 := Rs.c (i := 0) rfl
  have qs1 := Rs.c (i := 1) rfl
  go_enter Tryz.func137, Tryz.ntmps137
  go_wp2_with (fail)
  have CD := rdiv_c aA ac (mg a) bA bc (mg b) _ ha hb (by omega) (by omega) pb
  rw [← Eq, ← Er] at CD
  replace Eq := Lib.hid Eq
  replace Er := Lib.hid Er
  refine (Calls.mono CD ?_)
  clear CD
  rintro e W2 ⟨Xq, cq, Xr, cr, rfl, hq, hr, hb2⟩
  replace ha := ha.below hb2
  replace hb := hb.below hb2
  replace Ra := Ra.below hb2
  replace qa0 := cbl hb2 qa0
  replace qa1 := cbl hb2 qa1
  replace Rb := Rb.below hb2
  replace qb0 := cbl hb2 qb0
  replace qb1 := cbl hb2 qb1
  replace Rr := Rr.below hb2
  replace qr0 := cbl hb2 qr0
  replace qr1 := cbl hb2 qr1
  replace Rs := Rs.below hb2
  replace qs0 := cbl hb2 qs0
  replace qs1 := cbl hb2 qs1
  replace HBT := Below.cons HBT hb2
  clear hb2
  go_wp2_with (fail)
  obtain ⟨r2, Er2⟩ : ∃ zq : Nat, zq = mg b - r := ⟨_, rfl⟩
  have Br2 : nl r2 ≤ 1048576 := by rw [Er2]; have := nl_sub (mg b) r; omega
  have CS := rsub_c bA bc (mg b) Xr cr r _ hb hr (by omega) (by omega) hrb
  rw [← Er2] at CS
  replace Er2 := Lib.hid Er2
  refine (Calls.mono CS ?_)
  clear CS
  rintro e W3 ⟨Xr2, cr2, rfl, hr2, hb3⟩
  replace ha := ha.below hb3
  replace hb := hb.below hb3
  replace Ra := Ra.below hb3
  replace qa0 := cbl hb3 qa0
  replace qa1 := cbl hb3 qa1
  replace Rb := Rb.below hb3
  replace qb0 := cbl hb3 qb0
  replace qb1 := cbl hb3 qb1
  replace Rr := Rr.below hb3
  replace qr0 := cbl hb3 qr0
  replace qr1 := cbl hb3 qr1
  replace Rs := Rs.below hb3
  replace qs0 := cbl hb3 qs0
  replace qs1 := cbl hb3 qs1
  replace hq := hq.below hb3
  replace hr := hr.below hb3
  replace HBT := Below.cons HBT hb3
  clear hb3
  go_wp2_with (fail)
  have hd4 := drb (W3)
  replace ha := ha.below hd4
  replace hb := hb.below hd4
  replace Ra := Ra.below hd4
  replace qa0 := cbl hd4 qa0
  replace qa1 := cbl hd4 qa1
  replace Rb := Rb.below hd4
  replace qb0 := cbl hd4 qb0
  replace qb1 := cbl hd4 qb1
  replace Rr := Rr.below hd4
  replace qr0 := cbl hd4 qr0
  replace qr1 := cbl hd4 qr1
  replace Rs := Rs.below hd4
  replace qs0 := cbl hd4 qs0
  replace qs1 := cbl hd4 qs1
  replace hq := hq.below hd4
  replace hr := hr.below hd4
  replace hr2 := hr2.below hd4
  replace HBT := Below.cons HBT hd4
  clear hd4
  replace qb0 : (W3).drew.cell? ⟨(w.heap.size + 1), 0, none⟩ = some (.bool (sg b)) := qb0
  have k0qb0 := qb0
  have neqb0r : (w.heap.size + 1) ≠ (w.heap.size + 1 + 1) := by omega
  have neqb0s : (w.heap.size + 1) ≠ (w.heap.size + 1 + 1 + 1) := by omega
  have hl4 : Below (W3).drew.heap.size (W3).drew ((W3).alloc (.cells #[.int .u32 1] 62)).drew := (show Below (W3).drew.heap.size (W3).drew ((W3).drew.alloc (.cells #[.int .u32 1] 62)) from (Below.refl _ _).alloc (Nat.le_refl _) _)
  replace ha := ha.below hl4
  replace hb := hb.below hl4
  replace Ra := Ra.below hl4
  replace qa0 := cbl hl4 qa0
  replace qa1 := cbl hl4 qa1
  replace Rb := Rb.below hl4
  replace qb0 := cbl hl4 qb0
  replace qb1 := cbl hl4 qb1
  replace Rr := Rr.below hl4
  replace qr0 := cbl hl4 qr0
  replace qr1 := cbl hl4 qr1
  replace Rs := Rs.below hl4
  replace qs0 := cbl hl4 qs0
  replace qs1 := cbl hl4 qs1
  replace hq := hq.below hl4
  replace hr := hr.below hl4
  replace hr2 := hr2.below hl4
  replace HBT := Below.cons HBT hl4
  clear hl4
  have hlit : ((W3).alloc (.cells #[.int .u32 1] 62)).drew.heap[(W3).heap.size]? = _ := heap_alloc_new (W3) (.cells #[.int .u32 1] 62)
  replace hlit := Lib.hid hlit
  obtain ⟨q2, Eq2⟩ : ∃ zq : Nat, zq = q + 1 := ⟨_, rfl⟩
  have Bq2 : nl q2 ≤ 1048577 := by rw [Eq2]; have := nl_add q 1; rw [nl_one] at this; omega
  have C4_0 := fun (W : World) (B : Option Addr) (d : Nat) (h1 : NatV W Xq cq q) (h2 : NatV W B d 1) => (show Calls Tryz.prog 155 #[.slice Xq (nl q) cq, .slice B 1 d] W (RetN W (q + 1)) by have := radd_c Xq cq q B d 1 W h1 h2 (by omega) (by rw [nl_one]; decide); rwa [nl_one] at this)
  simp only [← Eq2] at C4_0
  replace Eq2 := Lib.hid Eq2
  replace C4_0 := Lib.hid C4_0
  obtain ⟨x, Ex⟩ : ∃ zq : Int, zq = ival n q2 := ⟨_, rfl⟩
  have C4_1 := fun (W : World) (A : Option Addr) (c : Nat) (h1 : NatV W A c q2) => rz_c n A c q2 W h1 (by omega)
  simp only [← Ex] at C4_1
  replace Ex := Lib.hid Ex
  replace C4_1 := Lib.hid C4_1
  obtain ⟨y, Ey⟩ : ∃ zq : Int, zq = ival false r2 := ⟨_, rfl⟩
  have C4_2 := fun (W : World) (h1 : NatV W Xr2 cr2 r2) => rz_c false Xr2 cr2 r2 W h1 (by omega)
  simp only [← Ey] at C4_2
  replace Ey := Lib.hid Ey
  replace C4_2 := Lib.hid C4_2
  go_region_held3 (fun W => W.cell? ⟨(w.heap.size + 1), 0, none⟩ = some (.bool (sg b)))
    (first
      | with_reducible exact k0qb0
      | with_reducible exact qb0
      | with_reducible exact qb0_5
      | with_reducible exact qb0_6
      | with_reducible exact qb0_7
      | with_reducible exact (cell_other2 qb0_7 neqb0r)
      | with_reducible exact (cell_other2 (cell_other2 qb0_7 neqb0r) neqb0s)
      | go_keep)
    (first
      | (go_at_call 155; (with_reducible refine (C4_0.out _ _ _ hq (nat_one _ _ hlit.out)).mono ?_); rintro e W5 ⟨Xq2, cq2, rfl, hq2, hb5⟩; have ha_5 := ha.below hb5; have hb_5 := hb.below hb5; have Ra_5 := Ra.below hb5; have qa0_5 := cbl hb5 qa0; have qa1_5 := cbl hb5 qa1; have Rb_5 := Rb.below hb5; have qb0_5 := cbl hb5 qb0; have qb1_5 := cbl hb5 qb1; have Rr_5 := Rr.below hb5; have qr0_5 := cbl hb5 qr0; have qr1_5 := cbl hb5 qr1; have Rs_5 := Rs.below hb5; have qs0_5 := cbl hb5 qs0; have qs1_5 := cbl hb5 qs1; have hq_5 := hq.below hb5; have hr_5 := hr.below hb5; have hr2_5 := hr2.below hb5; have HBT_5 := Below.cons HBT hb5)
      | (go_at_call 37; (with_reducible refine (C4_1.out _ _ _ hq2).mono ?_); rintro e W6 ⟨Xx, cx, rfl, hx, hb6⟩; have ha_6 := ha_5.below hb6; have hb_6 := hb_5.below hb6; have Ra_6 := Ra_5.below hb6; have qa0_6 := cbl hb6 qa0_5; have qa1_6 := cbl hb6 qa1_5; have Rb_6 := Rb_5.below hb6; have qb0_6 := cbl hb6 qb0_5; have qb1_6 := cbl hb6 qb1_5; have Rr_6 := Rr_5.below hb6; have qr0_6 := cbl hb6 qr0_5; have qr1_6 := cbl hb6 qr1_5; have Rs_6 := Rs_5.below hb6; have qs0_6 := cbl hb6 qs0_5; have qs1_6 := cbl hb6 qs1_5; have hq_6 := hq_5.below hb6; have hr_6 := hr_5.below hb6; have hr2_6 := hr2_5.below hb6; have hq2_6 := hq2.below hb6; have HBT_6 := Below.cons HBT_5 hb6)
      | (go_at_call 37; (with_reducible refine (C4_2.out _ hr2_6).mono ?_); rintro e W7 ⟨Xy, cy, rfl, hy, hb7⟩; have ha_7 := ha_6.below hb7; have hb_7 := hb_6.below hb7; have Ra_7 := Ra_6.below hb7; have qa0_7 := cbl hb7 qa0_6; have qa1_7 := cbl hb7 qa1_6; have Rb_7 := Rb_6.below hb7; have qb0_7 := cbl hb7 qb0_6; have qb1_7 := cbl hb7 qb1_6; have Rr_7 := Rr_6.below hb7; have qr0_7 := cbl hb7 qr0_6; have qr1_7 := cbl hb7 qr1_6; have Rs_7 := Rs_6.below hb7; have qs0_7 := cbl hb7 qs0_6; have qs1_7 := cbl hb7 qs1_6; have hq_7 := hq_6.below hb7; have hr_7 := hr_6.below hb7; have hr2_7 := hr2_6.below hb7; have hq2_7 := hq2_6.below hb7; have hx_7 := hx.below hb7; have HBT_7 := Below.cons HBT_6 hb7; have fz0 := Rr_7.f (i := 0); have fz1 := Rr_7.f (i := 1); have fy0 := Rs_7.f (i := 0); have fy1 := Rs_7.f (i := 1)))
  all_goals (try go_wp2_with (fail))
  have hzx : x = a / b := by rw [Ex.out, Eq2.out]; exact hv.out.1
  subst hzx
  have hzy : y = a % b := by rw [Ey.out, Er2.out]; exact hv.out.2
  subst hzy
  have RU := Rr_7.store2 (.bool (sg ((a / b)))) (.slice Xx (nl (mg ((a / b)))) cx)
  have RV := (Rs_7.other2 (v0 := .bool (sg ((a / b)))) (v1 := .slice Xx (nl (mg ((a / b)))) cx) (show (w.heap.size + 1 + 1 + 1) ≠ (w.heap.size + 1 + 1) by omega)).store2 (.bool (sg ((a % b)))) (.slice Xy (nl (mg ((a % b)))) cy)
  have RU2 := RU.other2 (v0 := .bool (sg ((a % b)))) (v1 := .slice Xy (nl (mg ((a % b)))) cy) (show (w.heap.size + 1 + 1) ≠ (w.heap.size + 1 + 1 + 1) by omega)
  have e0 := RU2.c (i := 0) rfl
  have g0 := RV.c (i := 0) rfl
  have e1 := RU2.c (i := 1) rfl
  have g1 := RV.c (i := 1) rfl
  refine bodyPost_ret (v := .tuple #[.agg #[.bool (sg ((a / b))), .slice Xx (nl (mg ((a / b)))) cx], .agg #[.bool (sg ((a % b))), .slice Xy (nl (mg ((a % b)))) cy], .int .i64 0]) (by simp [results, Tryz.results137, go_sem, e0, e1, g0, g1]) rfl ?_
  exact ⟨Xx, cx, Xy, cy, rfl, ((Rs_7.other2 (v0 := .bool (sg ((a / b)))) (v1 := .slice Xx (nl (mg ((a / b)))) cx) (show (w.heap.size + 1 + 1 + 1) ≠ (w.heap.size + 1 + 1) by omega)).keep2 (nuB rfl) (Rr_7.keep2 (nuB rfl) hx_7)), ((Rs_7.other2 (v0 := .bool (sg ((a / b)))) (v1 := .slice Xx (nl (mg ((a / b)))) cx) (show (w.heap.size + 1 + 1 + 1) ≠ (w.heap.size + 1 + 1) by omega)).keep2 (nuB rfl) (Rr_7.keep2 (nuB rfl) hy)), Below.store2 (Below.store2 HBT_7 (by omega)) (by omega)⟩
theorem zdiv_c (aA : Option Addr) (ac : Nat) (a : Int) (bA : Option Addr) (bc : Nat) (b : Int) (w : World) (ha : NatV w aA ac (mg a)) (hb : NatV w bA bc (mg b)) (la : nl (mg a) ≤ 1048576) (lb : nl (mg b) ≤ 1048576) (hb0 : b ≠ 0) :
    Calls Tryz.prog 137 #[.agg #[.bool (sg a), .slice aA (nl (mg a)) ac], .agg #[.bool (sg b), .slice bA (nl (mg b)) bc]] w (RetII w (a / b) (a % b)) := by
  by_cases h : 0 ≤ a
  · exact zdiv_f aA ac a bA bc b w ha hb la lb hb0 h
  · by_cases h2 : mg a % mg b = 0
    · exact zdiv_z aA ac a bA bc b w ha hb la lb hb0 (by omega) h2
    · exact zdiv_t aA ac a bA bc b w ha hb la lb hb0 (by omega) h2
theorem zexact_c (aA : Option Addr) (ac : Nat) (a : Int) (bA : Option Addr) (bc : Nat) (b : Int) (w : World) (ha : NatV w aA ac (mg a)) (hb : NatV w bA bc (mg b)) (la : nl (mg a) ≤ 1048576) (lb : nl (mg b) ≤ 1048576) (hb0 : b ≠ 0) (hd : a % b = 0) :
    Calls Tryz.prog 107 #[.agg #[.bool (sg a), .slice aA (nl (mg a)) ac], .agg #[.bool (sg b), .slice bA (nl (mg b)) bc]] w (RetIb w (a / b)) := by
  replace hd := Lib.hid hd
  obtain ⟨hb1, Ra, Rb, Rr⟩ := bx3 w #[.bool (sg a), .slice aA (nl (mg a)) ac] 24 #[.bool (sg b), .slice bA (nl (mg b)) bc] 24 #[.bool false, .slice none 0 0] 24
  replace ha := ha.below hb1
  replace hb := hb.below hb1
  have HBT := hb1
  clear hb1
  have qa0 := Ra.c (i := 0) rfl
  have qa1 := Ra.c (i := 1) rfl
  have qb0 := Rb.c (i := 0) rfl
  have qb1 := Rb.c (i := 1) rfl
  have qr0 := Rr.c (i := 0) rfl
  have qr1 := Rr.c (i := 1) rfl
  go_enter Tryz.func107, Tryz.ntmps107
  go_wp2_with (fail)
  obtain ⟨q, Eq⟩ : ∃ zq : Int, zq = a / b := ⟨_, rfl⟩
  obtain ⟨m, Em⟩ : ∃ zq : Int, zq = a % b := ⟨_, rfl⟩
  have CT2 := (zdiv_c aA ac a bA bc b _ ha hb (by omega) (by omega) hb0)
  rw [← Eq, ← Em] at CT2
  replace Eq := Lib.hid Eq
  replace Em := Lib.hid Em
  replace CT2 := Lib.hid CT2
  refine (Calls.mono CT2.out ?_)
  clear CT2
  rintro e W2 ⟨Xq, cq, Xm, cm, rfl, hq, hm, hb2⟩
  replace ha := ha.below hb2
  replace hb := hb.below hb2
  replace Ra := Ra.below hb2
  replace qa0 := cbl hb2 qa0
  replace qa1 := cbl hb2 qa1
  replace Rb := Rb.below hb2
  replace qb0 := cbl hb2 qb0
  replace qb1 := cbl hb2 qb1
  replace Rr := Rr.below hb2
  replace qr0 := cbl hb2 qr0
  replace qr1 := cbl hb2 qr1
  replace HBT := Below.cons HBT hb2
  clear hb2
  have lm : nl (mg m) = 0 := by rw [Em.out, hd.out]; exact nl_zero
  have t1 : decide (0 < (nl (mg m) : Int)) = false := by rw [lm]; rfl
  have t2 : decide (0 < nl (mg m)) = false := by rw [lm]; rfl
  replace lm := Lib.hid lm
  obtain ⟨hb3, Rq, Rm⟩ := bx2 W2 #[.bool (sg q), .slice Xq (nl (mg q)) cq] 24 #[.bool (sg m), .slice Xm (nl (mg m)) cm] 24
  replace ha := ha.below hb3
  replace hb := hb.below hb3
  replace Ra := Ra.below hb3
  replace qa0 := cbl hb3 qa0
  replace qa1 := cbl hb3 qa1
  replace Rb := Rb.below hb3
  replace qb0 := cbl hb3 qb0
  replace qb1 := cbl hb3 qb1
  replace Rr := Rr.below hb3
  replace qr0 := cbl hb3 qr0
  replace qr1 := cbl hb3 qr1
  replace hq := hq.below hb3
  replace hm := hm.below hb3
  replace HBT := Below.cons HBT hb3
  clear hb3
  have qq0 := Rq.c (i := 0) rfl
  have qq1 := Rq.c (i := 1) rfl
  have qm0 := Rm.c (i := 0) rfl
  have qm1 := Rm.c (i := 1) rfl
  have fzr0 := Rr.f (i := 0)
  have fzr1 := Rr.f (i := 1)
  go_wp2_with (fail)
  have hzq : q = a / b := by exact Eq.out
  subst hzq
  have RS := Rr.store2 (.bool (sg ((a / b)))) (.slice Xq (nl (mg ((a / b)))) cq)
  have e0 := RS.c (i := 0) rfl
  have e1 := RS.c (i := 1) rfl
  refine bodyPost_ret (v := .tuple #[.agg #[.bool (sg ((a / b))), .slice Xq (nl (mg ((a / b)))) cq], .bool true]) (by simp [results, Tryz.results107, go_sem, e0, e1]) rfl ?_
  exact ⟨Xq, cq, rfl, Rr.keep2 (nuB rfl) hq, Below.store2 HBT (by omega)⟩
theorem cmp_q (A : Option Addr) (c a : Nat) (B : Option Addr) (d b : Nat) (w : World) (hA : NatV w A c a) (hB : NatV w B d b) (ha : nl a ≤ 1099511627776) (hb : nl b ≤ 1099511627776) :
    Calls Tryz.prog 87 #[.slice A (nl a) c, .slice B (nl b) d] w fun e w' => e = .returned (.int .i64 (cmpN a b)) ∧ ∃ k, w' = w.drewN k := by
  by_cases hl : nl a = nl b
  · have fin : ∀ k, k < nl a → (∀ j, k + 1 ≤ j → j < nl a → gl (limbs a) j = gl (limbs b) j) → (gl (limbs a) k < gl (limbs b) k → cmpN a b = -1) ∧ (gl (limbs b) k < gl (limbs a) k → cmpN a b = 1) := fun k hk hj =>
      ⟨fun h => cmpN_lt (by have := val_lt_of (l := limbs a) (m := limbs b) hl (lim_limbs a) hk hj h; rwa [val_limbs, val_limbs] at this),
       fun h => cmpN_gt (by have := val_lt_of (l := limbs b) (m := limbs a) hl.symm (lim_limbs b) (k := k) (by unfold nl at *; omega) (fun j h1 h2 => (hj j h1 (by unfold nl at *; omega)).symm) h; rwa [val_limbs, val_limbs] at this)⟩
    have fin0 : (∀ j, 0 ≤ j → j < nl a → gl (limbs a) j = gl (limbs b) j) → cmpN a b = 0 := fun h => cmpN_eq (limbs_inj (val_eq_of hl h))
    have FIN := Lib.hid fin
    have FIN0 := Lib.hid fin0
    have hb1 : ((nl a : Int) != (nl b : Int)) = false := ineF (by omega)
    have hb2 : (nl a != nl b) = false := by simp [hl]
    have HL := Lib.hid hl
    clear fin fin0 hl
    go_enter Tryz.func87, Tryz.ntmps87
    go_wp2_with (fail)
    go_loopw [5] (fun i wr => ∃ k : Nat, i = .int .i64 ((k : Int) - 1) ∧ k ≤ nl a ∧ (∀ j, k ≤ j → j < nl a → gl (limbs a) j = gl (limbs b) j) ∧ ∃ m, wr = w.drewN m) (fun i wr => (intOf i + 1).toNat)
    case atStart => exact ⟨nl a, rfl, Nat.le_refl _, fun j h1 h2 => by omega, 0, rfl⟩
    case round =>
      obtain ⟨k, rfl, hk, hj, m, rfl⟩ := hrel
      have HJ := Lib.hid hj
      clear hj
      cases k with
      | zero =>
        go_wp2_with (fail)
        go_ret
        exact ⟨ret_int (FIN0.out HJ.out).symm, ⟨_, by first | rfl | (simp only [World.drewN_drewN]; rfl)⟩⟩
      | succ k =>
        rw [show (((k + 1 : Nat) : Int) - 1) = (k : Int) by omega]
        obtain ⟨ad, rfl, hcA⟩ := hA.rd.get k hk
        obtain ⟨bd, rfl, hcB⟩ := hB.rd.get k (by have := HL.out; unfold nl at *; omega)
        have i1 : k < nl a := hk
        have i2 : k < nl b := by have := HL.out; omega
        have hF := FIN.out k hk (fun j h1 h2 => HJ.out j h1 h2)
        obtain ⟨x, hx⟩ : ∃ x, gl (limbs a) k = x := ⟨_, rfl⟩
        obtain ⟨y, hy⟩ : ∃ y, gl (limbs b) k = y := ⟨_, rfl⟩
        rw [hx] at hcA
        rw [hy] at hcB
        rw [hx, hy] at hF
        have HF := Lib.hid hF
        have HX := Lib.hid hx
        have HY := Lib.hid hy
        clear hF hx hy
        rcases Nat.lt_trichotomy x y with h | h | h
        · have b1 : decide ((x : Int) < (y : Int)) = true := by simp; omega
          have b2 : decide (x < y) = true := by simp; omega
          have HV := Lib.hid (HF.out.1 h)
          clear h
          go_wp2_with (fail)
          go_quiet (fail)
          go_wp2_with (fail)
          go_ret
          exact ⟨ret_int HV.out.symm, ⟨_, by first | rfl | (simp only [World.drewN_drewN]; rfl)⟩⟩
        · have b1 : decide ((x : Int) < (y : Int)) = false := by simp; omega
          have b2 : decide (x < y) = false := by simp; omega
          have b3 : decide ((y : Int) < (x : Int)) = false := by simp; omega
          have b4 : decide (y < x) = false := by simp; omega
          have HV := Lib.hid h
          clear h
          go_wp2_with (fail)
          go_quiet (fail)
          go_wp2_with (fail)
          go_quiet (fail)
          go_wp2_with (fail)
          go_roundw
          case rel => exact ⟨k, by go_num, by omega, fun j h1 h2 => by
            by_cases e : j = k
            · rw [e, HX.out, HY.out, HV.out]
            · exact HJ.out j (by omega) h2, _, World.drewN_drewN .. ▸ World.drewN_drewN ..⟩
          case measure => simp [intOf] <;> omega
        · have b1 : decide ((x : Int) < (y : Int)) = false := by simp; omega
          have b2 : decide (x < y) = false := by simp; omega
          have b3 : decide ((y : Int) < (x : Int)) = true := by simp; omega
          have b4 : decide (y < x) = true := by simp; omega
          have HV := Lib.hid (HF.out.2 h)
          clear h
          go_wp2_with (fail)
          go_quiet (fail)
          go_wp2_with (fail)
          go_quiet (fail)
          go_wp2_with (fail)
          go_ret
          exact ⟨ret_int HV.out.symm, ⟨_, by first | rfl | (simp only [World.drewN_drewN]; rfl)⟩⟩
  · have hb1 : ((nl a : Int) != (nl b : Int)) = true := ineT (by omega)
    have hb2 : (nl a != nl b) = true := by simp [hl]
    go_enter Tryz.func87, Tryz.ntmps87
    go_wp2_with (fail)
    go_ret
    refine ⟨ret_int ?_, ⟨0, rfl⟩⟩
    rcases Nat.lt_or_ge (nl a) (nl b) with h | h
    · rw [cmpN_lt (show a < b by have := lt_nl.1 h; have := nl_lt a; omega)]; omega
    · rw [cmpN_gt (show b < a by have := lt_nl.1 (show nl b < nl a by omega); have := nl_lt b; omega)]; omega

theorem iexact_c (aA : Option Addr) (ac : Nat) (a : Int) (bA : Option Addr) (bc : Nat) (b : Int) (w : World) (ha : NatV w aA ac (mg a)) (hb : NatV w bA bc (mg b)) (la : nl (mg a) ≤ 1048576) (lb : nl (mg b) ≤ 1048576) (hb0 : b ≠ 0) (hd : a % b = 0) :
    Calls Tryz.prog 93 #[.agg #[.bool (sg a), .slice aA (nl (mg a)) ac], .agg #[.bool (sg b), .slice bA (nl (mg b)) bc]] w (RetIb w (a / b)) := by
  replace hd := Lib.hid hd
  obtain ⟨hb1, Ra, Rb, Rr⟩ := bx3 w #[.bool (sg a), .slice aA (nl (mg a)) ac] 24 #[.bool (sg b), .slice bA (nl (mg b)) bc] 24 #[.bool false, .slice none 0 0] 24
  replace ha := ha.below hb1
  replace hb := hb.below hb1
  have HBT := hb1
  clear hb1
  have qa0 := Ra.c (i := 0) rfl
  have qa1 := Ra.c (i := 1) rfl
  have qb0 := Rb.c (i := 0) rfl
  have qb1 := Rb.c (i := 1) rfl
  have qr0 := Rr.c (i := 0) rfl
  have qr1 := Rr.c (i := 1) rfl
  go_enter Tryz.func93, Tryz.ntmps93
  go_wp2_with (fail)
  obtain ⟨q, Eq⟩ : ∃ zq : Int, zq = a / b := ⟨_, rfl⟩
  obtain ⟨m, Em⟩ : ∃ zq : Int, zq = a % b := ⟨_, rfl⟩
  have CT2 := (idiv_c aA ac a bA bc b _ ha hb (by omega) (by omega) hb0)
  rw [← Eq, ← Em] at CT2
  replace Eq := Lib.hid Eq
  replace Em := Lib.hid Em
  replace CT2 := Lib.hid CT2
  refine (Calls.mono CT2.out ?_)
  clear CT2
  rintro e W2 ⟨Xq, cq, Xm, cm, rfl, hq, hm, hb2⟩
  replace ha := ha.below hb2
  replace hb := hb.below hb2
  replace Ra := Ra.below hb2
  replace qa0 := cbl hb2 qa0
  replace qa1 := cbl hb2 qa1
  replace Rb := Rb.below hb2
  replace qb0 := cbl hb2 qb0
  replace qb1 := cbl hb2 qb1
  replace Rr := Rr.below hb2
  replace qr0 := cbl hb2 qr0
  replace qr1 := cbl hb2 qr1
  replace HBT := Below.cons HBT hb2
  clear hb2
  go_wp2_with (fail)
  obtain ⟨hb3, Rq, Rm⟩ := bx2 W2 #[.bool (sg q), .slice Xq (nl (mg q)) cq] 24 #[.bool (sg m), .slice Xm (nl (mg m)) cm] 24
  replace ha := ha.below hb3
  replace hb := hb.below hb3
  replace Ra := Ra.below hb3
  replace qa0 := cbl hb3 qa0
  replace qa1 := cbl hb3 qa1
  replace Rb := Rb.below hb3
  replace qb0 := cbl hb3 qb0
  replace qb1 := cbl hb3 qb1
  replace Rr := Rr.below hb3
  replace qr0 := cbl hb3 qr0
  replace qr1 := cbl hb3 qr1
  replace hq := hq.below hb3
  replace hm := hm.below hb3
  replace HBT := Below.cons HBT hb3
  clear hb3
  have qq0 := Rq.c (i := 0) rfl
  have qq1 := Rq.c (i := 1) rfl
  have qm0 := Rm.c (i := 0) rfl
  have qm1 := Rm.c (i := 1) rfl
  have hsg : m.sign = 0 := by rw [Em.out, hd.out]; rfl
  have CG := isign_c Xm cm m ((W2.alloc (.cells #[.bool (sg q), .slice Xq (nl (mg q)) cq] 24)).alloc (.cells #[.bool (sg m), .slice Xm (nl (mg m)) cm] 24))
  rw [hsg] at CG
  replace hsg := Lib.hid hsg
  refine (Calls.mono (CG) ?_)
  rintro e W4 ⟨rfl, hb4⟩
  replace ha := ha.below hb4
  replace hb := hb.below hb4
  replace Ra := Ra.below hb4
  replace qa0 := cbl hb4 qa0
  replace qa1 := cbl hb4 qa1
  replace Rb := Rb.below hb4
  replace qb0 := cbl hb4 qb0
  replace qb1 := cbl hb4 qb1
  replace Rr := Rr.below hb4
  replace qr0 := cbl hb4 qr0
  replace qr1 := cbl hb4 qr1
  replace hq := hq.below hb4
  replace hm := hm.below hb4
  replace Rq := Rq.below hb4
  replace qq0 := cbl hb4 qq0
  replace qq1 := cbl hb4 qq1
  replace Rm := Rm.below hb4
  replace qm0 := cbl hb4 qm0
  replace qm1 := cbl hb4 qm1
  replace HBT := Below.cons HBT hb4
  clear hb4
  have fzr0 := Rr.f (i := 0)
  have fzr1 := Rr.f (i := 1)
  go_wp2_with (fail)
  have hzq : q = a / b := by exact Eq.out
  subst hzq
  have RS := Rr.store2 (.bool (sg ((a / b)))) (.slice Xq (nl (mg ((a / b)))) cq)
  have e0 := RS.c (i := 0) rfl
  have e1 := RS.c (i := 1) rfl
  refine bodyPost_ret (v := .tuple #[.agg #[.bool (sg ((a / b))), .slice Xq (nl (mg ((a / b)))) cq], .bool true]) (by simp [results, Tryz.results93, go_sem, e0, e1]) rfl ?_
  exact ⟨Xq, cq, rfl, Rr.keep2 (nuB rfl) hq, Below.store2 HBT (by omega)⟩
theorem shf_nn {a n : Int} (ha : 0 ≤ a) (hn : 0 ≤ n) : ival false (mg a * 2 ^ n.toNat) = shf a n := by
  unfold shf; rw [if_pos hn]
  have : (mg a : Int) = a := by unfold mg; omega
  rw [ival_false, Int.natCast_mul, this, Int.natCast_pow]; rfl
theorem shf_bn {a n : Int} (ha : a < 0) (hn : 0 ≤ n) : ival true (mg a * 2 ^ n.toNat) = shf a n := by
  unfold shf ival; rw [if_pos hn, if_pos rfl]
  have : (mg a : Int) = -a := by unfold mg; omega
  rw [Int.natCast_mul, this, Int.natCast_pow, Int.neg_mul, Int.neg_neg]; rfl
theorem shf_nb {a n : Int} (k : Nat) (ha : 0 ≤ a) (hk : n = -(k : Int)) (h0 : 0 < k) : ival false (mg a / 2 ^ k) = shf a n := by
  unfold shf; rw [if_neg (by omega)]
  have : (mg a : Int) = a := by unfold mg; omega
  rw [ival_false, Int.natCast_ediv, this, hk, Int.neg_neg, Int.toNat_natCast, Int.natCast_pow]; rfl
theorem shf_b0 {a n : Int} (k : Nat) (ha : a < 0) (hk : n = -(k : Int)) (h0 : 0 < k) (h : mg a / 2 ^ k * 2 ^ k = mg a) : ival true (mg a / 2 ^ k) = shf a n := by
  unfold shf ival; rw [if_pos rfl, if_neg (by omega)]
  have h1 : ((mg a / 2 ^ k : Nat) : Int) * ((2 ^ k : Nat) : Int) = (mg a : Int) := by rw [← Int.natCast_mul, h]
  have h2 : (mg a : Int) = -a := by unfold mg; omega
  have hp : (0 : Int) < ((2 ^ k : Nat) : Int) := by have := Nat.two_pow_pos k; omega
  rw [hk, Int.neg_neg, Int.toNat_natCast]
  have e : (2 : Int) ^ k = ((2 ^ k : Nat) : Int) := by rw [Int.natCast_pow]; rfl
  rw [e]
  refine (ediv_uniq (by omega) (q := -((mg a / 2 ^ k : Nat) : Int)) (r := 0) ?_ (Int.le_refl _) (by omega)).1.symm
  rw [Int.neg_mul, h1]; omega
theorem shf_b1 {a n : Int} (k : Nat) (ha : a < 0) (hk : n = -(k : Int)) (h0 : 0 < k) (h : mg a / 2 ^ k * 2 ^ k ≠ mg a) : ival true (mg a / 2 ^ k + 1) = shf a n := by
  unfold shf ival; rw [if_pos rfl, if_neg (by omega)]
  have h0' := Nat.div_add_mod (mg a) (2 ^ k)
  have hlt := Nat.mod_lt (mg a) (Nat.two_pow_pos k)
  have h1 : ((2 ^ k : Nat) : Int) * ((mg a / 2 ^ k : Nat) : Int) + ((mg a % 2 ^ k : Nat) : Int) = (mg a : Int) := by rw [← Int.natCast_mul, ← Int.natCast_add, h0']
  have h3 : mg a % 2 ^ k ≠ 0 := fun e => h (by rw [e, Nat.add_zero, Nat.mul_comm] at h0'; exact h0')
  have h2 : (mg a : Int) = -a := by unfold mg; omega
  rw [hk, Int.neg_neg, Int.toNat_natCast]
  have e : (2 : Int) ^ k = ((2 ^ k : Nat) : Int) := by rw [Int.natCast_pow]; rfl
  rw [e]
  generalize mg a / 2 ^ k = q at *
  generalize mg a % 2 ^ k = r at *
  generalize 2 ^ k = P at *
  refine (ediv_uniq (by omega) (q := -((q + 1 : Nat) : Int)) (r := (P : Int) - r) ?_ (by omega) (by omega)).1.symm
  rw [Int.natCast_add, Int.neg_mul, Int.add_mul, Int.mul_comm (q : Int) (P : Int)]
  omega
theorem ishift_fu (aA : Option Addr) (ac : Nat) (a : Int) (n : Int) (w : World) (ha : NatV w aA ac (mg a))  (la : nl (mg a) ≤ 1048576) (ln : -16777216 ≤ n ∧ n ≤ 16777216) (h1 : 0 ≤ a) (h2 : 0 ≤ n) :
    Calls Tryz.prog 40 #[.agg #[.bool (sg a), .slice aA (nl (mg a)) ac], .int .i64 n] w (RetI w (shf a n)) := by
  have ta : sg a = false := sg_f h1
  have t1 : decide (n < 0) = false := by simp; omega
  obtain ⟨k, hk⟩ := Int.eq_ofNat_of_zero_le h2
  have lk : k ≤ 16777216 := by omega
  obtain ⟨hb1, Ra, Rr⟩ := bx2 w #[.bool false, .slice aA (nl (mg a)) ac] 24 #[.bool false, .slice none 0 0] 24
  replace ha := ha.below hb1
  have HBT := hb1
  clear hb1
  have qa0 := Ra.c (i := 0) rfl
  have qa1 := Ra.c (i := 1) rfl
  have qr0 := Rr.c (i := 0) rfl
  have qr1 := Rr.c (i := 1) rfl
  subst hk
  go_enter Tryz.func40, Tryz.ntmps40
  go_wp2_with (fail)
  obtain ⟨o, Eo⟩ : ∃ zq : Nat, zq = mg a * 2 ^ k := ⟨_, rfl⟩
  have Bo : nl o ≤ 2097152 := by rw [Eo]; have := nl_shl (mg a) k; omega
  refine (Calls.mono (R := RetN ((w.alloc (.cells #[.bool false, .slice aA (nl (mg a)) ac] 24)).alloc (.cells #[.bool false, .slice none 0 0] 24)) o) (by rw [Eo]; with_reducible exact (shl_e aA ac (mg a) (k : Int) k _ ha (by omega) rfl (by omega))) ?_)
  replace Eo := Lib.hid Eo
  rintro e W2 ⟨Xo, co, rfl, ho, hb2⟩
  replace ha := ha.below hb2
  replace Ra := Ra.below hb2
  replace qa0 := cbl hb2 qa0
  replace qa1 := cbl hb2 qa1
  replace Rr := Rr.below hb2
  replace qr0 := cbl hb2 qr0
  replace qr1 := cbl hb2 qr1
  replace HBT := Below.cons HBT hb2
  clear hb2
  go_wp2_with (fail)
  go_quiet (fail)
  have hb3 : Below (W2).heap.size (W2) ((W2).drewN nq) := below_drewN (Below.refl _ _) nq
  replace ha := ha.below hb3
  replace Ra := Ra.below hb3
  replace qa0 := cbl hb3 qa0
  replace qa1 := cbl hb3 qa1
  replace Rr := Rr.below hb3
  replace qr0 := cbl hb3 qr0
  replace qr1 := cbl hb3 qr1
  replace ho := ho.below hb3
  replace HBT := Below.cons HBT hb3
  clear hb3
  go_wp2_with (fail)
  obtain ⟨z, Ez⟩ : ∃ zq : Int, zq = ival false o := ⟨_, rfl⟩
  refine (Calls.mono (R := RetI ((W2).drewN nq) z) (by rw [Ez]; with_reducible exact (imake_c false Xo co o _ ho (by omega))) ?_)
  replace Ez := Lib.hid Ez
  rintro e W4 ⟨Xz, cz, rfl, hz, hb4⟩
  replace ha := ha.below hb4
  replace Ra := Ra.below hb4
  replace qa0 := cbl hb4 qa0
  replace qa1 := cbl hb4 qa1
  replace Rr := Rr.below hb4
  replace qr0 := cbl hb4 qr0
  replace qr1 := cbl hb4 qr1
  replace ho := ho.below hb4
  replace HBT := Below.cons HBT hb4
  clear hb4
  have fzr0 := Rr.f (i := 0)
  have fzr1 := Rr.f (i := 1)
  go_wp2_with (fail)
  have hzz : z = shf a (k : Int) := by rw [Ez.out, Eo.out]; have := shf_nn h1 h2; rwa [Int.toNat_natCast] at this
  subst hzz
  have RS := Rr.store2 (.bool (sg ((shf a (k : Int))))) (.slice Xz (nl (mg ((shf a (k : Int))))) cz)
  have e0 := RS.c (i := 0) rfl
  have e1 := RS.c (i := 1) rfl
  refine bodyPost_ret (v := .agg #[.bool (sg ((shf a (k : Int)))), .slice Xz (nl (mg ((shf a (k : Int))))) cz]) (by simp [results, Tryz.results40, go_sem, e0, e1]) rfl ?_
  exact ⟨Xz, cz, rfl, (Rr.keep2 (nuB rfl) hz), (Below.store2 HBT (by first | exact Nat.le_refl _ | omega))⟩
theorem ishift_fd (aA : Option Addr) (ac : Nat) (a : Int) (n : Int) (w : World) (ha : NatV w aA ac (mg a))  (la : nl (mg a) ≤ 1048576) (ln : -16777216 ≤ n ∧ n ≤ 16777216) (h1 : 0 ≤ a) (h2 : n < 0) :
    Calls Tryz.prog 40 #[.agg #[.bool (sg a), .slice aA (nl (mg a)) ac], .int .i64 n] w (RetI w (shf a n)) := by
  have ta : sg a = false := sg_f h1
  have t1 : decide (n < 0) = true := by simp; omega
  obtain ⟨k, hk⟩ := Int.eq_ofNat_of_zero_le (show 0 ≤ -n by omega)
  have hk0 : 0 < k := by omega
  have hk2 : n = -(k : Int) := by omega
  have lk : k ≤ 16777216 := by omega
  obtain ⟨hb1, Ra, Rr⟩ := bx2 w #[.bool false, .slice aA (nl (mg a)) ac] 24 #[.bool false, .slice none 0 0] 24
  replace ha := ha.below hb1
  have HBT := hb1
  clear hb1
  have qa0 := Ra.c (i := 0) rfl
  have qa1 := Ra.c (i := 1) rfl
  have qr0 := Rr.c (i := 0) rfl
  have qr1 := Rr.c (i := 1) rfl
  have In : -n = (k : Int) := hk
  replace hk2 := Lib.hid hk2
  replace hk := Lib.hid hk
  go_enter Tryz.func40, Tryz.ntmps40
  go_wp2_with (fail)
  obtain ⟨o, Eo⟩ : ∃ zq : Nat, zq = mg a / 2 ^ k := ⟨_, rfl⟩
  have Bo : nl o ≤ 1048576 := by rw [Eo]; have := nl_div (mg a) (2 ^ k); omega
  refine (Calls.mono (R := RetN ((w.alloc (.cells #[.bool false, .slice aA (nl (mg a)) ac] 24)).alloc (.cells #[.bool false, .slice none 0 0] 24)) o) (by rw [Eo]; with_reducible exact (shr_e aA ac (mg a) (k : Int) k _ ha (by omega) rfl (by omega))) ?_)
  replace Eo := Lib.hid Eo
  rintro e W2 ⟨Xo, co, rfl, ho, hb2⟩
  replace ha := ha.below hb2
  replace Ra := Ra.below hb2
  replace qa0 := cbl hb2 qa0
  replace qa1 := cbl hb2 qa1
  replace Rr := Rr.below hb2
  replace qr0 := cbl hb2 qr0
  replace qr1 := cbl hb2 qr1
  replace HBT := Below.cons HBT hb2
  clear hb2
  go_wp2_with (fail)
  go_quiet (fail)
  have hb3 : Below (W2).heap.size (W2) ((W2).drewN nq) := below_drewN (Below.refl _ _) nq
  replace ha := ha.below hb3
  replace Ra := Ra.below hb3
  replace qa0 := cbl hb3 qa0
  replace qa1 := cbl hb3 qa1
  replace Rr := Rr.below hb3
  replace qr0 := cbl hb3 qr0
  replace qr1 := cbl hb3 qr1
  replace ho := ho.below hb3
  replace HBT := Below.cons HBT hb3
  clear hb3
  go_wp2_with (fail)
  obtain ⟨z, Ez⟩ : ∃ zq : Int, zq = ival false o := ⟨_, rfl⟩
  refine (Calls.mono (R := RetI ((W2).drewN nq) z) (by rw [Ez]; with_reducible exact (imake_c false Xo co o _ ho (by omega))) ?_)
  replace Ez := Lib.hid Ez
  rintro e W4 ⟨Xz, cz, rfl, hz, hb4⟩
  replace ha := ha.below hb4
  replace Ra := Ra.below hb4
  replace qa0 := cbl hb4 qa0
  replace qa1 := cbl hb4 qa1
  replace Rr := Rr.below hb4
  replace qr0 := cbl hb4 qr0
  replace qr1 := cbl hb4 qr1
  replace ho := ho.below hb4
  replace HBT := Below.cons HBT hb4
  clear hb4
  have fzr0 := Rr.f (i := 0)
  have fzr1 := Rr.f (i := 1)
  go_wp2_with (fail)
  have hzz : z = shf a n := by rw [Ez.out, Eo.out]; exact shf_nb k h1 hk2.out hk0
  subst hzz
  have RS := Rr.store2 (.bool (sg ((shf a n)))) (.slice Xz (nl (mg ((shf a n)))) cz)
  have e0 := RS.c (i := 0) rfl
  have e1 := RS.c (i := 1) rfl
  refine bodyPost_ret (v := .agg #[.bool (sg ((shf a n))), .slice Xz (nl (mg ((shf a n)))) cz]) (by simp [results, Tryz.results40, go_sem, e0, e1]) rfl ?_
  exact ⟨Xz, cz, rfl, (Rr.keep2 (nuB rfl) hz), (Below.store2 HBT (by first | exact Nat.le_refl _ | omega))⟩
theorem ishift_tu (aA : Option Addr) (ac : Nat) (a : Int) (n : Int) (w : World) (ha : NatV w aA ac (mg a))  (la : nl (mg a) ≤ 1048576) (ln : -16777216 ≤ n ∧ n ≤ 16777216) (h1 : a < 0) (h2 : 0 ≤ n) :
    Calls Tryz.prog 40 #[.agg #[.bool (sg a), .slice aA (nl (mg a)) ac], .int .i64 n] w (RetI w (shf a n)) := by
  have ta : sg a = true := sg_t h1
  have t1 : decide (n < 0) = false := by simp; omega
  obtain ⟨k, hk⟩ := Int.eq_ofNat_of_zero_le h2
  have lk : k ≤ 16777216 := by omega
  obtain ⟨hb1, Ra, Rr⟩ := bx2 w #[.bool true, .slice aA (nl (mg a)) ac] 24 #[.bool false, .slice none 0 0] 24
  replace ha := ha.below hb1
  have HBT := hb1
  clear hb1
  have qa0 := Ra.c (i := 0) rfl
  have qa1 := Ra.c (i := 1) rfl
  have qr0 := Rr.c (i := 0) rfl
  have qr1 := Rr.c (i := 1) rfl
  subst hk
  go_enter Tryz.func40, Tryz.ntmps40
  go_wp2_with (fail)
  obtain ⟨o, Eo⟩ : ∃ zq : Nat, zq = mg a * 2 ^ k := ⟨_, rfl⟩
  have Bo : nl o ≤ 2097152 := by rw [Eo]; have := nl_shl (mg a) k; omega
  refine (Calls.mono (R := RetN ((w.alloc (.cells #[.bool true, .slice aA (nl (mg a)) ac] 24)).alloc (.cells #[.bool false, .slice none 0 0] 24)) o) (by rw [Eo]; with_reducible exact (shl_e aA ac (mg a) (k : Int) k _ ha (by omega) rfl (by omega))) ?_)
  replace Eo := Lib.hid Eo
  rintro e W2 ⟨Xo, co, rfl, ho, hb2⟩
  replace ha := ha.below hb2
  replace Ra := Ra.below hb2
  replace qa0 := cbl hb2 qa0
  replace qa1 := cbl hb2 qa1
  replace Rr := Rr.below hb2
  replace qr0 := cbl hb2 qr0
  replace qr1 := cbl hb2 qr1
  replace HBT := Below.cons HBT hb2
  clear hb2
  go_wp2_with (fail)
  have hle : mg a ≤ o := by rw [Eo.out]; exact Nat.le_mul_of_pos_right _ (Nat.two_pow_pos k)
  have t2 : decide (cmpN o (mg a) < 0) = false := by rw [decide_eq_false_iff_not, cmpN_neg]; omega
  replace hle := Lib.hid hle
  go_quiet ((go_at_call 87; exact Calls.quiet_of (cmp_q Xo co o aA ac (mg a) _ (ho.below (below_drewN (Below.refl _ _) _)) (ha.below (below_drewN (Below.refl _ _) _)) (by omega) (by omega))))
  have hb3 : Below (W2).heap.size (W2) ((W2).drewN nq) := below_drewN (Below.refl _ _) nq
  replace ha := ha.below hb3
  replace Ra := Ra.below hb3
  replace qa0 := cbl hb3 qa0
  replace qa1 := cbl hb3 qa1
  replace Rr := Rr.below hb3
  replace qr0 := cbl hb3 qr0
  replace qr1 := cbl hb3 qr1
  replace ho := ho.below hb3
  replace HBT := Below.cons HBT hb3
  clear hb3
  go_wp2_with (fail)
  obtain ⟨z, Ez⟩ : ∃ zq : Int, zq = ival true o := ⟨_, rfl⟩
  refine (Calls.mono (R := RetI ((W2).drewN nq) z) (by rw [Ez]; with_reducible exact (imake_c true Xo co o _ ho (by omega))) ?_)
  replace Ez := Lib.hid Ez
  rintro e W4 ⟨Xz, cz, rfl, hz, hb4⟩
  replace ha := ha.below hb4
  replace Ra := Ra.below hb4
  replace qa0 := cbl hb4 qa0
  replace qa1 := cbl hb4 qa1
  replace Rr := Rr.below hb4
  replace qr0 := cbl hb4 qr0
  replace qr1 := cbl hb4 qr1
  replace ho := ho.below hb4
  replace HBT := Below.cons HBT hb4
  clear hb4
  have fzr0 := Rr.f (i := 0)
  have fzr1 := Rr.f (i := 1)
  go_wp2_with (fail)
  have hzz : z = shf a (k : Int) := by rw [Ez.out, Eo.out]; have := shf_bn h1 h2; rwa [Int.toNat_natCast] at this
  subst hzz
  have RS := Rr.store2 (.bool (sg ((shf a (k : Int))))) (.slice Xz (nl (mg ((shf a (k : Int))))) cz)
  have e0 := RS.c (i := 0) rfl
  have e1 := RS.c (i := 1) rfl
  refine bodyPost_ret (v := .agg #[.bool (sg ((shf a (k : Int)))), .slice Xz (nl (mg ((shf a (k : Int))))) cz]) (by simp [results, Tryz.results40, go_sem, e0, e1]) rfl ?_
  exact ⟨Xz, cz, rfl, (Rr.keep2 (nuB rfl) hz), (Below.store2 HBT (by first | exact Nat.le_refl _ | omega))⟩
theorem ishift_td (aA : Option Addr) (ac : Nat) (a : Int) (n : Int) (w : World) (ha : NatV w aA ac (mg a))  (la : nl (mg a) ≤ 1048576) (ln : -16777216 ≤ n ∧ n ≤ 16777216) (h1 : a < 0) (h2 : n < 0) :
    Calls Tryz.prog 40 #[.agg #[.bool (sg a), .slice aA (nl (mg a)) ac], .int .i64 n] w (RetI w (shf a n)) := by
  have ta : sg a = true := sg_t h1
  have t1 : decide (n < 0) = true := by simp; omega
  obtain ⟨k, hk⟩ := Int.eq_ofNat_of_zero_le (show 0 ≤ -n by omega)
  have hk0 : 0 < k := by omega
  have hk2 : n = -(k : Int) := by omega
  have lk : k ≤ 16777216 := by omega
  obtain ⟨hb1, Ra, Rr⟩ := bx2 w #[.bool true, .slice aA (nl (mg a)) ac] 24 #[.bool false, .slice none 0 0] 24
  replace ha := ha.below hb1
  have HBT := hb1
  clear hb1
  have qa0 := Ra.c (i := 0) rfl
  have qa1 := Ra.c (i := 1) rfl
  have qr0 := Rr.c (i := 0) rfl
  have qr1 := Rr.c (i := 1) rfl
  have In : -n = (k : Int) := hk
  replace hk2 := Lib.hid hk2
  replace hk := Lib.hid hk
  go_enter Tryz.func40, Tryz.ntmps40
  go_wp2_with (fail)
  obtain ⟨o, Eo⟩ : ∃ zq : Nat, zq = mg a / 2 ^ k := ⟨_, rfl⟩
  have Bo : nl o ≤ 1048576 := by rw [Eo]; have := nl_div (mg a) (2 ^ k); omega
  refine (Calls.mono (R := RetN ((w.alloc (.cells #[.bool true, .slice aA (nl (mg a)) ac] 24)).alloc (.cells #[.bool false, .slice none 0 0] 24)) o) (by rw [Eo]; with_reducible exact (shr_e aA ac (mg a) (k : Int) k _ ha (by omega) rfl (by omega))) ?_)
  replace Eo := Lib.hid Eo
  rintro e W2 ⟨Xo, co, rfl, ho, hb2⟩
  replace ha := ha.below hb2
  replace Ra := Ra.below hb2
  replace qa0 := cbl hb2 qa0
  replace qa1 := cbl hb2 qa1
  replace Rr := Rr.below hb2
  replace qr0 := cbl hb2 qr0
  replace qr1 := cbl hb2 qr1
  replace HBT := Below.cons HBT hb2
  clear hb2
  go_wp2_with (fail)
  have hlt : o < mg a := by rw [Eo.out]; exact Nat.div_lt_self (mg_pos.2 (by omega)) (Nat.one_lt_two_pow (by omega))
  have t2 : decide (cmpN o (mg a) < 0) = true := by rw [decide_eq_true_eq, cmpN_neg]; exact hlt
  replace hlt := Lib.hid hlt
  by_cases hx : mg a / 2 ^ k * 2 ^ k = mg a
  · have t3 : (cmpN (o * 2 ^ k) (mg a) != 0) = false := by rw [bne_eq_false_iff_eq, cmpN_zero, Eo.out]; exact hx
    replace hx := Lib.hid hx
    have hd3 := drb (W2)
    replace ha := ha.below hd3
    replace Ra := Ra.below hd3
    replace qa0 := cbl hd3 qa0
    replace qa1 := cbl hd3 qa1
    replace Rr := Rr.below hd3
    replace qr0 := cbl hd3 qr0
    replace qr1 := cbl hd3 qr1
    replace ho := ho.below hd3
    replace HBT := Below.cons HBT hd3
    clear hd3
    have C3_0 := fun (W : World) (X : Option Addr) (x : Nat) (g : NatV W X x o) (h1 : NatV W aA ac (mg a)) => cmp_c X x o aA ac (mg a) W g h1 (by omega) (by omega)
    replace C3_0 := Lib.hid C3_0
    obtain ⟨p2, Ep2⟩ : ∃ zq : Nat, zq = o * 2 ^ k := ⟨_, rfl⟩
    have Bp2 : nl p2 ≤ 1048576 := by rw [Ep2, Eo.out]; exact Nat.le_trans (nl_mono (Nat.div_mul_le_self _ _)) (by omega)
    rw [← Ep2] at t3
    have C3_1 := fun (W : World) (X : Option Addr) (x : Nat) (g : NatV W X x o) => shl_e X x o (k : Int) k W g (by omega) rfl (by omega)
    simp only [← Ep2] at C3_1
    replace Ep2 := Lib.hid Ep2
    replace C3_1 := Lib.hid C3_1
    have C3_2 := fun (W : World) (X : Option Addr) (x : Nat) (g : NatV W X x p2) (h1 : NatV W aA ac (mg a)) => cmp_c X x p2 aA ac (mg a) W g h1 (by omega) (by omega)
    replace C3_2 := Lib.hid C3_2
    go_region_held3 (fun W => W.cell? ⟨w.heap.size, 0, none⟩ = some (.bool true) ∧ W.cell? ⟨w.heap.size, 1, none⟩ = some (.slice aA (nl (mg a)) ac))
      (first
        | exact ⟨qa0, qa1⟩
        | exact ⟨qa0_4, qa1_4⟩
        | exact ⟨qa0_5, qa1_5⟩
        | exact ⟨qa0_6, qa1_6⟩
        | go_keep)
      (first
        | (go_at_call 87; (with_reducible refine (C3_0.out _ _ _ ho ha).mono ?_); rintro e W4 ⟨rfl, hb4⟩; have ha_4 := ha.below hb4; have Ra_4 := Ra.below hb4; have qa0_4 := cbl hb4 qa0; have qa1_4 := cbl hb4 qa1; have Rr_4 := Rr.below hb4; have qr0_4 := cbl hb4 qr0; have qr1_4 := cbl hb4 qr1; have ho_4 := ho.below hb4; have HBT_4 := Below.cons HBT hb4)
        | (go_at_call 85; (with_reducible refine (C3_1.out _ _ _ ho_4).mono ?_); rintro e W5 ⟨Xp2, cp2, rfl, hp2, hb5⟩; have ha_5 := ha_4.below hb5; have Ra_5 := Ra_4.below hb5; have qa0_5 := cbl hb5 qa0_4; have qa1_5 := cbl hb5 qa1_4; have Rr_5 := Rr_4.below hb5; have qr0_5 := cbl hb5 qr0_4; have qr1_5 := cbl hb5 qr1_4; have ho_5 := ho_4.below hb5; have HBT_5 := Below.cons HBT_4 hb5)
        | (go_at_call 87; (with_reducible refine (C3_2.out _ _ _ hp2 ha_5).mono ?_); rintro e W6 ⟨rfl, hb6⟩; have ha_6 := ha_5.below hb6; have Ra_6 := Ra_5.below hb6; have qa0_6 := cbl hb6 qa0_5; have qa1_6 := cbl hb6 qa1_5; have Rr_6 := Rr_5.below hb6; have qr0_6 := cbl hb6 qr0_5; have qr1_6 := cbl hb6 qr1_5; have ho_6 := ho_5.below hb6; have hp2_6 := hp2.below hb6; have HBT_6 := Below.cons HBT_5 hb6))
    all_goals (try go_wp2_with (fail))
    obtain ⟨z, Ez⟩ : ∃ zq : Int, zq = ival true o := ⟨_, rfl⟩
    refine (Calls.mono (R := RetI W6 z) (by rw [Ez]; with_reducible exact (imake_c true Xo co o _ ho_6 (by omega))) ?_)
    replace Ez := Lib.hid Ez
    rintro e W7 ⟨Xz, cz, rfl, hz, hb7⟩
    replace ha_6 := ha_6.below hb7
    replace Ra_6 := Ra_6.below hb7
    replace qa0_6 := cbl hb7 qa0_6
    replace qa1_6 := cbl hb7 qa1_6
    replace Rr_6 := Rr_6.below hb7
    replace qr0_6 := cbl hb7 qr0_6
    replace qr1_6 := cbl hb7 qr1_6
    replace ho_6 := ho_6.below hb7
    replace hp2_6 := hp2_6.below hb7
    have HBT := Below.cons HBT_6 hb7
    clear hb7
    have fzr0 := Rr_6.f (i := 0)
    have fzr1 := Rr_6.f (i := 1)
    go_wp2_with (fail)
    have hzz : z = shf a n := by rw [Ez.out, Eo.out]; exact shf_b0 k h1 hk2.out hk0 hx.out
    subst hzz
    have RS := Rr_6.store2 (.bool (sg ((shf a n)))) (.slice Xz (nl (mg ((shf a n)))) cz)
    have e0 := RS.c (i := 0) rfl
    have e1 := RS.c (i := 1) rfl
    refine bodyPost_ret (v := .agg #[.bool (sg ((shf a n))), .slice Xz (nl (mg ((shf a n)))) cz]) (by simp [results, Tryz.results40, go_sem, e0, e1]) rfl ?_
    exact ⟨Xz, cz, rfl, (Rr_6.keep2 (nuB rfl) hz), (Below.store2 HBT (by first | exact Nat.le_refl _ | omega))⟩
  · have t3 : (cmpN (o * 2 ^ k) (mg a) != 0) = true := by rw [bne_iff_ne, ne_eq, cmpN_zero, Eo.out]; exact hx
    replace hx := Lib.hid hx
    have hd3 := drb (W2)
    replace ha := ha.below hd3
    replace Ra := Ra.below hd3
    replace qa0 := cbl hd3 qa0
    replace qa1 := cbl hd3 qa1
    replace Rr := Rr.below hd3
    replace qr0 := cbl hd3 qr0
    replace qr1 := cbl hd3 qr1
    replace ho := ho.below hd3
    replace HBT := Below.cons HBT hd3
    clear hd3
    have C3_0 := fun (W : World) (X : Option Addr) (x : Nat) (g : NatV W X x o) (h1 : NatV W aA ac (mg a)) => cmp_c X x o aA ac (mg a) W g h1 (by omega) (by omega)
    replace C3_0 := Lib.hid C3_0
    obtain ⟨p2, Ep2⟩ : ∃ zq : Nat, zq = o * 2 ^ k := ⟨_, rfl⟩
    have Bp2 : nl p2 ≤ 1048576 := by rw [Ep2, Eo.out]; exact Nat.le_trans (nl_mono (Nat.div_mul_le_self _ _)) (by omega)
    rw [← Ep2] at t3
    have C3_1 := fun (W : World) (X : Option Addr) (x : Nat) (g : NatV W X x o) => shl_e X x o (k : Int) k W g (by omega) rfl (by omega)
    simp only [← Ep2] at C3_1
    replace Ep2 := Lib.hid Ep2
    replace C3_1 := Lib.hid C3_1
    have C3_2 := fun (W : World) (X : Option Addr) (x : Nat) (g : NatV W X x p2) (h1 : NatV W aA ac (mg a)) => cmp_c X x p2 aA ac (mg a) W g h1 (by omega) (by omega)
    replace C3_2 := Lib.hid C3_2
    go_region_held3 (fun W => W.cell? ⟨w.heap.size, 0, none⟩ = some (.bool true) ∧ W.cell? ⟨w.heap.size, 1, none⟩ = some (.slice aA (nl (mg a)) ac))
      (first
        | exact ⟨qa0, qa1⟩
        | exact ⟨qa0_4, qa1_4⟩
        | exact ⟨qa0_5, qa1_5⟩
        | exact ⟨qa0_6, qa1_6⟩
        | go_keep)
      (first
        | (go_at_call 87; (with_reducible refine (C3_0.out _ _ _ ho ha).mono ?_); rintro e W4 ⟨rfl, hb4⟩; have ha_4 := ha.below hb4; have Ra_4 := Ra.below hb4; have qa0_4 := cbl hb4 qa0; have qa1_4 := cbl hb4 qa1; have Rr_4 := Rr.below hb4; have qr0_4 := cbl hb4 qr0; have qr1_4 := cbl hb4 qr1; have ho_4 := ho.below hb4; have HBT_4 := Below.cons HBT hb4)
        | (go_at_call 85; (with_reducible refine (C3_1.out _ _ _ ho_4).mono ?_); rintro e W5 ⟨Xp2, cp2, rfl, hp2, hb5⟩; have ha_5 := ha_4.below hb5; have Ra_5 := Ra_4.below hb5; have qa0_5 := cbl hb5 qa0_4; have qa1_5 := cbl hb5 qa1_4; have Rr_5 := Rr_4.below hb5; have qr0_5 := cbl hb5 qr0_4; have qr1_5 := cbl hb5 qr1_4; have ho_5 := ho_4.below hb5; have HBT_5 := Below.cons HBT_4 hb5)
        | (go_at_call 87; (with_reducible refine (C3_2.out _ _ _ hp2 ha_5).mono ?_); rintro e W6 ⟨rfl, hb6⟩; have ha_6 := ha_5.below hb6; have Ra_6 := Ra_5.below hb6; have qa0_6 := cbl hb6 qa0_5; have qa1_6 := cbl hb6 qa1_5; have Rr_6 := Rr_5.below hb6; have qr0_6 := cbl hb6 qr0_5; have qr1_6 := cbl hb6 qr1_5; have ho_6 := ho_5.below hb6; have hp2_6 := hp2.below hb6; have HBT_6 := Below.cons HBT_5 hb6))
    all_goals (try go_wp2_with (fail))
    obtain ⟨u, Eu⟩ : ∃ zq : Nat, zq = 1 := ⟨_, rfl⟩
    have Bu : nl u ≤ 1 := by rw [Eu, nl_one]; exact Nat.le_refl _
    refine (Calls.mono (R := RetN W6 u) (by rw [Eu]; with_reducible exact (ione_c _)) ?_)
    replace Eu := Lib.hid Eu
    rintro e W7 ⟨Xu, cu, rfl, hu, hb7⟩
    replace ha_6 := ha_6.below hb7
    replace Ra_6 := Ra_6.below hb7
    replace qa0_6 := cbl hb7 qa0_6
    replace qa1_6 := cbl hb7 qa1_6
    replace Rr_6 := Rr_6.below hb7
    replace qr0_6 := cbl hb7 qr0_6
    replace qr1_6 := cbl hb7 qr1_6
    replace ho_6 := ho_6.below hb7
    replace hp2_6 := hp2_6.below hb7
    have HBT := Below.cons HBT_6 hb7
    clear hb7
    go_wp2_with (fail)
    obtain ⟨o2, Eo2⟩ : ∃ zq : Nat, zq = o + u := ⟨_, rfl⟩
    have Bo2 : nl o2 ≤ 1048577 := by rw [Eo2]; have := nl_add o u; omega
    refine (Calls.mono (R := RetN W7 o2) (by rw [Eo2]; with_reducible exact (add_c Xo co o Xu cu u _ ho_6 hu (by omega) (by omega))) ?_)
    replace Eo2 := Lib.hid Eo2
    rintro e W8 ⟨Xo2, co2, rfl, ho2, hb8⟩
    replace ha_6 := ha_6.below hb8
    replace Ra_6 := Ra_6.below hb8
    replace qa0_6 := cbl hb8 qa0_6
    replace qa1_6 := cbl hb8 qa1_6
    replace Rr_6 := Rr_6.below hb8
    replace qr0_6 := cbl hb8 qr0_6
    replace qr1_6 := cbl hb8 qr1_6
    replace ho_6 := ho_6.below hb8
    replace hp2_6 := hp2_6.below hb8
    replace hu := hu.below hb8
    replace HBT := Below.cons HBT hb8
    clear hb8
    go_wp2_with (fail)
    obtain ⟨z, Ez⟩ : ∃ zq : Int, zq = ival true o2 := ⟨_, rfl⟩
    refine (Calls.mono (R := RetI W8 z) (by rw [Ez]; with_reducible exact (imake_c true Xo2 co2 o2 _ ho2 (by omega))) ?_)
    replace Ez := Lib.hid Ez
    rintro e W9 ⟨Xz, cz, rfl, hz, hb9⟩
    replace ha_6 := ha_6.below hb9
    replace Ra_6 := Ra_6.below hb9
    replace qa0_6 := cbl hb9 qa0_6
    replace qa1_6 := cbl hb9 qa1_6
    replace Rr_6 := Rr_6.below hb9
    replace qr0_6 := cbl hb9 qr0_6
    replace qr1_6 := cbl hb9 qr1_6
    replace ho_6 := ho_6.below hb9
    replace hp2_6 := hp2_6.below hb9
    replace hu := hu.below hb9
    replace ho2 := ho2.below hb9
    replace HBT := Below.cons HBT hb9
    clear hb9
    have fzr0 := Rr_6.f (i := 0)
    have fzr1 := Rr_6.f (i := 1)
    go_wp2_with (fail)
    have hzz : z = shf a n := by rw [Ez.out, Eo2.out, Eu.out, Eo.out]; exact shf_b1 k h1 hk2.out hk0 hx.out
    subst hzz
    have RS := Rr_6.store2 (.bool (sg ((shf a n)))) (.slice Xz (nl (mg ((shf a n)))) cz)
    have e0 := RS.c (i := 0) rfl
    have e1 := RS.c (i := 1) rfl
    refine bodyPost_ret (v := .agg #[.bool (sg ((shf a n))), .slice Xz (nl (mg ((shf a n)))) cz]) (by simp [results, Tryz.results40, go_sem, e0, e1]) rfl ?_
    exact ⟨Xz, cz, rfl, (Rr_6.keep2 (nuB rfl) hz), (Below.store2 HBT (by first | exact Nat.le_refl _ | omega))⟩
theorem ishift_c (aA : Option Addr) (ac : Nat) (a : Int) (n : Int) (w : World) (ha : NatV w aA ac (mg a)) (la : nl (mg a) ≤ 1048576) (ln : -16777216 ≤ n ∧ n ≤ 16777216) :
    Calls Tryz.prog 40 #[.agg #[.bool (sg a), .slice aA (nl (mg a)) ac], .int .i64 n] w (RetI w (shf a n)) := by
  by_cases h1 : a < 0
  · by_cases h2 : n < 0
    · exact ishift_td aA ac a n w ha la ln h1 h2
    · exact ishift_tu aA ac a n w ha la ln h1 (by omega)
  · by_cases h2 : n < 0
    · exact ishift_fd aA ac a n w ha la ln (by omega) h2
    · exact ishift_fu aA ac a n w ha la ln (by omega) (by omega)
def Tab (w : World) : Prop := TabAt 0 Lib.deBruijn32tab w
theorem Tab.below {w w' : World} (h : Tab w) (hb : Below w.heap.size w w') : Tab w' := fun j hj => cell_below hb (h j hj)
def RetD (w : World) (q : Rat) (e : Ending) (w' : World) : Prop := ∃ A c, e = .returned (.agg #[.bool (sg (dmn q)), .slice A (nl (mg (dmn q))) c, .int .i64 (dex q)]) ∧ NatV w' A c (mg (dmn q)) ∧ Below w.heap.size w w'
theorem ctz_v2 {x : Nat} (hx : x < 4294967296) (h0 : x ≠ 0) : Lib.ctz 32 x = v2 x := by
  obtain ⟨m, h1, _⟩ := Lib.ctzFrom_spec 32 x (by omega) hx
  have e : Lib.ctz 32 x = Lib.ctzFrom 32 x := by simp [Lib.ctz, h0]
  rw [e]
  exact (v2_eq (b := 2 * m + 1) h1 (by omega)).symm
theorem tz32_walk (x k idx : Nat) (w : World) (hx0 : ((x : Int) == 0) = false)
    (key : bits BinOp.and IntKind.u32 (x : Int) (-(x : Int) % 4294967296) * 125613361 % 4294967296 / 134217728 = (idx : Int))
    (hi : idx < 32) (hk : k < 32) (hcell : w.cell? ⟨0, idx, none⟩ = some (.int .u8 k)) :
    Calls Tryz.prog 121 #[.int .u32 (x : Nat)] w fun e w' => e = .returned (.int .i64 (k : Nat)) ∧ w' = w := by
  go_enter Tryz.func121, Tryz.ntmps121
  go_wp2_with (simp only [key])
  go_ret
  exact ⟨rfl, rfl⟩
theorem tz32_c (x : Nat) (w : World) (hx : x < 4294967296) (hx0 : x ≠ 0) (hT : Tab w) :
    Calls Tryz.prog 121 #[.int .u32 (x : Nat)] w fun e w' => e = .returned (.int .i64 (v2 x : Nat)) ∧ w' = w := by
  obtain ⟨hlow, hk⟩ := Lib.lowest_bit 32 x hx0 hx
  obtain ⟨hi, htab⟩ := Lib.deBruijn32_at _ hk
  have hcell := hT _ hi
  rw [htab] at hcell
  rw [← ctz_v2 hx hx0]
  exact tz32_walk x _ _ w (ieqF (by omega)) (tz32_key x _ hx hx0 hlow) hi hk hcell
theorem mod_limb (a k : Nat) : a % 4294967296 ^ (k + 1) = a % 4294967296 ^ k + 4294967296 ^ k * (a / 4294967296 ^ k % 4294967296) := by
  rw [Nat.pow_succ, Nat.mod_mul]
theorem v2_limb {a k x : Nat} (h : a % 4294967296 ^ k = 0) (hx : x = a / 4294967296 ^ k % 4294967296) (h0 : x ≠ 0) : v2 a = 32 * k + v2 x := by
  obtain ⟨b, h1, h2⟩ := v2_spec h0
  have hd := Nat.div_add_mod a (4294967296 ^ k)
  rw [h, Nat.add_zero] at hd
  have hd2 := Nat.div_add_mod (a / 4294967296 ^ k) 4294967296
  rw [← hx] at hd2
  generalize a / 4294967296 ^ k / 4294967296 = c at *
  have hv : v2 x < 32 := by
    have h3 := v2_lt h0
    have h4 : x < 2 ^ 32 := by rw [hx]; exact Nat.mod_lt _ (by decide)
    exact (Nat.pow_lt_pow_iff_right (by decide : 1 < 2)).1 (Nat.lt_of_le_of_lt h3 h4)
  refine v2_eq (b := 2 ^ (32 - v2 x) * c + b) ?_ ?_
  · rw [← hd, ← hd2, ← pow32, Nat.pow_add, Nat.mul_assoc]
    congr 1
    rw [Nat.mul_add, ← h1, ← Nat.mul_assoc, ← Nat.pow_add, show v2 x + (32 - v2 x) = 32 by omega]
  · obtain ⟨j, hj⟩ : ∃ j, 32 - v2 x = j + 1 := ⟨31 - v2 x, by omega⟩
    rw [hj, Nat.pow_succ, Nat.mul_right_comm]; omega
theorem zeros_c (aA : Option Addr) (ac : Nat) (a : Int) (w : World) (ha : NatV w aA ac (mg a)) (hT : Tab w) (la : nl (mg a) ≤ 1048576) (h0 : a ≠ 0) :
    Calls Tryz.prog 90 #[.agg #[.bool (sg a), .slice aA (nl (mg a)) ac]] w fun e w' => e = .returned (.int .i64 (v2 (mg a) : Nat)) ∧ Below w.heap.size w w' := by
  have hp := nl_pos.2 (show mg a ≠ 0 from fun e => h0 (mg_zero.1 e))
  have hb : Below w.heap.size w (w.alloc (.cells #[.bool (sg a), .slice aA (nl (mg a)) ac] 24)) := (Below.refl _ _).alloc (Nat.le_refl _) _
  have Ra : BoxA (w.alloc (.cells #[.bool (sg a), .slice aA (nl (mg a)) ac] 24)) w.heap.size 24 #[.bool (sg a), .slice aA (nl (mg a)) ac] := ⟨at_new rfl⟩
  have qa1 := Ra.c (i := 1) rfl
  have hT2 := hT.below hb
  have ha2 := ha.below hb
  have hn0 : mg a ≠ 0 := fun e => h0 (mg_zero.1 e)
  clear ha
  replace hT2 := Lib.hid hT2
  generalize mg a = n at *
  go_enter Tryz.func90, Tryz.ntmps90
  go_wp2_with (fail)
  go_loop [3] (fun v => ∃ k : Nat, v = .int .i64 (k : Nat) ∧ k < nl n ∧ Hid (n % 4294967296 ^ k = 0)) (fun v => nl n - (intOf v).toNat)
  case atStart => exact ⟨0, rfl, hp, Lib.hid (by rw [Nat.pow_zero, Nat.mod_one])⟩
  case round =>
    obtain ⟨k, rfl, hk, hz⟩ := hrel
    obtain ⟨ad, rfl, hc⟩ := ha2.rd.get k hk
    obtain ⟨x, Ex⟩ : ∃ x, x = gl (limbs n) k := ⟨_, rfl⟩
    have hxl : x < 4294967296 := by rw [Ex]; exact (lim_limbs n).gl k
    have hxv : x = n / 4294967296 ^ k % 4294967296 := by rw [Ex, limbs_gl]
    rw [← Ex] at hc
    replace Ex := Lib.hid Ex
    by_cases hx0 : x = 0
    · have t1 : ((x : Int) == 0) = true := ieqT (by omega)
      have hz2 : n % 4294967296 ^ (k + 1) = 0 := by rw [mod_limb, hz.out, ← hxv, hx0]; rfl
      have hk2 : k + 1 < nl n := by
        rcases Nat.lt_or_ge (k + 1) (nl n) with h | h
        · exact h
        · exfalso
          rw [Nat.mod_eq_of_lt (nl_le.1 h)] at hz2
          exact hn0 hz2
      replace hz2 := Lib.hid hz2
      replace hx0 := Lib.hid hx0
      replace hxv := Lib.hid hxv
      go_wp2_with (fail)
      go_round
      case rel => exact ⟨k + 1, by go_num, hk2, hz2⟩
      case measure => simp [intOf] <;> omega
    · have t1 : ((x : Int) == 0) = false := ieqF (by omega)
      have C := tz32_c x _ hxl hx0 hT2.out
      have hv := v2_limb hz.out hxv hx0
      obtain ⟨z, Ez⟩ : ∃ z, z = v2 x := ⟨_, rfl⟩
      have hzl : z < 32 := by
        have h3 := v2_lt hx0
        rw [← Ez] at h3
        exact (Nat.pow_lt_pow_iff_right (by decide : 1 < 2)).1 (Nat.lt_of_le_of_lt h3 hxl)
      rw [← Ez] at C hv
      replace Ez := Lib.hid Ez
      replace hv := Lib.hid hv
      replace hxv := Lib.hid hxv
      replace C := Lib.hid C
      have hkl : k ≤ 1048576 := by omega
      go_wp2_with (fail)
      refine C.out.mono ?_
      rintro e w' ⟨rfl, rfl⟩
      go_wp2_with (fail)
      go_ret
      exact ⟨ret_int (by rw [hv.out]; omega), hb⟩
theorem dm_v2 (a : Int) : ival (sg a) (mg a / 2 ^ v2 (mg a)) = dm a := by
  have h1 := (dm_spec a).1
  have hp : (0 : Int) < 2 ^ v2 (mg a) := Int.pow_pos (by decide)
  have h4 : mg a = mg (dm a) * 2 ^ v2 (mg a) := by
    have := congrArg mg h1
    rw [mg_mul] at this
    have e : mg ((2 : Int) ^ v2 (mg a)) = 2 ^ v2 (mg a) := by unfold mg; rw [Int.natAbs_pow]; rfl
    rw [e] at this; exact this
  have h5 : mg a / 2 ^ v2 (mg a) = mg (dm a) := Nat.div_eq_of_eq_mul_left (Nat.two_pow_pos _) h4
  rw [h5]
  have h6 : sg a = sg (dm a) := by
    unfold sg
    rw [decide_eq_decide]
    constructor
    · intro h
      rcases Int.lt_or_le (dm a) 0 with k | k
      · exact k
      · have := Int.mul_nonneg k (Int.le_of_lt hp); omega
    · intro h
      have := Int.mul_neg_of_neg_of_pos h hp; omega
  rw [h6, ival_sm]
theorem dmn_zero : dmn 0 = 0 := rfl
theorem dex_zero : dex 0 = 0 := rfl
theorem mg0 : mg 0 = 0 := rfl
theorem sg0 : sg 0 = false := rfl
theorem v2_le (a : Nat) : v2 a ≤ 32 * nl a := by
  by_cases h : a = 0
  · subst h; exact Nat.zero_le _
  · have h1 := v2_lt h
    have h2 := nl_lt a
    rw [← pow32] at h2
    exact Nat.le_of_lt ((Nat.pow_lt_pow_iff_right (by decide : 1 < 2)).1 (Nat.lt_of_le_of_lt h1 h2))
theorem field_mag (b : Bool) (A : Option Addr) (n c : Nat) (W : World) : (Instr.field 24 (.agg #[.bool b, .slice A n c]) 1).run Tryz.prog W = .ok (.slice A n c) W := by rfl
theorem shf_down {a : Nat} {n : Nat} (h : 0 < n) : mg (shf (a : Int) (-(n : Int))) = a / 2 ^ n := by
  unfold shf; rw [if_neg (by omega), Int.neg_neg, Int.toNat_natCast]
  have : ((2 : Int) ^ n) = ((2 ^ n : Nat) : Int) := by rw [Int.natCast_pow]; rfl
  rw [this, ← Int.natCast_ediv, mg_nat]
theorem dmake_0 (aA : Option Addr) (ac : Nat) (a : Int) (e : Int) (w : World) (ha : NatV w aA ac (mg a))  (h0 : a = 0) :
    Calls Tryz.prog 41 #[.agg #[.bool (sg a), .slice aA (nl (mg a)) ac], .int .i64 e] w (RetD w (dval a e)) := by
  have t1 : ((nl (mg a) : Int) == 0) = true := ieqT (by rw [h0, mg0, nl_zero]; rfl)
  have hq : dval a e = 0 := by rw [h0]; exact dval_zero e
  replace h0 := Lib.hid h0
  replace hq := Lib.hid hq
  obtain ⟨hb1, Ra, Rr⟩ := bx2 w #[.bool (sg a), .slice aA (nl (mg a)) ac] 24 #[.bool false, .slice none 0 0, .int .i64 0] 33
  replace ha := ha.below hb1
  have HBT := hb1
  clear hb1
  have qa0 := Ra.c (i := 0) rfl
  have qa1 := Ra.c (i := 1) rfl
  have qr0 := Rr.c (i := 0) rfl
  have qr1 := Rr.c (i := 1) rfl
  have qr2 := Rr.c (i := 2) rfl
  have fzr0 := Rr.f (i := 0)
  have fzr1 := Rr.f (i := 1)
  have fzr2 := Rr.f (i := 2)
  go_enter Tryz.func41, Tryz.ntmps41
  go_wp2_with (fail)
  have e0 := Rr.c (i := 0) rfl
  have e1 := Rr.c (i := 1) rfl
  have e2 := Rr.c (i := 2) rfl
  refine bodyPost_ret (v := .agg #[.bool false, .slice none 0 0, .int .i64 0]) (by simp [results, Tryz.results41, go_sem, e0, e1, e2]) rfl ?_
  rw [hq.out]
  exact ⟨none, 0, by rw [dmn_zero, dex_zero, mg0, sg0, nl_zero], by rw [dmn_zero, mg0]; exact ⟨.inl (by simp [vals, limbs_zero]), by rw [nl_zero]; exact Nat.le_refl _, by decide⟩, HBT⟩
theorem dmake_odd (aA : Option Addr) (ac : Nat) (a : Int) (e : Int) (w : World) (ha : NatV w aA ac (mg a))  (hT : Tab w) (la : nl (mg a) ≤ 262144) (le : -1073741824 ≤ e ∧ e ≤ 1073741824) (h0 : a ≠ 0) (hv : v2 (mg a) = 0) :
    Calls Tryz.prog 41 #[.agg #[.bool (sg a), .slice aA (nl (mg a)) ac], .int .i64 e] w (RetD w (dval a e)) := by
  have t1 : ((nl (mg a) : Int) == 0) = false := ieqF (by have := nl_pos.2 (show mg a ≠ 0 from fun h => h0 (mg_zero.1 h)); omega)
  have hf := make_form a e
  have hd : dm a = a := by unfold dm; rw [hv, Int.pow_zero, Int.ediv_one]
  have he : de a e = e := by unfold de; rw [if_neg h0, hv]; exact Int.add_zero e
  rw [hd, he] at hf
  replace hf := Lib.hid hf
  have CZ := fun (W : World) (h1 : NatV W aA ac (mg a)) (h2 : Tab W) => zeros_c aA ac a W h1 h2 (by omega) h0
  rw [hv] at CZ
  replace CZ := Lib.hid CZ
  replace hd := Lib.hid hd
  replace he := Lib.hid he
  replace hv := Lib.hid hv
  obtain ⟨hb1, Ra, Rr⟩ := bx2 w #[.bool (sg a), .slice aA (nl (mg a)) ac] 24 #[.bool false, .slice none 0 0, .int .i64 0] 33
  replace ha := ha.below hb1
  replace hT := hT.below hb1
  have HBT := hb1
  clear hb1
  have qa0 := Ra.c (i := 0) rfl
  have qa1 := Ra.c (i := 1) rfl
  have qr0 := Rr.c (i := 0) rfl
  have qr1 := Rr.c (i := 1) rfl
  have qr2 := Rr.c (i := 2) rfl
  go_enter Tryz.func41, Tryz.ntmps41
  go_wp2_with (fail)
  refine (Calls.mono (CZ.out _ ha hT) ?_)
  rintro e W2 ⟨rfl, hb2⟩
  replace ha := ha.below hb2
  replace hT := hT.below hb2
  replace Ra := Ra.below hb2
  replace qa0 := cbl hb2 qa0
  replace qa1 := cbl hb2 qa1
  replace Rr := Rr.below hb2
  replace qr0 := cbl hb2 qr0
  replace qr1 := cbl hb2 qr1
  replace qr2 := cbl hb2 qr2
  replace HBT := Below.cons HBT hb2
  clear hb2
  have fzr0 := Rr.f (i := 0)
  have fzr1 := Rr.f (i := 1)
  have fzr2 := Rr.f (i := 2)
  go_wp2_with (fail)
  have RS := Rr.store3 (.bool (sg a)) (.slice aA (nl (mg a)) ac) (.int .i64 e)
  have e0 := RS.c (i := 0) rfl
  have e1 := RS.c (i := 1) rfl
  have e2 := RS.c (i := 2) rfl
  refine bodyPost_ret (v := .agg #[.bool (sg a), .slice aA (nl (mg a)) ac, .int .i64 e]) (by simp [results, Tryz.results41, go_sem, e0, e1, e2]) rfl ?_
  exact ⟨aA, ac, (by rw [← hf.out.1, ← hf.out.2]), by rw [← hf.out.1]; exact (Rr.keep3 (nuB rfl) ha), (Below.store3 HBT (by first | exact Nat.le_refl _ | omega))⟩
theorem dmake_even (aA : Option Addr) (ac : Nat) (a : Int) (e : Int) (w : World) (ha : NatV w aA ac (mg a))  (hT : Tab w) (la : nl (mg a) ≤ 262144) (le : -1073741824 ≤ e ∧ e ≤ 1073741824) (h0 : a ≠ 0) (hv : 0 < v2 (mg a)) :
    Calls Tryz.prog 41 #[.agg #[.bool (sg a), .slice aA (nl (mg a)) ac], .int .i64 e] w (RetD w (dval a e)) := by
  have t1 : ((nl (mg a) : Int) == 0) = false := ieqF (by have := nl_pos.2 (show mg a ≠ 0 from fun h => h0 (mg_zero.1 h)); omega)
  have hf := make_form a e
  have hd := dm_v2 a
  have hvl := v2_le (mg a)
  have CZ := fun (W : World) (h1 : NatV W aA ac (mg a)) (h2 : Tab W) => zeros_c aA ac a W h1 h2 (by omega) h0
  obtain ⟨n, En⟩ : ∃ n, n = v2 (mg a) := ⟨_, rfl⟩
  have he : de a e = e + n := by unfold de; rw [if_neg h0, En]
  rw [← En] at CZ hv hd hvl
  obtain ⟨x, Ex⟩ : ∃ x, x = e + (n : Int) := ⟨_, rfl⟩
  have Ix : e + (n : Int) = x := Ex.symm
  have t2 : ((n : Int) == 0) = false := ieqF (by omega)
  have Wn : IntKind.i64.wrap (-(n : Int)) = -(n : Int) := IntWalk.i64_in _ (by omega)
  have Wx : IntKind.i64.wrap x = x := IntWalk.i64_in _ (by omega)
  rw [he, ← Ex] at hf
  replace CZ := Lib.hid CZ
  replace hd := Lib.hid hd
  replace he := Lib.hid he
  replace hf := Lib.hid hf
  replace Ex := Lib.hid Ex
  replace En := Lib.hid En
  have hfm := field_mag
  obtain ⟨hb1, Ra, Rr⟩ := bx2 w #[.bool (sg a), .slice aA (nl (mg a)) ac] 24 #[.bool false, .slice none 0 0, .int .i64 0] 33
  replace ha := ha.below hb1
  replace hT := hT.below hb1
  have HBT := hb1
  clear hb1
  have qa0 := Ra.c (i := 0) rfl
  have qa1 := Ra.c (i := 1) rfl
  have qr0 := Rr.c (i := 0) rfl
  have qr1 := Rr.c (i := 1) rfl
  have qr2 := Rr.c (i := 2) rfl
  go_enter Tryz.func41, Tryz.ntmps41
  go_wp2_with (fail)
  refine (Calls.mono (CZ.out _ ha hT) ?_)
  rintro e W2 ⟨rfl, hb2⟩
  replace ha := ha.below hb2
  replace hT := hT.below hb2
  replace Ra := Ra.below hb2
  replace qa0 := cbl hb2 qa0
  replace qa1 := cbl hb2 qa1
  replace Rr := Rr.below hb2
  replace qr0 := cbl hb2 qr0
  replace qr1 := cbl hb2 qr1
  replace qr2 := cbl hb2 qr2
  replace HBT := Below.cons HBT hb2
  clear hb2
  go_wp2_with (fail)
  have hd3 := drb (W2)
  replace ha := ha.below hd3
  replace hT := hT.below hd3
  replace Ra := Ra.below hd3
  replace qa0 := cbl hd3 qa0
  replace qa1 := cbl hd3 qa1
  replace Rr := Rr.below hd3
  replace qr0 := cbl hd3 qr0
  replace qr1 := cbl hd3 qr1
  replace qr2 := cbl hd3 qr2
  replace HBT := Below.cons HBT hd3
  clear hd3
  obtain ⟨y, Ey⟩ : ∃ zq : Int, zq = ival false (mg a) := ⟨_, rfl⟩
  have Ny : nl (mg y) ≤ 1048576 := by rw [Ey, mg_ival]; omega
  have C3_0 := fun (W : World) (h1 : NatV W aA ac (mg a)) => imake_c false aA ac (mg a) W h1 (by omega)
  simp only [← Ey] at C3_0
  replace Ey := Lib.hid Ey
  replace C3_0 := Lib.hid C3_0
  obtain ⟨u, Eu⟩ : ∃ zq : Int, zq = shf y (-(n : Int)) := ⟨_, rfl⟩
  have Mu : mg u = mg a / 2 ^ n := by rw [Eu, Ey.out, ival_false]; exact shf_down hv
  have Nu : nl (mg u) ≤ 1048576 := by rw [Mu]; have := nl_div (mg a) (2 ^ n); omega
  replace Mu := Lib.hid Mu
  have C3_1 := fun (W : World) (A : Option Addr) (c : Nat) (h1 : NatV W A c (mg y)) => ishift_c A c y (-(n : Int)) W h1 Ny (by omega)
  simp only [← Eu] at C3_1
  replace Eu := Lib.hid Eu
  replace C3_1 := Lib.hid C3_1
  obtain ⟨z, Ez⟩ : ∃ zq : Int, zq = ival (sg a) (mg u) := ⟨_, rfl⟩
  have C3_2 := fun (W : World) (A : Option Addr) (c : Nat) (h1 : NatV W A c (mg u)) => imake_c (sg a) A c (mg u) W h1 (by omega)
  simp only [← Ez] at C3_2
  replace Ez := Lib.hid Ez
  replace C3_2 := Lib.hid C3_2
  go_region_held3 (fun W => W.cell? ⟨w.heap.size, 0, none⟩ = some (.bool (sg a)) ∧ W.cell? ⟨w.heap.size, 1, none⟩ = some (.slice aA (nl (mg a)) ac))
    (first
      | exact ⟨qa0, qa1⟩
      | exact ⟨qa0_4, qa1_4⟩
      | exact ⟨qa0_5, qa1_5⟩
      | exact ⟨qa0_6, qa1_6⟩
      | exact ⟨((Ra_6.other3 (by simp <;> omega)).c (i := 0) rfl), ((Ra_6.other3 (by simp <;> omega)).c (i := 1) rfl)⟩
      | go_keep)
    (first
      | (go_at_call 35; (with_reducible refine (C3_0.out _ ha).mono ?_); rintro e W4 ⟨Xy, cy, rfl, hy, hb4⟩; have ha_4 := ha.below hb4; have hT_4 := hT.below hb4; have Ra_4 := Ra.below hb4; have qa0_4 := cbl hb4 qa0; have qa1_4 := cbl hb4 qa1; have Rr_4 := Rr.below hb4; have qr0_4 := cbl hb4 qr0; have qr1_4 := cbl hb4 qr1; have qr2_4 := cbl hb4 qr2; have HBT_4 := Below.cons HBT hb4)
      | (go_at_call 40; (with_reducible refine (C3_1.out _ _ _ hy).mono ?_); rintro e W5 ⟨Xu, cu, rfl, hu, hb5⟩; have ha_5 := ha_4.below hb5; have hT_5 := hT_4.below hb5; have Ra_5 := Ra_4.below hb5; have qa0_5 := cbl hb5 qa0_4; have qa1_5 := cbl hb5 qa1_4; have Rr_5 := Rr_4.below hb5; have qr0_5 := cbl hb5 qr0_4; have qr1_5 := cbl hb5 qr1_4; have qr2_5 := cbl hb5 qr2_4; have hy_5 := hy.below hb5; have HBT_5 := Below.cons HBT_4 hb5)
      | (go_at_call 35; (with_reducible refine (C3_2.out _ _ _ hu).mono ?_); rintro e W6 ⟨Xz, cz, rfl, hz, hb6⟩; have ha_6 := ha_5.below hb6; have hT_6 := hT_5.below hb6; have Ra_6 := Ra_5.below hb6; have qa0_6 := cbl hb6 qa0_5; have qa1_6 := cbl hb6 qa1_5; have Rr_6 := Rr_5.below hb6; have qr0_6 := cbl hb6 qr0_5; have qr1_6 := cbl hb6 qr1_5; have qr2_6 := cbl hb6 qr2_5; have hy_6 := hy_5.below hb6; have hu_6 := hu.below hb6; have HBT_6 := Below.cons HBT_5 hb6; have fz0 := Rr_6.f (i := 0); have fz1 := Rr_6.f (i := 1); have fz2 := Rr_6.f (i := 2)))
  all_goals (try go_wp2_with (fail))
  have eqz : z = dmn (dval a e) := by rw [Ez.out, Mu.out, hd.out, hf.out.1]
  have hx : x = dex (dval a e) := hf.out.2
  have RS := Rr_6.store3 (.bool (sg z)) (.slice Xz (nl (mg z)) cz) (.int .i64 x)
  have e0 := RS.c (i := 0) rfl
  have e1 := RS.c (i := 1) rfl
  have e2 := RS.c (i := 2) rfl
  refine bodyPost_ret (v := .agg #[.bool (sg z), .slice Xz (nl (mg z)) cz, .int .i64 x]) (by simp [results, Tryz.results41, go_sem, e0, e1, e2]) rfl ?_
  exact ⟨Xz, cz, (by rw [eqz, hx]), by rw [← eqz]; exact (Rr_6.keep3 (nuB rfl) hz), (Below.store3 HBT_6 (by first | exact Nat.le_refl _ | omega))⟩
theorem dmake_c (aA : Option Addr) (ac : Nat) (a : Int) (e : Int) (w : World) (ha : NatV w aA ac (mg a)) (hT : Tab w) (la : nl (mg a) ≤ 262144) (le : -1073741824 ≤ e ∧ e ≤ 1073741824) :
    Calls Tryz.prog 41 #[.agg #[.bool (sg a), .slice aA (nl (mg a)) ac], .int .i64 e] w (RetD w (dval a e)) := by
  by_cases h0 : a = 0
  · exact dmake_0 aA ac a e w ha h0
  · by_cases hv : v2 (mg a) = 0
    · exact dmake_odd aA ac a e w ha hT la le h0 hv
    · exact dmake_even aA ac a e w ha hT la le h0 (by omega)
structure DOk (q : Rat) : Prop where
  d : Dyd q
  l : nl (mg (dmn q)) ≤ 100000
  e : -1000000 ≤ dex q ∧ dex q ≤ 1000000
theorem dval_neg (m e : Int) : dval (-m) e = -dval m e := by unfold dval; rw [Rat.intCast_neg, Rat.neg_mul]
theorem dval_add (x y e : Int) : dval (x + y) e = dval x e + dval y e := by unfold dval; rw [Rat.intCast_add, Rat.add_mul]
theorem nz_neg {m e : Int} (h : Nz m e) : Nz (-m) e := by
  rcases h with h | ⟨rfl, rfl⟩
  · exact .inl (by omega)
  · exact .inr ⟨rfl, rfl⟩
theorem form_neg {q : Rat} (h : Dyd q) : dmn (-q) = -dmn q ∧ dex (-q) = dex q := by
  have h1 := form_of_nz (nz_neg (nz_q q))
  rw [dval_neg, dval_q h] at h1
  exact h1
theorem dyd_neg {q : Rat} (h : Dyd q) : Dyd (-q) := by
  obtain ⟨m, e, rfl⟩ := h; exact ⟨-m, e, (dval_neg m e).symm⟩
theorem dok_neg {q : Rat} (h : DOk q) : DOk (-q) := by
  obtain ⟨h1, h2⟩ := form_neg h.d
  exact ⟨dyd_neg h.d, by rw [h1, mg_neg]; exact h.l, by rw [h2]; exact h.e⟩
theorem lev {q : Rat} (h : Dyd q) {E : Int} (hE : E ≤ dex q) : dval (shf (dmn q) (dex q - E)) E = q := by
  unfold shf
  rw [if_pos (by omega), dval_shift]
  have : E + ((dex q - E).toNat : Int) = dex q := by omega
  rw [this, dval_q h]
def rcmp (a b : Rat) : Int := if a < b then -1 else if b < a then 1 else 0
theorem nl_shf {z d : Int} {K : Nat} (h : nl (mg z) ≤ 100000) (h0 : 0 ≤ d) (h1 : d ≤ 2000000) : nl (mg (shf z d)) ≤ 162502 := by
  unfold shf
  rw [if_pos h0, mg_mul]
  have e : mg ((2 : Int) ^ d.toNat) = 2 ^ d.toNat := by unfold mg; rw [Int.natAbs_pow]; rfl
  rw [e]
  have := nl_shl (mg z) d.toNat
  omega
theorem dsign_c (aA : Option Addr) (ac : Nat) (a : Rat) (w : World) (ha : NatV w aA ac (mg (dmn a)))  :
    Calls Tryz.prog 31 #[.agg #[.bool (sg (dmn a)), .slice aA (nl (mg (dmn a))) ac, .int .i64 (dex a)]] w (fun e w' => e = .returned (.int .i64 (dmn a).sign) ∧ Below w.heap.size w w') := by
  obtain ⟨hb1, Ra⟩ := bx1 w #[.bool (sg (dmn a)), .slice aA (nl (mg (dmn a))) ac, .int .i64 (dex a)] 33
  replace ha := ha.below hb1
  have HBT := hb1
  clear hb1
  have qa0 := Ra.c (i := 0) rfl
  have qa1 := Ra.c (i := 1) rfl
  have qa2 := Ra.c (i := 2) rfl
  go_enter Tryz.func31, Tryz.ntmps31
  go_wp2_with (fail)
  refine (Calls.mono (isign_c aA ac (dmn a) _) ?_)
  rintro e W2 ⟨rfl, hb2⟩
  replace ha := ha.below hb2
  replace Ra := Ra.below hb2
  replace qa0 := cbl hb2 qa0
  replace qa1 := cbl hb2 qa1
  replace qa2 := cbl hb2 qa2
  replace HBT := Below.cons HBT hb2
  clear hb2
  go_wp2_with (fail)
  go_ret
  exact ⟨rfl, HBT⟩
theorem dneg_c (aA : Option Addr) (ac : Nat) (a : Rat) (w : World) (ha : NatV w aA ac (mg (dmn a))) (ok : DOk a) :
    Calls Tryz.prog 111 #[.agg #[.bool (sg (dmn a)), .slice aA (nl (mg (dmn a))) ac, .int .i64 (dex a)]] w (RetD w (-a)) := by
  have hl := ok.l
  obtain ⟨f1, f2⟩ := form_neg ok.d
  replace f1 := Lib.hid f1
  replace f2 := Lib.hid f2
  replace ok := Lib.hid ok
  obtain ⟨hb1, Ra, Rr⟩ := bx2 w #[.bool (sg (dmn a)), .slice aA (nl (mg (dmn a))) ac, .int .i64 (dex a)] 33 #[.bool false, .slice none 0 0, .int .i64 0] 33
  replace ha := ha.below hb1
  have HBT := hb1
  clear hb1
  have qa0 := Ra.c (i := 0) rfl
  have qa1 := Ra.c (i := 1) rfl
  have qa2 := Ra.c (i := 2) rfl
  have qr0 := Rr.c (i := 0) rfl
  have qr1 := Rr.c (i := 1) rfl
  have qr2 := Rr.c (i := 2) rfl
  go_enter Tryz.func111, Tryz.ntmps111
  go_wp2_with (fail)
  have hd2 := drb (((w.alloc (.cells #[.bool (sg (dmn a)), .slice aA (nl (mg (dmn a))) ac, .int .i64 (dex a)] 33)).alloc (.cells #[.bool false, .slice none 0 0, .int .i64 0] 33)))
  replace ha := ha.below hd2
  replace Ra := Ra.below hd2
  replace qa0 := cbl hd2 qa0
  replace qa1 := cbl hd2 qa1
  replace qa2 := cbl hd2 qa2
  replace Rr := Rr.below hd2
  replace qr0 := cbl hd2 qr0
  replace qr1 := cbl hd2 qr1
  replace qr2 := cbl hd2 qr2
  replace HBT := Below.cons HBT hd2
  clear hd2
  obtain ⟨z, Ez⟩ : ∃ zq : Int, zq = -(dmn a) := ⟨_, rfl⟩
  have C2_0 := fun (W : World) (h1 : NatV W aA ac (mg (dmn a))) => ineg_c aA ac (dmn a) W h1 (by omega)
  simp only [← Ez] at C2_0
  replace Ez := Lib.hid Ez
  replace C2_0 := Lib.hid C2_0
  go_region_held3 (fun W => W.cell? ⟨w.heap.size, 0, none⟩ = some (.bool (sg (dmn a))) ∧ W.cell? ⟨w.heap.size, 1, none⟩ = some (.slice aA (nl (mg (dmn a))) ac) ∧ W.cell? ⟨w.heap.size, 2, none⟩ = some (.int .i64 (dex a)))
    (first
      | exact ⟨qa0, qa1, qa2⟩
      | exact ⟨qa0_3, qa1_3, qa2_3⟩
      | exact ⟨((Ra_3.other3 (by simp <;> omega)).c (i := 0) rfl), ((Ra_3.other3 (by simp <;> omega)).c (i := 1) rfl), ((Ra_3.other3 (by simp <;> omega)).c (i := 2) rfl)⟩
      | go_keep)
    (first
      | (go_at_call 52; (with_reducible refine (C2_0.out _ ha).mono ?_); rintro e W3 ⟨Xz, cz, rfl, hz, hb3⟩; have ha_3 := ha.below hb3; have Ra_3 := Ra.below hb3; have qa0_3 := cbl hb3 qa0; have qa1_3 := cbl hb3 qa1; have qa2_3 := cbl hb3 qa2; have Rr_3 := Rr.below hb3; have qr0_3 := cbl hb3 qr0; have qr1_3 := cbl hb3 qr1; have qr2_3 := cbl hb3 qr2; have HBT_3 := Below.cons HBT hb3; have fz0 := Rr_3.f (i := 0); have fz1 := Rr_3.f (i := 1); have fz2 := Rr_3.f (i := 2)))
  all_goals (try go_wp2_with (fail))
  have eqz : z = dmn (-a) := by rw [Ez.out, f1.out]
  have RS := Rr_3.store3 (.bool (sg z)) (.slice Xz (nl (mg z)) cz) (.int .i64 (dex a))
  have e0 := RS.c (i := 0) rfl
  have e1 := RS.c (i := 1) rfl
  have e2 := RS.c (i := 2) rfl
  refine bodyPost_ret (v := .agg #[.bool (sg z), .slice Xz (nl (mg z)) cz, .int .i64 (dex a)]) (by simp [results, Tryz.results111, go_sem, e0, e1, e2]) rfl ?_
  exact ⟨Xz, cz, (by rw [eqz, f2.out]), by rw [← eqz]; exact (Rr_3.keep3 (nuB rfl) hz), (Below.store3 HBT_3 (by first | exact Nat.le_refl _ | omega))⟩
theorem dadd1_c (aA : Option Addr) (ac : Nat) (a : Int) (bA : Option Addr) (bc : Nat) (b : Int) (n : Int) (w : World) (ha : NatV w aA ac (mg a)) (hb : NatV w bA bc (mg b))  (la : nl (mg a) ≤ 200000) (lb : nl (mg b) ≤ 200000) (hn : -1000000 ≤ n ∧ n ≤ 1000000) (hT : Tab w) :
    Calls Tryz.prog 110 #[.agg #[.bool (sg a), .slice aA (nl (mg a)) ac], .agg #[.bool (sg b), .slice bA (nl (mg b)) bc], .int .i64 n] w (RetD w (dval (a + b) n)) := by
  obtain ⟨hb1, Ra, Rb, Rr⟩ := bx3 w #[.bool (sg a), .slice aA (nl (mg a)) ac] 24 #[.bool (sg b), .slice bA (nl (mg b)) bc] 24 #[.bool false, .slice none 0 0, .int .i64 0] 33
  replace ha := ha.below hb1
  replace hb := hb.below hb1
  replace hT := hT.below hb1
  have HBT := hb1
  clear hb1
  have qa0 := Ra.c (i := 0) rfl
  have qa1 := Ra.c (i := 1) rfl
  have qb0 := Rb.c (i := 0) rfl
  have qb1 := Rb.c (i := 1) rfl
  have qr0 := Rr.c (i := 0) rfl
  have qr1 := Rr.c (i := 1) rfl
  have qr2 := Rr.c (i := 2) rfl
  go_enter Tryz.func110, Tryz.ntmps110
  go_wp2_with (fail)
  obtain ⟨u, Eu⟩ : ∃ zq : Int, zq = a + b := ⟨_, rfl⟩
  have Nu : nl (mg u) ≤ 200001 := by rw [Eu]; have h1 := nl_add (mg a) (mg b); have h2 : nl (mg (a + b)) ≤ nl (mg a + mg b) := nl_mono (Int.natAbs_add_le a b); omega
  refine (Calls.mono (R := RetI (((w.alloc (.cells #[.bool (sg a), .slice aA (nl (mg a)) ac] 24)).alloc (.cells #[.bool (sg b), .slice bA (nl (mg b)) bc] 24)).alloc (.cells #[.bool false, .slice none 0 0, .int .i64 0] 33)) u) (by rw [Eu]; with_reducible exact (iadd_c aA ac a bA bc b _ ha hb (by omega) (by omega))) ?_)
  replace Eu := Lib.hid Eu
  rintro e W2 ⟨Xu, cu, rfl, hu, hb2⟩
  replace ha := ha.below hb2
  replace hb := hb.below hb2
  replace hT := hT.below hb2
  replace Ra := Ra.below hb2
  replace qa0 := cbl hb2 qa0
  replace qa1 := cbl hb2 qa1
  replace Rb := Rb.below hb2
  replace qb0 := cbl hb2 qb0
  replace qb1 := cbl hb2 qb1
  replace Rr := Rr.below hb2
  replace qr0 := cbl hb2 qr0
  replace qr1 := cbl hb2 qr1
  replace qr2 := cbl hb2 qr2
  replace HBT := Below.cons HBT hb2
  clear hb2
  go_wp2_with (fail)
  obtain ⟨q, Eq⟩ : ∃ zq : Rat, zq = dval u n := ⟨_, rfl⟩
  refine (Calls.mono (R := RetD W2 q) (by rw [Eq]; with_reducible exact (dmake_c Xu cu u n _ hu hT (by omega) (by omega))) ?_)
  replace Eq := Lib.hid Eq
  rintro e W3 ⟨Xq, cq, rfl, hq, hb3⟩
  replace ha := ha.below hb3
  replace hb := hb.below hb3
  replace hT := hT.below hb3
  replace Ra := Ra.below hb3
  replace qa0 := cbl hb3 qa0
  replace qa1 := cbl hb3 qa1
  replace Rb := Rb.below hb3
  replace qb0 := cbl hb3 qb0
  replace qb1 := cbl hb3 qb1
  replace Rr := Rr.below hb3
  replace qr0 := cbl hb3 qr0
  replace qr1 := cbl hb3 qr1
  replace qr2 := cbl hb3 qr2
  replace hu := hu.below hb3
  replace HBT := Below.cons HBT hb3
  clear hb3
  have fzr0 := Rr.f (i := 0)
  have fzr1 := Rr.f (i := 1)
  have fzr2 := Rr.f (i := 2)
  go_wp2_with (fail)
  have hzq : q = dval (a + b) n := by rw [Eq.out, Eu.out]
  subst hzq
  have RS := Rr.store3 (.bool (sg (dmn ((dval (a + b) n))))) (.slice Xq (nl (mg (dmn ((dval (a + b) n))))) cq) (.int .i64 (dex ((dval (a + b) n))))
  have e0 := RS.c (i := 0) rfl
  have e1 := RS.c (i := 1) rfl
  have e2 := RS.c (i := 2) rfl
  refine bodyPost_ret (v := .agg #[.bool (sg (dmn ((dval (a + b) n)))), .slice Xq (nl (mg (dmn ((dval (a + b) n))))) cq, .int .i64 (dex ((dval (a + b) n)))]) (by simp [results, Tryz.results110, go_sem, e0, e1, e2]) rfl ?_
  exact ⟨Xq, cq, rfl, (Rr.keep3 (nuB rfl) hq), (Below.store3 HBT (by first | exact Nat.le_refl _ | omega))⟩
theorem dlevadd_c (aA : Option Addr) (ac : Nat) (a : Rat) (bA : Option Addr) (bc : Nat) (b : Rat) (w : World) (ha : NatV w aA ac (mg (dmn a))) (hb : NatV w bA bc (mg (dmn b))) (oa : DOk a) (ob : DOk b) (hT : Tab w) :
    Calls Tryz.prog 109 #[.agg #[.bool (sg (dmn a)), .slice aA (nl (mg (dmn a))) ac, .int .i64 (dex a)], .agg #[.bool (sg (dmn b)), .slice bA (nl (mg (dmn b))) bc, .int .i64 (dex b)], .func (.func 110) #[] #[]] w (RetD w (a + b)) := by
  have ha1 := oa.l
  have hb1 := ob.l
  have ha2 := oa.e
  have hb2 := ob.e
  obtain ⟨E, EE⟩ : ∃ E, E = min (dex a) (dex b) := ⟨_, rfl⟩
  have IE : min (dex a) (dex b) = E := EE.symm
  have hEa : E ≤ dex a := by omega
  have hEb : E ≤ dex b := by omega
  have hE : -1000000 ≤ E ∧ E ≤ 1000000 := by omega
  have va := lev oa.d hEa
  have vb := lev ob.d hEb
  obtain ⟨da, Eda⟩ : ∃ d, d = dex a - E := ⟨_, rfl⟩
  have Ida : dex a - E = da := Eda.symm
  have Rda : 0 ≤ da ∧ da ≤ 2000000 := by omega
  have Wda : IntKind.i64.wrap da = da := IntWalk.i64_in _ (by omega)
  rw [Ida] at va
  obtain ⟨db, Edb⟩ : ∃ d, d = dex b - E := ⟨_, rfl⟩
  have Idb : dex b - E = db := Edb.symm
  have Rdb : 0 ≤ db ∧ db ≤ 2000000 := by omega
  have Wdb : IntKind.i64.wrap db = db := IntWalk.i64_in _ (by omega)
  rw [Idb] at vb
  replace EE := Lib.hid EE
  replace Eda := Lib.hid Eda
  replace Edb := Lib.hid Edb
  replace va := Lib.hid va
  replace vb := Lib.hid vb
  replace hEa := Lib.hid hEa
  replace hEb := Lib.hid hEb
  replace oa := Lib.hid oa
  replace ob := Lib.hid ob
  replace ha2 := Lib.hid ha2
  replace hb2 := Lib.hid hb2
  obtain ⟨hb1, Ra, Rb, Rr⟩ := bx3 w #[.bool (sg (dmn a)), .slice aA (nl (mg (dmn a))) ac, .int .i64 (dex a)] 33 #[.bool (sg (dmn b)), .slice bA (nl (mg (dmn b))) bc, .int .i64 (dex b)] 33 #[.bool false, .slice none 0 0, .int .i64 0] 33
  replace ha := ha.below hb1
  replace hb := hb.below hb1
  replace hT := hT.below hb1
  have HBT := hb1
  clear hb1
  have qa0 := Ra.c (i := 0) rfl
  have qa1 := Ra.c (i := 1) rfl
  have qa2 := Ra.c (i := 2) rfl
  have qb0 := Rb.c (i := 0) rfl
  have qb1 := Rb.c (i := 1) rfl
  have qb2 := Rb.c (i := 2) rfl
  have qr0 := Rr.c (i := 0) rfl
  have qr1 := Rr.c (i := 1) rfl
  have qr2 := Rr.c (i := 2) rfl
  go_enter Tryz.func109, Tryz.ntmps109
  go_wp2_with (fail)
  have hd2 := drb ((((w.alloc (.cells #[.bool (sg (dmn a)), .slice aA (nl (mg (dmn a))) ac, .int .i64 (dex a)] 33)).alloc (.cells #[.bool (sg (dmn b)), .slice bA (nl (mg (dmn b))) bc, .int .i64 (dex b)] 33)).alloc (.cells #[.bool false, .slice none 0 0, .int .i64 0] 33)))
  replace ha := ha.below hd2
  replace hb := hb.below hd2
  replace hT := hT.below hd2
  replace Ra := Ra.below hd2
  replace qa0 := cbl hd2 qa0
  replace qa1 := cbl hd2 qa1
  replace qa2 := cbl hd2 qa2
  replace Rb := Rb.below hd2
  replace qb0 := cbl hd2 qb0
  replace qb1 := cbl hd2 qb1
  replace qb2 := cbl hd2 qb2
  replace Rr := Rr.below hd2
  replace qr0 := cbl hd2 qr0
  replace qr1 := cbl hd2 qr1
  replace qr2 := cbl hd2 qr2
  replace HBT := Below.cons HBT hd2
  clear hd2
  obtain ⟨x, Ex⟩ : ∃ zq : Int, zq = shf (dmn a) da := ⟨_, rfl⟩
  have Nx : nl (mg x) ≤ 162502 := by rw [Ex]; exact nl_shf (K := 0) (by omega) (by omega) (by omega)
  have C2_0 := fun (W : World) (h1 : NatV W aA ac (mg (dmn a))) => ishift_c aA ac (dmn a) da W h1 (by omega) (by omega)
  simp only [← Ex] at C2_0
  replace Ex := Lib.hid Ex
  replace C2_0 := Lib.hid C2_0
  obtain ⟨y, Ey⟩ : ∃ zq : Int, zq = shf (dmn b) db := ⟨_, rfl⟩
  have Ny : nl (mg y) ≤ 162502 := by rw [Ey]; exact nl_shf (K := 0) (by omega) (by omega) (by omega)
  have C2_1 := fun (W : World) (h1 : NatV W bA bc (mg (dmn b))) => ishift_c bA bc (dmn b) db W h1 (by omega) (by omega)
  simp only [← Ey] at C2_1
  replace Ey := Lib.hid Ey
  replace C2_1 := Lib.hid C2_1
  obtain ⟨q, Eq⟩ : ∃ zq : Rat, zq = dval (x + y) E := ⟨_, rfl⟩
  have C2_2 := fun (W : World) (A : Option Addr) (c : Nat) (B : Option Addr) (d : Nat) (h1 : NatV W A c (mg x)) (h2 : NatV W B d (mg y)) (h3 : Tab W) => dadd1_c A c x B d y E W h1 h2 (by omega) (by omega) hE h3
  simp only [← Eq] at C2_2
  replace Eq := Lib.hid Eq
  replace C2_2 := Lib.hid C2_2
  go_region_held3 (fun W => W.cell? ⟨w.heap.size, 0, none⟩ = some (.bool (sg (dmn a))) ∧ W.cell? ⟨w.heap.size, 1, none⟩ = some (.slice aA (nl (mg (dmn a))) ac) ∧ W.cell? ⟨w.heap.size, 2, none⟩ = some (.int .i64 (dex a)) ∧ W.cell? ⟨(w.heap.size + 1), 0, none⟩ = some (.bool (sg (dmn b))) ∧ W.cell? ⟨(w.heap.size + 1), 1, none⟩ = some (.slice bA (nl (mg (dmn b))) bc) ∧ W.cell? ⟨(w.heap.size + 1), 2, none⟩ = some (.int .i64 (dex b)))
    (first
      | exact ⟨qa0, qa1, qa2, qb0, qb1, qb2⟩
      | exact ⟨qa0_3, qa1_3, qa2_3, qb0_3, qb1_3, qb2_3⟩
      | exact ⟨qa0_4, qa1_4, qa2_4, qb0_4, qb1_4, qb2_4⟩
      | exact ⟨qa0_5, qa1_5, qa2_5, qb0_5, qb1_5, qb2_5⟩
      | exact ⟨((Ra_5.other3 (by simp <;> omega)).c (i := 0) rfl), ((Ra_5.other3 (by simp <;> omega)).c (i := 1) rfl), ((Ra_5.other3 (by simp <;> omega)).c (i := 2) rfl), ((Rb_5.other3 (by simp <;> omega)).c (i := 0) rfl), ((Rb_5.other3 (by simp <;> omega)).c (i := 1) rfl), ((Rb_5.other3 (by simp <;> omega)).c (i := 2) rfl)⟩
      | go_keep)
    (first
      | (go_at_call 40; (with_reducible refine (C2_0.out _ ha).mono ?_); rintro e W3 ⟨Xx, cx, rfl, hx, hb3⟩; have ha_3 := ha.below hb3; have hb_3 := hb.below hb3; have hT_3 := hT.below hb3; have Ra_3 := Ra.below hb3; have qa0_3 := cbl hb3 qa0; have qa1_3 := cbl hb3 qa1; have qa2_3 := cbl hb3 qa2; have Rb_3 := Rb.below hb3; have qb0_3 := cbl hb3 qb0; have qb1_3 := cbl hb3 qb1; have qb2_3 := cbl hb3 qb2; have Rr_3 := Rr.below hb3; have qr0_3 := cbl hb3 qr0; have qr1_3 := cbl hb3 qr1; have qr2_3 := cbl hb3 qr2; have HBT_3 := Below.cons HBT hb3)
      | (go_at_call 40; (with_reducible refine (C2_1.out _ hb_3).mono ?_); rintro e W4 ⟨Xy, cy, rfl, hy, hb4⟩; have ha_4 := ha_3.below hb4; have hb_4 := hb_3.below hb4; have hT_4 := hT_3.below hb4; have Ra_4 := Ra_3.below hb4; have qa0_4 := cbl hb4 qa0_3; have qa1_4 := cbl hb4 qa1_3; have qa2_4 := cbl hb4 qa2_3; have Rb_4 := Rb_3.below hb4; have qb0_4 := cbl hb4 qb0_3; have qb1_4 := cbl hb4 qb1_3; have qb2_4 := cbl hb4 qb2_3; have Rr_4 := Rr_3.below hb4; have qr0_4 := cbl hb4 qr0_3; have qr1_4 := cbl hb4 qr1_3; have qr2_4 := cbl hb4 qr2_3; have hx_4 := hx.below hb4; have HBT_4 := Below.cons HBT_3 hb4)
      | (go_at_call 110; (with_reducible refine (C2_2.out _ _ _ _ _ hx_4 hy hT_4).mono ?_); rintro e W5 ⟨Xq, cq, rfl, hq, hb5⟩; have ha_5 := ha_4.below hb5; have hb_5 := hb_4.below hb5; have hT_5 := hT_4.below hb5; have Ra_5 := Ra_4.below hb5; have qa0_5 := cbl hb5 qa0_4; have qa1_5 := cbl hb5 qa1_4; have qa2_5 := cbl hb5 qa2_4; have Rb_5 := Rb_4.below hb5; have qb0_5 := cbl hb5 qb0_4; have qb1_5 := cbl hb5 qb1_4; have qb2_5 := cbl hb5 qb2_4; have Rr_5 := Rr_4.below hb5; have qr0_5 := cbl hb5 qr0_4; have qr1_5 := cbl hb5 qr1_4; have qr2_5 := cbl hb5 qr2_4; have hx_5 := hx_4.below hb5; have hy_5 := hy.below hb5; have HBT_5 := Below.cons HBT_4 hb5; have fz0 := Rr_5.f (i := 0); have fz1 := Rr_5.f (i := 1); have fz2 := Rr_5.f (i := 2)))
  all_goals (try go_wp2_with (fail))
  have hzq : q = a + b := by rw [Eq.out, dval_add, Ex.out, Ey.out, va.out, vb.out]
  subst hzq
  have RS := Rr_5.store3 (.bool (sg (dmn ((a + b))))) (.slice Xq (nl (mg (dmn ((a + b))))) cq) (.int .i64 (dex ((a + b))))
  have e0 := RS.c (i := 0) rfl
  have e1 := RS.c (i := 1) rfl
  have e2 := RS.c (i := 2) rfl
  refine bodyPost_ret (v := .agg #[.bool (sg (dmn ((a + b)))), .slice Xq (nl (mg (dmn ((a + b))))) cq, .int .i64 (dex ((a + b)))]) (by simp [results, Tryz.results109, go_sem, e0, e1, e2]) rfl ?_
  exact ⟨Xq, cq, rfl, (Rr_5.keep3 (nuB rfl) hq), (Below.store3 HBT_5 (by first | exact Nat.le_refl _ | omega))⟩
theorem dadd_c (aA : Option Addr) (ac : Nat) (a : Rat) (bA : Option Addr) (bc : Nat) (b : Rat) (w : World) (ha : NatV w aA ac (mg (dmn a))) (hb : NatV w bA bc (mg (dmn b))) (oa : DOk a) (ob : DOk b) (hT : Tab w) :
    Calls Tryz.prog 64 #[.agg #[.bool (sg (dmn a)), .slice aA (nl (mg (dmn a))) ac, .int .i64 (dex a)], .agg #[.bool (sg (dmn b)), .slice bA (nl (mg (dmn b))) bc, .int .i64 (dex b)]] w (RetD w (a + b)) := by
  obtain ⟨hb1, Ra, Rb, Rr⟩ := bx3 w #[.bool (sg (dmn a)), .slice aA (nl (mg (dmn a))) ac, .int .i64 (dex a)] 33 #[.bool (sg (dmn b)), .slice bA (nl (mg (dmn b))) bc, .int .i64 (dex b)] 33 #[.bool false, .slice none 0 0, .int .i64 0] 33
  replace ha := ha.below hb1
  replace hb := hb.below hb1
  replace hT := hT.below hb1
  have HBT := hb1
  clear hb1
  have qa0 := Ra.c (i := 0) rfl
  have qa1 := Ra.c (i := 1) rfl
  have qa2 := Ra.c (i := 2) rfl
  have qb0 := Rb.c (i := 0) rfl
  have qb1 := Rb.c (i := 1) rfl
  have qb2 := Rb.c (i := 2) rfl
  have qr0 := Rr.c (i := 0) rfl
  have qr1 := Rr.c (i := 1) rfl
  have qr2 := Rr.c (i := 2) rfl
  replace oa := Lib.hid oa
  replace ob := Lib.hid ob
  go_enter Tryz.func64, Tryz.ntmps64
  go_wp2_with (fail)
  obtain ⟨q, Eq⟩ : ∃ zq : Rat, zq = a + b := ⟨_, rfl⟩
  refine (Calls.mono (R := RetD (((w.alloc (.cells #[.bool (sg (dmn a)), .slice aA (nl (mg (dmn a))) ac, .int .i64 (dex a)] 33)).alloc (.cells #[.bool (sg (dmn b)), .slice bA (nl (mg (dmn b))) bc, .int .i64 (dex b)] 33)).alloc (.cells #[.bool false, .slice none 0 0, .int .i64 0] 33)) q) (by rw [Eq]; with_reducible exact (dlevadd_c aA ac a bA bc b _ ha hb oa.out ob.out hT)) ?_)
  replace Eq := Lib.hid Eq
  rintro e W2 ⟨Xq, cq, rfl, hq, hb2⟩
  replace ha := ha.below hb2
  replace hb := hb.below hb2
  replace hT := hT.below hb2
  replace Ra := Ra.below hb2
  replace qa0 := cbl hb2 qa0
  replace qa1 := cbl hb2 qa1
  replace qa2 := cbl hb2 qa2
  replace Rb := Rb.below hb2
  replace qb0 := cbl hb2 qb0
  replace qb1 := cbl hb2 qb1
  replace qb2 := cbl hb2 qb2
  replace Rr := Rr.below hb2
  replace qr0 := cbl hb2 qr0
  replace qr1 := cbl hb2 qr1
  replace qr2 := cbl hb2 qr2
  replace HBT := Below.cons HBT hb2
  clear hb2
  have fzr0 := Rr.f (i := 0)
  have fzr1 := Rr.f (i := 1)
  have fzr2 := Rr.f (i := 2)
  go_wp2_with (fail)
  have hzq : q = a + b := by exact Eq.out
  subst hzq
  have RS := Rr.store3 (.bool (sg (dmn ((a + b))))) (.slice Xq (nl (mg (dmn ((a + b))))) cq) (.int .i64 (dex ((a + b))))
  have e0 := RS.c (i := 0) rfl
  have e1 := RS.c (i := 1) rfl
  have e2 := RS.c (i := 2) rfl
  refine bodyPost_ret (v := .agg #[.bool (sg (dmn ((a + b)))), .slice Xq (nl (mg (dmn ((a + b))))) cq, .int .i64 (dex ((a + b)))]) (by simp [results, Tryz.results64, go_sem, e0, e1, e2]) rfl ?_
  exact ⟨Xq, cq, rfl, (Rr.keep3 (nuB rfl) hq), (Below.store3 HBT (by first | exact Nat.le_refl _ | omega))⟩
theorem dsub_c (aA : Option Addr) (ac : Nat) (a : Rat) (bA : Option Addr) (bc : Nat) (b : Rat) (w : World) (ha : NatV w aA ac (mg (dmn a))) (hb : NatV w bA bc (mg (dmn b))) (oa : DOk a) (ob : DOk b) (hT : Tab w) :
    Calls Tryz.prog 100 #[.agg #[.bool (sg (dmn a)), .slice aA (nl (mg (dmn a))) ac, .int .i64 (dex a)], .agg #[.bool (sg (dmn b)), .slice bA (nl (mg (dmn b))) bc, .int .i64 (dex b)]] w (RetD w (a - b)) := by
  obtain ⟨hb1, Ra, Rb, Rr⟩ := bx3 w #[.bool (sg (dmn a)), .slice aA (nl (mg (dmn a))) ac, .int .i64 (dex a)] 33 #[.bool (sg (dmn b)), .slice bA (nl (mg (dmn b))) bc, .int .i64 (dex b)] 33 #[.bool false, .slice none 0 0, .int .i64 0] 33
  replace ha := ha.below hb1
  replace hb := hb.below hb1
  replace hT := hT.below hb1
  have HBT := hb1
  clear hb1
  have qa0 := Ra.c (i := 0) rfl
  have qa1 := Ra.c (i := 1) rfl
  have qa2 := Ra.c (i := 2) rfl
  have qb0 := Rb.c (i := 0) rfl
  have qb1 := Rb.c (i := 1) rfl
  have qb2 := Rb.c (i := 2) rfl
  have qr0 := Rr.c (i := 0) rfl
  have qr1 := Rr.c (i := 1) rfl
  have qr2 := Rr.c (i := 2) rfl
  have on := dok_neg ob
  replace oa := Lib.hid oa
  replace ob := Lib.hid ob
  replace on := Lib.hid on
  go_enter Tryz.func100, Tryz.ntmps100
  go_wp2_with (fail)
  have hd2 := drb ((((w.alloc (.cells #[.bool (sg (dmn a)), .slice aA (nl (mg (dmn a))) ac, .int .i64 (dex a)] 33)).alloc (.cells #[.bool (sg (dmn b)), .slice bA (nl (mg (dmn b))) bc, .int .i64 (dex b)] 33)).alloc (.cells #[.bool false, .slice none 0 0, .int .i64 0] 33)))
  replace ha := ha.below hd2
  replace hb := hb.below hd2
  replace hT := hT.below hd2
  replace Ra := Ra.below hd2
  replace qa0 := cbl hd2 qa0
  replace qa1 := cbl hd2 qa1
  replace qa2 := cbl hd2 qa2
  replace Rb := Rb.below hd2
  replace qb0 := cbl hd2 qb0
  replace qb1 := cbl hd2 qb1
  replace qb2 := cbl hd2 qb2
  replace Rr := Rr.below hd2
  replace qr0 := cbl hd2 qr0
  replace qr1 := cbl hd2 qr1
  replace qr2 := cbl hd2 qr2
  replace HBT := Below.cons HBT hd2
  clear hd2
  obtain ⟨u, Eu⟩ : ∃ zq : Rat, zq = -b := ⟨_, rfl⟩
  have C2_0 := fun (W : World) (h1 : NatV W bA bc (mg (dmn b))) => dneg_c bA bc b W h1 ob.out
  simp only [← Eu] at C2_0
  replace Eu := Lib.hid Eu
  replace C2_0 := Lib.hid C2_0
  obtain ⟨q, Eq⟩ : ∃ zq : Rat, zq = a + u := ⟨_, rfl⟩
  have C2_1 := fun (W : World) (B : Option Addr) (d : Nat) (h1 : NatV W aA ac (mg (dmn a))) (h2 : NatV W B d (mg (dmn u))) (h3 : Tab W) => dadd_c aA ac a B d u W h1 h2 oa.out (by rw [Eu.out]; exact on.out) h3
  simp only [← Eq] at C2_1
  replace Eq := Lib.hid Eq
  replace C2_1 := Lib.hid C2_1
  go_region_held3 (fun W => W.cell? ⟨w.heap.size, 0, none⟩ = some (.bool (sg (dmn a))) ∧ W.cell? ⟨w.heap.size, 1, none⟩ = some (.slice aA (nl (mg (dmn a))) ac) ∧ W.cell? ⟨w.heap.size, 2, none⟩ = some (.int .i64 (dex a)) ∧ W.cell? ⟨(w.heap.size + 1), 0, none⟩ = some (.bool (sg (dmn b))) ∧ W.cell? ⟨(w.heap.size + 1), 1, none⟩ = some (.slice bA (nl (mg (dmn b))) bc) ∧ W.cell? ⟨(w.heap.size + 1), 2, none⟩ = some (.int .i64 (dex b)))
    (first
      | exact ⟨qa0, qa1, qa2, qb0, qb1, qb2⟩
      | exact ⟨qa0_3, qa1_3, qa2_3, qb0_3, qb1_3, qb2_3⟩
      | exact ⟨qa0_4, qa1_4, qa2_4, qb0_4, qb1_4, qb2_4⟩
      | exact ⟨((Ra_4.other3 (by simp <;> omega)).c (i := 0) rfl), ((Ra_4.other3 (by simp <;> omega)).c (i := 1) rfl), ((Ra_4.other3 (by simp <;> omega)).c (i := 2) rfl), ((Rb_4.other3 (by simp <;> omega)).c (i := 0) rfl), ((Rb_4.other3 (by simp <;> omega)).c (i := 1) rfl), ((Rb_4.other3 (by simp <;> omega)).c (i := 2) rfl)⟩
      | go_keep)
    (first
      | (go_at_call 111; (with_reducible refine (C2_0.out _ hb).mono ?_); rintro e W3 ⟨Xu, cu, rfl, hu, hb3⟩; have ha_3 := ha.below hb3; have hb_3 := hb.below hb3; have hT_3 := hT.below hb3; have Ra_3 := Ra.below hb3; have qa0_3 := cbl hb3 qa0; have qa1_3 := cbl hb3 qa1; have qa2_3 := cbl hb3 qa2; have Rb_3 := Rb.below hb3; have qb0_3 := cbl hb3 qb0; have qb1_3 := cbl hb3 qb1; have qb2_3 := cbl hb3 qb2; have Rr_3 := Rr.below hb3; have qr0_3 := cbl hb3 qr0; have qr1_3 := cbl hb3 qr1; have qr2_3 := cbl hb3 qr2; have HBT_3 := Below.cons HBT hb3)
      | (go_at_call 64; (with_reducible refine (C2_1.out _ _ _ ha_3 hu hT_3).mono ?_); rintro e W4 ⟨Xq, cq, rfl, hq, hb4⟩; have ha_4 := ha_3.below hb4; have hb_4 := hb_3.below hb4; have hT_4 := hT_3.below hb4; have Ra_4 := Ra_3.below hb4; have qa0_4 := cbl hb4 qa0_3; have qa1_4 := cbl hb4 qa1_3; have qa2_4 := cbl hb4 qa2_3; have Rb_4 := Rb_3.below hb4; have qb0_4 := cbl hb4 qb0_3; have qb1_4 := cbl hb4 qb1_3; have qb2_4 := cbl hb4 qb2_3; have Rr_4 := Rr_3.below hb4; have qr0_4 := cbl hb4 qr0_3; have qr1_4 := cbl hb4 qr1_3; have qr2_4 := cbl hb4 qr2_3; have hu_4 := hu.below hb4; have HBT_4 := Below.cons HBT_3 hb4; have fz0 := Rr_4.f (i := 0); have fz1 := Rr_4.f (i := 1); have fz2 := Rr_4.f (i := 2)))
  all_goals (try go_wp2_with (fail))
  have hzq : q = a - b := by rw [Eq.out, Eu.out, Rat.sub_eq_add_neg]
  subst hzq
  have RS := Rr_4.store3 (.bool (sg (dmn ((a - b))))) (.slice Xq (nl (mg (dmn ((a - b))))) cq) (.int .i64 (dex ((a - b))))
  have e0 := RS.c (i := 0) rfl
  have e1 := RS.c (i := 1) rfl
  have e2 := RS.c (i := 2) rfl
  refine bodyPost_ret (v := .agg #[.bool (sg (dmn ((a - b)))), .slice Xq (nl (mg (dmn ((a - b))))) cq, .int .i64 (dex ((a - b)))]) (by simp [results, Tryz.results100, go_sem, e0, e1, e2]) rfl ?_
  exact ⟨Xq, cq, rfl, (Rr_4.keep3 (nuB rfl) hq), (Below.store3 HBT_4 (by first | exact Nat.le_refl _ | omega))⟩
end Go.Proofs.YtopigejgadnkaaaGreatDoor

namespace Go.Proofs.YtopigejgadnkaaaGreatDoor
open Go.RowKit

def SeqX {α : Type} (F : Fence) (n : Nat) (P : Program) (g : Nat) (lb : Array Value) (encs : α → Array Value) (H : List α → α → World → Prop) (Kp Mv : World → World → Prop) (S Sp : List α → World → Prop) (w : World) : Prop :=
  ∀ (l : Nat) (J Jx : List α → World → Prop) (W : World), Below w.heap.size w W → AbidesFrom W.heap.size J → AbidesFrom W.heap.size Jx → (∀ s A B, J s A → Mv A B → J s B) →
    (∀ pre x W1, J pre W1 → H pre x W1 → YieldAt F (n - 1) P l (encs x) W1 fun e W' =>
      (e = .returned (.bool true) ∧ J (pre ++ [x]) W' ∧ Kp W1 W') ∨ (e = .returned (.bool false) ∧ Jx (pre ++ [x]) W' ∧ Kp W1 W')) →
    J [] W →
    CallsIn F n P g (#[.func (.yield l) #[] #[]] ++ lb) W fun e W' => (∃ v, e = .returned v) ∧ ((∃ xs, S xs W' ∧ J xs W') ∨ (∃ pre, Sp pre W' ∧ Jx pre W'))
def postX {α : Type} (Kp : World → World → Prop) (I : List α → World → Prop) (Ix : Code → List α → World → Prop) (xs : List α) (W : World) : Exit → Act → World → Prop
  | .normal, _, W' => KeepsOthers W W' ∧ Kp W W' ∧ I xs W'
  | .ret, _, W' => KeepsOthers W W' ∧ Kp W W' ∧ Ix .ret xs W'
  | .exit id, _, W' => KeepsOthers W W' ∧ Kp W W' ∧ Ix (.exit id) xs W'
  | .goto t, _, W' => KeepsOthers W W' ∧ Kp W W' ∧ Ix (.goto t) xs W'
  | .panic _, _, _ => False
  | .outgrown, _, _ => False
theorem wpIn_rangeX {F : Fence} {n : Nat} {P : Program} {α : Type} {g : Operand} {ps : Array Tmp} {assign body : Code} {Q : Exit → Act → World → Prop} {a : Act} {w : World}
    (hro : F.round = none) (h1 : 1 ≤ n) {gf : Nat} {lb : Array Value} (hg : a.eval g = .func (.func gf) #[] lb) (hFg : F.fn gf) (eg : ∀ args w, (callFunc gf args).run P w = .ok (.enter gf args) w)
    {encs : α → Array Value} {H : List α → α → World → Prop} {Kp Mv : World → World → Prop} {S Sp : List α → World → Prop} {w0 : World} (hseq : SeqX F (n - 1) P gf lb encs H Kp Mv S Sp w0)
    (hM : ∀ A B, Mv A B → ∀ k, w.heap.size ≤ k → k < A.heap.size → B.heap[k]? = A.heap[k]?)
    (hKt : ∀ {A B C : World}, Kp A B → Kp B C → Kp A C) (hKb : ∀ (W : World) (l : Nat) (o o' : Obj), w.heap.size ≤ l → W.heap[l]? = some o → o.isCells = false → o.isWalk = false → Kp W (W.putObj l o')) (hb0 : Below w0.heap.size w0 w) (hps : ∀ x, (encs x).size = ps.size)
    (hH : OwnFrom w.heap.size (fun (p : List α × α) W => H p.1 p.2 W)) (hS : OwnFrom w.heap.size S) (hSp : OwnFrom w.heap.size Sp)
    (I : List α → World → Prop) (Ix : Code → List α → World → Prop) (hI : OwnFrom w.heap.size I) (hIx : ∀ c, OwnFrom w.heap.size (Ix c)) (hIM : ∀ s A B, I s A → Mv A B → I s B) (h0 : I [] w) (a₁ : α → Act)
    (hassign : ∀ (l : Nat) (x : α) (W : World) (K : Act → World → Prop), K (a₁ x) W →
      assign.wpIn (F.inRound l) (n - 1 - 1) P (Exit.then K (fun _ _ _ => False)) { tmps := (ps.zip (encs x)).foldl (fun t (p, v) => t.setIfInBounds p v) a.tmps, defers := [] } W)
    (hbody : ∀ (l : Nat) (pre : List α) (x : α) (W : World), I pre W → H pre x W → body.wpIn (F.inRound l) (n - 1 - 1) P (postX Kp I Ix (pre ++ [x]) W) (a₁ x) W)
    (hdone : ∀ (D : Nat) (xs : List α) (W : World), w.heap.size ≤ D → S xs W → I xs W → W.heap[D]? = some (.deferred (some [])) → Q .normal { a with defers := { target := .collected D, args := #[] } :: a.defers } W)
    (hstop : ∀ (D : Nat) (c : Code) (pre : List α) (W : World), w.heap.size ≤ D → Sp pre W → Ix c pre W → W.heap[D]? = some (.deferred (some [])) → c.wpIn F n P Q { a with defers := { target := .collected D, args := #[] } :: a.defers } W) :
    (Code.rangeFunc g ps assign body).wpIn F n P Q a w := by
  refine wpIn_rangeFunc fun fn hfn => ?_
  rw [hro]
  let rec' : LoopState → Option Code → Loop := fun st pe => { state := st, pending := pe, fn, tmps := a.tmps, params := ps, assign, body, defers := w.heap.size }
  obtain ⟨rc, hrc⟩ : ∃ rc : LoopState → Option Code → Loop, rc = rec' := ⟨_, rfl⟩
  obtain ⟨W1, hW1⟩ : ∃ W1, W1 = (w.alloc (.deferred (some []))).alloc (.loop (rc .ready none)) := ⟨_, rfl⟩
  have hz : W1.heap.size = w.heap.size + 2 := by rw [hW1]; simp
  have hL1 : W1.heap[w.heap.size + 1]? = some (.loop (rc .ready none)) := by rw [hW1]; exact at_new (by simp)
  have hK1 : W1.heap[w.heap.size]? = some (.deferred (some [])) := by rw [hW1]; exact at_old (by simp) (at_new rfl)
  have hI1 : I [] W1 := by rw [hW1]; exact hI.alloc _ (hI.alloc _ h0)
  have hb1 : Below w0.heap.size w0 W1 := by
    rw [hW1]; exact hb0.trans ((((Below.refl _ w).alloc (Nat.le_refl _) _).alloc (by simp) _).mono hb0.size)
  refine ⟨w.heap.size + 1, [{ target := .collected w.heap.size, args := #[] }], W1, { target := .fn (.func gf) lb, args := #[.func (.yield (w.heap.size + 1)) #[] #[]] }, W1, gf, #[.func (.yield (w.heap.size + 1)) #[] #[]] ++ lb, W1, ?_, ?_, ?_, ?_, fun _ => h1, ?_⟩
  · rw [hW1, hrc]; exact run_enterLoop_outer _ _ _ _ _
  · simp only [resolve, hg]
    simp [go_sem]
  · intro f' hf'
    simp [Target.leads] at hf'
    subst hf'; exact hFg
  · simp [invoke, go_sem, eg]
  have turn : ∀ {A B : World} {row : Option Nat}, (∀ r, row = some r → W1.heap.size ≤ r ∧ ∃ o : Obj, A.heap[r]? = some o ∧ o.isWalk = true) → (∀ r, row = some r → w.heap.size ≤ r ∧ ∃ o : Obj, A.heap[r]? = some o ∧ o.isCells = false) := fun hr r e => by
    obtain ⟨hB, o, ho, hw⟩ := hr r e
    exact ⟨by omega, o, ho, Obj.not_cells_of_walk hw⟩
  refine (hseq (w.heap.size + 1)
    (fun pre W => I pre W ∧ W.heap[w.heap.size + 1]? = some (.loop (rc .ready none)) ∧ W.heap[w.heap.size]? = some (.deferred (some [])))
    (fun pre W => ∃ c, Ix c pre W ∧ W.heap[w.heap.size + 1]? = some (.loop (rc .done (some c))) ∧ W.heap[w.heap.size]? = some (.deferred (some [])))
    W1 hb1 ?ab1 ?ab2 ?mv ?round ⟨hI1, hL1, hK1⟩).mono ?fin
  case mv =>
    rintro x A B ⟨h1, h2, h3⟩ hm
    exact ⟨hIM x A B h1 hm, (hM A B hm _ (by omega) (Array.getElem?_eq_some_iff.1 h2).1).trans h2, (hM A B hm _ (by omega) (Array.getElem?_eq_some_iff.1 h3).1).trans h3⟩
  case ab1 =>
    rintro x A B row ⟨h1, h2, h3⟩ hg' hr
    exact ⟨hI x A B row h1 hg' (turn (B := B) hr), (grownBy_keeps hg' (fun r e => (hr r e).2) h2 rfl).trans h2, (grownBy_keeps hg' (fun r e => (hr r e).2) h3 rfl).trans h3⟩
  case ab2 =>
    rintro x A B row ⟨c, h1, h2, h3⟩ hg' hr
    exact ⟨c, hIx c x A B row h1 hg' (turn (B := B) hr), (grownBy_keeps hg' (fun r e => (hr r e).2) h2 rfl).trans h2, (grownBy_keeps hg' (fun r e => (hr r e).2) h3 rfl).trans h3⟩
  case round =>
    rintro pre x W ⟨hi, hl, hk⟩ hx
    have hlt : w.heap.size + 1 < W.heap.size := (Array.getElem?_eq_some_iff.1 hl).1
    have hy := run_yield (P := P) (args := encs x) hl (by rw [hrc]; exact hps x)
    rw [hrc] at hy
    refine ⟨fn, _, assign, body, hy, roundIn_of_wpIn hfn (hassign _ x W _ ⟨_, run_beginRound hl (by rw [hrc]), ?_⟩)⟩
    obtain ⟨bz, hbz⟩ : ∃ bz, bz = Obj.loop { rc .ready none with state := .busy } := ⟨_, rfl⟩
    rw [← hbz]
    have hl2 : (W.putObj (w.heap.size + 1) bz).heap[w.heap.size + 1]? = some bz := World.putObj_heap_same hlt
    have hk2 : (W.putObj (w.heap.size + 1) bz).heap[w.heap.size]? = some (.deferred (some [])) := (World.putObj_heap_other (by omega)).trans hk
    have hw2 : Kp W (W.putObj (w.heap.size + 1) bz) := hKb _ _ _ _ (by omega) hl rfl rfl
    refine wpIn_mono (hbody _ pre x _ (hI.putObj _ hi (by omega) hl rfl) (hH.putObj (s := (pre, x)) _ hx (by omega) hl rfl)) ?_
    have out : ∀ (jump : Option Code) (W3 : World), KeepsOthers (W.putObj (w.heap.size + 1) bz) W3 →
        (Instr.endRound (w.heap.size + 1) jump).run P W3 = .ok (.bool jump.isNone) (W3.putObj (w.heap.size + 1) (.loop (rc (if jump.isNone then .ready else .done) jump))) ∧ W3.heap[w.heap.size + 1]? = some bz ∧
        (W3.putObj (w.heap.size + 1) (.loop (rc (if jump.isNone then .ready else .done) jump))).heap[w.heap.size + 1]? = some (.loop (rc (if jump.isNone then .ready else .done) jump)) ∧
        (W3.putObj (w.heap.size + 1) (.loop (rc (if jump.isNone then .ready else .done) jump))).heap[w.heap.size]? = some (.deferred (some [])) := fun jump W3 h3 => by
      have hl3 := h3.same _ _ hl2 (by rw [hbz]; rfl)
      have he := run_endRound (P := P) jump (by rw [hbz] at hl3; exact hl3)
      rw [hrc] at he ⊢
      exact ⟨he, hl3, World.putObj_heap_same (Array.getElem?_eq_some_iff.1 hl3).1, (World.putObj_heap_other (by omega)).trans (h3.same _ _ hk2 rfl)⟩
    have hbc : bz.isCells = false := by rw [hbz]; rfl
    have hbw : bz.isWalk = false := by rw [hbz]; rfl
    have leave : ∀ (c : Code) (W3 : World), KeepsOthers (W.putObj (w.heap.size + 1) bz) W3 → Kp (W.putObj (w.heap.size + 1) bz) W3 → Ix c (pre ++ [x]) W3 → ∃ v w', (Instr.endRound (w.heap.size + 1) (some c)).run P W3 = .ok v w' ∧
        ((Ending.returned v = .returned (.bool true) ∧ (I (pre ++ [x]) w' ∧ w'.heap[w.heap.size + 1]? = some (.loop (rc .ready none)) ∧ w'.heap[w.heap.size]? = some (.deferred (some []))) ∧ Kp W w') ∨
          (Ending.returned v = .returned (.bool false) ∧ (∃ c, Ix c (pre ++ [x]) w' ∧ w'.heap[w.heap.size + 1]? = some (.loop (rc .done (some c))) ∧ w'.heap[w.heap.size]? = some (.deferred (some []))) ∧ Kp W w')) := fun c W3 h3 hk3 hi3 => by
      obtain ⟨hr, hl3, hl4, hk4⟩ := out (some c) W3 h3
      exact ⟨_, _, hr, .inr ⟨rfl, ⟨c, (hIx _).putObj _ hi3 (by omega) hl3 hbc, hl4, hk4⟩, hKt (hKt hw2 hk3) (hKb _ _ _ _ (by omega) hl3 hbc hbw)⟩⟩
    rintro e a3 W3 hp
    cases e with
    | normal =>
      obtain ⟨h3, hk3, hi3⟩ := hp
      obtain ⟨hr, hl3, hl4, hk4⟩ := out none W3 h3
      exact ⟨_, _, hr, .inl ⟨rfl, ⟨hI.putObj _ hi3 (by omega) hl3 hbc, hl4, hk4⟩, hKt (hKt hw2 hk3) (hKb _ _ _ _ (by omega) hl3 hbc hbw)⟩⟩
    | ret => exact leave .ret W3 hp.1 hp.2.1 hp.2.2
    | exit id => exact leave (.exit id) W3 hp.1 hp.2.1 hp.2.2
    | goto t => exact leave (.goto t) W3 hp.1 hp.2.1 hp.2.2
    | panic ch => exact hp.elim
    | outgrown => exact hp.elim
  case fin =>
    rintro e W2 ⟨⟨v, rfl⟩, (⟨xs, hSx, hi, hl, hk⟩ | ⟨pre, hSx, c, hi, hl, hk⟩)⟩
    · exact ⟨none, _, by have := run_endLoop (P := P) hl (by rw [hrc]; simp [rec']); rw [hrc] at this; exact this,
        hdone _ xs _ (Nat.le_refl _) (hS.putObj _ hSx (by omega) hl rfl) (hI.putObj _ hi (by omega) hl rfl) ((World.putObj_heap_other (by omega)).trans hk)⟩
    · exact ⟨some c, _, by have := run_endLoop (P := P) hl (by rw [hrc]; simp [rec']); rw [hrc] at this; exact this,
        hstop _ c pre _ (Nat.le_refl _) (hSp.putObj _ hSx (by omega) hl rfl) ((hIx c).putObj _ hi (by omega) hl rfl) ((World.putObj_heap_other (by omega)).trans hk)⟩
end Go.Proofs.YtopigejgadnkaaaGreatDoor
