/- Whole numbers, walked: Add. -/
import Derived.Test.YtacjfpibilolnaaGreatDoorSA03
import Derived.Test.YtacjfpibilolnaaGreatDoorSA02
import Derived.WalkMore
import Derived.Test.YtacjfpibilolnaaGreatDoorSA01
import Derived.RangeFuncNested
import Derived.Laws.EntriesVeiled
import Derived.WalkSmall
import Derived.Laws.BitsAllLaws
import Derived.Stop.RegionWithIn
set_option linter.unusedVariables false
set_option linter.unusedSimpArgs false
namespace Go.Proofs.YtacjfpibilolnaaGreatDoor
open Go.RowKit Go.Shelf
attribute [local go_sem] max2_i min2_i max_two min_two

theorem BoxA.other2 {W : World} {j k : Nat} {t : TypeId} {us : Array Value} {v0 v1 : Value} (h : BoxA W j t us) (hne : j ≠ k) : BoxA ((W.setCell ⟨k, 0, none⟩ v0).setCell ⟨k, 1, none⟩ v1) j t us := ⟨(set2_far j hne).trans h.at_⟩
theorem BoxA.other3 {W : World} {j k : Nat} {t : TypeId} {us : Array Value} {v0 v1 v2 : Value} (h : BoxA W j t us) (hne : j ≠ k) : BoxA (((W.setCell ⟨k, 0, none⟩ v0).setCell ⟨k, 1, none⟩ v1).setCell ⟨k, 2, none⟩ v2) j t us := ⟨(set3_far j hne).trans h.at_⟩
theorem ival_add {a b : Int} (h : sg a = sg b) : ival (sg a) (mg a + mg b) = a + b := by
  unfold sg at h; unfold ival sg mg
  simp only [decide_eq_decide] at h
  by_cases ha : a < 0
  · have := h.1 ha; simp [ha]; omega
  · have : ¬ b < 0 := fun e => ha (h.2 e); simp [ha]; omega
theorem ival_sub {a b : Int} (h : sg a ≠ sg b) (hl : mg b ≤ mg a) : ival (sg a) (mg a - mg b) = a + b := by
  unfold sg at h; unfold mg at hl; unfold ival sg mg
  by_cases ha : a < 0
  · have : ¬ b < 0 := fun e => h (by simp [ha, e]); simp [ha]; omega
  · have : b < 0 := Decidable.byContradiction fun e => h (by simp [ha, e]); simp [ha]; omega
set_option maxRecDepth 100000 in
set_option maxHeartbeats 4000000 in
theorem iadd_same (aA : Option Addr) (ac : Nat) (a : Int) (bA : Option Addr) (bc : Nat) (b : Int) (w : World) (ha : NatV w aA ac (mg a)) (hb : NatV w bA bc (mg b)) (la : nl (mg a) ≤ 1048576) (lb : nl (mg b) ≤ 1048576) (hs : sg a = sg b) :
    Calls Tryz.prog 91 #[.agg #[.bool (sg a), .slice aA (nl (mg a)) ac], .agg #[.bool (sg b), .slice bA (nl (mg b)) bc]] w (RetI w (a + b)) := by
  have t1 : (sg a == sg b) = true := beq_iff_eq.mpr hs
  have hv := ival_add hs
  replace hv := Lib.hid hv
  replace hs := Lib.hid hs
  have hb1 : Below (w).heap.size (w) (((w.alloc (.cells #[.bool (sg a), .slice aA (nl (mg a)) ac] 24)).alloc (.cells #[.bool (sg b), .slice bA (nl (mg b)) bc] 24)).alloc (.cells #[.bool false, .slice none 0 0] 24)) := (Below.alloc (Below.alloc (Below.alloc (Below.refl _ _) (Nat.le_refl _) _) (by simp <;> omega) _) (by simp <;> omega) _)
  replace ha := ha.below hb1
  replace hb := hb.below hb1
  have HBT := hb1
  clear hb1
  have Ra : BoxA (((w.alloc (.cells #[.bool (sg a), .slice aA (nl (mg a)) ac] 24)).alloc (.cells #[.bool (sg b), .slice bA (nl (mg b)) bc] 24)).alloc (.cells #[.bool false, .slice none 0 0] 24)) w.heap.size 24 #[.bool (sg a), .slice aA (nl (mg a)) ac] := ⟨by repeat (first | exact at_new (by simp) | refine at_old (by simp <;> omega) ?_)⟩
  have qa0 := Ra.c (i := 0) rfl
  have qa1 := Ra.c (i := 1) rfl
  have Rb : BoxA (((w.alloc (.cells #[.bool (sg a), .slice aA (nl (mg a)) ac] 24)).alloc (.cells #[.bool (sg b), .slice bA (nl (mg b)) bc] 24)).alloc (.cells #[.bool false, .slice none 0 0] 24)) (w.heap.size + 1) 24 #[.bool (sg b), .slice bA (nl (mg b)) bc] := ⟨by repeat (first | exact at_new (by simp) | refine at_old (by simp <;> omega) ?_)⟩
  have qb0 := Rb.c (i := 0) rfl
  have qb1 := Rb.c (i := 1) rfl
  have Rr : BoxA (((w.alloc (.cells #[.bool (sg a), .slice aA (nl (mg a)) ac] 24)).alloc (.cells #[.bool (sg b), .slice bA (nl (mg b)) bc] 24)).alloc (.cells #[.bool false, .slice none 0 0] 24)) (w.heap.size + 2) 24 #[.bool false, .slice none 0 0] := ⟨by repeat (first | exact at_new (by simp) | refine at_old (by simp <;> omega) ?_)⟩
  have qr0 := Rr.c (i := 0) rfl
  have qr1 := Rr.c (i := 1) rfl
  go_enter Tryz.func91, Tryz.ntmps91
  go_wp2_with (fail)
  have hd2 : Below ((((w.alloc (.cells #[.bool (sg a), .slice aA (nl (mg a)) ac] 24)).alloc (.cells #[.bool (sg b), .slice bA (nl (mg b)) bc] 24)).alloc (.cells #[.bool false, .slice none 0 0] 24))).heap.size (((w.alloc (.cells #[.bool (sg a), .slice aA (nl (mg a)) ac] 24)).alloc (.cells #[.bool (sg b), .slice bA (nl (mg b)) bc] 24)).alloc (.cells #[.bool false, .slice none 0 0] 24)) ((((w.alloc (.cells #[.bool (sg a), .slice aA (nl (mg a)) ac] 24)).alloc (.cells #[.bool (sg b), .slice bA (nl (mg b)) bc] 24)).alloc (.cells #[.bool false, .slice none 0 0] 24))).drew := (Below.refl _ _).drew
  replace ha := ha.below hd2
  replace hb := hb.below hd2
  replace Ra := Ra.below hd2
  replace qa0 := cell_below hd2 qa0
  replace qa1 := cell_below hd2 qa1
  replace Rb := Rb.below hd2
  replace qb0 := cell_below hd2 qb0
  replace qb1 := cell_below hd2 qb1
  replace Rr := Rr.below hd2
  replace qr0 := cell_below hd2 qr0
  replace qr1 := cell_below hd2 qr1
  replace HBT := Below.cons HBT hd2
  clear hd2
  obtain ⟨n, En⟩ : ∃ zq : Nat, zq = mg a + mg b := ⟨_, rfl⟩
  have Bn : nl n ≤ 2097154 := by rw [En]; have := nl_add (mg a) (mg b); omega
  have C2_0 := fun (W : World) (h1 : NatV W aA ac (mg a)) (h2 : NatV W bA bc (mg b)) => add_c aA ac (mg a) bA bc (mg b) W h1 h2 (by omega) (by omega)
  simp only [← En] at C2_0
  replace En := Lib.hid En
  replace C2_0 := Lib.hid C2_0
  obtain ⟨z, Ez⟩ : ∃ zq : Int, zq = ival (sg a) n := ⟨_, rfl⟩
  have C2_1 := fun (W : World) (A : Option Addr) (c : Nat) (h1 : NatV W A c n) => imake_c (sg a) A c n W h1 (by omega)
  simp only [← Ez] at C2_1
  replace Ez := Lib.hid Ez
  replace C2_1 := Lib.hid C2_1
  go_region_held3 (fun W => W.cell? ⟨w.heap.size, 0, none⟩ = some (.bool (sg a)) ∧ W.cell? ⟨w.heap.size, 1, none⟩ = some (.slice aA (nl (mg a)) ac) ∧ W.cell? ⟨(w.heap.size + 1), 1, none⟩ = some (.slice bA (nl (mg b)) bc))
    (first
      | exact ⟨qa0, qa1, qb1⟩
      | exact ⟨qa0_3, qa1_3, qb1_3⟩
      | exact ⟨qa0_4, qa1_4, qb1_4⟩
      | exact ⟨((Ra_4.other2 (by simp <;> omega)).c (i := 0) rfl), ((Ra_4.other2 (by simp <;> omega)).c (i := 1) rfl), ((Rb_4.other2 (by simp <;> omega)).c (i := 1) rfl)⟩
      | go_keep)
    (first
      | (go_at_call 107; (with_reducible refine (C2_0.out _ ha hb).mono ?_); rintro e W3 ⟨Xn, cn, rfl, hn, hb3⟩; have ha_3 := ha.below hb3; have hb_3 := hb.below hb3; have Ra_3 := Ra.below hb3; have qa0_3 := cell_below hb3 qa0; have qa1_3 := cell_below hb3 qa1; have Rb_3 := Rb.below hb3; have qb0_3 := cell_below hb3 qb0; have qb1_3 := cell_below hb3 qb1; have Rr_3 := Rr.below hb3; have qr0_3 := cell_below hb3 qr0; have qr1_3 := cell_below hb3 qr1; have HBT_3 := Below.cons HBT hb3)
      | (go_at_call 64; (with_reducible refine (C2_1.out _ _ _ hn).mono ?_); rintro e W4 ⟨Xz, cz, rfl, hz, hb4⟩; have ha_4 := ha_3.below hb4; have hb_4 := hb_3.below hb4; have Ra_4 := Ra_3.below hb4; have qa0_4 := cell_below hb4 qa0_3; have qa1_4 := cell_below hb4 qa1_3; have Rb_4 := Rb_3.below hb4; have qb0_4 := cell_below hb4 qb0_3; have qb1_4 := cell_below hb4 qb1_3; have Rr_4 := Rr_3.below hb4; have qr0_4 := cell_below hb4 qr0_3; have qr1_4 := cell_below hb4 qr1_3; have hn_4 := hn.below hb4; have HBT_4 := Below.cons HBT_3 hb4; have fz0 := Rr_4.f (i := 0); have fz1 := Rr_4.f (i := 1)))
  all_goals (try go_wp2_with (fail))
  have hz : z = a + b := by rw [Ez.out, En.out]; exact hv.out
  subst hz
  have RS := Rr_4.store2 (.bool (sg ((a + b)))) (.slice Xz (nl (mg ((a + b)))) cz)
  have e0 := RS.c (i := 0) rfl
  have e1 := RS.c (i := 1) rfl
  refine bodyPost_ret (v := .agg #[.bool (sg ((a + b))), .slice Xz (nl (mg ((a + b)))) cz]) (by simp [results, Tryz.results91, go_sem, e0, e1]) rfl ?_
  exact ⟨Xz, cz, rfl, (Rr_4.keep2 (by intro u hu; simp at hu; rcases hu with rfl | rfl <;> first | exact notU_bool _ | exact notU_slice _ _ _ | exact notU_i64 _) hz), (Below.store2 HBT_4 (by first | exact Nat.le_refl _ | omega))⟩
set_option maxRecDepth 100000 in
set_option maxHeartbeats 4000000 in
theorem iadd_apart (aA : Option Addr) (ac : Nat) (a : Int) (bA : Option Addr) (bc : Nat) (b : Int) (w : World) (ha : NatV w aA ac (mg a)) (hb : NatV w bA bc (mg b)) (la : nl (mg a) ≤ 1048576) (lb : nl (mg b) ≤ 1048576) (hs : sg a ≠ sg b) :
    Calls Tryz.prog 91 #[.agg #[.bool (sg a), .slice aA (nl (mg a)) ac], .agg #[.bool (sg b), .slice bA (nl (mg b)) bc]] w (RetI w (a + b)) := by
  have t1 : (sg a == sg b) = false := beq_eq_false_iff_ne.mpr hs
  have hb1 : Below (w).heap.size (w) (((w.alloc (.cells #[.bool (sg a), .slice aA (nl (mg a)) ac] 24)).alloc (.cells #[.bool (sg b), .slice bA (nl (mg b)) bc] 24)).alloc (.cells #[.bool false, .slice none 0 0] 24)) := (Below.alloc (Below.alloc (Below.alloc (Below.refl _ _) (Nat.le_refl _) _) (by simp <;> omega) _) (by simp <;> omega) _)
  replace ha := ha.below hb1
  replace hb := hb.below hb1
  have HBT := hb1
  clear hb1
  have Ra : BoxA (((w.alloc (.cells #[.bool (sg a), .slice aA (nl (mg a)) ac] 24)).alloc (.cells #[.bool (sg b), .slice bA (nl (mg b)) bc] 24)).alloc (.cells #[.bool false, .slice none 0 0] 24)) w.heap.size 24 #[.bool (sg a), .slice aA (nl (mg a)) ac] := ⟨by repeat (first | exact at_new (by simp) | refine at_old (by simp <;> omega) ?_)⟩
  have qa0 := Ra.c (i := 0) rfl
  have qa1 := Ra.c (i := 1) rfl
  have Rb : BoxA (((w.alloc (.cells #[.bool (sg a), .slice aA (nl (mg a)) ac] 24)).alloc (.cells #[.bool (sg b), .slice bA (nl (mg b)) bc] 24)).alloc (.cells #[.bool false, .slice none 0 0] 24)) (w.heap.size + 1) 24 #[.bool (sg b), .slice bA (nl (mg b)) bc] := ⟨by repeat (first | exact at_new (by simp) | refine at_old (by simp <;> omega) ?_)⟩
  have qb0 := Rb.c (i := 0) rfl
  have qb1 := Rb.c (i := 1) rfl
  have Rr : BoxA (((w.alloc (.cells #[.bool (sg a), .slice aA (nl (mg a)) ac] 24)).alloc (.cells #[.bool (sg b), .slice bA (nl (mg b)) bc] 24)).alloc (.cells #[.bool false, .slice none 0 0] 24)) (w.heap.size + 2) 24 #[.bool false, .slice none 0 0] := ⟨by repeat (first | exact at_new (by simp) | refine at_old (by simp <;> omega) ?_)⟩
  have qr0 := Rr.c (i := 0) rfl
  have qr1 := Rr.c (i := 1) rfl
  go_enter Tryz.func91, Tryz.ntmps91
  go_wp2_with (fail)
  refine (Calls.mono (cmp_c aA ac (mg a) bA bc (mg b) _ ha hb (by omega) (by omega)) ?_)
  rintro e W2 ⟨rfl, hb2⟩
  replace ha := ha.below hb2
  replace hb := hb.below hb2
  replace Ra := Ra.below hb2
  replace qa0 := cell_below hb2 qa0
  replace qa1 := cell_below hb2 qa1
  replace Rb := Rb.below hb2
  replace qb0 := cell_below hb2 qb0
  replace qb1 := cell_below hb2 qb1
  replace Rr := Rr.below hb2
  replace qr0 := cell_below hb2 qr0
  replace qr1 := cell_below hb2 qr1
  replace HBT := Below.cons HBT hb2
  clear hb2
  by_cases hl : mg a < mg b
  · have t2 : decide (cmpN (mg a) (mg b) < 0) = true := by rw [decide_eq_true_eq, cmpN_neg]; exact hl
    have hle : mg a ≤ mg b := Nat.le_of_lt hl
    have hv := ival_sub (fun e => hs e.symm) hle
    replace hv := Lib.hid hv
    replace hl := Lib.hid hl
    have fa0_3 := Ra.f (i := 0)
    have fa1_3 := Ra.f (i := 1)
    have Ra_3 := Ra.store2 (.bool (sg b)) (.slice bA (nl (mg b)) bc)
    have Rb_3 : BoxA ((W2.setCell ⟨w.heap.size, 0, none⟩ (.bool (sg b))).setCell ⟨w.heap.size, 1, none⟩ (.slice bA (nl (mg b)) bc)) _ _ _ := Rb.other2 (by simp <;> omega)
    have Rr_3 : BoxA ((W2.setCell ⟨w.heap.size, 0, none⟩ (.bool (sg b))).setCell ⟨w.heap.size, 1, none⟩ (.slice bA (nl (mg b)) bc)) _ _ _ := Rr.other2 (by simp <;> omega)
    have ha_3 := Ra.keep2 (v0 := .bool (sg b)) (v1 := .slice bA (nl (mg b)) bc) (by intro u hu; simp at hu; rcases hu with rfl | rfl <;> first | exact notU_bool _ | exact notU_slice _ _ _ | exact notU_i64 _) ha
    have hb_3 := Ra.keep2 (v0 := .bool (sg b)) (v1 := .slice bA (nl (mg b)) bc) (by intro u hu; simp at hu; rcases hu with rfl | rfl <;> first | exact notU_bool _ | exact notU_slice _ _ _ | exact notU_i64 _) hb
    have qa0_3 := Ra_3.c (i := 0) rfl
    have qa1_3 := Ra_3.c (i := 1) rfl
    have qb0_3 := Rb_3.c (i := 0) rfl
    have qb1_3 := Rb_3.c (i := 1) rfl
    have qr0_3 := Rr_3.c (i := 0) rfl
    have qr1_3 := Rr_3.c (i := 1) rfl
    have HBT_3 := Below.store2 (v0 := .bool (sg b)) (v1 := .slice bA (nl (mg b)) bc) HBT (k := w.heap.size) (by first | exact Nat.le_refl _ | omega)
    have fb0_4 := Rb_3.f (i := 0)
    have fb1_4 := Rb_3.f (i := 1)
    have Ra_4 : BoxA ((((W2.setCell ⟨w.heap.size, 0, none⟩ (.bool (sg b))).setCell ⟨w.heap.size, 1, none⟩ (.slice bA (nl (mg b)) bc)).setCell ⟨(w.heap.size + 1), 0, none⟩ (.bool (sg a))).setCell ⟨(w.heap.size + 1), 1, none⟩ (.slice aA (nl (mg a)) ac)) _ _ _ := Ra_3.other2 (by simp <;> omega)
    have Rb_4 := Rb_3.store2 (.bool (sg a)) (.slice aA (nl (mg a)) ac)
    have Rr_4 : BoxA ((((W2.setCell ⟨w.heap.size, 0, none⟩ (.bool (sg b))).setCell ⟨w.heap.size, 1, none⟩ (.slice bA (nl (mg b)) bc)).setCell ⟨(w.heap.size + 1), 0, none⟩ (.bool (sg a))).setCell ⟨(w.heap.size + 1), 1, none⟩ (.slice aA (nl (mg a)) ac)) _ _ _ := Rr_3.other2 (by simp <;> omega)
    have ha_4 := Rb_3.keep2 (v0 := .bool (sg a)) (v1 := .slice aA (nl (mg a)) ac) (by intro u hu; simp at hu; rcases hu with rfl | rfl <;> first | exact notU_bool _ | exact notU_slice _ _ _ | exact notU_i64 _) ha_3
    have hb_4 := Rb_3.keep2 (v0 := .bool (sg a)) (v1 := .slice aA (nl (mg a)) ac) (by intro u hu; simp at hu; rcases hu with rfl | rfl <;> first | exact notU_bool _ | exact notU_slice _ _ _ | exact notU_i64 _) hb_3
    have qa0_4 := Ra_4.c (i := 0) rfl
    have qa1_4 := Ra_4.c (i := 1) rfl
    have qb0_4 := Rb_4.c (i := 0) rfl
    have qb1_4 := Rb_4.c (i := 1) rfl
    have qr0_4 := Rr_4.c (i := 0) rfl
    have qr1_4 := Rr_4.c (i := 1) rfl
    have HBT_4 := Below.store2 (v0 := .bool (sg a)) (v1 := .slice aA (nl (mg a)) ac) HBT_3 (k := (w.heap.size + 1)) (by first | exact Nat.le_refl _ | omega)
    go_wp2_with (fail)
    clear fa0_3 fa1_3 Ra Rb Rr ha hb qa0 qa1 qb0 qb1 qr0 qr1 HBT fb0_4 fb1_4 Ra_3 Rb_3 Rr_3 ha_3 hb_3 qa0_3 qa1_3 qb0_3 qb1_3 qr0_3 qr1_3 HBT_3
    obtain ⟨n, En⟩ : ∃ zq : Nat, zq = mg b - mg a := ⟨_, rfl⟩
    have Bn : nl n ≤ 1048576 := by rw [En]; have := nl_sub (mg b) (mg a); omega
    have CS := sub_c bA bc (mg b) aA ac (mg a) _ hb_4 ha_4 (by omega) (by omega) hle
    rw [← En] at CS
    replace En := Lib.hid En
    refine (Calls.mono CS ?_)
    rintro e W5 ⟨Xn, cn, rfl, hn, hb5⟩
    clear CS
    replace Ra_4 := Ra_4.below hb5
    replace Rb_4 := Rb_4.below hb5
    replace Rr_4 := Rr_4.below hb5
    replace ha_4 := ha_4.below hb5
    replace hb_4 := hb_4.below hb5
    replace qa0_4 := cell_below hb5 qa0_4
    replace qa1_4 := cell_below hb5 qa1_4
    replace qb0_4 := cell_below hb5 qb0_4
    replace qb1_4 := cell_below hb5 qb1_4
    replace qr0_4 := cell_below hb5 qr0_4
    replace qr1_4 := cell_below hb5 qr1_4
    have HBT := Below.cons HBT_4 hb5
    clear hb5
    go_wp2_with (fail)
    obtain ⟨z, Ez⟩ : ∃ zq : Int, zq = ival (sg b) n := ⟨_, rfl⟩
    refine (Calls.mono (R := RetI W5 z) (by rw [Ez]; exact (imake_c (sg b) Xn cn n _ hn (by omega))) ?_)
    replace Ez := Lib.hid Ez
    rintro e W6 ⟨Xz, cz, rfl, hz, hb6⟩
    replace Ra_4 := Ra_4.below hb6
    replace Rb_4 := Rb_4.below hb6
    replace Rr_4 := Rr_4.below hb6
    replace ha_4 := ha_4.below hb6
    replace hb_4 := hb_4.below hb6
    replace qa0_4 := cell_below hb6 qa0_4
    replace qa1_4 := cell_below hb6 qa1_4
    replace qb0_4 := cell_below hb6 qb0_4
    replace qb1_4 := cell_below hb6 qb1_4
    replace qr0_4 := cell_below hb6 qr0_4
    replace qr1_4 := cell_below hb6 qr1_4
    replace hn := hn.below hb6
    replace HBT := Below.cons HBT hb6
    clear hb6
    have fz0 := Rr_4.f (i := 0)
    have fz1 := Rr_4.f (i := 1)
    go_wp2_with (fail)
    have hz : z = a + b := by rw [Ez.out, En.out]; exact hv.out.trans (Int.add_comm b a)
    subst hz
    have RS := Rr_4.store2 (.bool (sg ((a + b)))) (.slice Xz (nl (mg ((a + b)))) cz)
    have e0 := RS.c (i := 0) rfl
    have e1 := RS.c (i := 1) rfl
    refine bodyPost_ret (v := .agg #[.bool (sg ((a + b))), .slice Xz (nl (mg ((a + b)))) cz]) (by simp [results, Tryz.results91, go_sem, e0, e1]) rfl ?_
    exact ⟨Xz, cz, rfl, (Rr_4.keep2 (by intro u hu; simp at hu; rcases hu with rfl | rfl <;> first | exact notU_bool _ | exact notU_slice _ _ _ | exact notU_i64 _) hz), (Below.store2 HBT (by first | exact Nat.le_refl _ | omega))⟩
  · have t2 : decide (cmpN (mg a) (mg b) < 0) = false := by rw [decide_eq_false_iff_not, cmpN_neg]; exact hl
    have hle : mg b ≤ mg a := by omega
    have hv := ival_sub hs hle
    replace hv := Lib.hid hv
    replace hl := Lib.hid hl
    go_wp2_with (fail)
    obtain ⟨n, En⟩ : ∃ zq : Nat, zq = mg a - mg b := ⟨_, rfl⟩
    have Bn : nl n ≤ 1048576 := by rw [En]; have := nl_sub (mg a) (mg b); omega
    have CS := sub_c aA ac (mg a) bA bc (mg b) _ ha hb (by omega) (by omega) hle
    rw [← En] at CS
    replace En := Lib.hid En
    refine (Calls.mono CS ?_)
    rintro e W3 ⟨Xn, cn, rfl, hn, hb3⟩
    clear CS
    replace ha := ha.below hb3
    replace hb := hb.below hb3
    replace Ra := Ra.below hb3
    replace qa0 := cell_below hb3 qa0
    replace qa1 := cell_below hb3 qa1
    replace Rb := Rb.below hb3
    replace qb0 := cell_below hb3 qb0
    replace qb1 := cell_below hb3 qb1
    replace Rr := Rr.below hb3
    replace qr0 := cell_below hb3 qr0
    replace qr1 := cell_below hb3 qr1
    replace HBT := Below.cons HBT hb3
    clear hb3
    go_wp2_with (fail)
    obtain ⟨z, Ez⟩ : ∃ zq : Int, zq = ival (sg a) n := ⟨_, rfl⟩
    refine (Calls.mono (R := RetI W3 z) (by rw [Ez]; exact (imake_c (sg a) Xn cn n _ hn (by omega))) ?_)
    replace Ez := Lib.hid Ez
    rintro e W4 ⟨Xz, cz, rfl, hz, hb4⟩
    replace ha := ha.below hb4
    replace hb := hb.below hb4
    replace Ra := Ra.below hb4
    replace qa0 := cell_below hb4 qa0
    replace qa1 := cell_below hb4 qa1
    replace Rb := Rb.below hb4
    replace qb0 := cell_below hb4 qb0
    replace qb1 := cell_below hb4 qb1
    replace Rr := Rr.below hb4
    replace qr0 := cell_below hb4 qr0
    replace qr1 := cell_below hb4 qr1
    replace hn := hn.below hb4
    replace HBT := Below.cons HBT hb4
    clear hb4
    have fz0 := Rr.f (i := 0)
    have fz1 := Rr.f (i := 1)
    go_wp2_with (fail)
    have hz : z = a + b := by rw [Ez.out, En.out]; exact hv.out
    subst hz
    have RS := Rr.store2 (.bool (sg ((a + b)))) (.slice Xz (nl (mg ((a + b)))) cz)
    have e0 := RS.c (i := 0) rfl
    have e1 := RS.c (i := 1) rfl
    refine bodyPost_ret (v := .agg #[.bool (sg ((a + b))), .slice Xz (nl (mg ((a + b)))) cz]) (by simp [results, Tryz.results91, go_sem, e0, e1]) rfl ?_
    exact ⟨Xz, cz, rfl, (Rr.keep2 (by intro u hu; simp at hu; rcases hu with rfl | rfl <;> first | exact notU_bool _ | exact notU_slice _ _ _ | exact notU_i64 _) hz), (Below.store2 HBT (by first | exact Nat.le_refl _ | omega))⟩
theorem iadd_c (aA : Option Addr) (ac : Nat) (a : Int) (bA : Option Addr) (bc : Nat) (b : Int) (w : World) (ha : NatV w aA ac (mg a)) (hb : NatV w bA bc (mg b)) (la : nl (mg a) ≤ 1048576) (lb : nl (mg b) ≤ 1048576) :
    Calls Tryz.prog 91 #[.agg #[.bool (sg a), .slice aA (nl (mg a)) ac], .agg #[.bool (sg b), .slice bA (nl (mg b)) bc]] w (RetI w (a + b)) := by
  by_cases h : sg a = sg b
  · exact iadd_same aA ac a bA bc b w ha hb la lb h
  · exact iadd_apart aA ac a bA bc b w ha hb la lb h
end Go.Proofs.YtacjfpibilolnaaGreatDoor

/- A third of a natural; its values at points; a natural cut into thirds. -/
set_option linter.unusedVariables false
set_option linter.unusedSimpArgs false
namespace Go.Proofs.YtacjfpibilolnaaGreatDoor
open Go.RowKit Go.Shelf
attribute [local go_sem] max2_i min2_i max_two min_two

theorem or64 (r x : Nat) (hr : r < 4294967296) (hx : x < 4294967296) : bits .or .u64 ((r : Int) * 4294967296) (x : Int) = ((r * 4294967296 + x : Nat) : Int) := by
  have e : ((r : Int) * 4294967296) = ((r * 4294967296 : Nat) : Int) := by simp
  rw [e, u64_or_nat _ _ (by omega) (by omega)]
  congr 1
  rw [Nat.mul_comm, show 4294967296 = 2 ^ 32 from rfl, ← Nat.two_pow_add_eq_or_of_lt (i := 32) (by omega)]





/-- Limbs that are read lie in no block that holds slices: they are there when that one is written. -/
theorem Rd.apart {W W' : World} {A : Option Addr} {l : List Nat} {s : Nat} (h : Rd W A l) (hp : ∀ q : Addr, q.block = s → ∀ x : Nat, W.cell? q ≠ some (.int .u32 (x : Nat))) (hk : ∀ k, k ≠ s → W'.heap[k]? = W.heap[k]?) : Rd W' A l := by
  rcases h with h | ⟨ad, rfl, h⟩
  · exact .inl h
  · refine .inr ⟨ad, rfl, fun i u hu => ?_⟩
    have h1 := h i u hu
    obtain ⟨hi, hu2⟩ := List.getElem?_eq_some_iff.1 hu
    have hil : i < l.length := by simpa [vals] using hi
    rw [vals_get l i hil] at hu
    cases hu
    have hne : (ad.add i).block ≠ s := fun e => hp _ e _ h1
    rw [World.cell?_of_block (w := W) (a := ad.add i) (hk _ hne)]
    exact h1
theorem NatV.apart {W W' : World} {A : Option Addr} {c n s : Nat} (h : NatV W A c n) (hp : ∀ q : Addr, q.block = s → ∀ x : Nat, W.cell? q ≠ some (.int .u32 (x : Nat))) (hk : ∀ k, k ≠ s → W'.heap[k]? = W.heap[k]?) : NatV W' A c n := ⟨h.rd.apart hp hk, h.cap, h.cmax⟩



end Go.Proofs.YtacjfpibilolnaaGreatDoor

/- Division by school, walked: a digit guessed. -/
set_option linter.unusedVariables false
set_option linter.unusedSimpArgs false
namespace Go.Proofs.YtacjfpibilolnaaGreatDoor
open Go.RowKit Go.Shelf
attribute [local go_sem] max2_i min2_i max_two min_two

set_option maxRecDepth 100000 in
set_option maxHeartbeats 2000000 in
theorem guess_c (x2 x1 x0 y1 y0 : Nat) (w : World) (h2 : x2 < 4294967296) (h1 : x1 < 4294967296) (h0 : x0 < 4294967296) (g1 : y1 < 4294967296) (g0 : y0 < 4294967296) (hy : 0 < y1) (hxy : x2 ≤ y1) :
    Calls Tryz.prog 143 #[.int .u32 x2, .int .u32 x1, .int .u32 x0, .int .u32 y1, .int .u32 y0] w fun e w' => e = .returned (.int .u64 (dig3 x2 x1 x0 y1 y0 : Nat)) ∧ Below w.heap.size w w' := by
  obtain ⟨t, ht⟩ : ∃ t, t = x2 * 4294967296 + x1 := ⟨_, rfl⟩
  have hor := or64 x2 x1 h2 h1
  rw [← ht] at hor
  have htl : t < 18446744073709551616 := by omega
  have h2I : (x2 : Int) < 4294967296 := by omega
  have h2J : (0 : Int) ≤ (x2 : Int) := by omega
  obtain ⟨q0, hq0⟩ : ∃ z, z = t / y1 := ⟨_, rfl⟩
  obtain ⟨r0, hr0⟩ : ∃ z, z = t % y1 := ⟨_, rfl⟩
  have hq0I : (t : Int) / (y1 : Int) = (q0 : Int) := by rw [hq0]; exact (Int.natCast_ediv t y1).symm
  have hr0I : (t : Int) % (y1 : Int) = (r0 : Int) := by rw [hr0]; exact (Int.natCast_emod t y1).symm
  have hq0T : (t : Int).tdiv (y1 : Int) = (q0 : Int) := by rw [Int.tdiv_eq_ediv_of_nonneg (by omega)]; exact hq0I
  have hr0T : (t : Int).tmod (y1 : Int) = (r0 : Int) := by rw [Int.tmod_eq_emod_of_nonneg (by omega)]; exact hr0I
  have hq0l : q0 < 18446744073709551616 := by rw [hq0]; exact Nat.lt_of_le_of_lt (Nat.div_le_self _ _) htl
  have hr0l : r0 < 4294967296 := by rw [hr0]; exact Nat.lt_trans (Nat.mod_lt _ hy) g1
  have hq0W : IntKind.u64.wrap (q0 : Int) = (q0 : Int) := IntWalk.u64_in _ (by omega)
  have hr0W : IntKind.u64.wrap (r0 : Int) = (r0 : Int) := IntWalk.u64_in _ (by omega)
  have htW : IntKind.u64.wrap (t : Int) = (t : Int) := IntWalk.u64_in _ (by omega)
  have hyW : IntKind.u64.wrap (y1 : Int) = (y1 : Int) := IntWalk.u64_in _ (by omega)
  have hz : ((y1 : Int) == 0) = false := ieqF (by omega)
  have hz2 : ¬ (y1 : Int) = 0 := by omega
  have hz3 : ¬ y1 = 0 := by omega
  obtain ⟨D, hD⟩ : ∃ D, D = dig3 x2 x1 x0 y1 y0 := ⟨_, rfl⟩
  have hstart : D ≤ q0 := by rw [hD, hq0, ht]; exact dig3_start hy h0
  have hinv : q0 * y1 + r0 = x2 * 4294967296 + x1 := by rw [hq0, hr0, ← ht, Nat.mul_comm]; exact Nat.div_add_mod t y1
  have hstep : ∀ q r, q * y1 + r = x2 * 4294967296 + x1 → D ≤ q → (4294967296 ≤ q ∨ r * 4294967296 + x0 < q * y0) → 1 ≤ q ∧ D ≤ q - 1 ∧ (q - 1) * y1 + (r + y1) = x2 * 4294967296 + x1 := fun q r a b c => by rw [hD] at b ⊢; exact dig3_step a b c hy
  have hdone : ∀ q r, q * y1 + r = x2 * 4294967296 + x1 → D ≤ q → q < 4294967296 → q * y0 ≤ r * 4294967296 + x0 → q = D := fun q r a b c d => by rw [hD] at b ⊢; exact dig3_done a b c d hy
  have hbrk : ∀ q r, q * y1 + r = x2 * 4294967296 + x1 → D ≤ q → 4294967296 ≤ r → q = D := fun q r a b c => by rw [hD] at b ⊢; exact dig3_brk a b c hxy h1 g0 hy
  rw [← hD]
  replace hstep := Lib.hid hstep
  replace hdone := Lib.hid hdone
  replace hbrk := Lib.hid hbrk
  replace hinv := Lib.hid hinv
  replace hstart := Lib.hid hstart
  replace hD := Lib.hid hD
  replace ht := Lib.hid ht
  replace hq0 := Lib.hid hq0
  replace hr0 := Lib.hid hr0
  go_enter Tryz.func143, Tryz.ntmps143
  go_wp2_with (fail)
  go_step3
  go_wp2_with (fail)
  go_quiet (fail)
  clear hq0I hr0I hq0T hr0T hq0W hr0W htW hyW hz hz2 hz3 hor
  go_wp2_with (fail)
  go_step3
  go_wp2_with (fail)
  go_loopw [12, 13] (fun vq vr wr => ∃ q r : Nat, vq = .int .u64 q ∧ vr = .int .u64 r ∧ r < 4294967296 ∧ q < 18446744073709551616 ∧ Hid (q * y1 + r = x2 * 4294967296 + x1) ∧ Hid (D ≤ q) ∧ Below w.heap.size w wr) (fun vq vr wr => (intOf vq).toNat)
  case atStart => exact ⟨q0, r0, rfl, rfl, hr0l, hq0l, hinv, hstart, (Below.refl _ _).drewN _⟩
  case round =>
    obtain ⟨q, r, rfl, rfl, hrl, hql, hi, hd, hbr⟩ := hrel
    obtain ⟨p, hp⟩ : ∃ p, p = q * y0 := ⟨_, rfl⟩
    have hpI : (q : Int) * (y0 : Int) = (p : Int) := by rw [hp]; exact (Int.natCast_mul q y0).symm
    have hor := or64 r x0 hrl h0
    obtain ⟨u, hu⟩ : ∃ u, u = r * 4294967296 + x0 := ⟨_, rfl⟩
    rw [← hu] at hor
    have hul : u < 18446744073709551616 := by omega
    obtain ⟨r', hr'⟩ : ∃ z, z = r + y1 := ⟨_, rfl⟩
    have hrI : (r : Int) + (y1 : Int) = (r' : Int) := by omega
    have hrl' : r' < 8589934592 := by omega
    have hrJ : (r : Int) < 4294967296 := by omega
    have hrS : IntKind.u64.wrap ((r : Int) * 4294967296) = (r : Int) * 4294967296 := IntWalk.u64_in _ (by omega)
    have hrK : (r : Int) ≤ 4294967295 := by omega
    by_cases hc : 4294967296 ≤ q ∨ u < p
    · obtain ⟨e1, e2, e3⟩ := hstep.out q r hi.out hd.out (by rw [← hu, ← hp]; exact hc)
      obtain ⟨q', hq'⟩ : ∃ z, z = q - 1 := ⟨_, rfl⟩
      have hqI : (q : Int) - 1 = (q' : Int) := by omega
      have hql' : q' < 18446744073709551616 := by omega
      have hqq : q' < q := by omega
      rw [← hq', ← hr'] at e3
      rw [← hq'] at e2
      have hb := hbrk.out q' r' e3 e2
      have qW : IntKind.u64.wrap (q' : Int) = (q' : Int) := IntWalk.u64_in _ (by omega)
      replace hql' := Lib.hid hql'
      replace hql := Lib.hid hql
      replace hul := Lib.hid hul
      replace hq0l := Lib.hid hq0l
      replace htl := Lib.hid htl
      replace e2 := Lib.hid e2
      replace e3 := Lib.hid e3
      replace hb := Lib.hid hb
      replace hu := Lib.hid hu
      replace hq' := Lib.hid hq'
      replace hr' := Lib.hid hr'
      by_cases hq4 : 4294967296 ≤ q
      · have d1 : decide ((4294967296 : Int) ≤ (q : Int)) = true := by simp; omega
        clear hpI hc
        replace hp := Lib.hid hp
        replace hq4 := Lib.hid hq4
        by_cases hr4 : 4294967296 ≤ r'
        · have d3 : decide ((4294967296 : Int) ≤ (r' : Int)) = true := by simp; omega
          replace hr4 := Lib.hid hr4
          go_wp2_with (fail)
          (try rw [Exit.noGoto_ret])
          go_ret
          exact ⟨by rw [hb.out hr4.out]; rfl, hbr⟩
        · have d3 : decide ((4294967296 : Int) ≤ (r' : Int)) = false := by simp; omega
          replace hr4 := Lib.hid hr4
          go_wp2_with (fail)
          go_roundw
          case rel => exact ⟨q', r', by first | rfl | trivial, by first | rfl | trivial, by have := hr4.out; omega, hql'.out, e3, e2, hbr⟩
          case measure => simp only [intOf]; omega
      · have hup : u < p := by omega
        have d1 : decide ((4294967296 : Int) ≤ (q : Int)) = false := by simp; omega
        have d2 : decide ((u : Int) < (p : Int)) = true := by simp; omega
        have d2n : decide (u < p) = true := by simp; omega
        have hpl : p ≤ 18446744065119617025 := by rw [hp]; exact mul_bd (by omega) g0
        have pM : IntKind.u64.wrap ((q : Int) * (y0 : Int)) = (p : Int) := by rw [hpI]; exact IntWalk.u64_in _ (by omega)
        have pW : IntKind.u64.wrap (p : Int) = (p : Int) := IntWalk.u64_in _ (by omega)
        clear hc
        have hpJ : (p : Int) ≤ 18446744073709551615 := by omega
        replace hpl := Lib.hid hpl
        replace hp := Lib.hid hp
        replace hup := Lib.hid hup
        replace hq4 := Lib.hid hq4
        by_cases hr4 : 4294967296 ≤ r'
        · have d3 : decide ((4294967296 : Int) ≤ (r' : Int)) = true := by simp; omega
          replace hr4 := Lib.hid hr4
          go_wp2_with (fail)
          (try rw [Exit.noGoto_ret])
          go_ret
          exact ⟨by rw [hb.out hr4.out]; rfl, hbr⟩
        · have d3 : decide ((4294967296 : Int) ≤ (r' : Int)) = false := by simp; omega
          replace hr4 := Lib.hid hr4
          go_wp2_with (fail)
          go_roundw
          case rel => exact ⟨q', r', by first | rfl | trivial, by first | rfl | trivial, by have := hr4.out; omega, hql'.out, e3, e2, hbr⟩
          case measure => simp only [intOf]; omega
    · have hq4 : q < 4294967296 := by omega
      have hup : ¬ u < p := by omega
      have hpl : p ≤ 18446744065119617025 := by rw [hp]; exact mul_bd hq4 g0
      have hfin := hdone.out q r hi.out hd.out hq4 (by rw [← hu, ← hp]; omega)
      have pM : IntKind.u64.wrap ((q : Int) * (y0 : Int)) = (p : Int) := by rw [hpI]; exact IntWalk.u64_in _ (by omega)
      have pW : IntKind.u64.wrap (p : Int) = (p : Int) := IntWalk.u64_in _ (by omega)
      have d1 : decide ((4294967296 : Int) ≤ (q : Int)) = false := by simp; omega
      have d2 : decide ((u : Int) < (p : Int)) = false := by simp; omega
      have d2n : decide (u < p) = false := by simp; omega
      clear hc
      replace hq4 := Lib.hid hq4
      replace hup := Lib.hid hup
      have hpJ : (p : Int) ≤ 18446744073709551615 := by omega
      replace hpl := Lib.hid hpl
      replace hql := Lib.hid hql
      replace hul := Lib.hid hul
      replace hq0l := Lib.hid hq0l
      replace htl := Lib.hid htl
      replace hfin := Lib.hid hfin
      replace hp := Lib.hid hp
      replace hu := Lib.hid hu
      clear hrI
      replace hr' := Lib.hid hr'
      go_wp2_with (fail)
      (try rw [Exit.noGoto_ret])
      go_ret
      exact ⟨by rw [hfin.out]; rfl, hbr⟩
end Go.Proofs.YtacjfpibilolnaaGreatDoor

/- Limbs from the last to the first: slices.Backward as a range-over-func; a division of two words by one. -/
set_option linter.unusedVariables false
set_option linter.unusedSimpArgs false
namespace Go.Proofs.YtacjfpibilolnaaGreatDoor
open Go.RowKit Go.Shelf

attribute [local go_sem] Oper.semAt_some

/-- So many places, from the last one down. -/
def upto (n : Nat) : Nat → List {x : Nat // x < n}
  | 0 => []
  | d + 1 => upto n d ++ (if h : n - 1 - d < n then [⟨n - 1 - d, h⟩] else [])
theorem upto_step {n k : Nat} (h : k < n) : upto n (n - (k + 1)) ++ [⟨k, h⟩] = upto n (n - k) := by
  obtain ⟨d, hd⟩ : ∃ d, d = n - (k + 1) := ⟨_, rfl⟩
  rw [show n - k = d + 1 by omega, ← hd]
  have e : n - 1 - d = k := by omega
  subst e
  rw [upto, dif_pos (by omega)]
theorem upto_len {n d : Nat} (h : d ≤ n) : (upto n d).length = d := by
  induction d with
  | zero => rfl
  | succ d ih => rw [upto, dif_pos (by omega), List.length_append, ih (by omega)]; rfl
set_option maxRecDepth 100000 in
set_option maxHeartbeats 1000000 in
theorem backward_c (A : Option Addr) (n c : Nat) (w : World) :
    Calls Tryz.prog 156 #[.slice A n c] w fun e w' =>
      e = .returned (.func (.func 167) #[] #[.pointer (some ⟨w.heap.size, 0, none⟩)]) ∧ w' = w.alloc (.cells #[.slice A n c] 22) := by
  go_enter Tryz.func156, Tryz.ntmps156
  go_wp2_with (fail)
  go_ret
  exact ⟨rfl, rfl⟩
set_option maxRecDepth 100000 in
set_option maxHeartbeats 2000000 in
theorem backward1_in (l Ba : Nat) (S : Nat → Prop) (A : Option Addr) (na ca : Nat) (a : List Nat)
    (hna : a.length = na) (hla : na ≤ 1099511627776)
    (hSa : S Ba) (hSA : ∀ ad i, A = some ad → i < a.length → S (ad.add i).block)
    (J Jx : List {x : Nat // x < na} → World → Prop) (hJd : ∀ pre W, J pre W → J pre W.drew)
    (hY : ∀ pre x W, J pre W → pre.length < na → YieldAt Fence.wide 2 Tryz.prog l #[.int .i64 (x.1 : Nat), .int .u32 (gl a x.1 : Nat)] W fun e W' =>
      (e = .returned (.bool true) ∧ J (pre ++ [x]) W' ∧ KeepC S W W') ∨ (e = .returned (.bool false) ∧ Jx (pre ++ [x]) W'))
    (W : World) (h1 : W.cell? ⟨Ba, 0, none⟩ = some (.slice A na ca)) (hA : Rd W A a) (h0 : J [] W) :
    CallsIn Fence.wide 3 Tryz.prog 167 #[.func (.yield l) #[] #[], .pointer (some ⟨Ba, 0, none⟩)] W fun e W' =>
      (∃ v, e = .returned v) ∧ ((∃ xs, xs = upto na na ∧ J xs W') ∨ (∃ pre, pre.length ≤ na ∧ Jx pre W')) := by
  refine callsIn_of_wp Tryz.func167 rfl trivial ?_ rfl
  simp only [Tryz.ntmps167, List.size_toArray, List.length_cons, List.length_nil, Nat.reduceAdd, Nat.reduceSub, Array.replicate_succ, Array.replicate_zero, List.push_toArray, List.append_toArray, List.nil_append, List.cons_append]
  have HY := Lib.hid hY
  clear hY
  gi_wp2_with (fail)
  gi_loopw [3] (fun i wr => ∃ k : Nat, i = .int .i64 ((k : Int) - 1) ∧ k ≤ na ∧ J (upto na (na - k)) wr ∧ KeepC S W wr) (fun i wr => (intOf i + 1).toNat)
  case atStart => exact ⟨na, rfl, Nat.le_refl _, by rw [Nat.sub_self]; exact h0, fun p v _ h => h⟩
  case round =>
    obtain ⟨k, rfl, hk, hJ, hK⟩ := hrel
    cases k with
    | zero =>
      gi_wp2_with (fail)
      refine bodyPost_end (results_none rfl _ _ _) rfl ?_
      exact ⟨⟨_, rfl⟩, .inl ⟨_, rfl, hJ⟩⟩
    | succ k =>
      rw [show (((k + 1 : Nat) : Int) - 1) = (k : Int) by omega]
      have hkna : k < na := by omega
      have g1 := hK _ _ hSa h1
      have HA : Rd wr A a := hK.rd hSA hA
      obtain ⟨ad, rfl, hc⟩ := HA.get k (by omega)
      obtain ⟨fn, tmps, assign, body, hy, hR⟩ := HY.out _ (⟨k, hkna⟩ : {x : Nat // x < na}) wr hJ (by rw [upto_len (by omega)]; omega)
      have HR := Lib.hid (hR.mono (R' := fun e W' => ∃ b, e = .returned (.bool b) ∧ Hid ((b = true ∧ J (upto na (na - (k + 1)) ++ [(⟨k, hkna⟩ : {x : Nat // x < na})]) W' ∧ KeepC S wr W') ∨ (b = false ∧ Jx (upto na (na - (k + 1)) ++ [(⟨k, hkna⟩ : {x : Nat // x < na})]) W'))) (by
        rintro e W' (⟨rfl, h⟩ | ⟨rfl, h⟩)
        · exact ⟨true, rfl, Lib.hid (.inl ⟨rfl, h⟩)⟩
        · exact ⟨false, rfl, Lib.hid (.inr ⟨rfl, h⟩)⟩))
      have HK := Lib.hid hK
      have hlen : (upto na (na - (k + 1)) ++ [(⟨k, hkna⟩ : {x : Nat // x < na})]).length ≤ na := by rw [upto_step hkna, upto_len (by omega)]; omega
      clear hA hK hR hSA hJ hJd HA
      gi_wp2_with (first | (refine (Hid.out HR).mono ?_; rintro e W' ⟨y, rfl, hy⟩))
      · cases y with
        | true => exact absurd ‹(!true) = true› (by decide)
        | false =>
          obtain ⟨h, _⟩ | ⟨_, hx⟩ := hy.out
          · cases h
          · refine bodyPost_ret (results_none rfl _ _ _) rfl ?_
            exact ⟨⟨_, rfl⟩, .inr ⟨_, hlen, hx⟩⟩
      · cases y with
        | true =>
          obtain ⟨_, hJ2, hK2⟩ | ⟨h, _⟩ := hy.out
          · go_roundw
            case rel => exact ⟨k, rfl, by omega, by rw [← upto_step hkna]; exact hJ2, HK.out.t hK2⟩
            case measure => simp only [intOf]; omega
          · cases h
        | false => first | exact absurd ‹(!false) = false› (by decide) | simp_all
theorem backward_stops (Ba : Nat) (S : Nat → Prop) (A : Option Addr) (na ca : Nat) (a : List Nat) (w : World)
    (hna : a.length = na) (hla : na ≤ 1099511627776) (hSa : S Ba) (hSA : ∀ ad i, A = some ad → i < a.length → S (ad.add i).block)
    (h1 : w.cell? ⟨Ba, 0, none⟩ = some (.slice A na ca)) (hA : Rd w A a) :
    SeqStopsK Fence.wide 3 Tryz.prog 167 #[.pointer (some ⟨Ba, 0, none⟩)]
      (fun x : {x : Nat // x < na} => #[.int .i64 (x.1 : Nat), .int .u32 (gl a x.1 : Nat)]) (KeepC S) (fun xs => xs = upto na na) (fun pre => pre.length ≤ na) na w := fun l J Jx W hW hJ _ hY h0 =>
  backward1_in l Ba S A na ca a hna hla hSa hSA J Jx (fun pre W h => hJ pre W W.drew none h ⟨rfl, rfl, rfl, Nat.le_refl _, fun _ _ _ => rfl⟩ (fun r e => by cases e))
    hY W (cell_below hW h1) (hA.below hW) h0
set_option maxRecDepth 100000 in
set_option maxHeartbeats 1000000 in
theorem div32_c (h x m : Nat) (w : World) (hh : h < m) (hx : x < 4294967296) (hm : m < 4294967296) :
    Calls Tryz.prog 157 #[.int .u32 h, .int .u32 x, .int .u32 m] w fun e w' =>
      e = .returned (.tuple #[.int .u32 (((h * 4294967296 + x) / m : Nat) : Int), .int .u32 (((h * 4294967296 + x) % m : Nat) : Int)]) ∧ ∃ k, w' = w.drewN k := by
  obtain ⟨t, ht⟩ : ∃ t, t = h * 4294967296 + x := ⟨_, rfl⟩
  have hor := or64 h x (by omega) hx
  rw [← ht] at hor ⊢
  have htl : t < 18446744073709551616 := by omega
  obtain ⟨q, hq⟩ : ∃ q, q = t / m := ⟨_, rfl⟩
  obtain ⟨r, hr⟩ : ∃ r, r = t % m := ⟨_, rfl⟩
  rw [← hq, ← hr]
  have hqI : (t : Int) / (m : Int) = (q : Int) := by rw [hq]; exact (Int.natCast_ediv t m).symm
  have hrI : (t : Int) % (m : Int) = (r : Int) := by rw [hr]; exact (Int.natCast_emod t m).symm
  have hrl : r < 4294967296 := by rw [hr]; exact Nat.lt_trans (Nat.mod_lt _ (by omega)) hm
  have hql : q < 4294967296 := by
    rw [hq, Nat.div_lt_iff_lt_mul (by omega), ht]
    have h1 : (h + 1) * 4294967296 ≤ m * 4294967296 := Nat.mul_le_mul_right _ (by omega)
    rw [Nat.mul_comm 4294967296 m]
    omega
  have hm0 : ¬ (m : Int) = 0 := by omega
  have hm0N : ¬ m = 0 := by omega
  have hmb : ((m : Int) == 0) = false := ieqF (by omega)
  have hmh : decide (m ≤ h) = false := by simp; omega
  have hmh2 : ¬ m ≤ h := by omega
  replace ht := Lib.hid ht
  replace hq := Lib.hid hq
  replace hr := Lib.hid hr
  go_enter Tryz.func157, Tryz.ntmps157
  go_wp2_with (fail)
  go_quiet (fail)
  go_wp2_with (fail)
  exact bodyPost_ret (v := .tuple #[.int .u32 (q : Nat), .int .u32 (r : Nat)]) (by simp [results, Tryz.results157, go_sem]) rfl ⟨rfl, _, rfl⟩
end Go.Proofs.YtacjfpibilolnaaGreatDoor

/- Division by a limb, walked: a range over slices.Backward. -/
set_option linter.unusedVariables false
set_option linter.unusedSimpArgs false
namespace Go.Proofs.YtacjfpibilolnaaGreatDoor
open Go.RowKit Go.Shelf

attribute [local go_sem] Oper.semAt_some

def runD (m n : Nat) (a : List Nat) (pre : List {x : Nat // x < n}) : List Nat × Nat :=
  pre.foldl (fun s x => (s.1.set x.1 ((s.2 * 4294967296 + gl a x.1) / m), (s.2 * 4294967296 + gl a x.1) % m)) (List.replicate n 0, 0)
theorem runD_snoc (m n : Nat) (a : List Nat) (pre : List {x : Nat // x < n}) (x : {x : Nat // x < n}) : runD m n a (pre ++ [x]) = ((runD m n a pre).1.set x.1 (((runD m n a pre).2 * 4294967296 + gl a x.1) / m), ((runD m n a pre).2 * 4294967296 + gl a x.1) % m) := by
  simp [runD]
theorem snocI {α : Type} {P : List α → Prop} (h0 : P []) (h1 : ∀ l x, P l → P (l ++ [x])) : ∀ l, P l := fun l => by
  rw [← List.reverse_reverse l]
  induction l.reverse with
  | nil => exact h0
  | cons x l ih => rw [List.reverse_cons]; exact h1 _ _ ih
theorem boxed_other {W : World} {B : Nat} {t : TypeId} {v : Value} (h : Boxed W B t v) (p : Addr) (hne : B ≠ p.block) (u : Value) : Boxed (W.setCell p u) B t v := (Below.heap_setCell W p u B hne).trans h
theorem dig_div {h x m : Nat} (hh : h < m) (hx : x < 4294967296) : (h * 4294967296 + x) / m < 4294967296 := by
  rw [Nat.div_lt_iff_lt_mul (by omega)]
  have h1 : (h + 1) * 4294967296 ≤ m * 4294967296 := Nat.mul_le_mul_right _ (by omega)
  rw [Nat.mul_comm 4294967296 m]
  omega
theorem runD_ok {m n : Nat} {a : List Nat} (ha : Lim a) (hm : 0 < m) (pre : List {x : Nat // x < n}) : (runD m n a pre).1.length = n ∧ Lim (runD m n a pre).1 ∧ (runD m n a pre).2 < m := by
  induction pre using snocI with
  | h0 => exact ⟨by simp [runD], Lim.replicate n 0 (by decide), hm⟩
  | h1 pre x ih =>
    rw [runD_snoc]
    exact ⟨by rw [List.length_set]; exact ih.1, ih.2.1.set _ _ (dig_div ih.2.2 (ha.gl _)), Nat.mod_lt _ hm⟩
theorem div_dig_step {u q R m g B : Nat} (hm : 0 < m) (hu : u = (q * m + R) * B + g) : u / m = q * B + (R * B + g) / m ∧ u % m = (R * B + g) % m := by
  have e : u = (R * B + g) + m * (q * B) := by rw [hu, Nat.add_mul]; grind
  rw [e, Nat.add_mul_div_left _ _ hm, Nat.add_mul_mod_self_left]
  exact ⟨by omega, rfl⟩
theorem runD_val (a m n : Nat) (hn : nl a ≤ n) (hm : 0 < m) : ∀ d, d ≤ n → ∀ k, k + d = n → val (runD m n (limbs a) (upto n d)).1 = a / 4294967296 ^ k / m * 4294967296 ^ k ∧ (runD m n (limbs a) (upto n d)).2 = a / 4294967296 ^ k % m ∧ ∀ j, j < k → gl (runD m n (limbs a) (upto n d)).1 j = 0 := by
  intro d
  induction d with
  | zero =>
    intro _ k hk
    rw [div_nl (show nl a ≤ k by omega)]
    refine ⟨by simp [runD, upto, val_replicate], by simp [runD, upto], fun j _ => ?_⟩
    simp [runD, upto, gl, List.getD_eq_getElem?_getD, List.getElem?_replicate]
    split <;> rfl
  | succ d ih =>
    intro hd k hk
    obtain ⟨i1, i2, i3⟩ := ih (by omega) (k + 1) (by omega)
    have hs := upto_step (n := n) (k := k) (by omega)
    rw [show n - (k + 1) = d by omega, show n - k = d + 1 by omega] at hs
    have hlen := (runD_ok (m := m) (n := n) (lim_limbs a) hm (upto n d)).1
    rw [← hs, runD_snoc]
    have hB : (0 : Nat) < 4294967296 := by decide
    have e1 : a / 4294967296 ^ (k + 1) = a / 4294967296 ^ k / 4294967296 := by rw [Nat.pow_succ, Nat.div_div_eq_div_mul]
    have eg := limbs_gl a k
    obtain ⟨u, hu⟩ : ∃ u, u = a / 4294967296 ^ k := ⟨_, rfl⟩
    rw [← hu] at e1 eg
    rw [e1] at i1 i2
    have hdm := div_dig_step (u := u) (q := u / 4294967296 / m) (R := u / 4294967296 % m) (g := u % 4294967296) (B := 4294967296) hm (by
      have h1 := Nat.div_add_mod u 4294967296
      have h2 := Nat.div_add_mod (u / 4294967296) m
      rw [Nat.mul_comm (u / 4294967296 / m) m, h2]
      exact (Nat.div_add_mod' u 4294967296).symm)
    rw [← hu]
    rw [← i2, ← eg] at hdm
    refine ⟨?_, hdm.2.symm, fun j hj => by rw [gl_set_ne (by dsimp only; omega)]; exact i3 j (by omega)⟩
    have hv := val_set k (((runD m n (limbs a) (upto n d)).2 * 4294967296 + gl (limbs a) k) / m) (l := (runD m n (limbs a) (upto n d)).1) (by rw [hlen]; omega)
    rw [← gl_eq, i3 k (by omega), Nat.mul_zero, Nat.add_zero, i1] at hv
    rw [hv, hdm.1, Nat.pow_succ]
    generalize 4294967296 ^ k = P
    grind
set_option maxRecDepth 100000 in
set_option maxHeartbeats 2000000 in
theorem dsmall_c (A : Option Addr) (c a m : Nat) (w : World) (hA : NatV w A c a) (ha : nl a ≤ 16777216) (hm : m < 4294967296) (h0 : 0 < m) :
    Calls Tryz.prog 141 #[.slice A (nl a) c, .int .u32 (m : Nat)] w (RetS w (a / m) (a % m)) := by
  refine (callsIn_wide (n := 4)).1 ?_
  have hmk := mk32 (nl a) (nl a) (by omega) (by omega) (by omega)
  simp only [Int.toNat_natCast] at hmk
  have hmb : ((m : Int) == 0) = false := ieqF (by omega)
  obtain ⟨n, hn⟩ : ∃ n, n = nl a := ⟨_, rfl⟩
  have hla : (limbs a).length = n := hn.symm
  have hnl : n ≤ 16777216 := by omega
  have HA := Lib.hid hA
  rw [← hn] at hmk
  rw [show nl a = n from hn.symm]
  replace hn := Lib.hid hn
  clear hA ha
  refine callsIn_of_wp_marks Tryz.func141 rfl trivial ?_ rfl
  simp only [Tryz.ntmps141, List.size_toArray, List.length_cons, List.length_nil, Nat.reduceAdd, Nat.reduceSub, Array.replicate_succ, Array.replicate_zero, List.push_toArray, List.append_toArray, List.nil_append, List.cons_append]
  gi_wp2_with (first
    | (refine ⟨trivial, ?_⟩; gi_at_call 156; refine (callsIn_wide.2 (backward_c A n c _)).mono ?_; rintro e w' ⟨rfl, rfl⟩))
  obtain ⟨s, hs0⟩ : ∃ s, s = w.heap.size := ⟨_, rfl⟩
  obtain ⟨W8, hW8⟩ : ∃ W8, (((((w.alloc (.cells #[.int .u32 (m : Nat)] 58)).alloc (.cells (madeCells #[.int .u32 0] n) 58)).alloc (.cells #[.slice (some ⟨s + 1, 0, none⟩) n n] 22)).alloc (.cells #[.int .u32 0] 58)).alloc (.cells #[.slice A n c] 22)) = W8 := ⟨_, rfl⟩
  have bM : Boxed W8 s 58 (.int .u32 (m : Nat)) := by
    subst hs0 hW8; unfold Boxed; repeat (first | exact at_new (by simp) | refine at_old (by simp <;> omega) ?_)
  have bO : Boxed W8 (s + 2) 22 (.slice (some ⟨s + 1, 0, none⟩) n n) := by
    subst hs0 hW8; unfold Boxed; repeat (first | exact at_new (by simp) | refine at_old (by simp <;> omega) ?_)
  have bR : Boxed W8 (s + 3) 58 (.int .u32 0) := by
    subst hs0 hW8; unfold Boxed; repeat (first | exact at_new (by simp) | refine at_old (by simp <;> omega) ?_)
  have bA : Boxed W8 (s + 4) 22 (.slice A n c) := by
    subst hs0 hW8; unfold Boxed; repeat (first | exact at_new (by simp) | refine at_old (by simp <;> omega) ?_)
  have hR8 : W8.heap[s + 1]? = some (.cells (madeCells #[.int .u32 0] n) 58 (0, 0)) := by
    subst hs0 hW8; repeat (first | exact at_new (by simp) | refine at_old (by simp <;> omega) ?_)
  have hsz : W8.heap.size = s + 5 := by subst hs0 hW8; simp
  have hB0 : Below s w W8 := by
    subst hs0 hW8
    exact ((((((Below.refl _ w).alloc (Nat.le_refl _) _).alloc (by simp) _).alloc (by simp; omega) _).alloc (by simp; omega) _).alloc (by simp; omega) _)
  have hown0 : W8.ownsRow s 58 1 (.slice (some ⟨s + 1, 0, none⟩) n n) n (vals (List.replicate n 0)) := by
    refine ⟨by simp [vals], .inr ⟨s + 1, n, _, rfl, by omega, hR8, Nat.le_refl _, by simp only [maxLen]; omega, by rw [size_madeCells, Nat.mul_one], ?_⟩⟩
    rw [toList_madeCells_one]
    simp [vals]
  rw [← hs0]
  simp only [Nat.add_assoc, Nat.reduceAdd]
  rw [hW8]
  clear hW8
  have HS := Lib.hid hs0
  have hlt : ∀ (X : Option Addr) (l : List Nat), Rd w X l → ∀ ad i, X = some ad → i < l.length → (ad.add i).block < s := fun X l hX ad i e hi => by
    subst e
    obtain ⟨ad', e', hc⟩ := hX.get i hi
    cases e'
    rw [hs0]; exact World.block_lt_of_cell? w _ hc
  clear hs0
  refine wpIn_rangeFunc_ownF (Kp := KeepC (fun k => k < s ∨ k = s + 4)) (w0 := W8) rfl (by omega) (gf := 167) (lb := #[.pointer (some ⟨s + 4, 0, none⟩)]) rfl trivial (enters_of Tryz.func167 (by kernel_rfl) rfl)
    (backward_stops (s + 4) _ A n c (limbs a) W8 hla (by omega) (.inr rfl) (fun ad i e hi => .inl (hlt A (limbs a) HA.out.rd ad i e hi)) bA.cell (HA.out.rd.below (HS.out ▸ hB0)))
    KeepC.t KeepC.b (Below.refl _ _) (fun _ => rfl)
    (fun pre W => (Boxed W (s + 2) 22 (.slice (some ⟨s + 1, 0, none⟩) n n) ∧ W.ownsRow s 58 1 (.slice (some ⟨s + 1, 0, none⟩) n n) n (vals (runD m n (limbs a) pre).1)) ∧ Boxed W (s + 3) 58 (.int .u32 ((runD m n (limbs a) pre).2 : Nat)) ∧
      Boxed W s 58 (.int .u32 (m : Nat)) ∧ Below s w W)
    (fun _ _ _ => False) ?own (fun _ _ _ _ _ hs _ _ => hs) ?start
    (fun x => { tmps := #[.slice A n c, .int .u32 (m : Nat), undef, .pointer (some ⟨s, 0, none⟩), .slice none 0 0, .int .u32 0, .int .i64 0, .pointer (some ⟨s + 2, 0, none⟩), .pointer (some ⟨s + 3, 0, none⟩), .int .i64 (x.1 : Nat), .int .u32 (gl (limbs a) x.1 : Nat),
      .int .u32 (m : Nat), .bool false, .slice A n c, .int .i64 n, .slice (some ⟨s + 1, 0, none⟩) n n, .slice A n c, .func (.func 167) #[] #[.pointer (some ⟨s + 4, 0, none⟩)], .int .i64 (x.1 : Nat), .int .u32 (gl (limbs a) x.1 : Nat),
      undef, undef, undef, undef, undef, undef, undef, undef, undef, undef, undef, undef, undef], defers := [] }) ?assign ?body ?done ?stop
  case own =>
    refine OwnFrom.and (Own.from ?_ _) (OwnFrom.and (Own.from (boxed_own _ _ _) _) (OwnFrom.and (Own.from (boxed_own _ _ _) _) (ownFrom_below (Nat.le_of_eq HS.out) (by omega))))
    intro pre Y Z row h hg hr
    obtain ⟨h1, h2⟩ := h
    refine ⟨boxed_own _ _ (fun _ : Unit => _) () Y Z row h1 hg hr, h2.kept hg (.inr (fun e => ?_))⟩
    obtain ⟨o, ho, hc⟩ := hr (s + 1) e.symm
    rcases h2.2 with ⟨h, _⟩ | ⟨g, cap, cur, h, _, hgb, _⟩
    · cases h
    · cases h; rw [hgb] at ho; cases ho; cases hc
  case start => exact ⟨⟨bO, hown0⟩, bR, bM, hB0⟩
  case assign =>
    intro l x W K hK
    gi_wp2
    exact hK
  case stop =>
    rintro D c pre W _ _ h _
    exact h.elim
  case done =>
    rintro D ys W hD rfl ⟨⟨hv, hrow⟩, hr, hmm, hB⟩ hK
    have hval := runD_val a m n (Nat.le_of_eq hn.out.symm) h0 n (Nat.le_refl _) 0 (by omega)
    rw [Nat.pow_zero, Nat.div_one, Nat.mul_one] at hval
    have hok := runD_ok (m := m) (n := n) (lim_limbs a) h0 (upto n n)
    obtain ⟨X, cx, hXe, hcx, hcm, hrd⟩ := ownV_rd hrow
    cases hXe
    rw [hval.2.1] at hr
    have hc := hv.cell
    have hrc := hr.cell
    have hmake := fun (V : World) (h : Below W.heap.size W V) => make_c (some ⟨s + 1, 0, none⟩) n n (runD m n (limbs a) (upto n n)).1 V hok.1 (hrd.below h) hok.2.1 (by omega) hcx
    rw [hval.1] at hmake
    have HM := Lib.hid hmake
    replace hval := Lib.hid hval
    clear hmake hrow hrd hv hok
    gi_wp2_with (fail)
    refine wpIn_region_inv (fun E a' w' => ∃ (v4 v5 v6 u30 u31 u32 : Value) (Y : Option Addr) (cy : Nat),
      a' = { tmps := #[.slice A n c, .int .u32 (m : Nat), undef, .pointer (some ⟨s, 0, none⟩), v4, v5, v6, .pointer (some ⟨s + 2, 0, none⟩), .pointer (some ⟨s + 3, 0, none⟩), undef, undef,
        .int .u32 (m : Nat), .bool false, .slice A n c, .int .i64 n, .slice (some ⟨s + 1, 0, none⟩) n n, .slice A n c, .func (.func 167) #[] #[.pointer (some ⟨s + 4, 0, none⟩)], undef, undef,
        undef, undef, undef, undef, undef, undef, undef, undef, undef, undef, u30, u31, u32], defers := [{ target := Target.collected D, args := #[] }] } ∧
      (E 0 = true → u30 = .slice (some ⟨s + 1, 0, none⟩) n n) ∧ (E 1 = true → u31 = .slice Y (nl (a / m)) cy ∧ NatV w' Y cy (a / m)) ∧ (E 2 = true → u32 = .int .u32 ((a % m : Nat) : Int)) ∧
      (E 3 = true → v4 = .slice Y (nl (a / m)) cy) ∧ (E 4 = true → v5 = .int .u32 ((a % m : Nat) : Int)) ∧ (E 5 = true → v6 = .int .i64 0) ∧ (E 3 = true → E 1 = true) ∧ Below W.heap.size W w')
      (by kernel_rfl) (by kernel_rfl) ?init ?fin ?step
    case init => exact ⟨_, _, _, _, _, _, none, 0, rfl, by simp, by simp, by simp, by simp, by simp, by simp, by simp, (Below.refl _ _).drew⟩
    case fin =>
      rintro E a' w' ⟨v4, v5, v6, u30, u31, u32, Y, cy, rfl, h30, h31, h32, h4, h5, h6, _, hbY⟩ hall
      obtain ⟨_, hY⟩ := h31 (hall 1 (by decide))
      obtain rfl := h4 (hall 3 (by decide))
      obtain rfl := h5 (hall 4 (by decide))
      obtain rfl := h6 (hall 5 (by decide))
      gi_wp2_with (fail)
      have hDlt : D < W.heap.size := (Array.getElem?_eq_some_iff.1 hK).1
      have hK1 := (hbY.block D hDlt).trans hK
      refine ⟨by simp, .inl ⟨_, _, rfl, run_takeDeferred hK1, ?_⟩⟩
      have hDs : s ≤ D := by omega
      have hWs : s ≤ W.heap.size := by omega
      have hp : Below s w (w'.putObj D (.deferred none)) := (hB.trans (hbY.mono hWs)).trans (belowK_b (w := W8) (by omega) w' D _ _ hD hK1 rfl rfl)
      have hp2 : Below w.heap.size w (w'.putObj D (.deferred none)) := hp.mono (Nat.le_of_eq HS.out.symm)
      refine ⟨.tuple #[.slice Y (nl (a / m)) cy, .int .u32 ((a % m : Nat) : Int), .int .i64 0], by simp [results, Tryz.results141, go_sem], ?_⟩
      refine ⟨Y, cy, rfl, ⟨?_, hY.cap, hY.cmax⟩, hp2⟩
      rcases hY.rd with h | ⟨ad, rfl, h⟩
      · exact .inl h
      · exact .inr ⟨ad, rfl, fun i u hu => cell_kept (h i u hu) (grownBy_putObj' w' D _) (fun r e => by cases e; exact ⟨_, hK1, rfl⟩)⟩
    case step =>
      rintro E a' w' i ⟨v4, v5, v6, u30, u31, u32, Y, cy, rfl, h30, h31, h32, h4, h5, h6, h31', hbY⟩ hi hEi hdep
      have hcell := cell_below hbY hc
      have hcellr := cell_below hbY hrc
      obtain rfl | rfl | rfl | rfl | rfl | rfl : i = 0 ∨ i = 1 ∨ i = 2 ∨ i = 3 ∨ i = 4 ∨ i = 5 := by
        simp at hi; omega
      · refine wpOpIn_step rfl (fun K' hK' => ?_)
        go_simp
        refine hK' _ _ ?_
        exact ⟨_, _, _, _, _, _, Y, cy, rfl, fun _ => rfl, keepD (by decide) h31, keepD (by decide) h32, keepD (by decide) h4, keepD (by decide) h5, keepD (by decide) h6, (fun h => by first | rfl | (have := h31' (by simpa using h); simpa using this)), hbY⟩
      · have d0 := hdep _ rfl ⟨0, .data⟩ (by simp) rfl
        obtain rfl := h30 d0
        refine wpOpIn_step rfl (fun K' hK' => ?_)
        go_simp
        refine ⟨trivial, ?_⟩
        refine (callsIn_wide.2 (HM.out w' hbY)).mono ?_
        rintro e w1 ⟨Y1, c1, rfl, k1, k2⟩
        refine hK' _ _ ?_
        exact ⟨_, _, _, _, _, _, Y1, c1, rfl, keepD (by decide) h30, fun _ => ⟨rfl, k1⟩, keepD (by decide) h32, fun h => (by have h2 := h31' (by simpa using h); rw [hEi] at h2; cases h2), keepD (by decide) h5, keepD (by decide) h6, (fun h => by simp), Below.cons hbY k2⟩
      · refine wpOpIn_step rfl (fun K' hK' => ?_)
        go_simp
        refine hK' _ _ ?_
        exact ⟨_, _, _, _, _, _, Y, cy, rfl, keepD (by decide) h30, keepD (by decide) h31, fun _ => rfl, keepD (by decide) h4, keepD (by decide) h5, keepD (by decide) h6, (fun h => by first | rfl | (have := h31' (by simpa using h); simpa using this)), hbY⟩
      · have d1 := hdep _ rfl ⟨1, .data⟩ (by simp) rfl
        obtain ⟨rfl, hY⟩ := h31 d1
        refine wpOpIn_step rfl (fun K' hK' => ?_)
        go_simp
        refine hK' _ _ ?_
        exact ⟨_, _, _, _, _, _, Y, cy, rfl, keepD (by decide) h30, fun _ => ⟨rfl, hY⟩, keepD (by decide) h32, fun _ => rfl, keepD (by decide) h5, keepD (by decide) h6, (fun h => by simp [d1]), hbY⟩
      · have d2 := hdep _ rfl ⟨2, .data⟩ (by simp) rfl
        obtain rfl := h32 d2
        refine wpOpIn_step rfl (fun K' hK' => ?_)
        go_simp
        refine hK' _ _ ?_
        exact ⟨_, _, _, _, _, _, Y, cy, rfl, keepD (by decide) h30, keepD (by decide) h31, fun _ => rfl, keepD (by decide) h4, fun _ => rfl, keepD (by decide) h6, (fun h => by first | rfl | (have := h31' (by simpa using h); simpa using this)), hbY⟩
      · refine wpOpIn_step rfl (fun K' hK' => ?_)
        go_simp
        refine hK' _ _ ?_
        exact ⟨_, _, _, _, _, _, Y, cy, rfl, keepD (by decide) h30, keepD (by decide) h31, keepD (by decide) h32, keepD (by decide) h4, keepD (by decide) h5, fun _ => rfl, (fun h => by first | rfl | (have := h31' (by simpa using h); simpa using this)), hbY⟩
  case body =>
    rintro l pre x W ⟨⟨hv, hrow⟩, hR, hM, hB⟩ hlen
    have hx := (lim_limbs a).gl x.1
    have hok := runD_ok (m := m) (n := n) (lim_limbs a) h0 pre
    have hrun := runD_snoc m n (limbs a) pre x
    have HC := fun (V : World) => div32_c (runD m n (limbs a) pre).2 (gl (limbs a) x.1) m V hok.2.2 hx hm
    have hxn := x.2
    obtain ⟨r, hr⟩ : ∃ r, r = (runD m n (limbs a) pre).2 := ⟨_, rfl⟩
    obtain ⟨L, hL⟩ : ∃ L, L = (runD m n (limbs a) pre).1 := ⟨_, rfl⟩
    obtain ⟨g, hg⟩ : ∃ g, g = gl (limbs a) x.1 := ⟨_, rfl⟩
    obtain ⟨i, hi⟩ : ∃ i, i = x.1 := ⟨_, rfl⟩
    rw [← hr, ← hL, ← hg] at hrun
    rw [← hr, ← hg] at HC
    rw [← hg, ← hi]
    rw [← hr] at hR
    rw [← hL] at hrow hok
    rw [← hi] at hxn hrun
    obtain ⟨q1, hq1⟩ : ∃ z, z = (r * 4294967296 + g) / m := ⟨_, rfl⟩
    obtain ⟨r1, hr1⟩ : ∃ z, z = (r * 4294967296 + g) % m := ⟨_, rfl⟩
    rw [← hq1, ← hr1] at HC hrun
    have HCX := Lib.hid HC
    have HRN := Lib.hid hrun
    have HOK := Lib.hid hok
    replace hr := Lib.hid hr
    replace hL := Lib.hid hL
    replace hg := Lib.hid hg
    replace hi := Lib.hid hi
    replace hq1 := Lib.hid hq1
    replace hr1 := Lib.hid hr1
    clear HC hrun hok hmk
    have cO := hv.cell
    have cR := hR.cell
    have cM := hM.cell
    have fR := hR.frozen
    have cL : W.cell? ⟨s + 1, i, none⟩ = some (.int .u32 (gl L i : Nat)) := by rw [hrow.cellAt i (by omega), vals_get L _ (by rw [HOK.out.1]; exact hxn)]
    have fL := hrow.frozenAt i
    gi_wp2_with (fail)
    refine wpIn_region_inv (fun E a' w' => ∃ (u20 u21 u22 u23 u24 u25 u26 u27 u28 u29 : Value),
      a' = { tmps := #[.slice A n c, .int .u32 (m : Nat), undef, .pointer (some ⟨s, 0, none⟩), .slice none 0 0, .int .u32 0, .int .i64 0, .pointer (some ⟨s + 2, 0, none⟩), .pointer (some ⟨s + 3, 0, none⟩), .int .i64 (i : Nat), .int .u32 (g : Nat),
        .int .u32 (m : Nat), .bool false, .slice A n c, .int .i64 n, .slice (some ⟨s + 1, 0, none⟩) n n, .slice A n c, .func (.func 167) #[] #[.pointer (some ⟨s + 4, 0, none⟩)], .int .i64 (i : Nat), .int .u32 (g : Nat),
        u20, u21, u22, u23, u24, u25, u26, u27, u28, u29, undef, undef, undef], defers := [] } ∧
      (E 0 = true → u21 = .slice (some ⟨s + 1, 0, none⟩) n n) ∧ (E 1 = true → u22 = .int .i64 (i : Nat)) ∧ (E 2 = true → u23 = .int .u32 (r : Nat)) ∧ (E 3 = true → u24 = .int .u32 (g : Nat)) ∧ (E 4 = true → u25 = .int .u32 (m : Nat)) ∧
      (E 5 = true → u26 = .tuple #[.int .u32 (q1 : Nat), .int .u32 (r1 : Nat)]) ∧ (E 6 = true → u20 = .tuple #[.int .u32 (q1 : Nat), .int .u32 (r1 : Nat)]) ∧ (E 7 = true → u27 = .int .u32 (q1 : Nat)) ∧ (E 8 = true → u28 = .int .u32 (r1 : Nat)) ∧ (E 9 = true → u29 = .pointer (some ⟨s + 1, i, none⟩)) ∧
      ((E 10 = false ∧ E 11 = false ∧ ∃ k, w' = W.drewN k) ∨ (E 0 = true ∧ E 1 = true ∧ E 2 = true ∧ E 3 = true ∧ E 4 = true ∧ E 5 = true ∧ E 6 = true ∧ E 7 = true ∧ E 9 = true ∧ E 10 = true ∧ E 11 = false ∧ ∃ k, w' = (W.drewN k).setCell ⟨s + 1, i, none⟩ (.int .u32 (q1 : Nat))) ∨ (E 0 = true ∧ E 1 = true ∧ E 2 = true ∧ E 3 = true ∧ E 4 = true ∧ E 5 = true ∧ E 6 = true ∧ E 7 = true ∧ E 8 = true ∧ E 9 = true ∧ E 10 = true ∧ E 11 = true ∧ ∃ k, w' = ((W.drewN k).setCell ⟨s + 1, i, none⟩ (.int .u32 (q1 : Nat))).setCell ⟨s + 3, 0, none⟩ (.int .u32 (r1 : Nat)))))
      (by kernel_rfl) (by kernel_rfl) ?init ?fin ?step
    case init => exact ⟨_, _, _, _, _, _, _, _, _, _, rfl, by simp, by simp, by simp, by simp, by simp, by simp, by simp, by simp, by simp, by simp, .inl ⟨rfl, rfl, 1, rfl⟩⟩
    case fin =>
      rintro E a' w' ⟨u20, u21, u22, u23, u24, u25, u26, u27, u28, u29, rfl, h0, h1, h2, h3, h4, h5, h6, h7, h8, h9, hw⟩ hall
      have d11 := hall 11 (by decide)
      simp only [d11, Bool.true_eq_false, false_and, and_false, or_false, false_or] at hw
      obtain ⟨_, _, _, _, _, _, _, _, _, _, _, _, k, rfl⟩ := hw
      have K0 : KeepsOthers W (W.drewN k) := ⟨Nat.le_refl _, fun _ _ h _ => h⟩
      show KeepsOthers W _ ∧ KeepC _ W _ ∧ _
      refine ⟨(K0.trans (KeepsOthers.setCell _ _ _)).trans (KeepsOthers.setCell _ _ _), ?_, ⟨⟨?_, ?_⟩, ?_, ?_, ?_⟩⟩
      · intro p v hp hv
        rw [World.cell?_of_block (a := p) (Below.heap_setCell _ ⟨s + 3, 0, none⟩ _ p.block (by simp; omega)), World.cell?_of_block (a := p) (Below.heap_setCell _ ⟨s + 1, i, none⟩ _ p.block (by simp; omega))]
        exact hv
      · exact (boxed_other (W := W.drewN k) hv ⟨s + 1, i, none⟩ (by simp) _).other (by omega) _
      · rw [HRN.out, vals_set]
        exact ((show (W.drewN k).ownsRow s 58 1 (.slice (some ⟨s + 1, 0, none⟩) n n) n (vals L) from hrow).stored i (.int .u32 (q1 : Nat))).1.kept (grownBy_setCell' _ (s + 3) _) (.inr (by simp [Value.ownBlock]))
      · rw [HRN.out]
        exact Boxed.set _ (boxed_other (W := W.drewN k) hR ⟨s + 1, i, none⟩ (by simp) _)
      · exact (boxed_other (W := W.drewN k) hM ⟨s + 1, i, none⟩ (by simp) _).other (by omega) _
      · exact ((hB.drewN k).setCell (p := ⟨s + 1, i, none⟩) (by simp) _).setCell (p := ⟨s + 3, 0, none⟩) (by simp) _
    case step =>
      rintro E a' w' j ⟨u20, u21, u22, u23, u24, u25, u26, u27, u28, u29, rfl, h0, h1, h2, h3, h4, h5, h6, h7, h8, h9, hw⟩ hj hEi hdep
      obtain rfl | rfl | rfl | rfl | rfl | rfl | rfl | rfl | rfl | rfl | rfl | rfl : j = 0 ∨ j = 1 ∨ j = 2 ∨ j = 3 ∨ j = 4 ∨ j = 5 ∨ j = 6 ∨ j = 7 ∨ j = 8 ∨ j = 9 ∨ j = 10 ∨ j = 11 := by
        simp at hj; omega
      · simp only [hEi, Bool.false_eq_true, false_and, and_false, or_false] at hw
        obtain ⟨e10, e11, k, rfl⟩ := hw
        refine wpOpIn_step rfl (fun K' hK' => ?_)
        go_simp
        refine hK' _ _ ?_
        exact ⟨_, _, _, _, _, _, _, _, _, _, rfl, fun _ => rfl, keepD (by decide) h1, keepD (by decide) h2, keepD (by decide) h3, keepD (by decide) h4, keepD (by decide) h5, keepD (by decide) h6, keepD (by decide) h7, keepD (by decide) h8, keepD (by decide) h9, .inl ⟨by simp [e10], by simp [e11], _, (by first | rfl | (simp only [World.drewN_drewN]; rfl))⟩⟩
      · simp only [hEi, Bool.false_eq_true, false_and, and_false, or_false] at hw
        obtain ⟨e10, e11, k, rfl⟩ := hw
        refine wpOpIn_step rfl (fun K' hK' => ?_)
        go_simp
        refine hK' _ _ ?_
        exact ⟨_, _, _, _, _, _, _, _, _, _, rfl, keepD (by decide) h0, fun _ => rfl, keepD (by decide) h2, keepD (by decide) h3, keepD (by decide) h4, keepD (by decide) h5, keepD (by decide) h6, keepD (by decide) h7, keepD (by decide) h8, keepD (by decide) h9, .inl ⟨by simp [e10], by simp [e11], _, (by first | rfl | (simp only [World.drewN_drewN]; rfl))⟩⟩
      · simp only [hEi, Bool.false_eq_true, false_and, and_false, or_false] at hw
        obtain ⟨e10, e11, k, rfl⟩ := hw
        refine wpOpIn_step rfl (fun K' hK' => ?_)
        go_simp
        refine hK' _ _ ?_
        exact ⟨_, _, _, _, _, _, _, _, _, _, rfl, keepD (by decide) h0, keepD (by decide) h1, fun _ => rfl, keepD (by decide) h3, keepD (by decide) h4, keepD (by decide) h5, keepD (by decide) h6, keepD (by decide) h7, keepD (by decide) h8, keepD (by decide) h9, .inl ⟨by simp [e10], by simp [e11], _, (by first | rfl | (simp only [World.drewN_drewN]; rfl))⟩⟩
      · simp only [hEi, Bool.false_eq_true, false_and, and_false, or_false] at hw
        obtain ⟨e10, e11, k, rfl⟩ := hw
        refine wpOpIn_step rfl (fun K' hK' => ?_)
        go_simp
        refine hK' _ _ ?_
        exact ⟨_, _, _, _, _, _, _, _, _, _, rfl, keepD (by decide) h0, keepD (by decide) h1, keepD (by decide) h2, fun _ => rfl, keepD (by decide) h4, keepD (by decide) h5, keepD (by decide) h6, keepD (by decide) h7, keepD (by decide) h8, keepD (by decide) h9, .inl ⟨by simp [e10], by simp [e11], _, (by first | rfl | (simp only [World.drewN_drewN]; rfl))⟩⟩
      · simp only [hEi, Bool.false_eq_true, false_and, and_false, or_false] at hw
        obtain ⟨e10, e11, k, rfl⟩ := hw
        refine wpOpIn_step rfl (fun K' hK' => ?_)
        go_simp
        refine hK' _ _ ?_
        exact ⟨_, _, _, _, _, _, _, _, _, _, rfl, keepD (by decide) h0, keepD (by decide) h1, keepD (by decide) h2, keepD (by decide) h3, fun _ => rfl, keepD (by decide) h5, keepD (by decide) h6, keepD (by decide) h7, keepD (by decide) h8, keepD (by decide) h9, .inl ⟨by simp [e10], by simp [e11], _, (by first | rfl | (simp only [World.drewN_drewN]; rfl))⟩⟩
      · have d2 := hdep _ rfl ⟨2, .data⟩ (by simp) rfl
        obtain rfl := h2 d2
        have d3 := hdep _ rfl ⟨3, .data⟩ (by simp) rfl
        obtain rfl := h3 d3
        have d4 := hdep _ rfl ⟨4, .data⟩ (by simp) rfl
        obtain rfl := h4 d4
        simp only [hEi, Bool.false_eq_true, false_and, and_false, or_false] at hw
        obtain ⟨e10, e11, k, rfl⟩ := hw
        refine wpOpIn_step rfl (fun K' hK' => ?_)
        go_simp
        refine ⟨trivial, ?_⟩
        refine (CallsIn.inRound l (callsIn_wide.2 (HCX.out _))).mono ?_
        rintro e V ⟨rfl, kq, rfl⟩
        refine hK' _ _ ?_
        exact ⟨_, _, _, _, _, _, _, _, _, _, rfl, keepD (by decide) h0, keepD (by decide) h1, keepD (by decide) h2, keepD (by decide) h3, keepD (by decide) h4, fun _ => rfl, keepD (by decide) h6, keepD (by decide) h7, keepD (by decide) h8, keepD (by decide) h9, .inl ⟨by simp [e10], by simp [e11], _, (by first | rfl | (simp only [World.drewN_drewN]; rfl))⟩⟩
      · have d5 := hdep _ rfl ⟨5, .data⟩ (by simp) rfl
        obtain rfl := h5 d5
        simp only [hEi, Bool.false_eq_true, false_and, and_false, or_false] at hw
        obtain ⟨e10, e11, k, rfl⟩ := hw
        refine wpOpIn_step rfl (fun K' hK' => ?_)
        go_simp
        refine hK' _ _ ?_
        exact ⟨_, _, _, _, _, _, _, _, _, _, rfl, keepD (by decide) h0, keepD (by decide) h1, keepD (by decide) h2, keepD (by decide) h3, keepD (by decide) h4, keepD (by decide) h5, fun _ => rfl, keepD (by decide) h7, keepD (by decide) h8, keepD (by decide) h9, .inl ⟨by simp [e10], by simp [e11], _, (by first | rfl | (simp only [World.drewN_drewN]; rfl))⟩⟩
      · have d6 := hdep _ rfl ⟨6, .data⟩ (by simp) rfl
        obtain rfl := h6 d6
        simp only [hEi, Bool.false_eq_true, false_and, and_false, or_false] at hw
        obtain ⟨e10, e11, k, rfl⟩ := hw
        refine wpOpIn_step rfl (fun K' hK' => ?_)
        go_simp
        refine hK' _ _ ?_
        exact ⟨_, _, _, _, _, _, _, _, _, _, rfl, keepD (by decide) h0, keepD (by decide) h1, keepD (by decide) h2, keepD (by decide) h3, keepD (by decide) h4, keepD (by decide) h5, keepD (by decide) h6, fun _ => rfl, keepD (by decide) h8, keepD (by decide) h9, .inl ⟨by simp [e10], by simp [e11], _, (by first | rfl | (simp only [World.drewN_drewN]; rfl))⟩⟩
      · have d6 := hdep _ rfl ⟨6, .data⟩ (by simp) rfl
        obtain rfl := h6 d6
        simp only [hEi, Bool.false_eq_true, false_and, and_false, or_false] at hw
        refine wpOpIn_step rfl (fun K' hK' => ?_)
        go_simp
        refine hK' _ _ ?_
        rcases hw with ⟨e10, e11, k, rfl⟩ | ⟨d0, d1, d2, d3, d4, d5, d6, d7, d9, d10, e11, k, rfl⟩
        · exact ⟨_, _, _, _, _, _, _, _, _, _, rfl, keepD (by decide) h0, keepD (by decide) h1, keepD (by decide) h2, keepD (by decide) h3, keepD (by decide) h4, keepD (by decide) h5, keepD (by decide) h6, keepD (by decide) h7, fun _ => rfl, keepD (by decide) h9, .inl ⟨by simp [e10], by simp [e11], _, rfl⟩⟩
        · exact ⟨_, _, _, _, _, _, _, _, _, _, rfl, keepD (by decide) h0, keepD (by decide) h1, keepD (by decide) h2, keepD (by decide) h3, keepD (by decide) h4, keepD (by decide) h5, keepD (by decide) h6, keepD (by decide) h7, fun _ => rfl, keepD (by decide) h9, .inr (.inl ⟨by simp [d0], by simp [d1], by simp [d2], by simp [d3], by simp [d4], by simp [d5], by simp [d6], by simp [d7], by simp [d9], by simp [d10], by simp [e11], _, rfl⟩)⟩
      · have d0 := hdep _ rfl ⟨0, .data⟩ (by simp) rfl
        obtain rfl := h0 d0
        have d1 := hdep _ rfl ⟨1, .data⟩ (by simp) rfl
        obtain rfl := h1 d1
        simp only [hEi, Bool.false_eq_true, false_and, and_false, or_false] at hw
        obtain ⟨e10, e11, k, rfl⟩ := hw
        refine wpOpIn_step rfl (fun K' hK' => ?_)
        go_simp
        refine hK' _ _ ?_
        exact ⟨_, _, _, _, _, _, _, _, _, _, rfl, keepD (by decide) h0, keepD (by decide) h1, keepD (by decide) h2, keepD (by decide) h3, keepD (by decide) h4, keepD (by decide) h5, keepD (by decide) h6, keepD (by decide) h7, keepD (by decide) h8, fun _ => rfl, .inl ⟨by simp [e10], by simp [e11], _, (by first | rfl | (simp only [World.drewN_drewN]; rfl))⟩⟩
      · have d9 := hdep _ rfl ⟨9, .data⟩ (by simp) rfl
        have d7 := hdep _ rfl ⟨7, .data⟩ (by simp) rfl
        have d0 := hdep _ rfl ⟨0, .phase⟩ (by simp) rfl
        have d1 := hdep _ rfl ⟨1, .phase⟩ (by simp) rfl
        have d2 := hdep _ rfl ⟨2, .phase⟩ (by simp) rfl
        have d3 := hdep _ rfl ⟨3, .phase⟩ (by simp) rfl
        have d4 := hdep _ rfl ⟨4, .phase⟩ (by simp) rfl
        have d5 := hdep _ rfl ⟨5, .phase⟩ (by simp) rfl
        have d6 := hdep _ rfl ⟨6, .phase⟩ (by simp) rfl
        obtain rfl := h9 d9
        obtain rfl := h7 d7
        simp only [hEi, Bool.false_eq_true, false_and, and_false, or_false, true_and] at hw
        obtain ⟨e11, k, rfl⟩ := hw
        obtain rfl := h0 d0
        obtain rfl := h1 d1
        obtain rfl := h2 d2
        obtain rfl := h3 d3
        obtain rfl := h4 d4
        obtain rfl := h5 d5
        obtain rfl := h6 d6
        refine wpOpIn_step rfl (fun K' hK' => ?_)
        go_simp
        refine hK' _ _ ?_
        exact ⟨_, _, _, _, _, _, _, _, u28, _, rfl, fun _ => rfl, fun _ => rfl, fun _ => rfl, fun _ => rfl, fun _ => rfl, fun _ => rfl, fun _ => rfl, fun _ => rfl, keepD (by decide) h8, fun _ => rfl, .inr (.inl ⟨by simp [d0], by simp [d1], by simp [d2], by simp [d3], by simp [d4], by simp [d5], by simp [d6], by simp [d7], by simp [d9], by simp, by simp [e11], _, rfl⟩)⟩
      · have d8 := hdep _ rfl ⟨8, .data⟩ (by simp) rfl
        have d10 := hdep _ rfl ⟨10, .chain⟩ (by simp) rfl
        obtain rfl := h8 d8
        simp only [hEi, d10, Bool.true_eq_false, Bool.false_eq_true, false_and, and_false, or_false, false_or, true_and] at hw
        obtain ⟨d0, d1, d2, d3, d4, d5, d6, d7, d9, k, rfl⟩ := hw
        obtain rfl := h0 d0
        obtain rfl := h1 d1
        obtain rfl := h2 d2
        obtain rfl := h3 d3
        obtain rfl := h4 d4
        obtain rfl := h5 d5
        obtain rfl := h6 d6
        obtain rfl := h7 d7
        obtain rfl := h9 d9
        have bR := boxed_other (W := W.drewN k) hR ⟨s + 1, i, none⟩ (by simp) (.int .u32 (q1 : Nat))
        have cR2 := bR.cell
        have fR2 := bR.frozen
        refine wpOpIn_step rfl (fun K' hK' => ?_)
        go_simp
        refine hK' _ _ ?_
        exact ⟨_, _, _, _, _, _, _, _, _, _, rfl, fun _ => rfl, fun _ => rfl, fun _ => rfl, fun _ => rfl, fun _ => rfl, fun _ => rfl, fun _ => rfl, fun _ => rfl, fun _ => rfl, fun _ => rfl, .inr (.inr ⟨by simp [d0], by simp [d1], by simp [d2], by simp [d3], by simp [d4], by simp [d5], by simp [d6], by simp [d7], by simp [d8], by simp [d9], by simp [d10], by simp, _, rfl⟩)⟩
end Go.Proofs.YtacjfpibilolnaaGreatDoor

/- The values of a natural, taken as a polynomial of thirds, at three points. -/
set_option linter.unusedVariables false
set_option linter.unusedSimpArgs false
namespace Go.Proofs.YtacjfpibilolnaaGreatDoor
open Go.RowKit Go.Shelf
attribute [local go_sem] max2_i min2_i max_two min_two

end Go.Proofs.YtacjfpibilolnaaGreatDoor

/- Toom's product. -/
set_option linter.unusedVariables false
set_option linter.unusedSimpArgs false
namespace Go.Proofs.YtacjfpibilolnaaGreatDoor
open Go.RowKit Go.Shelf
attribute [local go_sem] max2_i min2_i max_two min_two

end Go.Proofs.YtacjfpibilolnaaGreatDoor

/- Toom's product: the walk. -/
set_option linter.unusedVariables false
set_option linter.unusedSimpArgs false
namespace Go.Proofs.YtacjfpibilolnaaGreatDoor
open Go.RowKit Go.Shelf
attribute [local go_sem] max2_i min2_i max_two min_two
set_option maxRecDepth 100000


end Go.Proofs.YtacjfpibilolnaaGreatDoor

/- Rows of three limbs, carried. -/
set_option linter.unusedVariables false
set_option linter.unusedSimpArgs false
namespace Go.Proofs.YtacjfpibilolnaaGreatDoor
open Go.RowKit Go.Shelf



end Go.Proofs.YtacjfpibilolnaaGreatDoor

/- Reckoning modulo a prime: the functions of ntt.field. -/
set_option linter.unusedVariables false
set_option linter.unusedSimpArgs false
namespace Go.Proofs.YtacjfpibilolnaaGreatDoor
open Go.RowKit Go.Shelf








end Go.Proofs.YtacjfpibilolnaaGreatDoor

/- Transforms over a commutative ring: sums, powers, the transform and back, and the sums of products. -/
set_option linter.unusedVariables false
set_option linter.unusedSimpArgs false
namespace Go.Proofs.YtacjfpibilolnaaGreatDoor

def sm {R : Type} [Add R] [OfNat R 0] (f : Nat → R) : Nat → R
  | 0 => 0
  | n + 1 => sm f n + f n
/-- The sums of products of a's first n numbers with b's. -/
def cv {R : Type} [Add R] [Mul R] [OfNat R 0] (a b : Nat → R) (n j : Nat) : R := sm (fun s => if s ≤ j then a s * b (j - s) else 0) n

section
variable {p : Nat} [NeZero p]


end

namespace NatS


end NatS

section
variable {p : Nat} [NeZero p]



end
end Go.Proofs.YtacjfpibilolnaaGreatDoor

/- The library's bits.Reverse64, walked. -/
set_option linter.unusedVariables false
set_option linter.unusedSimpArgs false
namespace Go.Proofs.YtacjfpibilolnaaGreatDoor
open Go.RowKit



end Go.Proofs.YtacjfpibilolnaaGreatDoor

/- Numbers modulo p as a ring; what the transform's loops keep. -/
set_option linter.unusedVariables false
set_option linter.unusedSimpArgs false
namespace Go.Proofs.YtacjfpibilolnaaGreatDoor

/-- φ reads a number modulo p. -/
structure Hom (p : Nat) [NeZero p] (φ : Nat → Fin p) : Prop where
  add : ∀ a b, φ (a + b) = φ a + φ b
  mul : ∀ a b, φ (a * b) = φ a * φ b
  one : φ 1 = 1
  modp : ∀ n, φ (n % p) = φ n
  inj : ∀ a b, φ a = φ b → a % p = b % p

section
variable {p : Nat} [NeZero p] {φ : Nat → Fin p}
theorem Hom.zero (h : Hom p φ) : φ 0 = 0 := by
  have := h.add 0 0
  rw [Nat.add_zero] at this; grind
end



end Go.Proofs.YtacjfpibilolnaaGreatDoor

/- Rows of 64-bit numbers in memory; the transform, walked. -/
set_option linter.unusedVariables false
set_option linter.unusedSimpArgs false
namespace Go.Proofs.YtacjfpibilolnaaGreatDoor
open Go.RowKit Go.Shelf

def v64 (L : List Nat) : List Value := L.map fun n => .int .u64 (n : Nat)
/-- Block b is the row L. -/
def Arr (W : World) (b : Nat) (L : List Nat) : Prop := W.heap[b]? = some (.cells (v64 L).toArray 94 (0, 0))
theorem Arr.cell {W b L} (h : Arr W b L) (i : Nat) (hi : i < L.length) : W.cell? ⟨b, i, none⟩ = some (.int .u64 (gl L i : Nat)) := by
  unfold World.cell?; rw [h]; simp [v64, gl, hi]
theorem Arr.frozen {W b L} (h : Arr W b L) (i : Nat) : W.frozen? ⟨b, i, none⟩ = false := by
  unfold World.frozen?; rw [h]; simp
theorem Arr.store {W b L} (h : Arr W b L) (i x : Nat) : Arr (W.setCell ⟨b, i, none⟩ (.int .u64 (x : Nat))) b (L.set i x) := by
  unfold Arr
  rw [heap_setCell_same W b i _ _ _ h]
  simp [v64, List.map_set]
theorem Arr.keep {W W' b L} (h : Arr W b L) (k : W'.heap[b]? = W.heap[b]?) : Arr W' b L := k.trans h
theorem Arr.lt {W b L} (h : Arr W b L) : b < W.heap.size := (Array.getElem?_eq_some_iff.1 h).1
theorem Arr.below {W W' b L} (h : Arr W b L) (k : Below W.heap.size W W') : Arr W' b L := h.keep (k.block b h.lt)
/-- The worlds part in block b alone, and in new ones. -/
structure Only (b : Nat) (W W' : World) : Prop where
  os : W'.os = W.os
  tape : W'.tape = W.tape
  output : W'.output = W.output
  size : W.heap.size ≤ W'.heap.size
  block : ∀ k, k < W.heap.size → k ≠ b → W'.heap[k]? = W.heap[k]?
theorem Only.refl (b W) : Only b W W := ⟨rfl, rfl, rfl, Nat.le_refl _, fun _ _ _ => rfl⟩
theorem Only.of {b W W'} (h : Below W.heap.size W W') : Only b W W' := ⟨h.os, h.tape, h.output, h.size, fun k hk _ => h.block k hk⟩
theorem Only.trans {b A B C} (h : Only b A B) (k : Only b B C) : Only b A C :=
  ⟨k.os.trans h.os, k.tape.trans h.tape, k.output.trans h.output, Nat.le_trans h.size k.size, fun i hi hb => (k.block i (Nat.lt_of_lt_of_le hi h.size) hb).trans (h.block i hi hb)⟩
theorem Only.cons {b A B C} (h : Only b A B) (k : Below B.heap.size B C) : Only b A C := h.trans (.of k)
theorem Only.drew {b A B} (h : Only b A B) : Only b A B.drew := h.trans (.of (Below.refl _ _).drew)
theorem Only.set (b W i v) : Only b W (W.setCell ⟨b, i, none⟩ v) := by
  have h := (Below.refl b W).setCell (p := ⟨b, i, none⟩) (Nat.le_refl _) v
  exact ⟨h.os, h.tape, h.output, h.size, fun k _ hb => Below.heap_setCell W ⟨b, i, none⟩ v k hb⟩
theorem Only.store {b A B} (h : Only b A B) (i v) : Only b A (B.setCell ⟨b, i, none⟩ v) := h.trans (.set b B i v)
theorem Only.below {b n A B} (h : Only b A B) (hb : n ≤ b) (hn : n ≤ A.heap.size) : Below n A B := ⟨h.os, h.tape, h.output, h.size, fun k hk => h.block k (by omega) (by omega)⟩
theorem Only.cell {b A B p v} (h : Only b A B) (k : A.cell? p = some v) (hp : p.block ≠ b) : B.cell? p = some v :=
  (World.cell?_of_block (w := A) (a := p) (h.block p.block (World.block_lt_of_cell? A p k) hp)).trans k


end Go.Proofs.YtacjfpibilolnaaGreatDoor

/- Division by school, walked: a multiple taken away, given back. -/
set_option linter.unusedVariables false
set_option linter.unusedSimpArgs false
namespace Go.Proofs.YtacjfpibilolnaaGreatDoor
open Go.RowKit Go.Shelf
attribute [local go_sem] max2_i min2_i max_two min_two

/-- Block g begins with the row X. -/
def A32 (W : World) (g : Nat) (X : List Nat) : Prop := ∃ cur : Array Value, W.heap[g]? = some (.cells cur 58 (0, 0)) ∧ X.length ≤ cur.size ∧ cur.toList.take X.length = vals X
theorem A32.cell {W g X} (h : A32 W g X) (i : Nat) (hi : i < X.length) : W.cell? ⟨g, i, none⟩ = some (.int .u32 (gl X i : Nat)) := by
  obtain ⟨cur, h1, h2, h3⟩ := h
  have h4 := vals_get X i hi
  rw [← h3, List.getElem?_take_of_lt hi, Array.getElem?_toList] at h4
  unfold World.cell?; rw [h1]; simpa using h4
theorem A32.frozen {W g X} (h : A32 W g X) (i : Nat) : W.frozen? ⟨g, i, none⟩ = false := by
  obtain ⟨cur, h1, _⟩ := h
  unfold World.frozen?; rw [h1]; simp
theorem A32.store {W g X} (h : A32 W g X) (i x : Nat) : A32 (W.setCell ⟨g, i, none⟩ (.int .u32 (x : Nat))) g (X.set i x) := by
  obtain ⟨cur, h1, h2, h3⟩ := h
  refine ⟨_, heap_setCell_same W g i _ _ _ h1, by simpa using h2, ?_⟩
  rw [List.length_set, vals_set, ← h3, Array.toList_setIfInBounds, List.take_set]
theorem A32.lt {W g X} (h : A32 W g X) : g < W.heap.size := by
  obtain ⟨cur, h1, _⟩ := h
  exact (Array.getElem?_eq_some_iff.1 h1).1
theorem A32.below {W W' g X} (h : A32 W g X) (k : Below W.heap.size W W') : A32 W' g X := by
  have hl := h.lt
  obtain ⟨cur, h1, h2⟩ := h
  exact ⟨cur, (k.block g hl).trans h1, h2⟩
theorem A32.other {W W' g b X} (h : A32 W g X) (k : Only b W W') (hb : g ≠ b) : A32 W' g X := by
  have hl := h.lt
  obtain ⟨cur, h1, h2⟩ := h
  exact ⟨cur, (k.block g hl hb).trans h1, h2⟩
theorem Only.nat {g : Nat} {W W' : World} {A : Option Addr} {c n : Nat} (h : Only g W W') (k : NatV W A c n) (far : ∀ ad, A = some ad → ad.block ≠ g) : NatV W' A c n := by
  refine ⟨?_, k.cap, k.cmax⟩
  rcases k.rd with h1 | ⟨ad, rfl, h1⟩
  · exact .inl h1
  · refine .inr ⟨ad, rfl, fun i v hv => h.cell (h1 i v hv) ?_⟩
    show (Addr.add ad i).block ≠ g
    unfold Addr.add; split <;> exact far ad rfl
theorem gl_set1 {l : List Nat} {i x : Nat} (h : i < l.length) : gl (l.set i x) i = x := by simp [gl, List.getD_eq_getElem?_getD, h]
theorem wnd_set {X : List Nat} {i k x : Nat} (h : i + k < X.length) : wnd (X.set (i + k) x) i (k + 1) = wnd X i k + 4294967296 ^ k * x := by
  rw [wnd, gl_set1 h, wnd_congr (Y := X) (fun j hj => gl_set_ne (by omega))]
theorem take_step {M X : List Nat} {i k q y cr br p d o lo br' cr' yk : Nat} (hl : i + k < M.length) (hv : wnd M i k + q * (y % 4294967296 ^ k) = wnd X i k + 4294967296 ^ k * (cr + br)) (ho : gl X (i + k) = o) (hy : yk = y / 4294967296 ^ k % 4294967296) (hp : p = q * yk + cr) (hc : cr' = p / 4294967296) (hlo : lo = p % 4294967296) (hd : o + 4294967296 * br' = d + lo + br) :
    wnd (M.set (i + k) d) i (k + 1) + q * (y % 4294967296 ^ (k + 1)) = wnd X i (k + 1) + 4294967296 ^ (k + 1) * (cr' + br') := by
  rw [wnd_set hl, wnd, ho, mod_dig, ← hy, Nat.pow_succ]
  have h1 := Nat.div_add_mod p 4294967296
  rw [← hc, ← hlo] at h1
  generalize 4294967296 ^ k = P at *
  generalize y % P = ym at *
  generalize wnd M i k = m at *
  generalize wnd X i k = x at *
  have e1 : q * yk + cr + br + d = o + 4294967296 * br' + 4294967296 * cr' := by omega
  grind
set_option maxRecDepth 100000 in
set_option maxHeartbeats 2000000 in
theorem take_c (g i n c : Nat) (X : List Nat) (B : Option Addr) (d y q : Nat) (w : World) (hX : A32 w g X) (hXl : Lim X) (hin : i + n + 1 ≤ X.length) (hXb : X.length ≤ 1073741824) (hc : n + 1 ≤ c) (hB : NatV w B d y) (hyn : nl y = n) (far : ∀ ad, B = some ad → ad.block ≠ g) (hq : q < 4294967296) :
    Calls Tryz.prog 144 #[.slice (some ⟨g, i, none⟩) (n + 1 : Nat) c, .slice B n d, .int .u64 (q : Nat)] w fun e w' => ∃ (X' : List Nat) (br : Nat), e = .returned (.bool (decide (0 < br))) ∧ br ≤ 1 ∧ Only g w w' ∧ A32 w' g X' ∧ Lim X' ∧ X'.length = X.length ∧ (∀ j, j < i ∨ i + n < j → gl X' j = gl X j) ∧ wnd X' i (n + 1) + q * y = wnd X i (n + 1) + 4294967296 ^ (n + 1) * br := by
  replace hyn := Lib.hid hyn
  have hXL := Lib.hid (rfl : X.length = X.length)
  obtain ⟨N, hN⟩ : ∃ N, N = X.length := ⟨_, rfl⟩
  rw [← hN] at hin hXb
  replace hN := Lib.hid hN
  replace far := Lib.hid far
  clear hXL
  go_enter Tryz.func144, Tryz.ntmps144
  go_wp2_with (fail)
  go_loopw [7, 8, 9, 10, 14] (fun vc vb vi vp ct wr => ∃ (k cr br : Nat) (M : List Nat), ct = .int .i64 k ∧ vc = .int .u64 cr ∧ vb = .int .u32 br ∧ k ≤ n + 1 ∧ cr < 4294967296 ∧ br ≤ 1 ∧ Only g w wr ∧ A32 wr g M ∧ Lim M ∧ Hid (M.length = N) ∧ Hid (∀ j, j < i ∨ i + k ≤ j → gl M j = gl X j) ∧ Hid (wnd M i k + q * (y % 4294967296 ^ k) = wnd X i k + 4294967296 ^ k * (cr + br)) ∧ Hid (k = n + 1 → cr = 0)) (fun vc vb vi vp ct wr => n + 1 - (intOf ct).toNat)
  case atStart => exact ⟨0, 0, 0, X, rfl, rfl, rfl, Nat.zero_le _, by decide, by decide, .refl _ _, hX, hXl, Lib.hid hN.out.symm, Lib.hid (fun _ _ => rfl), Lib.hid (by simp [wnd, Nat.mod_one]), Lib.hid (fun h => by omega)⟩
  case round =>
    obtain ⟨k, cr, br, M, rfl, rfl, rfl, hk, hcr, hbr, ho, hM, hMl, hlen, hout, hval, hend⟩ := hrel
    by_cases hlt : k < n + 1
    · have hik : i + k < M.length := by rw [hlen.out]; omega
      have hd0 : decide ((k : Int) < (n : Int) + 1) = true := by simp; omega
      have hcell := hM.cell (i + k) hik
      have hfz := hM.frozen (i + k)
      have hox := hout.out (i + k) (.inr (Nat.le_refl _))
      obtain ⟨o, hoo⟩ : ∃ o, o = gl M (i + k) := ⟨_, rfl⟩
      have hol : o < 4294967296 := by rw [hoo]; exact hMl.gl _
      rw [← hoo] at hcell hox
      obtain ⟨yk, hyk⟩ : ∃ z, z = y / 4294967296 ^ k % 4294967296 := ⟨_, rfl⟩
      have hykl : yk < 4294967296 := by rw [hyk]; exact dig_lt _ _
      obtain ⟨p, hp⟩ : ∃ p, p = q * yk + cr := ⟨_, rfl⟩
      have hpl : p ≤ 18446744069414584320 := by rw [hp]; have := mul_bd hq hykl; omega
      obtain ⟨lo, hlo⟩ : ∃ z, z = p % 4294967296 := ⟨_, rfl⟩
      have hloI : (p : Int) % 4294967296 = (lo : Int) := by omega
      have hlol : lo < 4294967296 := by omega
      obtain ⟨cr', hcr'⟩ : ∃ z, z = p / 4294967296 := ⟨_, rfl⟩
      have hcrI : (p : Int) / 4294967296 = (cr' : Int) := by omega
      have hcrl : cr' < 4294967296 := by omega
      have CS := sub32_c o lo br wr hol hlol hbr
      have hde := dif_eq hol hlol hbr
      have hdl := dif_lt o lo br
      have hbl := brw_le o lo br
      obtain ⟨dd, hdd⟩ : ∃ z, z = dif o lo br := ⟨_, rfl⟩
      obtain ⟨bb, hbb⟩ : ∃ z, z = brw o lo br := ⟨_, rfl⟩
      rw [← hdd, ← hbb] at CS hde
      rw [← hdd] at hdl
      rw [← hbb] at hbl
      have hst := hM.store (i + k) dd
      have hfin := take_step hik hval.out hox.symm hyk hp hcr' hlo hde
      have hgo : Hid (∀ j, j < i ∨ i + (k + 1) ≤ j → gl (M.set (i + k) dd) j = gl X j) := Lib.hid (fun j hj => by rw [gl_set_ne (by omega)]; exact hout.out j (by omega))
      have hle : Hid ((M.set (i + k) dd).length = N) := Lib.hid (by rw [List.length_set]; exact hlen.out)
      replace CS := Lib.hid CS
      replace hfin := Lib.hid hfin
      replace hik := Lib.hid hik
      replace hoo := Lib.hid hoo
      replace hlo := Lib.hid hlo
      replace hcr' := Lib.hid hcr'
      replace hdd := Lib.hid hdd
      replace hbb := Lib.hid hbb
      clear hde
      replace hox := Lib.hid hox
      by_cases hkn : k < n
      · obtain ⟨ad, hade, hcy⟩ := (ho.nat hB far.out).rd.get k (by show k < nl y; rw [hyn.out]; exact hkn)
        rw [limbs_gl, ← hyk] at hcy
        subst hade
        replace hyk := Lib.hid hyk
        obtain ⟨r, hr⟩ : ∃ r, r = q * yk := ⟨_, rfl⟩
        have hrI : (q : Int) * (yk : Int) = (r : Int) := by rw [hr]; exact (Int.natCast_mul q yk).symm
        have hrl : r ≤ 18446744065119617025 := by rw [hr]; exact mul_bd hq hykl
        have hpI : (r : Int) + (cr : Int) = (p : Int) := by rw [hp, hr]; simp
        replace hp := Lib.hid hp
        replace hr := Lib.hid hr
        go_wp2_with (fail)
        refine CS.out.mono ?_
        rintro e w' ⟨rfl, hww⟩
        subst hww
        go_wp2_with (fail)
        go_roundw
        case rel => exact ⟨k + 1, cr', bb, M.set (i + k) dd, by go_num, by first | rfl | trivial, by first | rfl | trivial, by omega, hcrl, hbl, ho.store _ _, hst, hMl.set _ _ hdl, hle, hgo, hfin, Lib.hid (fun h => by omega)⟩
        case measure => simp only [intOf]; omega
      · have hk2 : k = n := by omega
        have hy0 : yk = 0 := by rw [hyk, hk2, div_nl (Nat.le_of_eq hyn.out), Nat.zero_mod]
        have hpc : p = cr := by rw [hp, hy0]; simp
        have hc0 : cr' = 0 := by rw [hcr'.out]; omega
        have hlp : lo = p := by rw [hlo.out]; omega
        have CS2 := CS.out
        rw [hlp] at CS2
        replace CS2 := Lib.hid CS2
        clear hloI
        replace hlp := Lib.hid hlp
        subst hpc
        replace hc0 := Lib.hid hc0
        replace hk2 := Lib.hid hk2
        replace hy0 := Lib.hid hy0
        replace hyk := Lib.hid hyk
        replace hp := Lib.hid hp
        go_wp2_with (fail)
        refine CS2.out.mono ?_
        rintro e w' ⟨rfl, hww⟩
        subst hww
        go_wp2_with (fail)
        go_roundw
        case rel => exact ⟨k + 1, cr', bb, M.set (i + k) dd, by go_num, by first | rfl | trivial, by first | rfl | trivial, by omega, hcrl, hbl, ho.store _ _, hst, hMl.set _ _ hdl, hle, hgo, hfin, Lib.hid (fun h => hc0.out)⟩
        case measure => simp only [intOf]; omega
    · have hk2 : k = n + 1 := by omega
      have hc0 := hend.out hk2
      have h1 := hval.out
      rw [hk2, hc0, mod_nl (show nl y ≤ n + 1 by rw [hyn.out]; omega), Nat.zero_add] at h1
      have h2 : ∀ j, j < i ∨ i + n < j → gl M j = gl X j := fun j hj => hout.out j (by omega)
      have h3 : M.length = X.length := by rw [hlen.out, hN.out]
      replace h1 := Lib.hid h1
      replace h2 := Lib.hid h2
      replace h3 := Lib.hid h3
      replace hk2 := Lib.hid hk2
      replace hc0 := Lib.hid hc0
      go_wp2_with (fail)
      go_ret
      exact ⟨M, br, by first | rfl | (congr 2; simp), hbr, ho, hM, hMl, h3.out, h2.out, h1.out⟩
theorem back_step {M X : List Nat} {i k y cr o yk : Nat} (hl : i + k < M.length) (hv : wnd M i k + 4294967296 ^ k * cr = wnd X i k + y % 4294967296 ^ k) (ho : gl X (i + k) = o) (hy : yk = y / 4294967296 ^ k % 4294967296) :
    wnd (M.set (i + k) ((o + yk + cr) % 4294967296)) i (k + 1) + 4294967296 ^ (k + 1) * ((o + yk + cr) / 4294967296) = wnd X i (k + 1) + y % 4294967296 ^ (k + 1) := by
  rw [wnd_set hl, wnd, ho, mod_dig, ← hy, Nat.pow_succ]
  have h1 := Nat.div_add_mod (o + yk + cr) 4294967296
  generalize (o + yk + cr) % 4294967296 = s at *
  generalize (o + yk + cr) / 4294967296 = c at *
  generalize 4294967296 ^ k = P at *
  generalize y % P = ym at *
  generalize wnd M i k = m at *
  generalize wnd X i k = x at *
  grind
set_option maxRecDepth 100000 in
set_option maxHeartbeats 2000000 in
theorem back_c (g i n c : Nat) (X : List Nat) (B : Option Addr) (d y : Nat) (w : World) (hX : A32 w g X) (hXl : Lim X) (hin : i + n + 1 ≤ X.length) (hXb : X.length ≤ 1073741824) (hc : n + 1 ≤ c) (hB : NatV w B d y) (hyn : nl y = n) (far : ∀ ad, B = some ad → ad.block ≠ g) :
    Calls Tryz.prog 145 #[.slice (some ⟨g, i, none⟩) (n + 1 : Nat) c, .slice B n d] w fun e w' => ∃ (X' : List Nat) (cc : Nat), e = .returned (.tuple #[]) ∧ Only g w w' ∧ A32 w' g X' ∧ Lim X' ∧ X'.length = X.length ∧ (∀ j, j < i ∨ i + n < j → gl X' j = gl X j) ∧ wnd X' i (n + 1) + 4294967296 ^ (n + 1) * cc = wnd X i (n + 1) + y := by
  replace hyn := Lib.hid hyn
  obtain ⟨N, hN⟩ : ∃ N, N = X.length := ⟨_, rfl⟩
  rw [← hN] at hin hXb
  replace hN := Lib.hid hN
  replace far := Lib.hid far
  go_enter Tryz.func145, Tryz.ntmps145
  go_wp2_with (fail)
  go_loopw [4, 5, 8] (fun vc vi ct wr => ∃ (k cr : Nat) (M : List Nat), ct = .int .i64 k ∧ vc = .int .u32 cr ∧ k ≤ n ∧ cr ≤ 1 ∧ Only g w wr ∧ A32 wr g M ∧ Lim M ∧ Hid (M.length = N) ∧ Hid (∀ j, j < i ∨ i + k ≤ j → gl M j = gl X j) ∧ Hid (wnd M i k + 4294967296 ^ k * cr = wnd X i k + y % 4294967296 ^ k)) (fun vc vi ct wr => n - (intOf ct).toNat)
  case atStart => exact ⟨0, 0, X, rfl, rfl, Nat.zero_le _, by decide, .refl _ _, hX, hXl, Lib.hid hN.out.symm, Lib.hid (fun _ _ => rfl), Lib.hid (by simp [wnd, Nat.mod_one])⟩
  case round =>
    obtain ⟨k, cr, M, rfl, rfl, hk, hcr, ho, hM, hMl, hlen, hout, hval⟩ := hrel
    by_cases hlt : k < n
    · have hik : i + k < M.length := by rw [hlen.out]; omega
      have hMd : A32 wr.drew g M := hM
      have hcell := hMd.cell (i + k) hik
      have hfz := hMd.frozen (i + k)
      have hox := hout.out (i + k) (.inr (Nat.le_refl _))
      obtain ⟨o, hoo⟩ : ∃ o, o = gl M (i + k) := ⟨_, rfl⟩
      have hol : o < 4294967296 := by rw [hoo]; exact hMl.gl _
      rw [← hoo] at hcell hox
      obtain ⟨yk, hyk⟩ : ∃ z, z = y / 4294967296 ^ k % 4294967296 := ⟨_, rfl⟩
      have hykl : yk < 4294967296 := by rw [hyk]; exact dig_lt _ _
      have hfin := back_step (cr := cr) hik hval.out hox.symm hyk
      have CA := fun (W : World) => add32_c o yk cr W hol hykl hcr
      obtain ⟨s, hs⟩ : ∃ z, z = (o + yk + cr) % 4294967296 := ⟨_, rfl⟩
      obtain ⟨c', hc'⟩ : ∃ z, z = (o + yk + cr) / 4294967296 := ⟨_, rfl⟩
      have hsl : s < 4294967296 := by rw [hs]; exact Nat.mod_lt _ (by decide)
      have hcl : c' ≤ 1 := by omega
      rw [← hs, ← hc'] at hfin CA
      have hst := hMd.store (i + k) s
      have hgo : Hid (∀ j, j < i ∨ i + (k + 1) ≤ j → gl (M.set (i + k) s) j = gl X j) := Lib.hid (fun j hj => by rw [gl_set_ne (by omega)]; exact hout.out j (by omega))
      have hle : Hid ((M.set (i + k) s).length = N) := Lib.hid (by rw [List.length_set]; exact hlen.out)
      obtain ⟨ad, hade, hcy⟩ := (ho.drew.nat hB far.out).rd.get k (by show k < nl y; rw [hyn.out]; exact hlt)
      rw [limbs_gl, ← hyk] at hcy
      subst hade
      have hik2 : k < n + 1 := by omega
      replace CA := Lib.hid CA
      replace hfin := Lib.hid hfin
      replace hik := Lib.hid hik
      replace hoo := Lib.hid hoo
      replace hox := Lib.hid hox
      replace hs := Lib.hid hs
      replace hc' := Lib.hid hc'
      replace hyk := Lib.hid hyk
      go_wp2_with (fail)
      go_region_with (go_at_call 129; (with_reducible refine (CA.out _).mono ?_); rintro e w' ⟨rfl, rfl⟩)
      all_goals
        go_wp2_with (fail)
        go_roundw
        case rel => exact ⟨k + 1, c', M.set (i + k) s, by go_num, by first | rfl | trivial, by omega, hcl, ho.drew.store _ _, hst, hMl.set _ _ hsl, hle, hgo, hfin⟩
        case measure => simp only [intOf]; omega
    · have hk2 : k = n := by omega
      have hik : i + n < M.length := by rw [hlen.out]; omega
      have hcell := hM.cell (i + n) hik
      have hfz := hM.frozen (i + n)
      have hox := hout.out (i + n) (.inr (by omega))
      obtain ⟨o, hoo⟩ : ∃ o, o = gl M (i + n) := ⟨_, rfl⟩
      have hol : o < 4294967296 := by rw [hoo]; exact hMl.gl _
      rw [← hoo] at hcell hox
      have h1 := hval.out
      rw [hk2] at h1
      have hfin := back_step (cr := cr) hik h1 hox.symm rfl
      rw [div_nl (show nl y ≤ n by rw [hyn.out]; exact Nat.le_refl _), Nat.zero_mod, mod_nl (show nl y ≤ n + 1 by rw [hyn.out]; omega), Nat.add_zero] at hfin
      obtain ⟨s, hs⟩ : ∃ z, z = (o + cr) % 4294967296 := ⟨_, rfl⟩
      have hsI : ((o : Int) + (cr : Int)) % 4294967296 = (s : Int) := by omega
      have hsl : s < 4294967296 := by omega
      rw [← hs] at hfin
      have hst := hM.store (i + n) s
      have h2 : ∀ j, j < i ∨ i + n < j → gl (M.set (i + n) s) j = gl X j := fun j hj => by rw [gl_set_ne (by omega)]; exact hout.out j (by omega)
      have h3 : (M.set (i + n) s).length = X.length := by rw [List.length_set, hlen.out, hN.out]
      replace h2 := Lib.hid h2
      replace h3 := Lib.hid h3
      replace hfin := Lib.hid hfin
      replace hik := Lib.hid hik
      replace hoo := Lib.hid hoo
      replace hox := Lib.hid hox
      replace hs := Lib.hid hs
      replace hk2 := Lib.hid hk2
      clear h1
      go_wp2_with (fail)
      refine bodyPost_end (v := .tuple #[]) (by simp [results, Tryz.results145, go_sem]) rfl ?_
      refine ⟨M.set (i + n) s, _, rfl, ?_, ?_, hMl.set _ _ hsl, h3.out, h2.out, hfin.out⟩
      · first | exact ho.store _ _ | (simp only [hsI]; exact ho.store _ _)
      · first | exact hst | (simp only [hsI]; exact hst)
end Go.Proofs.YtacjfpibilolnaaGreatDoor
