/- Whole numbers, walked: Add. -/
import Derived.Test.YthcmoimlnhghcaaDoorG02
import Derived.Test.YthcmoimlnhghcaaDoorG01
import Derived.BigQuiet
import Derived.Deep.QuietTactic
import Derived.Shelf.Spec.TrailingZeros
import Derived.IntWalk
import Derived.Orders
import Derived.Deep.RegionHeld3
import Derived.RangeFuncCalls
set_option maxRecDepth 100000
set_option maxHeartbeats 4000000
set_option linter.unusedVariables false
set_option linter.unusedSimpArgs false
namespace Go.Proofs.YthcmoimlnhghcaaDoor
open Go.RowKit Go.Shelf
attribute [local go_sem] max2_i min2_i max_two min_two

theorem BoxA.other2 {W : World} {j k : Nat} {t : TypeId} {us : Array Value} {v0 v1 : Value} (h : BoxA W j t us) (hne : j ≠ k) : BoxA ((W.setCell ⟨k, 0, none⟩ v0).setCell ⟨k, 1, none⟩ v1) j t us := ⟨(set2_far j hne).trans h.at_⟩
theorem ival_add {a b : Int} (h : sg a = sg b) : ival (sg a) (mg a + mg b) = a + b := by
  unfold sg at h; unfold ival sg mg
  simp only [decide_eq_decide] at h
  by_cases ha : a < 0
  · have := h.1 ha; simp [ha]; omega
  · have : ¬ b < 0 := fun e => ha (h.2 e); simp [ha]; omega
theorem ival_sub {a b : Int} (h : sg a ≠ sg b) (hl : mg b ≤ mg a) : ival (sg a) (mg a - mg b) = a + b := by
  unfold sg at h; unfold mg at hl; unfold ival sg mg
  by_cases ha : a < 0
  · have : ¬ b < 0 := fun e => h (by simp [ha, e]); simp [ha]; omega
  · have : b < 0 := Decidable.byContradiction fun e => h (by simp [ha, e]); simp [ha]; omega
theorem iadd_same (aA : Option Addr) (ac : Nat) (a : Int) (bA : Option Addr) (bc : Nat) (b : Int) (w : World) (ha : NatV w aA ac (mg a)) (hb : NatV w bA bc (mg b)) (la : nl (mg a) ≤ 1048576) (lb : nl (mg b) ≤ 1048576) (hs : sg a = sg b) :
    Calls Tryd.prog 63 #[.agg #[.bool (sg a), .slice aA (nl (mg a)) ac], .agg #[.bool (sg b), .slice bA (nl (mg b)) bc]] w (RetI w (a + b)) := by
  have t1 : (sg a == sg b) = true := beq_iff_eq.mpr hs
  have hv := ival_add hs
  replace hv := Lib.hid hv
  replace hs := Lib.hid hs
  have hb1 : Below (w).heap.size (w) (((w.alloc (.cells #[.bool (sg a), .slice aA (nl (mg a)) ac] 31)).alloc (.cells #[.bool (sg b), .slice bA (nl (mg b)) bc] 31)).alloc (.cells #[.bool false, .slice none 0 0] 31)) := (Below.alloc (Below.alloc (Below.alloc (Below.refl _ _) (Nat.le_refl _) _) (by simp <;> omega) _) (by simp <;> omega) _)
  replace ha := ha.below hb1
  replace hb := hb.below hb1
  have HBT := hb1
  clear hb1
  have Ra : BoxA (((w.alloc (.cells #[.bool (sg a), .slice aA (nl (mg a)) ac] 31)).alloc (.cells #[.bool (sg b), .slice bA (nl (mg b)) bc] 31)).alloc (.cells #[.bool false, .slice none 0 0] 31)) w.heap.size 31 #[.bool (sg a), .slice aA (nl (mg a)) ac] := ⟨by repeat (first | exact at_new (by simp) | refine at_old (by simp <;> omega) ?_)⟩
  have qa0 := Ra.c (i := 0) rfl
  have qa1 := Ra.c (i := 1) rfl
  have Rb : BoxA (((w.alloc (.cells #[.bool (sg a), .slice aA (nl (mg a)) ac] 31)).alloc (.cells #[.bool (sg b), .slice bA (nl (mg b)) bc] 31)).alloc (.cells #[.bool false, .slice none 0 0] 31)) (w.heap.size + 1) 31 #[.bool (sg b), .slice bA (nl (mg b)) bc] := ⟨by repeat (first | exact at_new (by simp) | refine at_old (by simp <;> omega) ?_)⟩
  have qb0 := Rb.c (i := 0) rfl
  have qb1 := Rb.c (i := 1) rfl
  have Rr : BoxA (((w.alloc (.cells #[.bool (sg a), .slice aA (nl (mg a)) ac] 31)).alloc (.cells #[.bool (sg b), .slice bA (nl (mg b)) bc] 31)).alloc (.cells #[.bool false, .slice none 0 0] 31)) (w.heap.size + 2) 31 #[.bool false, .slice none 0 0] := ⟨by repeat (first | exact at_new (by simp) | refine at_old (by simp <;> omega) ?_)⟩
  have qr0 := Rr.c (i := 0) rfl
  have qr1 := Rr.c (i := 1) rfl
  go_enter Tryd.func63, Tryd.ntmps63
  go_wp2_with (fail)
  have hd2 := drb ((((w.alloc (.cells #[.bool (sg a), .slice aA (nl (mg a)) ac] 31)).alloc (.cells #[.bool (sg b), .slice bA (nl (mg b)) bc] 31)).alloc (.cells #[.bool false, .slice none 0 0] 31)))
  replace ha := ha.below hd2
  replace hb := hb.below hd2
  replace Ra := Ra.below hd2
  replace qa0 := cbl hd2 qa0
  replace qa1 := cbl hd2 qa1
  replace Rb := Rb.below hd2
  replace qb0 := cbl hd2 qb0
  replace qb1 := cbl hd2 qb1
  replace Rr := Rr.below hd2
  replace qr0 := cbl hd2 qr0
  replace qr1 := cbl hd2 qr1
  replace HBT := Below.cons HBT hd2
  clear hd2
  obtain ⟨n, En⟩ : ∃ zq : Nat, zq = mg a + mg b := ⟨_, rfl⟩
  have Bn : nl n ≤ 2097154 := by rw [En]; have := nl_add (mg a) (mg b); omega
  have C2_0 := fun (W : World) (h1 : NatV W aA ac (mg a)) (h2 : NatV W bA bc (mg b)) => add_c aA ac (mg a) bA bc (mg b) W h1 h2 (by omega) (by omega)
  simp only [← En] at C2_0
  replace En := Lib.hid En
  replace C2_0 := Lib.hid C2_0
  obtain ⟨z, Ez⟩ : ∃ zq : Int, zq = ival (sg a) n := ⟨_, rfl⟩
  have C2_1 := fun (W : World) (A : Option Addr) (c : Nat) (h1 : NatV W A c n) => imake_c (sg a) A c n W h1 (by omega)
  simp only [← Ez] at C2_1
  replace Ez := Lib.hid Ez
  replace C2_1 := Lib.hid C2_1
  go_region_held3 (fun W => W.cell? ⟨w.heap.size, 0, none⟩ = some (.bool (sg a)) ∧ W.cell? ⟨w.heap.size, 1, none⟩ = some (.slice aA (nl (mg a)) ac) ∧ W.cell? ⟨(w.heap.size + 1), 1, none⟩ = some (.slice bA (nl (mg b)) bc))
    (first
      | exact ⟨qa0, qa1, qb1⟩
      | exact ⟨qa0_3, qa1_3, qb1_3⟩
      | exact ⟨qa0_4, qa1_4, qb1_4⟩
      | exact ⟨((Ra_4.other2 (by simp <;> omega)).c (i := 0) rfl), ((Ra_4.other2 (by simp <;> omega)).c (i := 1) rfl), ((Rb_4.other2 (by simp <;> omega)).c (i := 1) rfl)⟩
      | go_keep)
    (first
      | (go_at_call 53; (with_reducible refine (C2_0.out _ ha hb).mono ?_); rintro e W3 ⟨Xn, cn, rfl, hn, hb3⟩; have ha_3 := ha.below hb3; have hb_3 := hb.below hb3; have Ra_3 := Ra.below hb3; have qa0_3 := cbl hb3 qa0; have qa1_3 := cbl hb3 qa1; have Rb_3 := Rb.below hb3; have qb0_3 := cbl hb3 qb0; have qb1_3 := cbl hb3 qb1; have Rr_3 := Rr.below hb3; have qr0_3 := cbl hb3 qr0; have qr1_3 := cbl hb3 qr1; have HBT_3 := Below.cons HBT hb3)
      | (go_at_call 56; (with_reducible refine (C2_1.out _ _ _ hn).mono ?_); rintro e W4 ⟨Xz, cz, rfl, hz, hb4⟩; have ha_4 := ha_3.below hb4; have hb_4 := hb_3.below hb4; have Ra_4 := Ra_3.below hb4; have qa0_4 := cbl hb4 qa0_3; have qa1_4 := cbl hb4 qa1_3; have Rb_4 := Rb_3.below hb4; have qb0_4 := cbl hb4 qb0_3; have qb1_4 := cbl hb4 qb1_3; have Rr_4 := Rr_3.below hb4; have qr0_4 := cbl hb4 qr0_3; have qr1_4 := cbl hb4 qr1_3; have hn_4 := hn.below hb4; have HBT_4 := Below.cons HBT_3 hb4; have fz0 := Rr_4.f (i := 0); have fz1 := Rr_4.f (i := 1)))
  all_goals (try go_wp2_with (fail))
  have hz : z = a + b := by rw [Ez.out, En.out]; exact hv.out
  subst hz
  have RS := Rr_4.store2 (.bool (sg ((a + b)))) (.slice Xz (nl (mg ((a + b)))) cz)
  have e0 := RS.c (i := 0) rfl
  have e1 := RS.c (i := 1) rfl
  refine bodyPost_ret (v := .agg #[.bool (sg ((a + b))), .slice Xz (nl (mg ((a + b)))) cz]) (by simp [results, Tryd.results63, go_sem, e0, e1]) rfl ?_
  exact ⟨Xz, cz, rfl, (Rr_4.keep2 (nuB rfl) hz), (Below.store2 HBT_4 (by first | exact Nat.le_refl _ | omega))⟩
theorem iadd_apart (aA : Option Addr) (ac : Nat) (a : Int) (bA : Option Addr) (bc : Nat) (b : Int) (w : World) (ha : NatV w aA ac (mg a)) (hb : NatV w bA bc (mg b)) (la : nl (mg a) ≤ 1048576) (lb : nl (mg b) ≤ 1048576) (hs : sg a ≠ sg b) :
    Calls Tryd.prog 63 #[.agg #[.bool (sg a), .slice aA (nl (mg a)) ac], .agg #[.bool (sg b), .slice bA (nl (mg b)) bc]] w (RetI w (a + b)) := by
  have t1 : (sg a == sg b) = false := beq_eq_false_iff_ne.mpr hs
  have hb1 : Below (w).heap.size (w) (((w.alloc (.cells #[.bool (sg a), .slice aA (nl (mg a)) ac] 31)).alloc (.cells #[.bool (sg b), .slice bA (nl (mg b)) bc] 31)).alloc (.cells #[.bool false, .slice none 0 0] 31)) := (Below.alloc (Below.alloc (Below.alloc (Below.refl _ _) (Nat.le_refl _) _) (by simp <;> omega) _) (by simp <;> omega) _)
  replace ha := ha.below hb1
  replace hb := hb.below hb1
  have HBT := hb1
  clear hb1
  have Ra : BoxA (((w.alloc (.cells #[.bool (sg a), .slice aA (nl (mg a)) ac] 31)).alloc (.cells #[.bool (sg b), .slice bA (nl (mg b)) bc] 31)).alloc (.cells #[.bool false, .slice none 0 0] 31)) w.heap.size 31 #[.bool (sg a), .slice aA (nl (mg a)) ac] := ⟨by repeat (first | exact at_new (by simp) | refine at_old (by simp <;> omega) ?_)⟩
  have qa0 := Ra.c (i := 0) rfl
  have qa1 := Ra.c (i := 1) rfl
  have Rb : BoxA (((w.alloc (.cells #[.bool (sg a), .slice aA (nl (mg a)) ac] 31)).alloc (.cells #[.bool (sg b), .slice bA (nl (mg b)) bc] 31)).alloc (.cells #[.bool false, .slice none 0 0] 31)) (w.heap.size + 1) 31 #[.bool (sg b), .slice bA (nl (mg b)) bc] := ⟨by repeat (first | exact at_new (by simp) | refine at_old (by simp <;> omega) ?_)⟩
  have qb0 := Rb.c (i := 0) rfl
  have qb1 := Rb.c (i := 1) rfl
  have Rr : BoxA (((w.alloc (.cells #[.bool (sg a), .slice aA (nl (mg a)) ac] 31)).alloc (.cells #[.bool (sg b), .slice bA (nl (mg b)) bc] 31)).alloc (.cells #[.bool false, .slice none 0 0] 31)) (w.heap.size + 2) 31 #[.bool false, .slice none 0 0] := ⟨by repeat (first | exact at_new (by simp) | refine at_old (by simp <;> omega) ?_)⟩
  have qr0 := Rr.c (i := 0) rfl
  have qr1 := Rr.c (i := 1) rfl
  go_enter Tryd.func63, Tryd.ntmps63
  go_wp2_with (fail)
  refine (Calls.mono (cmp_c aA ac (mg a) bA bc (mg b) _ ha hb (by omega) (by omega)) ?_)
  rintro e W2 ⟨rfl, hb2⟩
  replace ha := ha.below hb2
  replace hb := hb.below hb2
  replace Ra := Ra.below hb2
  replace qa0 := cbl hb2 qa0
  replace qa1 := cbl hb2 qa1
  replace Rb := Rb.below hb2
  replace qb0 := cbl hb2 qb0
  replace qb1 := cbl hb2 qb1
  replace Rr := Rr.below hb2
  replace qr0 := cbl hb2 qr0
  replace qr1 := cbl hb2 qr1
  replace HBT := Below.cons HBT hb2
  clear hb2
  by_cases hl : mg a < mg b
  · have t2 : decide (cmpN (mg a) (mg b) < 0) = true := by rw [decide_eq_true_eq, cmpN_neg]; exact hl
    have hle : mg a ≤ mg b := Nat.le_of_lt hl
    have hv := ival_sub (fun e => hs e.symm) hle
    replace hv := Lib.hid hv
    replace hl := Lib.hid hl
    have fa0_3 := Ra.f (i := 0)
    have fa1_3 := Ra.f (i := 1)
    have Ra_3 := Ra.store2 (.bool (sg b)) (.slice bA (nl (mg b)) bc)
    have Rb_3 : BoxA ((W2.setCell ⟨w.heap.size, 0, none⟩ (.bool (sg b))).setCell ⟨w.heap.size, 1, none⟩ (.slice bA (nl (mg b)) bc)) _ _ _ := Rb.other2 (by simp <;> omega)
    have Rr_3 : BoxA ((W2.setCell ⟨w.heap.size, 0, none⟩ (.bool (sg b))).setCell ⟨w.heap.size, 1, none⟩ (.slice bA (nl (mg b)) bc)) _ _ _ := Rr.other2 (by simp <;> omega)
    have ha_3 := Ra.keep2 (v0 := .bool (sg b)) (v1 := .slice bA (nl (mg b)) bc) (nuB rfl) ha
    have hb_3 := Ra.keep2 (v0 := .bool (sg b)) (v1 := .slice bA (nl (mg b)) bc) (nuB rfl) hb
    have qa0_3 := Ra_3.c (i := 0) rfl
    have qa1_3 := Ra_3.c (i := 1) rfl
    have qb0_3 := Rb_3.c (i := 0) rfl
    have qb1_3 := Rb_3.c (i := 1) rfl
    have qr0_3 := Rr_3.c (i := 0) rfl
    have qr1_3 := Rr_3.c (i := 1) rfl
    have HBT_3 := Below.store2 (v0 := .bool (sg b)) (v1 := .slice bA (nl (mg b)) bc) HBT (k := w.heap.size) (by first | exact Nat.le_refl _ | omega)
    have fb0_4 := Rb_3.f (i := 0)
    have fb1_4 := Rb_3.f (i := 1)
    have Ra_4 : BoxA ((((W2.setCell ⟨w.heap.size, 0, none⟩ (.bool (sg b))).setCell ⟨w.heap.size, 1, none⟩ (.slice bA (nl (mg b)) bc)).setCell ⟨(w.heap.size + 1), 0, none⟩ (.bool (sg a))).setCell ⟨(w.heap.size + 1), 1, none⟩ (.slice aA (nl (mg a)) ac)) _ _ _ := Ra_3.other2 (by simp <;> omega)
    have Rb_4 := Rb_3.store2 (.bool (sg a)) (.slice aA (nl (mg a)) ac)
    have Rr_4 : BoxA ((((W2.setCell ⟨w.heap.size, 0, none⟩ (.bool (sg b))).setCell ⟨w.heap.size, 1, none⟩ (.slice bA (nl (mg b)) bc)).setCell ⟨(w.heap.size + 1), 0, none⟩ (.bool (sg a))).setCell ⟨(w.heap.size + 1), 1, none⟩ (.slice aA (nl (mg a)) ac)) _ _ _ := Rr_3.other2 (by simp <;> omega)
    have ha_4 := Rb_3.keep2 (v0 := .bool (sg a)) (v1 := .slice aA (nl (mg a)) ac) (nuB rfl) ha_3
    have hb_4 := Rb_3.keep2 (v0 := .bool (sg a)) (v1 := .slice aA (nl (mg a)) ac) (nuB rfl) hb_3
    have qa0_4 := Ra_4.c (i := 0) rfl
    have qa1_4 := Ra_4.c (i := 1) rfl
    have qb0_4 := Rb_4.c (i := 0) rfl
    have qb1_4 := Rb_4.c (i := 1) rfl
    have qr0_4 := Rr_4.c (i := 0) rfl
    have qr1_4 := Rr_4.c (i := 1) rfl
    have HBT_4 := Below.store2 (v0 := .bool (sg a)) (v1 := .slice aA (nl (mg a)) ac) HBT_3 (k := (w.heap.size + 1)) (by first | exact Nat.le_refl _ | omega)
    go_wp2_with (fail)
    clear fa0_3 fa1_3 Ra Rb Rr ha hb qa0 qa1 qb0 qb1 qr0 qr1 HBT fb0_4 fb1_4 Ra_3 Rb_3 Rr_3 ha_3 hb_3 qa0_3 qa1_3 qb0_3 qb1_3 qr0_3 qr1_3 HBT_3
    obtain ⟨n, En⟩ : ∃ zq : Nat, zq = mg b - mg a := ⟨_, rfl⟩
    have Bn : nl n ≤ 1048576 := by rw [En]; have := nl_sub (mg b) (mg a); omega
    have CS := sub_c bA bc (mg b) aA ac (mg a) _ hb_4 ha_4 (by omega) (by omega) hle
    rw [← En] at CS
    replace En := Lib.hid En
    refine (Calls.mono CS ?_)
    rintro e W5 ⟨Xn, cn, rfl, hn, hb5⟩
    clear CS
    replace Ra_4 := Ra_4.below hb5
    replace Rb_4 := Rb_4.below hb5
    replace Rr_4 := Rr_4.below hb5
    replace ha_4 := ha_4.below hb5
    replace hb_4 := hb_4.below hb5
    replace qa0_4 := cbl hb5 qa0_4
    replace qa1_4 := cbl hb5 qa1_4
    replace qb0_4 := cbl hb5 qb0_4
    replace qb1_4 := cbl hb5 qb1_4
    replace qr0_4 := cbl hb5 qr0_4
    replace qr1_4 := cbl hb5 qr1_4
    have HBT := Below.cons HBT_4 hb5
    clear hb5
    go_wp2_with (fail)
    obtain ⟨z, Ez⟩ : ∃ zq : Int, zq = ival (sg b) n := ⟨_, rfl⟩
    refine (Calls.mono (R := RetI W5 z) (by rw [Ez]; exact (imake_c (sg b) Xn cn n _ hn (by omega))) ?_)
    replace Ez := Lib.hid Ez
    rintro e W6 ⟨Xz, cz, rfl, hz, hb6⟩
    replace Ra_4 := Ra_4.below hb6
    replace Rb_4 := Rb_4.below hb6
    replace Rr_4 := Rr_4.below hb6
    replace ha_4 := ha_4.below hb6
    replace hb_4 := hb_4.below hb6
    replace qa0_4 := cbl hb6 qa0_4
    replace qa1_4 := cbl hb6 qa1_4
    replace qb0_4 := cbl hb6 qb0_4
    replace qb1_4 := cbl hb6 qb1_4
    replace qr0_4 := cbl hb6 qr0_4
    replace qr1_4 := cbl hb6 qr1_4
    replace hn := hn.below hb6
    replace HBT := Below.cons HBT hb6
    clear hb6
    have fz0 := Rr_4.f (i := 0)
    have fz1 := Rr_4.f (i := 1)
    go_wp2_with (fail)
    have hz : z = a + b := by rw [Ez.out, En.out]; exact hv.out.trans (Int.add_comm b a)
    subst hz
    have RS := Rr_4.store2 (.bool (sg ((a + b)))) (.slice Xz (nl (mg ((a + b)))) cz)
    have e0 := RS.c (i := 0) rfl
    have e1 := RS.c (i := 1) rfl
    refine bodyPost_ret (v := .agg #[.bool (sg ((a + b))), .slice Xz (nl (mg ((a + b)))) cz]) (by simp [results, Tryd.results63, go_sem, e0, e1]) rfl ?_
    exact ⟨Xz, cz, rfl, (Rr_4.keep2 (nuB rfl) hz), (Below.store2 HBT (by first | exact Nat.le_refl _ | omega))⟩
  · have t2 : decide (cmpN (mg a) (mg b) < 0) = false := by rw [decide_eq_false_iff_not, cmpN_neg]; exact hl
    have hle : mg b ≤ mg a := by omega
    have hv := ival_sub hs hle
    replace hv := Lib.hid hv
    replace hl := Lib.hid hl
    go_wp2_with (fail)
    obtain ⟨n, En⟩ : ∃ zq : Nat, zq = mg a - mg b := ⟨_, rfl⟩
    have Bn : nl n ≤ 1048576 := by rw [En]; have := nl_sub (mg a) (mg b); omega
    have CS := sub_c aA ac (mg a) bA bc (mg b) _ ha hb (by omega) (by omega) hle
    rw [← En] at CS
    replace En := Lib.hid En
    refine (Calls.mono CS ?_)
    rintro e W3 ⟨Xn, cn, rfl, hn, hb3⟩
    clear CS
    replace ha := ha.below hb3
    replace hb := hb.below hb3
    replace Ra := Ra.below hb3
    replace qa0 := cbl hb3 qa0
    replace qa1 := cbl hb3 qa1
    replace Rb := Rb.below hb3
    replace qb0 := cbl hb3 qb0
    replace qb1 := cbl hb3 qb1
    replace Rr := Rr.below hb3
    replace qr0 := cbl hb3 qr0
    replace qr1 := cbl hb3 qr1
    replace HBT := Below.cons HBT hb3
    clear hb3
    go_wp2_with (fail)
    obtain ⟨z, Ez⟩ : ∃ zq : Int, zq = ival (sg a) n := ⟨_, rfl⟩
    refine (Calls.mono (R := RetI W3 z) (by rw [Ez]; exact (imake_c (sg a) Xn cn n _ hn (by omega))) ?_)
    replace Ez := Lib.hid Ez
    rintro e W4 ⟨Xz, cz, rfl, hz, hb4⟩
    replace ha := ha.below hb4
    replace hb := hb.below hb4
    replace Ra := Ra.below hb4
    replace qa0 := cbl hb4 qa0
    replace qa1 := cbl hb4 qa1
    replace Rb := Rb.below hb4
    replace qb0 := cbl hb4 qb0
    replace qb1 := cbl hb4 qb1
    replace Rr := Rr.below hb4
    replace qr0 := cbl hb4 qr0
    replace qr1 := cbl hb4 qr1
    replace hn := hn.below hb4
    replace HBT := Below.cons HBT hb4
    clear hb4
    have fz0 := Rr.f (i := 0)
    have fz1 := Rr.f (i := 1)
    go_wp2_with (fail)
    have hz : z = a + b := by rw [Ez.out, En.out]; exact hv.out
    subst hz
    have RS := Rr.store2 (.bool (sg ((a + b)))) (.slice Xz (nl (mg ((a + b)))) cz)
    have e0 := RS.c (i := 0) rfl
    have e1 := RS.c (i := 1) rfl
    refine bodyPost_ret (v := .agg #[.bool (sg ((a + b))), .slice Xz (nl (mg ((a + b)))) cz]) (by simp [results, Tryd.results63, go_sem, e0, e1]) rfl ?_
    exact ⟨Xz, cz, rfl, (Rr.keep2 (nuB rfl) hz), (Below.store2 HBT (by first | exact Nat.le_refl _ | omega))⟩
theorem iadd_c (aA : Option Addr) (ac : Nat) (a : Int) (bA : Option Addr) (bc : Nat) (b : Int) (w : World) (ha : NatV w aA ac (mg a)) (hb : NatV w bA bc (mg b)) (la : nl (mg a) ≤ 1048576) (lb : nl (mg b) ≤ 1048576) :
    Calls Tryd.prog 63 #[.agg #[.bool (sg a), .slice aA (nl (mg a)) ac], .agg #[.bool (sg b), .slice bA (nl (mg b)) bc]] w (RetI w (a + b)) := by
  by_cases h : sg a = sg b
  · exact iadd_same aA ac a bA bc b w ha hb la lb h
  · exact iadd_apart aA ac a bA bc b w ha hb la lb h
end Go.Proofs.YthcmoimlnhghcaaDoor

/- Whole numbers, walked: DivMod, Exact. -/
set_option linter.unusedVariables false
set_option linter.unusedSimpArgs false
namespace Go.Proofs.YthcmoimlnhghcaaDoor
open Go.RowKit Go.Shelf
attribute [local go_sem] max2_i min2_i max_two min_two

def RetII (w : World) (q r : Int) (e : Ending) (w' : World) : Prop := ∃ A c B d, e = .returned (.tuple #[.agg #[.bool (sg q), .slice A (nl (mg q)) c], .agg #[.bool (sg r), .slice B (nl (mg r)) d], .int .i64 0]) ∧ NatV w' A c (mg q) ∧ NatV w' B d (mg r) ∧ Below w.heap.size w w'
theorem ediv_uniq {a b q r : Int} (hb : b ≠ 0) (h : a = q * b + r) (h0 : 0 ≤ r) (h1 : r < b.natAbs) : a / b = q ∧ a % b = r := by
  rcases Int.lt_or_gt_of_ne hb with hn | hp
  · have e : a = (-q) * (-b) + r := by rw [Int.neg_mul_neg]; exact h
    have := (Int.ediv_emod_unique (a := a) (b := -b) (r := r) (q := -q) (by omega)).2 ⟨by rw [Int.mul_comm (-b) (-q)]; omega, h0, by omega⟩
    rw [Int.ediv_neg, Int.emod_neg] at this
    exact ⟨by omega, this.2⟩
  · exact (Int.ediv_emod_unique hp).2 ⟨by rw [Int.mul_comm b q]; omega, h0, by omega⟩
theorem ival_false (n : Nat) : ival false n = n := rfl
theorem dm_plain {a b : Int} (hb : b ≠ 0) (h : 0 ≤ a ∨ mg a % mg b = 0) : ival (sg a != sg b) (mg a / mg b) = a / b ∧ ival false (mg a % mg b) = a % b := by
  have hm := Nat.div_add_mod (mg a) (mg b)
  have hl := Nat.mod_lt (mg a) (show 0 < mg b from mg_pos.2 hb)
  generalize mg a / mg b = q at *
  generalize mg a % mg b = r at *
  have hm2 : ((mg b * q + r : Nat) : Int) = (mg a : Int) := by rw [hm]
  rw [Int.natCast_add, Int.natCast_mul] at hm2
  unfold mg at *
  have key : a = ival (sg a != sg b) q * b + ival false r := by
    rw [ival_false]
    unfold ival sg
    by_cases ha : a < 0
    · have hr : r = 0 := by omega
      subst hr
      by_cases hn : b < 0
      · have h1 : (b.natAbs : Int) = -b := by omega
        have h2 : (a.natAbs : Int) = -a := by omega
        rw [h1, h2] at hm2
        simp [ha, hn]; grind
      · have h1 : (b.natAbs : Int) = b := by omega
        have h2 : (a.natAbs : Int) = -a := by omega
        rw [h1, h2] at hm2
        simp [ha, hn]; grind
    · by_cases hn : b < 0
      · have h1 : (b.natAbs : Int) = -b := by omega
        have h2 : (a.natAbs : Int) = a := by omega
        rw [h1, h2] at hm2
        simp [ha, hn]; grind
      · have h1 : (b.natAbs : Int) = b := by omega
        have h2 : (a.natAbs : Int) = a := by omega
        rw [h1, h2] at hm2
        simp [ha, hn]; grind
  have := ediv_uniq hb key (by rw [ival_false]; omega) (by rw [ival_false]; omega)
  exact ⟨this.1.symm, this.2.symm⟩
theorem dm_below {a b : Int} (hb : b ≠ 0) (ha : a < 0) (h : mg a % mg b ≠ 0) : ival (sg a != sg b) (mg a / mg b + 1) = a / b ∧ ival false (mg b - mg a % mg b) = a % b := by
  have hm := Nat.div_add_mod (mg a) (mg b)
  have hl := Nat.mod_lt (mg a) (show 0 < mg b from mg_pos.2 hb)
  generalize mg a / mg b = q at *
  generalize mg a % mg b = r at *
  have hm2 : ((mg b * q + r : Nat) : Int) = (mg a : Int) := by rw [hm]
  rw [Int.natCast_add, Int.natCast_mul] at hm2
  unfold mg at *
  have hc : ((b.natAbs - r : Nat) : Int) = (b.natAbs : Int) - r := by omega
  have key : a = ival (sg a != sg b) (q + 1) * b + ival false (b.natAbs - r) := by
    rw [ival_false, hc]
    unfold ival sg
    have h2 : (a.natAbs : Int) = -a := by omega
    by_cases hn : b < 0
    · have h1 : (b.natAbs : Int) = -b := by omega
      rw [h1, h2] at hm2
      rw [h1]
      simp [ha, hn]; grind
    · have h1 : (b.natAbs : Int) = b := by omega
      rw [h1, h2] at hm2
      rw [h1]
      simp [ha, hn]; grind
  have := ediv_uniq hb key (by rw [ival_false]; omega) (by rw [ival_false]; omega)
  exact ⟨this.1.symm, this.2.symm⟩
theorem idiv_f (aA : Option Addr) (ac : Nat) (a : Int) (bA : Option Addr) (bc : Nat) (b : Int) (w : World) (ha : NatV w aA ac (mg a)) (hb : NatV w bA bc (mg b)) (la : nl (mg a) ≤ 1048576) (lb : nl (mg b) ≤ 1048576) (hb0 : b ≠ 0) (h : 0 ≤ a) :
    Calls Tryd.prog 26 #[.agg #[.bool (sg a), .slice aA (nl (mg a)) ac], .agg #[.bool (sg b), .slice bA (nl (mg b)) bc]] w (RetII w (a / b) (a % b)) := by
  have pb : 0 < mg b := mg_pos.2 hb0
  have hv := dm_plain hb0 (.inl h)
  obtain ⟨q, Eq⟩ : ∃ zq : Nat, zq = mg a / mg b := ⟨_, rfl⟩
  obtain ⟨r, Er⟩ : ∃ zq : Nat, zq = mg a % mg b := ⟨_, rfl⟩
  have Bq : nl q ≤ 1048576 := by rw [Eq]; have := nl_div (mg a) (mg b); omega
  have Br : nl r ≤ 1048576 := by rw [Er]; have := nl_mod_le (mg a) (mg b); omega
  have hrb : r ≤ mg b := by rw [Er]; exact Nat.le_of_lt (Nat.mod_lt _ pb)
  have ta : sg a = false := sg_f h
  rw [show (sg a != sg b) = sg b by rw [ta]; simp, ← Eq, ← Er] at hv
  replace hv := Lib.hid hv
  replace h := Lib.hid h
  obtain ⟨hb1, Ra, Rb, Rr, Rs⟩ := bx4 w #[.bool false, .slice aA (nl (mg a)) ac] 31 #[.bool (sg b), .slice bA (nl (mg b)) bc] 31 #[.bool false, .slice none 0 0] 31 #[.bool false, .slice none 0 0] 31
  replace ha := ha.below hb1
  replace hb := hb.below hb1
  have HBT := hb1
  clear hb1
  have qa0 := Ra.c (i := 0) rfl
  have qa1 := Ra.c (i := 1) rfl
  have qb0 := Rb.c (i := 0) rfl
  have qb1 := Rb.c (i := 1) rfl
  have qr0 := Rr.c (i := 0) rfl
  have qr1 := Rr.c (i := 1) rfl
  have qs0 := Rs.c (i := 0) rfl
  have qs1 := Rs.c (i := 1) rfl
  go_enter Tryd.func26, Tryd.ntmps26
  go_wp2_with (fail)
  have CD := ddivmod_c aA ac (mg a) bA bc (mg b) _ ha hb (by omega) (by omega) pb
  rw [← Eq, ← Er] at CD
  replace Eq := Lib.hid Eq
  replace Er := Lib.hid Er
  refine (Calls.mono CD ?_)
  clear CD
  rintro e W2 ⟨Xq, cq, Xr, cr, rfl, hq, hr, hb2⟩
  replace ha := ha.below hb2
  replace hb := hb.below hb2
  replace Ra := Ra.below hb2
  replace qa0 := cbl hb2 qa0
  replace qa1 := cbl hb2 qa1
  replace Rb := Rb.below hb2
  replace qb0 := cbl hb2 qb0
  replace qb1 := cbl hb2 qb1
  replace Rr := Rr.below hb2
  replace qr0 := cbl hb2 qr0
  replace qr1 := cbl hb2 qr1
  replace Rs := Rs.below hb2
  replace qs0 := cbl hb2 qs0
  replace qs1 := cbl hb2 qs1
  replace HBT := Below.cons HBT hb2
  clear hb2
  go_wp2_with (fail)
  obtain ⟨x, Ex⟩ : ∃ zq : Int, zq = ival (sg b) q := ⟨_, rfl⟩
  refine (Calls.mono (R := RetI W2 x) (by rw [Ex]; with_reducible exact (imake_c (sg b) Xq cq q _ hq (by omega))) ?_)
  replace Ex := Lib.hid Ex
  rintro e W3 ⟨Xx, cx, rfl, hx, hb3⟩
  replace ha := ha.below hb3
  replace hb := hb.below hb3
  replace Ra := Ra.below hb3
  replace qa0 := cbl hb3 qa0
  replace qa1 := cbl hb3 qa1
  replace Rb := Rb.below hb3
  replace qb0 := cbl hb3 qb0
  replace qb1 := cbl hb3 qb1
  replace Rr := Rr.below hb3
  replace qr0 := cbl hb3 qr0
  replace qr1 := cbl hb3 qr1
  replace Rs := Rs.below hb3
  replace qs0 := cbl hb3 qs0
  replace qs1 := cbl hb3 qs1
  replace hq := hq.below hb3
  replace hr := hr.below hb3
  replace HBT := Below.cons HBT hb3
  clear hb3
  go_wp2_with (fail)
  obtain ⟨y, Ey⟩ : ∃ zq : Int, zq = ival false r := ⟨_, rfl⟩
  refine (Calls.mono (R := RetI W3 y) (by rw [Ey]; with_reducible exact (imake_c false Xr cr r _ hr (by omega))) ?_)
  replace Ey := Lib.hid Ey
  rintro e W4 ⟨Xy, cy, rfl, hy, hb4⟩
  replace ha := ha.below hb4
  replace hb := hb.below hb4
  replace Ra := Ra.below hb4
  replace qa0 := cbl hb4 qa0
  replace qa1 := cbl hb4 qa1
  replace Rb := Rb.below hb4
  replace qb0 := cbl hb4 qb0
  replace qb1 := cbl hb4 qb1
  replace Rr := Rr.below hb4
  replace qr0 := cbl hb4 qr0
  replace qr1 := cbl hb4 qr1
  replace Rs := Rs.below hb4
  replace qs0 := cbl hb4 qs0
  replace qs1 := cbl hb4 qs1
  replace hq := hq.below hb4
  replace hr := hr.below hb4
  replace hx := hx.below hb4
  replace HBT := Below.cons HBT hb4
  clear hb4
  have hzx : x = a / b := by rw [Ex.out]; exact hv.out.1
  subst hzx
  have hzy : y = a % b := by rw [Ey.out]; exact hv.out.2
  subst hzy
  have fzr0 := Rr.f (i := 0)
  have fzr1 := Rr.f (i := 1)
  have fzs0 := Rs.f (i := 0)
  have fzs1 := Rs.f (i := 1)
  go_wp2_with (fail)
  have RU := Rr.store2 (.bool (sg ((a / b)))) (.slice Xx (nl (mg ((a / b)))) cx)
  have RV := (Rs.other2 (v0 := .bool (sg ((a / b)))) (v1 := .slice Xx (nl (mg ((a / b)))) cx) (show (w.heap.size + 1 + 1 + 1) ≠ (w.heap.size + 1 + 1) by omega)).store2 (.bool (sg ((a % b)))) (.slice Xy (nl (mg ((a % b)))) cy)
  have RU2 := RU.other2 (v0 := .bool (sg ((a % b)))) (v1 := .slice Xy (nl (mg ((a % b)))) cy) (show (w.heap.size + 1 + 1) ≠ (w.heap.size + 1 + 1 + 1) by omega)
  have e0 := RU2.c (i := 0) rfl
  have g0 := RV.c (i := 0) rfl
  have e1 := RU2.c (i := 1) rfl
  have g1 := RV.c (i := 1) rfl
  refine bodyPost_ret (v := .tuple #[.agg #[.bool (sg ((a / b))), .slice Xx (nl (mg ((a / b)))) cx], .agg #[.bool (sg ((a % b))), .slice Xy (nl (mg ((a % b)))) cy], .int .i64 0]) (by simp [results, Tryd.results26, go_sem, e0, e1, g0, g1]) rfl ?_
  exact ⟨Xx, cx, Xy, cy, rfl, ((Rs.other2 (v0 := .bool (sg ((a / b)))) (v1 := .slice Xx (nl (mg ((a / b)))) cx) (show (w.heap.size + 1 + 1 + 1) ≠ (w.heap.size + 1 + 1) by omega)).keep2 (nuB rfl) (Rr.keep2 (nuB rfl) hx)), ((Rs.other2 (v0 := .bool (sg ((a / b)))) (v1 := .slice Xx (nl (mg ((a / b)))) cx) (show (w.heap.size + 1 + 1 + 1) ≠ (w.heap.size + 1 + 1) by omega)).keep2 (nuB rfl) (Rr.keep2 (nuB rfl) hy)), Below.store2 (Below.store2 HBT (by omega)) (by omega)⟩
theorem idiv_z (aA : Option Addr) (ac : Nat) (a : Int) (bA : Option Addr) (bc : Nat) (b : Int) (w : World) (ha : NatV w aA ac (mg a)) (hb : NatV w bA bc (mg b)) (la : nl (mg a) ≤ 1048576) (lb : nl (mg b) ≤ 1048576) (hb0 : b ≠ 0) (h : a < 0) (h2 : mg a % mg b = 0) :
    Calls Tryd.prog 26 #[.agg #[.bool (sg a), .slice aA (nl (mg a)) ac], .agg #[.bool (sg b), .slice bA (nl (mg b)) bc]] w (RetII w (a / b) (a % b)) := by
  have pb : 0 < mg b := mg_pos.2 hb0
  have hv := dm_plain hb0 (.inr h2)
  obtain ⟨q, Eq⟩ : ∃ zq : Nat, zq = mg a / mg b := ⟨_, rfl⟩
  obtain ⟨r, Er⟩ : ∃ zq : Nat, zq = mg a % mg b := ⟨_, rfl⟩
  have Bq : nl q ≤ 1048576 := by rw [Eq]; have := nl_div (mg a) (mg b); omega
  have Br : nl r ≤ 1048576 := by rw [Er]; have := nl_mod_le (mg a) (mg b); omega
  have hrb : r ≤ mg b := by rw [Er]; exact Nat.le_of_lt (Nat.mod_lt _ pb)
  have ta : sg a = true := sg_t h
  obtain ⟨n, En⟩ : ∃ n : Bool, n = !sg b := ⟨_, rfl⟩
  have In : (!sg b) = n := En.symm
  rw [show (sg a != sg b) = n by rw [ta, ← In]; simp, ← Eq, ← Er] at hv
  replace hv := Lib.hid hv
  replace En := Lib.hid En
  rw [← Er] at h2
  have t1 : decide (0 < (nl r : Int)) = false := by rw [h2, nl_zero]; rfl
  have t2 : decide (0 < nl r) = false := by rw [h2, nl_zero]; rfl
  replace h2 := Lib.hid h2
  replace h := Lib.hid h
  obtain ⟨hb1, Ra, Rb, Rr, Rs⟩ := bx4 w #[.bool true, .slice aA (nl (mg a)) ac] 31 #[.bool (sg b), .slice bA (nl (mg b)) bc] 31 #[.bool false, .slice none 0 0] 31 #[.bool false, .slice none 0 0] 31
  replace ha := ha.below hb1
  replace hb := hb.below hb1
  have HBT := hb1
  clear hb1
  have qa0 := Ra.c (i := 0) rfl
  have qa1 := Ra.c (i := 1) rfl
  have qb0 := Rb.c (i := 0) rfl
  have qb1 := Rb.c (i := 1) rfl
  have qr0 := Rr.c (i := 0) rfl
  have qr1 := Rr.c (i := 1) rfl
  have qs0 := Rs.c (i := 0) rfl
  have qs1 := Rs.c (i := 1) rfl
  go_enter Tryd.func26, Tryd.ntmps26
  go_wp2_with (fail)
  have CD := ddivmod_c aA ac (mg a) bA bc (mg b) _ ha hb (by omega) (by omega) pb
  rw [← Eq, ← Er] at CD
  replace Eq := Lib.hid Eq
  replace Er := Lib.hid Er
  refine (Calls.mono CD ?_)
  clear CD
  rintro e W2 ⟨Xq, cq, Xr, cr, rfl, hq, hr, hb2⟩
  replace ha := ha.below hb2
  replace hb := hb.below hb2
  replace Ra := Ra.below hb2
  replace qa0 := cbl hb2 qa0
  replace qa1 := cbl hb2 qa1
  replace Rb := Rb.below hb2
  replace qb0 := cbl hb2 qb0
  replace qb1 := cbl hb2 qb1
  replace Rr := Rr.below hb2
  replace qr0 := cbl hb2 qr0
  replace qr1 := cbl hb2 qr1
  replace Rs := Rs.below hb2
  replace qs0 := cbl hb2 qs0
  replace qs1 := cbl hb2 qs1
  replace HBT := Below.cons HBT hb2
  clear hb2
  go_wp2_with (fail)
  obtain ⟨x, Ex⟩ : ∃ zq : Int, zq = ival n q := ⟨_, rfl⟩
  refine (Calls.mono (R := RetI W2 x) (by rw [Ex]; with_reducible exact (imake_c n Xq cq q _ hq (by omega))) ?_)
  replace Ex := Lib.hid Ex
  rintro e W3 ⟨Xx, cx, rfl, hx, hb3⟩
  replace ha := ha.below hb3
  replace hb := hb.below hb3
  replace Ra := Ra.below hb3
  replace qa0 := cbl hb3 qa0
  replace qa1 := cbl hb3 qa1
  replace Rb := Rb.below hb3
  replace qb0 := cbl hb3 qb0
  replace qb1 := cbl hb3 qb1
  replace Rr := Rr.below hb3
  replace qr0 := cbl hb3 qr0
  replace qr1 := cbl hb3 qr1
  replace Rs := Rs.below hb3
  replace qs0 := cbl hb3 qs0
  replace qs1 := cbl hb3 qs1
  replace hq := hq.below hb3
  replace hr := hr.below hb3
  replace HBT := Below.cons HBT hb3
  clear hb3
  go_wp2_with (fail)
  obtain ⟨y, Ey⟩ : ∃ zq : Int, zq = ival false r := ⟨_, rfl⟩
  refine (Calls.mono (R := RetI W3 y) (by rw [Ey]; with_reducible exact (imake_c false Xr cr r _ hr (by omega))) ?_)
  replace Ey := Lib.hid Ey
  rintro e W4 ⟨Xy, cy, rfl, hy, hb4⟩
  replace ha := ha.below hb4
  replace hb := hb.below hb4
  replace Ra := Ra.below hb4
  replace qa0 := cbl hb4 qa0
  replace qa1 := cbl hb4 qa1
  replace Rb := Rb.below hb4
  replace qb0 := cbl hb4 qb0
  replace qb1 := cbl hb4 qb1
  replace Rr := Rr.below hb4
  replace qr0 := cbl hb4 qr0
  replace qr1 := cbl hb4 qr1
  replace Rs := Rs.below hb4
  replace qs0 := cbl hb4 qs0
  replace qs1 := cbl hb4 qs1
  replace hq := hq.below hb4
  replace hr := hr.below hb4
  replace hx := hx.below hb4
  replace HBT := Below.cons HBT hb4
  clear hb4
  have hzx : x = a / b := by rw [Ex.out]; exact hv.out.1
  subst hzx
  have hzy : y = a % b := by rw [Ey.out]; exact hv.out.2
  subst hzy
  have fzr0 := Rr.f (i := 0)
  have fzr1 := Rr.f (i := 1)
  have fzs0 := Rs.f (i := 0)
  have fzs1 := Rs.f (i := 1)
  go_wp2_with (fail)
  have RU := Rr.store2 (.bool (sg ((a / b)))) (.slice Xx (nl (mg ((a / b)))) cx)
  have RV := (Rs.other2 (v0 := .bool (sg ((a / b)))) (v1 := .slice Xx (nl (mg ((a / b)))) cx) (show (w.heap.size + 1 + 1 + 1) ≠ (w.heap.size + 1 + 1) by omega)).store2 (.bool (sg ((a % b)))) (.slice Xy (nl (mg ((a % b)))) cy)
  have RU2 := RU.other2 (v0 := .bool (sg ((a % b)))) (v1 := .slice Xy (nl (mg ((a % b)))) cy) (show (w.heap.size + 1 + 1) ≠ (w.heap.size + 1 + 1 + 1) by omega)
  have e0 := RU2.c (i := 0) rfl
  have g0 := RV.c (i := 0) rfl
  have e1 := RU2.c (i := 1) rfl
  have g1 := RV.c (i := 1) rfl
  refine bodyPost_ret (v := .tuple #[.agg #[.bool (sg ((a / b))), .slice Xx (nl (mg ((a / b)))) cx], .agg #[.bool (sg ((a % b))), .slice Xy (nl (mg ((a % b)))) cy], .int .i64 0]) (by simp [results, Tryd.results26, go_sem, e0, e1, g0, g1]) rfl ?_
  exact ⟨Xx, cx, Xy, cy, rfl, ((Rs.other2 (v0 := .bool (sg ((a / b)))) (v1 := .slice Xx (nl (mg ((a / b)))) cx) (show (w.heap.size + 1 + 1 + 1) ≠ (w.heap.size + 1 + 1) by omega)).keep2 (nuB rfl) (Rr.keep2 (nuB rfl) hx)), ((Rs.other2 (v0 := .bool (sg ((a / b)))) (v1 := .slice Xx (nl (mg ((a / b)))) cx) (show (w.heap.size + 1 + 1 + 1) ≠ (w.heap.size + 1 + 1) by omega)).keep2 (nuB rfl) (Rr.keep2 (nuB rfl) hy)), Below.store2 (Below.store2 HBT (by omega)) (by omega)⟩
theorem idiv_t (aA : Option Addr) (ac : Nat) (a : Int) (bA : Option Addr) (bc : Nat) (b : Int) (w : World) (ha : NatV w aA ac (mg a)) (hb : NatV w bA bc (mg b)) (la : nl (mg a) ≤ 1048576) (lb : nl (mg b) ≤ 1048576) (hb0 : b ≠ 0) (h : a < 0) (h2 : mg a % mg b ≠ 0) :
    Calls Tryd.prog 26 #[.agg #[.bool (sg a), .slice aA (nl (mg a)) ac], .agg #[.bool (sg b), .slice bA (nl (mg b)) bc]] w (RetII w (a / b) (a % b)) := by
  have pb : 0 < mg b := mg_pos.2 hb0
  have hv := dm_below hb0 h h2
  obtain ⟨q, Eq⟩ : ∃ zq : Nat, zq = mg a / mg b := ⟨_, rfl⟩
  obtain ⟨r, Er⟩ : ∃ zq : Nat, zq = mg a % mg b := ⟨_, rfl⟩
  have Bq : nl q ≤ 1048576 := by rw [Eq]; have := nl_div (mg a) (mg b); omega
  have Br : nl r ≤ 1048576 := by rw [Er]; have := nl_mod_le (mg a) (mg b); omega
  have hrb : r ≤ mg b := by rw [Er]; exact Nat.le_of_lt (Nat.mod_lt _ pb)
  have ta : sg a = true := sg_t h
  obtain ⟨n, En⟩ : ∃ n : Bool, n = !sg b := ⟨_, rfl⟩
  have In : (!sg b) = n := En.symm
  rw [show (sg a != sg b) = n by rw [ta, ← In]; simp, ← Eq, ← Er] at hv
  replace hv := Lib.hid hv
  replace En := Lib.hid En
  rw [← Er] at h2
  have t1 : decide (0 < (nl r : Int)) = true := by have := nl_pos.2 h2; simp; omega
  have t2 : decide (0 < nl r) = true := by have := nl_pos.2 h2; simp; omega
  replace h2 := Lib.hid h2
  replace h := Lib.hid h
  obtain ⟨hb1, Ra, Rb, Rr, Rs⟩ := bx4 w #[.bool true, .slice aA (nl (mg a)) ac] 31 #[.bool (sg b), .slice bA (nl (mg b)) bc] 31 #[.bool false, .slice none 0 0] 31 #[.bool false, .slice none 0 0] 31
  replace ha := ha.below hb1
  replace hb := hb.below hb1
  have HBT := hb1
  clear hb1
  have qa0 := Ra.c (i := 0) rfl
  have qa1 := Ra.c (i := 1) rfl
  have qb0 := Rb.c (i := 0) rfl
  have qb1 := Rb.c (i := 1) rfl
  have qr0 := Rr.c (i := 0) rfl
  have qr1 := Rr.c (i := 1) rfl
  have qs0 := Rs.c (i := 0) rfl
  have qs1 := Rs.c (i := 1) rfl
  go_enter Tryd.func26, Tryd.ntmps26
  go_wp2_with (fail)
  have CD := ddivmod_c aA ac (mg a) bA bc (mg b) _ ha hb (by omega) (by omega) pb
  rw [← Eq, ← Er] at CD
  replace Eq := Lib.hid Eq
  replace Er := Lib.hid Er
  refine (Calls.mono CD ?_)
  clear CD
  rintro e W2 ⟨Xq, cq, Xr, cr, rfl, hq, hr, hb2⟩
  replace ha := ha.below hb2
  replace hb := hb.below hb2
  replace Ra := Ra.below hb2
  replace qa0 := cbl hb2 qa0
  replace qa1 := cbl hb2 qa1
  replace Rb := Rb.below hb2
  replace qb0 := cbl hb2 qb0
  replace qb1 := cbl hb2 qb1
  replace Rr := Rr.below hb2
  replace qr0 := cbl hb2 qr0
  replace qr1 := cbl hb2 qr1
  replace Rs := Rs.below hb2
  replace qs0 := cbl hb2 qs0
  replace qs1 := cbl hb2 qs1
  replace HBT := Below.cons HBT hb2
  clear hb2
  go_wp2_with (fail)
  obtain ⟨o, Eo⟩ : ∃ zq : Nat, zq = 1 := ⟨_, rfl⟩
  have Bo : nl o ≤ 1 := by rw [Eo, nl_one]; exact Nat.le_refl _
  refine (Calls.mono (R := RetN W2 o) (by rw [Eo]; with_reducible exact (ione_c _)) ?_)
  replace Eo := Lib.hid Eo
  rintro e W3 ⟨Xo, co, rfl, ho, hb3⟩
  replace ha := ha.below hb3
  replace hb := hb.below hb3
  replace Ra := Ra.below hb3
  replace qa0 := cbl hb3 qa0
  replace qa1 := cbl hb3 qa1
  replace Rb := Rb.below hb3
  replace qb0 := cbl hb3 qb0
  replace qb1 := cbl hb3 qb1
  replace Rr := Rr.below hb3
  replace qr0 := cbl hb3 qr0
  replace qr1 := cbl hb3 qr1
  replace Rs := Rs.below hb3
  replace qs0 := cbl hb3 qs0
  replace qs1 := cbl hb3 qs1
  replace hq := hq.below hb3
  replace hr := hr.below hb3
  replace HBT := Below.cons HBT hb3
  clear hb3
  go_wp2_with (fail)
  obtain ⟨q2, Eq2⟩ : ∃ zq : Nat, zq = q + o := ⟨_, rfl⟩
  have Bq2 : nl q2 ≤ 1048577 := by rw [Eq2]; have := nl_add q o; omega
  refine (Calls.mono (R := RetN W3 q2) (by rw [Eq2]; with_reducible exact (add_c Xq cq q Xo co o _ hq ho (by omega) (by omega))) ?_)
  replace Eq2 := Lib.hid Eq2
  rintro e W4 ⟨Xq2, cq2, rfl, hq2, hb4⟩
  replace ha := ha.below hb4
  replace hb := hb.below hb4
  replace Ra := Ra.below hb4
  replace qa0 := cbl hb4 qa0
  replace qa1 := cbl hb4 qa1
  replace Rb := Rb.below hb4
  replace qb0 := cbl hb4 qb0
  replace qb1 := cbl hb4 qb1
  replace Rr := Rr.below hb4
  replace qr0 := cbl hb4 qr0
  replace qr1 := cbl hb4 qr1
  replace Rs := Rs.below hb4
  replace qs0 := cbl hb4 qs0
  replace qs1 := cbl hb4 qs1
  replace hq := hq.below hb4
  replace hr := hr.below hb4
  replace ho := ho.below hb4
  replace HBT := Below.cons HBT hb4
  clear hb4
  go_wp2_with (fail)
  obtain ⟨r2, Er2⟩ : ∃ zq : Nat, zq = mg b - r := ⟨_, rfl⟩
  have Br2 : nl r2 ≤ 1048576 := by rw [Er2]; have := nl_sub (mg b) r; omega
  have CS := sub_c bA bc (mg b) Xr cr r _ hb hr (by omega) (by omega) hrb
  rw [← Er2] at CS
  replace Er2 := Lib.hid Er2
  refine (Calls.mono CS ?_)
  clear CS
  rintro e W5 ⟨Xr2, cr2, rfl, hr2, hb5⟩
  replace ha := ha.below hb5
  replace hb := hb.below hb5
  replace Ra := Ra.below hb5
  replace qa0 := cbl hb5 qa0
  replace qa1 := cbl hb5 qa1
  replace Rb := Rb.below hb5
  replace qb0 := cbl hb5 qb0
  replace qb1 := cbl hb5 qb1
  replace Rr := Rr.below hb5
  replace qr0 := cbl hb5 qr0
  replace qr1 := cbl hb5 qr1
  replace Rs := Rs.below hb5
  replace qs0 := cbl hb5 qs0
  replace qs1 := cbl hb5 qs1
  replace hq := hq.below hb5
  replace hr := hr.below hb5
  replace ho := ho.below hb5
  replace hq2 := hq2.below hb5
  replace HBT := Below.cons HBT hb5
  clear hb5
  go_wp2_with (fail)
  obtain ⟨x, Ex⟩ : ∃ zq : Int, zq = ival n q2 := ⟨_, rfl⟩
  refine (Calls.mono (R := RetI W5 x) (by rw [Ex]; with_reducible exact (imake_c n Xq2 cq2 q2 _ hq2 (by omega))) ?_)
  replace Ex := Lib.hid Ex
  rintro e W6 ⟨Xx, cx, rfl, hx, hb6⟩
  replace ha := ha.below hb6
  replace hb := hb.below hb6
  replace Ra := Ra.below hb6
  replace qa0 := cbl hb6 qa0
  replace qa1 := cbl hb6 qa1
  replace Rb := Rb.below hb6
  replace qb0 := cbl hb6 qb0
  replace qb1 := cbl hb6 qb1
  replace Rr := Rr.below hb6
  replace qr0 := cbl hb6 qr0
  replace qr1 := cbl hb6 qr1
  replace Rs := Rs.below hb6
  replace qs0 := cbl hb6 qs0
  replace qs1 := cbl hb6 qs1
  replace hq := hq.below hb6
  replace hr := hr.below hb6
  replace ho := ho.below hb6
  replace hq2 := hq2.below hb6
  replace hr2 := hr2.below hb6
  replace HBT := Below.cons HBT hb6
  clear hb6
  go_wp2_with (fail)
  obtain ⟨y, Ey⟩ : ∃ zq : Int, zq = ival false r2 := ⟨_, rfl⟩
  refine (Calls.mono (R := RetI W6 y) (by rw [Ey]; with_reducible exact (imake_c false Xr2 cr2 r2 _ hr2 (by omega))) ?_)
  replace Ey := Lib.hid Ey
  rintro e W7 ⟨Xy, cy, rfl, hy, hb7⟩
  replace ha := ha.below hb7
  replace hb := hb.below hb7
  replace Ra := Ra.below hb7
  replace qa0 := cbl hb7 qa0
  replace qa1 := cbl hb7 qa1
  replace Rb := Rb.below hb7
  replace qb0 := cbl hb7 qb0
  replace qb1 := cbl hb7 qb1
  replace Rr := Rr.below hb7
  replace qr0 := cbl hb7 qr0
  replace qr1 := cbl hb7 qr1
  replace Rs := Rs.below hb7
  replace qs0 := cbl hb7 qs0
  replace qs1 := cbl hb7 qs1
  replace hq := hq.below hb7
  replace hr := hr.below hb7
  replace ho := ho.below hb7
  replace hq2 := hq2.below hb7
  replace hr2 := hr2.below hb7
  replace hx := hx.below hb7
  replace HBT := Below.cons HBT hb7
  clear hb7
  have hzx : x = a / b := by rw [Ex.out, Eq2.out, Eo.out]; exact hv.out.1
  subst hzx
  have hzy : y = a % b := by rw [Ey.out, Er2.out]; exact hv.out.2
  subst hzy
  have fzr0 := Rr.f (i := 0)
  have fzr1 := Rr.f (i := 1)
  have fzs0 := Rs.f (i := 0)
  have fzs1 := Rs.f (i := 1)
  go_wp2_with (fail)
  have RU := Rr.store2 (.bool (sg ((a / b)))) (.slice Xx (nl (mg ((a / b)))) cx)
  have RV := (Rs.other2 (v0 := .bool (sg ((a / b)))) (v1 := .slice Xx (nl (mg ((a / b)))) cx) (show (w.heap.size + 1 + 1 + 1) ≠ (w.heap.size + 1 + 1) by omega)).store2 (.bool (sg ((a % b)))) (.slice Xy (nl (mg ((a % b)))) cy)
  have RU2 := RU.other2 (v0 := .bool (sg ((a % b)))) (v1 := .slice Xy (nl (mg ((a % b)))) cy) (show (w.heap.size + 1 + 1) ≠ (w.heap.size + 1 + 1 + 1) by omega)
  have e0 := RU2.c (i := 0) rfl
  have g0 := RV.c (i := 0) rfl
  have e1 := RU2.c (i := 1) rfl
  have g1 := RV.c (i := 1) rfl
  refine bodyPost_ret (v := .tuple #[.agg #[.bool (sg ((a / b))), .slice Xx (nl (mg ((a / b)))) cx], .agg #[.bool (sg ((a % b))), .slice Xy (nl (mg ((a % b)))) cy], .int .i64 0]) (by simp [results, Tryd.results26, go_sem, e0, e1, g0, g1]) rfl ?_
  exact ⟨Xx, cx, Xy, cy, rfl, ((Rs.other2 (v0 := .bool (sg ((a / b)))) (v1 := .slice Xx (nl (mg ((a / b)))) cx) (show (w.heap.size + 1 + 1 + 1) ≠ (w.heap.size + 1 + 1) by omega)).keep2 (nuB rfl) (Rr.keep2 (nuB rfl) hx)), ((Rs.other2 (v0 := .bool (sg ((a / b)))) (v1 := .slice Xx (nl (mg ((a / b)))) cx) (show (w.heap.size + 1 + 1 + 1) ≠ (w.heap.size + 1 + 1) by omega)).keep2 (nuB rfl) (Rr.keep2 (nuB rfl) hy)), Below.store2 (Below.store2 HBT (by omega)) (by omega)⟩
theorem idiv_c (aA : Option Addr) (ac : Nat) (a : Int) (bA : Option Addr) (bc : Nat) (b : Int) (w : World) (ha : NatV w aA ac (mg a)) (hb : NatV w bA bc (mg b)) (la : nl (mg a) ≤ 1048576) (lb : nl (mg b) ≤ 1048576) (hb0 : b ≠ 0) :
    Calls Tryd.prog 26 #[.agg #[.bool (sg a), .slice aA (nl (mg a)) ac], .agg #[.bool (sg b), .slice bA (nl (mg b)) bc]] w (RetII w (a / b) (a % b)) := by
  by_cases h : 0 ≤ a
  · exact idiv_f aA ac a bA bc b w ha hb la lb hb0 h
  · by_cases h2 : mg a % mg b = 0
    · exact idiv_z aA ac a bA bc b w ha hb la lb hb0 (by omega) h2
    · exact idiv_t aA ac a bA bc b w ha hb la lb hb0 (by omega) h2
end Go.Proofs.YthcmoimlnhghcaaDoor

/- The document's whole numbers, walked: Made, Add, Mul, DivMod. -/
set_option linter.unusedVariables false
set_option linter.unusedSimpArgs false
namespace Go.Proofs.YthcmoimlnhghcaaDoor
open Go.RowKit Go.Shelf
attribute [local go_sem] max2_i min2_i max_two min_two

theorem ival_mul (a b : Int) : ival (sg a != sg b) (mg a * mg b) = a * b := by
  unfold ival sg mg
  rw [Int.natCast_mul]
  rcases Int.lt_or_le a 0 with h | h <;> rcases Int.lt_or_le b 0 with k | k
  · have e1 : (a.natAbs : Int) = -a := by omega
    have e2 : (b.natAbs : Int) = -b := by omega
    rw [e1, e2]; simp [h, k, Int.neg_mul, Int.mul_neg]
  · have e1 : (a.natAbs : Int) = -a := by omega
    have e2 : (b.natAbs : Int) = b := by omega
    rw [e1, e2]; simp [h, show ¬ b < 0 by omega, Int.neg_mul, Int.mul_neg]
  · have e1 : (a.natAbs : Int) = a := by omega
    have e2 : (b.natAbs : Int) = -b := by omega
    rw [e1, e2]; simp [k, show ¬ a < 0 by omega, Int.neg_mul, Int.mul_neg]
  · have e1 : (a.natAbs : Int) = a := by omega
    have e2 : (b.natAbs : Int) = b := by omega
    rw [e1, e2]; simp [show ¬ a < 0 by omega, show ¬ b < 0 by omega]
end Go.Proofs.YthcmoimlnhghcaaDoor

/- The document's whole numbers, walked: DivMod, Exact. -/
set_option linter.unusedVariables false
set_option linter.unusedSimpArgs false
namespace Go.Proofs.YthcmoimlnhghcaaDoor
open Go.RowKit Go.Shelf
attribute [local go_sem] max2_i min2_i max_two min_two

end Go.Proofs.YthcmoimlnhghcaaDoor

/- nat.Cmp again: it only draws. -/
set_option linter.unusedVariables false
set_option linter.unusedSimpArgs false
namespace Go.Proofs.YthcmoimlnhghcaaDoor
open Go.RowKit Go.Shelf
attribute [local go_sem] max2_i min2_i max_two min_two

end Go.Proofs.YthcmoimlnhghcaaDoor

/- Whole numbers, walked: Exact. -/
set_option linter.unusedVariables false
set_option linter.unusedSimpArgs false
namespace Go.Proofs.YthcmoimlnhghcaaDoor
open Go.RowKit Go.Shelf
attribute [local go_sem] max2_i min2_i max_two min_two

end Go.Proofs.YthcmoimlnhghcaaDoor

/- Dyadic numbers, walked: the noughts at the end, Make. -/
set_option linter.unusedVariables false
set_option linter.unusedSimpArgs false
namespace Go.Proofs.YthcmoimlnhghcaaDoor
open Go.RowKit Go.Shelf
attribute [local go_sem] max2_i min2_i max_two min_two

end Go.Proofs.YthcmoimlnhghcaaDoor

/- Dyadic numbers, walked: Make. -/
set_option linter.unusedVariables false
set_option linter.unusedSimpArgs false
namespace Go.Proofs.YthcmoimlnhghcaaDoor
open Go.RowKit Go.Shelf
attribute [local go_sem] max2_i min2_i max_two min_two

end Go.Proofs.YthcmoimlnhghcaaDoor

/- Dyadic numbers, walked: Sign, Neg, Scaled, Cmp, Add, Sub, Mid. -/
set_option linter.unusedVariables false
set_option linter.unusedSimpArgs false
namespace Go.Proofs.YthcmoimlnhghcaaDoor
open Go.RowKit Go.Shelf
attribute [local go_sem] max2_i min2_i max_two min_two

/-- A dyadic number of no great size. -/
structure DOk (q : Rat) : Prop where
  d : Dyd q
  l : nl (mg (dmn q)) ≤ 100000
  e : -1000000 ≤ dex q ∧ dex q ≤ 1000000
end Go.Proofs.YthcmoimlnhghcaaDoor

/- The greatest common divisor, walked. -/
set_option linter.unusedVariables false
set_option linter.unusedSimpArgs false
namespace Go.Proofs.YthcmoimlnhghcaaDoor
open Go.RowKit Go.Shelf
attribute [local go_sem] Oper.semAt_some

theorem below_grown {W W' : World} (hb : Below W.heap.size W W') : W.grownBy W' none := ⟨hb.os, hb.tape, hb.output, hb.size, fun k hk _ => hb.block k hk⟩
theorem rests_seq (A : Option Addr) (c a : Nat) (B : Option Addr) (d b : Nat) (Ba Bb : Nat) (hne : Ba ≠ Bb) (w : World) (hla : nl a ≤ 16777216) (hlb : nl b ≤ 16777216) (h1 : Boxed w Ba 22 (.slice A (nl a) c)) (h2 : Boxed w Bb 22 (.slice B (nl b) d)) (hA : NatV w A c a) (hB : NatV w B d b) :
    SeqX Fence.wide 3 Tryd.prog 41 #[.pointer (some ⟨Ba, 0, none⟩), .pointer (some ⟨Bb, 0, none⟩)] It.enc (EuH a b) (KpU Ba Bb) (MvU Ba Bb) (EuS a b) (EuP a b) w := by
  intro l J Jx W hW hJ hJx hJm hY h0
  exact rests1_in l Ba Bb a b hla hlb hne J Jx (fun pre W W' h hb => hJ pre W W' none h (below_grown hb) (fun r e => by cases e)) hJm hY A c B d W (heap_below hW h1) (heap_below hW h2) (hA.below hW) (hB.below hW) h0
theorem NatV.kept {W W' : World} {A : Option Addr} {c n : Nat} {row : Option Nat} (h : NatV W A c n) (hg : W.grownBy W' row) (hr : ∀ r, row = some r → ∃ o : Obj, W.heap[r]? = some o ∧ o.isCells = false) : NatV W' A c n := by
  refine ⟨?_, h.cap, h.cmax⟩
  rcases h.rd with h1 | ⟨ad, rfl, h1⟩
  · exact .inl h1
  · exact .inr ⟨ad, rfl, fun i u hi => cell_kept (h1 i u hi) hg hr⟩
theorem EuH.kept {a b : Nat} {pre : List It} {x : It} {W W' : World} {row : Option Nat} (h : EuH a b pre x W) (hg : W.grownBy W' row) (hr : ∀ r, row = some r → ∃ o : Obj, W.heap[r]? = some o ∧ o.isCells = false) : EuH a b pre x W' :=
  ⟨⟨h.1.1.kept hg hr, h.1.2.kept hg hr⟩, h.2⟩
theorem own_euH (a b n : Nat) : OwnFrom n (fun (p : List It × It) W => EuH a b p.1 p.2 W) := fun s W W' row hs hg hr => hs.kept hg (fun r e => (hr r e).2)
theorem own_euS (a b n : Nat) : OwnFrom n (EuS a b) := fun s W W' row hs hg hr => by
  obtain ⟨pre, x, h1, h2, h3⟩ := hs
  exact ⟨pre, x, h1, h2.kept hg (fun r e => (hr r e).2), h3⟩
theorem own_euP (a b n : Nat) : OwnFrom n (EuP a b) := fun s W W' row hs hg hr => by
  obtain ⟨pre, x, h1, h2⟩ := hs
  exact ⟨pre, x, h1, h2.kept hg (fun r e => (hr r e).2)⟩
/-- A store into a variable that holds no limb keeps limbs, and two other variables. -/
theorem kpu_set {W : World} {k Ba Bb : Nat} {t : TypeId} {u v : Value} (h : Boxed W k t u) (hu : NotU u) (ha : Ba ≠ k) (hb : Bb ≠ k) : KpU Ba Bb W (W.setCell ⟨k, 0, none⟩ v) := by
  refine ⟨fun p x e => ?_, fun o _ e => (Below.heap_setCell _ _ _ _ (by simpa using ha)).trans e, fun o _ e => (Below.heap_setCell _ _ _ _ (by simpa using hb)).trans e⟩
  have hne : p.block ≠ k := fun e2 => by
    unfold World.cell? at e
    rw [e2, show W.heap[k]? = _ from h] at e
    simp only at e
    split at e
    · cases e
    · have hm := Array.mem_of_getElem? e
      simp at hm
      exact hu x hm.symm
  rw [World.cell?_of_block (w := W) (a := p) (Below.heap_setCell _ _ _ _ (by simpa using hne))]
  exact e
def outv (pre : List It) : Value := match pre.getLast? with
  | none => .slice none 0 0
  | some x => .slice x.A (nl x.a) x.c
theorem outv_snoc (pre : List It) (x : It) : outv (pre ++ [x]) = .slice x.A (nl x.a) x.c := by simp [outv]
theorem outv_notU (pre : List It) : NotU (outv pre) := by
  unfold outv; split <;> exact notU_slice _ _ _
theorem mvu_below {w W W' : World} {s Ba Bb : Nat} (h : Below s w W) (hm : MvU Ba Bb W W') (ha : s ≤ Ba) (hb : s ≤ Bb) (hs : s ≤ W.heap.size) : Below s w W' :=
  h.trans ⟨hm.os, hm.tape, hm.output, hm.size, fun k hk => hm.block k (by omega) (by omega) (by omega)⟩
theorem gcd_c (A : Option Addr) (c a : Nat) (B : Option Addr) (d b : Nat) (w : World) (hA : NatV w A c a) (hB : NatV w B d b) (hla : nl a ≤ 16777216) (hlb : nl b ≤ 16777216) :
    Calls Tryd.prog 7 #[.slice A (nl a) c, .slice B (nl b) d] w (RetN w (Nat.gcd a b)) := by
  refine (callsIn_wide (n := 4)).1 ?_
  refine callsIn_of_wp_marks Tryd.func7 rfl trivial ?_ rfl
  simp only [Tryd.ntmps7, List.size_toArray, List.length_cons, List.length_nil, Nat.reduceAdd, Nat.reduceSub, Array.replicate_succ, Array.replicate_zero, List.push_toArray, List.append_toArray, List.nil_append, List.cons_append]
  gi_wp2_with (refine ⟨trivial, ?_⟩; gi_at_call 19; refine (callsIn_wide.2 (rests_c A (nl a) c B (nl b) d _)).mono ?_; rintro e w' ⟨rfl, rfl⟩)
  obtain ⟨s, hs0⟩ : ∃ s, s = w.heap.size := ⟨_, rfl⟩
  obtain ⟨W8, hW8⟩ : ∃ W8, (((w.alloc (.cells #[.slice none 0 0] 22)).alloc (.cells #[.slice A (nl a) c] 22)).alloc (.cells #[.slice B (nl b) d] 22)) = W8 := ⟨_, rfl⟩
  have bO : Boxed W8 s 22 (.slice none 0 0) := by
    subst hs0 hW8; unfold Boxed; repeat (first | exact at_new (by simp) | refine at_old (by simp <;> omega) ?_)
  have bA : Boxed W8 (s + 1) 22 (.slice A (nl a) c) := by
    subst hs0 hW8; unfold Boxed; repeat (first | exact at_new (by simp) | refine at_old (by simp <;> omega) ?_)
  have bB : Boxed W8 (s + 2) 22 (.slice B (nl b) d) := by
    subst hs0 hW8; unfold Boxed; repeat (first | exact at_new (by simp) | refine at_old (by simp <;> omega) ?_)
  have hsz : W8.heap.size = s + 3 := by subst hs0 hW8; simp
  have hB0 : Below s w W8 := by
    subst hs0 hW8
    exact ((((Below.refl _ w).alloc (Nat.le_refl _) _).alloc (by simp) _).alloc (by simp; omega) _)
  have hA8 := hA.below (hs0 ▸ hB0)
  have hB8 := hB.below (hs0 ▸ hB0)
  rw [← hs0]
  simp only [Nat.add_assoc, Nat.reduceAdd]
  rw [hW8]
  clear hW8
  have HS := Lib.hid hs0
  clear hs0
  refine wpIn_rangeX (w0 := W8) rfl (by omega) (gf := 41) (lb := #[.pointer (some ⟨s + 1, 0, none⟩), .pointer (some ⟨s + 2, 0, none⟩)]) rfl trivial (enters_of Tryd.func41 (by kernel_rfl) rfl)
    (rests_seq A c a B d b (s + 1) (s + 2) (by omega) W8 hla hlb bA bB hA8 hB8) (fun X Y h k h1 h2 => h.block k h2 (by omega) (by omega))
    KpU.t (fun W l o o' h1 h2 h3 h4 => KpU.bk W l o o' h1 h2 h3 h4) (Below.refl _ _) (fun _ => rfl) (own_euH a b _) (own_euS a b _) (own_euP a b _)
    (fun pre W => Boxed W s 22 (outv pre) ∧ Below s w W ∧ s + 3 ≤ W.heap.size) (fun _ _ _ => False)
    ?own (fun _ _ _ _ _ hs _ _ => hs) ?mv ?start
    (fun x => { tmps := #[.slice A (nl a) c, .slice B (nl b) d, undef, undef, .slice none 0 0, .pointer (some ⟨s, 0, none⟩), .slice x.A (nl x.a) x.c, .slice A (nl a) c, .slice B (nl b) d,
      .func (.func 41) #[] #[.pointer (some ⟨s + 1, 0, none⟩), .pointer (some ⟨s + 2, 0, none⟩)], .slice x.A (nl x.a) x.c, .slice x.B (nl x.b) x.d, undef, undef], defers := [] }) ?assign ?body ?done ?stop
  case own =>
    refine OwnFrom.and (Own.from (boxed_own _ _ _) _) (OwnFrom.and (ownFrom_below (Nat.le_of_eq HS.out) (by omega)) ?_)
    intro x Y Z row h hg hr
    exact Nat.le_trans h hg.size
  case mv =>
    rintro x Y Z ⟨h1, h2, h3⟩ hm
    exact ⟨(hm.block s (by omega) (by omega) (by omega)).trans h1, mvu_below h2 hm (by omega) (by omega) (by omega), Nat.le_trans h3 hm.size⟩
  case start => exact ⟨bO, hB0, by omega⟩
  case assign =>
    intro l x W K hK
    simp only [It.enc]
    gi_wp2
    exact hK
  case stop =>
    rintro D c pre W _ _ h _
    exact h.elim
  case done =>
    rintro D ys W hD ⟨pre, x, rfl, hE, hx0⟩ ⟨hv, hB, hs3⟩ hK
    rw [outv_snoc] at hv
    have hc := hv.cell
    have hg : x.a = Nat.gcd a b := by
      have h1 := euc_gcd a b pre.length hE.2.2
      rw [← hE.2.1] at h1
      simp only [hx0, Nat.gcd_zero_right] at h1
      exact h1
    have hX := hE.1.1
    replace hg := Lib.hid hg
    replace hE := Lib.hid hE
    replace hx0 := Lib.hid hx0
    gi_wp2_with (fail)
    have hDlt : D < W.heap.size := (Array.getElem?_eq_some_iff.1 hK).1
    refine ⟨by simp, .inl ⟨_, _, rfl, run_takeDeferred hK, ?_⟩⟩
    have hp : Below s w (W.putObj D (.deferred none)) := hB.trans (belowK_b (w := W8) (by omega) W D _ _ hD hK rfl rfl)
    refine ⟨_, results_tmp rfl _ _ _, ?_⟩
    have hX2 := hX.kept (grownBy_putObj' W D (.deferred none)) (fun r e => by cases e; exact ⟨_, hK, rfl⟩)
    rw [← hg.out]
    exact ⟨x.A, x.c, rfl, hX2, hp.mono (Nat.le_of_eq HS.out.symm)⟩
  case body =>
    rintro l pre x W ⟨hv, hB, hs3⟩ hE
    have hc := hv.cell
    have hf := hv.frozen
    gi_wp2_with (fail)
    refine ⟨KeepsOthers.setCell _ _ _, kpu_set hv (outv_notU pre) (by omega) (by omega), ?_, hB.setCell (p := ⟨s, 0, none⟩) (Nat.le_refl _) _, by simpa [World.setCell] using hs3⟩
    rw [outv_snoc]
    exact Boxed.set _ hv
end Go.Proofs.YthcmoimlnhghcaaDoor

/- Dyadic numbers, walked: Mid; rationals: Whole, Make; Rat. -/
set_option linter.unusedVariables false
set_option linter.unusedSimpArgs false
namespace Go.Proofs.YthcmoimlnhghcaaDoor
open Go.RowKit Go.Shelf
attribute [local go_sem] max2_i min2_i max_two min_two

end Go.Proofs.YthcmoimlnhghcaaDoor

/- A region that draws its order, outside a fence: by an invariant on what has come up. -/
set_option linter.unusedVariables false
set_option linter.unusedSimpArgs false
namespace Go.Proofs.YthcmoimlnhghcaaDoor
open Go.RowKit

/-- Whatever comes up next keeps the invariant; when all has come up, it gives what is asked. -/
theorem wpAny_inv {P : Program} {ops : Array Oper} {Q : Exit → Act → World → Prop} {md : Region.Mode} (Inv : Array Bool → Act → World → Prop)
    (hdone : ∀ L a w, Inv L a w → Region.ready md ops L = [] → Q .normal a w)
    (hstep : ∀ L a w i, Inv L a w → i < ops.size → L.getD i true = false → (∀ o, ops[i]? = some o → ∀ e ∈ o.after, Region.binds md e = true → L.getD e.on false = true) →
      wpOp P ops Q i (fun a' w' => Inv (L.setIfInBounds i true) a' w') a w) :
    ∀ fuel L a w, Inv L a w → L.size = ops.size → L.toList.count false ≤ fuel → wpAny P md ops Q fuel L a w := by
  intro fuel
  induction fuel with
  | zero =>
    intro L a w hI hs hc
    have hr : Region.ready md ops L = [] := by
      rw [List.eq_nil_iff_forall_not_mem]
      intro i hi
      obtain ⟨h0, o, ho, _⟩ := mem_ready.1 hi
      have hlt : i < L.size := by rw [hs]; exact (Array.getElem?_eq_some_iff.1 ho).1
      have h1 : L.toList.count false = 0 := by omega
      rw [List.count_eq_zero] at h1
      refine h1 ?_
      have h2 : L[i] = false := by simpa [Array.getD, hlt] using h0
      exact h2 ▸ Array.getElem_mem_toList hlt
    exact ⟨hr, hdone L a w hI hr⟩
  | succ fuel ih =>
    intro L a w hI hs hc
    refine ⟨fun hr => hdone L a w hI hr, fun i hi => ?_⟩
    obtain ⟨h0, o, ho, hd⟩ := mem_ready.1 hi
    have hlt : i < ops.size := (Array.getElem?_eq_some_iff.1 ho).1
    refine wpOp_mono (fun a' w' hI' => ih _ a' w' hI' (by simpa using hs) ?_) (hstep L a w i hI hlt h0 (fun o' ho' e he hb => by
      rw [ho] at ho'; cases ho'; exact hd e he hb))
    have hl : i < L.size := by omega
    have h2 : L[i] = false := by simpa [Array.getD, hl] using h0
    have h3 := count_set (L := L.toList) (i := i) (by rw [Array.getElem?_toList, Array.getElem?_eq_getElem hl, h2])
    rw [Array.toList_setIfInBounds]
    omega

/-- A region that draws, by an invariant on which operations have come up ('D k': number k has). -/
theorem wp_region_inv {P : Program} {ops : Array Oper} {Q : Exit → Act → World → Prop} {id : Nat} {a : Act} {w : World} (Inv : (Nat → Bool) → Act → World → Prop) (hm : P.follows .mixedOrders = true)
    (hd : edgesDown ops = true)
    (h0 : Inv (fun _ => false) a w.drew)
    (hdone : ∀ D a w, Inv D a w → (∀ i, i < ops.size → D i = true) → Q .normal a w)
    (hstep : ∀ D a w i, Inv D a w → i < ops.size → D i = false → (∀ o, ops[i]? = some o → ∀ e ∈ o.after, Region.binds .any e = true → D e.on = true) →
      wpOp P ops Q i (fun a' w' => Inv (fun k => if k = i then true else D k) a' w') a w) :
    (Code.region id ops true).wp P Q a w := by
  refine wp_region_any hm (wpAny_inv (fun L a w => L.size = ops.size ∧ Inv (fun k => L.getD k false) a w) ?_ ?_ _ _ _ _ ⟨by simp, ?_⟩ (by simp) (by simp))
  · rintro L a w ⟨hs, hI⟩ hr
    exact hdone _ a w hI (ready_nil hd hs hr)
  · rintro L a w i ⟨hs, hI⟩ hi hL he
    have hl : i < L.size := by omega
    refine wpOp_mono (fun a' w' h' => ⟨by simpa using hs, ?_⟩) (hstep (fun k => L.getD k false) a w i hI hi (by simp only [Array.getD, hl, dite_true] at hL ⊢; exact hL) he)
    have : (fun k => (L.setIfInBounds i true).getD k false) = (fun k => if k = i then true else L.getD k false) := funext (bit_set hl)
    rw [this]
    exact h'
  · have : (fun k => (Array.replicate ops.size false).getD k false) = (fun _ : Nat => false) := by
      funext k
      by_cases hk : k < ops.size <;> simp [Array.getD, hk]
    rw [this]
    exact h0
end Go.Proofs.YthcmoimlnhghcaaDoor

/- What a region that draws its order has made so far: numbers in slots, variables in memory. -/
set_option linter.unusedVariables false
set_option linter.unusedSimpArgs false
namespace Go.Proofs.YthcmoimlnhghcaaDoor
open Go.RowKit Go.Shelf

theorem keepP {D : Nat → Bool} {i k : Nat} {p q : Prop} (hne : k ≠ i) (h : D k = true → p) (hpq : p → q) : (if k = i then true else D k) = true → q := by rw [if_neg hne]; exact fun e => hpq (h e)
theorem keepP' {D : Nat → Bool} {i k : Nat} {p q : Prop} (hne : k ≠ i) (h : D k = true → p) (hpq : D k = true → p → q) : (if k = i then true else D k) = true → q := by rw [if_neg hne]; exact fun e => hpq e (h e)
def PI (u : Value) (z : Int) (W : World) : Prop := ∃ X c, u = .agg #[.bool (sg z), .slice X (nl (mg z)) c] ∧ NatV W X c (mg z)
def PR (u : Value) (q : Rat) (W : World) : Prop := ∃ X c Y d, u = .agg #[.bool (sg q.num), .slice X (nl (mg q.num)) c, .slice Y (nl q.den) d] ∧ NatV W X c (mg q.num) ∧ NatV W Y d q.den
def PRt (u : Value) (q : Rat) (W : World) : Prop := ∃ X c Y d, u = .tuple #[.agg #[.bool (sg q.num), .slice X (nl (mg q.num)) c, .slice Y (nl q.den) d], .int .i64 0] ∧ NatV W X c (mg q.num) ∧ NatV W Y d q.den
/-- A variable that the region has made; one that it has written. -/
def PB3 (t : TypeId) (n0 : Nat) (u : Value) (W : World) : Prop := ∃ nb u0 u1 u2, u = .pointer (some ⟨nb, 0, none⟩) ∧ n0 ≤ nb ∧ BoxA W nb t #[u0, u1, u2] ∧ NotU u0 ∧ NotU u1 ∧ NotU u2
def PB2 (t : TypeId) (n0 : Nat) (u : Value) (W : World) : Prop := ∃ nb u0 u1, u = .pointer (some ⟨nb, 0, none⟩) ∧ n0 ≤ nb ∧ BoxA W nb t #[u0, u1] ∧ NotU u0 ∧ NotU u1
theorem notU2 {u0 u1 : Value} (h0 : NotU u0) (h1 : NotU u1) : ∀ x ∈ (#[u0, u1] : Array Value).toList, NotU x := by
  intro x hx; simp at hx; rcases hx with rfl | rfl <;> assumption
def PBI (n0 : Nat) (u : Value) (z : Int) (W : World) : Prop := ∃ nb X c, u = .pointer (some ⟨nb, 0, none⟩) ∧ n0 ≤ nb ∧ BoxA W nb 31 #[.bool (sg z), .slice X (nl (mg z)) c] ∧ NatV W X c (mg z)
section
variable {W W' : World} {u : Value} {z : Int} {q : Rat} {t : TypeId} {n0 : Nat}
theorem PI.below (h : PI u z W) (hb : Below W.heap.size W W') : PI u z W' := by
  obtain ⟨X, c, h1, h2⟩ := h; exact ⟨X, c, h1, h2.below hb⟩
theorem PR.below (h : PR u q W) (hb : Below W.heap.size W W') : PR u q W' := by
  obtain ⟨X, c, Y, d, h1, h2, h3⟩ := h; exact ⟨X, c, Y, d, h1, h2.below hb, h3.below hb⟩
theorem PRt.below (h : PRt u q W) (hb : Below W.heap.size W W') : PRt u q W' := by
  obtain ⟨X, c, Y, d, h1, h2, h3⟩ := h; exact ⟨X, c, Y, d, h1, h2.below hb, h3.below hb⟩
theorem PB3.below (h : PB3 t n0 u W) (hb : Below W.heap.size W W') : PB3 t n0 u W' := by
  obtain ⟨nb, u0, u1, u2, h1, h2, h3, h4⟩ := h; exact ⟨nb, u0, u1, u2, h1, h2, h3.below hb, h4⟩
theorem PB2.below (h : PB2 t n0 u W) (hb : Below W.heap.size W W') : PB2 t n0 u W' := by
  obtain ⟨nb, u0, u1, h1, h2, h3, h4⟩ := h; exact ⟨nb, u0, u1, h1, h2, h3.below hb, h4⟩
theorem PB3.lt (h : PB3 t n0 u W) : ∃ nb, u = .pointer (some ⟨nb, 0, none⟩) ∧ nb < W.heap.size := by
  obtain ⟨nb, u0, u1, u2, h1, h2, h3, h4⟩ := h; exact ⟨nb, h1, h3.lt⟩
theorem PB2.lt (h : PB2 t n0 u W) : ∃ nb, u = .pointer (some ⟨nb, 0, none⟩) ∧ nb < W.heap.size := by
  obtain ⟨nb, u0, u1, h1, h2, h3, h4⟩ := h; exact ⟨nb, h1, h3.lt⟩
theorem PBI.below (h : PBI n0 u z W) (hb : Below W.heap.size W W') : PBI n0 u z W' := by
  obtain ⟨nb, X, c, h1, h2, h3, h4⟩ := h; exact ⟨nb, X, c, h1, h2, h3.below hb, h4.below hb⟩
/-- What a store into a variable without limbs leaves as it was. -/
structure Put (W W' : World) (k : Nat) : Prop where
  nat : ∀ {A : Option Addr} {c n : Nat}, NatV W A c n → NatV W' A c n
  far : ∀ j, j ≠ k → W'.heap[j]? = W.heap[j]?
theorem BoxA.put2 {u0 u1 : Value} {k : Nat} (h : BoxA W k t #[u0, u1]) (hu : ∀ x ∈ (#[u0, u1] : Array Value).toList, NotU x) (v0 v1 : Value) : Put W ((W.setCell ⟨k, 0, none⟩ v0).setCell ⟨k, 1, none⟩ v1) k := ⟨fun hN => h.keep2 hu hN, fun j hj => set2_far j hj⟩
theorem PI.put {k : Nat} (h : PI u z W) (hp : Put W W' k) : PI u z W' := by
  obtain ⟨X, c, h1, h2⟩ := h; exact ⟨X, c, h1, hp.nat h2⟩
theorem PR.put {k : Nat} (h : PR u q W) (hp : Put W W' k) : PR u q W' := by
  obtain ⟨X, c, Y, d, h1, h2, h3⟩ := h; exact ⟨X, c, Y, d, h1, hp.nat h2, hp.nat h3⟩
theorem PRt.put {k : Nat} (h : PRt u q W) (hp : Put W W' k) : PRt u q W' := by
  obtain ⟨X, c, Y, d, h1, h2, h3⟩ := h; exact ⟨X, c, Y, d, h1, hp.nat h2, hp.nat h3⟩
theorem PB3.put {k : Nat} (h : PB3 t n0 u W) (hp : Put W W' k) (hne : u ≠ .pointer (some ⟨k, 0, none⟩)) : PB3 t n0 u W' := by
  obtain ⟨nb, u0, u1, u2, h1, h2, h3, h4⟩ := h
  exact ⟨nb, u0, u1, u2, h1, h2, ⟨(hp.far nb (fun e => hne (by rw [h1, e]))).trans h3.at_⟩, h4⟩
theorem PB2.put {k : Nat} (h : PB2 t n0 u W) (hp : Put W W' k) (hne : u ≠ .pointer (some ⟨k, 0, none⟩)) : PB2 t n0 u W' := by
  obtain ⟨nb, u0, u1, h1, h2, h3, h4⟩ := h
  exact ⟨nb, u0, u1, h1, h2, ⟨(hp.far nb (fun e => hne (by rw [h1, e]))).trans h3.at_⟩, h4⟩
theorem PBI.put {k : Nat} (h : PBI n0 u z W) (hp : Put W W' k) (hne : u ≠ .pointer (some ⟨k, 0, none⟩)) : PBI n0 u z W' := by
  obtain ⟨nb, X, c, h1, h2, h3, h4⟩ := h
  exact ⟨nb, X, c, h1, h2, ⟨(hp.far nb (fun e => hne (by rw [h1, e]))).trans h3.at_⟩, hp.nat h4⟩
end
end Go.Proofs.YthcmoimlnhghcaaDoor

/- The document's whole numbers, walked: Shift. -/
set_option linter.unusedVariables false
set_option linter.unusedSimpArgs false
namespace Go.Proofs.YthcmoimlnhghcaaDoor
open Go.RowKit Go.Shelf
attribute [local go_sem] max2_i min2_i max_two min_two

def PN (u : Value) (n : Nat) (W : World) : Prop := ∃ X c, u = .slice X (nl n) c ∧ NatV W X c n
def PII (u : Value) (q r : Int) (W : World) : Prop := ∃ X c Y d, u = .tuple #[.agg #[.bool (sg q), .slice X (nl (mg q)) c], .agg #[.bool (sg r), .slice Y (nl (mg r)) d], .int .i64 0] ∧ NatV W X c (mg q) ∧ NatV W Y d (mg r)
theorem PN.below {W W' : World} {u : Value} {n : Nat} (h : PN u n W) (hb : Below W.heap.size W W') : PN u n W' := by
  obtain ⟨X, c, h1, h2⟩ := h; exact ⟨X, c, h1, h2.below hb⟩
theorem PII.below {W W' : World} {u : Value} {q r : Int} (h : PII u q r W) (hb : Below W.heap.size W W') : PII u q r W' := by
  obtain ⟨X, c, Y, d, h1, h2, h3⟩ := h; exact ⟨X, c, Y, d, h1, h2.below hb, h3.below hb⟩
theorem PN.put {W W' : World} {u : Value} {n k : Nat} (h : PN u n W) (hp : Put W W' k) : PN u n W' := by
  obtain ⟨X, c, h1, h2⟩ := h; exact ⟨X, c, h1, hp.nat h2⟩
theorem PII.put {W W' : World} {u : Value} {q r : Int} {k : Nat} (h : PII u q r W) (hp : Put W W' k) : PII u q r W' := by
  obtain ⟨X, c, Y, d, h1, h2, h3⟩ := h; exact ⟨X, c, Y, d, h1, hp.nat h2, hp.nat h3⟩
end Go.Proofs.YthcmoimlnhghcaaDoor

/- The document's greatest common divisor, walked. -/
set_option linter.unusedVariables false
set_option linter.unusedSimpArgs false
namespace Go.Proofs.YthcmoimlnhghcaaDoor
open Go.RowKit Go.Shelf
attribute [local go_sem] max2_i min2_i max_two min_two

end Go.Proofs.YthcmoimlnhghcaaDoor

/- The document's rationals, walked: nat, Whole, Make, over, Sign, Neg. -/
set_option linter.unusedVariables false
set_option linter.unusedSimpArgs false
namespace Go.Proofs.YthcmoimlnhghcaaDoor
open Go.RowKit Go.Shelf
attribute [local go_sem] max2_i min2_i max_two min_two

def PIb (u : Value) (q : Int) (W : World) : Prop := ∃ X c, u = .tuple #[.agg #[.bool (sg q), .slice X (nl (mg q)) c], .bool true] ∧ NatV W X c (mg q)
theorem PIb.below {W W' : World} {u : Value} {q : Int} (h : PIb u q W) (hb : Below W.heap.size W W') : PIb u q W' := by
  obtain ⟨X, c, h1, h2⟩ := h; exact ⟨X, c, h1, h2.below hb⟩
theorem PIb.put {W W' : World} {u : Value} {q : Int} {k : Nat} (h : PIb u q W) (hp : Put W W' k) : PIb u q W' := by
  obtain ⟨X, c, h1, h2⟩ := h; exact ⟨X, c, h1, hp.nat h2⟩
end Go.Proofs.YthcmoimlnhghcaaDoor

/- The document's rationals, walked: Mul, Add, Cmp. -/
set_option linter.unusedVariables false
set_option linter.unusedSimpArgs false
namespace Go.Proofs.YthcmoimlnhghcaaDoor
open Go.RowKit Go.Shelf
attribute [local go_sem] max2_i min2_i max_two min_two

end Go.Proofs.YthcmoimlnhghcaaDoor

/- The document's rationals, walked: Mul, Add, Cmp. -/
set_option linter.unusedVariables false
set_option linter.unusedSimpArgs false
namespace Go.Proofs.YthcmoimlnhghcaaDoor
open Go.RowKit Go.Shelf
attribute [local go_sem] max2_i min2_i max_two min_two

end Go.Proofs.YthcmoimlnhghcaaDoor

/- The document's rationals, walked: Cmp, Sub, Floor, Ceil, Same. -/
set_option linter.unusedVariables false
set_option linter.unusedSimpArgs false
namespace Go.Proofs.YthcmoimlnhghcaaDoor
open Go.RowKit Go.Shelf
attribute [local go_sem] max2_i min2_i max_two min_two

end Go.Proofs.YthcmoimlnhghcaaDoor

/- Dyadic numbers, walked: Rat; directions. -/
set_option linter.unusedVariables false
set_option linter.unusedSimpArgs false
namespace Go.Proofs.YthcmoimlnhghcaaDoor
open Go.RowKit Go.Shelf
attribute [local go_sem] max2_i min2_i max_two min_two

theorem iof1_c (w : World) : Calls Tryd.prog 50 #[.int .i64 1] w (RetI w 1) := iof_c 1 w (by decide)
end Go.Proofs.YthcmoimlnhghcaaDoor

/- Dyadic numbers, walked: Rat, down. -/
set_option linter.unusedVariables false
set_option linter.unusedSimpArgs false
namespace Go.Proofs.YthcmoimlnhghcaaDoor
open Go.RowKit Go.Shelf
attribute [local go_sem] max2_i min2_i max_two min_two
end Go.Proofs.YthcmoimlnhghcaaDoor

/- Directions, walked. -/
set_option linter.unusedVariables false
set_option linter.unusedSimpArgs false
namespace Go.Proofs.YthcmoimlnhghcaaDoor
open Go.RowKit Go.Shelf
attribute [local go_sem] max2_i min2_i max_two min_two

theorem and_one_u32 (x : Nat) (hx : x < 4294967296) : bits .and .u32 (x : Int) 1 = ((x % 2 : Nat) : Int) := by
  have := u32_and_nat x 1 hx (by decide)
  rw [Nat.and_one_is_mod] at this
  exact this
end Go.Proofs.YthcmoimlnhghcaaDoor

/- A quotient rounded. -/
set_option linter.unusedVariables false
set_option linter.unusedSimpArgs false
namespace Go.Proofs.YthcmoimlnhghcaaDoor
open Go.RowKit Go.Shelf
attribute [local go_sem] max2_i min2_i max_two min_two

end Go.Proofs.YthcmoimlnhghcaaDoor

/- Dyadic numbers, walked: Cut. -/
set_option linter.unusedVariables false
set_option linter.unusedSimpArgs false
namespace Go.Proofs.YthcmoimlnhghcaaDoor
open Go.RowKit Go.Shelf
attribute [local go_sem] max2_i min2_i max_two min_two

end Go.Proofs.YthcmoimlnhghcaaDoor

/- Dyadic numbers, walked: Round. -/
set_option linter.unusedVariables false
set_option linter.unusedSimpArgs false
namespace Go.Proofs.YthcmoimlnhghcaaDoor
open Go.RowKit Go.Shelf
attribute [local go_sem] max2_i min2_i max_two min_two

end Go.Proofs.YthcmoimlnhghcaaDoor

/- The document's dyadic numbers, walked: Make. -/
set_option linter.unusedVariables false
set_option linter.unusedSimpArgs false
namespace Go.Proofs.YthcmoimlnhghcaaDoor
open Go.RowKit Go.Shelf
attribute [local go_sem] max2_i min2_i max_two min_two

end Go.Proofs.YthcmoimlnhghcaaDoor

/- The document's dyadic numbers, walked: power, Rat. -/
set_option linter.unusedVariables false
set_option linter.unusedSimpArgs false
namespace Go.Proofs.YthcmoimlnhghcaaDoor
open Go.RowKit Go.Shelf
attribute [local go_sem] max2_i min2_i max_two min_two

end Go.Proofs.YthcmoimlnhghcaaDoor

/- The document's dyadic numbers, walked: Same, Sign, Scaled, Cmp. -/
set_option linter.unusedVariables false
set_option linter.unusedSimpArgs false
namespace Go.Proofs.YthcmoimlnhghcaaDoor
open Go.RowKit Go.Shelf
attribute [local go_sem] max2_i min2_i max_two min_two

end Go.Proofs.YthcmoimlnhghcaaDoor

/- The document's dyadic numbers, walked: Of, Neg. -/
set_option linter.unusedVariables false
set_option linter.unusedSimpArgs false
namespace Go.Proofs.YthcmoimlnhghcaaDoor
open Go.RowKit Go.Shelf
attribute [local go_sem] max2_i min2_i max_two min_two

end Go.Proofs.YthcmoimlnhghcaaDoor

/- The document's dyadic numbers, walked: Add, Sub. -/
set_option linter.unusedVariables false
set_option linter.unusedSimpArgs false
namespace Go.Proofs.YthcmoimlnhghcaaDoor
open Go.RowKit Go.Shelf
attribute [local go_sem] max2_i min2_i max_two min_two

end Go.Proofs.YthcmoimlnhghcaaDoor

/- The document's dyadic numbers, walked: Mul. -/
set_option linter.unusedVariables false
set_option linter.unusedSimpArgs false
namespace Go.Proofs.YthcmoimlnhghcaaDoor
open Go.RowKit Go.Shelf
attribute [local go_sem] max2_i min2_i max_two min_two

end Go.Proofs.YthcmoimlnhghcaaDoor

/- The document's dyadic numbers, walked: Made. -/
set_option linter.unusedVariables false
set_option linter.unusedSimpArgs false
namespace Go.Proofs.YthcmoimlnhghcaaDoor
open Go.RowKit Go.Shelf
attribute [local go_sem] max2_i min2_i max_two min_two

end Go.Proofs.YthcmoimlnhghcaaDoor

/- The document's dyadic numbers, walked: Mid. -/
set_option linter.unusedVariables false
set_option linter.unusedSimpArgs false
namespace Go.Proofs.YthcmoimlnhghcaaDoor
open Go.RowKit Go.Shelf
attribute [local go_sem] max2_i min2_i max_two min_two

end Go.Proofs.YthcmoimlnhghcaaDoor

/- Whether a natural, a whole number is right. -/
set_option linter.unusedVariables false
set_option linter.unusedSimpArgs false
namespace Go.Proofs.YthcmoimlnhghcaaDoor
open Go.RowKit Go.Shelf
attribute [local go_sem] max2_i min2_i max_two min_two

end Go.Proofs.YthcmoimlnhghcaaDoor

/- Whether a dyadic number is right. -/
set_option linter.unusedVariables false
set_option linter.unusedSimpArgs false
namespace Go.Proofs.YthcmoimlnhghcaaDoor
open Go.RowKit Go.Shelf
attribute [local go_sem] max2_i min2_i max_two min_two

end Go.Proofs.YthcmoimlnhghcaaDoor

/- Whether a number is right, the document's way. -/
set_option linter.unusedVariables false
set_option linter.unusedSimpArgs false
namespace Go.Proofs.YthcmoimlnhghcaaDoor
open Go.RowKit Go.Shelf
attribute [local go_sem] max2_i min2_i max_two min_two

end Go.Proofs.YthcmoimlnhghcaaDoor

/- How long the parts of a dyadic number's rational are. -/
set_option linter.unusedVariables false
namespace Go.Proofs.YthcmoimlnhghcaaDoor

end Go.Proofs.YthcmoimlnhghcaaDoor

/- The sums of products modulo one prime, walked. -/
set_option linter.unusedVariables false
set_option linter.unusedSimpArgs false
namespace Go.Proofs.YthcmoimlnhghcaaDoor
open Go.RowKit Go.Shelf

/-- What is asked of a prime (that it is one is not). -/
structure Prm (p : Nat) : Prop where
  two : 2 < p
  small : p < 1073741824
  one : p % 1048576 = 1
  half : 3 ^ ((p - 1) / 2) % p = p - 1
  full : 2 ^ (p - 1) % p = 1
/-- The transform's root. -/
def rt (p k : Nat) : Nat := 3 ^ ((p - 1) / 2 ^ k) % p
theorem Prm.dvd {p : Nat} (h : Prm p) (k : Nat) (hk : k ≤ 20) : (p - 1) / 2 ^ k * 2 ^ k = p - 1 := by
  refine Nat.div_mul_cancel ?_
  have h1 : 1048576 ∣ p - 1 := by have := h.one; have := h.two; omega
  exact Nat.dvd_trans (show 2 ^ k ∣ 2 ^ 20 from Nat.pow_dvd_pow 2 hk) h1
section
variable {p : Nat} [NeZero p] {φ : Nat → Fin p}
theorem Prm.neg (h : Prm p) (hφ : Hom p φ) : pw (φ 3) ((p - 1) / 2) = -1 := by
  have h1 : φ (3 ^ ((p - 1) / 2)) = φ (p - 1) := by rw [← hφ.modp, h.half]
  rw [hφ.pow] at h1
  rw [h1]
  have h2 := hφ.add (p - 1) 1
  have := h.two
  rw [Nat.sub_add_cancel (by omega), hφ.p0, hφ.one] at h2
  grind
theorem Prm.root (h : Prm p) (hφ : Hom p φ) (k : Nat) (hk : k ≤ 20) : k = 0 ∨ pw (φ (rt p k)) (2 ^ (k - 1)) = -1 := by
  cases k with
  | zero => exact .inl rfl
  | succ k =>
    right
    unfold rt
    rw [hφ.modp, hφ.pow, pw_pw, Nat.add_sub_cancel, ← h.neg hφ]
    congr 1
    have h1 := h.dvd (k + 1) hk
    generalize (p - 1) / 2 ^ (k + 1) = x at h1 ⊢
    rw [Nat.pow_succ, ← Nat.mul_assoc] at h1
    omega
theorem Prm.unit (h : Prm p) (hφ : Hom p φ) : pw (φ 3) (p - 1) = 1 := by
  have h1 : p - 1 = (p - 1) / 2 * 2 := by have := h.one; have := h.two; omega
  rw [h1, ← pw_pw, h.neg hφ]
  simp only [pw]; grind
theorem Prm.back (h : Prm p) (hφ : Hom p φ) (k : Nat) : φ (rt p k) * φ (rt p k ^ (p - 2) % p) = 1 := by
  rw [hφ.modp, hφ.pow, ← pw_1 (φ (rt p k)), pw_pw, ← pw_add]
  have := h.two
  rw [show 1 + 1 * (p - 2) = p - 1 by omega]
  unfold rt
  rw [hφ.modp, hφ.pow, pw_pw, Nat.mul_comm, ← pw_pw, h.unit hφ, pw_one]
theorem sm_ones (hφ : Hom p φ) (n : Nat) : sm (fun _ => (1 : Fin p)) n = φ n := by
  induction n with
  | zero => exact hφ.zero.symm
  | succ n ih => rw [sm, ih, hφ.add, hφ.one]
theorem Prm.over (h : Prm p) (hφ : Hom p φ) (k : Nat) : φ (2 ^ k) * φ ((2 ^ k) ^ (p - 2) % p) = 1 := by
  rw [hφ.modp, hφ.pow (2 ^ k), ← pw_1 (φ (2 ^ k)), pw_pw, ← pw_add]
  have := h.two
  rw [show 1 + 1 * (p - 2) = p - 1 by omega, ← hφ.pow, ← Nat.pow_mul, Nat.mul_comm, Nat.pow_mul, hφ.pow, ← hφ.modp, h.full, hφ.one, pw_one]
/-- The whole way there and back. -/
theorem conv_math (h : Prm p) (hφ : Hom p φ) (k la lb : Nat) (hk : k ≤ 20) (a b X Y Z : Nat → Nat) (ha : ∀ i, la ≤ i → a i = 0) (hb : ∀ i, lb ≤ i → b i = 0) (hN : la + lb ≤ 2 ^ k + 1) (hl : 0 < lb) (hla : la ≤ 2 ^ k) (hlb : lb ≤ 2 ^ k)
    (hX : ∀ t, t < 2 ^ k → φ (X t) = dft (fun j => φ (a j)) (φ (rt p k)) (2 ^ k) t) (hY : ∀ t, t < 2 ^ k → φ (Y t) = dft (fun j => φ (b j)) (φ (rt p k)) (2 ^ k) t)
    (hZ : ∀ t, t < 2 ^ k → φ (Z t) = dft (fun j => φ (X j * Y j % p)) (φ (rt p k ^ (p - 2) % p)) (2 ^ k) t) :
    ∀ t, t < 2 ^ k → Z t * ((2 ^ k) ^ (p - 2) % p) % p = cv a b la t % p := by
  intro t ht
  have hp := h.two
  refine hφ.eq (Nat.mod_lt _ (by omega)) ?_ 
  rw [hφ.modp, hφ.mul, hZ t ht, hφ.cv]
  have e : dft (fun j => φ (X j * Y j % p)) (φ (rt p k ^ (p - 2) % p)) (2 ^ k) t = dft (dft (cv (fun i => φ (a i)) (fun i => φ (b i)) la) (φ (rt p k)) (2 ^ k)) (φ (rt p k ^ (p - 2) % p)) (2 ^ k) t := by
    unfold dft
    refine sm_congr fun j hj => ?_
    congr 1
    show φ (X j * Y j % p) = _
    rw [hφ.modp, hφ.mul, hX j hj, hY j hj]
    have hc := cv_poly (fun i => φ (a i)) (fun i => φ (b i)) la lb (2 ^ k) (pw (φ (rt p k)) j) (fun i hi => by simp only [hb i hi, hφ.zero]) hN hl
    simp only [pw_pw] at hc
    rw [hc]
    unfold dft
    obtain ⟨r, hr⟩ : ∃ r, 2 ^ k = la + r := ⟨2 ^ k - la, by omega⟩
    obtain ⟨r', hr'⟩ : ∃ r', 2 ^ k = lb + r' := ⟨2 ^ k - lb, by omega⟩
    have e1 : sm (fun i => φ (a i) * pw (φ (rt p k)) (j * i)) (2 ^ k) = sm (fun i => φ (a i) * pw (φ (rt p k)) (j * i)) la := by
      rw [hr]; exact sm_more _ _ _ fun i hi => by simp only [ha i hi, hφ.zero]; grind
    have e2 : sm (fun i => φ (b i) * pw (φ (rt p k)) (j * i)) (2 ^ k) = sm (fun i => φ (b i) * pw (φ (rt p k)) (j * i)) lb := by
      rw [hr']; exact sm_more _ _ _ fun i hi => by simp only [hb i hi, hφ.zero]; grind
    rw [e1, e2]
  rw [e, dft_back _ _ _ k t (h.root hφ k hk) (h.back hφ k) ht, sm_ones hφ]
  have := h.over hφ k
  grind
end

theorem mk64 (c : Int) (h0 : 0 ≤ c) (hc : c ≤ 4194304) : ∀ W : World, (Instr.makeSlice 108 (.int .i64 c) (.int .i64 c)).run Tryd.prog W =
    .ok (.slice (some ⟨W.heap.size, 0, none⟩) c.toNat c.toNat) (W.alloc (.cells (v64 (List.replicate c.toNat 0)).toArray 45)) := fun W => by
  obtain ⟨i0, hi, hz0, hz1, hz2⟩ := info_parts info_u64
  have := run_make (P := Tryd.prog) W 108 45 i0 _ Tryd.underlying108 hi hz0 .i64 .i64 c c h0 (Int.le_refl _) (by rw [hz2]; omega) (by omega)
  rw [hz1, Nat.mul_one] at this
  rw [this]
  congr 4
  apply Array.toList_inj.1
  show (madeCells #[.int .u64 0] c.toNat).toList = _
  rw [toList_madeCells_one]
  simp [v64]
end Go.Proofs.YthcmoimlnhghcaaDoor

/- The sums of products modulo one prime: the walk. -/
set_option linter.unusedVariables false
set_option linter.unusedSimpArgs false
namespace Go.Proofs.YthcmoimlnhghcaaDoor
open Go.RowKit Go.Shelf

theorem arr_made (W : World) (n : Nat) : Arr (W.alloc (.cells (v64 (List.replicate n 0)).toArray 45)) W.heap.size (List.replicate n 0) := by
  unfold Arr; rw [heap_alloc_new]
theorem gl_rep (n i : Nat) : gl (List.replicate n 0) i = 0 := by
  simp [gl, List.getElem?_replicate]; split <;> rfl

theorem step_set {L : List Nat} {i n z : Nat} (N O : Nat → Nat) (hi : i < n) (hl : L.length = n) (hz : z = N i) (h : ∀ t, gl L t = if t < i then N t else O t) (t : Nat) : gl (L.set i z) t = if t < i + 1 then N t else O t := by
  by_cases e : t = i
  · have c : t < i + 1 := by omega
    rw [if_pos c, e, gl_set_eq' (by omega), hz]
  · rw [gl_set_ne' (by omega), h t]
    by_cases c : t < i
    · rw [if_pos c, if_pos (by omega)]
    · rw [if_neg c, if_neg (by omega)]

theorem around_c (p k : Nat) (A : Option Addr) (ca a : Nat) (B : Option Addr) (cb b : Nat) (w : World) (hP : Prm p) (hk : k ≤ 20) (hA : NatV w A ca a) (hB : NatV w B cb b) (hb : b ≠ 0) (hN : nl a + nl b ≤ 2 ^ k + 1) (hla : nl a ≤ 2 ^ k) (hlb : nl b ≤ 2 ^ k) :
    Calls Tryd.prog 86 #[fld p, .slice A (nl a) ca, .slice B (nl b) cb, .int .i64 (k : Nat)] w fun e w' => ∃ bx X, e = .returned (.slice (some ⟨bx, 0, none⟩) (2 ^ k : Nat) (2 ^ k : Nat)) ∧ w.heap.size ≤ bx ∧ Arr w' bx X ∧ X.length = 2 ^ k ∧
      (∀ t, t < 2 ^ k → gl X t = cv (gl (limbs a)) (gl (limbs b)) (nl a) t % p) ∧ Below w.heap.size w w' := by
  obtain ⟨n, hnk⟩ : ∃ n, n = 2 ^ k := ⟨_, rfl⟩
  have hnb : n ≤ 1048576 := by rw [hnk]; exact Nat.pow_le_pow_right (by decide) (show k ≤ 20 by omega)
  have hn1 : 1 ≤ n := by rw [hnk]; exact Nat.two_pow_pos k
  have hnI : (2 : Int) ^ k = (n : Int) := by rw [hnk]; simp
  have hp2 := hP.two
  have hpB := hP.small
  have HNK := Lib.hid hnk
  have HPP := Lib.hid hP
  rw [← hnk] at hN hla hlb ⊢
  have hmk := mk64 (n : Int) (by omega) (by omega)
  rw [Int.toNat_natCast] at hmk
  clear hnk
  have hp0 : ((p : Int) == 0) = false := ieqF (by omega)
  have hu := Tryd.underlying111
  have hE : ∃ E : World, E = (((w.alloc (.cells #[.int .u64 (p : Nat)] 111)).alloc (.cells (v64 (List.replicate n 0)).toArray 45)).alloc (.cells (v64 (List.replicate n 0)).toArray 45)).drew := ⟨_, rfl⟩
  obtain ⟨E, hE⟩ := hE
  have hs1 : (w.alloc (.cells #[.int .u64 (p : Nat)] 111)).heap.size = w.heap.size + 1 := by simp
  have hs2 : ((w.alloc (.cells #[.int .u64 (p : Nat)] 111)).alloc (.cells (v64 (List.replicate n 0)).toArray 45)).heap.size = w.heap.size + 1 + 1 := by simp
  have hb0 : Below w.heap.size w (w.alloc (.cells #[.int .u64 (p : Nat)] 111)) := (Below.refl _ _).alloc (Nat.le_refl _) _
  have hb1 : Below (w.heap.size + 1) (w.alloc (.cells #[.int .u64 (p : Nat)] 111)) ((w.alloc (.cells #[.int .u64 (p : Nat)] 111)).alloc (.cells (v64 (List.replicate n 0)).toArray 45)) := (Below.refl _ _).alloc (by omega) _
  have hb2 : Below (w.heap.size + 1 + 1) ((w.alloc (.cells #[.int .u64 (p : Nat)] 111)).alloc (.cells (v64 (List.replicate n 0)).toArray 45)) E := by
    rw [hE]; exact ((Below.refl _ _).alloc (by omega) _).drew
  have hbE : Below w.heap.size w E := (hb0.trans (hb1.mono (by omega))).trans (hb2.mono (by omega))
  have hcE : E.cell? ⟨w.heap.size, 0, none⟩ = some (.int .u64 (p : Nat)) := by
    have h0 : (w.alloc (.cells #[.int .u64 (p : Nat)] 111)).cell? ⟨w.heap.size, 0, none⟩ = some (.int .u64 (p : Nat)) := by
      unfold World.cell?; rw [heap_alloc_new]; rfl
    exact cell_below (hs2 ▸ hb2) (cell_below (hs1 ▸ hb1) h0)
  have hx1 : Arr E (w.heap.size + 1) (List.replicate n 0) := by
    have h0 := arr_made (w.alloc (.cells #[.int .u64 (p : Nat)] 111)) n
    rw [hs1] at h0
    exact h0.keep (hb2.block _ (by omega))
  have hx2 : Arr E (w.heap.size + 1 + 1) (List.replicate n 0) := by
    have h0 := arr_made ((w.alloc (.cells #[.int .u64 (p : Nat)] 111)).alloc (.cells (v64 (List.replicate n 0)).toArray 45)) n
    rw [hs2] at h0
    rw [hE]; exact h0
  have hsE := hbE.size
  clear hb0 hb1 hb2 hs1 hs2
  have G1 := And.intro hx1 (And.intro hx2 (show w.heap.size + 1 ≠ w.heap.size + 1 + 1 ∧ w.heap.size + 1 + 1 ≠ w.heap.size + 1 ∧ w.heap.size ≠ w.heap.size + 1 ∧ w.heap.size ≠ w.heap.size + 1 + 1 ∧ w.heap.size ≤ w.heap.size + 1 ∧ w.heap.size ≤ w.heap.size + 1 + 1 by omega))
  have G2 := And.intro hx2 (And.intro hx1 (show w.heap.size + 1 + 1 ≠ w.heap.size + 1 ∧ w.heap.size + 1 ≠ w.heap.size + 1 + 1 ∧ w.heap.size ≠ w.heap.size + 1 + 1 ∧ w.heap.size ≠ w.heap.size + 1 ∧ w.heap.size ≤ w.heap.size + 1 + 1 ∧ w.heap.size ≤ w.heap.size + 1 by omega))
  replace G1 := Lib.hid G1
  replace G2 := Lib.hid G2
  clear hx1 hx2
  unfold fld at *
  go_enter Tryd.func86, Tryd.ntmps86
  go_wp2_with (fail)
  go_big_region
  rotate_left
  · clear G1
    rw [← hE]
    generalize w.heap.size + 1 + 1 = bx at *
    generalize w.heap.size + 1 = bz at *
    have GG := G2
    clear G2
    obtain ⟨hX, hY, hxz, hzx, hsx, hsz, hlx, hlz⟩ := GG.out
    clear GG hE
    go_wp2_with (fail)
    go_loopw [11, 12, 27] (fun vi vx ct wr => ∃ (i : Nat) (M : List Nat), ct = .int .i64 i ∧ i ≤ nl a ∧ Only bx E wr ∧ Arr wr bx M ∧ Hid (M.length = n) ∧ Hid (∀ t, gl M t = if t < i then gl (limbs a) t % p else 0)) (fun vi vx ct wr => nl a - (intOf ct).toNat)
    case atStart => exact ⟨0, _, rfl, Nat.zero_le _, .refl _ _, hX, Lib.hid (by simp), Lib.hid (fun t => by rw [if_neg (by omega), gl_rep])⟩
    case round =>
      obtain ⟨i, M, rfl, hi, ho, hM, hMl, hMv⟩ := hrel
      by_cases hlt : i < nl a
      · obtain ⟨ad, rfl, hcx⟩ := (hA.rd.below (hbE.trans (ho.below hlx hsE))).get i hlt
        have hxl := (lim_limbs a).gl i
        obtain ⟨x, hx⟩ : ∃ x, x = gl (limbs a) i := ⟨_, rfl⟩
        rw [← hx] at hcx hxl
        replace hx := Lib.hid hx
        have hcp := ho.cell hcE hsx
        have hin : i < n := by omega
        have hc1 := hM.cell i (by rw [hMl.out]; exact hin)
        have hf1 := hM.frozen i
        obtain ⟨y, hy⟩ : ∃ y, y = x % p := ⟨_, rfl⟩
        have hyI : (x : Int) % (p : Int) = (y : Int) := by rw [hy]; simp
        have hyp : y < p := by rw [hy]; exact Nat.mod_lt _ (by omega)
        replace hy := Lib.hid hy
        go_wp2_with (fail)
        go_roundw
        case rel =>
          refine ⟨i + 1, M.set i y, by go_num, by omega, ho.store _ _, hM.store i y, Lib.hid (by simp [hMl.out]), Lib.hid (fun t => ?_)⟩
          by_cases e : t = i
          · have c : t < i + 1 := by omega
            rw [if_pos c, e, gl_set_eq' (by rw [hMl.out]; exact hin), hy.out, hx.out]
          · rw [gl_set_ne' (by omega), hMv.out t]
            by_cases c : t < i
            · rw [if_pos c, if_pos (by omega)]
            · rw [if_neg c, if_neg (by omega)]
        case measure => simp only [intOf]; omega
      · have hia : i = nl a := by omega
        have hMp : ∀ t, gl M t = gl (limbs a) t % p := fun t => by
          rw [hMv.out t]
          split
          · rfl
          · rw [gl_of_le (l := limbs a) (by show nl a ≤ t; omega)]; simp
        replace hMp := Lib.hid hMp
        replace hia := Lib.hid hia
        have hY1 := ho.arr hY hzx
        have hc1 := ho.cell hcE hsx
        have hb1 := hbE.trans (ho.below hlx hsE)
        have hs1 := hb1.size
        obtain ⟨W1, rfl⟩ : ∃ W1 : World, W1 = wr := ⟨_, rfl⟩
        clear hMv ho hX hY hcE hbE hsE hi
        go_wp2_with (fail)
        go_loopw [13, 14, 43] (fun vi vx ct wr => ∃ (i : Nat) (Q : List Nat), ct = .int .i64 i ∧ i ≤ nl b ∧ Only bz W1 wr ∧ Arr wr bz Q ∧ Hid (Q.length = n) ∧ Hid (∀ t, gl Q t = if t < i then gl (limbs b) t % p else 0)) (fun vi vx ct wr => nl b - (intOf ct).toNat)
        case atStart => exact ⟨0, _, rfl, Nat.zero_le _, .refl _ _, hY1, Lib.hid (by simp), Lib.hid (fun t => by rw [if_neg (by omega), gl_rep])⟩
        case round =>
          obtain ⟨j, Q, rfl, hj, ho, hQ, hQl, hQv⟩ := hrel
          by_cases hlt : j < nl b
          · obtain ⟨ad, rfl, hcx⟩ := (hB.rd.below (hb1.trans (ho.below hlz hs1))).get j hlt
            have hxl := (lim_limbs b).gl j
            obtain ⟨x, hx⟩ : ∃ x, x = gl (limbs b) j := ⟨_, rfl⟩
            rw [← hx] at hcx hxl
            replace hx := Lib.hid hx
            have hcp := ho.cell hc1 hsz
            have hjn : j < n := by omega
            have hc2 := hQ.cell j (by rw [hQl.out]; exact hjn)
            have hf2 := hQ.frozen j
            obtain ⟨y, hy⟩ : ∃ y, y = x % p := ⟨_, rfl⟩
            have hyI : (x : Int) % (p : Int) = (y : Int) := by rw [hy]; simp
            have hyp : y < p := by rw [hy]; exact Nat.mod_lt _ (by omega)
            replace hy := Lib.hid hy
            go_wp2_with (fail)
            go_roundw
            case rel =>
              refine ⟨j + 1, Q.set j y, by go_num, by omega, ho.store _ _, hQ.store j y, Lib.hid (by simp [hQl.out]), Lib.hid (fun t => ?_)⟩
              by_cases e : t = j
              · have c : t < j + 1 := by omega
                rw [if_pos c, e, gl_set_eq' (by rw [hQl.out]; exact hjn), hy.out, hx.out]
              · rw [gl_set_ne' (by omega), hQv.out t]
                by_cases c : t < j
                · rw [if_pos c, if_pos (by omega)]
                · rw [if_neg c, if_neg (by omega)]
            case measure => simp only [intOf]; omega
          · have hjb : j = nl b := by omega
            have hQp : ∀ t, gl Q t = gl (limbs b) t % p := fun t => by
              rw [hQv.out t]
              split
              · rfl
              · rw [gl_of_le (l := limbs b) (by show nl b ≤ t; omega)]; simp
            replace hQp := Lib.hid hQp
            replace hjb := Lib.hid hjb
            have hcp := ho.cell hc1 hsz
            have hM2 := ho.arr hM hxz
            have hb2 := hb1.trans (ho.below hlz hs1)
            have hs2 := hb2.size
            clear hQv ho hM hY1 hc1 hb1 hs1 hj
            obtain ⟨rw', hrw⟩ : ∃ r, r = rt p k := ⟨_, rfl⟩
            have hrwp : rw' < p := by rw [hrw]; exact Nat.mod_lt _ (by omega)
            have CR := froot_c p k wr hp2 (by omega) hk
            rw [show 3 ^ ((p - 1) / 2 ^ k) % p = rw' from hrw.symm] at CR
            replace CR := Lib.hid CR
            replace hrw := Lib.hid hrw
            unfold fld at CR
            go_wp2_with (fail)
            refine CR.out.mono ?_
            rintro e W3 ⟨rfl, hbd⟩
            clear CR
            haveI hnz : NeZero p := ⟨by omega⟩
            obtain ⟨φ, hφ⟩ : ∃ φ : Nat → Fin p, Hom p φ := ⟨_, hom_fin p⟩
            have hM3 := hM2.below hbd
            have hQ3 := hQ.below hbd
            have hc3 := cell_below hbd hcp
            have hb3 := hb2.cons hbd
            have hs3 := hb3.size
            have CX := run_c p bx k rw' M W3 hφ (by omega) hpB hk hM3 (by rw [hMl.out, HNK.out]) (fun t => by rw [hMp.out]; exact Nat.mod_lt _ (by omega)) hrwp (by rw [hrw.out]; exact HPP.out.root hφ k hk)
            rw [← HNK.out] at CX
            unfold fld at CX
            replace CX := Lib.hid CX
            clear hM2 hQ hcp hb2 hs2 hbd
            go_wp2_with (fail)
            refine CX.out.mono ?_
            rintro e W4 ⟨rfl, ho4, X, hX4, hXl, hXp, hXv⟩
            replace hXl := Lib.hid hXl
            replace hXp := Lib.hid hXp
            replace hXv := Lib.hid hXv
            have hQ4 := ho4.arr hQ3 hzx
            have hc4 := ho4.cell hc3 hsx
            have hb4 := hb3.trans (ho4.below hlx hs3)
            have hs4 := hb4.size
            have CY := run_c p bz k rw' Q W4 hφ (by omega) hpB hk hQ4 (by rw [hQl.out, HNK.out]) (fun t => by rw [hQp.out]; exact Nat.mod_lt _ (by omega)) hrwp (by rw [hrw.out]; exact HPP.out.root hφ k hk)
            rw [← HNK.out] at CY
            unfold fld at CY
            replace CY := Lib.hid CY
            clear hM3 hQ3 hc3 hb3 hs3 ho4 CX
            go_wp2_with (fail)
            refine CY.out.mono ?_
            rintro e W5 ⟨rfl, ho5, Y, hY5, hYl, hYp, hYv⟩
            replace hYl := Lib.hid hYl
            replace hYp := Lib.hid hYp
            replace hYv := Lib.hid hYv
            have hX5 := ho5.arr hX4 hxz
            have hc5 := ho5.cell hc4 hsz
            have hb5 := hb4.trans (ho5.below hlz hs4)
            have hs5 := hb5.size
            clear hX4 hQ4 hc4 hb4 hs4 ho5 CY
            go_wp2_with (fail)
            go_loopw [16, 72] (fun vi ct wr => ∃ (i : Nat) (L : List Nat), ct = .int .i64 i ∧ i ≤ n ∧ Only bx W5 wr ∧ Arr wr bx L ∧ Hid (L.length = n) ∧ Hid (∀ t, gl L t = if t < i then gl X t * gl Y t % p else gl X t)) (fun vi ct wr => n - (intOf ct).toNat)
            case atStart => exact ⟨0, X, rfl, Nat.zero_le _, .refl _ _, hX5, Lib.hid hXl.out, Lib.hid (fun t => by rw [if_neg (by omega)])⟩
            case round =>
              obtain ⟨i, L, rfl, hi, ho, hL, hLl, hLv⟩ := hrel
              by_cases hlt : i < n
              · have hcp := ho.cell hc5 hsx
                have hYr := ho.arr hY5 hzx
                have q1 := hL.cell i (by rw [hLl.out]; exact hlt)
                have q2 := hYr.cell i (by rw [hYl.out]; exact hlt)
                have hxv : gl L i = gl X i := by rw [hLv.out i, if_neg (by omega)]
                have hxp := hXp.out i
                have hyp := hYp.out i
                obtain ⟨x, hx⟩ : ∃ x, x = gl X i := ⟨_, rfl⟩
                obtain ⟨y, hy⟩ : ∃ y, y = gl Y i := ⟨_, rfl⟩
                rw [hxv, ← hx] at q1
                rw [← hy] at q2 hyp
                rw [← hx] at hxp
                obtain ⟨z, hz⟩ : ∃ z, z = x * y % p := ⟨_, rfl⟩
                have CM := fun (W : World) => fmul_c p x y W (by omega) (by omega) (by omega) (by omega)
                rw [← hz] at CM
                unfold fld at CM
                replace CM := Lib.hid CM
                replace hx := Lib.hid hx
                replace hy := Lib.hid hy
                replace hz := Lib.hid hz
                have hd := (Below.refl wr.heap.size wr).drew
                have gp := cell_below hd hcp
                have g1 := cell_below hd q1
                have g2 := cell_below hd q2
                clear hxv
                go_wp2_with (fail)
                go_region_with (go_at_call 88; (with_reducible refine (CM.out _).mono ?_); rintro e V4 ⟨rfl, hbv⟩; have hLV := (show Arr wr.drew bx L from hL).below hbv; have fz := hLV.frozen i; have hcq := hLV.cell i (by rw [hLl.out]; exact hlt))
                all_goals
                  go_wp2_with (fail)
                  go_roundw
                  case rel =>
                    refine ⟨i + 1, L.set i z, by go_num, by omega, (ho.drew.cons hbv).store _ _, hLV.store i z, Lib.hid (by simp [hLl.out]), Lib.hid (fun t => ?_)⟩
                    exact step_set (fun t => gl X t * gl Y t % p) (fun t => gl X t) hlt hLl.out (by rw [hz.out, hx.out, hy.out]) hLv.out t
                  case measure => simp only [intOf]; omega
              · have hin : i = n := by omega
                have hcp := ho.cell hc5 hsx
                have hb6 := hb5.trans (ho.below hlx hs5)
                have hs6 := hb6.size
                have hLp : ∀ t, gl L t < p := fun t => by
                  rw [hLv.out t]
                  split
                  · exact Nat.mod_lt _ (by omega)
                  · exact hXp.out t
                have hLe : ∀ t, t < n → gl L t = gl X t * gl Y t % p := fun t ht => by rw [hLv.out t, if_pos (by omega)]
                replace hLp := Lib.hid hLp
                replace hLe := Lib.hid hLe
                replace hin := Lib.hid hin
                obtain ⟨iv, hiv⟩ : ∃ iv, iv = rw' ^ (p - 2) % p := ⟨_, rfl⟩
                have hivp : iv < p := by rw [hiv]; exact Nat.mod_lt _ (by omega)
                have CI := fun (W : World) => finv_c p rw' W hp2 (by omega) (by omega)
                rw [← hiv] at CI
                have CZ := fun (W : World) (hW : Arr W bx L) => run_c p bx k iv L W hφ (by omega) hpB hk hW (by rw [hLl.out, HNK.out]) hLp.out hivp (by
                  rcases HPP.out.root hφ k hk with h | h
                  · exact .inl h
                  · right
                    have h1 := HPP.out.back hφ k
                    rw [← hrw.out, ← hiv] at h1
                    have h2 : pw (φ rw' * φ iv) (2 ^ (k - 1)) = 1 := by rw [h1, pw_one]
                    rw [pw_base, hrw.out, h] at h2
                    grind)
                rw [← HNK.out] at CZ
                unfold fld at CI CZ
                replace CI := Lib.hid CI
                replace CZ := Lib.hid CZ
                replace hiv := Lib.hid hiv
                have hd := (Below.refl wr.heap.size wr).drew
                have gp := cell_below hd hcp
                have gb := hb6.cons hd
                have gL := hL.below hd
                clear hLv ho hX5 hc5 hb5 hs5 hi
                go_wp2_with (fail)
                go_region_held3 (fun W => W.cell? ⟨w.heap.size, 0, none⟩ = some (.int .u64 (p : Nat)))
                  (first
                    | exact gp
                    | exact gp7
                    | exact gp8
                    | go_keep)
                  (first
                    | (go_at_call 87; (with_reducible refine (CI.out _).mono ?_); rintro e W7 ⟨rfl, hb7⟩; have gp7 := cell_below hb7 gp; have gb7 := gb.cons hb7; have gL7 := gL.below hb7)
                    | (go_at_call 97; (with_reducible refine (CZ.out _ gL7).mono ?_); rintro e W8 ⟨rfl, ho8, Z, hZ, hZl, hZp, hZv⟩; have gp8 := ho8.cell gp7 hsx; have gb8 := gb7.trans (ho8.below hlx gb7.size)))
                replace hZl := Lib.hid hZl
                replace hZp := Lib.hid hZp
                replace hZv := Lib.hid hZv
                have hs8 := gb8.size
                obtain ⟨ov, hov⟩ : ∃ ov, ov = n ^ (p - 2) % p := ⟨_, rfl⟩
                have hovp : ov < p := by rw [hov]; exact Nat.mod_lt _ (by omega)
                have CO := fun (W : World) => finv_c p n W hp2 (by omega) (by omega)
                rw [← hov] at CO
                unfold fld at CO
                replace CO := Lib.hid CO
                replace hov := Lib.hid hov
                have zn : IntKind.u64.wrap (n : Int) = (n : Int) := IntWalk.u64_in _ (by omega)
                have hd8 := (Below.refl W8.heap.size W8).drew
                have g9 := cell_below hd8 gp8
                have gb9 := gb8.cons hd8
                have gZ9 := hZ.below hd8
                clear gp gb gL gp7 gb7 gL7 hcp hb6 hs6 CI CZ ho8
                go_wp2_with (fail)
                go_region_held3 (fun W => W.cell? ⟨w.heap.size, 0, none⟩ = some (.int .u64 (p : Nat)))
                  (first
                    | exact g9
                    | exact g10
                    | go_keep)
                  (first
                    | (go_at_call 87; (with_reducible refine (CO.out _).mono ?_); rintro e W10 ⟨rfl, hb10⟩; have g10 := cell_below hb10 g9; have gb10 := gb9.cons hb10; have gZ10 := gZ9.below hb10))
                clear g9 gb9 gZ9 hd8 CO hs8
                have hs10 := gb10.size
                obtain ⟨WA, rfl⟩ : ∃ WA : World, WA = W10 := ⟨_, rfl⟩
                go_wp2_with (fail)
                go_loopw [18, 102] (fun vi ct wr => ∃ (i : Nat) (L : List Nat), ct = .int .i64 i ∧ i ≤ n ∧ Only bx WA wr ∧ Arr wr bx L ∧ Hid (L.length = n) ∧ Hid (∀ t, gl L t = if t < i then gl Z t * ov % p else gl Z t)) (fun vi ct wr => n - (intOf ct).toNat)
                case atStart => exact ⟨0, Z, rfl, Nat.zero_le _, .refl _ _, gZ10, Lib.hid hZl.out, Lib.hid (fun t => by rw [if_neg (by omega)])⟩
                case round =>
                  obtain ⟨i, L, rfl, hi, ho, hL, hLl, hLv⟩ := hrel
                  by_cases hlt : i < n
                  · have hcp := ho.cell g10 hsx
                    have q1 := hL.cell i (by rw [hLl.out]; exact hlt)
                    have hxv : gl L i = gl Z i := by rw [hLv.out i, if_neg (by omega)]
                    have hxp := hZp.out i
                    obtain ⟨x, hx⟩ : ∃ x, x = gl Z i := ⟨_, rfl⟩
                    rw [hxv, ← hx] at q1
                    rw [← hx] at hxp
                    obtain ⟨z, hz⟩ : ∃ z, z = x * ov % p := ⟨_, rfl⟩
                    have CM := fun (W : World) => fmul_c p x ov W (by omega) (by omega) (by omega) (by omega)
                    rw [← hz] at CM
                    unfold fld at CM
                    replace CM := Lib.hid CM
                    replace hx := Lib.hid hx
                    replace hz := Lib.hid hz
                    have hd := (Below.refl wr.heap.size wr).drew
                    have gp := cell_below hd hcp
                    have g1 := cell_below hd q1
                    clear hxv
                    go_wp2_with (fail)
                    go_region_with (go_at_call 88; (with_reducible refine (CM.out _).mono ?_); rintro e V4 ⟨rfl, hbv⟩; have hLV := (show Arr wr.drew bx L from hL).below hbv; have fz := hLV.frozen i; have hcq := hLV.cell i (by rw [hLl.out]; exact hlt))
                    all_goals
                      go_wp2_with (fail)
                      go_roundw
                      case rel =>
                        refine ⟨i + 1, L.set i z, by go_num, by omega, (ho.drew.cons hbv).store _ _, hLV.store i z, Lib.hid (by simp [hLl.out]), Lib.hid (fun t => ?_)⟩
                        exact step_set (fun t => gl Z t * ov % p) (fun t => gl Z t) hlt hLl.out (by rw [hz.out, hx.out]) hLv.out t
                      case measure => simp only [intOf]; omega
                  · have hin2 : i = n := by omega
                    have hfin : ∀ t, t < n → gl L t = cv (gl (limbs a)) (gl (limbs b)) (nl a) t % p := fun t ht => by
                      rw [hLv.out t, if_pos (by omega), hov.out, HNK.out]
                      refine conv_math HPP.out hφ k (nl a) (nl b) hk (gl (limbs a)) (gl (limbs b)) (gl X) (gl Y) (gl Z) (fun i hi => gl_of_le hi) (fun i hi => gl_of_le hi) (by rw [← HNK.out]; exact hN) (nl_pos.2 hb) (by rw [← HNK.out]; exact hla) (by rw [← HNK.out]; exact hlb) ?_ ?_ ?_ t (by rw [← HNK.out]; exact ht)
                      · intro t ht
                        rw [hXv.out t (by rw [HNK.out]; exact ht), HNK.out, hrw.out]
                        refine sm_congr fun j _ => ?_
                        show φ (gl M j) * _ = _
                        rw [hMp.out j, hφ.modp]
                      · intro t ht
                        rw [hYv.out t (by rw [HNK.out]; exact ht), HNK.out, hrw.out]
                        refine sm_congr fun j _ => ?_
                        show φ (gl Q j) * _ = _
                        rw [hQp.out j, hφ.modp]
                      · intro t ht
                        rw [hZv.out t (by rw [HNK.out]; exact ht), HNK.out, hiv.out, hrw.out]
                        refine sm_congr fun j hj => ?_
                        show φ (gl _ j) * _ = _
                        rw [hLe.out j (by rw [HNK.out]; exact hj)]
                    go_wp2_with (fail)
                    go_ret
                    exact ⟨bx, L, rfl, hlx, hL, hLl.out, hfin, gb10.trans (ho.below hlx hs10)⟩
  clear G2
  rw [← hE]
  generalize w.heap.size + 1 + 1 = bz at *
  generalize w.heap.size + 1 = bx at *
  have GG := G1
  clear G1
  obtain ⟨hX, hY, hxz, hzx, hsx, hsz, hlx, hlz⟩ := GG.out
  clear GG hE
  go_wp2_with (fail)
  go_loopw [11, 12, 27] (fun vi vx ct wr => ∃ (i : Nat) (M : List Nat), ct = .int .i64 i ∧ i ≤ nl a ∧ Only bx E wr ∧ Arr wr bx M ∧ Hid (M.length = n) ∧ Hid (∀ t, gl M t = if t < i then gl (limbs a) t % p else 0)) (fun vi vx ct wr => nl a - (intOf ct).toNat)
  case atStart => exact ⟨0, _, rfl, Nat.zero_le _, .refl _ _, hX, Lib.hid (by simp), Lib.hid (fun t => by rw [if_neg (by omega), gl_rep])⟩
  case round =>
    obtain ⟨i, M, rfl, hi, ho, hM, hMl, hMv⟩ := hrel
    by_cases hlt : i < nl a
    · obtain ⟨ad, rfl, hcx⟩ := (hA.rd.below (hbE.trans (ho.below hlx hsE))).get i hlt
      have hxl := (lim_limbs a).gl i
      obtain ⟨x, hx⟩ : ∃ x, x = gl (limbs a) i := ⟨_, rfl⟩
      rw [← hx] at hcx hxl
      replace hx := Lib.hid hx
      have hcp := ho.cell hcE hsx
      have hin : i < n := by omega
      have hc1 := hM.cell i (by rw [hMl.out]; exact hin)
      have hf1 := hM.frozen i
      obtain ⟨y, hy⟩ : ∃ y, y = x % p := ⟨_, rfl⟩
      have hyI : (x : Int) % (p : Int) = (y : Int) := by rw [hy]; simp
      have hyp : y < p := by rw [hy]; exact Nat.mod_lt _ (by omega)
      replace hy := Lib.hid hy
      go_wp2_with (fail)
      go_roundw
      case rel =>
        refine ⟨i + 1, M.set i y, by go_num, by omega, ho.store _ _, hM.store i y, Lib.hid (by simp [hMl.out]), Lib.hid (fun t => ?_)⟩
        by_cases e : t = i
        · have c : t < i + 1 := by omega
          rw [if_pos c, e, gl_set_eq' (by rw [hMl.out]; exact hin), hy.out, hx.out]
        · rw [gl_set_ne' (by omega), hMv.out t]
          by_cases c : t < i
          · rw [if_pos c, if_pos (by omega)]
          · rw [if_neg c, if_neg (by omega)]
      case measure => simp only [intOf]; omega
    · have hia : i = nl a := by omega
      have hMp : ∀ t, gl M t = gl (limbs a) t % p := fun t => by
        rw [hMv.out t]
        split
        · rfl
        · rw [gl_of_le (l := limbs a) (by show nl a ≤ t; omega)]; simp
      replace hMp := Lib.hid hMp
      replace hia := Lib.hid hia
      have hY1 := ho.arr hY hzx
      have hc1 := ho.cell hcE hsx
      have hb1 := hbE.trans (ho.below hlx hsE)
      have hs1 := hb1.size
      obtain ⟨W1, rfl⟩ : ∃ W1 : World, W1 = wr := ⟨_, rfl⟩
      clear hMv ho hX hY hcE hbE hsE hi
      go_wp2_with (fail)
      go_loopw [13, 14, 43] (fun vi vx ct wr => ∃ (i : Nat) (Q : List Nat), ct = .int .i64 i ∧ i ≤ nl b ∧ Only bz W1 wr ∧ Arr wr bz Q ∧ Hid (Q.length = n) ∧ Hid (∀ t, gl Q t = if t < i then gl (limbs b) t % p else 0)) (fun vi vx ct wr => nl b - (intOf ct).toNat)
      case atStart => exact ⟨0, _, rfl, Nat.zero_le _, .refl _ _, hY1, Lib.hid (by simp), Lib.hid (fun t => by rw [if_neg (by omega), gl_rep])⟩
      case round =>
        obtain ⟨j, Q, rfl, hj, ho, hQ, hQl, hQv⟩ := hrel
        by_cases hlt : j < nl b
        · obtain ⟨ad, rfl, hcx⟩ := (hB.rd.below (hb1.trans (ho.below hlz hs1))).get j hlt
          have hxl := (lim_limbs b).gl j
          obtain ⟨x, hx⟩ : ∃ x, x = gl (limbs b) j := ⟨_, rfl⟩
          rw [← hx] at hcx hxl
          replace hx := Lib.hid hx
          have hcp := ho.cell hc1 hsz
          have hjn : j < n := by omega
          have hc2 := hQ.cell j (by rw [hQl.out]; exact hjn)
          have hf2 := hQ.frozen j
          obtain ⟨y, hy⟩ : ∃ y, y = x % p := ⟨_, rfl⟩
          have hyI : (x : Int) % (p : Int) = (y : Int) := by rw [hy]; simp
          have hyp : y < p := by rw [hy]; exact Nat.mod_lt _ (by omega)
          replace hy := Lib.hid hy
          go_wp2_with (fail)
          go_roundw
          case rel =>
            refine ⟨j + 1, Q.set j y, by go_num, by omega, ho.store _ _, hQ.store j y, Lib.hid (by simp [hQl.out]), Lib.hid (fun t => ?_)⟩
            by_cases e : t = j
            · have c : t < j + 1 := by omega
              rw [if_pos c, e, gl_set_eq' (by rw [hQl.out]; exact hjn), hy.out, hx.out]
            · rw [gl_set_ne' (by omega), hQv.out t]
              by_cases c : t < j
              · rw [if_pos c, if_pos (by omega)]
              · rw [if_neg c, if_neg (by omega)]
          case measure => simp only [intOf]; omega
        · have hjb : j = nl b := by omega
          have hQp : ∀ t, gl Q t = gl (limbs b) t % p := fun t => by
            rw [hQv.out t]
            split
            · rfl
            · rw [gl_of_le (l := limbs b) (by show nl b ≤ t; omega)]; simp
          replace hQp := Lib.hid hQp
          replace hjb := Lib.hid hjb
          have hcp := ho.cell hc1 hsz
          have hM2 := ho.arr hM hxz
          have hb2 := hb1.trans (ho.below hlz hs1)
          have hs2 := hb2.size
          clear hQv ho hM hY1 hc1 hb1 hs1 hj
          obtain ⟨rw', hrw⟩ : ∃ r, r = rt p k := ⟨_, rfl⟩
          have hrwp : rw' < p := by rw [hrw]; exact Nat.mod_lt _ (by omega)
          have CR := froot_c p k wr hp2 (by omega) hk
          rw [show 3 ^ ((p - 1) / 2 ^ k) % p = rw' from hrw.symm] at CR
          replace CR := Lib.hid CR
          replace hrw := Lib.hid hrw
          unfold fld at CR
          go_wp2_with (fail)
          refine CR.out.mono ?_
          rintro e W3 ⟨rfl, hbd⟩
          clear CR
          haveI hnz : NeZero p := ⟨by omega⟩
          obtain ⟨φ, hφ⟩ : ∃ φ : Nat → Fin p, Hom p φ := ⟨_, hom_fin p⟩
          have hM3 := hM2.below hbd
          have hQ3 := hQ.below hbd
          have hc3 := cell_below hbd hcp
          have hb3 := hb2.cons hbd
          have hs3 := hb3.size
          have CX := run_c p bx k rw' M W3 hφ (by omega) hpB hk hM3 (by rw [hMl.out, HNK.out]) (fun t => by rw [hMp.out]; exact Nat.mod_lt _ (by omega)) hrwp (by rw [hrw.out]; exact HPP.out.root hφ k hk)
          rw [← HNK.out] at CX
          unfold fld at CX
          replace CX := Lib.hid CX
          clear hM2 hQ hcp hb2 hs2 hbd
          go_wp2_with (fail)
          refine CX.out.mono ?_
          rintro e W4 ⟨rfl, ho4, X, hX4, hXl, hXp, hXv⟩
          replace hXl := Lib.hid hXl
          replace hXp := Lib.hid hXp
          replace hXv := Lib.hid hXv
          have hQ4 := ho4.arr hQ3 hzx
          have hc4 := ho4.cell hc3 hsx
          have hb4 := hb3.trans (ho4.below hlx hs3)
          have hs4 := hb4.size
          have CY := run_c p bz k rw' Q W4 hφ (by omega) hpB hk hQ4 (by rw [hQl.out, HNK.out]) (fun t => by rw [hQp.out]; exact Nat.mod_lt _ (by omega)) hrwp (by rw [hrw.out]; exact HPP.out.root hφ k hk)
          rw [← HNK.out] at CY
          unfold fld at CY
          replace CY := Lib.hid CY
          clear hM3 hQ3 hc3 hb3 hs3 ho4 CX
          go_wp2_with (fail)
          refine CY.out.mono ?_
          rintro e W5 ⟨rfl, ho5, Y, hY5, hYl, hYp, hYv⟩
          replace hYl := Lib.hid hYl
          replace hYp := Lib.hid hYp
          replace hYv := Lib.hid hYv
          have hX5 := ho5.arr hX4 hxz
          have hc5 := ho5.cell hc4 hsz
          have hb5 := hb4.trans (ho5.below hlz hs4)
          have hs5 := hb5.size
          clear hX4 hQ4 hc4 hb4 hs4 ho5 CY
          go_wp2_with (fail)
          go_loopw [16, 72] (fun vi ct wr => ∃ (i : Nat) (L : List Nat), ct = .int .i64 i ∧ i ≤ n ∧ Only bx W5 wr ∧ Arr wr bx L ∧ Hid (L.length = n) ∧ Hid (∀ t, gl L t = if t < i then gl X t * gl Y t % p else gl X t)) (fun vi ct wr => n - (intOf ct).toNat)
          case atStart => exact ⟨0, X, rfl, Nat.zero_le _, .refl _ _, hX5, Lib.hid hXl.out, Lib.hid (fun t => by rw [if_neg (by omega)])⟩
          case round =>
            obtain ⟨i, L, rfl, hi, ho, hL, hLl, hLv⟩ := hrel
            by_cases hlt : i < n
            · have hcp := ho.cell hc5 hsx
              have hYr := ho.arr hY5 hzx
              have q1 := hL.cell i (by rw [hLl.out]; exact hlt)
              have q2 := hYr.cell i (by rw [hYl.out]; exact hlt)
              have hxv : gl L i = gl X i := by rw [hLv.out i, if_neg (by omega)]
              have hxp := hXp.out i
              have hyp := hYp.out i
              obtain ⟨x, hx⟩ : ∃ x, x = gl X i := ⟨_, rfl⟩
              obtain ⟨y, hy⟩ : ∃ y, y = gl Y i := ⟨_, rfl⟩
              rw [hxv, ← hx] at q1
              rw [← hy] at q2 hyp
              rw [← hx] at hxp
              obtain ⟨z, hz⟩ : ∃ z, z = x * y % p := ⟨_, rfl⟩
              have CM := fun (W : World) => fmul_c p x y W (by omega) (by omega) (by omega) (by omega)
              rw [← hz] at CM
              unfold fld at CM
              replace CM := Lib.hid CM
              replace hx := Lib.hid hx
              replace hy := Lib.hid hy
              replace hz := Lib.hid hz
              have hd := (Below.refl wr.heap.size wr).drew
              have gp := cell_below hd hcp
              have g1 := cell_below hd q1
              have g2 := cell_below hd q2
              clear hxv
              go_wp2_with (fail)
              go_region_with (go_at_call 88; (with_reducible refine (CM.out _).mono ?_); rintro e V4 ⟨rfl, hbv⟩; have hLV := (show Arr wr.drew bx L from hL).below hbv; have fz := hLV.frozen i; have hcq := hLV.cell i (by rw [hLl.out]; exact hlt))
              all_goals
                go_wp2_with (fail)
                go_roundw
                case rel =>
                  refine ⟨i + 1, L.set i z, by go_num, by omega, (ho.drew.cons hbv).store _ _, hLV.store i z, Lib.hid (by simp [hLl.out]), Lib.hid (fun t => ?_)⟩
                  exact step_set (fun t => gl X t * gl Y t % p) (fun t => gl X t) hlt hLl.out (by rw [hz.out, hx.out, hy.out]) hLv.out t
                case measure => simp only [intOf]; omega
            · have hin : i = n := by omega
              have hcp := ho.cell hc5 hsx
              have hb6 := hb5.trans (ho.below hlx hs5)
              have hs6 := hb6.size
              have hLp : ∀ t, gl L t < p := fun t => by
                rw [hLv.out t]
                split
                · exact Nat.mod_lt _ (by omega)
                · exact hXp.out t
              have hLe : ∀ t, t < n → gl L t = gl X t * gl Y t % p := fun t ht => by rw [hLv.out t, if_pos (by omega)]
              replace hLp := Lib.hid hLp
              replace hLe := Lib.hid hLe
              replace hin := Lib.hid hin
              obtain ⟨iv, hiv⟩ : ∃ iv, iv = rw' ^ (p - 2) % p := ⟨_, rfl⟩
              have hivp : iv < p := by rw [hiv]; exact Nat.mod_lt _ (by omega)
              have CI := fun (W : World) => finv_c p rw' W hp2 (by omega) (by omega)
              rw [← hiv] at CI
              have CZ := fun (W : World) (hW : Arr W bx L) => run_c p bx k iv L W hφ (by omega) hpB hk hW (by rw [hLl.out, HNK.out]) hLp.out hivp (by
                rcases HPP.out.root hφ k hk with h | h
                · exact .inl h
                · right
                  have h1 := HPP.out.back hφ k
                  rw [← hrw.out, ← hiv] at h1
                  have h2 : pw (φ rw' * φ iv) (2 ^ (k - 1)) = 1 := by rw [h1, pw_one]
                  rw [pw_base, hrw.out, h] at h2
                  grind)
              rw [← HNK.out] at CZ
              unfold fld at CI CZ
              replace CI := Lib.hid CI
              replace CZ := Lib.hid CZ
              replace hiv := Lib.hid hiv
              have hd := (Below.refl wr.heap.size wr).drew
              have gp := cell_below hd hcp
              have gb := hb6.cons hd
              have gL := hL.below hd
              clear hLv ho hX5 hc5 hb5 hs5 hi
              go_wp2_with (fail)
              go_region_held3 (fun W => W.cell? ⟨w.heap.size, 0, none⟩ = some (.int .u64 (p : Nat)))
                (first
                  | exact gp
                  | exact gp7
                  | exact gp8
                  | go_keep)
                (first
                  | (go_at_call 87; (with_reducible refine (CI.out _).mono ?_); rintro e W7 ⟨rfl, hb7⟩; have gp7 := cell_below hb7 gp; have gb7 := gb.cons hb7; have gL7 := gL.below hb7)
                  | (go_at_call 97; (with_reducible refine (CZ.out _ gL7).mono ?_); rintro e W8 ⟨rfl, ho8, Z, hZ, hZl, hZp, hZv⟩; have gp8 := ho8.cell gp7 hsx; have gb8 := gb7.trans (ho8.below hlx gb7.size)))
              replace hZl := Lib.hid hZl
              replace hZp := Lib.hid hZp
              replace hZv := Lib.hid hZv
              have hs8 := gb8.size
              obtain ⟨ov, hov⟩ : ∃ ov, ov = n ^ (p - 2) % p := ⟨_, rfl⟩
              have hovp : ov < p := by rw [hov]; exact Nat.mod_lt _ (by omega)
              have CO := fun (W : World) => finv_c p n W hp2 (by omega) (by omega)
              rw [← hov] at CO
              unfold fld at CO
              replace CO := Lib.hid CO
              replace hov := Lib.hid hov
              have zn : IntKind.u64.wrap (n : Int) = (n : Int) := IntWalk.u64_in _ (by omega)
              have hd8 := (Below.refl W8.heap.size W8).drew
              have g9 := cell_below hd8 gp8
              have gb9 := gb8.cons hd8
              have gZ9 := hZ.below hd8
              clear gp gb gL gp7 gb7 gL7 hcp hb6 hs6 CI CZ ho8
              go_wp2_with (fail)
              go_region_held3 (fun W => W.cell? ⟨w.heap.size, 0, none⟩ = some (.int .u64 (p : Nat)))
                (first
                  | exact g9
                  | exact g10
                  | go_keep)
                (first
                  | (go_at_call 87; (with_reducible refine (CO.out _).mono ?_); rintro e W10 ⟨rfl, hb10⟩; have g10 := cell_below hb10 g9; have gb10 := gb9.cons hb10; have gZ10 := gZ9.below hb10))
              clear g9 gb9 gZ9 hd8 CO hs8
              have hs10 := gb10.size
              obtain ⟨WA, rfl⟩ : ∃ WA : World, WA = W10 := ⟨_, rfl⟩
              go_wp2_with (fail)
              go_loopw [18, 102] (fun vi ct wr => ∃ (i : Nat) (L : List Nat), ct = .int .i64 i ∧ i ≤ n ∧ Only bx WA wr ∧ Arr wr bx L ∧ Hid (L.length = n) ∧ Hid (∀ t, gl L t = if t < i then gl Z t * ov % p else gl Z t)) (fun vi ct wr => n - (intOf ct).toNat)
              case atStart => exact ⟨0, Z, rfl, Nat.zero_le _, .refl _ _, gZ10, Lib.hid hZl.out, Lib.hid (fun t => by rw [if_neg (by omega)])⟩
              case round =>
                obtain ⟨i, L, rfl, hi, ho, hL, hLl, hLv⟩ := hrel
                by_cases hlt : i < n
                · have hcp := ho.cell g10 hsx
                  have q1 := hL.cell i (by rw [hLl.out]; exact hlt)
                  have hxv : gl L i = gl Z i := by rw [hLv.out i, if_neg (by omega)]
                  have hxp := hZp.out i
                  obtain ⟨x, hx⟩ : ∃ x, x = gl Z i := ⟨_, rfl⟩
                  rw [hxv, ← hx] at q1
                  rw [← hx] at hxp
                  obtain ⟨z, hz⟩ : ∃ z, z = x * ov % p := ⟨_, rfl⟩
                  have CM := fun (W : World) => fmul_c p x ov W (by omega) (by omega) (by omega) (by omega)
                  rw [← hz] at CM
                  unfold fld at CM
                  replace CM := Lib.hid CM
                  replace hx := Lib.hid hx
                  replace hz := Lib.hid hz
                  have hd := (Below.refl wr.heap.size wr).drew
                  have gp := cell_below hd hcp
                  have g1 := cell_below hd q1
                  clear hxv
                  go_wp2_with (fail)
                  go_region_with (go_at_call 88; (with_reducible refine (CM.out _).mono ?_); rintro e V4 ⟨rfl, hbv⟩; have hLV := (show Arr wr.drew bx L from hL).below hbv; have fz := hLV.frozen i; have hcq := hLV.cell i (by rw [hLl.out]; exact hlt))
                  all_goals
                    go_wp2_with (fail)
                    go_roundw
                    case rel =>
                      refine ⟨i + 1, L.set i z, by go_num, by omega, (ho.drew.cons hbv).store _ _, hLV.store i z, Lib.hid (by simp [hLl.out]), Lib.hid (fun t => ?_)⟩
                      exact step_set (fun t => gl Z t * ov % p) (fun t => gl Z t) hlt hLl.out (by rw [hz.out, hx.out]) hLv.out t
                    case measure => simp only [intOf]; omega
                · have hin2 : i = n := by omega
                  have hfin : ∀ t, t < n → gl L t = cv (gl (limbs a)) (gl (limbs b)) (nl a) t % p := fun t ht => by
                    rw [hLv.out t, if_pos (by omega), hov.out, HNK.out]
                    refine conv_math HPP.out hφ k (nl a) (nl b) hk (gl (limbs a)) (gl (limbs b)) (gl X) (gl Y) (gl Z) (fun i hi => gl_of_le hi) (fun i hi => gl_of_le hi) (by rw [← HNK.out]; exact hN) (nl_pos.2 hb) (by rw [← HNK.out]; exact hla) (by rw [← HNK.out]; exact hlb) ?_ ?_ ?_ t (by rw [← HNK.out]; exact ht)
                    · intro t ht
                      rw [hXv.out t (by rw [HNK.out]; exact ht), HNK.out, hrw.out]
                      refine sm_congr fun j _ => ?_
                      show φ (gl M j) * _ = _
                      rw [hMp.out j, hφ.modp]
                    · intro t ht
                      rw [hYv.out t (by rw [HNK.out]; exact ht), HNK.out, hrw.out]
                      refine sm_congr fun j _ => ?_
                      show φ (gl Q j) * _ = _
                      rw [hQp.out j, hφ.modp]
                    · intro t ht
                      rw [hZv.out t (by rw [HNK.out]; exact ht), HNK.out, hiv.out, hrw.out]
                      refine sm_congr fun j hj => ?_
                      show φ (gl _ j) * _ = _
                      rw [hLe.out j (by rw [HNK.out]; exact hj)]
                  go_wp2_with (fail)
                  go_ret
                  exact ⟨bx, L, rfl, hlx, hL, hLl.out, hfin, gb10.trans (ho.below hlx hs10)⟩
end Go.Proofs.YthcmoimlnhghcaaDoor

/- The three primes; a number from its rests; sums of products and the product. -/
set_option linter.unusedVariables false
set_option linter.unusedSimpArgs false
namespace Go.Proofs.YthcmoimlnhghcaaDoor
open Go.RowKit Go.Shelf

/-- A power's rest, by squares. -/
def pm : Nat → Nat → Nat → Nat → Nat
  | 0, _, _, m => 1 % m
  | f + 1, b, e, m => if e % 2 = 1 then pm f (b * b % m) (e / 2) m * b % m else pm f (b * b % m) (e / 2) m
theorem pm_eq (f b e m : Nat) (h : e < 2 ^ f) : pm f b e m = b ^ e % m := by
  induction f generalizing b e with
  | zero =>
    have : e = 0 := by simpa using h
    rw [this]; rfl
  | succ f ih =>
    have h2 : e / 2 < 2 ^ f := by rw [Nat.pow_succ] at h; omega
    have hb : b ^ e = b ^ (e % 2) * (b * b) ^ (e / 2) := by
      rw [← Nat.pow_two, ← Nat.pow_mul, ← Nat.pow_add]
      congr 1; omega
    rw [pm, ih _ _ h2, ← Nat.pow_mod]
    split
    · rename_i h1
      rw [hb, h1, Nat.pow_one, Nat.mod_mul_mod, Nat.mul_comm]
    · have h1 : e % 2 = 0 := by omega
      rw [hb, h1, Nat.pow_zero, Nat.one_mul]
theorem prm_of (p : Nat) (h1 : 2 < p) (h2 : p < 1073741824) (h3 : p % 1048576 = 1) (h4 : pm 30 3 ((p - 1) / 2) p = p - 1) (h5 : pm 30 2 (p - 1) p = 1) : Prm p :=
  ⟨h1, h2, h3, (pm_eq 30 _ _ _ (by show _ < 1073741824; omega)).symm.trans h4, by rw [← pm_eq 30 _ _ _ (by show _ < 1073741824; omega)]; exact h5⟩
theorem prm0 : Prm 998244353 := prm_of _ (by decide) (by decide) (by decide) (by decide +kernel) (by decide +kernel)
theorem prm1 : Prm 469762049 := prm_of _ (by decide) (by decide) (by decide) (by decide +kernel) (by decide +kernel)
theorem prm2 : Prm 167772161 := prm_of _ (by decide) (by decide) (by decide) (by decide +kernel) (by decide +kernel)

theorem finv_pm (p a v : Nat) (w : World) (hp : 2 < p) (hp2 : p < 1073741824) (ha : a < 18446744073709551616) (hv : pm 30 a (p - 2) p = v) :
    Calls Tryd.prog 87 #[fld p, .int .u64 (a : Nat)] w (RetU w v) := by
  rw [← hv, pm_eq _ _ _ _ (by show _ < 1073741824; omega)]
  exact finv_c p a w hp (by omega) ha

/-- The next piece of S, from its rest by m. -/
theorem crt (S p m i : Nat) (hm : 1 < m) (h : p * i % m = 1) : (S % m + m - S % p % m) % m * i % m = S / p % m := by
  haveI : NeZero m := ⟨by omega⟩
  obtain ⟨φ, hφ⟩ : ∃ φ : Nat → Fin m, Hom m φ := ⟨_, hom_fin m⟩
  refine hφ.eq (Nat.mod_lt _ (by omega)) ?_
  have h1 : φ (p * i) = 1 := by rw [← hφ.modp, h, hφ.one]
  rw [hφ.mul] at h1
  have h2 : φ S = φ p * φ (S / p) + φ (S % p) := by rw [← hφ.mul, ← hφ.add, Nat.div_add_mod]
  have h3 := Nat.mod_lt (S % p) (show 0 < m by omega)
  rw [hφ.modp, hφ.mul, hφ.sub (by omega), hφ.modp, hφ.modp, h2]
  grind
theorem crt3 (S p q m n i j : Nat) (hq : q = p * m) (hm : 1 < m) (hn : 1 < n) (h1 : p * i % m = 1) (h2 : q * j % n = 1) (hS : S < q * n) (x y low z : Nat) (hx : x = S % p) (hy : y = (S % m + m - x % m) % m * i % m) (hl : low = x + y * p) (hz : z = (S % n + n - low % n) % n * j % n) :
    low = S % q ∧ z = S / q ∧ z * q + low = S := by
  have e1 : low = S % q := by rw [hl, hy, hx, crt S p m i hm h1, hq, Nat.mod_mul, Nat.mul_comm]
  have e2 : z = S / q := by
    rw [hz, e1, crt S q n j hn h2]
    exact Nat.mod_eq_of_lt (Nat.div_lt_of_lt_mul hS)
  exact ⟨e1, e2, by rw [e1, e2, Nat.mul_comm]; exact Nat.div_add_mod S q⟩

theorem pw_nat (x n : Nat) : pw x n = x ^ n := by
  induction n with
  | zero => rfl
  | succ n ih => rw [pw, ih, Nat.pow_succ]
theorem val_sm (l : List Nat) : ∀ k, k ≤ l.length → val (l.take k) = sm (fun s => gl l s * 4294967296 ^ s) k := by
  intro k
  induction k with
  | zero => intro _; simp [val, sm]
  | succ k ih => intro h; rw [val_take_succ _ _ h, ih (by omega), sm, Nat.mul_comm]
theorem psum_sm (f : Nat → Nat) (n : Nat) : psum f n = sm (fun j => f j * 4294967296 ^ j) n := by
  induction n with
  | zero => rfl
  | succ n ih => rw [psum, ih, sm]
/-- The sums of products of limbs are the product. -/
theorem cv_mul (a b M : Nat) (hb : b ≠ 0) (hM : nl a + nl b ≤ M + 1) : psum (cv (gl (limbs a)) (gl (limbs b)) (nl a)) M = a * b := by
  have h := NatS.cv_poly (gl (limbs a)) (gl (limbs b)) (nl a) (nl b) M 4294967296 (fun t ht => gl_of_le ht) hM (nl_pos.2 hb)
  simp only [pw_nat] at h
  rw [psum_sm, h]
  have h1 := val_sm (limbs a) (nl a) (Nat.le_refl _)
  have h2 := val_sm (limbs b) (nl b) (Nat.le_refl _)
  rw [show (limbs a).take (nl a) = limbs a from List.take_of_length_le (Nat.le_refl _), val_limbs] at h1
  rw [show (limbs b).take (nl b) = limbs b from List.take_of_length_le (Nat.le_refl _), val_limbs] at h2
  rw [← h1, ← h2]
/-- They are small. -/
theorem cv_small (a b : List Nat) (ha : Lim a) (hb : Lim b) (n j : Nat) : cv (gl a) (gl b) n j ≤ n * (4294967295 * 4294967295) := by
  unfold cv
  induction n with
  | zero => simp [sm]
  | succ n ih =>
    rw [sm, Nat.add_mul, Nat.one_mul]
    refine Nat.add_le_add ih ?_
    split
    · exact Nat.mul_le_mul (Nat.le_of_lt_succ (ha.gl _)) (Nat.le_of_lt_succ (hb.gl _))
    · exact Nat.zero_le _
end Go.Proofs.YthcmoimlnhghcaaDoor

/- The sums of products, by three primes: the walk. -/
set_option linter.unusedVariables false
set_option linter.unusedSimpArgs false
namespace Go.Proofs.YthcmoimlnhghcaaDoor
open Go.RowKit Go.Shelf

/-- The package's variable lies in memory as it was laid. -/
def Flds (w : World) : Prop := w.cell? ⟨1, 0, none⟩ = some (.int .u64 998244353) ∧ w.cell? ⟨1, 1, none⟩ = some (.int .u64 469762049) ∧ w.cell? ⟨1, 2, none⟩ = some (.int .u64 167772161)
theorem Flds.below {w w' : World} (h : Flds w) (hb : Below w.heap.size w w') : Flds w' := ⟨cell_below hb h.1, cell_below hb h.2.1, cell_below hb h.2.2⟩
theorem bitLen_gt (f x : Nat) (h : x < 2 ^ f) : x < 2 ^ Lib.bitLenAux f x := by
  induction f generalizing x with
  | zero => exact h
  | succ f ih =>
    rw [Lib.bitLenAux]
    by_cases e : x = 0
    · rw [if_pos e, e]; exact Nat.two_pow_pos _
    · rw [if_neg e]
      have h1 := ih (x / 2) (by rw [Nat.pow_succ] at h; omega)
      rw [Nat.add_comm, Nat.pow_succ]; omega
def pr : Nat → Nat
  | 0 => 998244353
  | 1 => 469762049
  | _ => 167772161

theorem idx0 (W : World) : (Instr.index 112 (.agg #[.int .u64 998244353, .int .u64 469762049, .int .u64 167772161]) (.int .i64 0)).run Tryd.prog W = .ok (.agg #[.int .u64 998244353]) W := by rfl
theorem idx1 (W : World) : (Instr.index 112 (.agg #[.int .u64 998244353, .int .u64 469762049, .int .u64 167772161]) (.int .i64 1)).run Tryd.prog W = .ok (.agg #[.int .u64 469762049]) W := by rfl
theorem idx2 (W : World) : (Instr.index 112 (.agg #[.int .u64 998244353, .int .u64 469762049, .int .u64 167772161]) (.int .i64 2)).run Tryd.prog W = .ok (.agg #[.int .u64 167772161]) W := by rfl
/-- A row of rests by p. -/
def Rst (W : World) (s N p a b : Nat) (u : Value) : Prop := ∃ bx X, u = .slice (some ⟨bx, 0, none⟩) N N ∧ bx ≠ s ∧ Arr W bx X ∧ X.length = N ∧ ∀ t, t < N → gl X t = cv (gl (limbs a)) (gl (limbs b)) (nl a) t % p
theorem Rst.only {W W' s N p a b u} (h : Rst W s N p a b u) (k : Only s W W') : Rst W' s N p a b u := by
  obtain ⟨bx, X, h1, h2, h3, h4⟩ := h
  exact ⟨bx, X, h1, h2, k.arr h3 h2, h4⟩

theorem inv1_c (W : World) : Calls Tryd.prog 87 #[.agg #[.int .u64 469762049], .int .u64 58720255] W fun e w' => e = .returned (.int .u64 208783132) ∧ Below W.heap.size W w' :=
  finv_pm 469762049 58720255 208783132 W (by decide) (by decide) (by decide) (by decide +kernel)
theorem inv2_c (W : World) : Calls Tryd.prog 87 #[.agg #[.int .u64 167772161], .int .u64 115762800] W fun e w' => e = .returned (.int .u64 29562547) ∧ Below W.heap.size W w' :=
  finv_pm 167772161 115762800 29562547 W (by decide) (by decide) (by decide) (by decide +kernel)
theorem info_r3 : (Tryd.prog.info? 106).map (fun i => (i.zero, i.size, i.bytes)) = some (some (.agg #[.int .u32 0, .int .u32 0, .int .u32 0]), 3, 12) := by kernel_rfl
theorem mkr3 (c : Int) (h0 : 0 ≤ c) (hc : c ≤ 4194304) : ∀ W : World, (Instr.makeSlice 92 (.int .i64 c) (.int .i64 c)).run Tryd.prog W =
    .ok (.slice (some ⟨W.heap.size, 0, none⟩) c.toNat c.toNat) (W.alloc (.cells (vals (List.replicate (3 * c.toNat) 0)).toArray 106)) := fun W => by
  obtain ⟨i0, hi, hz0, hz1, hz2⟩ := info_parts info_r3
  have := run_make (P := Tryd.prog) W 92 106 i0 _ Tryd.underlying92 hi hz0 .i64 .i64 c c h0 (Int.le_refl _) (by rw [hz2]; omega) (by omega)
  rw [hz1] at this
  rw [this]
  congr 4
  apply Array.ext_getElem?
  intro j
  have hz : ∀ m, m < 3 → (Value.agg #[.int .u32 0, .int .u32 0, .int .u32 0]).cells[m]! = .int .u32 0 := by
    intro m hm
    rcases m with _ | _ | _ | m
    · rfl
    · rfl
    · rfl
    · omega
  by_cases hj : j < c.toNat * 3
  · have hj2 : j < 3 * c.toNat := by omega
    have h3 := hz (j % 3) (Nat.mod_lt _ (by decide))
    simp only [madeCells, Array.getElem?_map, List.getElem?_toArray, vals, List.getElem?_map]
    rw [Array.getElem?_range, if_pos hj]
    simp [List.getElem?_replicate, hj2]
    exact h3
  · have hj2 : ¬ j < 3 * c.toNat := by omega
    simp [madeCells, vals, List.getElem?_replicate, hj, hj2]
theorem sub1_c (r x : Nat) (W : World) (hr : r < 469762049) (hx : x < 469762049) : Calls Tryd.prog 89 #[.agg #[.int .u64 469762049], .int .u64 (r : Nat), .int .u64 (x : Nat)] W (RetU W ((r + 469762049 - x) % 469762049)) :=
  fsub_c 469762049 r x W (by decide) (by decide) hr hx
theorem mul1_c (d : Nat) (W : World) (hd : d < 4294967296) : Calls Tryd.prog 88 #[.agg #[.int .u64 469762049], .int .u64 (d : Nat), .int .u64 208783132] W (RetU W (d * 208783132 % 469762049)) :=
  fmul_c 469762049 d 208783132 W (by decide) (by decide) hd (by decide)
theorem sub2_c (r x : Nat) (W : World) (hr : r < 167772161) (hx : x < 167772161) : Calls Tryd.prog 89 #[.agg #[.int .u64 167772161], .int .u64 (r : Nat), .int .u64 (x : Nat)] W (RetU W ((r + 167772161 - x) % 167772161)) :=
  fsub_c 167772161 r x W (by decide) (by decide) hr hx
theorem mul2_c (d : Nat) (W : World) (hd : d < 4294967296) : Calls Tryd.prog 88 #[.agg #[.int .u64 167772161], .int .u64 (d : Nat), .int .u64 29562547] W (RetU W (d * 29562547 % 167772161)) :=
  fmul_c 167772161 d 29562547 W (by decide) (by decide) hd (by decide)
theorem mulq_c (z : Nat) (w : World) (hz : z < 18446744073709551616) :
    Calls Tryd.prog 90 #[.int .u64 (z : Nat), .int .u64 468937312667959297] w fun e w' => e = .returned (.tuple #[.int .u64 ((z * 468937312667959297 / 18446744073709551616 : Nat) : Int), .int .u64 ((z * 468937312667959297 % 18446744073709551616 : Nat) : Int)]) ∧ w' = w :=
  mul64_c z 468937312667959297 w hz (by decide)
theorem add64_0 (x y : Nat) (w : World) :
    (callFunc 91 #[.int .u64 (x : Nat), .int .u64 (y : Nat), .int .u64 0]).run Tryd.prog w =
      .ok (.value (.tuple #[.int .u64 (((x + y) % 18446744073709551616 : Nat) : Int), .int .u64 (((x + y) / 18446744073709551616 : Nat) : Int)])) w :=
  add64_r x y 0 (by decide) w
theorem add_zero_off (o j : Nat) : (Addr.add ⟨o, 0, none⟩ j) = ⟨o, j, none⟩ := by
  unfold Addr.add
  by_cases h : j = 0 <;> simp [h]
theorem row_facts {W : World} {o j n : Nat} {L : List Nat} {t : TypeId} (h : W.heap[o]? = some (.cells (vals L).toArray t (0, 0))) (hl : L.length = n) (hj : j + 2 < n) :
    ((∃ x, W.cell? ⟨o, j, none⟩ = some x) ∧ W.frozen? ⟨o, j, none⟩ = false) ∧
    (∀ v, (∃ x, (W.setCell ⟨o, j, none⟩ v).cell? ⟨o, j + 1, none⟩ = some x) ∧ (W.setCell ⟨o, j, none⟩ v).frozen? ⟨o, j + 1, none⟩ = false) ∧
    (∀ v v', (∃ x, ((W.setCell ⟨o, j, none⟩ v).setCell ⟨o, j + 1, none⟩ v').cell? ⟨o, j + 2, none⟩ = some x) ∧ ((W.setCell ⟨o, j, none⟩ v).setCell ⟨o, j + 1, none⟩ v').frozen? ⟨o, j + 2, none⟩ = false) ∧
    (∀ a b c : Nat, (((W.setCell ⟨o, j, none⟩ (.int .u32 (a : Nat))).setCell ⟨o, j + 1, none⟩ (.int .u32 (b : Nat))).setCell ⟨o, j + 2, none⟩ (.int .u32 (c : Nat))).heap[o]? = some (.cells (vals (((L.set j a).set (j + 1) b).set (j + 2) c)).toArray t (0, 0))) := by
  have h1 := fun v => heap_setCell_same W o j _ _ v h
  have h2 := fun v v' => heap_setCell_same _ o (j + 1) _ _ v' (h1 v)
  have h3 := fun v v' v'' => heap_setCell_same _ o (j + 2) _ _ v'' (h2 v v')
  refine ⟨⟨?_, ?_⟩, fun v => ⟨?_, ?_⟩, fun v v' => ⟨?_, ?_⟩, fun a b c => ?_⟩
  · unfold World.cell?; rw [h]; exact ⟨_, Array.getElem?_eq_getElem (by simp [vals]; omega)⟩
  · unfold World.frozen?; rw [h]; simp
  · unfold World.cell?; rw [h1]; exact ⟨_, Array.getElem?_eq_getElem (by simp [vals]; omega)⟩
  · unfold World.frozen?; rw [h1]; simp
  · unfold World.cell?; rw [h2]; exact ⟨_, Array.getElem?_eq_getElem (by simp [vals]; omega)⟩
  · unfold World.frozen?; rw [h2]; simp
  · rw [h3]; simp [vals, List.map_set]
/-- One row set: its value, the others' kept. -/
theorem row_val {L : List Nat} {i n a b c S : Nat} {f : Nat → Nat} (hl : L.length = 3 * n) (hi : i < n) (hS : a + 4294967296 * b + 4294967296 * 4294967296 * c = S) (hf : S = f i)
    (h : ∀ j, j < i → gl L (3 * j) + 4294967296 * gl L (3 * j + 1) + 4294967296 * 4294967296 * gl L (3 * j + 2) = f j) :
    ∀ j, j < i + 1 → gl (((L.set (i * 3) a).set (i * 3 + 1) b).set (i * 3 + 2) c) (3 * j) + 4294967296 * gl (((L.set (i * 3) a).set (i * 3 + 1) b).set (i * 3 + 2) c) (3 * j + 1) + 4294967296 * 4294967296 * gl (((L.set (i * 3) a).set (i * 3 + 1) b).set (i * 3 + 2) c) (3 * j + 2) = f j := by
  intro j hj
  by_cases e : j = i
  · subst e
    rw [gl_set_ne' (by omega), gl_set_ne' (by omega), show 3 * j = j * 3 by omega, gl_set_eq' (by omega), gl_set_ne' (by omega), gl_set_eq' (by simp; omega), gl_set_eq' (by simp; omega), hS, hf]
  · rw [gl_set_ne' (by omega), gl_set_ne' (by omega), gl_set_ne' (by omega), gl_set_ne' (by omega), gl_set_ne' (by omega), gl_set_ne' (by omega), gl_set_ne' (by omega), gl_set_ne' (by omega), gl_set_ne' (by omega)]
    exact h j (by omega)
theorem rowsV_psum' (L : List Nat) (f : Nat → Nat) (n : Nat) (h : ∀ j, j < n → gl L (3 * j) + 4294967296 * gl L (3 * j + 1) + 4294967296 * 4294967296 * gl L (3 * j + 2) = f j) : rowsV L n = psum f n := by
  induction n with
  | zero => rfl
  | succ n ih => rw [rowsV, psum, ih (fun j hj => h j (by omega)), h n (by omega)]
theorem two_new (W : World) (x y : Value) : (((W.alloc (.cells #[.int .u64 0] 111)).setCell ⟨W.heap.size, 0, none⟩ x).alloc (.cells #[y] 111)).cell? ⟨W.heap.size, 0, none⟩ = some x ∧
    (((W.alloc (.cells #[.int .u64 0] 111)).setCell ⟨W.heap.size, 0, none⟩ x).alloc (.cells #[y] 111)).cell? ⟨W.heap.size + 1, 0, none⟩ = some y ∧
    Below W.heap.size W (((W.alloc (.cells #[.int .u64 0] 111)).setCell ⟨W.heap.size, 0, none⟩ x).alloc (.cells #[y] 111)) := by
  have h1 := heap_setCell_same _ W.heap.size 0 _ _ x (heap_alloc_new W (.cells #[.int .u64 0] 111))
  have hb1 : Below W.heap.size W (W.alloc (.cells #[.int .u64 0] 111)) := (Below.refl _ _).alloc (Nat.le_refl _) _
  have hb2 := hb1.setCell (p := ⟨W.heap.size, 0, none⟩) (Nat.le_refl _) x
  have hs : ((W.alloc (.cells #[.int .u64 0] 111)).setCell ⟨W.heap.size, 0, none⟩ x).heap.size = W.heap.size + 1 := by simp
  refine ⟨?_, ?_, hb2.alloc hb2.size _⟩
  · unfold World.cell?
    rw [Below.heap_alloc _ _ _ (by rw [hs]; exact Nat.lt_succ_self _), h1]; rfl
  · unfold World.cell?
    rw [← hs, heap_alloc_new]; rfl

theorem conv_c (A : Option Addr) (ca a : Nat) (B : Option Addr) (cb b : Nat) (w : World) (hA : NatV w A ca a) (hB : NatV w B cb b) (hG : Flds w) (ha : nl a ≤ 16384) (hb : nl b ≤ 16384) :
    Calls Tryd.prog 76 #[.slice A (nl a) ca, .slice B (nl b) cb] w fun e w' => ∃ X c n L, e = .returned (.slice X n c) ∧ L.length = 3 * n ∧ Rd w' X L ∧ Lim L ∧ n ≤ c ∧ n ≤ 32768 ∧ rowsV L n = a * b ∧ Below w.heap.size w w' := by
  by_cases h0 : nl a = 0 ∨ nl b = 0
  · have hab : a * b = 0 := by
      rcases h0 with h | h
      · rw [nl_eq_zero.1 h, Nat.zero_mul]
      · rw [nl_eq_zero.1 h, Nat.mul_zero]
    rw [hab]
    by_cases h1 : nl a = 0
    · rw [h1]
      go_enter Tryd.func76, Tryd.ntmps76
      go_wp2_with (fail)
      go_ret
      exact ⟨none, 0, 0, [], rfl, rfl, .inl rfl, Lim.nil, Nat.le_refl _, by decide, rfl, .refl _ _⟩
    · have h2 : nl b = 0 := by omega
      have h1' : ((nl a : Int) == 0) = false := ieqF (by omega)
      rw [h2]
      go_enter Tryd.func76, Tryd.ntmps76
      go_wp2_with (fail)
      go_ret
      exact ⟨none, 0, 0, [], rfl, rfl, .inl rfl, Lim.nil, Nat.le_refl _, by decide, rfl, .refl _ _⟩
  · have hb0 : b ≠ 0 := fun e => h0 (.inr (nl_eq_zero.2 e))
    have h1 : ((nl a : Int) == 0) = false := ieqF (by omega)
    have h2 : ((nl b : Int) == 0) = false := ieqF (by omega)
    obtain ⟨n, hn⟩ : ∃ n, n = nl a + nl b - 1 := ⟨_, rfl⟩
    have hn1 : 1 ≤ n := by omega
    have hnI : (nl a : Int) + (nl b : Int) = (n : Int) + 1 := by omega
    have hnB : n ≤ 32767 := by omega
    obtain ⟨n', hn'⟩ : ∃ n', n' = n - 1 := ⟨_, rfl⟩
    have hn'I : (n : Int) - 1 = (n' : Int) := by omega
    obtain ⟨k, hk⟩ : ∃ k, k = Lib.bitLen n' := ⟨_, rfl⟩
    have hk15 : k ≤ 15 := by rw [hk]; exact Lib.bitLen_le n' 15 (by decide) (by show n' < 32768; omega)
    have hnk : n ≤ 2 ^ k := by
      have : n' < 2 ^ k := by rw [hk]; exact bitLen_gt 64 n' (by show n' < 18446744073709551616; omega)
      omega
    have CL := fun (W : World) => len_c n' W (by omega)
    rw [← hk] at CL
    replace CL := Lib.hid CL
    have HN := Lib.hid hn
    have HN' := Lib.hid hn'
    replace hk := Lib.hid hk
    have CA := fun (p : Nat) (hP : Prm p) (W : World) (hA : NatV W A ca a) (hB : NatV W B cb b) => around_c p k A ca a B cb b W hP (by omega) hA hB hb0 (by omega) (by omega) (by omega)
    replace CA := Lib.hid CA
    have hu1 := Tryd.underlying112
    have hu2 := Tryd.underlying111
    have hu3 := Tryd.underlying109
    obtain ⟨g0, g1, g2⟩ := hG
    have h00 : 1 < w.heap.size := World.block_lt_of_cell? w _ g0
    clear hn hn' h0
    go_enter Tryd.func76, Tryd.ntmps76
    go_wp2_with (fail)
    refine (CL.out w).mono ?_
    rintro e w1 ⟨rfl, hw1⟩
    rw [hw1]
    clear hw1
    have hb1 : Below w.heap.size w (w.alloc (.cells #[.slice none 0 0, .slice none 0 0, .slice none 0 0] 109)) := (Below.refl _ _).alloc (Nat.le_refl _) _
    have hobj := heap_alloc_new w (.cells #[.slice none 0 0, .slice none 0 0, .slice none 0 0] 109)
    replace g0 := cell_below hb1 g0
    replace g1 := cell_below hb1 g1
    replace g2 := cell_below hb1 g2
    obtain ⟨s, hs⟩ : ∃ s, s = w.heap.size := ⟨_, rfl⟩
    obtain ⟨N, hN⟩ : ∃ N, N = 2 ^ k := ⟨_, rfl⟩
    rw [← hN] at hnk
    have HNN := Lib.hid hN
    have CA2 := fun p hP W h1 h2 => CA.out p hP W h1 h2
    rw [← hN] at CA2
    replace CA2 := Lib.hid CA2
    clear CA hN
    have hs0 : 1 ≠ s := by omega
    go_wp2_with (fail)
    rw [← hs] at hobj ⊢
    have hsl : w.heap.size ≤ s := by omega
    clear hs
    generalize w.alloc (.cells #[.slice none 0 0, .slice none 0 0, .slice none 0 0] 109) = W0 at *
    have hsW := hb1.size
    go_loopw [8, 9, 44] (fun vi vf ct wr => ∃ (i : Nat) (u0 u1 u2 : Value), ct = .int .i64 i ∧ i ≤ 3 ∧ Only s W0 wr ∧ wr.heap[s]? = some (.cells #[u0, u1, u2] 109 (0, 0)) ∧ Hid ((0 < i → Rst wr s N 998244353 a b u0) ∧ (1 < i → Rst wr s N 469762049 a b u1) ∧ (2 < i → Rst wr s N 167772161 a b u2))) (fun vi vf ct wr => 3 - (intOf ct).toNat)
    case atStart => exact ⟨0, _, _, _, rfl, by decide, .refl _ _, hobj, Lib.hid ⟨fun h => absurd h (by decide), fun h => absurd h (by decide), fun h => absurd h (by decide)⟩⟩
    case round =>
      obtain ⟨i, u0, u1, u2, rfl, hi, ho, hob, hR⟩ := hrel
      have hbr := hb1.trans (ho.below hsl hsW)
      have hAr := hA.below hbr
      have hBr := hB.below hbr
      by_cases hlt : i < 3
      · rcases i with _ | _ | _ | i
        · have hbB : Below wr.heap.size wr (wr.alloc (.cells #[.int .u64 998244353] 111)) := (Below.refl _ _).alloc (Nat.le_refl _) _
          have hcB : (wr.alloc (.cells #[.int .u64 998244353] 111)).cell? ⟨wr.heap.size, 0, none⟩ = some (.int .u64 998244353) := by
            unfold World.cell?; rw [heap_alloc_new]; rfl
          have hix := idx0
          have CC := CA2.out 998244353 prm0 _ (hAr.below hbB) (hBr.below hbB)
          unfold fld at CC
          rw [show ((998244353 : Nat) : Int) = 998244353 from rfl] at CC
          replace CC := Lib.hid CC
          have hsr : s < wr.heap.size := (Array.getElem?_eq_some_iff.1 hob).1
          go_wp2_with (fail)
          refine CC.out.mono ?_
          rintro e W2 ⟨bx, X, rfl, hbxl, hX, hXl, hXv, hb2⟩
          have hoW : Only s W0 W2 := (ho.cons hbB).cons hb2
          have hob2 := (hb2.block s (Nat.lt_of_lt_of_le hsr hbB.size)).trans ((hbB.block s hsr).trans hob)
          obtain ⟨⟨k0, k1, k2⟩, z0, z1, z2⟩ := at_cells hob2
          have hbxs : bx ≠ s := by have := hbB.size; omega
          replace hXv := Lib.hid hXv
          go_wp2_with (fail)
          go_roundw
          case rel =>
            refine ⟨1, .slice (some ⟨bx, 0, none⟩) N N, u1, u2, by go_num, by decide, hoW.store _ _, heap_setCell_same _ s 0 _ _ _ hob2, Lib.hid ⟨?_, ?_, ?_⟩⟩
            · exact fun _ => ⟨bx, X, rfl, hbxs, (Only.set s W2 _ _).arr hX hbxs, hXl, hXv.out⟩
            · exact fun h => absurd h (by decide)
            · exact fun h => absurd h (by decide)
          case measure => simp only [intOf]; decide
        · have hbB : Below wr.heap.size wr (wr.alloc (.cells #[.int .u64 469762049] 111)) := (Below.refl _ _).alloc (Nat.le_refl _) _
          have hcB : (wr.alloc (.cells #[.int .u64 469762049] 111)).cell? ⟨wr.heap.size, 0, none⟩ = some (.int .u64 469762049) := by
            unfold World.cell?; rw [heap_alloc_new]; rfl
          have hix := idx1
          have CC := CA2.out 469762049 prm1 _ (hAr.below hbB) (hBr.below hbB)
          unfold fld at CC
          rw [show ((469762049 : Nat) : Int) = 469762049 from rfl] at CC
          replace CC := Lib.hid CC
          have hsr : s < wr.heap.size := (Array.getElem?_eq_some_iff.1 hob).1
          go_wp2_with (fail)
          refine CC.out.mono ?_
          rintro e W2 ⟨bx, X, rfl, hbxl, hX, hXl, hXv, hb2⟩
          have hoW : Only s W0 W2 := (ho.cons hbB).cons hb2
          have hob2 := (hb2.block s (Nat.lt_of_lt_of_le hsr hbB.size)).trans ((hbB.block s hsr).trans hob)
          obtain ⟨⟨k0, k1, k2⟩, z0, z1, z2⟩ := at_cells hob2
          have hbxs : bx ≠ s := by have := hbB.size; omega
          replace hXv := Lib.hid hXv
          go_wp2_with (fail)
          go_roundw
          case rel =>
            refine ⟨2, u0, .slice (some ⟨bx, 0, none⟩) N N, u2, by go_num, by decide, hoW.store _ _, heap_setCell_same _ s 1 _ _ _ hob2, Lib.hid ⟨?_, ?_, ?_⟩⟩
            · exact fun _ => ((hR.out.1 (by decide)).only ((Only.of hbB).trans (Only.of hb2))).only (Only.set s W2 _ _)
            · exact fun _ => ⟨bx, X, rfl, hbxs, (Only.set s W2 _ _).arr hX hbxs, hXl, hXv.out⟩
            · exact fun h => absurd h (by decide)
          case measure => simp only [intOf]; decide
        · have hbB : Below wr.heap.size wr (wr.alloc (.cells #[.int .u64 167772161] 111)) := (Below.refl _ _).alloc (Nat.le_refl _) _
          have hcB : (wr.alloc (.cells #[.int .u64 167772161] 111)).cell? ⟨wr.heap.size, 0, none⟩ = some (.int .u64 167772161) := by
            unfold World.cell?; rw [heap_alloc_new]; rfl
          have hix := idx2
          have CC := CA2.out 167772161 prm2 _ (hAr.below hbB) (hBr.below hbB)
          unfold fld at CC
          rw [show ((167772161 : Nat) : Int) = 167772161 from rfl] at CC
          replace CC := Lib.hid CC
          have hsr : s < wr.heap.size := (Array.getElem?_eq_some_iff.1 hob).1
          go_wp2_with (fail)
          refine CC.out.mono ?_
          rintro e W2 ⟨bx, X, rfl, hbxl, hX, hXl, hXv, hb2⟩
          have hoW : Only s W0 W2 := (ho.cons hbB).cons hb2
          have hob2 := (hb2.block s (Nat.lt_of_lt_of_le hsr hbB.size)).trans ((hbB.block s hsr).trans hob)
          obtain ⟨⟨k0, k1, k2⟩, z0, z1, z2⟩ := at_cells hob2
          have hbxs : bx ≠ s := by have := hbB.size; omega
          replace hXv := Lib.hid hXv
          go_wp2_with (fail)
          go_roundw
          case rel =>
            refine ⟨3, u0, u1, .slice (some ⟨bx, 0, none⟩) N N, by go_num, by decide, hoW.store _ _, heap_setCell_same _ s 2 _ _ _ hob2, Lib.hid ⟨?_, ?_, ?_⟩⟩
            · exact fun _ => ((hR.out.1 (by decide)).only ((Only.of hbB).trans (Only.of hb2))).only (Only.set s W2 _ _)
            · exact fun _ => ((hR.out.2.1 (by decide)).only ((Only.of hbB).trans (Only.of hb2))).only (Only.set s W2 _ _)
            · exact fun _ => ⟨bx, X, rfl, hbxs, (Only.set s W2 _ _).arr hX hbxs, hXl, hXv.out⟩
          case measure => simp only [intOf]; decide
        · omega
      · obtain rfl : i = 3 := by omega
        obtain ⟨R0, R1, R2⟩ := hR.out
        replace R0 := R0 (by decide)
        replace R1 := R1 (by decide)
        replace R2 := R2 (by decide)
        replace g0 := ho.cell g0 hs0
        replace g1 := ho.cell g1 hs0
        replace g2 := ho.cell g2 hs0
        obtain ⟨W1, rfl⟩ : ∃ W1 : World, W1 = wr := ⟨_, rfl⟩
        have hsr : s < W1.heap.size := (Array.getElem?_eq_some_iff.1 hob).1
        have hd := (Below.refl W1.heap.size W1).drew
        have g0d := cell_below hd g0
        have g1d := cell_below hd g1
        have g2d := cell_below hd g2
        have hgW : 1 < W1.heap.size := World.block_lt_of_cell? W1 _ g1
        have hgN : ¬ 1 = W1.heap.size := by omega
        have hgM : ¬ W1.heap.size = 1 := by omega
        have hal1 : ∀ (m : Nat) (o : Obj), Below W1.heap.size W1 ((W1.drewN m).alloc o) := fun m o => ((Below.refl _ _).drewN m).alloc (Nat.le_refl _) o
        have hal2 : ∀ (m : Nat) (o o' : Obj), Below W1.heap.size W1 (((W1.drewN m).alloc o).alloc o') := fun m o o' => (hal1 m o).alloc (hal1 m o).size o'
        have e01 : ∀ (m : Nat), (W1.drewN m).cell? ⟨1, 1, none⟩ = some (.int .u64 469762049) := fun m => g1
        have e02 : ∀ (m : Nat), (W1.drewN m).cell? ⟨1, 2, none⟩ = some (.int .u64 167772161) := fun m => g2
        have e11 : ∀ (m : Nat) (o : Obj), ((W1.drewN m).alloc o).cell? ⟨1, 1, none⟩ = some (.int .u64 469762049) := fun m o => cell_below (hal1 m o) g1
        have e12 : ∀ (m : Nat) (o : Obj), ((W1.drewN m).alloc o).cell? ⟨1, 2, none⟩ = some (.int .u64 167772161) := fun m o => cell_below (hal1 m o) g2
        have e21 : ∀ (m : Nat) (o o' : Obj), (((W1.drewN m).alloc o).alloc o').cell? ⟨1, 1, none⟩ = some (.int .u64 469762049) := fun m o o' => cell_below (hal2 m o o') g1
        have e22 : ∀ (m : Nat) (o o' : Obj), (((W1.drewN m).alloc o).alloc o').cell? ⟨1, 2, none⟩ = some (.int .u64 167772161) := fun m o o' => cell_below (hal2 m o o') g2
        have hal3 : ∀ (m : Nat) (o o' : Obj) (v : Value), Below W1.heap.size W1 ((((W1.drewN m).alloc o).setCell ⟨W1.heap.size, 0, none⟩ v).alloc o') := fun m o o' v => ((hal1 m o).setCell (p := ⟨W1.heap.size, 0, none⟩) (Nat.le_refl _) v).alloc ((hal1 m o).setCell (p := ⟨W1.heap.size, 0, none⟩) (Nat.le_refl _) v).size o'
        have e31 : ∀ (m : Nat) (o o' : Obj) (v : Value), ((((W1.drewN m).alloc o).setCell ⟨W1.heap.size, 0, none⟩ v).alloc o').cell? ⟨1, 1, none⟩ = some (.int .u64 469762049) := fun m o o' v => cell_below (hal3 m o o' v) g1
        have e32 : ∀ (m : Nat) (o o' : Obj) (v : Value), ((((W1.drewN m).alloc o).setCell ⟨W1.heap.size, 0, none⟩ v).alloc o').cell? ⟨1, 2, none⟩ = some (.int .u64 167772161) := fun m o o' v => cell_below (hal3 m o o' v) g2
        clear hal3
        have st1 : ∀ (m : Nat) (u v : Value), (((W1.drewN m).alloc (.cells #[u] 111)).alloc (.cells #[v] 111)).heap[W1.heap.size]? = some (.cells #[u] 111 (0, 0)) := fun m u v => by
          rw [Below.heap_alloc _ _ _ (by simp)]; exact heap_alloc_new (W1.drewN m) _
        have st2 : ∀ (m : Nat) (u v : Value), (((W1.drewN m).alloc (.cells #[u] 111)).alloc (.cells #[v] 111)).cell? ⟨W1.heap.size, 0, none⟩ = some u := fun m u v => by
          unfold World.cell?; rw [st1]; rfl
        have st3 : ∀ (m : Nat) (u v : Value), (((W1.drewN m).alloc (.cells #[u] 111)).alloc (.cells #[v] 111)).frozen? ⟨W1.heap.size, 0, none⟩ = false := fun m u v => by
          unfold World.frozen?; rw [st1]; rfl
        replace st1 := Lib.hid st1
        clear hAr hBr hA hB CA2 CL ho hobj hb1 hR hal1 hal2
        go_wp2_with (fail)
        go_quiet (fail)
        go_wp2_with (fail)
        go_big_region
        rotate_left
        · skip
          have T := two_new (W1.drewN (nq + 1)) (.int .u64 167772161) (.int .u64 469762049)
          rw [show (W1.drewN (nq + 1)).heap.size = W1.heap.size from rfl] at T
          generalize (((W1.drewN (nq + 1)).alloc (.cells #[.int .u64 0] 111)).setCell ⟨W1.heap.size, 0, none⟩ (.int .u64 167772161)).alloc (.cells #[.int .u64 469762049] 111) = V at T ⊢
          obtain ⟨c2, c1, hbV⟩ := T
          have hbV' : Below W1.heap.size W1 V := ((Below.refl W1.heap.size W1).drewN (nq + 1)).trans hbV
          clear hbV
          obtain ⟨tA, htA⟩ : ∃ tA, tA = W1.heap.size + 1 := ⟨_, rfl⟩
          obtain ⟨tB, htB⟩ : ∃ tB, tB = W1.heap.size := ⟨_, rfl⟩
          clear e01 e02 e11 e12 e21 e22 st1 st2 st3 g0d g1d g2d
          rw [← htA] at c1 ⊢
          rw [← htB] at c2 ⊢
          replace htA := Lib.hid htA
          replace htB := Lib.hid htB
          obtain ⟨x0, X0, eu0, hx0s, hX0, hX0l, hX0v⟩ := R0.only (Only.of (b := s) hbV')
          obtain ⟨x1, X1, eu1, hx1s, hX1, hX1l, hX1v⟩ := R1.only (Only.of (b := s) hbV')
          obtain ⟨x2, X2, eu2, hx2s, hX2, hX2l, hX2v⟩ := R2.only (Only.of (b := s) hbV')
          subst eu0 eu1 eu2
          have hobV := (hbV'.block s hsr).trans hob
          obtain ⟨⟨k0, k1, k2⟩, _, _, _⟩ := at_cells hobV
          replace hX0v := Lib.hid hX0v
          replace hX1v := Lib.hid hX1v
          replace hX2v := Lib.hid hX2v
          clear R0 R1 R2 hob
          have hdV := (Below.refl V.heap.size V).drew
          have d1 := cell_below hdV c1
          have d2 := cell_below hdV c2
          go_wp2_with (fail)
          go_region_held3 (fun W => W.cell? ⟨tA, 0, none⟩ = some (.int .u64 469762049) ∧ W.cell? ⟨tB, 0, none⟩ = some (.int .u64 167772161))
            (first
              | exact ⟨d1, d2⟩
              | exact ⟨d13, d23⟩
              | exact ⟨d14, d24⟩
              | go_keep)
            (first
              | (go_at_call 87; (with_reducible refine (inv1_c _).mono ?_); rintro e W3 ⟨rfl, hb3⟩; have d13 := cell_below hb3 d1; have d23 := cell_below hb3 d2)
              | (go_at_call 87; (with_reducible refine (inv2_c _).mono ?_); rintro e W4 ⟨rfl, hb4⟩; have d14 := cell_below hb4 d13; have d24 := cell_below hb4 d23; have hbW := (hdV.cons hb3).cons hb4))
          replace k0 := cell_below hbW k0
          replace k1 := cell_below hbW k1
          replace k2 := cell_below hbW k2
          replace hX0 := hX0.below hbW
          replace hX1 := hX1.below hbW
          replace hX2 := hX2.below hbW
          have hmk := mkr3 (n : Int) (by omega) (by omega)
          rw [Int.toNat_natCast] at hmk
          obtain ⟨W5, hW5⟩ : ∃ W5, W5 = W4.alloc (.cells (vals (List.replicate (3 * n) 0)).toArray 106) := ⟨_, rfl⟩
          have hb5 : Below W4.heap.size W4 W5 := by rw [hW5]; exact (Below.refl _ _).alloc (Nat.le_refl _) _
          have hO5 : W5.heap[W4.heap.size]? = some (.cells (vals (List.replicate (3 * n) 0)).toArray 106 (0, 0)) := by rw [hW5, heap_alloc_new]
          clear hobV c1 c2 d1 d2 d13 d23
          go_wp2_with (fail)
          rw [← hW5]
          have hso : s ≠ W4.heap.size := by have h : s < W4.heap.size := World.block_lt_of_cell? _ _ k0; omega
          have hx0o : x0 ≠ W4.heap.size := by have := hX0.lt; omega
          have hx1o : x1 ≠ W4.heap.size := by have := hX1.lt; omega
          have hx2o : x2 ≠ W4.heap.size := by have := hX2.lt; omega
          have htAo : tA ≠ W4.heap.size := by have h : tA < W4.heap.size := World.block_lt_of_cell? _ _ d14; omega
          have htBo : tB ≠ W4.heap.size := by have h : tB < W4.heap.size := World.block_lt_of_cell? _ _ d24; omega
          replace k0 := cell_below hb5 k0
          replace k1 := cell_below hb5 k1
          replace k2 := cell_below hb5 k2
          replace hX0 := hX0.below hb5
          replace hX1 := hX1.below hb5
          replace hX2 := hX2.below hb5
          replace d14 := cell_below hb5 d14
          replace d24 := cell_below hb5 d24
          obtain ⟨o, ho⟩ : ∃ o, o = W4.heap.size := ⟨_, rfl⟩
          rw [← ho] at hso hx0o hx1o hx2o htAo htBo hO5 ⊢
          replace ho := Lib.hid ho
          replace hW5 := Lib.hid hW5
          clear hmk hdV
          go_loopw [17, 18, 19, 20, 21, 22, 23, 24, 86] (fun v17 v18 v19 v20 v21 v22 v23 v24 ct wr => ∃ (i : Nat) (L : List Nat), ct = .int .i64 i ∧ i ≤ n ∧ Only o W5 wr ∧ wr.heap[o]? = some (.cells (vals L).toArray 106 (0, 0)) ∧ Hid (L.length = 3 * n) ∧ Lim L ∧ Hid (∀ j, j < i → gl L (3 * j) + 4294967296 * gl L (3 * j + 1) + 4294967296 * 4294967296 * gl L (3 * j + 2) = cv (gl (limbs a)) (gl (limbs b)) (nl a) j)) (fun v17 v18 v19 v20 v21 v22 v23 v24 ct wr => n - (intOf ct).toNat)
          case atStart => exact ⟨0, _, rfl, Nat.zero_le _, .refl _ _, hO5, Lib.hid (by simp), Lim.replicate _ _ (by decide), Lib.hid (fun j h => absurd h (by omega))⟩
          case round =>
            obtain ⟨i, L, rfl, hi, hoo, hL, hLl, hLm, hLv⟩ := hrel
            by_cases hlt : i < n
            · have hiN : i < N := by omega
              have kk0 := hoo.cell k0 hso
              have kk1 := hoo.cell k1 hso
              have kk2 := hoo.cell k2 hso
              have kA := hoo.cell d14 htAo
              have kB := hoo.cell d24 htBo
              have q0 := (hoo.arr hX0 hx0o).cell i (by rw [hX0l]; exact hiN)
              have q1 := (hoo.arr hX1 hx1o).cell i (by rw [hX1l]; exact hiN)
              have q2 := (hoo.arr hX2 hx2o).cell i (by rw [hX2l]; exact hiN)
              rw [hX0v.out i hiN] at q0
              rw [hX1v.out i hiN] at q1
              rw [hX2v.out i hiN] at q2
              obtain ⟨S, hS⟩ : ∃ S, S = cv (gl (limbs a)) (gl (limbs b)) (nl a) i := ⟨_, rfl⟩
              rw [← hS] at q0 q1 q2
              have hSb : S < 468937312667959297 * 167772161 := by
                have h1 := cv_small (limbs a) (limbs b) (lim_limbs a) (lim_limbs b) (nl a) i
                rw [← hS] at h1
                exact Nat.lt_of_le_of_lt (Nat.le_trans h1 (Nat.mul_le_mul_right _ ha)) (by decide)
              obtain ⟨x, hx⟩ : ∃ x, x = S % 998244353 := ⟨_, rfl⟩
              obtain ⟨r1, hr1⟩ : ∃ r, r = S % 469762049 := ⟨_, rfl⟩
              obtain ⟨r2, hr2⟩ : ∃ r, r = S % 167772161 := ⟨_, rfl⟩
              rw [← hx] at q0
              rw [← hr1] at q1
              rw [← hr2] at q2
              have hxb : x < 998244353 := by rw [hx]; exact Nat.mod_lt _ (by decide)
              have hr1b : r1 < 469762049 := by rw [hr1]; exact Nat.mod_lt _ (by decide)
              have hr2b : r2 < 167772161 := by rw [hr2]; exact Nat.mod_lt _ (by decide)
              obtain ⟨xr, hxr⟩ : ∃ xr, xr = x % 469762049 := ⟨_, rfl⟩
              have hxrI : (x : Int) % 469762049 = (xr : Int) := by omega
              have hxrb : xr < 469762049 := by omega
              obtain ⟨d, hd⟩ : ∃ d, d = (r1 + 469762049 - xr) % 469762049 := ⟨_, rfl⟩
              have hdb : d < 469762049 := by omega
              obtain ⟨y, hy⟩ : ∃ y, y = d * 208783132 % 469762049 := ⟨_, rfl⟩
              have hyb : y < 469762049 := by rw [hy]; exact Nat.mod_lt _ (by decide)
              obtain ⟨low, hlow⟩ : ∃ low, low = x + y * 998244353 := ⟨_, rfl⟩
              have hlowI : (x : Int) + (y : Int) * 998244353 = (low : Int) := by omega
              have hlowb : low < 468937312667959297 := by omega
              obtain ⟨lr, hlr⟩ : ∃ lr, lr = low % 167772161 := ⟨_, rfl⟩
              have hlrI : (low : Int) % 167772161 = (lr : Int) := by omega
              have hlrb : lr < 167772161 := by omega
              obtain ⟨d2, hd2⟩ : ∃ d, d = (r2 + 167772161 - lr) % 167772161 := ⟨_, rfl⟩
              have hd2b : d2 < 167772161 := by omega
              obtain ⟨z, hz⟩ : ∃ z, z = d2 * 29562547 % 167772161 := ⟨_, rfl⟩
              have hzb : z < 167772161 := by rw [hz]; exact Nat.mod_lt _ (by decide)
              have hmain := (crt3 S 998244353 468937312667959297 469762049 167772161 208783132 29562547 (by decide) (by decide) (by decide) (by decide) (by decide) hSb x y low z hx (by rw [hy, hd, hr1, hxr]) hlow (by rw [hz, hd2, hr2, hlr])).2.2
              have C1 := fun (W : World) => sub1_c r1 xr W hr1b hxrb
              have C2 := fun (W : World) => mul1_c d W (by omega)
              have C3 := fun (W : World) => sub2_c r2 lr W hr2b hlrb
              have C4 := fun (W : World) => mul2_c d2 W (by omega)
              rw [← hd] at C1
              rw [← hy] at C2
              rw [← hd2] at C3
              rw [← hz] at C4
              have C5 := fun (W : World) => mulq_c z W (by omega)
              obtain ⟨hi', hhi⟩ : ∃ h, h = z * 468937312667959297 / 18446744073709551616 := ⟨_, rfl⟩
              obtain ⟨lo, hlo⟩ : ∃ l, l = z * 468937312667959297 % 18446744073709551616 := ⟨_, rfl⟩
              rw [← hhi, ← hlo] at C5
              have C6 := fun (W : World) => add64_0 lo low W
              obtain ⟨su, hsu⟩ : ∃ su, su = (lo + low) % 18446744073709551616 := ⟨_, rfl⟩
              obtain ⟨cy, hcy⟩ : ∃ cy, cy = (lo + low) / 18446744073709551616 := ⟨_, rfl⟩
              rw [← hsu, ← hcy] at C6
              have hhib : hi' < 4294967296 := by omega
              have hlob : lo < 18446744073709551616 := by omega
              have hcyb : cy ≤ 1 := by omega
              have hsub : su < 18446744073709551616 := by omega
              have hrow : su + 18446744073709551616 * (hi' + cy) = S := by omega
              have hrowb : hi' + cy < 4294967296 := by omega
              have tx : (x : Int).tmod 469762049 = (xr : Int) := by rw [Int.tmod_eq_emod_of_nonneg (by omega)]; exact hxrI
              have tl : (low : Int).tmod 167772161 = (lr : Int) := by rw [Int.tmod_eq_emod_of_nonneg (by omega)]; exact hlrI
              have zx : IntKind.u64.wrap (xr : Int) = (xr : Int) := IntWalk.u64_in _ (by omega)
              have zl : IntKind.u64.wrap (lr : Int) = (lr : Int) := IntWalk.u64_in _ (by omega)
              replace C1 := Lib.hid C1
              replace C2 := Lib.hid C2
              replace C3 := Lib.hid C3
              replace C4 := Lib.hid C4
              replace C5 := Lib.hid C5
              replace hS := Lib.hid hS
              replace hrow := Lib.hid hrow
              clear hmain hSb hx hr1 hr2 hxr hd hy hlow hlr hd2 hz hhi hlo hsu hcy
              have hdw := (Below.refl wr.heap.size wr).drew
              have jA := cell_below hdw kA
              have j1 := cell_below hdw kk1
              have jq1 := cell_below hdw q1
              go_wp2_with (fail)
              go_region_held3 (fun W => W.cell? ⟨tA, 0, none⟩ = some (.int .u64 469762049) ∧ W.cell? ⟨s, 1, none⟩ = some (.slice (some ⟨x1, 0, none⟩) N N) ∧ W.cell? ⟨x1, i, none⟩ = some (.int .u64 (r1 : Nat)))
                (first
                  | exact ⟨jA, j1, jq1⟩
                  | exact ⟨jA6, j16, jq16⟩
                  | exact ⟨jA7, j17, jq17⟩
                  | go_keep)
                (first
                  | (go_at_call 89; (with_reducible refine (C1.out _).mono ?_); rintro e W6 ⟨rfl, hb6⟩; have jA6 := cell_below hb6 jA; have j16 := cell_below hb6 j1; have jq16 := cell_below hb6 jq1)
                  | (go_at_call 88; (with_reducible refine (C2.out _).mono ?_); rintro e W7 ⟨rfl, hb7⟩; have jA7 := cell_below hb7 jA6; have j17 := cell_below hb7 j16; have jq17 := cell_below hb7 jq16; have hb67 := (hdw.cons hb6).cons hb7))
              have hB7 := (cell_below hb67 kB)
              have h27 := (cell_below hb67 kk2)
              have hq27 := (cell_below hb67 q2)
              have hdw7 := (Below.refl W7.heap.size W7).drew
              have jB := cell_below hdw7 hB7
              have j2 := cell_below hdw7 h27
              have jq2 := cell_below hdw7 hq27
              clear jA j1 jq1 jA6 j16 jq16 jA7 j17 jq17
              go_wp2_with (fail)
              go_region_held3 (fun W => W.cell? ⟨tB, 0, none⟩ = some (.int .u64 167772161) ∧ W.cell? ⟨s, 2, none⟩ = some (.slice (some ⟨x2, 0, none⟩) N N) ∧ W.cell? ⟨x2, i, none⟩ = some (.int .u64 (r2 : Nat)))
                (first
                  | exact ⟨jB, j2, jq2⟩
                  | exact ⟨jB8, j28, jq28⟩
                  | exact ⟨jB9, j29, jq29⟩
                  | go_keep)
                (first
                  | (go_at_call 89; (with_reducible refine (C3.out _).mono ?_); rintro e W8 ⟨rfl, hb8⟩; have jB8 := cell_below hb8 jB; have j28 := cell_below hb8 j2; have jq28 := cell_below hb8 jq2)
                  | (go_at_call 88; (with_reducible refine (C4.out _).mono ?_); rintro e W9 ⟨rfl, hb9⟩; have jB9 := cell_below hb9 jB8; have j29 := cell_below hb9 j28; have jq29 := cell_below hb9 jq28; have hb89 := (hdw7.cons hb8).cons hb9))
              have hb10 := hb67.cons hb89
              have hor : o < wr.heap.size := (Array.getElem?_eq_some_iff.1 hL).1
              have hL9 := (hb10.block o hor).trans hL
              have hoo9 := hoo.cons hb10
              clear jB j2 jq2 jB8 j28 jq28 jB9 j29 jq29 hB7 h27 hq27
              go_wp2_with (fail)
              obtain ⟨⟨⟨u0, fc0⟩, ff0⟩, F1, F2, F3⟩ := row_facts (j := i * 3) hL9 hLl.out (by omega)
              have fc1 := fun v => (F1 v).1
              have ff1 := fun v => (F1 v).2
              have fc2 := fun v v' => (F2 v v').1
              have ff2 := fun v v' => (F2 v v').2
              obtain ⟨g1, fc1⟩ : ∃ g : Value → Value, ∀ v, (W9.setCell ⟨o, i * 3, none⟩ v).cell? ⟨o, i * 3 + 1, none⟩ = some (g v) := ⟨fun v => (fc1 v).choose, fun v => (fc1 v).choose_spec⟩
              obtain ⟨g2, fc2⟩ : ∃ g : Value → Value → Value, ∀ v v', ((W9.setCell ⟨o, i * 3, none⟩ v).setCell ⟨o, i * 3 + 1, none⟩ v').cell? ⟨o, i * 3 + 2, none⟩ = some (g v v') := ⟨fun v v' => (fc2 v v').choose, fun v v' => (fc2 v v').choose_spec⟩
              replace F3 := Lib.hid F3
              clear F1 F2
              refine (C5.out W9).mono ?_
              rintro e W10 ⟨rfl, rfl⟩
              go_wp2_with (simp only [C6])
              go_roundw
              case rel =>
                have ea : ((su : Int) % 4294967296) = ((su % 4294967296 : Nat) : Int) := by omega
                have eb : ((su : Int) / 4294967296) = ((su / 4294967296 : Nat) : Int) := by omega
                have ec : ((hi' : Int) + (cy : Int)) = ((hi' + cy : Nat) : Int) := by omega
                rw [ea, eb, ec]
                refine ⟨i + 1, ((L.set (i * 3) (su % 4294967296)).set (i * 3 + 1) (su / 4294967296)).set (i * 3 + 2) (hi' + cy), by go_num, by omega, ((hoo9.store _ _).store _ _).store _ _, F3.out _ _ _, Lib.hid (by simp [hLl.out]), ((hLm.set _ _ (Nat.mod_lt _ (by decide))).set _ _ (by omega)).set _ _ hrowb, Lib.hid (row_val hLl.out hlt (by have := hrow.out; omega) hS.out hLv.out)⟩
              case measure => simp only [intOf]; omega
            · have hin : i = n := by omega
              have hrv : rowsV L n = a * b := by
                rw [rowsV_psum' L _ n (fun j hj => hLv.out j (by omega))]
                exact cv_mul a b n hb0 (by have := HN.out; omega)
              replace hrv := Lib.hid hrv
              go_wp2_with (fail)
              go_ret
              refine ⟨some ⟨o, 0, none⟩, n, n, L, rfl, hLl.out, .inr ⟨_, rfl, fun j u hu => ?_⟩, hLm, Nat.le_refl _, by omega, hrv.out, ?_⟩
              · unfold World.cell?
                rw [add_zero_off, hL]
                simpa using hu
              · have hT := ((hbr.cons hbV').cons hbW).cons hb5
                have ho4 := ((hbr.cons hbV').cons hbW).size
                exact hT.trans (hoo.below (by have := ho.out; omega) hT.size)
        have T := two_new (W1.drewN (nq + 1)) (.int .u64 469762049) (.int .u64 167772161)
        rw [show (W1.drewN (nq + 1)).heap.size = W1.heap.size from rfl] at T
        generalize (((W1.drewN (nq + 1)).alloc (.cells #[.int .u64 0] 111)).setCell ⟨W1.heap.size, 0, none⟩ (.int .u64 469762049)).alloc (.cells #[.int .u64 167772161] 111) = V at T ⊢
        obtain ⟨c1, c2, hbV⟩ := T
        have hbV' : Below W1.heap.size W1 V := ((Below.refl W1.heap.size W1).drewN (nq + 1)).trans hbV
        clear hbV
        obtain ⟨tB, htB⟩ : ∃ tB, tB = W1.heap.size + 1 := ⟨_, rfl⟩
        obtain ⟨tA, htA⟩ : ∃ tA, tA = W1.heap.size := ⟨_, rfl⟩
        clear e01 e02 e11 e12 e21 e22 st1 st2 st3 g0d g1d g2d
        rw [← htB] at c2 ⊢
        rw [← htA] at c1 ⊢
        replace htA := Lib.hid htA
        replace htB := Lib.hid htB
        obtain ⟨x0, X0, eu0, hx0s, hX0, hX0l, hX0v⟩ := R0.only (Only.of (b := s) hbV')
        obtain ⟨x1, X1, eu1, hx1s, hX1, hX1l, hX1v⟩ := R1.only (Only.of (b := s) hbV')
        obtain ⟨x2, X2, eu2, hx2s, hX2, hX2l, hX2v⟩ := R2.only (Only.of (b := s) hbV')
        subst eu0 eu1 eu2
        have hobV := (hbV'.block s hsr).trans hob
        obtain ⟨⟨k0, k1, k2⟩, _, _, _⟩ := at_cells hobV
        replace hX0v := Lib.hid hX0v
        replace hX1v := Lib.hid hX1v
        replace hX2v := Lib.hid hX2v
        clear R0 R1 R2 hob
        have hdV := (Below.refl V.heap.size V).drew
        have d1 := cell_below hdV c1
        have d2 := cell_below hdV c2
        go_wp2_with (fail)
        go_region_held3 (fun W => W.cell? ⟨tA, 0, none⟩ = some (.int .u64 469762049) ∧ W.cell? ⟨tB, 0, none⟩ = some (.int .u64 167772161))
          (first
            | exact ⟨d1, d2⟩
            | exact ⟨d13, d23⟩
            | exact ⟨d14, d24⟩
            | go_keep)
          (first
            | (go_at_call 87; (with_reducible refine (inv1_c _).mono ?_); rintro e W3 ⟨rfl, hb3⟩; have d13 := cell_below hb3 d1; have d23 := cell_below hb3 d2)
            | (go_at_call 87; (with_reducible refine (inv2_c _).mono ?_); rintro e W4 ⟨rfl, hb4⟩; have d14 := cell_below hb4 d13; have d24 := cell_below hb4 d23; have hbW := (hdV.cons hb3).cons hb4))
        replace k0 := cell_below hbW k0
        replace k1 := cell_below hbW k1
        replace k2 := cell_below hbW k2
        replace hX0 := hX0.below hbW
        replace hX1 := hX1.below hbW
        replace hX2 := hX2.below hbW
        have hmk := mkr3 (n : Int) (by omega) (by omega)
        rw [Int.toNat_natCast] at hmk
        obtain ⟨W5, hW5⟩ : ∃ W5, W5 = W4.alloc (.cells (vals (List.replicate (3 * n) 0)).toArray 106) := ⟨_, rfl⟩
        have hb5 : Below W4.heap.size W4 W5 := by rw [hW5]; exact (Below.refl _ _).alloc (Nat.le_refl _) _
        have hO5 : W5.heap[W4.heap.size]? = some (.cells (vals (List.replicate (3 * n) 0)).toArray 106 (0, 0)) := by rw [hW5, heap_alloc_new]
        clear hobV c1 c2 d1 d2 d13 d23
        go_wp2_with (fail)
        rw [← hW5]
        have hso : s ≠ W4.heap.size := by have h : s < W4.heap.size := World.block_lt_of_cell? _ _ k0; omega
        have hx0o : x0 ≠ W4.heap.size := by have := hX0.lt; omega
        have hx1o : x1 ≠ W4.heap.size := by have := hX1.lt; omega
        have hx2o : x2 ≠ W4.heap.size := by have := hX2.lt; omega
        have htAo : tA ≠ W4.heap.size := by have h : tA < W4.heap.size := World.block_lt_of_cell? _ _ d14; omega
        have htBo : tB ≠ W4.heap.size := by have h : tB < W4.heap.size := World.block_lt_of_cell? _ _ d24; omega
        replace k0 := cell_below hb5 k0
        replace k1 := cell_below hb5 k1
        replace k2 := cell_below hb5 k2
        replace hX0 := hX0.below hb5
        replace hX1 := hX1.below hb5
        replace hX2 := hX2.below hb5
        replace d14 := cell_below hb5 d14
        replace d24 := cell_below hb5 d24
        obtain ⟨o, ho⟩ : ∃ o, o = W4.heap.size := ⟨_, rfl⟩
        rw [← ho] at hso hx0o hx1o hx2o htAo htBo hO5 ⊢
        replace ho := Lib.hid ho
        replace hW5 := Lib.hid hW5
        clear hmk hdV
        go_loopw [17, 18, 19, 20, 21, 22, 23, 24, 86] (fun v17 v18 v19 v20 v21 v22 v23 v24 ct wr => ∃ (i : Nat) (L : List Nat), ct = .int .i64 i ∧ i ≤ n ∧ Only o W5 wr ∧ wr.heap[o]? = some (.cells (vals L).toArray 106 (0, 0)) ∧ Hid (L.length = 3 * n) ∧ Lim L ∧ Hid (∀ j, j < i → gl L (3 * j) + 4294967296 * gl L (3 * j + 1) + 4294967296 * 4294967296 * gl L (3 * j + 2) = cv (gl (limbs a)) (gl (limbs b)) (nl a) j)) (fun v17 v18 v19 v20 v21 v22 v23 v24 ct wr => n - (intOf ct).toNat)
        case atStart => exact ⟨0, _, rfl, Nat.zero_le _, .refl _ _, hO5, Lib.hid (by simp), Lim.replicate _ _ (by decide), Lib.hid (fun j h => absurd h (by omega))⟩
        case round =>
          obtain ⟨i, L, rfl, hi, hoo, hL, hLl, hLm, hLv⟩ := hrel
          by_cases hlt : i < n
          · have hiN : i < N := by omega
            have kk0 := hoo.cell k0 hso
            have kk1 := hoo.cell k1 hso
            have kk2 := hoo.cell k2 hso
            have kA := hoo.cell d14 htAo
            have kB := hoo.cell d24 htBo
            have q0 := (hoo.arr hX0 hx0o).cell i (by rw [hX0l]; exact hiN)
            have q1 := (hoo.arr hX1 hx1o).cell i (by rw [hX1l]; exact hiN)
            have q2 := (hoo.arr hX2 hx2o).cell i (by rw [hX2l]; exact hiN)
            rw [hX0v.out i hiN] at q0
            rw [hX1v.out i hiN] at q1
            rw [hX2v.out i hiN] at q2
            obtain ⟨S, hS⟩ : ∃ S, S = cv (gl (limbs a)) (gl (limbs b)) (nl a) i := ⟨_, rfl⟩
            rw [← hS] at q0 q1 q2
            have hSb : S < 468937312667959297 * 167772161 := by
              have h1 := cv_small (limbs a) (limbs b) (lim_limbs a) (lim_limbs b) (nl a) i
              rw [← hS] at h1
              exact Nat.lt_of_le_of_lt (Nat.le_trans h1 (Nat.mul_le_mul_right _ ha)) (by decide)
            obtain ⟨x, hx⟩ : ∃ x, x = S % 998244353 := ⟨_, rfl⟩
            obtain ⟨r1, hr1⟩ : ∃ r, r = S % 469762049 := ⟨_, rfl⟩
            obtain ⟨r2, hr2⟩ : ∃ r, r = S % 167772161 := ⟨_, rfl⟩
            rw [← hx] at q0
            rw [← hr1] at q1
            rw [← hr2] at q2
            have hxb : x < 998244353 := by rw [hx]; exact Nat.mod_lt _ (by decide)
            have hr1b : r1 < 469762049 := by rw [hr1]; exact Nat.mod_lt _ (by decide)
            have hr2b : r2 < 167772161 := by rw [hr2]; exact Nat.mod_lt _ (by decide)
            obtain ⟨xr, hxr⟩ : ∃ xr, xr = x % 469762049 := ⟨_, rfl⟩
            have hxrI : (x : Int) % 469762049 = (xr : Int) := by omega
            have hxrb : xr < 469762049 := by omega
            obtain ⟨d, hd⟩ : ∃ d, d = (r1 + 469762049 - xr) % 469762049 := ⟨_, rfl⟩
            have hdb : d < 469762049 := by omega
            obtain ⟨y, hy⟩ : ∃ y, y = d * 208783132 % 469762049 := ⟨_, rfl⟩
            have hyb : y < 469762049 := by rw [hy]; exact Nat.mod_lt _ (by decide)
            obtain ⟨low, hlow⟩ : ∃ low, low = x + y * 998244353 := ⟨_, rfl⟩
            have hlowI : (x : Int) + (y : Int) * 998244353 = (low : Int) := by omega
            have hlowb : low < 468937312667959297 := by omega
            obtain ⟨lr, hlr⟩ : ∃ lr, lr = low % 167772161 := ⟨_, rfl⟩
            have hlrI : (low : Int) % 167772161 = (lr : Int) := by omega
            have hlrb : lr < 167772161 := by omega
            obtain ⟨d2, hd2⟩ : ∃ d, d = (r2 + 167772161 - lr) % 167772161 := ⟨_, rfl⟩
            have hd2b : d2 < 167772161 := by omega
            obtain ⟨z, hz⟩ : ∃ z, z = d2 * 29562547 % 167772161 := ⟨_, rfl⟩
            have hzb : z < 167772161 := by rw [hz]; exact Nat.mod_lt _ (by decide)
            have hmain := (crt3 S 998244353 468937312667959297 469762049 167772161 208783132 29562547 (by decide) (by decide) (by decide) (by decide) (by decide) hSb x y low z hx (by rw [hy, hd, hr1, hxr]) hlow (by rw [hz, hd2, hr2, hlr])).2.2
            have C1 := fun (W : World) => sub1_c r1 xr W hr1b hxrb
            have C2 := fun (W : World) => mul1_c d W (by omega)
            have C3 := fun (W : World) => sub2_c r2 lr W hr2b hlrb
            have C4 := fun (W : World) => mul2_c d2 W (by omega)
            rw [← hd] at C1
            rw [← hy] at C2
            rw [← hd2] at C3
            rw [← hz] at C4
            have C5 := fun (W : World) => mulq_c z W (by omega)
            obtain ⟨hi', hhi⟩ : ∃ h, h = z * 468937312667959297 / 18446744073709551616 := ⟨_, rfl⟩
            obtain ⟨lo, hlo⟩ : ∃ l, l = z * 468937312667959297 % 18446744073709551616 := ⟨_, rfl⟩
            rw [← hhi, ← hlo] at C5
            have C6 := fun (W : World) => add64_0 lo low W
            obtain ⟨su, hsu⟩ : ∃ su, su = (lo + low) % 18446744073709551616 := ⟨_, rfl⟩
            obtain ⟨cy, hcy⟩ : ∃ cy, cy = (lo + low) / 18446744073709551616 := ⟨_, rfl⟩
            rw [← hsu, ← hcy] at C6
            have hhib : hi' < 4294967296 := by omega
            have hlob : lo < 18446744073709551616 := by omega
            have hcyb : cy ≤ 1 := by omega
            have hsub : su < 18446744073709551616 := by omega
            have hrow : su + 18446744073709551616 * (hi' + cy) = S := by omega
            have hrowb : hi' + cy < 4294967296 := by omega
            have tx : (x : Int).tmod 469762049 = (xr : Int) := by rw [Int.tmod_eq_emod_of_nonneg (by omega)]; exact hxrI
            have tl : (low : Int).tmod 167772161 = (lr : Int) := by rw [Int.tmod_eq_emod_of_nonneg (by omega)]; exact hlrI
            have zx : IntKind.u64.wrap (xr : Int) = (xr : Int) := IntWalk.u64_in _ (by omega)
            have zl : IntKind.u64.wrap (lr : Int) = (lr : Int) := IntWalk.u64_in _ (by omega)
            replace C1 := Lib.hid C1
            replace C2 := Lib.hid C2
            replace C3 := Lib.hid C3
            replace C4 := Lib.hid C4
            replace C5 := Lib.hid C5
            replace hS := Lib.hid hS
            replace hrow := Lib.hid hrow
            clear hmain hSb hx hr1 hr2 hxr hd hy hlow hlr hd2 hz hhi hlo hsu hcy
            have hdw := (Below.refl wr.heap.size wr).drew
            have jA := cell_below hdw kA
            have j1 := cell_below hdw kk1
            have jq1 := cell_below hdw q1
            go_wp2_with (fail)
            go_region_held3 (fun W => W.cell? ⟨tA, 0, none⟩ = some (.int .u64 469762049) ∧ W.cell? ⟨s, 1, none⟩ = some (.slice (some ⟨x1, 0, none⟩) N N) ∧ W.cell? ⟨x1, i, none⟩ = some (.int .u64 (r1 : Nat)))
              (first
                | exact ⟨jA, j1, jq1⟩
                | exact ⟨jA6, j16, jq16⟩
                | exact ⟨jA7, j17, jq17⟩
                | go_keep)
              (first
                | (go_at_call 89; (with_reducible refine (C1.out _).mono ?_); rintro e W6 ⟨rfl, hb6⟩; have jA6 := cell_below hb6 jA; have j16 := cell_below hb6 j1; have jq16 := cell_below hb6 jq1)
                | (go_at_call 88; (with_reducible refine (C2.out _).mono ?_); rintro e W7 ⟨rfl, hb7⟩; have jA7 := cell_below hb7 jA6; have j17 := cell_below hb7 j16; have jq17 := cell_below hb7 jq16; have hb67 := (hdw.cons hb6).cons hb7))
            have hB7 := (cell_below hb67 kB)
            have h27 := (cell_below hb67 kk2)
            have hq27 := (cell_below hb67 q2)
            have hdw7 := (Below.refl W7.heap.size W7).drew
            have jB := cell_below hdw7 hB7
            have j2 := cell_below hdw7 h27
            have jq2 := cell_below hdw7 hq27
            clear jA j1 jq1 jA6 j16 jq16 jA7 j17 jq17
            go_wp2_with (fail)
            go_region_held3 (fun W => W.cell? ⟨tB, 0, none⟩ = some (.int .u64 167772161) ∧ W.cell? ⟨s, 2, none⟩ = some (.slice (some ⟨x2, 0, none⟩) N N) ∧ W.cell? ⟨x2, i, none⟩ = some (.int .u64 (r2 : Nat)))
              (first
                | exact ⟨jB, j2, jq2⟩
                | exact ⟨jB8, j28, jq28⟩
                | exact ⟨jB9, j29, jq29⟩
                | go_keep)
              (first
                | (go_at_call 89; (with_reducible refine (C3.out _).mono ?_); rintro e W8 ⟨rfl, hb8⟩; have jB8 := cell_below hb8 jB; have j28 := cell_below hb8 j2; have jq28 := cell_below hb8 jq2)
                | (go_at_call 88; (with_reducible refine (C4.out _).mono ?_); rintro e W9 ⟨rfl, hb9⟩; have jB9 := cell_below hb9 jB8; have j29 := cell_below hb9 j28; have jq29 := cell_below hb9 jq28; have hb89 := (hdw7.cons hb8).cons hb9))
            have hb10 := hb67.cons hb89
            have hor : o < wr.heap.size := (Array.getElem?_eq_some_iff.1 hL).1
            have hL9 := (hb10.block o hor).trans hL
            have hoo9 := hoo.cons hb10
            clear jB j2 jq2 jB8 j28 jq28 jB9 j29 jq29 hB7 h27 hq27
            go_wp2_with (fail)
            obtain ⟨⟨⟨u0, fc0⟩, ff0⟩, F1, F2, F3⟩ := row_facts (j := i * 3) hL9 hLl.out (by omega)
            have fc1 := fun v => (F1 v).1
            have ff1 := fun v => (F1 v).2
            have fc2 := fun v v' => (F2 v v').1
            have ff2 := fun v v' => (F2 v v').2
            obtain ⟨g1, fc1⟩ : ∃ g : Value → Value, ∀ v, (W9.setCell ⟨o, i * 3, none⟩ v).cell? ⟨o, i * 3 + 1, none⟩ = some (g v) := ⟨fun v => (fc1 v).choose, fun v => (fc1 v).choose_spec⟩
            obtain ⟨g2, fc2⟩ : ∃ g : Value → Value → Value, ∀ v v', ((W9.setCell ⟨o, i * 3, none⟩ v).setCell ⟨o, i * 3 + 1, none⟩ v').cell? ⟨o, i * 3 + 2, none⟩ = some (g v v') := ⟨fun v v' => (fc2 v v').choose, fun v v' => (fc2 v v').choose_spec⟩
            replace F3 := Lib.hid F3
            clear F1 F2
            refine (C5.out W9).mono ?_
            rintro e W10 ⟨rfl, rfl⟩
            go_wp2_with (simp only [C6])
            go_roundw
            case rel =>
              have ea : ((su : Int) % 4294967296) = ((su % 4294967296 : Nat) : Int) := by omega
              have eb : ((su : Int) / 4294967296) = ((su / 4294967296 : Nat) : Int) := by omega
              have ec : ((hi' : Int) + (cy : Int)) = ((hi' + cy : Nat) : Int) := by omega
              rw [ea, eb, ec]
              refine ⟨i + 1, ((L.set (i * 3) (su % 4294967296)).set (i * 3 + 1) (su / 4294967296)).set (i * 3 + 2) (hi' + cy), by go_num, by omega, ((hoo9.store _ _).store _ _).store _ _, F3.out _ _ _, Lib.hid (by simp [hLl.out]), ((hLm.set _ _ (Nat.mod_lt _ (by decide))).set _ _ (by omega)).set _ _ hrowb, Lib.hid (row_val hLl.out hlt (by have := hrow.out; omega) hS.out hLv.out)⟩
            case measure => simp only [intOf]; omega
          · have hin : i = n := by omega
            have hrv : rowsV L n = a * b := by
              rw [rowsV_psum' L _ n (fun j hj => hLv.out j (by omega))]
              exact cv_mul a b n hb0 (by have := HN.out; omega)
            replace hrv := Lib.hid hrv
            go_wp2_with (fail)
            go_ret
            refine ⟨some ⟨o, 0, none⟩, n, n, L, rfl, hLl.out, .inr ⟨_, rfl, fun j u hu => ?_⟩, hLm, Nat.le_refl _, by omega, hrv.out, ?_⟩
            · unfold World.cell?
              rw [add_zero_off, hL]
              simpa using hu
            · have hT := ((hbr.cons hbV').cons hbW).cons hb5
              have ho4 := ((hbr.cons hbV').cons hbW).size
              exact hT.trans (hoo.below (by have := ho.out; omega) hT.size)
end Go.Proofs.YthcmoimlnhghcaaDoor

/- Products by transforms, by the best way, and powers. -/
set_option linter.unusedVariables false
set_option linter.unusedSimpArgs false
namespace Go.Proofs.YthcmoimlnhghcaaDoor
open Go.RowKit Go.Shelf
attribute [local go_sem] max2_i min2_i max_two min_two

theorem fast_c (A : Option Addr) (c a : Nat) (B : Option Addr) (d b : Nat) (w : World) (hA : NatV w A c a) (hB : NatV w B d b) (hG : Flds w) (ha : nl a ≤ 16384) (hb : nl b ≤ 16384) :
    Calls Tryd.prog 58 #[.slice A (nl a) c, .slice B (nl b) d] w (RetN w (a * b)) := by
  by_cases h : nl a < nl b
  · have hd : decide ((nl a : Int) < (nl b : Int)) = true := by simp; omega
    have hd2 : decide ((16384 : Int) < (nl b : Int)) = false := by simp; omega
    have CC := conv_c B d b A c a w hB hA hG hb ha
    replace CC := Lib.hid CC
    go_enter Tryd.func58, Tryd.ntmps58
    go_wp2_with (fail)
    refine CC.out.mono ?_
    rintro e w1 ⟨X, cx, n, L, rfl, hLl, hX, hLm, hnc, hn, hv, hb1⟩
    go_wp2_with (fail)
    refine (carry_c X n cx L w1 hLl hX hLm (by omega) hnc).mono ?_
    rintro e w2 ⟨Y, cy, rfl, h1, h2⟩
    go_wp2_with (fail)
    go_ret
    rw [Nat.mul_comm a b, ← hv]
    exact ⟨Y, cy, rfl, h1, hb1.cons h2⟩
  · have hd : decide ((nl a : Int) < (nl b : Int)) = false := by simp; omega
    have hd2 : decide ((16384 : Int) < (nl a : Int)) = false := by simp; omega
    have CC := conv_c A c a B d b w hA hB hG ha hb
    replace CC := Lib.hid CC
    go_enter Tryd.func58, Tryd.ntmps58
    go_wp2_with (fail)
    refine CC.out.mono ?_
    rintro e w1 ⟨X, cx, n, L, rfl, hLl, hX, hLm, hnc, hn, hv, hb1⟩
    go_wp2_with (fail)
    refine (carry_c X n cx L w1 hLl hX hLm (by omega) hnc).mono ?_
    rintro e w2 ⟨Y, cy, rfl, h1, h2⟩
    go_wp2_with (fail)
    go_ret
    rw [← hv]
    exact ⟨Y, cy, rfl, h1, hb1.cons h2⟩
end Go.Proofs.YthcmoimlnhghcaaDoor

/- The product by whichever way is best; powers. -/
set_option linter.unusedVariables false
set_option linter.unusedSimpArgs false
namespace Go.Proofs.YthcmoimlnhghcaaDoor
open Go.RowKit Go.Shelf
attribute [local go_sem] max2_i min2_i max_two min_two

theorem mul_c (A : Option Addr) (c a : Nat) (B : Option Addr) (d b : Nat) (w : World) (hA : NatV w A c a) (hB : NatV w B d b) (hG : Flds w) (ha : nl a ≤ 16384) (hb : nl b ≤ 16384) :
    Calls Tryd.prog 31 #[.slice A (nl a) c, .slice B (nl b) d] w (RetN w (a * b)) := by
  have hb0 : Below w.heap.size w (w.alloc (.cells #[.int .i64 48, .func (.func 58) #[] #[], .int .i64 14, .func (.func 59) #[] #[], .int .i64 8, .func (.func 60) #[] #[]] 80)) := (Below.refl _ _).alloc (Nat.le_refl _) _
  have hob := heap_alloc_new w (.cells #[.int .i64 48, .func (.func 58) #[] #[], .int .i64 14, .func (.func 59) #[] #[], .int .i64 8, .func (.func 60) #[] #[]] 80)
  have hu := Tryd.underlying80
  obtain ⟨m, hm⟩ : ∃ m, m = min (nl a) (nl b) := ⟨_, rfl⟩
  have hmI : min (nl a : Int) (nl b : Int) = (m : Int) := by omega
  have HM := Lib.hid hm
  clear hm
  go_enter Tryd.func31, Tryd.ntmps31
  go_wp2_with (fail)
  obtain ⟨s, hs⟩ : ∃ s, s = w.heap.size := ⟨_, rfl⟩
  rw [← hs] at hob ⊢
  replace hs := Lib.hid hs
  generalize w.alloc (.cells #[.int .i64 48, .func (.func 58) #[] #[], .int .i64 14, .func (.func 59) #[] #[], .int .i64 8, .func (.func 60) #[] #[]] 80) = W0 at *
  have k0 : W0.cell? ⟨s, 0, none⟩ = some (.int .i64 48) := by unfold World.cell?; rw [hob]; rfl
  have k1 : W0.cell? ⟨s, 1, none⟩ = some (.func (.func 58) #[] #[]) := by unfold World.cell?; rw [hob]; rfl
  have k2 : W0.cell? ⟨s, 2, none⟩ = some (.int .i64 14) := by unfold World.cell?; rw [hob]; rfl
  have k3 : W0.cell? ⟨s, 3, none⟩ = some (.func (.func 59) #[] #[]) := by unfold World.cell?; rw [hob]; rfl
  have k4 : W0.cell? ⟨s, 4, none⟩ = some (.int .i64 8) := by unfold World.cell?; rw [hob]; rfl
  have k5 : W0.cell? ⟨s, 5, none⟩ = some (.func (.func 60) #[] #[]) := by unfold World.cell?; rw [hob]; rfl
  clear hob
  go_loopw [6, 12] (fun v6 ct wr => ∃ i : Nat, ct = .int .i64 i ∧ i ≤ 3 ∧ Below W0.heap.size W0 wr) (fun v6 ct wr => 3 - (intOf ct).toNat)
  case atStart => exact ⟨0, rfl, by decide, .refl _ _⟩
  case round =>
    obtain ⟨i, rfl, hi, hbr⟩ := hrel
    have hbT := hb0.cons hbr
    by_cases hlt : i < 3
    · rcases i with _ | _ | _ | i
      · have hbB : Below wr.heap.size wr (wr.alloc (.cells #[.int .i64 48, .func (.func 58) #[] #[]] 80)) := (Below.refl _ _).alloc (Nat.le_refl _) _
        have hoB := heap_alloc_new wr (.cells #[.int .i64 48, .func (.func 58) #[] #[]] 80)
        have b0 : (wr.alloc (.cells #[.int .i64 48, .func (.func 58) #[] #[]] 80)).cell? ⟨wr.heap.size, 0, none⟩ = some (.int .i64 48) := by unfold World.cell?; rw [hoB]; rfl
        have b1 : (wr.alloc (.cells #[.int .i64 48, .func (.func 58) #[] #[]] 80)).cell? ⟨wr.heap.size, 1, none⟩ = some (.func (.func 58) #[] #[]) := by unfold World.cell?; rw [hoB]; rfl
        have q0 := cell_below hbr k0
        have q1 := cell_below hbr k1
        clear hoB
        by_cases hn : 48 ≤ m
        · have hd : decide ((48 : Int) ≤ (m : Int)) = true := by simp; omega
          have CC := fast_c A c a B d b _ ((hA.below hbT).below hbB) ((hB.below hbT).below hbB) ((hG.below hbT).below hbB) ha hb
          replace CC := Lib.hid CC
          go_wp2_with (fail)
          refine CC.out.mono ?_
          rintro e w2 ⟨Y, cy, rfl, h1, h2⟩
          go_wp2_with (fail)
          go_ret
          exact ⟨Y, cy, rfl, h1, (hbT.cons hbB).cons h2⟩
        · have hd : decide ((48 : Int) ≤ (m : Int)) = false := by simp; omega
          go_wp2_with (fail)
          go_roundw
          case rel => exact ⟨1, by go_num, by decide, hbr.cons hbB⟩
          case measure => simp only [intOf]; decide
      · have hbB : Below wr.heap.size wr (wr.alloc (.cells #[.int .i64 14, .func (.func 59) #[] #[]] 80)) := (Below.refl _ _).alloc (Nat.le_refl _) _
        have hoB := heap_alloc_new wr (.cells #[.int .i64 14, .func (.func 59) #[] #[]] 80)
        have b0 : (wr.alloc (.cells #[.int .i64 14, .func (.func 59) #[] #[]] 80)).cell? ⟨wr.heap.size, 0, none⟩ = some (.int .i64 14) := by unfold World.cell?; rw [hoB]; rfl
        have b1 : (wr.alloc (.cells #[.int .i64 14, .func (.func 59) #[] #[]] 80)).cell? ⟨wr.heap.size, 1, none⟩ = some (.func (.func 59) #[] #[]) := by unfold World.cell?; rw [hoB]; rfl
        have q0 := cell_below hbr k2
        have q1 := cell_below hbr k3
        clear hoB
        by_cases hn : 14 ≤ m
        · have hd : decide ((14 : Int) ≤ (m : Int)) = true := by simp; omega
          have CC := toom_c 16384 A c a B d b _ ((hA.below hbT).below hbB) ((hB.below hbT).below hbB) ha hb (by decide)
          replace CC := Lib.hid CC
          go_wp2_with (fail)
          refine CC.out.mono ?_
          rintro e w2 ⟨Y, cy, rfl, h1, h2⟩
          go_wp2_with (fail)
          go_ret
          exact ⟨Y, cy, rfl, h1, (hbT.cons hbB).cons h2⟩
        · have hd : decide ((14 : Int) ≤ (m : Int)) = false := by simp; omega
          go_wp2_with (fail)
          go_roundw
          case rel => exact ⟨2, by go_num, by decide, hbr.cons hbB⟩
          case measure => simp only [intOf]; decide
      · have hbB : Below wr.heap.size wr (wr.alloc (.cells #[.int .i64 8, .func (.func 60) #[] #[]] 80)) := (Below.refl _ _).alloc (Nat.le_refl _) _
        have hoB := heap_alloc_new wr (.cells #[.int .i64 8, .func (.func 60) #[] #[]] 80)
        have b0 : (wr.alloc (.cells #[.int .i64 8, .func (.func 60) #[] #[]] 80)).cell? ⟨wr.heap.size, 0, none⟩ = some (.int .i64 8) := by unfold World.cell?; rw [hoB]; rfl
        have b1 : (wr.alloc (.cells #[.int .i64 8, .func (.func 60) #[] #[]] 80)).cell? ⟨wr.heap.size, 1, none⟩ = some (.func (.func 60) #[] #[]) := by unfold World.cell?; rw [hoB]; rfl
        have q0 := cell_below hbr k4
        have q1 := cell_below hbr k5
        clear hoB
        by_cases hn : 8 ≤ m
        · have hd : decide ((8 : Int) ≤ (m : Int)) = true := by simp; omega
          have CC := karatsuba_c 16384 A c a B d b _ ((hA.below hbT).below hbB) ((hB.below hbT).below hbB) ha hb (by decide)
          replace CC := Lib.hid CC
          go_wp2_with (fail)
          refine CC.out.mono ?_
          rintro e w2 ⟨Y, cy, rfl, h1, h2⟩
          go_wp2_with (fail)
          go_ret
          exact ⟨Y, cy, rfl, h1, (hbT.cons hbB).cons h2⟩
        · have hd : decide ((8 : Int) ≤ (m : Int)) = false := by simp; omega
          go_wp2_with (fail)
          go_roundw
          case rel => exact ⟨3, by go_num, by decide, hbr.cons hbB⟩
          case measure => simp only [intOf]; decide
      · omega
    · obtain rfl : i = 3 := by omega
      have CC := school_c A c a B d b wr (hA.below hbT) (hB.below hbT) (by omega) (by omega)
      replace CC := Lib.hid CC
      go_wp2_with (fail)
      refine CC.out.mono ?_
      rintro e w2 ⟨Y, cy, rfl, h1, h2⟩
      go_wp2_with (fail)
      go_ret
      exact ⟨Y, cy, rfl, h1, hbT.cons h2⟩
end Go.Proofs.YthcmoimlnhghcaaDoor

/- Whole numbers and dyadic numbers, walked: Mul. -/
set_option linter.unusedVariables false
set_option linter.unusedSimpArgs false
namespace Go.Proofs.YthcmoimlnhghcaaDoor
open Go.RowKit Go.Shelf
attribute [local go_sem] max2_i min2_i max_two min_two

theorem imul_c (aA : Option Addr) (ac : Nat) (a : Int) (bA : Option Addr) (bc : Nat) (b : Int) (w : World) (ha : NatV w aA ac (mg a)) (hb : NatV w bA bc (mg b)) (hG : Flds w) (la : nl (mg a) ≤ 16384) (lb : nl (mg b) ≤ 16384) :
    Calls Tryd.prog 52 #[.agg #[.bool (sg a), .slice aA (nl (mg a)) ac], .agg #[.bool (sg b), .slice bA (nl (mg b)) bc]] w (RetI w (a * b)) := by
  obtain ⟨ns, Ens⟩ : ∃ x, x = (sg a != sg b) := ⟨_, rfl⟩
  have Ins : (sg a != sg b) = ns := Ens.symm
  have Ins2 : (!(sg a == sg b)) = ns := Ens.symm
  have hv := ival_mul a b
  rw [Ins] at hv
  replace hv := Lib.hid hv
  replace Ens := Lib.hid Ens
  obtain ⟨hb1, Ra, Rb, Rr⟩ := bx3 w #[.bool (sg a), .slice aA (nl (mg a)) ac] 31 #[.bool (sg b), .slice bA (nl (mg b)) bc] 31 #[.bool false, .slice none 0 0] 31
  replace ha := ha.below hb1
  replace hb := hb.below hb1
  replace hG := hG.below hb1
  have HBT := hb1
  clear hb1
  have qa0 := Ra.c (i := 0) rfl
  have qa1 := Ra.c (i := 1) rfl
  have qb0 := Rb.c (i := 0) rfl
  have qb1 := Rb.c (i := 1) rfl
  have qr0 := Rr.c (i := 0) rfl
  have qr1 := Rr.c (i := 1) rfl
  go_enter Tryd.func52, Tryd.ntmps52
  go_wp2_with (fail)
  have hd2 := drb ((((w.alloc (.cells #[.bool (sg a), .slice aA (nl (mg a)) ac] 31)).alloc (.cells #[.bool (sg b), .slice bA (nl (mg b)) bc] 31)).alloc (.cells #[.bool false, .slice none 0 0] 31)))
  replace ha := ha.below hd2
  replace hb := hb.below hd2
  replace hG := hG.below hd2
  replace Ra := Ra.below hd2
  replace qa0 := cbl hd2 qa0
  replace qa1 := cbl hd2 qa1
  replace Rb := Rb.below hd2
  replace qb0 := cbl hd2 qb0
  replace qb1 := cbl hd2 qb1
  replace Rr := Rr.below hd2
  replace qr0 := cbl hd2 qr0
  replace qr1 := cbl hd2 qr1
  replace HBT := Below.cons HBT hd2
  clear hd2
  obtain ⟨n, En⟩ : ∃ zq : Nat, zq = mg a * mg b := ⟨_, rfl⟩
  have Bn : nl n ≤ 32768 := by rw [En]; have := nl_mul (mg a) (mg b); omega
  have C2_0 := fun (W : World) (h1 : NatV W aA ac (mg a)) (h2 : NatV W bA bc (mg b)) (h3 : Flds W) => mul_c aA ac (mg a) bA bc (mg b) W h1 h2 h3 (by omega) (by omega)
  simp only [← En] at C2_0
  replace En := Lib.hid En
  replace C2_0 := Lib.hid C2_0
  obtain ⟨z, Ez⟩ : ∃ zq : Int, zq = ival ns n := ⟨_, rfl⟩
  have C2_1 := fun (W : World) (A : Option Addr) (c : Nat) (h1 : NatV W A c n) => imake_c ns A c n W h1 (by omega)
  simp only [← Ez] at C2_1
  replace Ez := Lib.hid Ez
  replace C2_1 := Lib.hid C2_1
  go_region_held3 (fun W => W.cell? ⟨w.heap.size, 0, none⟩ = some (.bool (sg a)) ∧ W.cell? ⟨(w.heap.size + 1), 0, none⟩ = some (.bool (sg b)) ∧ W.cell? ⟨w.heap.size, 1, none⟩ = some (.slice aA (nl (mg a)) ac) ∧ W.cell? ⟨(w.heap.size + 1), 1, none⟩ = some (.slice bA (nl (mg b)) bc))
    (first
      | exact ⟨qa0, qb0, qa1, qb1⟩
      | exact ⟨qa0_3, qb0_3, qa1_3, qb1_3⟩
      | exact ⟨qa0_4, qb0_4, qa1_4, qb1_4⟩
      | exact ⟨((Ra_4.other2 (by simp <;> omega)).c (i := 0) rfl), ((Rb_4.other2 (by simp <;> omega)).c (i := 0) rfl), ((Ra_4.other2 (by simp <;> omega)).c (i := 1) rfl), ((Rb_4.other2 (by simp <;> omega)).c (i := 1) rfl)⟩
      | go_keep)
    (first
      | (go_at_call 31; (with_reducible refine (C2_0.out _ ha hb hG).mono ?_); rintro e W3 ⟨Xn, cn, rfl, hn, hb3⟩; have ha_3 := ha.below hb3; have hb_3 := hb.below hb3; have hG_3 := hG.below hb3; have Ra_3 := Ra.below hb3; have qa0_3 := cbl hb3 qa0; have qa1_3 := cbl hb3 qa1; have Rb_3 := Rb.below hb3; have qb0_3 := cbl hb3 qb0; have qb1_3 := cbl hb3 qb1; have Rr_3 := Rr.below hb3; have qr0_3 := cbl hb3 qr0; have qr1_3 := cbl hb3 qr1; have HBT_3 := Below.cons HBT hb3)
      | (go_at_call 56; (with_reducible refine (C2_1.out _ _ _ hn).mono ?_); rintro e W4 ⟨Xz, cz, rfl, hz, hb4⟩; have ha_4 := ha_3.below hb4; have hb_4 := hb_3.below hb4; have hG_4 := hG_3.below hb4; have Ra_4 := Ra_3.below hb4; have qa0_4 := cbl hb4 qa0_3; have qa1_4 := cbl hb4 qa1_3; have Rb_4 := Rb_3.below hb4; have qb0_4 := cbl hb4 qb0_3; have qb1_4 := cbl hb4 qb1_3; have Rr_4 := Rr_3.below hb4; have qr0_4 := cbl hb4 qr0_3; have qr1_4 := cbl hb4 qr1_3; have hn_4 := hn.below hb4; have HBT_4 := Below.cons HBT_3 hb4; have fz0 := Rr_4.f (i := 0); have fz1 := Rr_4.f (i := 1)))
  all_goals (try go_wp2_with (fail))
  have hzz : z = a * b := by rw [Ez.out, En.out]; exact hv.out
  subst hzz
  have RS := Rr_4.store2 (.bool (sg ((a * b)))) (.slice Xz (nl (mg ((a * b)))) cz)
  have e0 := RS.c (i := 0) rfl
  have e1 := RS.c (i := 1) rfl
  refine bodyPost_ret (v := .agg #[.bool (sg ((a * b))), .slice Xz (nl (mg ((a * b)))) cz]) (by simp [results, Tryd.results52, go_sem, e0, e1]) rfl ?_
  exact ⟨Xz, cz, rfl, (Rr_4.keep2 (nuB rfl) hz), (Below.store2 HBT_4 (by first | exact Nat.le_refl _ | omega))⟩
end Go.Proofs.YthcmoimlnhghcaaDoor

/- Whole numbers and matrices of them, walked. -/
set_option linter.unusedVariables false
set_option linter.unusedSimpArgs false
namespace Go.Proofs.YthcmoimlnhghcaaDoor
open Go.RowKit Go.Shelf
attribute [local go_sem] max2_i min2_i max_two min_two

/-- What a call that makes a matrix leaves. -/
def RetM (w : World) (m : Mx) (e : Ending) (w' : World) : Prop := ∃ (A : Option Addr) (a : Nat) (B : Option Addr) (b : Nat) (C : Option Addr) (c : Nat) (D : Option Addr) (d : Nat),
  e = .returned (.agg #[.bool (sg m.a), .slice A (nl (mg m.a)) a, .bool (sg m.b), .slice B (nl (mg m.b)) b, .bool (sg m.c), .slice C (nl (mg m.c)) c, .bool (sg m.d), .slice D (nl (mg m.d)) d]) ∧
  NatV w' A a (mg m.a) ∧ NatV w' B b (mg m.b) ∧ NatV w' C c (mg m.c) ∧ NatV w' D d (mg m.d) ∧ Below w.heap.size w w'
theorem lista8 (vs : Array Value) : vs.toList.all (fun u => match u with | .int .u32 _ => false | _ => true) = true → ∀ u ∈ vs.toList, NotU u := by
  intro h u hu x e
  have := List.all_eq_true.1 h u hu
  rw [e] at this
  cases this
section
variable {W : World} {k : Nat} {t : TypeId} {u0 u1 u2 u3 u4 u5 u6 u7 v0 v1 v2 v3 v4 v5 v6 v7 : Value}
theorem set8_far (j : Nat) (hj : j ≠ k) : ((((((((W.setCell ⟨k, 0, none⟩ v0).setCell ⟨k, 1, none⟩ v1).setCell ⟨k, 2, none⟩ v2).setCell ⟨k, 3, none⟩ v3).setCell ⟨k, 4, none⟩ v4).setCell ⟨k, 5, none⟩ v5).setCell ⟨k, 6, none⟩ v6).setCell ⟨k, 7, none⟩ v7).heap[j]? = W.heap[j]? := by
  rw [Below.heap_setCell _ _ _ _ (by simpa using hj), Below.heap_setCell _ _ _ _ (by simpa using hj), Below.heap_setCell _ _ _ _ (by simpa using hj), Below.heap_setCell _ _ _ _ (by simpa using hj), Below.heap_setCell _ _ _ _ (by simpa using hj), Below.heap_setCell _ _ _ _ (by simpa using hj), Below.heap_setCell _ _ _ _ (by simpa using hj), Below.heap_setCell _ _ _ _ (by simpa using hj)]
theorem BoxA.store8 (h : BoxA W k t #[u0, u1, u2, u3, u4, u5, u6, u7]) (v0 v1 v2 v3 v4 v5 v6 v7 : Value) : BoxA ((((((((W.setCell ⟨k, 0, none⟩ v0).setCell ⟨k, 1, none⟩ v1).setCell ⟨k, 2, none⟩ v2).setCell ⟨k, 3, none⟩ v3).setCell ⟨k, 4, none⟩ v4).setCell ⟨k, 5, none⟩ v5).setCell ⟨k, 6, none⟩ v6).setCell ⟨k, 7, none⟩ v7) k t #[v0, v1, v2, v3, v4, v5, v6, v7] := by
  have h0 := heap_setCell_same W k 0 _ _ v0 h.at_
  have h1 := heap_setCell_same _ k 1 _ _ v1 h0
  have h2 := heap_setCell_same _ k 2 _ _ v2 h1
  have h3 := heap_setCell_same _ k 3 _ _ v3 h2
  have h4 := heap_setCell_same _ k 4 _ _ v4 h3
  have h5 := heap_setCell_same _ k 5 _ _ v5 h4
  have h6 := heap_setCell_same _ k 6 _ _ v6 h5
  have h7 := heap_setCell_same _ k 7 _ _ v7 h6
  exact ⟨by simpa using h7⟩
theorem BoxA.keep8 (h : BoxA W k t #[u0, u1, u2, u3, u4, u5, u6, u7]) (hu : ∀ u ∈ (#[u0, u1, u2, u3, u4, u5, u6, u7] : Array Value).toList, NotU u) {A : Option Addr} {c n : Nat} (hN : NatV W A c n) : NatV ((((((((W.setCell ⟨k, 0, none⟩ v0).setCell ⟨k, 1, none⟩ v1).setCell ⟨k, 2, none⟩ v2).setCell ⟨k, 3, none⟩ v3).setCell ⟨k, 4, none⟩ v4).setCell ⟨k, 5, none⟩ v5).setCell ⟨k, 6, none⟩ v6).setCell ⟨k, 7, none⟩ v7) A c n := h.keep hu (fun j hj => set8_far j hj) hN
theorem cell_other8 {b i : Nat} {u : Value} (h : W.cell? ⟨b, i, none⟩ = some u) (hne : b ≠ k) : (((((((((W.setCell ⟨k, 0, none⟩ v0).setCell ⟨k, 1, none⟩ v1).setCell ⟨k, 2, none⟩ v2).setCell ⟨k, 3, none⟩ v3).setCell ⟨k, 4, none⟩ v4).setCell ⟨k, 5, none⟩ v5).setCell ⟨k, 6, none⟩ v6).setCell ⟨k, 7, none⟩ v7)).cell? ⟨b, i, none⟩ = some u := by
  rw [World.cell?_of_block (w := W) (a := ⟨b, i, none⟩) (set8_far b hne)]; exact h
theorem Below.store8 {w : World} (h : Below w.heap.size w W) (hk : w.heap.size ≤ k) : Below w.heap.size w ((((((((W.setCell ⟨k, 0, none⟩ v0).setCell ⟨k, 1, none⟩ v1).setCell ⟨k, 2, none⟩ v2).setCell ⟨k, 3, none⟩ v3).setCell ⟨k, 4, none⟩ v4).setCell ⟨k, 5, none⟩ v5).setCell ⟨k, 6, none⟩ v6).setCell ⟨k, 7, none⟩ v7) := ((((((((h.setCell (p := ⟨k, 0, none⟩) hk _).setCell (p := ⟨k, 1, none⟩) hk _).setCell (p := ⟨k, 2, none⟩) hk _).setCell (p := ⟨k, 3, none⟩) hk _).setCell (p := ⟨k, 4, none⟩) hk _).setCell (p := ⟨k, 5, none⟩) hk _).setCell (p := ⟨k, 6, none⟩) hk _).setCell (p := ⟨k, 7, none⟩) hk _)
end
theorem iof_neg (n : Nat) (w : World) (hn : n ≤ 9223372036854775807) (h0 : 0 < n) :
    Calls Tryd.prog 50 #[.int .i64 (-(n : Int))] w (RetI w (-(n : Int))) := by
  obtain ⟨k, Ek⟩ : ∃ k : Int, k = -(n : Int) + 1 := ⟨_, rfl⟩
  have t1 : decide (-(n : Int) < 0) = true := by simp; omega
  have W1 : IntKind.i64.wrap k = k := IntWalk.i64_in _ (by omega)
  have I1 : -(n : Int) + 1 = k := Ek.symm
  obtain ⟨j, Ej⟩ : ∃ j : Int, j = -k := ⟨_, rfl⟩
  have I2 : -k = j := Ej.symm
  have W2 : IntKind.i64.wrap j = j := IntWalk.i64_in _ (by omega)
  have W3 : IntKind.u64.wrap j = j := by simp [IntKind.wrap, IntKind.signed, IntKind.bits]; omega
  have I3 : j % 18446744073709551616 = j := by omega
  have I4 : j + 1 = (n : Int) := by omega
  have W4 : IntKind.u64.wrap (n : Int) = (n : Int) := by simp [IntKind.wrap, IntKind.signed, IntKind.bits]; omega
  have I5 : (n : Int) % 18446744073709551616 = (n : Int) := by omega
  replace Ek := Lib.hid Ek
  replace Ej := Lib.hid Ej
  obtain ⟨hb1, Rr⟩ := bx1 w #[.bool false, .slice none 0 0] 31
  have HBT := hb1
  clear hb1
  have qr0 := Rr.c (i := 0) rfl
  have qr1 := Rr.c (i := 1) rfl
  go_enter Tryd.func50, Tryd.ntmps50
  go_wp2_with (fail)
  obtain ⟨m, Em⟩ : ∃ zq : Nat, zq = n := ⟨_, rfl⟩
  have Bm : nl m ≤ 2 := by rw [Em]; exact nl_le.2 (Nat.lt_of_le_of_lt hn (by decide))
  refine (Calls.mono (R := RetN (w.alloc (.cells #[.bool false, .slice none 0 0] 31)) m) (by rw [Em]; with_reducible exact (nof_c n _  (by omega))) ?_)
  replace Em := Lib.hid Em
  rintro e W2 ⟨Xm, cm, rfl, hm, hb2⟩
  replace Rr := Rr.below hb2
  replace qr0 := cbl hb2 qr0
  replace qr1 := cbl hb2 qr1
  replace HBT := Below.cons HBT hb2
  clear hb2
  go_wp2_with (fail)
  obtain ⟨z, Ez⟩ : ∃ zq : Int, zq = ival true m := ⟨_, rfl⟩
  refine (Calls.mono (R := RetI W2 z) (by rw [Ez]; with_reducible exact (imake_c true Xm cm m _ hm (by omega))) ?_)
  replace Ez := Lib.hid Ez
  rintro e W3 ⟨Xz, cz, rfl, hz, hb3⟩
  replace Rr := Rr.below hb3
  replace qr0 := cbl hb3 qr0
  replace qr1 := cbl hb3 qr1
  replace hm := hm.below hb3
  replace HBT := Below.cons HBT hb3
  clear hb3
  have fzr0 := Rr.f (i := 0)
  have fzr1 := Rr.f (i := 1)
  go_wp2_with (fail)
  have hzz : z = (-(n : Int)) := by rw [Ez.out, Em.out]; rfl
  subst hzz
  have RS := Rr.store2 (.bool (sg (((-(n : Int)))))) (.slice Xz (nl (mg (((-(n : Int)))))) cz)
  have e0 := RS.c (i := 0) rfl
  have e1 := RS.c (i := 1) rfl
  refine bodyPost_ret (v := .agg #[.bool (sg (((-(n : Int))))), .slice Xz (nl (mg (((-(n : Int)))))) cz]) (by simp [results, Tryd.results50, go_sem, e0, e1]) rfl ?_
  exact ⟨Xz, cz, rfl, (Rr.keep2 (nuB rfl) hz), (Below.store2 HBT (by first | exact Nat.le_refl _ | omega))⟩
theorem iofz_c (z : Int) (w : World) (h0 : -9223372036854775807 ≤ z) (h1 : z < 9223372036854775808) :
    Calls Tryd.prog 50 #[.int .i64 z] w (RetI w z) := by
  rcases Int.lt_or_le z 0 with h | h
  · obtain ⟨n, rfl⟩ := Int.exists_eq_neg_ofNat (show z ≤ 0 by omega)
    exact iof_neg n w (by omega) (by omega)
  · obtain ⟨n, rfl⟩ := Int.eq_ofNat_of_zero_le h
    exact iof_c n w (by omega)
theorem isub_c (aA : Option Addr) (ac : Nat) (a : Int) (bA : Option Addr) (bc : Nat) (b : Int) (w : World) (ha : NatV w aA ac (mg a)) (hb : NatV w bA bc (mg b)) (la : nl (mg a) ≤ 1048576) (lb : nl (mg b) ≤ 1048576) :
    Calls Tryd.prog 51 #[.agg #[.bool (sg a), .slice aA (nl (mg a)) ac], .agg #[.bool (sg b), .slice bA (nl (mg b)) bc]] w (RetI w (a - b)) := by
  obtain ⟨hb1, Ra, Rb, Rr⟩ := bx3 w #[.bool (sg a), .slice aA (nl (mg a)) ac] 31 #[.bool (sg b), .slice bA (nl (mg b)) bc] 31 #[.bool false, .slice none 0 0] 31
  replace ha := ha.below hb1
  replace hb := hb.below hb1
  have HBT := hb1
  clear hb1
  have qa0 := Ra.c (i := 0) rfl
  have qa1 := Ra.c (i := 1) rfl
  have qb0 := Rb.c (i := 0) rfl
  have qb1 := Rb.c (i := 1) rfl
  have qr0 := Rr.c (i := 0) rfl
  have qr1 := Rr.c (i := 1) rfl
  go_enter Tryd.func51, Tryd.ntmps51
  go_wp2_with (fail)
  have hd2 := drb ((((w.alloc (.cells #[.bool (sg a), .slice aA (nl (mg a)) ac] 31)).alloc (.cells #[.bool (sg b), .slice bA (nl (mg b)) bc] 31)).alloc (.cells #[.bool false, .slice none 0 0] 31)))
  replace ha := ha.below hd2
  replace hb := hb.below hd2
  replace Ra := Ra.below hd2
  replace qa0 := cbl hd2 qa0
  replace qa1 := cbl hd2 qa1
  replace Rb := Rb.below hd2
  replace qb0 := cbl hd2 qb0
  replace qb1 := cbl hd2 qb1
  replace Rr := Rr.below hd2
  replace qr0 := cbl hd2 qr0
  replace qr1 := cbl hd2 qr1
  replace HBT := Below.cons HBT hd2
  clear hd2
  obtain ⟨n, En⟩ : ∃ zq : Int, zq = -b := ⟨_, rfl⟩
  have Nn : nl (mg n) ≤ 1048576 := by rw [En, mg_neg]; exact lb
  have C2_0 := fun (W : World) (h1 : NatV W bA bc (mg b)) => ineg_c bA bc b W h1 (by omega)
  simp only [← En] at C2_0
  replace En := Lib.hid En
  replace C2_0 := Lib.hid C2_0
  obtain ⟨z, Ez⟩ : ∃ zq : Int, zq = a + n := ⟨_, rfl⟩
  have C2_1 := fun (W : World) (A : Option Addr) (c : Nat) (h1 : NatV W aA ac (mg a)) (h2 : NatV W A c (mg n)) => iadd_c aA ac a A c n W h1 h2 (by omega) (by omega)
  simp only [← Ez] at C2_1
  replace Ez := Lib.hid Ez
  replace C2_1 := Lib.hid C2_1
  go_region_held3 (fun W => W.cell? ⟨w.heap.size, 0, none⟩ = some (.bool (sg a)) ∧ W.cell? ⟨w.heap.size, 1, none⟩ = some (.slice aA (nl (mg a)) ac) ∧ W.cell? ⟨(w.heap.size + 1), 0, none⟩ = some (.bool (sg b)) ∧ W.cell? ⟨(w.heap.size + 1), 1, none⟩ = some (.slice bA (nl (mg b)) bc))
    (first
      | exact ⟨qa0, qa1, qb0, qb1⟩
      | exact ⟨qa0_3, qa1_3, qb0_3, qb1_3⟩
      | exact ⟨qa0_4, qa1_4, qb0_4, qb1_4⟩
      | exact ⟨((Ra_4.other2 (by simp <;> omega)).c (i := 0) rfl), ((Ra_4.other2 (by simp <;> omega)).c (i := 1) rfl), ((Rb_4.other2 (by simp <;> omega)).c (i := 0) rfl), ((Rb_4.other2 (by simp <;> omega)).c (i := 1) rfl)⟩
      | go_keep)
    (first
      | (go_at_call 72; (with_reducible refine (C2_0.out _ hb).mono ?_); rintro e W3 ⟨Xn, cn, rfl, hn, hb3⟩; have ha_3 := ha.below hb3; have hb_3 := hb.below hb3; have Ra_3 := Ra.below hb3; have qa0_3 := cbl hb3 qa0; have qa1_3 := cbl hb3 qa1; have Rb_3 := Rb.below hb3; have qb0_3 := cbl hb3 qb0; have qb1_3 := cbl hb3 qb1; have Rr_3 := Rr.below hb3; have qr0_3 := cbl hb3 qr0; have qr1_3 := cbl hb3 qr1; have HBT_3 := Below.cons HBT hb3)
      | (go_at_call 63; (with_reducible refine (C2_1.out _ _ _ ha_3 hn).mono ?_); rintro e W4 ⟨Xz, cz, rfl, hz, hb4⟩; have ha_4 := ha_3.below hb4; have hb_4 := hb_3.below hb4; have Ra_4 := Ra_3.below hb4; have qa0_4 := cbl hb4 qa0_3; have qa1_4 := cbl hb4 qa1_3; have Rb_4 := Rb_3.below hb4; have qb0_4 := cbl hb4 qb0_3; have qb1_4 := cbl hb4 qb1_3; have Rr_4 := Rr_3.below hb4; have qr0_4 := cbl hb4 qr0_3; have qr1_4 := cbl hb4 qr1_3; have hn_4 := hn.below hb4; have HBT_4 := Below.cons HBT_3 hb4; have fz0 := Rr_4.f (i := 0); have fz1 := Rr_4.f (i := 1)))
  all_goals (try go_wp2_with (fail))
  have hzz : z = a - b := by rw [Ez.out, En.out]; omega
  subst hzz
  have RS := Rr_4.store2 (.bool (sg ((a - b)))) (.slice Xz (nl (mg ((a - b)))) cz)
  have e0 := RS.c (i := 0) rfl
  have e1 := RS.c (i := 1) rfl
  refine bodyPost_ret (v := .agg #[.bool (sg ((a - b))), .slice Xz (nl (mg ((a - b)))) cz]) (by simp [results, Tryd.results51, go_sem, e0, e1]) rfl ?_
  exact ⟨Xz, cz, rfl, (Rr_4.keep2 (nuB rfl) hz), (Below.store2 HBT_4 (by first | exact Nat.le_refl _ | omega))⟩
theorem whole_c (aA : Option Addr) (ac a : Nat) (w : World) (ha : NatV w aA ac a) (la : nl a ≤ 1073741824) :
    Calls Tryd.prog 27 #[.slice aA (nl a) ac] w (RetI w (a : Int)) := by
  obtain ⟨hb1, Rr⟩ := bx1 w #[.bool false, .slice none 0 0] 31
  replace ha := ha.below hb1
  have HBT := hb1
  clear hb1
  have qr0 := Rr.c (i := 0) rfl
  have qr1 := Rr.c (i := 1) rfl
  go_enter Tryd.func27, Tryd.ntmps27
  go_wp2_with (fail)
  obtain ⟨z, Ez⟩ : ∃ zq : Int, zq = ival false a := ⟨_, rfl⟩
  refine (Calls.mono (R := RetI (w.alloc (.cells #[.bool false, .slice none 0 0] 31)) z) (by rw [Ez]; with_reducible exact (imake_c false aA ac a _ ha (by omega))) ?_)
  replace Ez := Lib.hid Ez
  rintro e W2 ⟨Xz, cz, rfl, hz, hb2⟩
  replace ha := ha.below hb2
  replace Rr := Rr.below hb2
  replace qr0 := cbl hb2 qr0
  replace qr1 := cbl hb2 qr1
  replace HBT := Below.cons HBT hb2
  clear hb2
  have fzr0 := Rr.f (i := 0)
  have fzr1 := Rr.f (i := 1)
  go_wp2_with (fail)
  have hzz : z = (a : Int) := by rw [Ez.out]; rfl
  subst hzz
  have RS := Rr.store2 (.bool (sg (((a : Int))))) (.slice Xz (nl (mg (((a : Int))))) cz)
  have e0 := RS.c (i := 0) rfl
  have e1 := RS.c (i := 1) rfl
  refine bodyPost_ret (v := .agg #[.bool (sg (((a : Int)))), .slice Xz (nl (mg (((a : Int))))) cz]) (by simp [results, Tryd.results27, go_sem, e0, e1]) rfl ?_
  exact ⟨Xz, cz, rfl, (Rr.keep2 (nuB rfl) hz), (Below.store2 HBT (by first | exact Nat.le_refl _ | omega))⟩
theorem unit_c (w : World) : Calls Tryd.prog 23 #[] w (RetM w Mx.one) := by
  have Z0 : ∀ W : World, Calls Tryd.prog 50 #[.int .i64 0] W (RetI W 0) := fun W => iof_c 0 W (by decide)
  replace Z0 := Lib.hid Z0
  obtain ⟨hb1, Rr⟩ := bx1 w #[.bool false, .slice none 0 0, .bool false, .slice none 0 0, .bool false, .slice none 0 0, .bool false, .slice none 0 0] 48
  have HBT := hb1
  clear hb1
  go_enter Tryd.func23, Tryd.ntmps23
  go_wp2_with (fail)
  obtain ⟨z0, Ez0⟩ : ∃ zq : Int, zq = (1 : Int) := ⟨_, rfl⟩
  refine (Calls.mono (R := RetI (w.alloc (.cells #[.bool false, .slice none 0 0, .bool false, .slice none 0 0, .bool false, .slice none 0 0, .bool false, .slice none 0 0] 48)) z0) (by rw [Ez0]; with_reducible exact (iof1_c _)) ?_)
  replace Ez0 := Lib.hid Ez0
  rintro e W2 ⟨Xz0, cz0, rfl, hz0, hb2⟩
  replace Rr := Rr.below hb2
  replace HBT := Below.cons HBT hb2
  clear hb2
  go_wp2_with (fail)
  obtain ⟨z1, Ez1⟩ : ∃ zq : Int, zq = (0 : Int) := ⟨_, rfl⟩
  refine (Calls.mono (R := RetI W2 z1) (by rw [Ez1]; with_reducible exact (Z0.out _)) ?_)
  replace Ez1 := Lib.hid Ez1
  rintro e W3 ⟨Xz1, cz1, rfl, hz1, hb3⟩
  replace Rr := Rr.below hb3
  replace hz0 := hz0.below hb3
  replace HBT := Below.cons HBT hb3
  clear hb3
  go_wp2_with (fail)
  obtain ⟨z2, Ez2⟩ : ∃ zq : Int, zq = (0 : Int) := ⟨_, rfl⟩
  refine (Calls.mono (R := RetI W3 z2) (by rw [Ez2]; with_reducible exact (Z0.out _)) ?_)
  replace Ez2 := Lib.hid Ez2
  rintro e W4 ⟨Xz2, cz2, rfl, hz2, hb4⟩
  replace Rr := Rr.below hb4
  replace hz0 := hz0.below hb4
  replace hz1 := hz1.below hb4
  replace HBT := Below.cons HBT hb4
  clear hb4
  go_wp2_with (fail)
  obtain ⟨z3, Ez3⟩ : ∃ zq : Int, zq = (1 : Int) := ⟨_, rfl⟩
  refine (Calls.mono (R := RetI W4 z3) (by rw [Ez3]; with_reducible exact (iof1_c _)) ?_)
  replace Ez3 := Lib.hid Ez3
  rintro e W5 ⟨Xz3, cz3, rfl, hz3, hb5⟩
  replace Rr := Rr.below hb5
  replace hz0 := hz0.below hb5
  replace hz1 := hz1.below hb5
  replace hz2 := hz2.below hb5
  replace HBT := Below.cons HBT hb5
  clear hb5
  have fz0 := Rr.f (i := 0)
  have cz_0 := Rr.c (i := 0) rfl
  have fz1 := Rr.f (i := 1)
  have cz_1 := Rr.c (i := 1) rfl
  have fz2 := Rr.f (i := 2)
  have cz_2 := Rr.c (i := 2) rfl
  have fz3 := Rr.f (i := 3)
  have cz_3 := Rr.c (i := 3) rfl
  have fz4 := Rr.f (i := 4)
  have cz_4 := Rr.c (i := 4) rfl
  have fz5 := Rr.f (i := 5)
  have cz_5 := Rr.c (i := 5) rfl
  have fz6 := Rr.f (i := 6)
  have cz_6 := Rr.c (i := 6) rfl
  have fz7 := Rr.f (i := 7)
  have cz_7 := Rr.c (i := 7) rfl
  go_wp2_with (fail)
  have hzz0 : z0 = Mx.one.a := by rw [Ez0.out]; rfl
  subst hzz0
  have hzz1 : z1 = Mx.one.b := by rw [Ez1.out]; rfl
  subst hzz1
  have hzz2 : z2 = Mx.one.c := by rw [Ez2.out]; rfl
  subst hzz2
  have hzz3 : z3 = Mx.one.d := by rw [Ez3.out]; rfl
  subst hzz3
  have RS := Rr.store8 (.bool (sg (Mx.one.a))) (.slice Xz0 (nl (mg (Mx.one.a))) cz0) (.bool (sg (Mx.one.b))) (.slice Xz1 (nl (mg (Mx.one.b))) cz1) (.bool (sg (Mx.one.c))) (.slice Xz2 (nl (mg (Mx.one.c))) cz2) (.bool (sg (Mx.one.d))) (.slice Xz3 (nl (mg (Mx.one.d))) cz3)
  have e0 := RS.c (i := 0) rfl
  have e1 := RS.c (i := 1) rfl
  have e2 := RS.c (i := 2) rfl
  have e3 := RS.c (i := 3) rfl
  have e4 := RS.c (i := 4) rfl
  have e5 := RS.c (i := 5) rfl
  have e6 := RS.c (i := 6) rfl
  have e7 := RS.c (i := 7) rfl
  refine bodyPost_ret (v := .agg #[.bool (sg (Mx.one.a)), .slice Xz0 (nl (mg (Mx.one.a))) cz0, .bool (sg (Mx.one.b)), .slice Xz1 (nl (mg (Mx.one.b))) cz1, .bool (sg (Mx.one.c)), .slice Xz2 (nl (mg (Mx.one.c))) cz2, .bool (sg (Mx.one.d)), .slice Xz3 (nl (mg (Mx.one.d))) cz3]) (by simp [results, Tryd.results23, go_sem, e0, e1, e2, e3, e4, e5, e6, e7]) rfl ?_
  exact ⟨Xz0, cz0, Xz1, cz1, Xz2, cz2, Xz3, cz3, rfl, Rr.keep8 (lista8 _ rfl) hz0, Rr.keep8 (lista8 _ rfl) hz1, Rr.keep8 (lista8 _ rfl) hz2, Rr.keep8 (lista8 _ rfl) hz3, Below.store8 HBT (by first | exact Nat.le_refl _ | omega)⟩
end Go.Proofs.YthcmoimlnhghcaaDoor

/- A region that draws its order, whose calls come up in one order alone and whose other operations yield the same at whatever time: it is run one behind the other. -/
set_option linter.unusedVariables false
set_option linter.unusedSimpArgs false
namespace Go.Proofs.YthcmoimlnhghcaaDoor
open Go.RowKit

/-- One behind the other, by a list of operations; 'true': it yields the same in every world that meets S. -/
def SeqP (P : Program) (ops : Array Oper) (Q : Exit → Act → World → Prop) (S : World → Prop) : List (Nat × Bool) → Act → World → Prop
  | [], a, w => Q .normal a w
  | (i, true) :: p, a, w => ∃ o v, ops[i]? = some o ∧ (∀ c a w, Q (.panic c) (a.put o.dst v) w → Q (.panic c) a w) ∧ YieldsIf P ops S o v a ∧ SeqP P ops Q S p (a.put o.dst v) w
  | (i, false) :: p, a, w => wpOp P ops Q i (fun a' w' => S w' ∧ (S w' → SeqP P ops Q S p a' w')) a w
/-- What the order hangs on: number, kind, what it comes behind, what it writes, what it reads. -/
structure Info where
  i : Nat
  t : Bool
  deps : List Nat
  dst : Option Nat
  looks : List Nat
def infoOf (ops : Array Oper) (x : Nat × Bool) : Info :=
  match ops[x.1]? with
  | none => ⟨x.1, x.2, [], none, []⟩
  | some o => ⟨x.1, x.2, (o.after.toList.filter (Region.binds .any)).map (fun e => e.on), o.dst, Oper.looksAt ops o⟩
def apartB (x y : Info) : Bool :=
  (match x.dst with | some d => !y.looks.contains d && y.dst != some d | none => true) && (match y.dst with | some d => !x.looks.contains d | none => true)
def chkTake : List Info → Bool
  | [] => true
  | x :: r => (!x.t || r.all (fun y => y.deps.contains x.i || apartB x y)) && chkTake r
def chkOrder : List Nat → List Info → Bool
  | _, [] => true
  | d, x :: r => !d.contains x.i && x.deps.all (fun k => d.contains k) && chkOrder (x.i :: d) r
def chkCall : Option (List Nat) → List Info → Bool
  | _, [] => true
  | none, x :: r => chkCall (if x.t then none else some [x.i]) r
  | some W, x :: r => x.deps.any (fun k => W.contains k) && chkCall (if x.t then some (x.i :: W) else some [x.i]) r
def chkAll (ops : Array Oper) (p : List (Nat × Bool)) : Bool :=
  let l := p.map (infoOf ops)
  chkTake l && chkOrder [] l && chkCall none l && (List.range ops.size).all (fun k => (p.map (fun x => x.1)).contains k) && p.all (fun x => decide (x.1 < ops.size)) && Region.noSelect ops
/-- The operations behind a call each come behind something from that call on. -/
theorem chkCall_spec : ∀ (l : List Info) (W : List Nat), chkCall (some W) l = true → ∀ x ∈ l, ∃ k ∈ x.deps, k ∈ W ∨ ∃ y ∈ l, y.i = k
  | [], W, h, x, hx => by cases hx
  | y :: r, W, h, x, hx => by
    simp only [chkCall, Bool.and_eq_true] at h
    obtain ⟨h1, h2⟩ := h
    rcases List.mem_cons.1 hx with rfl | hx
    · obtain ⟨k, hk, hc⟩ := List.any_eq_true.1 h1
      exact ⟨k, hk, .inl (by simpa using hc)⟩
    · have h3 : ∃ W', chkCall (some W') r = true ∧ ∀ k ∈ W', k ∈ W ∨ k = y.i := by
        cases ht : y.t with
        | true => rw [ht] at h2; exact ⟨y.i :: W, h2, fun k hk => by rcases List.mem_cons.1 hk with rfl | hk; exact .inr rfl; exact .inl hk⟩
        | false => rw [ht] at h2; exact ⟨[y.i], h2, fun k hk => .inr (by simpa using hk)⟩
      obtain ⟨W', hW, hsub⟩ := h3
      obtain ⟨k, hk, hc⟩ := chkCall_spec r W' hW x hx
      refine ⟨k, hk, ?_⟩
      rcases hc with hc | ⟨z, hz, he⟩
      · rcases hsub k hc with h | h
        · exact .inl h
        · exact .inr ⟨y, List.mem_cons_self .., h.symm⟩
      · exact .inr ⟨z, List.mem_cons_of_mem _ hz, he⟩
theorem infoOf_some {ops : Array Oper} {x : Nat × Bool} {o : Oper} (h : ops[x.1]? = some o) : infoOf ops x = ⟨x.1, x.2, (o.after.toList.filter (Region.binds .any)).map (fun e => e.on), o.dst, Oper.looksAt ops o⟩ := by
  unfold infoOf; rw [h]
theorem infoOf_i (ops : Array Oper) (x : Nat × Bool) : (infoOf ops x).i = x.1 := by unfold infoOf; split <;> rfl
theorem infoOf_t (ops : Array Oper) (x : Nat × Bool) : (infoOf ops x).t = x.2 := by unfold infoOf; split <;> rfl
theorem dep_mem {ops : Array Oper} {x : Nat × Bool} {o : Oper} (h : ops[x.1]? = some o) {k : Nat} : k ∈ (infoOf ops x).deps ↔ ∃ e ∈ o.after, Region.binds .any e = true ∧ e.on = k := by
  rw [infoOf_some h]
  simp only [List.mem_map, List.mem_filter, Array.mem_toList_iff]
  constructor
  · rintro ⟨e, ⟨h1, h2⟩, h3⟩; exact ⟨e, h1, h2, h3⟩
  · rintro ⟨e, h1, h2, h3⟩; exact ⟨e, ⟨h1, h2⟩, h3⟩
theorem apartB_spec {ops : Array Oper} {x y : Nat × Bool} {o o' : Oper} (hx : ops[x.1]? = some o) (hy : ops[y.1]? = some o') (h : apartB (infoOf ops x) (infoOf ops y) = true) : Oper.apart ops o o' = true := by
  rw [infoOf_some hx, infoOf_some hy] at h
  exact h
/-- The region's own walk, from any point of the list on. -/
theorem seq_held {P : Program} {ops : Array Oper} {Q : Exit → Act → World → Prop} {S : World → Prop} (hns : Region.noSelect ops = true) :
    ∀ (p : List (Nat × Bool)) (d : List Nat) (c : Option (List Nat)) (L : Array Bool) (a : Act) (w : World),
      chkTake (p.map (infoOf ops)) = true → chkOrder d (p.map (infoOf ops)) = true → chkCall c (p.map (infoOf ops)) = true →
      (∀ k, k < ops.size → k ∈ d ∨ ∃ x ∈ p, x.1 = k) → (∀ x ∈ p, x.1 < ops.size) →
      (∀ k ∈ d, k < ops.size) → L.size = ops.size → (∀ k, k < ops.size → (L.getD k false = true ↔ k ∈ d)) → S w → SeqP P ops Q S p a w → wpAnyH P .any ops Q S p.length L a w
  | [], d, c, L, a, w, _, _, _, hall, _, _, hs, hL, hS, h => by
    refine ⟨?_, h⟩
    rw [List.eq_nil_iff_forall_not_mem]
    intro j hj
    obtain ⟨h1, o, ho, _⟩ := mem_ready.1 hj
    have hjn : j < ops.size := (Array.getElem?_eq_some_iff.1 ho).1
    have h2 : j ∈ d := by
      rcases hall j hjn with h | ⟨x, hx, _⟩
      · exact h
      · cases hx
    have h3 := (hL j hjn).2 h2
    have hl : j < L.size := by omega
    simp [Array.getD, hl] at h1 h3
    rw [h1] at h3; cases h3
  | (i, b) :: p, d, c, L, a, w, ht, ho, hc, hall, hlt, hdl, hs, hL, hS, h => by
    have hi : i < ops.size := hlt (i, b) (List.mem_cons_self ..)
    obtain ⟨oi, hoi⟩ : ∃ o, ops[i]? = some o := ⟨ops[i], Array.getElem?_eq_getElem hi⟩
    simp only [List.map_cons, chkTake, chkOrder, Bool.and_eq_true, infoOf_i, infoOf_t] at ht ho
    obtain ⟨ht1, ht2⟩ := ht
    obtain ⟨⟨ho0, ho1⟩, ho2⟩ := ho
    have hid : i ∉ d := by simpa using ho0
    have hbit : ∀ k, k < ops.size → ((L.setIfInBounds i true).getD k false = true ↔ k ∈ i :: d) := by
      intro k hk
      rw [bit_set (by omega)]
      by_cases e : k = i
      · rw [if_pos e]; simp [e]
      · rw [if_neg e, hL k hk]; simp [e]
    have hunl : ∀ k, k < ops.size → (L.getD k true = false ↔ k ∉ d) := by
      intro k hk
      have := hL k hk
      have hl : k < L.size := by omega
      simp only [Array.getD, hl, dite_true] at this ⊢
      rw [← this, Bool.not_eq_true]
    have hready : i ∈ Region.ready .any ops L := by
      refine mem_ready.2 ⟨(hunl i hi).2 hid, oi, hoi, fun e he hb => ?_⟩
      have hk : e.on ∈ (infoOf ops (i, b)).deps := (dep_mem (x := (i, b)) hoi).2 ⟨e, he, hb, rfl⟩
      have hd : e.on ∈ d := by have := List.all_eq_true.1 ho1 _ hk; simpa using this
      exact (hL _ (hdl _ hd)).2 hd
    have hcall : ∃ c', chkCall c' (p.map (infoOf ops)) = true ∧ (b = false → ∃ W, c' = some W ∧ W = [i]) := by
      cases c with
      | none =>
        simp only [List.map_cons, chkCall, infoOf_i, infoOf_t] at hc
        cases b with
        | true => exact ⟨_, hc, fun e => by cases e⟩
        | false => exact ⟨_, hc, fun _ => ⟨[i], rfl, rfl⟩⟩
      | some W =>
        simp only [List.map_cons, chkCall, infoOf_i, infoOf_t, Bool.and_eq_true] at hc
        cases b with
        | true => exact ⟨_, hc.2, fun e => by cases e⟩
        | false => exact ⟨_, hc.2, fun _ => ⟨[i], rfl, rfl⟩⟩
    obtain ⟨c', hc', hcW⟩ := hcall
    have hall' : ∀ k, k < ops.size → k ∈ i :: d ∨ ∃ x ∈ p, x.1 = k := by
      intro k hk
      rcases hall k hk with h | ⟨x, hx, e⟩
      · exact .inl (List.mem_cons_of_mem _ h)
      · rcases List.mem_cons.1 hx with rfl | hx
        · exact .inl (by rw [← e]; exact List.mem_cons_self ..)
        · exact .inr ⟨x, hx, e⟩
    have hlt' : ∀ x ∈ p, x.1 < ops.size := fun x hx => hlt x (List.mem_cons_of_mem _ hx)
    have IH := fun a' w' (hS' : S w') (h' : SeqP P ops Q S p a' w') => seq_held hns p (i :: d) c' (L.setIfInBounds i true) a' w' ht2 ho2 hc' hall' hlt' (fun k hk => by rcases List.mem_cons.1 hk with rfl | hk; exact hi; exact hdl k hk) (by simpa using hs) hbit hS' h'
    cases b with
    | true =>
      obtain ⟨o, v, ho', hQ, hy, hrest⟩ := h
      rw [hoi] at ho'; cases ho'
      refine wpAnyH_first hoi ?_ hQ _ _ _ _ ?_ hready hy hS (IH _ _ hS hrest)
      · intro j o cs bl hj e
        have := Array.all_eq_true_iff_forall_mem.1 hns o (Array.mem_of_getElem? hj)
        rw [e] at this; cases this
      · intro j oj hj hne hu hno
        have hjn : j < ops.size := (Array.getElem?_eq_some_iff.1 hj).1
        have hjd : j ∉ d := (hunl j hjn).1 hu
        rcases hall j hjn with h | ⟨x, hx, e⟩
        · exact absurd h hjd
        · rcases List.mem_cons.1 hx with rfl | hx
          · exact absurd e.symm hne
          · subst e
            simp only [Bool.not_true, Bool.false_or] at ht1
            have h1 := List.all_eq_true.1 ht1 _ (List.mem_map_of_mem (f := infoOf ops) hx)
            rcases Bool.or_eq_true_iff.1 h1 with h2 | h2
            · exfalso
              have h3 : i ∈ (infoOf ops x).deps := by simpa using h2
              obtain ⟨e, he, hb, hon⟩ := (dep_mem hj).1 h3
              exact hno e he hb hon
            · exact apartB_spec (x := (i, true)) hoi hj h2
    | false =>
      refine ⟨fun e => (by rw [e] at hready; exact (nomatch hready)), fun j hj => ?_⟩
      have hji : j = i := by
        obtain ⟨h1, oj, hoj, hdep⟩ := mem_ready.1 hj
        have hjn : j < ops.size := (Array.getElem?_eq_some_iff.1 hoj).1
        have hjd : j ∉ d := (hunl j hjn).1 h1
        rcases hall j hjn with h | ⟨x, hx, e⟩
        · exact absurd h hjd
        · rcases List.mem_cons.1 hx with rfl | hx
          · exact e.symm
          · exfalso
            subst e
            obtain ⟨W, rfl, rfl⟩ := hcW rfl
            obtain ⟨k, hk, hW⟩ := chkCall_spec _ _ hc' _ (List.mem_map_of_mem (f := infoOf ops) hx)
            obtain ⟨e, he, hb, hon⟩ := (dep_mem hoj).1 hk
            have hlk := hdep e he hb
            rw [hon] at hlk
            have hkn : k < ops.size := by
              rcases hW with hW | ⟨y, hy, ey⟩
              · simp at hW; omega
              · obtain ⟨z, hz, rfl⟩ := List.mem_map.1 hy
                rw [infoOf_i] at ey; rw [← ey]; exact hlt' z hz
            have hkd := (hL k hkn).1 hlk
            have hnot : ∀ (q : List (Nat × Bool)) (d' : List Nat), chkOrder d' (q.map (infoOf ops)) = true → ∀ z ∈ q, z.1 ∉ d' := by
              intro q
              induction q with
              | nil => intro d' _ z hz; cases hz
              | cons y r ih =>
                intro d' h z hz
                simp only [List.map_cons, chkOrder, Bool.and_eq_true, infoOf_i] at h
                rcases List.mem_cons.1 hz with rfl | hz
                · simpa using h.1.1
                · exact fun hm => ih _ h.2 z hz (List.mem_cons_of_mem _ hm)
            rcases hW with hW | ⟨y, hy, ey⟩
            · simp at hW; subst hW; exact hid hkd
            · obtain ⟨z, hz, rfl⟩ := List.mem_map.1 hy
              rw [infoOf_i] at ey; subst ey
              exact hnot p (i :: d) ho2 z hz (List.mem_cons_of_mem _ hkd)
      subst hji
      exact wpOp_mono (fun a' w' h' => ⟨h'.1, IH a' w' h'.1 (h'.2 h'.1)⟩) h
theorem wp_region_seq {P : Program} {ops : Array Oper} {Q : Exit → Act → World → Prop} {id : Nat} {a : Act} {w : World} (S : World → Prop) (p : List (Nat × Bool)) (hm : P.follows .mixedOrders = true)
    (hc : chkAll ops p = true) (hn : p.length = ops.size) (hS : S w.drew) (h : S w.drew → SeqP P ops Q S p a w.drew) : (Code.region id ops true).wp P Q a w := by
  refine wp_region_held_drew (S := S) hm hS (fun hS => ?_)
  unfold chkAll at hc
  simp only [Bool.and_eq_true] at hc
  obtain ⟨⟨⟨⟨⟨h1, h2⟩, h3⟩, h4⟩, h5⟩, h6⟩ := hc
  have := seq_held (P := P) (Q := Q) (S := S) h6 p [] none (Array.replicate ops.size false) a w.drew h1 h2 h3 ?_ ?_ (fun k hk => nomatch hk) (by simp) ?_ hS (h hS)
  · rw [hn] at this; exact this
  · intro k hk
    have := List.all_eq_true.1 h4 k (List.mem_range.2 hk)
    right
    simp only [List.contains_iff_mem, List.mem_map] at this
    obtain ⟨x, hx, e⟩ := this
    exact ⟨x, hx, e⟩
  · intro x hx
    simpa using List.all_eq_true.1 h5 x hx
  · intro k hk
    simp [Array.getD, hk]
section
variable {P : Program} {ops : Array Oper} {Q : Exit → Act → World → Prop} {S : World → Prop} {p : List (Nat × Bool)} {a : Act} {w : World} {i : Nat} {o : Oper}
theorem SeqP.take {v : Value} (ho : ops.toList[i]? = some o) (hQ : ∀ c a w, Q (.panic c) (a.put o.dst v) w → Q (.panic c) a w) (hy : YieldsIf P ops S o v a) (h : SeqP P ops Q S p (a.put o.dst v) w) : SeqP P ops Q S ((i, true) :: p) a w :=
  ⟨o, v, by rw [← Array.getElem?_toList]; exact ho, hQ, hy, h⟩
theorem SeqP.call (ho : ops.toList[i]? = some o) (hw : Region.wanted o (yielded ops a.tmps) = true) (h : ∀ K : Act → World → Prop, Shut (∀ a w, S w → (S w → SeqP P ops Q S p a w) → K a w) → Oper.wp P o a w K Q) : SeqP P ops Q S ((i, false) :: p) a w := by
  show wpOp P ops Q i _ a w
  unfold wpOp
  rw [show ops[i]? = some o by rw [← Array.getElem?_toList]; exact ho]
  simp only [hw, if_true]
  exact .inl (h _ (fun a w hS h => ⟨hS, h⟩))
theorem SeqP.done (h : Q .normal a w) : SeqP P ops Q S [] a w := h
end
end Go.Proofs.YthcmoimlnhghcaaDoor

/- Matrices: one more step, one behind another. -/
set_option linter.unusedVariables false
set_option linter.unusedSimpArgs false
namespace Go.Proofs.YthcmoimlnhghcaaDoor
open Go.RowKit Go.Shelf
attribute [local go_sem] max2_i min2_i max_two min_two

theorem then_c (m0A : Option Addr) (m0c : Nat) (m1A : Option Addr) (m1c : Nat) (m2A : Option Addr) (m2c : Nat) (m3A : Option Addr) (m3c : Nat) (m : Mx) (qA : Option Addr) (qc q : Nat) (w : World) (hm0 : NatV w m0A m0c (mg m.a)) (hm1 : NatV w m1A m1c (mg m.b)) (hm2 : NatV w m2A m2c (mg m.c)) (hm3 : NatV w m3A m3c (mg m.d)) (hq : NatV w qA qc q) (hG : Flds w) (lm : m.sz 16384) (lq : nl q ≤ 16384) :
    Calls Tryd.prog 24 #[.agg #[.bool (sg m.a), .slice m0A (nl (mg m.a)) m0c, .bool (sg m.b), .slice m1A (nl (mg m.b)) m1c, .bool (sg m.c), .slice m2A (nl (mg m.c)) m2c, .bool (sg m.d), .slice m3A (nl (mg m.d)) m3c], .slice qA (nl q) qc] w (RetM w (m.nx q)) := by
  obtain ⟨lm0, lm1, lm2, lm3⟩ := lm
  obtain ⟨hb1, Rm, Rr⟩ := bx2 w #[.bool (sg m.a), .slice m0A (nl (mg m.a)) m0c, .bool (sg m.b), .slice m1A (nl (mg m.b)) m1c, .bool (sg m.c), .slice m2A (nl (mg m.c)) m2c, .bool (sg m.d), .slice m3A (nl (mg m.d)) m3c] 48 #[.bool false, .slice none 0 0, .bool false, .slice none 0 0, .bool false, .slice none 0 0, .bool false, .slice none 0 0] 48
  replace hm0 := hm0.below hb1
  replace hm1 := hm1.below hb1
  replace hm2 := hm2.below hb1
  replace hm3 := hm3.below hb1
  replace hq := hq.below hb1
  replace hG := hG.below hb1
  have HBT := hb1
  clear hb1
  have qm0 := Rm.c (i := 0) rfl
  have qm1 := Rm.c (i := 1) rfl
  have qm2 := Rm.c (i := 2) rfl
  have qm3 := Rm.c (i := 3) rfl
  have qm4 := Rm.c (i := 4) rfl
  have qm5 := Rm.c (i := 5) rfl
  have qm6 := Rm.c (i := 6) rfl
  have qm7 := Rm.c (i := 7) rfl
  have qr0 := Rr.c (i := 0) rfl
  have qr1 := Rr.c (i := 1) rfl
  have qr2 := Rr.c (i := 2) rfl
  have qr3 := Rr.c (i := 3) rfl
  have qr4 := Rr.c (i := 4) rfl
  have qr5 := Rr.c (i := 5) rfl
  have qr6 := Rr.c (i := 6) rfl
  have qr7 := Rr.c (i := 7) rfl
  clear qr0
  clear qr1
  clear qr2
  clear qr3
  clear qr4
  clear qr5
  clear qr6
  clear qr7
  go_enter Tryd.func24, Tryd.ntmps24
  go_wp2_with (fail)
  obtain ⟨k, Ek⟩ : ∃ zq : Int, zq = (q : Int) := ⟨_, rfl⟩
  have Nk : nl (mg k) ≤ 16384 := by rw [Ek, mg_nat]; exact lq
  refine (Calls.mono (R := RetI ((w.alloc (.cells #[.bool (sg m.a), .slice m0A (nl (mg m.a)) m0c, .bool (sg m.b), .slice m1A (nl (mg m.b)) m1c, .bool (sg m.c), .slice m2A (nl (mg m.c)) m2c, .bool (sg m.d), .slice m3A (nl (mg m.d)) m3c] 48)).alloc (.cells #[.bool false, .slice none 0 0, .bool false, .slice none 0 0, .bool false, .slice none 0 0, .bool false, .slice none 0 0] 48)) k) (by rw [Ek]; with_reducible exact (whole_c qA qc q _ hq (by omega))) ?_)
  replace Ek := Lib.hid Ek
  rintro e W2 ⟨Xk, ck, rfl, hk, hb2⟩
  replace hm0 := hm0.below hb2
  replace hm1 := hm1.below hb2
  replace hm2 := hm2.below hb2
  replace hm3 := hm3.below hb2
  replace hq := hq.below hb2
  replace hG := hG.below hb2
  replace Rm := Rm.below hb2
  replace qm0 := cbl hb2 qm0
  replace qm1 := cbl hb2 qm1
  replace qm2 := cbl hb2 qm2
  replace qm3 := cbl hb2 qm3
  replace qm4 := cbl hb2 qm4
  replace qm5 := cbl hb2 qm5
  replace qm6 := cbl hb2 qm6
  replace qm7 := cbl hb2 qm7
  replace Rr := Rr.below hb2
  replace HBT := Below.cons HBT hb2
  clear hb2
  have ltr := Rr.lt
  replace ltr := Lib.hid ltr
  obtain ⟨hb3, Rk⟩ := bx1 W2 #[.bool (sg k), .slice Xk (nl (mg k)) ck] 31
  replace hm0 := hm0.below hb3
  replace hm1 := hm1.below hb3
  replace hm2 := hm2.below hb3
  replace hm3 := hm3.below hb3
  replace hq := hq.below hb3
  replace hG := hG.below hb3
  replace Rm := Rm.below hb3
  replace qm0 := cbl hb3 qm0
  replace qm1 := cbl hb3 qm1
  replace qm2 := cbl hb3 qm2
  replace qm3 := cbl hb3 qm3
  replace qm4 := cbl hb3 qm4
  replace qm5 := cbl hb3 qm5
  replace qm6 := cbl hb3 qm6
  replace qm7 := cbl hb3 qm7
  replace Rr := Rr.below hb3
  replace hk := hk.below hb3
  replace HBT := Below.cons HBT hb3
  clear hb3
  have qk0 := Rk.c (i := 0) rfl
  have qk1 := Rk.c (i := 1) rfl
  go_wp2_with (fail)
  clear qm0
  clear qm1
  clear qm2
  clear qm3
  clear qm4
  clear qm5
  clear qm6
  clear qm7
  clear qk0
  clear qk1
  have hd4 := drb ((W2.alloc (.cells #[.bool (sg k), .slice Xk (nl (mg k)) ck] 31)))
  replace hm0 := hm0.below hd4
  replace hm1 := hm1.below hd4
  replace hm2 := hm2.below hd4
  replace hm3 := hm3.below hd4
  replace hq := hq.below hd4
  replace hG := hG.below hd4
  replace Rm := Rm.below hd4
  replace Rr := Rr.below hd4
  replace hk := hk.below hd4
  replace Rk := Rk.below hd4
  replace HBT := Below.cons HBT hd4
  clear hd4
  obtain ⟨p, Ep⟩ : ∃ zq : Int, zq = k * m.c := ⟨_, rfl⟩
  have Np : nl (mg p) ≤ 32768 := by rw [Ep]; have := nl_imul k m.c; omega
  have C4_0 := fun (W : World) (A : Option Addr) (c : Nat) (B : Option Addr) (d : Nat) (h1 : NatV W A c (mg k)) (h2 : NatV W B d (mg m.c)) (hG : Flds W) => imul_c A c k B d m.c W h1 h2 hG (by omega) (by omega)
  simp only [← Ep] at C4_0
  replace Ep := Lib.hid Ep
  replace C4_0 := Lib.hid C4_0
  obtain ⟨x, Ex⟩ : ∃ zq : Int, zq = m.a - p := ⟨_, rfl⟩
  have C4_1 := fun (W : World) (A : Option Addr) (c : Nat) (B : Option Addr) (d : Nat) (h1 : NatV W A c (mg m.a)) (h2 : NatV W B d (mg p)) => isub_c A c m.a B d p W h1 h2 (by omega) (by omega)
  simp only [← Ex] at C4_1
  replace Ex := Lib.hid Ex
  replace C4_1 := Lib.hid C4_1
  obtain ⟨s, Es⟩ : ∃ zq : Int, zq = k * m.d := ⟨_, rfl⟩
  have Ns : nl (mg s) ≤ 32768 := by rw [Es]; have := nl_imul k m.d; omega
  have C4_2 := fun (W : World) (A : Option Addr) (c : Nat) (B : Option Addr) (d : Nat) (h1 : NatV W A c (mg k)) (h2 : NatV W B d (mg m.d)) (hG : Flds W) => imul_c A c k B d m.d W h1 h2 hG (by omega) (by omega)
  simp only [← Es] at C4_2
  replace Es := Lib.hid Es
  replace C4_2 := Lib.hid C4_2
  obtain ⟨y, Ey⟩ : ∃ zq : Int, zq = m.b - s := ⟨_, rfl⟩
  have C4_3 := fun (W : World) (A : Option Addr) (c : Nat) (B : Option Addr) (d : Nat) (h1 : NatV W A c (mg m.b)) (h2 : NatV W B d (mg s)) => isub_c A c m.b B d s W h1 h2 (by omega) (by omega)
  simp only [← Ey] at C4_3
  replace Ey := Lib.hid Ey
  replace C4_3 := Lib.hid C4_3
  obtain ⟨S, hS⟩ : ∃ S : World → Prop, S = fun W => W.cell? ⟨w.heap.size, 0, none⟩ = some (.bool (sg m.a)) ∧ W.cell? ⟨w.heap.size, 1, none⟩ = some (.slice m0A (nl (mg m.a)) m0c) ∧ W.cell? ⟨w.heap.size, 2, none⟩ = some (.bool (sg m.b)) ∧ W.cell? ⟨w.heap.size, 3, none⟩ = some (.slice m1A (nl (mg m.b)) m1c) ∧ W.cell? ⟨w.heap.size, 4, none⟩ = some (.bool (sg m.c)) ∧ W.cell? ⟨w.heap.size, 5, none⟩ = some (.slice m2A (nl (mg m.c)) m2c) ∧ W.cell? ⟨w.heap.size, 6, none⟩ = some (.bool (sg m.d)) ∧ W.cell? ⟨w.heap.size, 7, none⟩ = some (.slice m3A (nl (mg m.d)) m3c) ∧ W.cell? ⟨W2.heap.size, 0, none⟩ = some (.bool (sg k)) ∧ W.cell? ⟨W2.heap.size, 1, none⟩ = some (.slice Xk (nl (mg k)) ck) := ⟨_, rfl⟩
  have HSq : S ((W2.alloc (.cells #[.bool (sg k), .slice Xk (nl (mg k)) ck] 31))).drew := by rw [hS]; exact ⟨(Rm.c (i := 0) rfl), (Rm.c (i := 1) rfl), (Rm.c (i := 2) rfl), (Rm.c (i := 3) rfl), (Rm.c (i := 4) rfl), (Rm.c (i := 5) rfl), (Rm.c (i := 6) rfl), (Rm.c (i := 7) rfl), (Rk.c (i := 0) rfl), (Rk.c (i := 1) rfl)⟩
  have hSb : ∀ W W' : World, Below W.heap.size W W' → S W → S W' := by rw [hS]; exact fun W W' hb h => ⟨cell_below hb h.1, cell_below hb h.2.1, cell_below hb h.2.2.1, cell_below hb h.2.2.2.1, cell_below hb h.2.2.2.2.1, cell_below hb h.2.2.2.2.2.1, cell_below hb h.2.2.2.2.2.2.1, cell_below hb h.2.2.2.2.2.2.2.1, cell_below hb h.2.2.2.2.2.2.2.2.1, cell_below hb h.2.2.2.2.2.2.2.2.2⟩
  replace hSb := Lib.hid hSb
  replace hS := Lib.hid hS
  refine wp_region_seq S [(0, true), (1, true), (2, true), (3, true), (4, true), (5, true), (6, true), (7, true), (8, true), (11, true), (12, true), (13, true), (14, true), (15, true), (9, false), (10, false), (16, false), (17, false), (18, true), (19, false)] (by kernel_rfl) (by kernel_rfl) (by kernel_rfl) HSq (fun hSq => ?_)
  clear hSq
  replace HSq := Lib.hid HSq
  clear Rm Rk
  refine SeqP.take (v := ?_) rfl (fun _ _ _ h => h) (Or.inl ⟨by rfl, ?_⟩) ?_
  rotate_left 1
  · intro wq hSw; rw [hS.out] at hSw; (try dsimp only at hSw); go_simp; try with_reducible rfl
  try simp only [Act.put, List.setIfInBounds_toArray, List.set_cons_zero, List.set_cons_succ]
  refine SeqP.take (v := ?_) rfl (fun _ _ _ h => h) (Or.inl ⟨by rfl, ?_⟩) ?_
  rotate_left 1
  · intro wq hSw; rw [hS.out] at hSw; (try dsimp only at hSw); go_simp; try with_reducible rfl
  try simp only [Act.put, List.setIfInBounds_toArray, List.set_cons_zero, List.set_cons_succ]
  refine SeqP.take (v := ?_) rfl (fun _ _ _ h => h) (Or.inl ⟨by rfl, ?_⟩) ?_
  rotate_left 1
  · intro wq hSw; rw [hS.out] at hSw; (try dsimp only at hSw); go_simp; try with_reducible rfl
  try simp only [Act.put, List.setIfInBounds_toArray, List.set_cons_zero, List.set_cons_succ]
  refine SeqP.take (v := ?_) rfl (fun _ _ _ h => h) (Or.inl ⟨by rfl, ?_⟩) ?_
  rotate_left 1
  · intro wq hSw; rw [hS.out] at hSw; (try dsimp only at hSw); go_simp; try with_reducible rfl
  try simp only [Act.put, List.setIfInBounds_toArray, List.set_cons_zero, List.set_cons_succ]
  refine SeqP.take (v := ?_) rfl (fun _ _ _ h => h) (Or.inl ⟨by rfl, ?_⟩) ?_
  rotate_left 1
  · intro wq hSw; rw [hS.out] at hSw; (try dsimp only at hSw); go_simp; try with_reducible rfl
  try simp only [Act.put, List.setIfInBounds_toArray, List.set_cons_zero, List.set_cons_succ]
  refine SeqP.take (v := ?_) rfl (fun _ _ _ h => h) (Or.inl ⟨by rfl, ?_⟩) ?_
  rotate_left 1
  · intro wq hSw; rw [hS.out] at hSw; (try dsimp only at hSw); go_simp; try with_reducible rfl
  try simp only [Act.put, List.setIfInBounds_toArray, List.set_cons_zero, List.set_cons_succ]
  refine SeqP.take (v := ?_) rfl (fun _ _ _ h => h) (Or.inl ⟨by rfl, ?_⟩) ?_
  rotate_left 1
  · intro wq hSw; rw [hS.out] at hSw; (try dsimp only at hSw); go_simp; try with_reducible rfl
  try simp only [Act.put, List.setIfInBounds_toArray, List.set_cons_zero, List.set_cons_succ]
  refine SeqP.take (v := ?_) rfl (fun _ _ _ h => h) (Or.inl ⟨by rfl, ?_⟩) ?_
  rotate_left 1
  · intro wq hSw; rw [hS.out] at hSw; (try dsimp only at hSw); go_simp; try with_reducible rfl
  try simp only [Act.put, List.setIfInBounds_toArray, List.set_cons_zero, List.set_cons_succ]
  refine SeqP.take (v := ?_) rfl (fun _ _ _ h => h) (Or.inl ⟨by rfl, ?_⟩) ?_
  rotate_left 1
  · intro wq hSw; rw [hS.out] at hSw; (try dsimp only at hSw); go_simp; try with_reducible rfl
  try simp only [Act.put, List.setIfInBounds_toArray, List.set_cons_zero, List.set_cons_succ]
  refine SeqP.take (v := ?_) rfl (fun _ _ _ h => h) (Or.inl ⟨by rfl, ?_⟩) ?_
  rotate_left 1
  · intro wq hSw; rw [hS.out] at hSw; (try dsimp only at hSw); go_simp; try with_reducible rfl
  try simp only [Act.put, List.setIfInBounds_toArray, List.set_cons_zero, List.set_cons_succ]
  refine SeqP.take (v := ?_) rfl (fun _ _ _ h => h) (Or.inl ⟨by rfl, ?_⟩) ?_
  rotate_left 1
  · intro wq hSw; rw [hS.out] at hSw; (try dsimp only at hSw); go_simp; try with_reducible rfl
  try simp only [Act.put, List.setIfInBounds_toArray, List.set_cons_zero, List.set_cons_succ]
  refine SeqP.take (v := ?_) rfl (fun _ _ _ h => h) (Or.inl ⟨by rfl, ?_⟩) ?_
  rotate_left 1
  · intro wq hSw; rw [hS.out] at hSw; (try dsimp only at hSw); go_simp; try with_reducible rfl
  try simp only [Act.put, List.setIfInBounds_toArray, List.set_cons_zero, List.set_cons_succ]
  refine SeqP.take (v := ?_) rfl (fun _ _ _ h => h) (Or.inl ⟨by rfl, ?_⟩) ?_
  rotate_left 1
  · intro wq hSw; rw [hS.out] at hSw; (try dsimp only at hSw); go_simp; try with_reducible rfl
  try simp only [Act.put, List.setIfInBounds_toArray, List.set_cons_zero, List.set_cons_succ]
  refine SeqP.take (v := ?_) rfl (fun _ _ _ h => h) (Or.inl ⟨by rfl, ?_⟩) ?_
  rotate_left 1
  · intro wq hSw; rw [hS.out] at hSw; (try dsimp only at hSw); go_simp; try with_reducible rfl
  try simp only [Act.put, List.setIfInBounds_toArray, List.set_cons_zero, List.set_cons_succ]
  refine SeqP.call rfl (by rfl) (fun Kq hKq => ?_)
  go_simp
  go_at_call 52
  with_reducible refine (C4_0.out _ _ _ _ _ hk hm2 hG).mono ?_
  rintro e W5 ⟨Xp, cp, rfl, hp, hb5⟩
  replace hm0 := hm0.below hb5
  replace hm1 := hm1.below hb5
  replace hm2 := hm2.below hb5
  replace hm3 := hm3.below hb5
  replace hq := hq.below hb5
  replace hG := hG.below hb5
  replace Rr := Rr.below hb5
  replace hk := hk.below hb5
  replace HBT := Below.cons HBT hb5
  replace HSq := Lib.hid (hSb.out _ _ hb5 HSq.out)
  clear hb5
  refine hKq.out _ _ HSq.out (fun hSq => ?_)
  clear hSq hKq Kq
  try simp only [Act.put, List.setIfInBounds_toArray, List.set_cons_zero, List.set_cons_succ]
  refine SeqP.call rfl (by rfl) (fun Kq hKq => ?_)
  go_simp
  go_at_call 51
  with_reducible refine (C4_1.out _ _ _ _ _ hm0 hp).mono ?_
  rintro e W6 ⟨Xx, cx, rfl, hx, hb6⟩
  replace hm0 := hm0.below hb6
  replace hm1 := hm1.below hb6
  replace hm2 := hm2.below hb6
  replace hm3 := hm3.below hb6
  replace hq := hq.below hb6
  replace hG := hG.below hb6
  replace Rr := Rr.below hb6
  replace hk := hk.below hb6
  replace hp := hp.below hb6
  replace HBT := Below.cons HBT hb6
  replace HSq := Lib.hid (hSb.out _ _ hb6 HSq.out)
  clear hb6
  refine hKq.out _ _ HSq.out (fun hSq => ?_)
  clear hSq hKq Kq
  try simp only [Act.put, List.setIfInBounds_toArray, List.set_cons_zero, List.set_cons_succ]
  refine SeqP.call rfl (by rfl) (fun Kq hKq => ?_)
  go_simp
  go_at_call 52
  with_reducible refine (C4_2.out _ _ _ _ _ hk hm3 hG).mono ?_
  rintro e W7 ⟨Xs, cs, rfl, hs, hb7⟩
  replace hm0 := hm0.below hb7
  replace hm1 := hm1.below hb7
  replace hm2 := hm2.below hb7
  replace hm3 := hm3.below hb7
  replace hq := hq.below hb7
  replace hG := hG.below hb7
  replace Rr := Rr.below hb7
  replace hk := hk.below hb7
  replace hp := hp.below hb7
  replace hx := hx.below hb7
  replace HBT := Below.cons HBT hb7
  replace HSq := Lib.hid (hSb.out _ _ hb7 HSq.out)
  clear hb7
  refine hKq.out _ _ HSq.out (fun hSq => ?_)
  clear hSq hKq Kq
  try simp only [Act.put, List.setIfInBounds_toArray, List.set_cons_zero, List.set_cons_succ]
  refine SeqP.call rfl (by rfl) (fun Kq hKq => ?_)
  go_simp
  go_at_call 51
  with_reducible refine (C4_3.out _ _ _ _ _ hm1 hs).mono ?_
  rintro e W8 ⟨Xy, cy, rfl, hy, hb8⟩
  replace hm0 := hm0.below hb8
  replace hm1 := hm1.below hb8
  replace hm2 := hm2.below hb8
  replace hm3 := hm3.below hb8
  replace hq := hq.below hb8
  replace hG := hG.below hb8
  replace Rr := Rr.below hb8
  replace hk := hk.below hb8
  replace hp := hp.below hb8
  replace hx := hx.below hb8
  replace hs := hs.below hb8
  replace HBT := Below.cons HBT hb8
  replace HSq := Lib.hid (hSb.out _ _ hb8 HSq.out)
  clear hb8
  refine hKq.out _ _ HSq.out (fun hSq => ?_)
  clear hSq hKq Kq
  try simp only [Act.put, List.setIfInBounds_toArray, List.set_cons_zero, List.set_cons_succ]
  refine SeqP.take (v := ?_) rfl (fun _ _ _ h => h) (Or.inl ⟨by rfl, ?_⟩) ?_
  rotate_left 1
  · intro wq hSw; rw [hS.out] at hSw; (try dsimp only at hSw); go_simp; try with_reducible rfl
  try simp only [Act.put, List.setIfInBounds_toArray, List.set_cons_zero, List.set_cons_succ]
  have HSx := HSq.out
  rw [hS.out] at HSx
  obtain ⟨zx0, zx1, zx2, zx3, zx4, zx5, zx6, zx7, zx8, zx9⟩ := HSx
  have fz0 := Rr.f (i := 0)
  have cz_0 := Rr.c (i := 0) rfl
  have fz1 := Rr.f (i := 1)
  have cz_1 := Rr.c (i := 1) rfl
  have fz2 := Rr.f (i := 2)
  have cz_2 := Rr.c (i := 2) rfl
  have fz3 := Rr.f (i := 3)
  have cz_3 := Rr.c (i := 3) rfl
  have fz4 := Rr.f (i := 4)
  have cz_4 := Rr.c (i := 4) rfl
  have fz5 := Rr.f (i := 5)
  have cz_5 := Rr.c (i := 5) rfl
  have fz6 := Rr.f (i := 6)
  have cz_6 := Rr.c (i := 6) rfl
  have fz7 := Rr.f (i := 7)
  have cz_7 := Rr.c (i := 7) rfl
  refine SeqP.call rfl (by rfl) (fun Kq hKq => ?_)
  go_simp
  refine hKq.out _ _ (by rw [hS.out]; exact ⟨cell_other8 zx0 (by omega), cell_other8 zx1 (by omega), cell_other8 zx2 (by omega), cell_other8 zx3 (by omega), cell_other8 zx4 (by omega), cell_other8 zx5 (by omega), cell_other8 zx6 (by omega), cell_other8 zx7 (by omega), cell_other8 zx8 (Nat.ne_of_gt ltr.out), cell_other8 zx9 (Nat.ne_of_gt ltr.out)⟩) (fun hSq => ?_)
  clear hSq hKq Kq
  clear zx0 zx1 zx2 zx3 zx4 zx5 zx6 zx7 zx8 zx9
  try simp only [Act.put, List.setIfInBounds_toArray, List.set_cons_zero, List.set_cons_succ]
  refine SeqP.done ?_
  clear hSb
  clear HSq
  all_goals (try go_wp2_with (fail))
  have hzx : x = (m.nx q).c := by rw [Ex.out, Ep.out, Ek.out]; rfl
  subst hzx
  have hzy : y = (m.nx q).d := by rw [Ey.out, Es.out, Ek.out]; rfl
  subst hzy
  have RS := Rr.store8 (.bool (sg m.c)) (.slice m2A (nl (mg m.c)) m2c) (.bool (sg m.d)) (.slice m3A (nl (mg m.d)) m3c) (.bool (sg (((m.nx q).c)))) (.slice Xx (nl (mg (((m.nx q).c)))) cx) (.bool (sg (((m.nx q).d)))) (.slice Xy (nl (mg (((m.nx q).d)))) cy)
  have e0 := RS.c (i := 0) rfl
  have e1 := RS.c (i := 1) rfl
  have e2 := RS.c (i := 2) rfl
  have e3 := RS.c (i := 3) rfl
  have e4 := RS.c (i := 4) rfl
  have e5 := RS.c (i := 5) rfl
  have e6 := RS.c (i := 6) rfl
  have e7 := RS.c (i := 7) rfl
  refine bodyPost_ret (v := .agg #[.bool (sg m.c), .slice m2A (nl (mg m.c)) m2c, .bool (sg m.d), .slice m3A (nl (mg m.d)) m3c, .bool (sg (((m.nx q).c))), .slice Xx (nl (mg (((m.nx q).c)))) cx, .bool (sg (((m.nx q).d))), .slice Xy (nl (mg (((m.nx q).d)))) cy]) (by simp [results, Tryd.results24, go_sem, e0, e1, e2, e3, e4, e5, e6, e7]) rfl ?_
  exact ⟨m2A, m2c, m3A, m3c, Xx, cx, Xy, cy, rfl, Rr.keep8 (lista8 _ rfl) hm2, Rr.keep8 (lista8 _ rfl) hm3, Rr.keep8 (lista8 _ rfl) hx, Rr.keep8 (lista8 _ rfl) hy, Below.store8 HBT (by first | exact Nat.le_refl _ | omega)⟩
theorem after1_c (xA : Option Addr) (xc : Nat) (x : Int) (yA : Option Addr) (yc : Nat) (y : Int) (zA : Option Addr) (zc : Nat) (z : Int) (uA : Option Addr) (uc : Nat) (u : Int) (w : World) (hx : NatV w xA xc (mg x)) (hy : NatV w yA yc (mg y)) (hz : NatV w zA zc (mg z)) (hu : NatV w uA uc (mg u)) (hG : Flds w) (lx : nl (mg x) ≤ 16384) (ly : nl (mg y) ≤ 16384) (lz : nl (mg z) ≤ 16384) (lu : nl (mg u) ≤ 16384) :
    Calls Tryd.prog 81 #[.agg #[.bool (sg x), .slice xA (nl (mg x)) xc], .agg #[.bool (sg y), .slice yA (nl (mg y)) yc], .agg #[.bool (sg z), .slice zA (nl (mg z)) zc], .agg #[.bool (sg u), .slice uA (nl (mg u)) uc]] w (RetI w (x * y + z * u)) := by
  obtain ⟨hb1, Rx, Ry, Rz, Ru, Rr⟩ := bx5 w #[.bool (sg x), .slice xA (nl (mg x)) xc] 31 #[.bool (sg y), .slice yA (nl (mg y)) yc] 31 #[.bool (sg z), .slice zA (nl (mg z)) zc] 31 #[.bool (sg u), .slice uA (nl (mg u)) uc] 31 #[.bool false, .slice none 0 0] 31
  replace hx := hx.below hb1
  replace hy := hy.below hb1
  replace hz := hz.below hb1
  replace hu := hu.below hb1
  replace hG := hG.below hb1
  have HBT := hb1
  clear hb1
  have qx0 := Rx.c (i := 0) rfl
  have qx1 := Rx.c (i := 1) rfl
  have qy0 := Ry.c (i := 0) rfl
  have qy1 := Ry.c (i := 1) rfl
  have qz0 := Rz.c (i := 0) rfl
  have qz1 := Rz.c (i := 1) rfl
  have qu0 := Ru.c (i := 0) rfl
  have qu1 := Ru.c (i := 1) rfl
  have qr0 := Rr.c (i := 0) rfl
  have qr1 := Rr.c (i := 1) rfl
  go_enter Tryd.func81, Tryd.ntmps81
  go_wp2_with (fail)
  have hd2 := drb ((((((w.alloc (.cells #[.bool (sg x), .slice xA (nl (mg x)) xc] 31)).alloc (.cells #[.bool (sg y), .slice yA (nl (mg y)) yc] 31)).alloc (.cells #[.bool (sg z), .slice zA (nl (mg z)) zc] 31)).alloc (.cells #[.bool (sg u), .slice uA (nl (mg u)) uc] 31)).alloc (.cells #[.bool false, .slice none 0 0] 31)))
  replace hx := hx.below hd2
  replace hy := hy.below hd2
  replace hz := hz.below hd2
  replace hu := hu.below hd2
  replace hG := hG.below hd2
  replace Rx := Rx.below hd2
  replace qx0 := cbl hd2 qx0
  replace qx1 := cbl hd2 qx1
  replace Ry := Ry.below hd2
  replace qy0 := cbl hd2 qy0
  replace qy1 := cbl hd2 qy1
  replace Rz := Rz.below hd2
  replace qz0 := cbl hd2 qz0
  replace qz1 := cbl hd2 qz1
  replace Ru := Ru.below hd2
  replace qu0 := cbl hd2 qu0
  replace qu1 := cbl hd2 qu1
  replace Rr := Rr.below hd2
  replace qr0 := cbl hd2 qr0
  replace qr1 := cbl hd2 qr1
  replace HBT := Below.cons HBT hd2
  clear hd2
  obtain ⟨p, Ep⟩ : ∃ zq : Int, zq = x * y := ⟨_, rfl⟩
  have Np : nl (mg p) ≤ 32768 := by rw [Ep]; have := nl_imul x y; omega
  have C2_0 := fun (W : World) (A : Option Addr) (c : Nat) (B : Option Addr) (d : Nat) (h1 : NatV W A c (mg x)) (h2 : NatV W B d (mg y)) (hG : Flds W) => imul_c A c x B d y W h1 h2 hG (by omega) (by omega)
  simp only [← Ep] at C2_0
  replace Ep := Lib.hid Ep
  replace C2_0 := Lib.hid C2_0
  obtain ⟨s, Es⟩ : ∃ zq : Int, zq = z * u := ⟨_, rfl⟩
  have Ns : nl (mg s) ≤ 32768 := by rw [Es]; have := nl_imul z u; omega
  have C2_1 := fun (W : World) (A : Option Addr) (c : Nat) (B : Option Addr) (d : Nat) (h1 : NatV W A c (mg z)) (h2 : NatV W B d (mg u)) (hG : Flds W) => imul_c A c z B d u W h1 h2 hG (by omega) (by omega)
  simp only [← Es] at C2_1
  replace Es := Lib.hid Es
  replace C2_1 := Lib.hid C2_1
  obtain ⟨v, Ev⟩ : ∃ zq : Int, zq = p + s := ⟨_, rfl⟩
  have C2_2 := fun (W : World) (A : Option Addr) (c : Nat) (B : Option Addr) (d : Nat) (h1 : NatV W A c (mg p)) (h2 : NatV W B d (mg s)) => iadd_c A c p B d s W h1 h2 (by omega) (by omega)
  simp only [← Ev] at C2_2
  replace Ev := Lib.hid Ev
  replace C2_2 := Lib.hid C2_2
  go_region_held3 (fun W => W.cell? ⟨w.heap.size, 0, none⟩ = some (.bool (sg x)) ∧ W.cell? ⟨w.heap.size, 1, none⟩ = some (.slice xA (nl (mg x)) xc) ∧ W.cell? ⟨(w.heap.size + 1), 0, none⟩ = some (.bool (sg y)) ∧ W.cell? ⟨(w.heap.size + 1), 1, none⟩ = some (.slice yA (nl (mg y)) yc) ∧ W.cell? ⟨(w.heap.size + 1 + 1), 0, none⟩ = some (.bool (sg z)) ∧ W.cell? ⟨(w.heap.size + 1 + 1), 1, none⟩ = some (.slice zA (nl (mg z)) zc) ∧ W.cell? ⟨(w.heap.size + 1 + 1 + 1), 0, none⟩ = some (.bool (sg u)) ∧ W.cell? ⟨(w.heap.size + 1 + 1 + 1), 1, none⟩ = some (.slice uA (nl (mg u)) uc))
    (first
      | exact ⟨qx0, qx1, qy0, qy1, qz0, qz1, qu0, qu1⟩
      | exact ⟨qx0_3, qx1_3, qy0_3, qy1_3, qz0_3, qz1_3, qu0_3, qu1_3⟩
      | exact ⟨qx0_4, qx1_4, qy0_4, qy1_4, qz0_4, qz1_4, qu0_4, qu1_4⟩
      | exact ⟨qx0_5, qx1_5, qy0_5, qy1_5, qz0_5, qz1_5, qu0_5, qu1_5⟩
      | exact ⟨((Rx_5.other2 (by simp <;> omega)).c (i := 0) rfl), ((Rx_5.other2 (by simp <;> omega)).c (i := 1) rfl), ((Ry_5.other2 (by simp <;> omega)).c (i := 0) rfl), ((Ry_5.other2 (by simp <;> omega)).c (i := 1) rfl), ((Rz_5.other2 (by simp <;> omega)).c (i := 0) rfl), ((Rz_5.other2 (by simp <;> omega)).c (i := 1) rfl), ((Ru_5.other2 (by simp <;> omega)).c (i := 0) rfl), ((Ru_5.other2 (by simp <;> omega)).c (i := 1) rfl)⟩
      | go_keep)
    (first
      | (go_at_call 52; (with_reducible refine (C2_0.out _ _ _ _ _ hx hy hG).mono ?_); rintro e W3 ⟨Xp, cp, rfl, hp, hb3⟩; have hx_3 := hx.below hb3; have hy_3 := hy.below hb3; have hz_3 := hz.below hb3; have hu_3 := hu.below hb3; have hG_3 := hG.below hb3; have Rx_3 := Rx.below hb3; have qx0_3 := cbl hb3 qx0; have qx1_3 := cbl hb3 qx1; have Ry_3 := Ry.below hb3; have qy0_3 := cbl hb3 qy0; have qy1_3 := cbl hb3 qy1; have Rz_3 := Rz.below hb3; have qz0_3 := cbl hb3 qz0; have qz1_3 := cbl hb3 qz1; have Ru_3 := Ru.below hb3; have qu0_3 := cbl hb3 qu0; have qu1_3 := cbl hb3 qu1; have Rr_3 := Rr.below hb3; have qr0_3 := cbl hb3 qr0; have qr1_3 := cbl hb3 qr1; have HBT_3 := Below.cons HBT hb3)
      | (go_at_call 52; (with_reducible refine (C2_1.out _ _ _ _ _ hz_3 hu_3 hG_3).mono ?_); rintro e W4 ⟨Xs, cs, rfl, hs, hb4⟩; have hx_4 := hx_3.below hb4; have hy_4 := hy_3.below hb4; have hz_4 := hz_3.below hb4; have hu_4 := hu_3.below hb4; have hG_4 := hG_3.below hb4; have Rx_4 := Rx_3.below hb4; have qx0_4 := cbl hb4 qx0_3; have qx1_4 := cbl hb4 qx1_3; have Ry_4 := Ry_3.below hb4; have qy0_4 := cbl hb4 qy0_3; have qy1_4 := cbl hb4 qy1_3; have Rz_4 := Rz_3.below hb4; have qz0_4 := cbl hb4 qz0_3; have qz1_4 := cbl hb4 qz1_3; have Ru_4 := Ru_3.below hb4; have qu0_4 := cbl hb4 qu0_3; have qu1_4 := cbl hb4 qu1_3; have Rr_4 := Rr_3.below hb4; have qr0_4 := cbl hb4 qr0_3; have qr1_4 := cbl hb4 qr1_3; have hp_4 := hp.below hb4; have HBT_4 := Below.cons HBT_3 hb4)
      | (go_at_call 63; (with_reducible refine (C2_2.out _ _ _ _ _ hp_4 hs).mono ?_); rintro e W5 ⟨Xv, cv, rfl, hv, hb5⟩; have hx_5 := hx_4.below hb5; have hy_5 := hy_4.below hb5; have hz_5 := hz_4.below hb5; have hu_5 := hu_4.below hb5; have hG_5 := hG_4.below hb5; have Rx_5 := Rx_4.below hb5; have qx0_5 := cbl hb5 qx0_4; have qx1_5 := cbl hb5 qx1_4; have Ry_5 := Ry_4.below hb5; have qy0_5 := cbl hb5 qy0_4; have qy1_5 := cbl hb5 qy1_4; have Rz_5 := Rz_4.below hb5; have qz0_5 := cbl hb5 qz0_4; have qz1_5 := cbl hb5 qz1_4; have Ru_5 := Ru_4.below hb5; have qu0_5 := cbl hb5 qu0_4; have qu1_5 := cbl hb5 qu1_4; have Rr_5 := Rr_4.below hb5; have qr0_5 := cbl hb5 qr0_4; have qr1_5 := cbl hb5 qr1_4; have hp_5 := hp_4.below hb5; have hs_5 := hs.below hb5; have HBT_5 := Below.cons HBT_4 hb5; have fz0 := Rr_5.f (i := 0); have fz1 := Rr_5.f (i := 1)))
  all_goals (try go_wp2_with (fail))
  have hzv : v = x * y + z * u := by rw [Ev.out, Ep.out, Es.out]
  subst hzv
  have RS := Rr_5.store2 (.bool (sg ((x * y + z * u)))) (.slice Xv (nl (mg ((x * y + z * u)))) cv)
  have e0 := RS.c (i := 0) rfl
  have e1 := RS.c (i := 1) rfl
  refine bodyPost_ret (v := .agg #[.bool (sg ((x * y + z * u))), .slice Xv (nl (mg ((x * y + z * u)))) cv]) (by simp [results, Tryd.results81, go_sem, e0, e1]) rfl ?_
  exact ⟨Xv, cv, rfl, (Rr_5.keep2 (nuB rfl) hv), (Below.store2 HBT_5 (by first | exact Nat.le_refl _ | omega))⟩
end Go.Proofs.YthcmoimlnhghcaaDoor

/- Variables that hold matrices, in ranges over Euclid's pairs. -/
set_option linter.unusedVariables false
set_option linter.unusedSimpArgs false
namespace Go.Proofs.YthcmoimlnhghcaaDoor
open Go.RowKit Go.Shelf
attribute [local go_sem] max2_i min2_i max_two min_two

attribute [local go_sem] Oper.semAt_some
/-- A variable that holds a matrix. -/
def MxB (W : World) (k : Nat) (m : Mx) : Prop := ∃ (A : Option Addr) (a : Nat) (B : Option Addr) (b : Nat) (C : Option Addr) (c : Nat) (D : Option Addr) (d : Nat),
  BoxA W k 48 #[.bool (sg m.a), .slice A (nl (mg m.a)) a, .bool (sg m.b), .slice B (nl (mg m.b)) b, .bool (sg m.c), .slice C (nl (mg m.c)) c, .bool (sg m.d), .slice D (nl (mg m.d)) d] ∧ NatV W A a (mg m.a) ∧ NatV W B b (mg m.b) ∧ NatV W C c (mg m.c) ∧ NatV W D d (mg m.d)
theorem MxB.below {W W' : World} {k : Nat} {m : Mx} (h : MxB W k m) (hb : Below W.heap.size W W') : MxB W' k m := by
  obtain ⟨A, a, B, b, C, c, D, d, h0, h1, h2, h3, h4⟩ := h
  exact ⟨A, a, B, b, C, c, D, d, h0.below hb, h1.below hb, h2.below hb, h3.below hb, h4.below hb⟩
theorem BoxA.kept {W W' : World} {k : Nat} {t : TypeId} {us : Array Value} {row : Option Nat} (h : BoxA W k t us) (hg : W.grownBy W' row) (hr : ∀ r, row = some r → ∃ o : Obj, W.heap[r]? = some o ∧ o.isCells = false) : BoxA W' k t us :=
  ⟨(hg.block k h.lt (fun e => by obtain ⟨o, ho, hc⟩ := hr k e.symm; rw [h.at_] at ho; cases ho; cases hc)).trans h.at_⟩
theorem MxB.kept {W W' : World} {k : Nat} {m : Mx} {row : Option Nat} (h : MxB W k m) (hg : W.grownBy W' row) (hr : ∀ r, row = some r → ∃ o : Obj, W.heap[r]? = some o ∧ o.isCells = false) : MxB W' k m := by
  obtain ⟨A, a, B, b, C, c, D, d, h0, h1, h2, h3, h4⟩ := h
  exact ⟨A, a, B, b, C, c, D, d, h0.kept hg hr, h1.kept hg hr, h2.kept hg hr, h3.kept hg hr, h4.kept hg hr⟩
theorem BoxA.far8 {W : World} {j k : Nat} {t : TypeId} {us : Array Value} {v0 v1 v2 v3 v4 v5 v6 v7 : Value} (h : BoxA W j t us) (hne : j ≠ k) : BoxA (((((((((W.setCell ⟨k, 0, none⟩ v0).setCell ⟨k, 1, none⟩ v1).setCell ⟨k, 2, none⟩ v2).setCell ⟨k, 3, none⟩ v3).setCell ⟨k, 4, none⟩ v4).setCell ⟨k, 5, none⟩ v5).setCell ⟨k, 6, none⟩ v6).setCell ⟨k, 7, none⟩ v7)) j t us := ⟨(set8_far j hne).trans h.at_⟩
theorem kpu_below {Ba Bb : Nat} {W W' : World} (hb : Below W.heap.size W W') : KpU Ba Bb W W' := ⟨fun p x e => cell_below hb e, fun o _ e => heap_below hb e, fun o _ e => heap_below hb e⟩
theorem ko_below {W W' : World} (hb : Below W.heap.size W W') : KeepsOthers W W' := ⟨hb.size, fun k o hk _ => heap_below hb hk⟩
theorem kpu_far {Ba Bb : Nat} {W W' : World} {k : Nat} {t : TypeId} {us : Array Value} (h : BoxA W k t us) (hu : ∀ u ∈ us.toList, NotU u) (hW : ∀ j, j ≠ k → W'.heap[j]? = W.heap[j]?) (ha : Ba ≠ k) (hb : Bb ≠ k) : KpU Ba Bb W W' := by
  refine ⟨fun p x e => ?_, fun o _ e => (hW _ ha).trans e, fun o _ e => (hW _ hb).trans e⟩
  have hne : p.block ≠ k := fun e2 => by
    unfold World.cell? at e
    rw [e2, h.at_] at e
    simp only at e
    split at e
    · cases e
    · have hm := Array.mem_of_getElem? e
      exact hu _ (Array.mem_def.1 hm) x rfl
  rw [World.cell?_of_block (w := W) (a := p) (hW _ hne)]
  exact e
theorem ko_far {W W' : World} {k : Nat} {t : TypeId} {us : Array Value} (h : BoxA W k t us) (hs : W'.heap.size = W.heap.size) (hW : ∀ j, j ≠ k → W'.heap[j]? = W.heap[j]?) : KeepsOthers W W' := by
  refine ⟨by omega, fun j o hj ho => ?_⟩
  by_cases e : j = k
  · subst e; rw [h.at_] at hj; cases hj; cases ho
  · exact (hW j e).trans hj
theorem size8 {W : World} {k : Nat} {v0 v1 v2 v3 v4 v5 v6 v7 : Value} : (((((((((W.setCell ⟨k, 0, none⟩ v0).setCell ⟨k, 1, none⟩ v1).setCell ⟨k, 2, none⟩ v2).setCell ⟨k, 3, none⟩ v3).setCell ⟨k, 4, none⟩ v4).setCell ⟨k, 5, none⟩ v5).setCell ⟨k, 6, none⟩ v6).setCell ⟨k, 7, none⟩ v7)).heap.size = W.heap.size := by simp [World.setCell]
theorem MxB.far {W : World} {j k : Nat} {m : Mx} {t : TypeId} {us : Array Value} {v0 v1 v2 v3 v4 v5 v6 v7 : Value} (h : MxB W j m) (hk : BoxA W k t us) (hu : ∀ u ∈ us.toList, NotU u) (hne : j ≠ k) : MxB (((((((((W.setCell ⟨k, 0, none⟩ v0).setCell ⟨k, 1, none⟩ v1).setCell ⟨k, 2, none⟩ v2).setCell ⟨k, 3, none⟩ v3).setCell ⟨k, 4, none⟩ v4).setCell ⟨k, 5, none⟩ v5).setCell ⟨k, 6, none⟩ v6).setCell ⟨k, 7, none⟩ v7)) j m := by
  obtain ⟨A, a, B, b, C, c, D, d, h0, h1, h2, h3, h4⟩ := h
  have hW : ∀ j, j ≠ k → (((((((((W.setCell ⟨k, 0, none⟩ v0).setCell ⟨k, 1, none⟩ v1).setCell ⟨k, 2, none⟩ v2).setCell ⟨k, 3, none⟩ v3).setCell ⟨k, 4, none⟩ v4).setCell ⟨k, 5, none⟩ v5).setCell ⟨k, 6, none⟩ v6).setCell ⟨k, 7, none⟩ v7)).heap[j]? = W.heap[j]? := fun j hj => set8_far j hj
  exact ⟨A, a, B, b, C, c, D, d, h0.far8 hne, hk.keep hu hW h1, hk.keep hu hW h2, hk.keep hu hW h3, hk.keep hu hW h4⟩
theorem NatV.mvu {Ba Bb : Nat} {W W' : World} {A : Option Addr} {c n : Nat} (h : NatV W A c n) (hk : MvU Ba Bb W W') : NatV W' A c n :=
  NatV.kpu (Ba := W.heap.size) (Bb := W.heap.size) h ⟨hk.u, fun o _ e => by simp at e, fun o _ e => by simp at e⟩
theorem MxB.mvu {Ba Bb k : Nat} {W W' : World} {m : Mx} (h : MxB W k m) (hk : MvU Ba Bb W W') (ha : k ≠ Ba) (hb : k ≠ Bb) : MxB W' k m := by
  obtain ⟨A, a, B, b, C, c, D, d, h0, h1, h2, h3, h4⟩ := h
  exact ⟨A, a, B, b, C, c, D, d, ⟨(hk.block k h0.lt ha hb).trans h0.at_⟩, h1.mvu hk, h2.mvu hk, h3.mvu hk, h4.mvu hk⟩
theorem BoxA.mvu {Ba Bb k : Nat} {W W' : World} {t : TypeId} {us : Array Value} (h : BoxA W k t us) (hk : MvU Ba Bb W W') (ha : k ≠ Ba) (hb : k ≠ Bb) : BoxA W' k t us := ⟨(hk.block k h.lt ha hb).trans h.at_⟩
theorem Below.st8 {s : Nat} {w W : World} {k : Nat} {v0 v1 v2 v3 v4 v5 v6 v7 : Value} (h : Below s w W) (hk : s ≤ k) : Below s w (((((((((W.setCell ⟨k, 0, none⟩ v0).setCell ⟨k, 1, none⟩ v1).setCell ⟨k, 2, none⟩ v2).setCell ⟨k, 3, none⟩ v3).setCell ⟨k, 4, none⟩ v4).setCell ⟨k, 5, none⟩ v5).setCell ⟨k, 6, none⟩ v6).setCell ⟨k, 7, none⟩ v7)) := ((((((((h.setCell (p := ⟨k, 0, none⟩) hk _).setCell (p := ⟨k, 1, none⟩) hk _).setCell (p := ⟨k, 2, none⟩) hk _).setCell (p := ⟨k, 3, none⟩) hk _).setCell (p := ⟨k, 4, none⟩) hk _).setCell (p := ⟨k, 5, none⟩) hk _).setCell (p := ⟨k, 6, none⟩) hk _).setCell (p := ⟨k, 7, none⟩) hk _)
theorem euc_le (a b : Nat) : ∀ k, (euc a b k).1 ≤ max a b ∧ (euc a b k).2 ≤ max a b
  | 0 => by simp only [euc]; omega
  | k + 1 => by
    obtain ⟨h1, h2⟩ := euc_le a b k
    simp only [euc]
    exact ⟨h2, Nat.le_trans (Nat.mod_le _ _) h1⟩
theorem euc_nl {a b L : Nat} (ha : nl a ≤ L) (hb : nl b ≤ L) (k : Nat) : nl (euc a b k).1 ≤ L ∧ nl (euc a b k).2 ≤ L := by
  obtain ⟨h1, h2⟩ := euc_le a b k
  have h3 := nl_max ha hb
  exact ⟨Nat.le_trans (nl_mono h1) h3, Nat.le_trans (nl_mono h2) h3⟩
theorem own_mxb (k : Nat) (f : List It → Mx) (n : Nat) : OwnFrom n (fun xs W => MxB W k (f xs)) := fun s W W' row hs hg hr => hs.kept hg (fun r e => (hr r e).2)
theorem own_boxA (k : Nat) (t : TypeId) (us : List It → Array Value) (n : Nat) : OwnFrom n (fun xs W => BoxA W k t (us xs)) := fun s W W' row hs hg hr => hs.kept hg (fun r e => (hr r e).2)
theorem own_pure (p : List It → Prop) (n : Nat) : OwnFrom n (fun xs W => p xs) := fun s W W' row hs _ _ => hs
theorem own_size (k n : Nat) : OwnFrom n (fun (_ : List It) W => k ≤ W.heap.size) := fun s W W' row hs hg _ => Nat.le_trans hs hg.size
theorem few_c (A : Option Addr) (c a : Nat) (B : Option Addr) (d b : Nat) (w : World) (hA : NatV w A c a) (hB : NatV w B d b) (hG : Flds w) (la : nl a ≤ 8192) (lb : nl b ≤ 8192) :
    Calls Tryd.prog 64 #[.slice A (nl a) c, .slice B (nl b) d] w fun e w' => ∃ m : Mx, m.U ∧ m.sz (max 1 (max (nl a) (nl b))) ∧ RetM w m e w' := by
  refine (callsIn_wide (n := 4)).1 ?_
  obtain ⟨n, En⟩ : ∃ n, n = nl a / 2 := ⟨_, rfl⟩
  have In : (nl a : Int) / 2 = (n : Int) := by omega
  have Jn : (nl a : Int).tdiv 2 = (n : Int) := by rw [Int.tdiv_eq_ediv_of_nonneg (by omega)]; exact In
  have Wn : IntKind.i64.wrap (n : Int) = (n : Int) := IntWalk.i64_in _ (by omega)
  have hnl : n ≤ 8192 := by omega
  refine callsIn_of_wp_marks Tryd.func64 rfl trivial ?_ rfl
  simp only [Tryd.ntmps64, List.size_toArray, List.length_cons, List.length_nil, Nat.reduceAdd, Nat.reduceSub, Array.replicate_succ, Array.replicate_zero, List.push_toArray, List.append_toArray, List.nil_append, List.cons_append]
  replace En := Lib.hid En
  gi_wp2_with (fail)
  refine ⟨trivial, ?_⟩
  refine (callsIn_wide.2 (unit_c _)).mono ?_
  rintro e w1 ⟨A0, a0, B0, b0, C0, c0, D0, d0, rfl, m0, m1, m2, m3, hb1⟩
  gi_wp2_with (fail)
  refine ⟨trivial, ?_⟩
  refine (callsIn_wide.2 (rests_c A (nl a) c B (nl b) d _)).mono ?_
  rintro e w' ⟨rfl, rfl⟩
  gi_wp2_with (fail)
  obtain ⟨p, hp0⟩ : ∃ p, p = w1.heap.size := ⟨_, rfl⟩
  obtain ⟨s, hs0⟩ : ∃ s, s = w.heap.size := ⟨_, rfl⟩
  have hsz1 := hb1.size
  have hsp : s + 1 ≤ p := by rw [hs0, hp0]; simpa using hsz1
  have hb01 : Below w.heap.size w w1 := Below.cons ((Below.refl _ _).alloc (Nat.le_refl _) _) hb1
  have bR1 : BoxA w1 s 48 #[.bool false, .slice none 0 0, .bool false, .slice none 0 0, .bool false, .slice none 0 0, .bool false, .slice none 0 0] := by rw [hs0]; exact BoxA.below ⟨at_new rfl⟩ hb1
  obtain ⟨W8, hW8⟩ : ∃ W8, ((((w1.alloc (.cells #[.bool (sg Mx.one.a), .slice A0 (nl (mg Mx.one.a)) a0, .bool (sg Mx.one.b), .slice B0 (nl (mg Mx.one.b)) b0, .bool (sg Mx.one.c), .slice C0 (nl (mg Mx.one.c)) c0, .bool (sg Mx.one.d), .slice D0 (nl (mg Mx.one.d)) d0] 48)).alloc (.cells #[.int .i64 (n : Int)] 3)).alloc (.cells #[.slice A (nl a) c] 22)).alloc (.cells #[.slice B (nl b) d] 22)) = W8 := ⟨_, rfl⟩
  have bM : BoxA W8 p 48 #[.bool (sg Mx.one.a), .slice A0 (nl (mg Mx.one.a)) a0, .bool (sg Mx.one.b), .slice B0 (nl (mg Mx.one.b)) b0, .bool (sg Mx.one.c), .slice C0 (nl (mg Mx.one.c)) c0, .bool (sg Mx.one.d), .slice D0 (nl (mg Mx.one.d)) d0] := by
    subst hp0 hW8; refine ⟨?_⟩; repeat (first | exact at_new (by simp) | refine at_old (by simp <;> omega) ?_)
  have bN : BoxA W8 (p + 1) 3 #[.int .i64 (n : Int)] := by
    subst hp0 hW8; refine ⟨?_⟩; repeat (first | exact at_new (by simp) | refine at_old (by simp <;> omega) ?_)
  have bA : Boxed W8 (p + 2) 22 (.slice A (nl a) c) := by
    subst hp0 hW8; unfold Boxed; repeat (first | exact at_new (by simp) | refine at_old (by simp <;> omega) ?_)
  have bB : Boxed W8 (p + 3) 22 (.slice B (nl b) d) := by
    subst hp0 hW8; unfold Boxed; repeat (first | exact at_new (by simp) | refine at_old (by simp <;> omega) ?_)
  have hsz : W8.heap.size = p + 4 := by subst hp0 hW8; simp
  have hB18 : Below w1.heap.size w1 W8 := by
    subst hW8
    exact (((((Below.refl _ w1).alloc (Nat.le_refl _) _).alloc (by simp) _).alloc (by simp; omega) _).alloc (by simp; omega) _)
  have hB08 := hb01.cons hB18
  have hB0 : Below s w W8 := hB08.mono (Nat.le_of_eq hs0)
  have bR := bR1.below hB18
  have hA8 := hA.below hB08
  have hB8 := hB.below hB08
  have M0 := m0.below hB18
  have M1 := m1.below hB18
  have M2 := m2.below hB18
  have M3 := m3.below hB18
  have hG8 := hG.below hB08
  have hsw : ∀ W, Below s w W → Flds W := fun W h => hG.below (h.mono (Nat.le_of_eq hs0.symm))
  rw [← hs0, ← hp0]
  simp only [Nat.add_assoc, Nat.reduceAdd]
  rw [hW8]
  clear hW8 hG8 m0 m1 m2 m3 bR1 hB18 hB08 hb01
  have HS := Lib.hid hs0
  have HP := Lib.hid hp0
  clear hs0 hp0 hsz1 hb1
  replace hsw := Lib.hid hsw
  refine wpIn_rangeX (w0 := W8) rfl (by omega) (gf := 41) (lb := #[.pointer (some ⟨p + 2, 0, none⟩), .pointer (some ⟨p + 3, 0, none⟩)]) rfl trivial (enters_of Tryd.func41 (by kernel_rfl) rfl)
    (rests_seq A c a B d b (p + 2) (p + 3) (by omega) W8 (by omega) (by omega) bA bB hA8 hB8) (fun X Y h k h1 h2 => h.block k h2 (by omega) (by omega))
    KpU.t (fun W l o o' h1 h2 h3 h4 => KpU.bk W l o o' h1 h2 h3 h4) (Below.refl _ _) (fun _ => rfl) (own_euH a b _) (own_euS a b _) (own_euP a b _)
    (fun pre W => MxB W p (eum a b pre.length) ∧ BoxA W (p + 1) 3 #[.int .i64 (n : Int)] ∧ BoxA W s 48 #[.bool false, .slice none 0 0, .bool false, .slice none 0 0, .bool false, .slice none 0 0, .bool false, .slice none 0 0] ∧ (∀ i, i < pre.length → n + 1 < nl (euc a b i).2) ∧ Below s w W ∧ p + 4 ≤ W.heap.size)
    (fun c pre W => c = .ret ∧ (∃ k, (∀ i, i < k → (euc a b i).2 ≠ 0) ∧ MxB W s (eum a b k)) ∧ Below s w W ∧ p + 4 ≤ W.heap.size)
    ?own ?ownx ?mv ?start
    (fun x => { tmps := #[.slice A (nl a) c, .slice B (nl b) d, undef, undef, .pointer (some ⟨s, 0, none⟩), .pointer (some ⟨p, 0, none⟩), .pointer (some ⟨p + 1, 0, none⟩), .slice x.A (nl x.a) x.c, .slice x.B (nl x.b) x.d, undef, undef, undef,
      .agg #[.bool (sg Mx.one.a), .slice A0 (nl (mg Mx.one.a)) a0, .bool (sg Mx.one.b), .slice B0 (nl (mg Mx.one.b)) b0, .bool (sg Mx.one.c), .slice C0 (nl (mg Mx.one.c)) c0, .bool (sg Mx.one.d), .slice D0 (nl (mg Mx.one.d)) d0], .slice A (nl a) c, .int .i64 (nl a : Nat), .int .i64 (n : Int), .slice A (nl a) c, .slice B (nl b) d,
      .func (.func 41) #[] #[.pointer (some ⟨p + 2, 0, none⟩), .pointer (some ⟨p + 3, 0, none⟩)], .slice x.A (nl x.a) x.c, .slice x.B (nl x.b) x.d, undef, undef, undef, undef, undef, undef, undef, undef, undef, undef, undef, undef, undef, undef, undef, undef, undef], defers := [] }) ?assign ?body ?done ?stop
  case own =>
    refine OwnFrom.and (own_mxb p (fun xs => eum a b xs.length) _) (OwnFrom.and (own_boxA (p + 1) _ (fun _ => _) _) (OwnFrom.and (own_boxA s _ (fun _ => _) _) (OwnFrom.and (own_pure _ _) (OwnFrom.and (ownFrom_below (Nat.le_of_eq HS.out) (by omega)) (own_size _ _)))))
  case ownx =>
    rintro c xs W W' row ⟨h1, ⟨k, h2, h3⟩, h4, h5⟩ hg hr
    exact ⟨h1, ⟨k, h2, h3.kept hg (fun r e => (hr r e).2)⟩, ownFrom_below (β := List It) (Nat.le_of_eq HS.out) (by omega) xs W W' row h4 hg hr, Nat.le_trans h5 hg.size⟩
  case mv =>
    rintro x Y Z ⟨h1, h2, h3, h4, h5, h6⟩ hm
    exact ⟨h1.mvu hm (by omega) (by omega), h2.mvu hm (by omega) (by omega), h3.mvu hm (by omega) (by omega), h4, mvu_below h5 hm (by omega) (by omega) (by omega), Nat.le_trans h6 hm.size⟩
  case start => exact ⟨⟨A0, a0, B0, b0, C0, c0, D0, d0, bM, M0, M1, M2, M3⟩, bN, bR, fun i hi => by simp at hi, hB0, by omega⟩
  case assign =>
    intro l x W K hK
    simp only [It.enc]
    gi_wp2
    exact hK
  case done =>
    rintro D ys W hD ⟨pre, x, rfl, hE, hx0⟩ ⟨_, _, _, h4, _, _⟩ hK
    exfalso
    have h1 := h4 pre.length (by simp)
    rw [← hE.2.1] at h1
    simp only [hx0, nl_zero] at h1
    omega
  case stop =>
    rintro D cc pre W hD hP ⟨rfl, ⟨k, hk, hm⟩, hB, hs6⟩ hK
    obtain ⟨X0, x0, X1, x1, X2, x2, X3, x3, hbox, n0, n1, n2, n3⟩ := hm
    gi_wp2_with (fail)
    have hg := grownBy_putObj' W D (.deferred none)
    have hr : ∀ r, some D = some r → ∃ o : Obj, W.heap[r]? = some o ∧ o.isCells = false := fun r e => by cases e; exact ⟨_, hK, rfl⟩
    have hbox' := hbox.kept hg hr
    have N0 := n0.kept hg hr
    have N1 := n1.kept hg hr
    have N2 := n2.kept hg hr
    have N3 := n3.kept hg hr
    have e0 := hbox'.c (i := 0) rfl
    have e1 := hbox'.c (i := 1) rfl
    have e2 := hbox'.c (i := 2) rfl
    have e3 := hbox'.c (i := 3) rfl
    have e4 := hbox'.c (i := 4) rfl
    have e5 := hbox'.c (i := 5) rfl
    have e6 := hbox'.c (i := 6) rfl
    have e7 := hbox'.c (i := 7) rfl
    have hp : Below s w (W.putObj D (.deferred none)) := hB.trans (belowK_b (w := W8) (by omega) W D _ _ hD hK rfl rfl)
    refine ⟨by simp, .inl ⟨_, _, rfl, run_takeDeferred hK, ?_⟩⟩
    refine ⟨.agg #[.bool (sg (eum a b k).a), .slice X0 (nl (mg (eum a b k).a)) x0, .bool (sg (eum a b k).b), .slice X1 (nl (mg (eum a b k).b)) x1, .bool (sg (eum a b k).c), .slice X2 (nl (mg (eum a b k).c)) x2, .bool (sg (eum a b k).d), .slice X3 (nl (mg (eum a b k).d)) x3], by simp [results, Tryd.results64, go_sem, e0, e1, e2, e3, e4, e5, e6, e7], ?_⟩
    exact ⟨eum a b k, eum_U a b k, eum_sz (by omega) (by omega) (by omega) k hk, X0, x0, X1, x1, X2, x2, X3, x3, rfl, N0, N1, N2, N3, hp.mono (Nat.le_of_eq HS.out.symm)⟩
  case body =>
    rintro l pre ⟨XA, xc, xa, YA, yd, yb⟩ W ⟨hM, hN, hR, hlen, hB, hs6⟩ hE
    obtain ⟨⟨hX, hY⟩, hxy, hnz⟩ := hE
    simp only at hX hY hxy
    obtain ⟨X0, x0, X1, x1, X2, x2, X3, x3, hbox, N0, N1, N2, N3⟩ := hM
    have hL := euc_nl la lb pre.length
    rw [← hxy] at hL
    simp only at hL
    have hyb : yb = (euc a b pre.length).2 := by rw [← hxy]
    have hxa : xa = (euc a b pre.length).1 := by rw [← hxy]
    replace hxy := Lib.hid hxy
    obtain ⟨n1, En1⟩ : ∃ z : Int, z = (n : Int) + 1 := ⟨_, rfl⟩
    have In1 : (n : Int) + 1 = n1 := En1.symm
    have Wn1 : IntKind.i64.wrap n1 = n1 := IntWalk.i64_in _ (by omega)
    have qn := hN.c (i := 0) rfl
    have q0 := hbox.c (i := 0) rfl
    have q1 := hbox.c (i := 1) rfl
    have q2 := hbox.c (i := 2) rfl
    have q3 := hbox.c (i := 3) rfl
    have q4 := hbox.c (i := 4) rfl
    have q5 := hbox.c (i := 5) rfl
    have q6 := hbox.c (i := 6) rfl
    have q7 := hbox.c (i := 7) rfl
    by_cases hy : nl yb ≤ n + 1
    · have t1 : decide ((nl yb : Int) ≤ n1) = true := by simp; omega
      replace En1 := Lib.hid En1
      replace hyb := Lib.hid hyb
      replace hxa := Lib.hid hxa
      replace hy := Lib.hid hy
      have fz0 := hR.f (i := 0)
      have cz_0 := hR.c (i := 0) rfl
      have fz1 := hR.f (i := 1)
      have cz_1 := hR.c (i := 1) rfl
      have fz2 := hR.f (i := 2)
      have cz_2 := hR.c (i := 2) rfl
      have fz3 := hR.f (i := 3)
      have cz_3 := hR.c (i := 3) rfl
      have fz4 := hR.f (i := 4)
      have cz_4 := hR.c (i := 4) rfl
      have fz5 := hR.f (i := 5)
      have cz_5 := hR.c (i := 5) rfl
      have fz6 := hR.f (i := 6)
      have cz_6 := hR.c (i := 6) rfl
      have fz7 := hR.f (i := 7)
      have cz_7 := hR.c (i := 7) rfl
      gi_wp2_with (fail)
      exact ⟨ko_far hR size8 (fun j hj => set8_far j hj), kpu_far hR (lista8 _ rfl) (fun j hj => set8_far j hj) (by omega) (by omega), rfl, ⟨pre.length, hnz, X0, x0, X1, x1, X2, x2, X3, x3, hR.store8 _ _ _ _ _ _ _ _, hR.keep8 (lista8 _ rfl) N0, hR.keep8 (lista8 _ rfl) N1, hR.keep8 (lista8 _ rfl) N2, hR.keep8 (lista8 _ rfl) N3⟩, Below.st8 hB (Nat.le_refl _), by rw [size8]; exact hs6⟩
    · have t1 : decide ((nl yb : Int) ≤ n1) = false := by simp; omega
      have hy0 : 0 < yb := by rcases Nat.eq_zero_or_pos yb with z | z; (rw [z, nl_zero] at hy; omega); exact z
      have hy1 : n + 1 < nl yb := by omega
      replace En1 := Lib.hid En1
      replace hyb := Lib.hid hyb
      replace hxa := Lib.hid hxa
      clear hy
      have CD := ddivmod_c XA xc xa YA yd yb W hX hY (by omega) (by omega) hy0
      obtain ⟨q, Eq⟩ : ∃ z, z = xa / yb := ⟨_, rfl⟩
      rw [← Eq] at CD
      have hq : nl q ≤ 8192 := by rw [Eq]; exact Nat.le_trans (nl_div _ _) hL.1
      obtain ⟨m, Em⟩ : ∃ z, z = eum a b pre.length := ⟨_, rfl⟩
      rw [← Em] at hbox N0 N1 N2 N3 q0 q1 q2 q3 q4 q5 q6 q7
      have hms : m.sz 16384 := by rw [Em]; exact (eum_sz (L := 8192) la lb (by decide) _ hnz).mono (by decide)
      have hnx : eum a b (pre.length + 1) = m.nx q := by rw [Em, Eq, hxa.out, hyb.out]; rfl
      replace Eq := Lib.hid Eq
      replace Em := Lib.hid Em
      replace hnx := Lib.hid hnx
      replace CD := Lib.hid CD
      gi_wp2_with (fail)
      refine ⟨trivial, ?_⟩
      refine (callsIn_wide.2 CD.out).mono ?_
      rintro e W2 ⟨Q, cq, R, cr, rfl, hQ, hRr, hb2⟩
      have hbox2 := hbox.below hb2
      have K0 := N0.below hb2
      have K1 := N1.below hb2
      have K2 := N2.below hb2
      have K3 := N3.below hb2
      have hB2 : Below s w W2 := hB.trans (hb2.mono (by omega))
      have q0 := hbox2.c (i := 0) rfl
      have q1 := hbox2.c (i := 1) rfl
      have q2 := hbox2.c (i := 2) rfl
      have q3 := hbox2.c (i := 3) rfl
      have q4 := hbox2.c (i := 4) rfl
      have q5 := hbox2.c (i := 5) rfl
      have q6 := hbox2.c (i := 6) rfl
      have q7 := hbox2.c (i := 7) rfl
      have CT := then_c X0 x0 X1 x1 X2 x2 X3 x3 m Q cq q W2 K0 K1 K2 K3 hQ (hsw.out _ hB2) hms (by omega)
      replace CT := Lib.hid CT
      gi_wp2_with (fail)
      refine ⟨trivial, ?_⟩
      refine (callsIn_wide.2 CT.out).mono ?_
      rintro e W3 ⟨Y0, y0, Y1, y1, Y2, y2, Y3, y3, rfl, V0, V1, V2, V3, hb3⟩
      have hbox3 := hbox2.below hb3
      have fz0 := hbox3.f (i := 0)
      have cz_0 := hbox3.c (i := 0) rfl
      have fz1 := hbox3.f (i := 1)
      have cz_1 := hbox3.c (i := 1) rfl
      have fz2 := hbox3.f (i := 2)
      have cz_2 := hbox3.c (i := 2) rfl
      have fz3 := hbox3.f (i := 3)
      have cz_3 := hbox3.c (i := 3) rfl
      have fz4 := hbox3.f (i := 4)
      have cz_4 := hbox3.c (i := 4) rfl
      have fz5 := hbox3.f (i := 5)
      have cz_5 := hbox3.c (i := 5) rfl
      have fz6 := hbox3.f (i := 6)
      have cz_6 := hbox3.c (i := 6) rfl
      have fz7 := hbox3.f (i := 7)
      have cz_7 := hbox3.c (i := 7) rfl
      gi_wp2_with (fail)
      have hlen2 : ∀ i, i < (pre ++ [(⟨XA, xc, xa, YA, yd, yb⟩ : It)]).length → n + 1 < nl (euc a b i).2 := by
        intro i hi
        simp only [List.length_append, List.length_cons, List.length_nil] at hi
        by_cases e : i = pre.length
        · rw [e, ← hyb.out]; exact hy1
        · exact hlen i (by omega)
      have hN3 : BoxA W3 (p + 1) 3 #[.int .i64 (n : Int)] := (hN.below hb2).below hb3
      have hR3 := (hR.below hb2).below hb3
      refine ⟨(ko_below hb2).trans ((ko_below hb3).trans (ko_far hbox3 size8 (fun j hj => set8_far j hj))), (kpu_below hb2).t ((kpu_below hb3).t (kpu_far hbox3 (lista8 _ rfl) (fun j hj => set8_far j hj) (by omega) (by omega))), ?_, hN3.far8 (by omega), hR3.far8 (by omega), hlen2, Below.st8 (hB2.trans (hb3.mono (by have := hb2.size; omega))) (by omega), by rw [size8]; exact Nat.le_trans hs6 (Nat.le_trans hb2.size hb3.size)⟩
      rw [List.length_append, List.length_cons, List.length_nil, hnx.out]
      exact ⟨Y0, y0, Y1, y1, Y2, y2, Y3, y3, hbox3.store8 _ _ _ _ _ _ _ _, hbox3.keep8 (lista8 _ rfl) V0, hbox3.keep8 (lista8 _ rfl) V1, hbox3.keep8 (lista8 _ rfl) V2, hbox3.keep8 (lista8 _ rfl) V3⟩
end Go.Proofs.YthcmoimlnhghcaaDoor
