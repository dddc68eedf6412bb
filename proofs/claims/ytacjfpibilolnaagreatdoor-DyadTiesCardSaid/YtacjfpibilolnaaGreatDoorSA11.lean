/- A quotient rounded. -/
import Derived.Test.YtacjfpibilolnaaGreatDoorSA10
set_option linter.unusedVariables false
set_option linter.unusedSimpArgs false
namespace Go.Proofs.YtacjfpibilolnaaGreatDoor
open Go.RowKit Go.Shelf
attribute [local go_sem] max2_i min2_i max_two min_two

set_option maxRecDepth 100000 in
theorem way_idx0 (W : World) : (Instr.index 81 (.agg #[.func (.func 99) #[] #[], .func (.func 100) #[] #[], .func (.func 101) #[] #[], .func (.func 102) #[] #[], .func (.func 103) #[] #[]]) (.int .i64 0)).run Tryz.prog W = .ok (.agg #[.func (.func 99) #[] #[]]) W := by rfl
set_option maxRecDepth 100000 in
theorem way_fld0 (W : World) : (Instr.field 80 (.agg #[.func (.func 99) #[] #[]]) 0).run Tryz.prog W = .ok (.func (.func 99) #[] #[]) W := by rfl
set_option maxRecDepth 100000 in
theorem way_idx1 (W : World) : (Instr.index 81 (.agg #[.func (.func 99) #[] #[], .func (.func 100) #[] #[], .func (.func 101) #[] #[], .func (.func 102) #[] #[], .func (.func 103) #[] #[]]) (.int .i64 1)).run Tryz.prog W = .ok (.agg #[.func (.func 100) #[] #[]]) W := by rfl
set_option maxRecDepth 100000 in
theorem way_fld1 (W : World) : (Instr.field 80 (.agg #[.func (.func 100) #[] #[]]) 0).run Tryz.prog W = .ok (.func (.func 100) #[] #[]) W := by rfl
set_option maxRecDepth 100000 in
theorem way_idx2 (W : World) : (Instr.index 81 (.agg #[.func (.func 99) #[] #[], .func (.func 100) #[] #[], .func (.func 101) #[] #[], .func (.func 102) #[] #[], .func (.func 103) #[] #[]]) (.int .i64 2)).run Tryz.prog W = .ok (.agg #[.func (.func 101) #[] #[]]) W := by rfl
set_option maxRecDepth 100000 in
theorem way_fld2 (W : World) : (Instr.field 80 (.agg #[.func (.func 101) #[] #[]]) 0).run Tryz.prog W = .ok (.func (.func 101) #[] #[]) W := by rfl
set_option maxRecDepth 100000 in
theorem way_idx3 (W : World) : (Instr.index 81 (.agg #[.func (.func 99) #[] #[], .func (.func 100) #[] #[], .func (.func 101) #[] #[], .func (.func 102) #[] #[], .func (.func 103) #[] #[]]) (.int .i64 3)).run Tryz.prog W = .ok (.agg #[.func (.func 102) #[] #[]]) W := by rfl
set_option maxRecDepth 100000 in
theorem way_fld3 (W : World) : (Instr.field 80 (.agg #[.func (.func 102) #[] #[]]) 0).run Tryz.prog W = .ok (.func (.func 102) #[] #[]) W := by rfl
set_option maxRecDepth 100000 in
theorem way_idx4 (W : World) : (Instr.index 81 (.agg #[.func (.func 99) #[] #[], .func (.func 100) #[] #[], .func (.func 101) #[] #[], .func (.func 102) #[] #[], .func (.func 103) #[] #[]]) (.int .i64 4)).run Tryz.prog W = .ok (.agg #[.func (.func 103) #[] #[]]) W := by rfl
set_option maxRecDepth 100000 in
theorem way_fld4 (W : World) : (Instr.field 80 (.agg #[.func (.func 103) #[] #[]]) 0).run Tryz.prog W = .ok (.func (.func 103) #[] #[]) W := by rfl
/-- The way of a direction: where it lies in the row of ways, and what it says. -/
theorem way_at (dr : Int) (h0 : 0 ≤ dr) (h4 : dr ≤ 4) : ∃ fn : Nat, (fn = 99 ∨ fn = 100 ∨ fn = 101 ∨ fn = 102 ∨ fn = 103) ∧ (∀ W : World, (Instr.index 81 (.agg #[.func (.func 99) #[] #[], .func (.func 100) #[] #[], .func (.func 101) #[] #[], .func (.func 102) #[] #[], .func (.func 103) #[] #[]]) (.int .i64 dr)).run Tryz.prog W = .ok (.agg #[.func (.func fn) #[] #[]]) W) ∧
    (∀ W : World, (Instr.field 80 (.agg #[.func (.func fn) #[] #[]]) 0).run Tryz.prog W = .ok (.func (.func fn) #[] #[]) W) ∧
    (∀ (neg odd : Bool) (h b : Int) (w : World), Calls Tryz.prog fn #[.bool neg, .bool odd, .int .i64 (icmp h b)] w fun e w' => e = .returned (.bool (upw neg odd (h - b) dr)) ∧ Below w.heap.size w w') := by
  obtain rfl | rfl | rfl | rfl | rfl : dr = 0 ∨ dr = 1 ∨ dr = 2 ∨ dr = 3 ∨ dr = 4 := by omega
  · exact ⟨99, Or.inl rfl, way_idx0, way_fld0, way1_c⟩
  · exact ⟨100, Or.inr (Or.inl rfl), way_idx1, way_fld1, way2_c⟩
  · exact ⟨101, Or.inr (Or.inr (Or.inl rfl)), way_idx2, way_fld2, way3_c⟩
  · exact ⟨102, Or.inr (Or.inr (Or.inr (Or.inl rfl))), way_idx3, way_fld3, way4_c⟩
  · exact ⟨103, Or.inr (Or.inr (Or.inr (Or.inr rfl))), way_idx4, way_fld4, way5_c⟩
set_option maxRecDepth 100000 in
set_option maxHeartbeats 1000000 in
theorem over_z (aA : Option Addr) (ac : Nat) (a : Int) (bA : Option Addr) (bc : Nat) (b : Int) (dr : Int) (w : World) (ha : NatV w aA ac (mg a)) (hb : NatV w bA bc (mg b))  (d0 : 0 ≤ dr) (d4 : dr ≤ 4) (la : nl (mg a) ≤ 1000000) (lb : nl (mg b) ≤ 1000000) (hb0 : 0 < b) (h0 : a % b = 0) :
    Calls Tryz.prog 65 #[.agg #[.bool (sg a), .slice aA (nl (mg a)) ac], .agg #[.bool (sg b), .slice bA (nl (mg b)) bc], .int .i64 dr] w (RetI w (ovr a b dr)) := by
  have lr0 := rest_le (a := a) hb0
  have lq0 := quo_le a b
  have ld0 := dbl_le (r := a % b)
  have hov : ovr a b dr = a / b := by unfold ovr; rw [if_pos h0]
  replace hov := Lib.hid hov
  replace h0 := Lib.hid h0
  have hb1 : Below (w).heap.size (w) (((w.alloc (.cells #[.bool (sg a), .slice aA (nl (mg a)) ac] 24)).alloc (.cells #[.bool (sg b), .slice bA (nl (mg b)) bc] 24)).alloc (.cells #[.bool false, .slice none 0 0] 24)) := (Below.alloc (Below.alloc (Below.alloc (Below.refl _ _) (Nat.le_refl _) _) (by simp <;> omega) _) (by simp <;> omega) _)
  replace ha := ha.below hb1
  replace hb := hb.below hb1
  have HBT := hb1
  clear hb1
  have Ra : BoxA (((w.alloc (.cells #[.bool (sg a), .slice aA (nl (mg a)) ac] 24)).alloc (.cells #[.bool (sg b), .slice bA (nl (mg b)) bc] 24)).alloc (.cells #[.bool false, .slice none 0 0] 24)) w.heap.size 24 #[.bool (sg a), .slice aA (nl (mg a)) ac] := ⟨by repeat (first | exact at_new (by first | (simp; done) | (simp; omega)) | refine at_old (by first | (simp; done) | (simp; omega)) ?_)⟩
  have qa0 := Ra.c (i := 0) rfl
  have qa1 := Ra.c (i := 1) rfl
  have Rb : BoxA (((w.alloc (.cells #[.bool (sg a), .slice aA (nl (mg a)) ac] 24)).alloc (.cells #[.bool (sg b), .slice bA (nl (mg b)) bc] 24)).alloc (.cells #[.bool false, .slice none 0 0] 24)) (w.heap.size + 1) 24 #[.bool (sg b), .slice bA (nl (mg b)) bc] := ⟨by repeat (first | exact at_new (by first | (simp; done) | (simp; omega)) | refine at_old (by first | (simp; done) | (simp; omega)) ?_)⟩
  have qb0 := Rb.c (i := 0) rfl
  have qb1 := Rb.c (i := 1) rfl
  have Rr : BoxA (((w.alloc (.cells #[.bool (sg a), .slice aA (nl (mg a)) ac] 24)).alloc (.cells #[.bool (sg b), .slice bA (nl (mg b)) bc] 24)).alloc (.cells #[.bool false, .slice none 0 0] 24)) (w.heap.size + 1 + 1) 24 #[.bool false, .slice none 0 0] := ⟨by repeat (first | exact at_new (by first | (simp; done) | (simp; omega)) | refine at_old (by first | (simp; done) | (simp; omega)) ?_)⟩
  have qr0 := Rr.c (i := 0) rfl
  have qr1 := Rr.c (i := 1) rfl
  go_enter Tryz.func65, Tryz.ntmps65
  go_wp2_with (fail)
  obtain ⟨q, Eq⟩ : ∃ zq : Int, zq = a / b := ⟨_, rfl⟩
  have lq : nl (mg q) ≤ 1000000 := by rw [Eq]; omega
  obtain ⟨m, Em⟩ : ∃ zq : Int, zq = a % b := ⟨_, rfl⟩
  have lm : nl (mg m) ≤ 1000000 := by rw [Em]; omega
  have dm2 : nl (mg (2 * m)) ≤ 1000001 := by rw [Em]; omega
  have CT2 := (idiv_c aA ac a bA bc b _ ha hb (by omega) (by omega) (by omega))
  rw [← Eq, ← Em] at CT2
  replace Eq := Lib.hid Eq
  replace Em := Lib.hid Em
  replace CT2 := Lib.hid CT2
  refine (Calls.mono CT2.out ?_)
  clear CT2
  rintro e W2 ⟨Xq, cq, Xm, cm, rfl, hq, hm, hb2⟩
  replace ha := ha.below hb2
  replace hb := hb.below hb2
  replace Ra := Ra.below hb2
  replace qa0 := cell_below hb2 qa0
  replace qa1 := cell_below hb2 qa1
  replace Rb := Rb.below hb2
  replace qb0 := cell_below hb2 qb0
  replace qb1 := cell_below hb2 qb1
  replace Rr := Rr.below hb2
  replace qr0 := cell_below hb2 qr0
  replace qr1 := cell_below hb2 qr1
  replace HBT := Below.cons HBT hb2
  clear hb2
  clear lr0 lq0 ld0
  have szr := Rr.lt
  go_wp2_with (fail)
  have hb3 : Below (W2).heap.size (W2) ((W2.alloc (.cells #[.bool (sg q), .slice Xq (nl (mg q)) cq] 24)).alloc (.cells #[.bool (sg m), .slice Xm (nl (mg m)) cm] 24)) := (Below.alloc (Below.alloc (Below.refl _ _) (Nat.le_refl _) _) (by simp <;> omega) _)
  replace ha := ha.below hb3
  replace hb := hb.below hb3
  replace Ra := Ra.below hb3
  replace qa0 := cell_below hb3 qa0
  replace qa1 := cell_below hb3 qa1
  replace Rb := Rb.below hb3
  replace qb0 := cell_below hb3 qb0
  replace qb1 := cell_below hb3 qb1
  replace Rr := Rr.below hb3
  replace qr0 := cell_below hb3 qr0
  replace qr1 := cell_below hb3 qr1
  replace hq := hq.below hb3
  replace hm := hm.below hb3
  replace HBT := Below.cons HBT hb3
  clear hb3
  have Rq : BoxA ((W2.alloc (.cells #[.bool (sg q), .slice Xq (nl (mg q)) cq] 24)).alloc (.cells #[.bool (sg m), .slice Xm (nl (mg m)) cm] 24)) W2.heap.size 24 #[.bool (sg q), .slice Xq (nl (mg q)) cq] := ⟨by repeat (first | exact at_new (by first | (simp; done) | (simp; omega)) | refine at_old (by first | (simp; done) | (simp; omega)) ?_)⟩
  have qq0 := Rq.c (i := 0) rfl
  have qq1 := Rq.c (i := 1) rfl
  have Rm : BoxA ((W2.alloc (.cells #[.bool (sg q), .slice Xq (nl (mg q)) cq] 24)).alloc (.cells #[.bool (sg m), .slice Xm (nl (mg m)) cm] 24)) (W2.heap.size + 1) 24 #[.bool (sg m), .slice Xm (nl (mg m)) cm] := ⟨by repeat (first | exact at_new (by first | (simp; done) | (simp; omega)) | refine at_old (by first | (simp; done) | (simp; omega)) ?_)⟩
  have qm0 := Rm.c (i := 0) rfl
  have qm1 := Rm.c (i := 1) rfl
  have hsg : m.sign = 0 := by rw [Em.out, h0.out]; rfl
  have CG := isign_c Xm cm m ((W2.alloc (.cells #[.bool (sg q), .slice Xq (nl (mg q)) cq] 24)).alloc (.cells #[.bool (sg m), .slice Xm (nl (mg m)) cm] 24))
  rw [hsg] at CG
  replace hsg := Lib.hid hsg
  refine (Calls.mono (CG) ?_)
  rintro e W4 ⟨rfl, hb4⟩
  replace ha := ha.below hb4
  replace hb := hb.below hb4
  replace Ra := Ra.below hb4
  replace qa0 := cell_below hb4 qa0
  replace qa1 := cell_below hb4 qa1
  replace Rb := Rb.below hb4
  replace qb0 := cell_below hb4 qb0
  replace qb1 := cell_below hb4 qb1
  replace Rr := Rr.below hb4
  replace qr0 := cell_below hb4 qr0
  replace qr1 := cell_below hb4 qr1
  replace hq := hq.below hb4
  replace hm := hm.below hb4
  replace Rq := Rq.below hb4
  replace qq0 := cell_below hb4 qq0
  replace qq1 := cell_below hb4 qq1
  replace Rm := Rm.below hb4
  replace qm0 := cell_below hb4 qm0
  replace qm1 := cell_below hb4 qm1
  replace HBT := Below.cons HBT hb4
  clear hb4
  have fzr0 := Rr.f (i := 0)
  have fzr1 := Rr.f (i := 1)
  go_wp2_with (fail)
  have hzq : q = ovr a b dr := by rw [Eq.out, hov.out]
  subst hzq
  have RS := Rr.store2 (.bool (sg ((ovr a b dr)))) (.slice Xq (nl (mg ((ovr a b dr)))) cq)
  have e0 := RS.c (i := 0) rfl
  have e1 := RS.c (i := 1) rfl
  refine bodyPost_ret (v := .agg #[.bool (sg ((ovr a b dr))), .slice Xq (nl (mg ((ovr a b dr)))) cq]) (by simp [results, Tryz.results65, go_sem, e0, e1]) rfl ?_
  exact ⟨Xq, cq, rfl, (Rr.keep2 (by intro u hu; simp at hu; rcases hu with rfl | rfl <;> first | exact notU_bool _ | exact notU_slice _ _ _ | exact notU_i64 _) hq), (Below.store2 HBT (by first | exact Nat.le_refl _ | omega))⟩
set_option maxRecDepth 100000 in
set_option maxHeartbeats 1000000 in
theorem over_q (aA : Option Addr) (ac : Nat) (a : Int) (bA : Option Addr) (bc : Nat) (b : Int) (dr : Int) (w : World) (ha : NatV w aA ac (mg a)) (hb : NatV w bA bc (mg b))  (d0 : 0 ≤ dr) (d4 : dr ≤ 4) (la : nl (mg a) ≤ 1000000) (lb : nl (mg b) ≤ 1000000) (hb0 : 0 < b) (h0 : a % b ≠ 0) (h1 : a / b = 0) :
    Calls Tryz.prog 65 #[.agg #[.bool (sg a), .slice aA (nl (mg a)) ac], .agg #[.bool (sg b), .slice bA (nl (mg b)) bc], .int .i64 dr] w (RetI w (ovr a b dr)) := by
  have lr0 := rest_le (a := a) hb0
  have lq0 := quo_le a b
  have ld0 := dbl_le (r := a % b)
  have hov : ovr a b dr = if upw (sg a) (decide (a / b % 2 = 1)) (2 * (a % b) - b) dr then a / b + 1 else a / b := by unfold ovr; rw [if_neg h0]
  replace hov := Lib.hid hov
  replace h0 := Lib.hid h0
  replace h1 := Lib.hid h1
  have hb1 : Below (w).heap.size (w) (((w.alloc (.cells #[.bool (sg a), .slice aA (nl (mg a)) ac] 24)).alloc (.cells #[.bool (sg b), .slice bA (nl (mg b)) bc] 24)).alloc (.cells #[.bool false, .slice none 0 0] 24)) := (Below.alloc (Below.alloc (Below.alloc (Below.refl _ _) (Nat.le_refl _) _) (by simp <;> omega) _) (by simp <;> omega) _)
  replace ha := ha.below hb1
  replace hb := hb.below hb1
  have HBT := hb1
  clear hb1
  have Ra : BoxA (((w.alloc (.cells #[.bool (sg a), .slice aA (nl (mg a)) ac] 24)).alloc (.cells #[.bool (sg b), .slice bA (nl (mg b)) bc] 24)).alloc (.cells #[.bool false, .slice none 0 0] 24)) w.heap.size 24 #[.bool (sg a), .slice aA (nl (mg a)) ac] := ⟨by repeat (first | exact at_new (by first | (simp; done) | (simp; omega)) | refine at_old (by first | (simp; done) | (simp; omega)) ?_)⟩
  have qa0 := Ra.c (i := 0) rfl
  have qa1 := Ra.c (i := 1) rfl
  have Rb : BoxA (((w.alloc (.cells #[.bool (sg a), .slice aA (nl (mg a)) ac] 24)).alloc (.cells #[.bool (sg b), .slice bA (nl (mg b)) bc] 24)).alloc (.cells #[.bool false, .slice none 0 0] 24)) (w.heap.size + 1) 24 #[.bool (sg b), .slice bA (nl (mg b)) bc] := ⟨by repeat (first | exact at_new (by first | (simp; done) | (simp; omega)) | refine at_old (by first | (simp; done) | (simp; omega)) ?_)⟩
  have qb0 := Rb.c (i := 0) rfl
  have qb1 := Rb.c (i := 1) rfl
  have Rr : BoxA (((w.alloc (.cells #[.bool (sg a), .slice aA (nl (mg a)) ac] 24)).alloc (.cells #[.bool (sg b), .slice bA (nl (mg b)) bc] 24)).alloc (.cells #[.bool false, .slice none 0 0] 24)) (w.heap.size + 1 + 1) 24 #[.bool false, .slice none 0 0] := ⟨by repeat (first | exact at_new (by first | (simp; done) | (simp; omega)) | refine at_old (by first | (simp; done) | (simp; omega)) ?_)⟩
  have qr0 := Rr.c (i := 0) rfl
  have qr1 := Rr.c (i := 1) rfl
  go_enter Tryz.func65, Tryz.ntmps65
  go_wp2_with (fail)
  obtain ⟨q, Eq⟩ : ∃ zq : Int, zq = a / b := ⟨_, rfl⟩
  have lq : nl (mg q) ≤ 1000000 := by rw [Eq]; omega
  obtain ⟨m, Em⟩ : ∃ zq : Int, zq = a % b := ⟨_, rfl⟩
  have lm : nl (mg m) ≤ 1000000 := by rw [Em]; omega
  have dm2 : nl (mg (2 * m)) ≤ 1000001 := by rw [Em]; omega
  have CT2 := (idiv_c aA ac a bA bc b _ ha hb (by omega) (by omega) (by omega))
  rw [← Eq, ← Em] at CT2
  replace Eq := Lib.hid Eq
  replace Em := Lib.hid Em
  replace CT2 := Lib.hid CT2
  refine (Calls.mono CT2.out ?_)
  clear CT2
  rintro e W2 ⟨Xq, cq, Xm, cm, rfl, hq, hm, hb2⟩
  replace ha := ha.below hb2
  replace hb := hb.below hb2
  replace Ra := Ra.below hb2
  replace qa0 := cell_below hb2 qa0
  replace qa1 := cell_below hb2 qa1
  replace Rb := Rb.below hb2
  replace qb0 := cell_below hb2 qb0
  replace qb1 := cell_below hb2 qb1
  replace Rr := Rr.below hb2
  replace qr0 := cell_below hb2 qr0
  replace qr1 := cell_below hb2 qr1
  replace HBT := Below.cons HBT hb2
  clear hb2
  clear lr0 lq0 ld0
  have szr := Rr.lt
  go_wp2_with (fail)
  have hb3 : Below (W2).heap.size (W2) ((W2.alloc (.cells #[.bool (sg q), .slice Xq (nl (mg q)) cq] 24)).alloc (.cells #[.bool (sg m), .slice Xm (nl (mg m)) cm] 24)) := (Below.alloc (Below.alloc (Below.refl _ _) (Nat.le_refl _) _) (by simp <;> omega) _)
  replace ha := ha.below hb3
  replace hb := hb.below hb3
  replace Ra := Ra.below hb3
  replace qa0 := cell_below hb3 qa0
  replace qa1 := cell_below hb3 qa1
  replace Rb := Rb.below hb3
  replace qb0 := cell_below hb3 qb0
  replace qb1 := cell_below hb3 qb1
  replace Rr := Rr.below hb3
  replace qr0 := cell_below hb3 qr0
  replace qr1 := cell_below hb3 qr1
  replace hq := hq.below hb3
  replace hm := hm.below hb3
  replace HBT := Below.cons HBT hb3
  clear hb3
  have Rq : BoxA ((W2.alloc (.cells #[.bool (sg q), .slice Xq (nl (mg q)) cq] 24)).alloc (.cells #[.bool (sg m), .slice Xm (nl (mg m)) cm] 24)) W2.heap.size 24 #[.bool (sg q), .slice Xq (nl (mg q)) cq] := ⟨by repeat (first | exact at_new (by first | (simp; done) | (simp; omega)) | refine at_old (by first | (simp; done) | (simp; omega)) ?_)⟩
  have qq0 := Rq.c (i := 0) rfl
  have qq1 := Rq.c (i := 1) rfl
  have Rm : BoxA ((W2.alloc (.cells #[.bool (sg q), .slice Xq (nl (mg q)) cq] 24)).alloc (.cells #[.bool (sg m), .slice Xm (nl (mg m)) cm] 24)) (W2.heap.size + 1) 24 #[.bool (sg m), .slice Xm (nl (mg m)) cm] := ⟨by repeat (first | exact at_new (by first | (simp; done) | (simp; omega)) | refine at_old (by first | (simp; done) | (simp; omega)) ?_)⟩
  have qm0 := Rm.c (i := 0) rfl
  have qm1 := Rm.c (i := 1) rfl
  have hsg : (m.sign == 0) = false := by have := h0.out; rw [← Em.out] at this; simp; exact this
  obtain ⟨sn, Esn⟩ : ∃ sn, sn = m.sign := ⟨_, rfl⟩
  have CG := isign_c Xm cm m ((W2.alloc (.cells #[.bool (sg q), .slice Xq (nl (mg q)) cq] 24)).alloc (.cells #[.bool (sg m), .slice Xm (nl (mg m)) cm] 24))
  rw [← Esn] at CG hsg
  replace Esn := Lib.hid Esn
  have t1 : decide (0 < ((nl (mg q) : Nat) : Int)) = false := by rw [Eq.out, h1.out, mg0, nl_zero]; rfl
  have t2 : decide (0 < nl (mg q)) = false := by rw [Eq.out, h1.out, mg0, nl_zero]; rfl
  refine (Calls.mono (CG) ?_)
  rintro e W4 ⟨rfl, hb4⟩
  replace ha := ha.below hb4
  replace hb := hb.below hb4
  replace Ra := Ra.below hb4
  replace qa0 := cell_below hb4 qa0
  replace qa1 := cell_below hb4 qa1
  replace Rb := Rb.below hb4
  replace qb0 := cell_below hb4 qb0
  replace qb1 := cell_below hb4 qb1
  replace Rr := Rr.below hb4
  replace qr0 := cell_below hb4 qr0
  replace qr1 := cell_below hb4 qr1
  replace hq := hq.below hb4
  replace hm := hm.below hb4
  replace Rq := Rq.below hb4
  replace qq0 := cell_below hb4 qq0
  replace qq1 := cell_below hb4 qq1
  replace Rm := Rm.below hb4
  replace qm0 := cell_below hb4 qm0
  replace qm1 := cell_below hb4 qm1
  replace HBT := Below.cons HBT hb4
  clear hb4
  go_wp2_with (fail)
  have eod : decide (q % 2 = 1) = false := by rw [Eq.out, h1.out]; rfl
  obtain ⟨m2, Em2⟩ : ∃ z, z = 2 * m := ⟨_, rfl⟩
  rw [← Em2] at dm2
  have CS := fun (W : World) (h1 : NatV W Xm cm (mg m)) => ishift_c Xm cm m 1 W h1 (by omega) (by omega)
  simp only [shf_twice, ← Em2] at CS
  obtain ⟨fn, hfn, wi, wf, CW0⟩ := way_at dr d0 d4
  replace hfn := Lib.hid hfn
  obtain ⟨up, Eup⟩ : ∃ z, z = upw (sg a) false (m2 - b) dr := ⟨_, rfl⟩
  have CW := CW0 (sg a) false m2 b
  rw [← Eup] at CW
  clear CW0
  have hov2 : ovr a b dr = if up = true then q + 1 else q := by rw [hov.out, Eup, Em2, ← Eq.out, ← Em.out, eod]
  replace CS := Lib.hid CS
  replace CW := Lib.hid CW
  replace Em2 := Lib.hid Em2
  replace Eup := Lib.hid Eup
  replace hov2 := Lib.hid hov2
  refine wp_region_inv (fun E a' w' => ∃ (u34 u35 u36 u37 u38 u39 u40 u41 u42 u43 u44 u45 : Value),
    a' = { tmps := #[.agg #[.bool (sg a), .slice aA (nl (mg a)) ac], .agg #[.bool (sg b), .slice bA (nl (mg b)) bc], .int .i64 dr, .pointer (some ⟨w.heap.size, 0, none⟩), .pointer (some ⟨(w.heap.size + 1), 0, none⟩), undef, .pointer (some ⟨(w.heap.size + 1 + 1), 0, none⟩), .pointer (some ⟨W2.heap.size, 0, none⟩), .pointer (some ⟨(W2.heap.size + 1), 0, none⟩), .int .i64 0, .bool false, .tuple #[.agg #[.bool (sg q), .slice Xq (nl (mg q)) cq], .agg #[.bool (sg m), .slice Xm (nl (mg m)) cm], .int .i64 0], .agg #[.bool (sg a), .slice aA (nl (mg a)) ac], .agg #[.bool (sg b), .slice bA (nl (mg b)) bc], .tuple #[.agg #[.bool (sg q), .slice Xq (nl (mg q)) cq], .agg #[.bool (sg m), .slice Xm (nl (mg m)) cm], .int .i64 0], .agg #[.bool (sg q), .slice Xq (nl (mg q)) cq], .agg #[.bool (sg m), .slice Xm (nl (mg m)) cm], .int .i64 0, .agg #[.bool (sg m), .slice Xm (nl (mg m)) cm], .int .i64 sn, .bool false, undef, .pointer (some ⟨W2.heap.size, 1, none⟩), .slice Xq (nl (mg q)) cq, .int .i64 (nl (mg q)), .bool false, .bool false, undef, undef, undef, undef, undef, undef, .bool false, u34, u35, u36, u37, u38, u39, u40, u41, u42, u43, u44, u45, undef, undef, undef, undef], defers := [] } ∧
    (E 0 = true → u34 = (.agg #[.func (.func 99) #[] #[], .func (.func 100) #[] #[], .func (.func 101) #[] #[], .func (.func 102) #[] #[], .func (.func 103) #[] #[]])) ∧
    (E 1 = true → u35 = .int .i64 dr) ∧
    (E 2 = true → u36 = .agg #[.func (.func fn) #[] #[]]) ∧
    (E 3 = true → u37 = .func (.func fn) #[] #[]) ∧
    (E 4 = true → u38 = .pointer (some ⟨w.heap.size, 0, none⟩)) ∧
    (E 5 = true → u39 = .bool (sg a)) ∧
    (E 6 = true → u40 = .bool false) ∧
    (E 7 = true → u41 = .agg #[.bool (sg m), .slice Xm (nl (mg m)) cm]) ∧
    (E 8 = true → PI u42 m2 w') ∧
    (E 9 = true → u43 = .agg #[.bool (sg b), .slice bA (nl (mg b)) bc]) ∧
    (E 10 = true → u44 = .int .i64 (icmp m2 b)) ∧
    (E 11 = true → u45 = .bool up) ∧
    Below W4.heap.size W4 w') (by kernel_rfl) (by kernel_rfl) ?init ?fin ?step
  case init => exact ⟨_, _, _, _, _, _, _, _, _, _, _, _, rfl, by simp, by simp, by simp, by simp, by simp, by simp, by simp, by simp, by simp, by simp, by simp, by simp, (Below.refl _ _).drew⟩
  case step =>
    rintro E a' w' i ⟨u34, u35, u36, u37, u38, u39, u40, u41, u42, u43, u44, u45, rfl, h0, h1, h2, h3, h4, h5, h6, h7, h8, h9, h10, h11, hB⟩ hi hEi hdep
    have qa0 := cell_below hB qa0
    have qa1 := cell_below hB qa1
    have qb0 := cell_below hB qb0
    have qb1 := cell_below hB qb1
    have qm0 := cell_below hB qm0
    have qm1 := cell_below hB qm1
    obtain rfl | rfl | rfl | rfl | rfl | rfl | rfl | rfl | rfl | rfl | rfl | rfl : i = 0 ∨ i = 1 ∨ i = 2 ∨ i = 3 ∨ i = 4 ∨ i = 5 ∨ i = 6 ∨ i = 7 ∨ i = 8 ∨ i = 9 ∨ i = 10 ∨ i = 11 := by simp at hi; omega
    · skip
      refine wpOp_step rfl (fun K' hK' => ?_)
      go_simp
      refine (Calls.mono (ways_c w') ?_)
      rintro e W1 ⟨rfl, kb⟩
      refine hK' _ _ ?_
      exact ⟨_, _, _, _, _, _, _, _, _, _, _, _, rfl, fun _ => rfl, keepD (by decide) h1, keepD (by decide) h2, keepD (by decide) h3, keepD (by decide) h4, keepD (by decide) h5, keepD (by decide) h6, keepD (by decide) h7, keepP (by decide) h8 (fun h => h.below kb), keepD (by decide) h9, keepD (by decide) h10, keepD (by decide) h11, Below.cons hB kb⟩
    · skip
      refine wpOp_step rfl (fun K' hK' => ?_)
      go_simp
      refine hK' _ _ ?_
      exact ⟨_, _, _, _, _, _, _, _, _, _, _, _, rfl, keepD (by decide) h0, fun _ => rfl, keepD (by decide) h2, keepD (by decide) h3, keepD (by decide) h4, keepD (by decide) h5, keepD (by decide) h6, keepD (by decide) h7, keepD (by decide) h8, keepD (by decide) h9, keepD (by decide) h10, keepD (by decide) h11, hB⟩
    · skip
      have d0 := hdep _ rfl ⟨0, .data⟩ (by simp) rfl
      obtain rfl := h0 d0
      have d1 := hdep _ rfl ⟨1, .data⟩ (by simp) rfl
      obtain rfl := h1 d1
      refine wpOp_step rfl (fun K' hK' => ?_)
      go_simp
      refine hK' _ _ ?_
      exact ⟨_, _, _, _, _, _, _, _, _, _, _, _, rfl, keepD (by decide) h0, keepD (by decide) h1, fun _ => rfl, keepD (by decide) h3, keepD (by decide) h4, keepD (by decide) h5, keepD (by decide) h6, keepD (by decide) h7, keepD (by decide) h8, keepD (by decide) h9, keepD (by decide) h10, keepD (by decide) h11, hB⟩
    · skip
      have d2 := hdep _ rfl ⟨2, .data⟩ (by simp) rfl
      obtain rfl := h2 d2
      refine wpOp_step rfl (fun K' hK' => ?_)
      go_simp
      refine hK' _ _ ?_
      exact ⟨_, _, _, _, _, _, _, _, _, _, _, _, rfl, keepD (by decide) h0, keepD (by decide) h1, keepD (by decide) h2, fun _ => rfl, keepD (by decide) h4, keepD (by decide) h5, keepD (by decide) h6, keepD (by decide) h7, keepD (by decide) h8, keepD (by decide) h9, keepD (by decide) h10, keepD (by decide) h11, hB⟩
    · skip
      refine wpOp_step rfl (fun K' hK' => ?_)
      go_simp
      refine hK' _ _ ?_
      exact ⟨_, _, _, _, _, _, _, _, _, _, _, _, rfl, keepD (by decide) h0, keepD (by decide) h1, keepD (by decide) h2, keepD (by decide) h3, fun _ => rfl, keepD (by decide) h5, keepD (by decide) h6, keepD (by decide) h7, keepD (by decide) h8, keepD (by decide) h9, keepD (by decide) h10, keepD (by decide) h11, hB⟩
    · skip
      have d4 := hdep _ rfl ⟨4, .data⟩ (by simp) rfl
      obtain rfl := h4 d4
      refine wpOp_step rfl (fun K' hK' => ?_)
      go_simp
      refine hK' _ _ ?_
      exact ⟨_, _, _, _, _, _, _, _, _, _, _, _, rfl, keepD (by decide) h0, keepD (by decide) h1, keepD (by decide) h2, keepD (by decide) h3, keepD (by decide) h4, fun _ => rfl, keepD (by decide) h6, keepD (by decide) h7, keepD (by decide) h8, keepD (by decide) h9, keepD (by decide) h10, keepD (by decide) h11, hB⟩
    · skip
      refine wpOp_step rfl (fun K' hK' => ?_)
      go_simp
      refine hK' _ _ ?_
      exact ⟨_, _, _, _, _, _, _, _, _, _, _, _, rfl, keepD (by decide) h0, keepD (by decide) h1, keepD (by decide) h2, keepD (by decide) h3, keepD (by decide) h4, keepD (by decide) h5, fun _ => rfl, keepD (by decide) h7, keepD (by decide) h8, keepD (by decide) h9, keepD (by decide) h10, keepD (by decide) h11, hB⟩
    · skip
      refine wpOp_step rfl (fun K' hK' => ?_)
      go_simp
      refine hK' _ _ ?_
      exact ⟨_, _, _, _, _, _, _, _, _, _, _, _, rfl, keepD (by decide) h0, keepD (by decide) h1, keepD (by decide) h2, keepD (by decide) h3, keepD (by decide) h4, keepD (by decide) h5, keepD (by decide) h6, fun _ => rfl, keepD (by decide) h8, keepD (by decide) h9, keepD (by decide) h10, keepD (by decide) h11, hB⟩
    · skip
      have d7 := hdep _ rfl ⟨7, .data⟩ (by simp) rfl
      obtain rfl := h7 d7
      refine wpOp_step rfl (fun K' hK' => ?_)
      go_simp
      refine (Calls.mono (CS.out w' (hm.below hB)) ?_)
      rintro e W1 ⟨Xr, cr, rfl, kr, kb⟩
      refine hK' _ _ ?_
      exact ⟨_, _, _, _, _, _, _, _, _, _, _, _, rfl, keepD (by decide) h0, keepD (by decide) h1, keepD (by decide) h2, keepD (by decide) h3, keepD (by decide) h4, keepD (by decide) h5, keepD (by decide) h6, keepD (by decide) h7, fun _ => ⟨Xr, cr, rfl, kr⟩, keepD (by decide) h9, keepD (by decide) h10, keepD (by decide) h11, Below.cons hB kb⟩
    · skip
      refine wpOp_step rfl (fun K' hK' => ?_)
      go_simp
      refine hK' _ _ ?_
      exact ⟨_, _, _, _, _, _, _, _, _, _, _, _, rfl, keepD (by decide) h0, keepD (by decide) h1, keepD (by decide) h2, keepD (by decide) h3, keepD (by decide) h4, keepD (by decide) h5, keepD (by decide) h6, keepD (by decide) h7, keepD (by decide) h8, fun _ => rfl, keepD (by decide) h10, keepD (by decide) h11, hB⟩
    · skip
      have d8 := hdep _ rfl ⟨8, .data⟩ (by simp) rfl
      obtain ⟨X_8, c_8, rfl, k_8⟩ := h8 d8
      have d9 := hdep _ rfl ⟨9, .data⟩ (by simp) rfl
      obtain rfl := h9 d9
      refine wpOp_step rfl (fun K' hK' => ?_)
      go_simp
      refine (Calls.mono (icmp_c X_8 c_8 m2 bA bc b w' k_8 (hb.below hB) (by omega) (by omega)) ?_)
      rintro e W1 ⟨rfl, kb⟩
      refine hK' _ _ ?_
      exact ⟨_, _, _, _, _, _, _, _, _, _, _, _, rfl, keepD (by decide) h0, keepD (by decide) h1, keepD (by decide) h2, keepD (by decide) h3, keepD (by decide) h4, keepD (by decide) h5, keepD (by decide) h6, keepD (by decide) h7, keepP (by decide) h8 (fun h => h.below kb), keepD (by decide) h9, fun _ => rfl, keepD (by decide) h11, Below.cons hB kb⟩
    · skip
      have d3 := hdep _ rfl ⟨3, .data⟩ (by simp) rfl
      obtain rfl := h3 d3
      have d5 := hdep _ rfl ⟨5, .data⟩ (by simp) rfl
      obtain rfl := h5 d5
      have d6 := hdep _ rfl ⟨6, .data⟩ (by simp) rfl
      obtain rfl := h6 d6
      have d10 := hdep _ rfl ⟨10, .data⟩ (by simp) rfl
      obtain rfl := h10 d10
      rcases hfn.out with rfl | rfl | rfl | rfl | rfl
      all_goals refine wpOp_step rfl (fun K' hK' => ?_)
      all_goals go_simp
      all_goals refine (Calls.mono (CW.out w') ?_)
      all_goals rintro e W1 ⟨rfl, kb⟩
      all_goals refine hK' _ _ ?_
      all_goals exact ⟨_, _, _, _, _, _, _, _, _, _, _, _, rfl, keepD (by decide) h0, keepD (by decide) h1, keepD (by decide) h2, keepD (by decide) h3, keepD (by decide) h4, keepD (by decide) h5, keepD (by decide) h6, keepD (by decide) h7, keepP (by decide) h8 (fun h => h.below kb), keepD (by decide) h9, keepD (by decide) h10, fun _ => rfl, Below.cons hB kb⟩
  case fin =>
    rintro E a' w' ⟨u34, u35, u36, u37, u38, u39, u40, u41, u42, u43, u44, u45, rfl, h0, h1, h2, h3, h4, h5, h6, h7, h8, h9, h10, h11, hB⟩ hall
    replace ha := ha.below hB
    replace hb := hb.below hB
    replace Ra := Ra.below hB
    replace qa0 := cell_below hB qa0
    replace qa1 := cell_below hB qa1
    replace Rb := Rb.below hB
    replace qb0 := cell_below hB qb0
    replace qb1 := cell_below hB qb1
    replace Rr := Rr.below hB
    replace qr0 := cell_below hB qr0
    replace qr1 := cell_below hB qr1
    replace hq := hq.below hB
    replace hm := hm.below hB
    replace Rq := Rq.below hB
    replace qq0 := cell_below hB qq0
    replace qq1 := cell_below hB qq1
    replace Rm := Rm.below hB
    replace qm0 := cell_below hB qm0
    replace qm1 := cell_below hB qm1
    replace HBT := Below.cons HBT hB
    obtain rfl := h11 (hall 11 (by simp))
    clear hall
    cases up
    case false =>
      have fzr0 := Rr.f (i := 0)
      have fzr1 := Rr.f (i := 1)
      go_wp2_with (fail)
      have hzq : q = ovr a b dr := by have := hov2.out; simpa using this.symm
      subst hzq
      have RS := Rr.store2 (.bool (sg ((ovr a b dr)))) (.slice Xq (nl (mg ((ovr a b dr)))) cq)
      have e0 := RS.c (i := 0) rfl
      have e1 := RS.c (i := 1) rfl
      refine bodyPost_ret (v := .agg #[.bool (sg ((ovr a b dr))), .slice Xq (nl (mg ((ovr a b dr)))) cq]) (by simp [results, Tryz.results65, go_sem, e0, e1]) rfl ?_
      exact ⟨Xq, cq, rfl, (Rr.keep2 (by intro u hu; simp at hu; rcases hu with rfl | rfl <;> first | exact notU_bool _ | exact notU_slice _ _ _ | exact notU_i64 _) hq), (Below.store2 HBT (by first | exact Nat.le_refl _ | omega))⟩
    case true =>
      go_wp2_with (fail)
      have hd5 : Below (w').heap.size w' (w').drew := (Below.refl _ _).drew
      replace ha := ha.below hd5
      replace hb := hb.below hd5
      replace Ra := Ra.below hd5
      replace qa0 := cell_below hd5 qa0
      replace qa1 := cell_below hd5 qa1
      replace Rb := Rb.below hd5
      replace qb0 := cell_below hd5 qb0
      replace qb1 := cell_below hd5 qb1
      replace Rr := Rr.below hd5
      replace qr0 := cell_below hd5 qr0
      replace qr1 := cell_below hd5 qr1
      replace hq := hq.below hd5
      replace hm := hm.below hd5
      replace Rq := Rq.below hd5
      replace qq0 := cell_below hd5 qq0
      replace qq1 := cell_below hd5 qq1
      replace Rm := Rm.below hd5
      replace qm0 := cell_below hd5 qm0
      replace qm1 := cell_below hd5 qm1
      replace HBT := Below.cons HBT hd5
      clear hd5
      obtain ⟨o1, Eo1⟩ : ∃ zq : Int, zq = (1 : Int) := ⟨_, rfl⟩
      have No1 : nl (mg o1) ≤ 1 := by rw [Eo1]; exact Nat.le_of_eq nl_one
      have C5_0 := fun (W : World) => (show Calls Tryz.prog 68 #[.int .i64 1] W (RetI W o1) by rw [Eo1]; exact iof1_c W)
      replace Eo1 := Lib.hid Eo1
      replace C5_0 := Lib.hid C5_0
      obtain ⟨y, Ey⟩ : ∃ zq : Int, zq = q + o1 := ⟨_, rfl⟩
      have C5_1 := fun (W : World) (A : Option Addr) (c : Nat) (h1 : NatV W Xq cq (mg q)) (h2 : NatV W A c (mg o1)) => iadd_c Xq cq q A c o1 W h1 h2 (by omega) (by omega)
      simp only [← Ey] at C5_1
      replace Ey := Lib.hid Ey
      replace C5_1 := Lib.hid C5_1
      go_region_held3 (fun W => W.cell? ⟨W2.heap.size, 0, none⟩ = some (.bool (sg q)) ∧ W.cell? ⟨W2.heap.size, 1, none⟩ = some (.slice Xq (nl (mg q)) cq))
        (first
          | exact ⟨qq0, qq1⟩
          | exact ⟨qq0_6, qq1_6⟩
          | exact ⟨qq0_7, qq1_7⟩
          | exact ⟨((Rq_7.other2 (by simp <;> omega)).c (i := 0) rfl), ((Rq_7.other2 (by simp <;> omega)).c (i := 1) rfl)⟩
          | go_keep)
        (first
          | (go_at_call 68; (with_reducible refine (C5_0.out _).mono ?_); rintro e W6 ⟨Xo1, co1, rfl, ho1, hb6⟩; have ha_6 := ha.below hb6; have hb_6 := hb.below hb6; have Ra_6 := Ra.below hb6; have qa0_6 := cell_below hb6 qa0; have qa1_6 := cell_below hb6 qa1; have Rb_6 := Rb.below hb6; have qb0_6 := cell_below hb6 qb0; have qb1_6 := cell_below hb6 qb1; have Rr_6 := Rr.below hb6; have qr0_6 := cell_below hb6 qr0; have qr1_6 := cell_below hb6 qr1; have hq_6 := hq.below hb6; have hm_6 := hm.below hb6; have Rq_6 := Rq.below hb6; have qq0_6 := cell_below hb6 qq0; have qq1_6 := cell_below hb6 qq1; have Rm_6 := Rm.below hb6; have qm0_6 := cell_below hb6 qm0; have qm1_6 := cell_below hb6 qm1; have HBT_6 := Below.cons HBT hb6)
          | (go_at_call 91; (with_reducible refine (C5_1.out _ _ _ hq_6 ho1).mono ?_); rintro e W7 ⟨Xy, cy, rfl, hy, hb7⟩; have ha_7 := ha_6.below hb7; have hb_7 := hb_6.below hb7; have Ra_7 := Ra_6.below hb7; have qa0_7 := cell_below hb7 qa0_6; have qa1_7 := cell_below hb7 qa1_6; have Rb_7 := Rb_6.below hb7; have qb0_7 := cell_below hb7 qb0_6; have qb1_7 := cell_below hb7 qb1_6; have Rr_7 := Rr_6.below hb7; have qr0_7 := cell_below hb7 qr0_6; have qr1_7 := cell_below hb7 qr1_6; have hq_7 := hq_6.below hb7; have hm_7 := hm_6.below hb7; have Rq_7 := Rq_6.below hb7; have qq0_7 := cell_below hb7 qq0_6; have qq1_7 := cell_below hb7 qq1_6; have Rm_7 := Rm_6.below hb7; have qm0_7 := cell_below hb7 qm0_6; have qm1_7 := cell_below hb7 qm1_6; have ho1_7 := ho1.below hb7; have HBT_7 := Below.cons HBT_6 hb7; have fz0 := Rr_7.f (i := 0); have fz1 := Rr_7.f (i := 1)))
      all_goals (try go_wp2_with (fail))
      have hzy : y = ovr a b dr := by rw [Ey.out, Eo1.out]; have := hov2.out; simpa using this.symm
      subst hzy
      have RS := Rr_7.store2 (.bool (sg ((ovr a b dr)))) (.slice Xy (nl (mg ((ovr a b dr)))) cy)
      have e0 := RS.c (i := 0) rfl
      have e1 := RS.c (i := 1) rfl
      refine bodyPost_ret (v := .agg #[.bool (sg ((ovr a b dr))), .slice Xy (nl (mg ((ovr a b dr)))) cy]) (by simp [results, Tryz.results65, go_sem, e0, e1]) rfl ?_
      exact ⟨Xy, cy, rfl, (Rr_7.keep2 (by intro u hu; simp at hu; rcases hu with rfl | rfl <;> first | exact notU_bool _ | exact notU_slice _ _ _ | exact notU_i64 _) hy), (Below.store2 HBT_7 (by first | exact Nat.le_refl _ | omega))⟩
set_option maxRecDepth 100000 in
set_option maxHeartbeats 1000000 in
theorem over_n (aA : Option Addr) (ac : Nat) (a : Int) (bA : Option Addr) (bc : Nat) (b : Int) (dr : Int) (w : World) (ha : NatV w aA ac (mg a)) (hb : NatV w bA bc (mg b))  (d0 : 0 ≤ dr) (d4 : dr ≤ 4) (la : nl (mg a) ≤ 1000000) (lb : nl (mg b) ≤ 1000000) (hb0 : 0 < b) (h0 : a % b ≠ 0) (h1 : a / b ≠ 0) :
    Calls Tryz.prog 65 #[.agg #[.bool (sg a), .slice aA (nl (mg a)) ac], .agg #[.bool (sg b), .slice bA (nl (mg b)) bc], .int .i64 dr] w (RetI w (ovr a b dr)) := by
  have lr0 := rest_le (a := a) hb0
  have lq0 := quo_le a b
  have ld0 := dbl_le (r := a % b)
  have hov : ovr a b dr = if upw (sg a) (decide (a / b % 2 = 1)) (2 * (a % b) - b) dr then a / b + 1 else a / b := by unfold ovr; rw [if_neg h0]
  replace hov := Lib.hid hov
  replace h0 := Lib.hid h0
  replace h1 := Lib.hid h1
  have hb1 : Below (w).heap.size (w) (((w.alloc (.cells #[.bool (sg a), .slice aA (nl (mg a)) ac] 24)).alloc (.cells #[.bool (sg b), .slice bA (nl (mg b)) bc] 24)).alloc (.cells #[.bool false, .slice none 0 0] 24)) := (Below.alloc (Below.alloc (Below.alloc (Below.refl _ _) (Nat.le_refl _) _) (by simp <;> omega) _) (by simp <;> omega) _)
  replace ha := ha.below hb1
  replace hb := hb.below hb1
  have HBT := hb1
  clear hb1
  have Ra : BoxA (((w.alloc (.cells #[.bool (sg a), .slice aA (nl (mg a)) ac] 24)).alloc (.cells #[.bool (sg b), .slice bA (nl (mg b)) bc] 24)).alloc (.cells #[.bool false, .slice none 0 0] 24)) w.heap.size 24 #[.bool (sg a), .slice aA (nl (mg a)) ac] := ⟨by repeat (first | exact at_new (by first | (simp; done) | (simp; omega)) | refine at_old (by first | (simp; done) | (simp; omega)) ?_)⟩
  have qa0 := Ra.c (i := 0) rfl
  have qa1 := Ra.c (i := 1) rfl
  have Rb : BoxA (((w.alloc (.cells #[.bool (sg a), .slice aA (nl (mg a)) ac] 24)).alloc (.cells #[.bool (sg b), .slice bA (nl (mg b)) bc] 24)).alloc (.cells #[.bool false, .slice none 0 0] 24)) (w.heap.size + 1) 24 #[.bool (sg b), .slice bA (nl (mg b)) bc] := ⟨by repeat (first | exact at_new (by first | (simp; done) | (simp; omega)) | refine at_old (by first | (simp; done) | (simp; omega)) ?_)⟩
  have qb0 := Rb.c (i := 0) rfl
  have qb1 := Rb.c (i := 1) rfl
  have Rr : BoxA (((w.alloc (.cells #[.bool (sg a), .slice aA (nl (mg a)) ac] 24)).alloc (.cells #[.bool (sg b), .slice bA (nl (mg b)) bc] 24)).alloc (.cells #[.bool false, .slice none 0 0] 24)) (w.heap.size + 1 + 1) 24 #[.bool false, .slice none 0 0] := ⟨by repeat (first | exact at_new (by first | (simp; done) | (simp; omega)) | refine at_old (by first | (simp; done) | (simp; omega)) ?_)⟩
  have qr0 := Rr.c (i := 0) rfl
  have qr1 := Rr.c (i := 1) rfl
  go_enter Tryz.func65, Tryz.ntmps65
  go_wp2_with (fail)
  obtain ⟨q, Eq⟩ : ∃ zq : Int, zq = a / b := ⟨_, rfl⟩
  have lq : nl (mg q) ≤ 1000000 := by rw [Eq]; omega
  obtain ⟨m, Em⟩ : ∃ zq : Int, zq = a % b := ⟨_, rfl⟩
  have lm : nl (mg m) ≤ 1000000 := by rw [Em]; omega
  have dm2 : nl (mg (2 * m)) ≤ 1000001 := by rw [Em]; omega
  have CT2 := (idiv_c aA ac a bA bc b _ ha hb (by omega) (by omega) (by omega))
  rw [← Eq, ← Em] at CT2
  replace Eq := Lib.hid Eq
  replace Em := Lib.hid Em
  replace CT2 := Lib.hid CT2
  refine (Calls.mono CT2.out ?_)
  clear CT2
  rintro e W2 ⟨Xq, cq, Xm, cm, rfl, hq, hm, hb2⟩
  replace ha := ha.below hb2
  replace hb := hb.below hb2
  replace Ra := Ra.below hb2
  replace qa0 := cell_below hb2 qa0
  replace qa1 := cell_below hb2 qa1
  replace Rb := Rb.below hb2
  replace qb0 := cell_below hb2 qb0
  replace qb1 := cell_below hb2 qb1
  replace Rr := Rr.below hb2
  replace qr0 := cell_below hb2 qr0
  replace qr1 := cell_below hb2 qr1
  replace HBT := Below.cons HBT hb2
  clear hb2
  clear lr0 lq0 ld0
  have szr := Rr.lt
  go_wp2_with (fail)
  have hb3 : Below (W2).heap.size (W2) ((W2.alloc (.cells #[.bool (sg q), .slice Xq (nl (mg q)) cq] 24)).alloc (.cells #[.bool (sg m), .slice Xm (nl (mg m)) cm] 24)) := (Below.alloc (Below.alloc (Below.refl _ _) (Nat.le_refl _) _) (by simp <;> omega) _)
  replace ha := ha.below hb3
  replace hb := hb.below hb3
  replace Ra := Ra.below hb3
  replace qa0 := cell_below hb3 qa0
  replace qa1 := cell_below hb3 qa1
  replace Rb := Rb.below hb3
  replace qb0 := cell_below hb3 qb0
  replace qb1 := cell_below hb3 qb1
  replace Rr := Rr.below hb3
  replace qr0 := cell_below hb3 qr0
  replace qr1 := cell_below hb3 qr1
  replace hq := hq.below hb3
  replace hm := hm.below hb3
  replace HBT := Below.cons HBT hb3
  clear hb3
  have Rq : BoxA ((W2.alloc (.cells #[.bool (sg q), .slice Xq (nl (mg q)) cq] 24)).alloc (.cells #[.bool (sg m), .slice Xm (nl (mg m)) cm] 24)) W2.heap.size 24 #[.bool (sg q), .slice Xq (nl (mg q)) cq] := ⟨by repeat (first | exact at_new (by first | (simp; done) | (simp; omega)) | refine at_old (by first | (simp; done) | (simp; omega)) ?_)⟩
  have qq0 := Rq.c (i := 0) rfl
  have qq1 := Rq.c (i := 1) rfl
  have Rm : BoxA ((W2.alloc (.cells #[.bool (sg q), .slice Xq (nl (mg q)) cq] 24)).alloc (.cells #[.bool (sg m), .slice Xm (nl (mg m)) cm] 24)) (W2.heap.size + 1) 24 #[.bool (sg m), .slice Xm (nl (mg m)) cm] := ⟨by repeat (first | exact at_new (by first | (simp; done) | (simp; omega)) | refine at_old (by first | (simp; done) | (simp; omega)) ?_)⟩
  have qm0 := Rm.c (i := 0) rfl
  have qm1 := Rm.c (i := 1) rfl
  have hsg : (m.sign == 0) = false := by have := h0.out; rw [← Em.out] at this; simp; exact this
  obtain ⟨sn, Esn⟩ : ∃ sn, sn = m.sign := ⟨_, rfl⟩
  have CG := isign_c Xm cm m ((W2.alloc (.cells #[.bool (sg q), .slice Xq (nl (mg q)) cq] 24)).alloc (.cells #[.bool (sg m), .slice Xm (nl (mg m)) cm] 24))
  rw [← Esn] at CG hsg
  replace Esn := Lib.hid Esn
  refine (Calls.mono (CG) ?_)
  rintro e W4 ⟨rfl, hb4⟩
  replace ha := ha.below hb4
  replace hb := hb.below hb4
  replace Ra := Ra.below hb4
  replace qa0 := cell_below hb4 qa0
  replace qa1 := cell_below hb4 qa1
  replace Rb := Rb.below hb4
  replace qb0 := cell_below hb4 qb0
  replace qb1 := cell_below hb4 qb1
  replace Rr := Rr.below hb4
  replace qr0 := cell_below hb4 qr0
  replace qr1 := cell_below hb4 qr1
  replace hq := hq.below hb4
  replace hm := hm.below hb4
  replace Rq := Rq.below hb4
  replace qq0 := cell_below hb4 qq0
  replace qq1 := cell_below hb4 qq1
  replace Rm := Rm.below hb4
  replace qm0 := cell_below hb4 qm0
  replace qm1 := cell_below hb4 qm1
  replace HBT := Below.cons HBT hb4
  clear hb4
  have qn : mg q ≠ 0 := fun e => h1.out (Eq.out ▸ mg_zero.1 e)
  have t1 : decide (0 < (nl (mg q) : Int)) = true := by have := nl_pos.2 qn; simp; omega
  have t2 : decide (0 < nl (mg q)) = true := by have := nl_pos.2 qn; simp; omega
  have t9 := nl_pos.2 qn
  replace qn := Lib.hid qn
  obtain ⟨ad, eX, hc0⟩ := hq.rd.get 0 t9
  obtain ⟨x, Ex⟩ : ∃ x, x = gl (limbs (mg q)) 0 := ⟨_, rfl⟩
  have hxl : x < 4294967296 := by rw [Ex]; exact (lim_limbs _).gl 0
  have hxv : x = mg q / 4294967296 ^ 0 % 4294967296 := by rw [Ex, limbs_gl]
  rw [← Ex, show ad.add 0 = ad by cases ad; simp [Addr.add]; try (split <;> simp)] at hc0
  have hod := odd_limb hxv
  have hand := and_one_u32 x hxl
  obtain ⟨z, Ez⟩ : ∃ z, z = x % 2 := ⟨_, rfl⟩
  rw [← Ez] at hand hod
  have hoz : ((z : Int) == 1) = decide (q % 2 = 1) := by rw [hod]; by_cases k : z = 1 <;> simp [k] <;> omega
  obtain ⟨od, Eod⟩ : ∃ od, od = decide (q % 2 = 1) := ⟨_, rfl⟩
  rw [← Eod] at hoz
  replace Ex := Lib.hid Ex
  replace hxv := Lib.hid hxv
  replace hod := Lib.hid hod
  replace Ez := Lib.hid Ez
  replace Eod := Lib.hid Eod
  subst eX
  go_wp2_with (fail)
  obtain ⟨m2, Em2⟩ : ∃ z, z = 2 * m := ⟨_, rfl⟩
  rw [← Em2] at dm2
  have CS := fun (W : World) (h1 : NatV W Xm cm (mg m)) => ishift_c Xm cm m 1 W h1 (by omega) (by omega)
  simp only [shf_twice, ← Em2] at CS
  obtain ⟨fn, hfn, wi, wf, CW0⟩ := way_at dr d0 d4
  replace hfn := Lib.hid hfn
  obtain ⟨up, Eup⟩ : ∃ z, z = upw (sg a) od (m2 - b) dr := ⟨_, rfl⟩
  have CW := CW0 (sg a) od m2 b
  rw [← Eup] at CW
  clear CW0
  have hov2 : ovr a b dr = if up = true then q + 1 else q := by rw [hov.out, Eup, Em2, ← Eq.out, ← Em.out, Eod.out]
  replace CS := Lib.hid CS
  replace CW := Lib.hid CW
  replace Em2 := Lib.hid Em2
  replace Eup := Lib.hid Eup
  replace hov2 := Lib.hid hov2
  refine wp_region_inv (fun E a' w' => ∃ (u34 u35 u36 u37 u38 u39 u40 u41 u42 u43 u44 u45 : Value),
    a' = { tmps := #[.agg #[.bool (sg a), .slice aA (nl (mg a)) ac], .agg #[.bool (sg b), .slice bA (nl (mg b)) bc], .int .i64 dr, .pointer (some ⟨w.heap.size, 0, none⟩), .pointer (some ⟨(w.heap.size + 1), 0, none⟩), undef, .pointer (some ⟨(w.heap.size + 1 + 1), 0, none⟩), .pointer (some ⟨W2.heap.size, 0, none⟩), .pointer (some ⟨(W2.heap.size + 1), 0, none⟩), .int .i64 0, .bool od, .tuple #[.agg #[.bool (sg q), .slice (some ad) (nl (mg q)) cq], .agg #[.bool (sg m), .slice Xm (nl (mg m)) cm], .int .i64 0], .agg #[.bool (sg a), .slice aA (nl (mg a)) ac], .agg #[.bool (sg b), .slice bA (nl (mg b)) bc], .tuple #[.agg #[.bool (sg q), .slice (some ad) (nl (mg q)) cq], .agg #[.bool (sg m), .slice Xm (nl (mg m)) cm], .int .i64 0], .agg #[.bool (sg q), .slice (some ad) (nl (mg q)) cq], .agg #[.bool (sg m), .slice Xm (nl (mg m)) cm], .int .i64 0, .agg #[.bool (sg m), .slice Xm (nl (mg m)) cm], .int .i64 sn, .bool false, undef, .pointer (some ⟨W2.heap.size, 1, none⟩), .slice (some ad) (nl (mg q)) cq, .int .i64 (nl (mg q)), .bool true, .bool true, .pointer (some ⟨W2.heap.size, 1, none⟩), .slice (some ad) (nl (mg q)) cq, .pointer (some ad), .int .u32 x, .int .u32 z, .bool od, .bool od, u34, u35, u36, u37, u38, u39, u40, u41, u42, u43, u44, u45, undef, undef, undef, undef], defers := [] } ∧
    (E 0 = true → u34 = (.agg #[.func (.func 99) #[] #[], .func (.func 100) #[] #[], .func (.func 101) #[] #[], .func (.func 102) #[] #[], .func (.func 103) #[] #[]])) ∧
    (E 1 = true → u35 = .int .i64 dr) ∧
    (E 2 = true → u36 = .agg #[.func (.func fn) #[] #[]]) ∧
    (E 3 = true → u37 = .func (.func fn) #[] #[]) ∧
    (E 4 = true → u38 = .pointer (some ⟨w.heap.size, 0, none⟩)) ∧
    (E 5 = true → u39 = .bool (sg a)) ∧
    (E 6 = true → u40 = .bool od) ∧
    (E 7 = true → u41 = .agg #[.bool (sg m), .slice Xm (nl (mg m)) cm]) ∧
    (E 8 = true → PI u42 m2 w') ∧
    (E 9 = true → u43 = .agg #[.bool (sg b), .slice bA (nl (mg b)) bc]) ∧
    (E 10 = true → u44 = .int .i64 (icmp m2 b)) ∧
    (E 11 = true → u45 = .bool up) ∧
    Below W4.heap.size W4 w') (by kernel_rfl) (by kernel_rfl) ?init ?fin ?step
  case init => exact ⟨_, _, _, _, _, _, _, _, _, _, _, _, rfl, by simp, by simp, by simp, by simp, by simp, by simp, by simp, by simp, by simp, by simp, by simp, by simp, (Below.refl _ _).drew⟩
  case step =>
    rintro E a' w' i ⟨u34, u35, u36, u37, u38, u39, u40, u41, u42, u43, u44, u45, rfl, h0, h1, h2, h3, h4, h5, h6, h7, h8, h9, h10, h11, hB⟩ hi hEi hdep
    have qa0 := cell_below hB qa0
    have qa1 := cell_below hB qa1
    have qb0 := cell_below hB qb0
    have qb1 := cell_below hB qb1
    have qm0 := cell_below hB qm0
    have qm1 := cell_below hB qm1
    obtain rfl | rfl | rfl | rfl | rfl | rfl | rfl | rfl | rfl | rfl | rfl | rfl : i = 0 ∨ i = 1 ∨ i = 2 ∨ i = 3 ∨ i = 4 ∨ i = 5 ∨ i = 6 ∨ i = 7 ∨ i = 8 ∨ i = 9 ∨ i = 10 ∨ i = 11 := by simp at hi; omega
    · skip
      refine wpOp_step rfl (fun K' hK' => ?_)
      go_simp
      refine (Calls.mono (ways_c w') ?_)
      rintro e W1 ⟨rfl, kb⟩
      refine hK' _ _ ?_
      exact ⟨_, _, _, _, _, _, _, _, _, _, _, _, rfl, fun _ => rfl, keepD (by decide) h1, keepD (by decide) h2, keepD (by decide) h3, keepD (by decide) h4, keepD (by decide) h5, keepD (by decide) h6, keepD (by decide) h7, keepP (by decide) h8 (fun h => h.below kb), keepD (by decide) h9, keepD (by decide) h10, keepD (by decide) h11, Below.cons hB kb⟩
    · skip
      refine wpOp_step rfl (fun K' hK' => ?_)
      go_simp
      refine hK' _ _ ?_
      exact ⟨_, _, _, _, _, _, _, _, _, _, _, _, rfl, keepD (by decide) h0, fun _ => rfl, keepD (by decide) h2, keepD (by decide) h3, keepD (by decide) h4, keepD (by decide) h5, keepD (by decide) h6, keepD (by decide) h7, keepD (by decide) h8, keepD (by decide) h9, keepD (by decide) h10, keepD (by decide) h11, hB⟩
    · skip
      have d0 := hdep _ rfl ⟨0, .data⟩ (by simp) rfl
      obtain rfl := h0 d0
      have d1 := hdep _ rfl ⟨1, .data⟩ (by simp) rfl
      obtain rfl := h1 d1
      refine wpOp_step rfl (fun K' hK' => ?_)
      go_simp
      refine hK' _ _ ?_
      exact ⟨_, _, _, _, _, _, _, _, _, _, _, _, rfl, keepD (by decide) h0, keepD (by decide) h1, fun _ => rfl, keepD (by decide) h3, keepD (by decide) h4, keepD (by decide) h5, keepD (by decide) h6, keepD (by decide) h7, keepD (by decide) h8, keepD (by decide) h9, keepD (by decide) h10, keepD (by decide) h11, hB⟩
    · skip
      have d2 := hdep _ rfl ⟨2, .data⟩ (by simp) rfl
      obtain rfl := h2 d2
      refine wpOp_step rfl (fun K' hK' => ?_)
      go_simp
      refine hK' _ _ ?_
      exact ⟨_, _, _, _, _, _, _, _, _, _, _, _, rfl, keepD (by decide) h0, keepD (by decide) h1, keepD (by decide) h2, fun _ => rfl, keepD (by decide) h4, keepD (by decide) h5, keepD (by decide) h6, keepD (by decide) h7, keepD (by decide) h8, keepD (by decide) h9, keepD (by decide) h10, keepD (by decide) h11, hB⟩
    · skip
      refine wpOp_step rfl (fun K' hK' => ?_)
      go_simp
      refine hK' _ _ ?_
      exact ⟨_, _, _, _, _, _, _, _, _, _, _, _, rfl, keepD (by decide) h0, keepD (by decide) h1, keepD (by decide) h2, keepD (by decide) h3, fun _ => rfl, keepD (by decide) h5, keepD (by decide) h6, keepD (by decide) h7, keepD (by decide) h8, keepD (by decide) h9, keepD (by decide) h10, keepD (by decide) h11, hB⟩
    · skip
      have d4 := hdep _ rfl ⟨4, .data⟩ (by simp) rfl
      obtain rfl := h4 d4
      refine wpOp_step rfl (fun K' hK' => ?_)
      go_simp
      refine hK' _ _ ?_
      exact ⟨_, _, _, _, _, _, _, _, _, _, _, _, rfl, keepD (by decide) h0, keepD (by decide) h1, keepD (by decide) h2, keepD (by decide) h3, keepD (by decide) h4, fun _ => rfl, keepD (by decide) h6, keepD (by decide) h7, keepD (by decide) h8, keepD (by decide) h9, keepD (by decide) h10, keepD (by decide) h11, hB⟩
    · skip
      refine wpOp_step rfl (fun K' hK' => ?_)
      go_simp
      refine hK' _ _ ?_
      exact ⟨_, _, _, _, _, _, _, _, _, _, _, _, rfl, keepD (by decide) h0, keepD (by decide) h1, keepD (by decide) h2, keepD (by decide) h3, keepD (by decide) h4, keepD (by decide) h5, fun _ => rfl, keepD (by decide) h7, keepD (by decide) h8, keepD (by decide) h9, keepD (by decide) h10, keepD (by decide) h11, hB⟩
    · skip
      refine wpOp_step rfl (fun K' hK' => ?_)
      go_simp
      refine hK' _ _ ?_
      exact ⟨_, _, _, _, _, _, _, _, _, _, _, _, rfl, keepD (by decide) h0, keepD (by decide) h1, keepD (by decide) h2, keepD (by decide) h3, keepD (by decide) h4, keepD (by decide) h5, keepD (by decide) h6, fun _ => rfl, keepD (by decide) h8, keepD (by decide) h9, keepD (by decide) h10, keepD (by decide) h11, hB⟩
    · skip
      have d7 := hdep _ rfl ⟨7, .data⟩ (by simp) rfl
      obtain rfl := h7 d7
      refine wpOp_step rfl (fun K' hK' => ?_)
      go_simp
      refine (Calls.mono (CS.out w' (hm.below hB)) ?_)
      rintro e W1 ⟨Xr, cr, rfl, kr, kb⟩
      refine hK' _ _ ?_
      exact ⟨_, _, _, _, _, _, _, _, _, _, _, _, rfl, keepD (by decide) h0, keepD (by decide) h1, keepD (by decide) h2, keepD (by decide) h3, keepD (by decide) h4, keepD (by decide) h5, keepD (by decide) h6, keepD (by decide) h7, fun _ => ⟨Xr, cr, rfl, kr⟩, keepD (by decide) h9, keepD (by decide) h10, keepD (by decide) h11, Below.cons hB kb⟩
    · skip
      refine wpOp_step rfl (fun K' hK' => ?_)
      go_simp
      refine hK' _ _ ?_
      exact ⟨_, _, _, _, _, _, _, _, _, _, _, _, rfl, keepD (by decide) h0, keepD (by decide) h1, keepD (by decide) h2, keepD (by decide) h3, keepD (by decide) h4, keepD (by decide) h5, keepD (by decide) h6, keepD (by decide) h7, keepD (by decide) h8, fun _ => rfl, keepD (by decide) h10, keepD (by decide) h11, hB⟩
    · skip
      have d8 := hdep _ rfl ⟨8, .data⟩ (by simp) rfl
      obtain ⟨X_8, c_8, rfl, k_8⟩ := h8 d8
      have d9 := hdep _ rfl ⟨9, .data⟩ (by simp) rfl
      obtain rfl := h9 d9
      refine wpOp_step rfl (fun K' hK' => ?_)
      go_simp
      refine (Calls.mono (icmp_c X_8 c_8 m2 bA bc b w' k_8 (hb.below hB) (by omega) (by omega)) ?_)
      rintro e W1 ⟨rfl, kb⟩
      refine hK' _ _ ?_
      exact ⟨_, _, _, _, _, _, _, _, _, _, _, _, rfl, keepD (by decide) h0, keepD (by decide) h1, keepD (by decide) h2, keepD (by decide) h3, keepD (by decide) h4, keepD (by decide) h5, keepD (by decide) h6, keepD (by decide) h7, keepP (by decide) h8 (fun h => h.below kb), keepD (by decide) h9, fun _ => rfl, keepD (by decide) h11, Below.cons hB kb⟩
    · skip
      have d3 := hdep _ rfl ⟨3, .data⟩ (by simp) rfl
      obtain rfl := h3 d3
      have d5 := hdep _ rfl ⟨5, .data⟩ (by simp) rfl
      obtain rfl := h5 d5
      have d6 := hdep _ rfl ⟨6, .data⟩ (by simp) rfl
      obtain rfl := h6 d6
      have d10 := hdep _ rfl ⟨10, .data⟩ (by simp) rfl
      obtain rfl := h10 d10
      rcases hfn.out with rfl | rfl | rfl | rfl | rfl
      all_goals refine wpOp_step rfl (fun K' hK' => ?_)
      all_goals go_simp
      all_goals refine (Calls.mono (CW.out w') ?_)
      all_goals rintro e W1 ⟨rfl, kb⟩
      all_goals refine hK' _ _ ?_
      all_goals exact ⟨_, _, _, _, _, _, _, _, _, _, _, _, rfl, keepD (by decide) h0, keepD (by decide) h1, keepD (by decide) h2, keepD (by decide) h3, keepD (by decide) h4, keepD (by decide) h5, keepD (by decide) h6, keepD (by decide) h7, keepP (by decide) h8 (fun h => h.below kb), keepD (by decide) h9, keepD (by decide) h10, fun _ => rfl, Below.cons hB kb⟩
  case fin =>
    rintro E a' w' ⟨u34, u35, u36, u37, u38, u39, u40, u41, u42, u43, u44, u45, rfl, h0, h1, h2, h3, h4, h5, h6, h7, h8, h9, h10, h11, hB⟩ hall
    replace ha := ha.below hB
    replace hb := hb.below hB
    replace Ra := Ra.below hB
    replace qa0 := cell_below hB qa0
    replace qa1 := cell_below hB qa1
    replace Rb := Rb.below hB
    replace qb0 := cell_below hB qb0
    replace qb1 := cell_below hB qb1
    replace Rr := Rr.below hB
    replace qr0 := cell_below hB qr0
    replace qr1 := cell_below hB qr1
    replace hq := hq.below hB
    replace hm := hm.below hB
    replace Rq := Rq.below hB
    replace qq0 := cell_below hB qq0
    replace qq1 := cell_below hB qq1
    replace Rm := Rm.below hB
    replace qm0 := cell_below hB qm0
    replace qm1 := cell_below hB qm1
    replace hc0 := cell_below hB hc0
    replace HBT := Below.cons HBT hB
    obtain rfl := h11 (hall 11 (by simp))
    clear hall
    cases up
    case false =>
      have fzr0 := Rr.f (i := 0)
      have fzr1 := Rr.f (i := 1)
      go_wp2_with (fail)
      have hzq : q = ovr a b dr := by have := hov2.out; simpa using this.symm
      subst hzq
      have RS := Rr.store2 (.bool (sg ((ovr a b dr)))) (.slice (some ad) (nl (mg ((ovr a b dr)))) cq)
      have e0 := RS.c (i := 0) rfl
      have e1 := RS.c (i := 1) rfl
      refine bodyPost_ret (v := .agg #[.bool (sg ((ovr a b dr))), .slice (some ad) (nl (mg ((ovr a b dr)))) cq]) (by simp [results, Tryz.results65, go_sem, e0, e1]) rfl ?_
      exact ⟨(some ad), cq, rfl, (Rr.keep2 (by intro u hu; simp at hu; rcases hu with rfl | rfl <;> first | exact notU_bool _ | exact notU_slice _ _ _ | exact notU_i64 _) hq), (Below.store2 HBT (by first | exact Nat.le_refl _ | omega))⟩
    case true =>
      go_wp2_with (fail)
      have hd5 : Below (w').heap.size w' (w').drew := (Below.refl _ _).drew
      replace ha := ha.below hd5
      replace hb := hb.below hd5
      replace Ra := Ra.below hd5
      replace qa0 := cell_below hd5 qa0
      replace qa1 := cell_below hd5 qa1
      replace Rb := Rb.below hd5
      replace qb0 := cell_below hd5 qb0
      replace qb1 := cell_below hd5 qb1
      replace Rr := Rr.below hd5
      replace qr0 := cell_below hd5 qr0
      replace qr1 := cell_below hd5 qr1
      replace hq := hq.below hd5
      replace hm := hm.below hd5
      replace Rq := Rq.below hd5
      replace qq0 := cell_below hd5 qq0
      replace qq1 := cell_below hd5 qq1
      replace Rm := Rm.below hd5
      replace qm0 := cell_below hd5 qm0
      replace qm1 := cell_below hd5 qm1
      replace hc0 := cell_below hd5 hc0
      replace HBT := Below.cons HBT hd5
      clear hd5
      obtain ⟨o1, Eo1⟩ : ∃ zq : Int, zq = (1 : Int) := ⟨_, rfl⟩
      have No1 : nl (mg o1) ≤ 1 := by rw [Eo1]; exact Nat.le_of_eq nl_one
      have C5_0 := fun (W : World) => (show Calls Tryz.prog 68 #[.int .i64 1] W (RetI W o1) by rw [Eo1]; exact iof1_c W)
      replace Eo1 := Lib.hid Eo1
      replace C5_0 := Lib.hid C5_0
      obtain ⟨y, Ey⟩ : ∃ zq : Int, zq = q + o1 := ⟨_, rfl⟩
      have C5_1 := fun (W : World) (A : Option Addr) (c : Nat) (h1 : NatV W (some ad) cq (mg q)) (h2 : NatV W A c (mg o1)) => iadd_c (some ad) cq q A c o1 W h1 h2 (by omega) (by omega)
      simp only [← Ey] at C5_1
      replace Ey := Lib.hid Ey
      replace C5_1 := Lib.hid C5_1
      go_region_held3 (fun W => W.cell? ⟨W2.heap.size, 0, none⟩ = some (.bool (sg q)) ∧ W.cell? ⟨W2.heap.size, 1, none⟩ = some (.slice (some ad) (nl (mg q)) cq))
        (first
          | exact ⟨qq0, qq1⟩
          | exact ⟨qq0_6, qq1_6⟩
          | exact ⟨qq0_7, qq1_7⟩
          | exact ⟨((Rq_7.other2 (by simp <;> omega)).c (i := 0) rfl), ((Rq_7.other2 (by simp <;> omega)).c (i := 1) rfl)⟩
          | go_keep)
        (first
          | (go_at_call 68; (with_reducible refine (C5_0.out _).mono ?_); rintro e W6 ⟨Xo1, co1, rfl, ho1, hb6⟩; have ha_6 := ha.below hb6; have hb_6 := hb.below hb6; have Ra_6 := Ra.below hb6; have qa0_6 := cell_below hb6 qa0; have qa1_6 := cell_below hb6 qa1; have Rb_6 := Rb.below hb6; have qb0_6 := cell_below hb6 qb0; have qb1_6 := cell_below hb6 qb1; have Rr_6 := Rr.below hb6; have qr0_6 := cell_below hb6 qr0; have qr1_6 := cell_below hb6 qr1; have hq_6 := hq.below hb6; have hm_6 := hm.below hb6; have Rq_6 := Rq.below hb6; have qq0_6 := cell_below hb6 qq0; have qq1_6 := cell_below hb6 qq1; have Rm_6 := Rm.below hb6; have qm0_6 := cell_below hb6 qm0; have qm1_6 := cell_below hb6 qm1; have hc0_6 := cell_below hb6 hc0; have HBT_6 := Below.cons HBT hb6)
          | (go_at_call 91; (with_reducible refine (C5_1.out _ _ _ hq_6 ho1).mono ?_); rintro e W7 ⟨Xy, cy, rfl, hy, hb7⟩; have ha_7 := ha_6.below hb7; have hb_7 := hb_6.below hb7; have Ra_7 := Ra_6.below hb7; have qa0_7 := cell_below hb7 qa0_6; have qa1_7 := cell_below hb7 qa1_6; have Rb_7 := Rb_6.below hb7; have qb0_7 := cell_below hb7 qb0_6; have qb1_7 := cell_below hb7 qb1_6; have Rr_7 := Rr_6.below hb7; have qr0_7 := cell_below hb7 qr0_6; have qr1_7 := cell_below hb7 qr1_6; have hq_7 := hq_6.below hb7; have hm_7 := hm_6.below hb7; have Rq_7 := Rq_6.below hb7; have qq0_7 := cell_below hb7 qq0_6; have qq1_7 := cell_below hb7 qq1_6; have Rm_7 := Rm_6.below hb7; have qm0_7 := cell_below hb7 qm0_6; have qm1_7 := cell_below hb7 qm1_6; have hc0_7 := cell_below hb7 hc0_6; have ho1_7 := ho1.below hb7; have HBT_7 := Below.cons HBT_6 hb7; have fz0 := Rr_7.f (i := 0); have fz1 := Rr_7.f (i := 1)))
      all_goals (try go_wp2_with (fail))
      have hzy : y = ovr a b dr := by rw [Ey.out, Eo1.out]; have := hov2.out; simpa using this.symm
      subst hzy
      have RS := Rr_7.store2 (.bool (sg ((ovr a b dr)))) (.slice Xy (nl (mg ((ovr a b dr)))) cy)
      have e0 := RS.c (i := 0) rfl
      have e1 := RS.c (i := 1) rfl
      refine bodyPost_ret (v := .agg #[.bool (sg ((ovr a b dr))), .slice Xy (nl (mg ((ovr a b dr)))) cy]) (by simp [results, Tryz.results65, go_sem, e0, e1]) rfl ?_
      exact ⟨Xy, cy, rfl, (Rr_7.keep2 (by intro u hu; simp at hu; rcases hu with rfl | rfl <;> first | exact notU_bool _ | exact notU_slice _ _ _ | exact notU_i64 _) hy), (Below.store2 HBT_7 (by first | exact Nat.le_refl _ | omega))⟩
theorem over_c (aA : Option Addr) (ac : Nat) (a : Int) (bA : Option Addr) (bc : Nat) (b : Int) (dr : Int) (w : World) (ha : NatV w aA ac (mg a)) (hb : NatV w bA bc (mg b)) (la : nl (mg a) ≤ 1000000) (lb : nl (mg b) ≤ 1000000) (hb0 : 0 < b) (h0 : 0 ≤ dr) (h4 : dr ≤ 4) :
    Calls Tryz.prog 65 #[.agg #[.bool (sg a), .slice aA (nl (mg a)) ac], .agg #[.bool (sg b), .slice bA (nl (mg b)) bc], .int .i64 dr] w (RetI w (ovr a b dr)) := by
  by_cases k : a % b = 0
  · exact over_z aA ac a bA bc b dr w ha hb h0 h4 la lb hb0 k
  · by_cases k2 : a / b = 0
    · exact over_q aA ac a bA bc b dr w ha hb h0 h4 la lb hb0 k k2
    · exact over_n aA ac a bA bc b dr w ha hb h0 h4 la lb hb0 k k2
end Go.Proofs.YtacjfpibilolnaaGreatDoor

/- Dyadic numbers, walked: Cut. -/
set_option linter.unusedVariables false
set_option linter.unusedSimpArgs false
namespace Go.Proofs.YtacjfpibilolnaaGreatDoor
open Go.RowKit Go.Shelf
attribute [local go_sem] max2_i min2_i max_two min_two

/-- A dyadic number, and what has gone wrong. -/
def RetDe (w : World) (q : Rat) (x : Int) (e : Ending) (w' : World) : Prop := ∃ A c, e = .returned (.tuple #[.agg #[.bool (sg (dmn q)), .slice A (nl (mg (dmn q))) c, .int .i64 (dex q)], .int .i64 x]) ∧ NatV w' A c (mg (dmn q)) ∧ Below w.heap.size w w'
theorem nat_none (W : World) : NatV W none 0 (mg (dmn 0)) := by rw [dmn_zero, mg0]; exact ⟨.inl (by simp [vals, limbs_zero]), by rw [nl_zero]; exact Nat.le_refl _, by decide⟩
theorem ovr_nl (a : Int) {b : Int} (dr : Int) (hb : 0 < b) : nl (mg (ovr a b dr)) ≤ nl (mg a) + 1 := by
  have h1 : mg (a / b) ≤ mg a := Int.natAbs_ediv_le_natAbs a b
  have h2 : mg (ovr a b dr) ≤ mg a + 1 := by
    have e : ovr a b dr = a / b ∨ ovr a b dr = a / b + 1 := by unfold ovr; split; exact .inl rfl; split; exact .inr rfl; exact .inl rfl
    rcases e with e | e <;> rw [e]
    · omega
    · unfold mg at *; omega
  have h3 := nl_lt (mg a)
  rw [nl_le, Nat.pow_succ]
  have : 0 < 4294967296 ^ nl (mg a) := Nat.pow_pos (by decide)
  omega
theorem shf_pos {z d : Int} (hz : 0 < z) (h0 : 0 ≤ d) : 0 < shf z d := by
  unfold shf; rw [if_pos h0]; exact Int.mul_pos hz (Int.pow_pos (by decide))
theorem cut_quo (q : Rat) (n : Int) : ((shf q.num (max n 0) : Int) : Rat) / ((shf (q.den : Int) (max (-n) 0) : Int) : Rat) = q * (2 : Rat) ^ n := by
  have hd : ((q.den : Int) : Rat) ≠ 0 := by
    intro e; have := Rat.intCast_eq_zero_iff.1 e; have := q.den_nz; omega
  have hq : q * ((q.den : Int) : Rat) = ((q.num : Int) : Rat) := by
    have e : q = ((q.num : Int) : Rat) / ((q.den : Int) : Rat) := by
      conv => lhs; rw [← Rat.mkRat_self q, Rat.mkRat_eq_div]
      rfl
    conv => lhs; lhs; rw [e]
    exact Rat.div_mul_cancel hd
  have hp : ∀ k : Nat, ((2 ^ k : Int) : Rat) ≠ 0 := by
    intro k e
    have := Rat.intCast_eq_zero_iff.1 e
    have := Int.pow_pos (n := 2) (m := k) (by decide); omega
  rcases Int.lt_or_le n 0 with hn | hn
  · obtain ⟨k, rfl⟩ := Int.exists_eq_neg_ofNat (show n ≤ 0 by omega)
    have e1 : max (-(k : Int)) 0 = 0 := by omega
    have e2 : max (-(-(k : Int))) 0 = (k : Int) := by omega
    rw [e1, e2]
    have s1 : shf q.num 0 = q.num := by unfold shf; rw [if_pos (by decide)]; exact Int.mul_one _
    have s2 : shf (q.den : Int) (k : Int) = q.den * 2 ^ k := by unfold shf; rw [if_pos (Int.natCast_nonneg k), Int.toNat_natCast]
    rw [s1, s2, Rat.zpow_neg, zp_int, Rat.intCast_mul, ← hq]
    have := hp k
    generalize ((q.den : Int) : Rat) = x at *
    generalize ((2 ^ k : Int) : Rat) = p at *
    grind
  · obtain ⟨k, rfl⟩ := Int.eq_ofNat_of_zero_le hn
    have e1 : max (k : Int) 0 = k := by omega
    have e2 : max (-(k : Int)) 0 = 0 := by omega
    rw [e1, e2]
    have s1 : shf q.num (k : Int) = q.num * 2 ^ k := by unfold shf; rw [if_pos (Int.natCast_nonneg k), Int.toNat_natCast]
    have s2 : shf (q.den : Int) 0 = q.den := by unfold shf; rw [if_pos (by decide)]; exact Int.mul_one _
    rw [s1, s2, zp_int, Rat.intCast_mul, ← hq]
    generalize ((q.den : Int) : Rat) = x at *
    generalize ((2 ^ k : Int) : Rat) = p at *
    grind
theorem cut_ovr (q : Rat) (n dr : Int) (h0 : 0 ≤ dr) (h4 : dr ≤ 4) : ovr (shf q.num (max n 0)) (shf (q.den : Int) (max (-n) 0)) dr = rnd dr (q * (2 : Rat) ^ n) := by
  rw [ovr_rnd (shf_pos (by have := q.den_nz; omega) (by omega)) h0 h4, cut_quo]
set_option maxRecDepth 100000 in
set_option maxHeartbeats 1000000 in
theorem cut_neg (qA : Option Addr) (qc : Nat) (qB : Option Addr) (qd : Nat) (q : Rat) (n : Int) (dr : Int) (w : World) (hq : NatV w qA qc (mg q.num)) (gq : NatV w qB qd q.den)   (h0 : dr < 0) :
    Calls Tryz.prog 15 #[.agg #[.bool (sg q.num), .slice qA (nl (mg q.num)) qc, .slice qB (nl q.den) qd], .int .i64 n, .int .i64 dr] w (RetDe w 0 1) := by
  have t1 : decide (dr < 0) = true := decide_eq_true h0
  have hb1 : Below (w).heap.size (w) ((w.alloc (.cells #[.bool (sg q.num), .slice qA (nl (mg q.num)) qc, .slice qB (nl q.den) qd] 26)).alloc (.cells #[.bool false, .slice none 0 0, .int .i64 0] 28)) := (Below.alloc (Below.alloc (Below.refl _ _) (Nat.le_refl _) _) (by simp <;> omega) _)
  replace hq := hq.below hb1
  replace gq := gq.below hb1
  have HBT := hb1
  clear hb1
  have Rq : BoxA ((w.alloc (.cells #[.bool (sg q.num), .slice qA (nl (mg q.num)) qc, .slice qB (nl q.den) qd] 26)).alloc (.cells #[.bool false, .slice none 0 0, .int .i64 0] 28)) w.heap.size 26 #[.bool (sg q.num), .slice qA (nl (mg q.num)) qc, .slice qB (nl q.den) qd] := ⟨by repeat (first | exact at_new (by first | (simp; done) | (simp; omega)) | refine at_old (by first | (simp; done) | (simp; omega)) ?_)⟩
  have qq0 := Rq.c (i := 0) rfl
  have qq1 := Rq.c (i := 1) rfl
  have qq2 := Rq.c (i := 2) rfl
  have Rr : BoxA ((w.alloc (.cells #[.bool (sg q.num), .slice qA (nl (mg q.num)) qc, .slice qB (nl q.den) qd] 26)).alloc (.cells #[.bool false, .slice none 0 0, .int .i64 0] 28)) (w.heap.size + 1) 28 #[.bool false, .slice none 0 0, .int .i64 0] := ⟨by repeat (first | exact at_new (by first | (simp; done) | (simp; omega)) | refine at_old (by first | (simp; done) | (simp; omega)) ?_)⟩
  have qr0 := Rr.c (i := 0) rfl
  have qr1 := Rr.c (i := 1) rfl
  have qr2 := Rr.c (i := 2) rfl
  have fzr0 := Rr.f (i := 0)
  have fzr1 := Rr.f (i := 1)
  have fzr2 := Rr.f (i := 2)
  go_enter Tryz.func15, Tryz.ntmps15
  go_wp2_with (fail)
  have RS := Rr
  have e0 := RS.c (i := 0) rfl
  have e1 := RS.c (i := 1) rfl
  have e2 := RS.c (i := 2) rfl
  refine bodyPost_ret (v := .tuple #[.agg #[.bool false, .slice none 0 0, .int .i64 0], .int .i64 1]) (by simp [results, Tryz.results15, go_sem, e0, e1, e2]) rfl ?_
  exact ⟨none, 0, by rw [dmn_zero, dex_zero, mg0, sg0, nl_zero], nat_none _, HBT⟩
set_option maxRecDepth 100000 in
set_option maxHeartbeats 1000000 in
theorem cut_big (qA : Option Addr) (qc : Nat) (qB : Option Addr) (qd : Nat) (q : Rat) (n : Int) (dr : Int) (w : World) (hq : NatV w qA qc (mg q.num)) (gq : NatV w qB qd q.den)   (h0 : 5 ≤ dr) :
    Calls Tryz.prog 15 #[.agg #[.bool (sg q.num), .slice qA (nl (mg q.num)) qc, .slice qB (nl q.den) qd], .int .i64 n, .int .i64 dr] w (RetDe w 0 1) := by
  have t1 : decide (dr < 0) = false := decide_eq_false (by omega)
  have t2 : decide (5 ≤ dr) = true := decide_eq_true h0
  have hb1 : Below (w).heap.size (w) ((w.alloc (.cells #[.bool (sg q.num), .slice qA (nl (mg q.num)) qc, .slice qB (nl q.den) qd] 26)).alloc (.cells #[.bool false, .slice none 0 0, .int .i64 0] 28)) := (Below.alloc (Below.alloc (Below.refl _ _) (Nat.le_refl _) _) (by simp <;> omega) _)
  replace hq := hq.below hb1
  replace gq := gq.below hb1
  have HBT := hb1
  clear hb1
  have Rq : BoxA ((w.alloc (.cells #[.bool (sg q.num), .slice qA (nl (mg q.num)) qc, .slice qB (nl q.den) qd] 26)).alloc (.cells #[.bool false, .slice none 0 0, .int .i64 0] 28)) w.heap.size 26 #[.bool (sg q.num), .slice qA (nl (mg q.num)) qc, .slice qB (nl q.den) qd] := ⟨by repeat (first | exact at_new (by first | (simp; done) | (simp; omega)) | refine at_old (by first | (simp; done) | (simp; omega)) ?_)⟩
  have qq0 := Rq.c (i := 0) rfl
  have qq1 := Rq.c (i := 1) rfl
  have qq2 := Rq.c (i := 2) rfl
  have Rr : BoxA ((w.alloc (.cells #[.bool (sg q.num), .slice qA (nl (mg q.num)) qc, .slice qB (nl q.den) qd] 26)).alloc (.cells #[.bool false, .slice none 0 0, .int .i64 0] 28)) (w.heap.size + 1) 28 #[.bool false, .slice none 0 0, .int .i64 0] := ⟨by repeat (first | exact at_new (by first | (simp; done) | (simp; omega)) | refine at_old (by first | (simp; done) | (simp; omega)) ?_)⟩
  have qr0 := Rr.c (i := 0) rfl
  have qr1 := Rr.c (i := 1) rfl
  have qr2 := Rr.c (i := 2) rfl
  go_enter Tryz.func15, Tryz.ntmps15
  go_wp2_with (fail)
  refine (Calls.mono (ways_c _) ?_)
  rintro e W2 ⟨rfl, hb2⟩
  replace hq := hq.below hb2
  replace gq := gq.below hb2
  replace Rq := Rq.below hb2
  replace qq0 := cell_below hb2 qq0
  replace qq1 := cell_below hb2 qq1
  replace qq2 := cell_below hb2 qq2
  replace Rr := Rr.below hb2
  replace qr0 := cell_below hb2 qr0
  replace qr1 := cell_below hb2 qr1
  replace qr2 := cell_below hb2 qr2
  replace HBT := Below.cons HBT hb2
  clear hb2
  have fzr0 := Rr.f (i := 0)
  have fzr1 := Rr.f (i := 1)
  have fzr2 := Rr.f (i := 2)
  go_wp2_with (fail)
  have RS := Rr.store3 (.bool false) (.slice none 0 0) (.int .i64 0)
  have e0 := RS.c (i := 0) rfl
  have e1 := RS.c (i := 1) rfl
  have e2 := RS.c (i := 2) rfl
  refine bodyPost_ret (v := .tuple #[.agg #[.bool false, .slice none 0 0, .int .i64 0], .int .i64 1]) (by simp [results, Tryz.results15, go_sem, e0, e1, e2]) rfl ?_
  exact ⟨none, 0, by rw [dmn_zero, dex_zero, mg0, sg0, nl_zero], nat_none _, Below.store3 HBT (by first | exact Nat.le_refl _ | omega)⟩
set_option maxRecDepth 100000 in
set_option maxHeartbeats 1000000 in
theorem cut_in (qA : Option Addr) (qc : Nat) (qB : Option Addr) (qd : Nat) (q : Rat) (n : Int) (dr : Int) (w : World) (hq : NatV w qA qc (mg q.num)) (gq : NatV w qB qd q.den)   (hT : Tab w) (lq : nl (mg q.num) ≤ 100000) (ld : nl q.den ≤ 100000) (d0 : 0 ≤ dr) (d4 : dr ≤ 4) (ln : -1000000 ≤ n ∧ n ≤ 1000000) :
    Calls Tryz.prog 15 #[.agg #[.bool (sg q.num), .slice qA (nl (mg q.num)) qc, .slice qB (nl q.den) qd], .int .i64 n, .int .i64 dr] w (RetDe w (dval (rnd dr (q * (2 : Rat) ^ n)) (-n)) 0) := by
  have t1 : decide (dr < 0) = false := decide_eq_false (by omega)
  have t2 : decide (5 ≤ dr) = false := decide_eq_false (by omega)
  have hov := cut_ovr q n dr d0 d4
  obtain ⟨n1, En1⟩ : ∃ z, z = max n 0 := ⟨_, rfl⟩
  obtain ⟨n2, En2⟩ : ∃ z, z = max (-n) 0 := ⟨_, rfl⟩
  have b1 : 0 ≤ n1 ∧ n1 ≤ 1000000 := by omega
  have b2 : 0 ≤ n2 ∧ n2 ≤ 1000000 := by omega
  have Wn : IntKind.i64.wrap (-n) = -n := IntWalk.i64_in _ (by omega)
  rw [← En1, ← En2] at hov
  obtain ⟨u, Eu⟩ : ∃ z, z = shf q.num n1 := ⟨_, rfl⟩
  have lu : nl (mg u) ≤ 162502 := by rw [Eu]; exact nl_shf (K := 0) lq b1.1 (by omega)
  obtain ⟨dz, Edz⟩ : ∃ z, z = ival false q.den := ⟨_, rfl⟩
  have dz0 : 0 < dz := by rw [Edz, ival_false]; have := q.den_nz; omega
  have ldz : nl (mg dz) ≤ 100000 := by rw [Edz, mg_ival]; exact ld
  obtain ⟨v, Ev⟩ : ∃ z, z = shf dz n2 := ⟨_, rfl⟩
  have lv : nl (mg v) ≤ 162502 := by rw [Ev]; exact nl_shf (K := 0) ldz b2.1 (by omega)
  have v0 : 0 < v := by rw [Ev]; exact shf_pos dz0 b2.1
  have lo := ovr_nl u dr v0
  rw [← Eu, ← ival_false, ← Edz, ← Ev] at hov
  have C1 := fun (W : World) (h1 : NatV W qA qc (mg q.num)) => ishift_c qA qc q.num n1 W h1 (by omega) (by omega)
  rw [← Eu] at C1
  have C2 := fun (W : World) (h1 : NatV W qB qd q.den) => imake_c false qB qd q.den W h1 (by omega)
  rw [← Edz] at C2
  have C3 := fun (W : World) (A : Option Addr) (c : Nat) (h1 : NatV W A c (mg dz)) => ishift_c A c dz n2 W h1 (by omega) (by omega)
  rw [← Ev] at C3
  replace En1 := En1.symm
  replace En2 := En2.symm
  replace hov := Lib.hid hov
  replace Eu := Lib.hid Eu
  replace Edz := Lib.hid Edz
  replace Ev := Lib.hid Ev
  replace C1 := Lib.hid C1
  replace C2 := Lib.hid C2
  replace C3 := Lib.hid C3
  replace b1 := Lib.hid b1
  replace b2 := Lib.hid b2
  replace v0 := Lib.hid v0
  have hb1 : Below (w).heap.size (w) ((w.alloc (.cells #[.bool (sg q.num), .slice qA (nl (mg q.num)) qc, .slice qB (nl q.den) qd] 26)).alloc (.cells #[.bool false, .slice none 0 0, .int .i64 0] 28)) := (Below.alloc (Below.alloc (Below.refl _ _) (Nat.le_refl _) _) (by simp <;> omega) _)
  replace hq := hq.below hb1
  replace gq := gq.below hb1
  replace hT := hT.below hb1
  have HBT := hb1
  clear hb1
  have Rq : BoxA ((w.alloc (.cells #[.bool (sg q.num), .slice qA (nl (mg q.num)) qc, .slice qB (nl q.den) qd] 26)).alloc (.cells #[.bool false, .slice none 0 0, .int .i64 0] 28)) w.heap.size 26 #[.bool (sg q.num), .slice qA (nl (mg q.num)) qc, .slice qB (nl q.den) qd] := ⟨by repeat (first | exact at_new (by first | (simp; done) | (simp; omega)) | refine at_old (by first | (simp; done) | (simp; omega)) ?_)⟩
  have qq0 := Rq.c (i := 0) rfl
  have qq1 := Rq.c (i := 1) rfl
  have qq2 := Rq.c (i := 2) rfl
  have Rr : BoxA ((w.alloc (.cells #[.bool (sg q.num), .slice qA (nl (mg q.num)) qc, .slice qB (nl q.den) qd] 26)).alloc (.cells #[.bool false, .slice none 0 0, .int .i64 0] 28)) (w.heap.size + 1) 28 #[.bool false, .slice none 0 0, .int .i64 0] := ⟨by repeat (first | exact at_new (by first | (simp; done) | (simp; omega)) | refine at_old (by first | (simp; done) | (simp; omega)) ?_)⟩
  have qr0 := Rr.c (i := 0) rfl
  have qr1 := Rr.c (i := 1) rfl
  have qr2 := Rr.c (i := 2) rfl
  go_enter Tryz.func15, Tryz.ntmps15
  go_wp2_with (fail)
  refine (Calls.mono (ways_c _) ?_)
  rintro e W2 ⟨rfl, hb2⟩
  replace hq := hq.below hb2
  replace gq := gq.below hb2
  replace hT := hT.below hb2
  replace Rq := Rq.below hb2
  replace qq0 := cell_below hb2 qq0
  replace qq1 := cell_below hb2 qq1
  replace qq2 := cell_below hb2 qq2
  replace Rr := Rr.below hb2
  replace qr0 := cell_below hb2 qr0
  replace qr1 := cell_below hb2 qr1
  replace qr2 := cell_below hb2 qr2
  replace HBT := Below.cons HBT hb2
  clear hb2
  go_wp2_with (fail)
  refine wp_region_inv (fun E a' w' => ∃ (u19 u20 u21 u22 u23 u24 u25 u26 u27 u28 u29 u30 u8 u9 : Value),
    a' = { tmps := #[.agg #[.bool (sg q.num), .slice qA (nl (mg q.num)) qc, .slice qB (nl q.den) qd], .int .i64 n, .int .i64 dr, .pointer (some ⟨w.heap.size, 0, none⟩), undef, undef, .pointer (some ⟨(w.heap.size + 1), 0, none⟩), .int .i64 0, u8, u9, .int .i64 dr, .bool false, .bool false, .int .i64 dr, (.agg #[.func (.func 99) #[] #[], .func (.func 100) #[] #[], .func (.func 101) #[] #[], .func (.func 102) #[] #[], .func (.func 103) #[] #[]]), .int .i64 5, .bool false, .bool false, undef, u19, u20, u21, u22, u23, u24, u25, u26, u27, u28, u29, u30, undef, undef, undef, undef, undef, undef, undef], defers := [] } ∧
    (E 0 = true → u19 = .pointer (some ⟨w.heap.size, 0, none⟩)) ∧
    (E 1 = true → u20 = .agg #[.bool (sg q.num), .slice qA (nl (mg q.num)) qc]) ∧
    (E 2 = true → u21 = .int .i64 n) ∧
    (E 3 = true → u22 = .int .i64 n1) ∧
    (E 4 = true → PI u23 u w') ∧
    (E 5 = true → u24 = .pointer (some ⟨w.heap.size, 2, none⟩)) ∧
    (E 6 = true → u25 = .slice qB (nl q.den) qd) ∧
    (E 7 = true → PI u26 dz w') ∧
    (E 8 = true → u27 = .int .i64 n) ∧
    (E 9 = true → u28 = .int .i64 (-n)) ∧
    (E 10 = true → u29 = .int .i64 n2) ∧
    (E 11 = true → PI u30 v w') ∧
    (E 12 = true → PB2 24 W2.heap.size u8 w') ∧
    (E 13 = true → PB2 24 W2.heap.size u9 w') ∧
    (E 14 = true → PBI W2.heap.size u8 u w') ∧
    (E 15 = true → PBI W2.heap.size u9 v w') ∧
    (E 14 = true → E 12 = true) ∧
    (E 15 = true → E 13 = true) ∧
    (E 12 = true → E 13 = true → u8 ≠ u9) ∧
    Below W2.heap.size W2 w') (by kernel_rfl) (by kernel_rfl) ?init ?fin ?step
  case init => exact ⟨_, _, _, _, _, _, _, _, _, _, _, _, _, _, rfl, by simp, by simp, by simp, by simp, by simp, by simp, by simp, by simp, by simp, by simp, by simp, by simp, by simp, by simp, by simp, by simp, by simp, by simp, by simp, (Below.refl _ _).drew⟩
  case step =>
    rintro E a' w' i ⟨u19, u20, u21, u22, u23, u24, u25, u26, u27, u28, u29, u30, u8, u9, rfl, h0, h1, h2, h3, h4, h5, h6, h7, h8, h9, h10, h11, h12, h13, h14, h15, hD14, hD15, hN12_13, hB⟩ hi hEi hdep
    have qq0 := cell_below hB qq0
    have qq1 := cell_below hB qq1
    have qq2 := cell_below hB qq2
    obtain rfl | rfl | rfl | rfl | rfl | rfl | rfl | rfl | rfl | rfl | rfl | rfl | rfl | rfl | rfl | rfl : i = 0 ∨ i = 1 ∨ i = 2 ∨ i = 3 ∨ i = 4 ∨ i = 5 ∨ i = 6 ∨ i = 7 ∨ i = 8 ∨ i = 9 ∨ i = 10 ∨ i = 11 ∨ i = 12 ∨ i = 13 ∨ i = 14 ∨ i = 15 := by simp at hi; omega
    · skip
      refine wpOp_step rfl (fun K' hK' => ?_)
      go_simp
      refine hK' _ _ ?_
      exact ⟨_, _, _, _, _, _, _, _, _, _, _, _, _, _, rfl, fun _ => rfl, keepD (by decide) h1, keepD (by decide) h2, keepD (by decide) h3, keepD (by decide) h4, keepD (by decide) h5, keepD (by decide) h6, keepD (by decide) h7, keepD (by decide) h8, keepD (by decide) h9, keepD (by decide) h10, keepD (by decide) h11, keepD (by decide) h12, keepD (by decide) h13, keepD (by decide) h14, keepD (by decide) h15, (fun h => by have := hD14 (by simpa using h); simpa using this), (fun h => by have := hD15 (by simpa using h); simpa using this), (fun h k => hN12_13 (by simpa using h) (by simpa using k)), hB⟩
    · skip
      have d0 := hdep _ rfl ⟨0, .data⟩ (by simp) rfl
      obtain rfl := h0 d0
      refine wpOp_step rfl (fun K' hK' => ?_)
      go_simp
      refine hK' _ _ ?_
      exact ⟨_, _, _, _, _, _, _, _, _, _, _, _, _, _, rfl, keepD (by decide) h0, fun _ => rfl, keepD (by decide) h2, keepD (by decide) h3, keepD (by decide) h4, keepD (by decide) h5, keepD (by decide) h6, keepD (by decide) h7, keepD (by decide) h8, keepD (by decide) h9, keepD (by decide) h10, keepD (by decide) h11, keepD (by decide) h12, keepD (by decide) h13, keepD (by decide) h14, keepD (by decide) h15, (fun h => by have := hD14 (by simpa using h); simpa using this), (fun h => by have := hD15 (by simpa using h); simpa using this), (fun h k => hN12_13 (by simpa using h) (by simpa using k)), hB⟩
    · skip
      refine wpOp_step rfl (fun K' hK' => ?_)
      go_simp
      refine hK' _ _ ?_
      exact ⟨_, _, _, _, _, _, _, _, _, _, _, _, _, _, rfl, keepD (by decide) h0, keepD (by decide) h1, fun _ => rfl, keepD (by decide) h3, keepD (by decide) h4, keepD (by decide) h5, keepD (by decide) h6, keepD (by decide) h7, keepD (by decide) h8, keepD (by decide) h9, keepD (by decide) h10, keepD (by decide) h11, keepD (by decide) h12, keepD (by decide) h13, keepD (by decide) h14, keepD (by decide) h15, (fun h => by have := hD14 (by simpa using h); simpa using this), (fun h => by have := hD15 (by simpa using h); simpa using this), (fun h k => hN12_13 (by simpa using h) (by simpa using k)), hB⟩
    · skip
      have d2 := hdep _ rfl ⟨2, .data⟩ (by simp) rfl
      obtain rfl := h2 d2
      refine wpOp_step rfl (fun K' hK' => ?_)
      go_simp
      refine hK' _ _ ?_
      exact ⟨_, _, _, _, _, _, _, _, _, _, _, _, _, _, rfl, keepD (by decide) h0, keepD (by decide) h1, keepD (by decide) h2, fun _ => rfl, keepD (by decide) h4, keepD (by decide) h5, keepD (by decide) h6, keepD (by decide) h7, keepD (by decide) h8, keepD (by decide) h9, keepD (by decide) h10, keepD (by decide) h11, keepD (by decide) h12, keepD (by decide) h13, keepD (by decide) h14, keepD (by decide) h15, (fun h => by have := hD14 (by simpa using h); simpa using this), (fun h => by have := hD15 (by simpa using h); simpa using this), (fun h k => hN12_13 (by simpa using h) (by simpa using k)), hB⟩
    · skip
      have d1 := hdep _ rfl ⟨1, .data⟩ (by simp) rfl
      obtain rfl := h1 d1
      have d3 := hdep _ rfl ⟨3, .data⟩ (by simp) rfl
      obtain rfl := h3 d3
      refine wpOp_step rfl (fun K' hK' => ?_)
      go_simp
      refine (Calls.mono (C1.out w' (hq.below hB)) ?_)
      rintro e W1 ⟨Xr, cr, rfl, kr, kb⟩
      refine hK' _ _ ?_
      exact ⟨_, _, _, _, _, _, _, _, _, _, _, _, _, _, rfl, keepD (by decide) h0, keepD (by decide) h1, keepD (by decide) h2, keepD (by decide) h3, fun _ => ⟨Xr, cr, rfl, kr⟩, keepD (by decide) h5, keepD (by decide) h6, keepP (by decide) h7 (fun h => h.below kb), keepD (by decide) h8, keepD (by decide) h9, keepD (by decide) h10, keepP (by decide) h11 (fun h => h.below kb), keepP (by decide) h12 (fun h => h.below kb), keepP (by decide) h13 (fun h => h.below kb), keepP (by decide) h14 (fun h => h.below kb), keepP (by decide) h15 (fun h => h.below kb), (fun h => by have := hD14 (by simpa using h); simpa using this), (fun h => by have := hD15 (by simpa using h); simpa using this), (fun h k => hN12_13 (by simpa using h) (by simpa using k)), Below.cons hB kb⟩
    · skip
      refine wpOp_step rfl (fun K' hK' => ?_)
      go_simp
      refine hK' _ _ ?_
      exact ⟨_, _, _, _, _, _, _, _, _, _, _, _, _, _, rfl, keepD (by decide) h0, keepD (by decide) h1, keepD (by decide) h2, keepD (by decide) h3, keepD (by decide) h4, fun _ => rfl, keepD (by decide) h6, keepD (by decide) h7, keepD (by decide) h8, keepD (by decide) h9, keepD (by decide) h10, keepD (by decide) h11, keepD (by decide) h12, keepD (by decide) h13, keepD (by decide) h14, keepD (by decide) h15, (fun h => by have := hD14 (by simpa using h); simpa using this), (fun h => by have := hD15 (by simpa using h); simpa using this), (fun h k => hN12_13 (by simpa using h) (by simpa using k)), hB⟩
    · skip
      have d5 := hdep _ rfl ⟨5, .data⟩ (by simp) rfl
      obtain rfl := h5 d5
      refine wpOp_step rfl (fun K' hK' => ?_)
      go_simp
      refine hK' _ _ ?_
      exact ⟨_, _, _, _, _, _, _, _, _, _, _, _, _, _, rfl, keepD (by decide) h0, keepD (by decide) h1, keepD (by decide) h2, keepD (by decide) h3, keepD (by decide) h4, keepD (by decide) h5, fun _ => rfl, keepD (by decide) h7, keepD (by decide) h8, keepD (by decide) h9, keepD (by decide) h10, keepD (by decide) h11, keepD (by decide) h12, keepD (by decide) h13, keepD (by decide) h14, keepD (by decide) h15, (fun h => by have := hD14 (by simpa using h); simpa using this), (fun h => by have := hD15 (by simpa using h); simpa using this), (fun h k => hN12_13 (by simpa using h) (by simpa using k)), hB⟩
    · skip
      have d6 := hdep _ rfl ⟨6, .data⟩ (by simp) rfl
      obtain rfl := h6 d6
      refine wpOp_step rfl (fun K' hK' => ?_)
      go_simp
      refine (Calls.mono (C2.out w' (gq.below hB)) ?_)
      rintro e W1 ⟨Xr, cr, rfl, kr, kb⟩
      refine hK' _ _ ?_
      exact ⟨_, _, _, _, _, _, _, _, _, _, _, _, _, _, rfl, keepD (by decide) h0, keepD (by decide) h1, keepD (by decide) h2, keepD (by decide) h3, keepP (by decide) h4 (fun h => h.below kb), keepD (by decide) h5, keepD (by decide) h6, fun _ => ⟨Xr, cr, rfl, kr⟩, keepD (by decide) h8, keepD (by decide) h9, keepD (by decide) h10, keepP (by decide) h11 (fun h => h.below kb), keepP (by decide) h12 (fun h => h.below kb), keepP (by decide) h13 (fun h => h.below kb), keepP (by decide) h14 (fun h => h.below kb), keepP (by decide) h15 (fun h => h.below kb), (fun h => by have := hD14 (by simpa using h); simpa using this), (fun h => by have := hD15 (by simpa using h); simpa using this), (fun h k => hN12_13 (by simpa using h) (by simpa using k)), Below.cons hB kb⟩
    · skip
      refine wpOp_step rfl (fun K' hK' => ?_)
      go_simp
      refine hK' _ _ ?_
      exact ⟨_, _, _, _, _, _, _, _, _, _, _, _, _, _, rfl, keepD (by decide) h0, keepD (by decide) h1, keepD (by decide) h2, keepD (by decide) h3, keepD (by decide) h4, keepD (by decide) h5, keepD (by decide) h6, keepD (by decide) h7, fun _ => rfl, keepD (by decide) h9, keepD (by decide) h10, keepD (by decide) h11, keepD (by decide) h12, keepD (by decide) h13, keepD (by decide) h14, keepD (by decide) h15, (fun h => by have := hD14 (by simpa using h); simpa using this), (fun h => by have := hD15 (by simpa using h); simpa using this), (fun h k => hN12_13 (by simpa using h) (by simpa using k)), hB⟩
    · skip
      have d8 := hdep _ rfl ⟨8, .data⟩ (by simp) rfl
      obtain rfl := h8 d8
      refine wpOp_step rfl (fun K' hK' => ?_)
      go_simp
      refine hK' _ _ ?_
      exact ⟨_, _, _, _, _, _, _, _, _, _, _, _, _, _, rfl, keepD (by decide) h0, keepD (by decide) h1, keepD (by decide) h2, keepD (by decide) h3, keepD (by decide) h4, keepD (by decide) h5, keepD (by decide) h6, keepD (by decide) h7, keepD (by decide) h8, fun _ => rfl, keepD (by decide) h10, keepD (by decide) h11, keepD (by decide) h12, keepD (by decide) h13, keepD (by decide) h14, keepD (by decide) h15, (fun h => by have := hD14 (by simpa using h); simpa using this), (fun h => by have := hD15 (by simpa using h); simpa using this), (fun h k => hN12_13 (by simpa using h) (by simpa using k)), hB⟩
    · skip
      have d9 := hdep _ rfl ⟨9, .data⟩ (by simp) rfl
      obtain rfl := h9 d9
      refine wpOp_step rfl (fun K' hK' => ?_)
      go_simp
      refine hK' _ _ ?_
      exact ⟨_, _, _, _, _, _, _, _, _, _, _, _, _, _, rfl, keepD (by decide) h0, keepD (by decide) h1, keepD (by decide) h2, keepD (by decide) h3, keepD (by decide) h4, keepD (by decide) h5, keepD (by decide) h6, keepD (by decide) h7, keepD (by decide) h8, keepD (by decide) h9, fun _ => rfl, keepD (by decide) h11, keepD (by decide) h12, keepD (by decide) h13, keepD (by decide) h14, keepD (by decide) h15, (fun h => by have := hD14 (by simpa using h); simpa using this), (fun h => by have := hD15 (by simpa using h); simpa using this), (fun h k => hN12_13 (by simpa using h) (by simpa using k)), hB⟩
    · skip
      have d7 := hdep _ rfl ⟨7, .data⟩ (by simp) rfl
      obtain ⟨X_7, c_7, rfl, k_7⟩ := h7 d7
      have d10 := hdep _ rfl ⟨10, .data⟩ (by simp) rfl
      obtain rfl := h10 d10
      refine wpOp_step rfl (fun K' hK' => ?_)
      go_simp
      refine (Calls.mono (C3.out w' X_7 c_7 k_7) ?_)
      rintro e W1 ⟨Xr, cr, rfl, kr, kb⟩
      refine hK' _ _ ?_
      exact ⟨_, _, _, _, _, _, _, _, _, _, _, _, _, _, rfl, keepD (by decide) h0, keepD (by decide) h1, keepD (by decide) h2, keepD (by decide) h3, keepP (by decide) h4 (fun h => h.below kb), keepD (by decide) h5, keepD (by decide) h6, keepP (by decide) h7 (fun h => h.below kb), keepD (by decide) h8, keepD (by decide) h9, keepD (by decide) h10, fun _ => ⟨Xr, cr, rfl, kr⟩, keepP (by decide) h12 (fun h => h.below kb), keepP (by decide) h13 (fun h => h.below kb), keepP (by decide) h14 (fun h => h.below kb), keepP (by decide) h15 (fun h => h.below kb), (fun h => by have := hD14 (by simpa using h); simpa using this), (fun h => by have := hD15 (by simpa using h); simpa using this), (fun h k => hN12_13 (by simpa using h) (by simpa using k)), Below.cons hB kb⟩
    · skip
      have kb : Below w'.heap.size w' (w'.alloc (.cells #[.bool false, .slice none 0 0] 24)) := (Below.refl _ _).alloc (Nat.le_refl _) _
      refine wpOp_step rfl (fun K' hK' => ?_)
      go_simp
      refine hK' _ _ ?_
      exact ⟨_, _, _, _, _, _, _, _, _, _, _, _, _, _, rfl, keepD (by decide) h0, keepD (by decide) h1, keepD (by decide) h2, keepD (by decide) h3, keepP (by decide) h4 (fun h => h.below kb), keepD (by decide) h5, keepD (by decide) h6, keepP (by decide) h7 (fun h => h.below kb), keepD (by decide) h8, keepD (by decide) h9, keepD (by decide) h10, keepP (by decide) h11 (fun h => h.below kb), fun _ => ⟨_, _, _, rfl, hB.size, ⟨at_new rfl⟩, notU_bool _, notU_slice _ _ _⟩, keepP (by decide) h13 (fun h => h.below kb), (fun h => by have h2 := hD14 (by simpa using h); rw [hEi] at h2; cases h2), keepP (by decide) h15 (fun h => h.below kb), (fun _ => by simp), (fun h => by have := hD15 (by simpa using h); simpa using this), (fun _ h => by obtain ⟨n2, e2, l2⟩ := (h13 (by simpa using h)).lt; rw [e2]; intro e3; simp at e3 <;> omega), Below.cons hB kb⟩
    · skip
      have kb : Below w'.heap.size w' (w'.alloc (.cells #[.bool false, .slice none 0 0] 24)) := (Below.refl _ _).alloc (Nat.le_refl _) _
      refine wpOp_step rfl (fun K' hK' => ?_)
      go_simp
      refine hK' _ _ ?_
      exact ⟨_, _, _, _, _, _, _, _, _, _, _, _, _, _, rfl, keepD (by decide) h0, keepD (by decide) h1, keepD (by decide) h2, keepD (by decide) h3, keepP (by decide) h4 (fun h => h.below kb), keepD (by decide) h5, keepD (by decide) h6, keepP (by decide) h7 (fun h => h.below kb), keepD (by decide) h8, keepD (by decide) h9, keepD (by decide) h10, keepP (by decide) h11 (fun h => h.below kb), keepP (by decide) h12 (fun h => h.below kb), fun _ => ⟨_, _, _, rfl, hB.size, ⟨at_new rfl⟩, notU_bool _, notU_slice _ _ _⟩, keepP (by decide) h14 (fun h => h.below kb), (fun h => by have h2 := hD15 (by simpa using h); rw [hEi] at h2; cases h2), (fun h => by have := hD14 (by simpa using h); simpa using this), (fun _ => by simp), (fun h _ => by obtain ⟨n2, e2, l2⟩ := (h12 (by simpa using h)).lt; rw [e2]; intro e3; simp at e3 <;> omega), Below.cons hB kb⟩
    · skip
      have d12 := hdep _ rfl ⟨12, .data⟩ (by simp) rfl
      obtain ⟨nb, z0, z1, rfl, hn, hb, nz0, nz1⟩ := h12 d12
      have d4 := hdep _ rfl ⟨4, .data⟩ (by simp) rfl
      obtain ⟨X_4, c_4, rfl, k_4⟩ := h4 d4
      have fz0 := hb.f (i := 0)
      have cz0 := hb.c (i := 0) rfl
      have fz1 := hb.f (i := 1)
      have cz1 := hb.c (i := 1) rfl
      have hp := hb.put2 (notU2 nz0 nz1) (.bool (sg u)) (.slice X_4 (nl (mg u)) c_4)
      have hs := hb.store2 (.bool (sg u)) (.slice X_4 (nl (mg u)) c_4)
      refine wpOp_step rfl (fun K' hK' => ?_)
      go_simp
      refine hK' _ _ ?_
      exact ⟨_, _, _, _, _, _, _, _, _, _, _, _, _, _, rfl, keepD (by decide) h0, keepD (by decide) h1, keepD (by decide) h2, keepD (by decide) h3, keepP (by decide) h4 (fun h => h.put hp), keepD (by decide) h5, keepD (by decide) h6, keepP (by decide) h7 (fun h => h.put hp), keepD (by decide) h8, keepD (by decide) h9, keepD (by decide) h10, keepP (by decide) h11 (fun h => h.put hp), (fun _ => ⟨nb, _, _, rfl, hn, hs, notU_bool _, notU_slice _ _ _⟩), keepP' (by decide) h13 (fun e h => h.put hp (fun e3 => hN12_13 d12 (by simpa using e) e3.symm)), fun _ => ⟨nb, X_4, c_4, rfl, hn, hs, hp.nat k_4⟩, keepP' (by decide) h15 (fun e h => h.put hp (fun e3 => hN12_13 d12 (hD15 (by simpa using e)) e3.symm)), (fun _ => by simp [d12]), (fun h => by have := hD15 (by simpa using h); simpa using this), (fun h k => hN12_13 (by simpa using h) (by simpa using k)), Below.store2 hB hn⟩
    · skip
      have d13 := hdep _ rfl ⟨13, .data⟩ (by simp) rfl
      obtain ⟨nb, z0, z1, rfl, hn, hb, nz0, nz1⟩ := h13 d13
      have d11 := hdep _ rfl ⟨11, .data⟩ (by simp) rfl
      obtain ⟨X_11, c_11, rfl, k_11⟩ := h11 d11
      have fz0 := hb.f (i := 0)
      have cz0 := hb.c (i := 0) rfl
      have fz1 := hb.f (i := 1)
      have cz1 := hb.c (i := 1) rfl
      have hp := hb.put2 (notU2 nz0 nz1) (.bool (sg v)) (.slice X_11 (nl (mg v)) c_11)
      have hs := hb.store2 (.bool (sg v)) (.slice X_11 (nl (mg v)) c_11)
      refine wpOp_step rfl (fun K' hK' => ?_)
      go_simp
      refine hK' _ _ ?_
      exact ⟨_, _, _, _, _, _, _, _, _, _, _, _, _, _, rfl, keepD (by decide) h0, keepD (by decide) h1, keepD (by decide) h2, keepD (by decide) h3, keepP (by decide) h4 (fun h => h.put hp), keepD (by decide) h5, keepD (by decide) h6, keepP (by decide) h7 (fun h => h.put hp), keepD (by decide) h8, keepD (by decide) h9, keepD (by decide) h10, keepP (by decide) h11 (fun h => h.put hp), keepP' (by decide) h12 (fun e h => h.put hp (hN12_13 (by simpa using e) d13)), (fun _ => ⟨nb, _, _, rfl, hn, hs, notU_bool _, notU_slice _ _ _⟩), keepP' (by decide) h14 (fun e h => h.put hp (hN12_13 (hD14 (by simpa using e)) d13)), fun _ => ⟨nb, X_11, c_11, rfl, hn, hs, hp.nat k_11⟩, (fun h => by have := hD14 (by simpa using h); simpa using this), (fun _ => by simp [d13]), (fun h k => hN12_13 (by simpa using h) (by simpa using k)), Below.store2 hB hn⟩
  case fin =>
    rintro E a' w' ⟨u19, u20, u21, u22, u23, u24, u25, u26, u27, u28, u29, u30, u8, u9, rfl, h0, h1, h2, h3, h4, h5, h6, h7, h8, h9, h10, h11, h12, h13, h14, h15, hD14, hD15, hN12_13, hB⟩ hall
    obtain ⟨nbu, Xu, cu, rfl, hnu, Ru, hu⟩ := h14 (hall 14 (by simp))
    obtain ⟨nbv, Xv, cv, rfl, hnv, Rv, hv⟩ := h15 (hall 15 (by simp))
    replace hq := hq.below hB
    replace gq := gq.below hB
    replace hT := hT.below hB
    replace Rq := Rq.below hB
    replace qq0 := cell_below hB qq0
    replace qq1 := cell_below hB qq1
    replace qq2 := cell_below hB qq2
    replace Rr := Rr.below hB
    replace qr0 := cell_below hB qr0
    replace qr1 := cell_below hB qr1
    replace qr2 := cell_below hB qr2
    replace HBT := Below.cons HBT hB
    have kvu := hnu
    have qu0 := Ru.c (i := 0) rfl
    have qu1 := Ru.c (i := 1) rfl
    have kvv := hnv
    have qv0 := Rv.c (i := 0) rfl
    have qv1 := Rv.c (i := 1) rfl
    clear hall
    go_wp2_with (fail)
    have lo2 := lo
    obtain ⟨y, Ey⟩ : ∃ zq : Int, zq = ovr u v dr := ⟨_, rfl⟩
    rw [← Ey] at lo
    refine (Calls.mono (R := RetI w' y) (by rw [Ey]; with_reducible exact over_c Xu cu u Xv cv v dr _ hu hv (by omega) (by omega) v0.out d0 d4) ?_)
    replace Ey := Lib.hid Ey
    rintro e W3 ⟨Xy, cy, rfl, hy, hb3⟩
    replace hq := hq.below hb3
    replace gq := gq.below hb3
    replace hT := hT.below hb3
    replace Rq := Rq.below hb3
    replace qq0 := cell_below hb3 qq0
    replace qq1 := cell_below hb3 qq1
    replace qq2 := cell_below hb3 qq2
    replace Rr := Rr.below hb3
    replace qr0 := cell_below hb3 qr0
    replace qr1 := cell_below hb3 qr1
    replace qr2 := cell_below hb3 qr2
    replace hu := hu.below hb3
    replace Ru := Ru.below hb3
    replace qu0 := cell_below hb3 qu0
    replace qu1 := cell_below hb3 qu1
    replace hv := hv.below hb3
    replace Rv := Rv.below hb3
    replace qv0 := cell_below hb3 qv0
    replace qv1 := cell_below hb3 qv1
    replace HBT := Below.cons HBT hb3
    clear hb3
    go_wp2_with (fail)
    obtain ⟨x, Ex⟩ : ∃ zq : Rat, zq = dval y (-n) := ⟨_, rfl⟩
    refine (Calls.mono (R := RetD W3 x) (by rw [Ex]; with_reducible exact dmake_c Xy cy y (-n) _ hy hT (by omega) (by omega)) ?_)
    replace Ex := Lib.hid Ex
    rintro e W4 ⟨Xx, cx, rfl, hx, hb4⟩
    replace hq := hq.below hb4
    replace gq := gq.below hb4
    replace hT := hT.below hb4
    replace Rq := Rq.below hb4
    replace qq0 := cell_below hb4 qq0
    replace qq1 := cell_below hb4 qq1
    replace qq2 := cell_below hb4 qq2
    replace Rr := Rr.below hb4
    replace qr0 := cell_below hb4 qr0
    replace qr1 := cell_below hb4 qr1
    replace qr2 := cell_below hb4 qr2
    replace hu := hu.below hb4
    replace Ru := Ru.below hb4
    replace qu0 := cell_below hb4 qu0
    replace qu1 := cell_below hb4 qu1
    replace hv := hv.below hb4
    replace Rv := Rv.below hb4
    replace qv0 := cell_below hb4 qv0
    replace qv1 := cell_below hb4 qv1
    replace hy := hy.below hb4
    replace HBT := Below.cons HBT hb4
    clear hb4
    have fzr0 := Rr.f (i := 0)
    have fzr1 := Rr.f (i := 1)
    have fzr2 := Rr.f (i := 2)
    go_wp2_with (fail)
    have eqx : x = dval (rnd dr (q * (2 : Rat) ^ n)) (-n) := by rw [Ex.out, Ey.out, hov.out]
    have RS := Rr.store3 (.bool (sg (dmn x))) (.slice Xx (nl (mg (dmn x))) cx) (.int .i64 (dex x))
    have e0 := RS.c (i := 0) rfl
    have e1 := RS.c (i := 1) rfl
    have e2 := RS.c (i := 2) rfl
    refine bodyPost_ret (v := .tuple #[.agg #[.bool (sg (dmn x)), .slice Xx (nl (mg (dmn x))) cx, .int .i64 (dex x)], .int .i64 0]) (by simp [results, Tryz.results15, go_sem, e0, e1, e2]) rfl ?_
    rw [← eqx]
    exact ⟨Xx, cx, rfl, Rr.keep3 (by intro u hu; simp at hu; rcases hu with rfl | rfl | rfl <;> first | exact notU_bool _ | exact notU_slice _ _ _ | exact notU_i64 _) hx, Below.store3 HBT (by omega)⟩
end Go.Proofs.YtacjfpibilolnaaGreatDoor
