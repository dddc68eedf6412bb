/- A quotient rounded. -/
import Derived.Test.YtacjfpibilolnaaGreatDoorSC37
set_option maxRecDepth 100000
set_option maxHeartbeats 4000000
set_option linter.unusedVariables false
set_option linter.unusedSimpArgs false
namespace Go.Proofs.YtacjfpibilolnaaGreatDoor
open Go.RowKit Go.Shelf
attribute [local go_sem] max2_i min2_i max_two min_two

theorem way_idx0 (W : World) : (Instr.index 81 (.agg #[.func (.func 99) #[] #[], .func (.func 100) #[] #[], .func (.func 101) #[] #[], .func (.func 102) #[] #[], .func (.func 103) #[] #[]]) (.int .i64 0)).run Tryz.prog W = .ok (.agg #[.func (.func 99) #[] #[]]) W := by rfl
theorem way_fld0 (W : World) : (Instr.field 80 (.agg #[.func (.func 99) #[] #[]]) 0).run Tryz.prog W = .ok (.func (.func 99) #[] #[]) W := by rfl
theorem way_idx1 (W : World) : (Instr.index 81 (.agg #[.func (.func 99) #[] #[], .func (.func 100) #[] #[], .func (.func 101) #[] #[], .func (.func 102) #[] #[], .func (.func 103) #[] #[]]) (.int .i64 1)).run Tryz.prog W = .ok (.agg #[.func (.func 100) #[] #[]]) W := by rfl
theorem way_fld1 (W : World) : (Instr.field 80 (.agg #[.func (.func 100) #[] #[]]) 0).run Tryz.prog W = .ok (.func (.func 100) #[] #[]) W := by rfl
theorem way_idx2 (W : World) : (Instr.index 81 (.agg #[.func (.func 99) #[] #[], .func (.func 100) #[] #[], .func (.func 101) #[] #[], .func (.func 102) #[] #[], .func (.func 103) #[] #[]]) (.int .i64 2)).run Tryz.prog W = .ok (.agg #[.func (.func 101) #[] #[]]) W := by rfl
theorem way_fld2 (W : World) : (Instr.field 80 (.agg #[.func (.func 101) #[] #[]]) 0).run Tryz.prog W = .ok (.func (.func 101) #[] #[]) W := by rfl
theorem way_idx3 (W : World) : (Instr.index 81 (.agg #[.func (.func 99) #[] #[], .func (.func 100) #[] #[], .func (.func 101) #[] #[], .func (.func 102) #[] #[], .func (.func 103) #[] #[]]) (.int .i64 3)).run Tryz.prog W = .ok (.agg #[.func (.func 102) #[] #[]]) W := by rfl
theorem way_fld3 (W : World) : (Instr.field 80 (.agg #[.func (.func 102) #[] #[]]) 0).run Tryz.prog W = .ok (.func (.func 102) #[] #[]) W := by rfl
theorem way_idx4 (W : World) : (Instr.index 81 (.agg #[.func (.func 99) #[] #[], .func (.func 100) #[] #[], .func (.func 101) #[] #[], .func (.func 102) #[] #[], .func (.func 103) #[] #[]]) (.int .i64 4)).run Tryz.prog W = .ok (.agg #[.func (.func 103) #[] #[]]) W := by rfl
theorem way_fld4 (W : World) : (Instr.field 80 (.agg #[.func (.func 103) #[] #[]]) 0).run Tryz.prog W = .ok (.func (.func 103) #[] #[]) W := by rfl
/-- The way of a direction: where it lies in the row of ways, and what it says. -/
theorem way_at (dr : Int) (h0 : 0 ≤ dr) (h4 : dr ≤ 4) : ∃ fn : Nat, (fn = 99 ∨ fn = 100 ∨ fn = 101 ∨ fn = 102 ∨ fn = 103) ∧ (∀ W : World, (Instr.index 81 (.agg #[.func (.func 99) #[] #[], .func (.func 100) #[] #[], .func (.func 101) #[] #[], .func (.func 102) #[] #[], .func (.func 103) #[] #[]]) (.int .i64 dr)).run Tryz.prog W = .ok (.agg #[.func (.func fn) #[] #[]]) W) ∧
    (∀ W : World, (Instr.field 80 (.agg #[.func (.func fn) #[] #[]]) 0).run Tryz.prog W = .ok (.func (.func fn) #[] #[]) W) ∧
    (∀ (neg odd : Bool) (h b : Int) (w : World), Calls Tryz.prog fn #[.bool neg, .bool odd, .int .i64 (icmp h b)] w fun e w' => e = .returned (.bool (upw neg odd (h - b) dr)) ∧ Below w.heap.size w w') := by
  obtain rfl | rfl | rfl | rfl | rfl : dr = 0 ∨ dr = 1 ∨ dr = 2 ∨ dr = 3 ∨ dr = 4 := by omega
  · exact ⟨99, Or.inl rfl, way_idx0, way_fld0, way1_c⟩
  · exact ⟨100, Or.inr (Or.inl rfl), way_idx1, way_fld1, way2_c⟩
  · exact ⟨101, Or.inr (Or.inr (Or.inl rfl)), way_idx2, way_fld2, way3_c⟩
  · exact ⟨102, Or.inr (Or.inr (Or.inr (Or.inl rfl))), way_idx3, way_fld3, way4_c⟩
  · exact ⟨103, Or.inr (Or.inr (Or.inr (Or.inr rfl))), way_idx4, way_fld4, way5_c⟩
theorem over_z (aA : Option Addr) (ac : Nat) (a : Int) (bA : Option Addr) (bc : Nat) (b : Int) (dr : Int) (w : World) (ha : NatV w aA ac (mg a)) (hb : NatV w bA bc (mg b))  (d0 : 0 ≤ dr) (d4 : dr ≤ 4) (la : nl (mg a) ≤ 1000000) (lb : nl (mg b) ≤ 1000000) (hb0 : 0 < b) (h0 : a % b = 0) :
    Calls Tryz.prog 65 #[.agg #[.bool (sg a), .slice aA (nl (mg a)) ac], .agg #[.bool (sg b), .slice bA (nl (mg b)) bc], .int .i64 dr] w (RetI w (ovr a b dr)) := by
  have lr0 := rest_le (a := a) hb0
  have lq0 := quo_le a b
  have ld0 := dbl_le (r := a % b)
  have hov : ovr a b dr = a / b := by unfold ovr; rw [if_pos h0]
  replace hov := Lib.hid hov
  replace h0 := Lib.hid h0
  obtain ⟨hb1, Ra, Rb, Rr⟩ := bx3 w #[.bool (sg a), .slice aA (nl (mg a)) ac] 24 #[.bool (sg b), .slice bA (nl (mg b)) bc] 24 #[.bool false, .slice none 0 0] 24
  replace ha := ha.below hb1
  replace hb := hb.below hb1
  have HBT := hb1
  clear hb1
  have qa0 := Ra.c (i := 0) rfl
  have qa1 := Ra.c (i := 1) rfl
  have qb0 := Rb.c (i := 0) rfl
  have qb1 := Rb.c (i := 1) rfl
  have qr0 := Rr.c (i := 0) rfl
  have qr1 := Rr.c (i := 1) rfl
  go_enter Tryz.func65, Tryz.ntmps65
  go_wp2_with (fail)
  obtain ⟨q, Eq⟩ : ∃ zq : Int, zq = a / b := ⟨_, rfl⟩
  have lq : nl (mg q) ≤ 1000000 := by rw [Eq]; omega
  obtain ⟨m, Em⟩ : ∃ zq : Int, zq = a % b := ⟨_, rfl⟩
  have lm : nl (mg m) ≤ 1000000 := by rw [Em]; omega
  have dm2 : nl (mg (2 * m)) ≤ 1000001 := by rw [Em]; omega
  have CT2 := (idiv_c aA ac a bA bc b _ ha hb (by omega) (by omega) (by omega))
  rw [← Eq, ← Em] at CT2
  replace Eq := Lib.hid Eq
  replace Em := Lib.hid Em
  replace CT2 := Lib.hid CT2
  refine (Calls.mono CT2.out ?_)
  clear CT2
  rintro e W2 ⟨Xq, cq, Xm, cm, rfl, hq, hm, hb2⟩
  replace ha := ha.below hb2
  replace hb := hb.below hb2
  replace Ra := Ra.below hb2
  replace qa0 := cbl hb2 qa0
  replace qa1 := cbl hb2 qa1
  replace Rb := Rb.below hb2
  replace qb0 := cbl hb2 qb0
  replace qb1 := cbl hb2 qb1
  replace Rr := Rr.below hb2
  replace qr0 := cbl hb2 qr0
  replace qr1 := cbl hb2 qr1
  replace HBT := Below.cons HBT hb2
  clear hb2
  clear lr0 lq0 ld0
  have szr := Rr.lt
  go_wp2_with (fail)
  obtain ⟨hb3, Rq, Rm⟩ := bx2 W2 #[.bool (sg q), .slice Xq (nl (mg q)) cq] 24 #[.bool (sg m), .slice Xm (nl (mg m)) cm] 24
  replace ha := ha.below hb3
  replace hb := hb.below hb3
  replace Ra := Ra.below hb3
  replace qa0 := cbl hb3 qa0
  replace qa1 := cbl hb3 qa1
  replace Rb := Rb.below hb3
  replace qb0 := cbl hb3 qb0
  replace qb1 := cbl hb3 qb1
  replace Rr := Rr.below hb3
  replace qr0 := cbl hb3 qr0
  replace qr1 := cbl hb3 qr1
  replace hq := hq.below hb3
  replace hm := hm.below hb3
  replace HBT := Below.cons HBT hb3
  clear hb3
  have qq0 := Rq.c (i := 0) rfl
  have qq1 := Rq.c (i := 1) rfl
  have qm0 := Rm.c (i := 0) rfl
  have qm1 := Rm.c (i := 1) rfl
  have hsg : m.sign = 0 := by rw [Em.out, h0.out]; rfl
  have CG := isign_c Xm cm m ((W2.alloc (.cells #[.bool (sg q), .slice Xq (nl (mg q)) cq] 24)).alloc (.cells #[.bool (sg m), .slice Xm (nl (mg m)) cm] 24))
  rw [hsg] at CG
  replace hsg := Lib.hid hsg
  refine (Calls.mono (CG) ?_)
  rintro e W4 ⟨rfl, hb4⟩
  replace ha := ha.below hb4
  replace hb := hb.below hb4
  replace Ra := Ra.below hb4
  replace qa0 := cbl hb4 qa0
  replace qa1 := cbl hb4 qa1
  replace Rb := Rb.below hb4
  replace qb0 := cbl hb4 qb0
  replace qb1 := cbl hb4 qb1
  replace Rr := Rr.below hb4
  replace qr0 := cbl hb4 qr0
  replace qr1 := cbl hb4 qr1
  replace hq := hq.below hb4
  replace hm := hm.below hb4
  replace Rq := Rq.below hb4
  replace qq0 := cbl hb4 qq0
  replace qq1 := cbl hb4 qq1
  replace Rm := Rm.below hb4
  replace qm0 := cbl hb4 qm0
  replace qm1 := cbl hb4 qm1
  replace HBT := Below.cons HBT hb4
  clear hb4
  have fzr0 := Rr.f (i := 0)
  have fzr1 := Rr.f (i := 1)
  go_wp2_with (fail)
  have hzq : q = ovr a b dr := by rw [Eq.out, hov.out]
  subst hzq
  have RS := Rr.store2 (.bool (sg ((ovr a b dr)))) (.slice Xq (nl (mg ((ovr a b dr)))) cq)
  have e0 := RS.c (i := 0) rfl
  have e1 := RS.c (i := 1) rfl
  refine bodyPost_ret (v := .agg #[.bool (sg ((ovr a b dr))), .slice Xq (nl (mg ((ovr a b dr)))) cq]) (by simp [results, Tryz.results65, go_sem, e0, e1]) rfl ?_
  exact ⟨Xq, cq, rfl, (Rr.keep2 (nuB rfl) hq), (Below.store2 HBT (by first | exact Nat.le_refl _ | omega))⟩
theorem over_q (aA : Option Addr) (ac : Nat) (a : Int) (bA : Option Addr) (bc : Nat) (b : Int) (dr : Int) (w : World) (ha : NatV w aA ac (mg a)) (hb : NatV w bA bc (mg b))  (d0 : 0 ≤ dr) (d4 : dr ≤ 4) (la : nl (mg a) ≤ 1000000) (lb : nl (mg b) ≤ 1000000) (hb0 : 0 < b) (h0 : a % b ≠ 0) (h1 : a / b = 0) :
    Calls Tryz.prog 65 #[.agg #[.bool (sg a), .slice aA (nl (mg a)) ac], .agg #[.bool (sg b), .slice bA (nl (mg b)) bc], .int .i64 dr] w (RetI w (ovr a b dr)) := by
  have lr0 := rest_le (a := a) hb0
  have lq0 := quo_le a b
  have ld0 := dbl_le (r := a % b)
  have hov : ovr a b dr = if upw (sg a) (decide (a / b % 2 = 1)) (2 * (a % b) - b) dr then a / b + 1 else a / b := by unfold ovr; rw [if_neg h0]
  replace hov := Lib.hid hov
  replace h0 := Lib.hid h0
  replace h1 := Lib.hid h1
  obtain ⟨hb1, Ra, Rb, Rr⟩ := bx3 w #[.bool (sg a), .slice aA (nl (mg a)) ac] 24 #[.bool (sg b), .slice bA (nl (mg b)) bc] 24 #[.bool false, .slice none 0 0] 24
  replace ha := ha.below hb1
  replace hb := hb.below hb1
  have HBT := hb1
  clear hb1
  have qa0 := Ra.c (i := 0) rfl
  have qa1 := Ra.c (i := 1) rfl
  have qb0 := Rb.c (i := 0) rfl
  have qb1 := Rb.c (i := 1) rfl
  have qr0 := Rr.c (i := 0) rfl
  have qr1 := Rr.c (i := 1) rfl
  go_enter Tryz.func65, Tryz.ntmps65
  go_wp2_with (fail)
  obtain ⟨q, Eq⟩ : ∃ zq : Int, zq = a / b := ⟨_, rfl⟩
  have lq : nl (mg q) ≤ 1000000 := by rw [Eq]; omega
  obtain ⟨m, Em⟩ : ∃ zq : Int, zq = a % b := ⟨_, rfl⟩
  have lm : nl (mg m) ≤ 1000000 := by rw [Em]; omega
  have dm2 : nl (mg (2 * m)) ≤ 1000001 := by rw [Em]; omega
  have CT2 := (idiv_c aA ac a bA bc b _ ha hb (by omega) (by omega) (by omega))
  rw [← Eq, ← Em] at CT2
  replace Eq := Lib.hid Eq
  replace Em := Lib.hid Em
  replace CT2 := Lib.hid CT2
  refine (Calls.mono CT2.out ?_)
  clear CT2
  rintro e W2 ⟨Xq, cq, Xm, cm, rfl, hq, hm, hb2⟩
  replace ha := ha.below hb2
  replace hb := hb.below hb2
  replace Ra := Ra.below hb2
  replace qa0 := cbl hb2 qa0
  replace qa1 := cbl hb2 qa1
  replace Rb := Rb.below hb2
  replace qb0 := cbl hb2 qb0
  replace qb1 := cbl hb2 qb1
  replace Rr := Rr.below hb2
  replace qr0 := cbl hb2 qr0
  replace qr1 := cbl hb2 qr1
  replace HBT := Below.cons HBT hb2
  clear hb2
  clear lr0 lq0 ld0
  have szr := Rr.lt
  go_wp2_with (fail)
  obtain ⟨hb3, Rq, Rm⟩ := bx2 W2 #[.bool (sg q), .slice Xq (nl (mg q)) cq] 24 #[.bool (sg m), .slice Xm (nl (mg m)) cm] 24
  replace ha := ha.below hb3
  replace hb := hb.below hb3
  replace Ra := Ra.below hb3
  replace qa0 := cbl hb3 qa0
  replace qa1 := cbl hb3 qa1
  replace Rb := Rb.below hb3
  replace qb0 := cbl hb3 qb0
  replace qb1 := cbl hb3 qb1
  replace Rr := Rr.below hb3
  replace qr0 := cbl hb3 qr0
  replace qr1 := cbl hb3 qr1
  replace hq := hq.below hb3
  replace hm := hm.below hb3
  replace HBT := Below.cons HBT hb3
  clear hb3
  have qq0 := Rq.c (i := 0) rfl
  have qq1 := Rq.c (i := 1) rfl
  have qm0 := Rm.c (i := 0) rfl
  have qm1 := Rm.c (i := 1) rfl
  have hsg : (m.sign == 0) = false := by have := h0.out; rw [← Em.out] at this; simp; exact this
  obtain ⟨sn, Esn⟩ : ∃ sn, sn = m.sign := ⟨_, rfl⟩
  have CG := isign_c Xm cm m ((W2.alloc (.cells #[.bool (sg q), .slice Xq (nl (mg q)) cq] 24)).alloc (.cells #[.bool (sg m), .slice Xm (nl (mg m)) cm] 24))
  rw [← Esn] at CG hsg
  replace Esn := Lib.hid Esn
  have t1 : decide (0 < ((nl (mg q) : Nat) : Int)) = false := by rw [Eq.out, h1.out, mg0, nl_zero]; rfl
  have t2 : decide (0 < nl (mg q)) = false := by rw [Eq.out, h1.out, mg0, nl_zero]; rfl
  refine (Calls.mono (CG) ?_)
  rintro e W4 ⟨rfl, hb4⟩
  replace ha := ha.below hb4
  replace hb := hb.below hb4
  replace Ra := Ra.below hb4
  replace qa0 := cbl hb4 qa0
  replace qa1 := cbl hb4 qa1
  replace Rb := Rb.below hb4
  replace qb0 := cbl hb4 qb0
  replace qb1 := cbl hb4 qb1
  replace Rr := Rr.below hb4
  replace qr0 := cbl hb4 qr0
  replace qr1 := cbl hb4 qr1
  replace hq := hq.below hb4
  replace hm := hm.below hb4
  replace Rq := Rq.below hb4
  replace qq0 := cbl hb4 qq0
  replace qq1 := cbl hb4 qq1
  replace Rm := Rm.below hb4
  replace qm0 := cbl hb4 qm0
  replace qm1 := cbl hb4 qm1
  replace HBT := Below.cons HBT hb4
  clear hb4
  go_wp2_with (fail)
  have eod : decide (q % 2 = 1) = false := by rw [Eq.out, h1.out]; rfl
  obtain ⟨m2, Em2⟩ : ∃ z, z = 2 * m := ⟨_, rfl⟩
  rw [← Em2] at dm2
  have CS := fun (W : World) (h1 : NatV W Xm cm (mg m)) => ishift_c Xm cm m 1 W h1 (by omega) (by omega)
  simp only [shf_twice, ← Em2] at CS
  obtain ⟨fn, hfn, wi, wf, CW0⟩ := way_at dr d0 d4
  replace hfn := Lib.hid hfn
  obtain ⟨up, Eup⟩ : ∃ z, z = upw (sg a) false (m2 - b) dr := ⟨_, rfl⟩
  have CW := CW0 (sg a) false m2 b
  rw [← Eup] at CW
  clear CW0
  have hov2 : ovr a b dr = if up = true then q + 1 else q := by rw [hov.out, Eup, Em2, ← Eq.out, ← Em.out, eod]
  replace CS := Lib.hid CS
  replace CW := Lib.hid CW
  replace Em2 := Lib.hid Em2
  replace Eup := Lib.hid Eup
  replace hov2 := Lib.hid hov2
  refine wp_region_inv (fun E a' w' => ∃ (u34 u35 u36 u37 u38 u39 u40 u41 u42 u43 u44 u45 : Value),
    a' = { tmps := #[.agg #[.bool (sg a), .slice aA (nl (mg a)) ac], .agg #[.bool (sg b), .slice bA (nl (mg b)) bc], .int .i64 dr, .pointer (some ⟨w.heap.size, 0, none⟩), .pointer (some ⟨(w.heap.size + 1), 0, none⟩), undef, .pointer (some ⟨(w.heap.size + 1 + 1), 0, none⟩), .pointer (some ⟨W2.heap.size, 0, none⟩), .pointer (some ⟨(W2.heap.size + 1), 0, none⟩), .int .i64 0, .bool false, .tuple #[.agg #[.bool (sg q), .slice Xq (nl (mg q)) cq], .agg #[.bool (sg m), .slice Xm (nl (mg m)) cm], .int .i64 0], .agg #[.bool (sg a), .slice aA (nl (mg a)) ac], .agg #[.bool (sg b), .slice bA (nl (mg b)) bc], .tuple #[.agg #[.bool (sg q), .slice Xq (nl (mg q)) cq], .agg #[.bool (sg m), .slice Xm (nl (mg m)) cm], .int .i64 0], .agg #[.bool (sg q), .slice Xq (nl (mg q)) cq], .agg #[.bool (sg m), .slice Xm (nl (mg m)) cm], .int .i64 0, .agg #[.bool (sg m), .slice Xm (nl (mg m)) cm], .int .i64 sn, .bool false, undef, .pointer (some ⟨W2.heap.size, 1, none⟩), .slice Xq (nl (mg q)) cq, .int .i64 (nl (mg q)), .bool false, .bool false, undef, undef, undef, undef, undef, undef, .bool false, u34, u35, u36, u37, u38, u39, u40, u41, u42, u43, u44, u45, undef, undef, undef, undef], defers := [] } ∧
    (E 0 = true → u34 = (.agg #[.func (.func 99) #[] #[], .func (.func 100) #[] #[], .func (.func 101) #[] #[], .func (.func 102) #[] #[], .func (.func 103) #[] #[]])) ∧
    (E 1 = true → u35 = .int .i64 dr) ∧
    (E 2 = true → u36 = .agg #[.func (.func fn) #[] #[]]) ∧
    (E 3 = true → u37 = .func (.func fn) #[] #[]) ∧
    (E 4 = true → u38 = .pointer (some ⟨w.heap.size, 0, none⟩)) ∧
    (E 5 = true → u39 = .bool (sg a)) ∧
    (E 6 = true → u40 = .bool false) ∧
    (E 7 = true → u41 = .agg #[.bool (sg m), .slice Xm (nl (mg m)) cm]) ∧
    (E 8 = true → PI u42 m2 w') ∧
    (E 9 = true → u43 = .agg #[.bool (sg b), .slice bA (nl (mg b)) bc]) ∧
    (E 10 = true → u44 = .int .i64 (icmp m2 b)) ∧
    (E 11 = true → u45 = .bool up) ∧
    Below W4.heap.size W4 w') (by kernel_rfl) (by kernel_rfl) ?init ?fin ?step
  case init => exact ⟨_, _, _, _, _, _, _, _, _, _, _, _, rfl, by simp, by simp, by simp, by simp, by simp, by simp, by simp, by simp, by simp, by simp, by simp, by simp, (Below.refl _ _).drew⟩
  case step =>
    rintro E a' w' i ⟨u34, u35, u36, u37, u38, u39, u40, u41, u42, u43, u44, u45, rfl, h0, h1, h2, h3, h4, h5, h6, h7, h8, h9, h10, h11, hB⟩ hi hEi hdep
    have qa0 := cbl hB qa0
    have qa1 := cbl hB qa1
    have qb0 := cbl hB qb0
    have qb1 := cbl hB qb1
    have qm0 := cbl hB qm0
    have qm1 := cbl hB qm1
    obtain rfl | rfl | rfl | rfl | rfl | rfl | rfl | rfl | rfl | rfl | rfl | rfl : i = 0 ∨ i = 1 ∨ i = 2 ∨ i = 3 ∨ i = 4 ∨ i = 5 ∨ i = 6 ∨ i = 7 ∨ i = 8 ∨ i = 9 ∨ i = 10 ∨ i = 11 := by simp at hi; omega
    · skip
      refine wpOp_step rfl (fun K' hK' => ?_)
      go_simp
      refine (Calls.mono (ways_c w') ?_)
      rintro e W1 ⟨rfl, kb⟩
      refine hK' _ _ ?_
      exact ⟨_, _, _, _, _, _, _, _, _, _, _, _, rfl, fun _ => rfl, keepD (by decide) h1, keepD (by decide) h2, keepD (by decide) h3, keepD (by decide) h4, keepD (by decide) h5, keepD (by decide) h6, keepD (by decide) h7, keepP (by decide) h8 (fun h => h.below kb), keepD (by decide) h9, keepD (by decide) h10, keepD (by decide) h11, Below.cons hB kb⟩
    · skip
      refine wpOp_step rfl (fun K' hK' => ?_)
      go_simp
      refine hK' _ _ ?_
      exact ⟨_, _, _, _, _, _, _, _, _, _, _, _, rfl, keepD (by decide) h0, fun _ => rfl, keepD (by decide) h2, keepD (by decide) h3, keepD (by decide) h4, keepD (by decide) h5, keepD (by decide) h6, keepD (by decide) h7, keepD (by decide) h8, keepD (by decide) h9, keepD (by decide) h10, keepD (by decide) h11, hB⟩
    · skip
      have d0 := hdep _ rfl ⟨0, .data⟩ (by simp) rfl
      obtain rfl := h0 d0
      have d1 := hdep _ rfl ⟨1, .data⟩ (by simp) rfl
      obtain rfl := h1 d1
      refine wpOp_step rfl (fun K' hK' => ?_)
      go_simp
      refine hK' _ _ ?_
      exact ⟨_, _, _, _, _, _, _, _, _, _, _, _, rfl, keepD (by decide) h0, keepD (by decide) h1, fun _ => rfl, keepD (by decide) h3, keepD (by decide) h4, keepD (by decide) h5, keepD (by decide) h6, keepD (by decide) h7, keepD (by decide) h8, keepD (by decide) h9, keepD (by decide) h10, keepD (by decide) h11, hB⟩
    · skip
      have d2 := hdep _ rfl ⟨2, .data⟩ (by simp) rfl
      obtain rfl := h2 d2
      refine wpOp_step rfl (fun K' hK' => ?_)
      go_simp
      refine hK' _ _ ?_
      exact ⟨_, _, _, _, _, _, _, _, _, _, _, _, rfl, keepD (by decide) h0, keepD (by decide) h1, keepD (by decide) h2, fun _ => rfl, keepD (by decide) h4, keepD (by decide) h5, keepD (by decide) h6, keepD (by decide) h7, keepD (by decide) h8, keepD (by decide) h9, keepD (by decide) h10, keepD (by decide) h11, hB⟩
    · skip
      refine wpOp_step rfl (fun K' hK' => ?_)
      go_simp
      refine hK' _ _ ?_
      exact ⟨_, _, _, _, _, _, _, _, _, _, _, _, rfl, keepD (by decide) h0, keepD (by decide) h1, keepD (by decide) h2, keepD (by decide) h3, fun _ => rfl, keepD (by decide) h5, keepD (by decide) h6, keepD (by decide) h7, keepD (by decide) h8, keepD (by decide) h9, keepD (by decide) h10, keepD (by decide) h11, hB⟩
    · skip
      have d4 := hdep _ rfl ⟨4, .data⟩ (by simp) rfl
      obtain rfl := h4 d4
      refine wpOp_step rfl (fun K' hK' => ?_)
      go_simp
      refine hK' _ _ ?_
      exact ⟨_, _, _, _, _, _, _, _, _, _, _, _, rfl, keepD (by decide) h0, keepD (by decide) h1, keepD (by decide) h2, keepD (by decide) h3, keepD (by decide) h4, fun _ => rfl, keepD (by decide) h6, keepD (by decide) h7, keepD (by decide) h8, keepD (by decide) h9, keepD (by decide) h10, keepD (by decide) h11, hB⟩
    · skip
      refine wpOp_step rfl (fun K' hK' => ?_)
      go_simp
      refine hK' _ _ ?_
      exact ⟨_, _, _, _, _, _, _, _, _, _, _, _, rfl, keepD (by decide) h0, keepD (by decide) h1, keepD (by decide) h2, keepD (by decide) h3, keepD (by decide) h4, keepD (by decide) h5, fun _ => rfl, keepD (by decide) h7, keepD (by decide) h8, keepD (by decide) h9, keepD (by decide) h10, keepD (by decide) h11, hB⟩
    · skip
      refine wpOp_step rfl (fun K' hK' => ?_)
      go_simp
      refine hK' _ _ ?_
      exact ⟨_, _, _, _, _, _, _, _, _, _, _, _, rfl, keepD (by decide) h0, keepD (by decide) h1, keepD (by decide) h2, keepD (by decide) h3, keepD (by decide) h4, keepD (by decide) h5, keepD (by decide) h6, fun _ => rfl, keepD (by decide) h8, keepD (by decide) h9, keepD (by decide) h10, keepD (by decide) h11, hB⟩
    · skip
      have d7 := hdep _ rfl ⟨7, .data⟩ (by simp) rfl
      obtain rfl := h7 d7
      refine wpOp_step rfl (fun K' hK' => ?_)
      go_simp
      refine (Calls.mono (CS.out w' (hm.below hB)) ?_)
      rintro e W1 ⟨Xr, cr, rfl, kr, kb⟩
      refine hK' _ _ ?_
      exact ⟨_, _, _, _, _, _, _, _, _, _, _, _, rfl, keepD (by decide) h0, keepD (by decide) h1, keepD (by decide) h2, keepD (by decide) h3, keepD (by decide) h4, keepD (by decide) h5, keepD (by decide) h6, keepD (by decide) h7, fun _ => ⟨Xr, cr, rfl, kr⟩, keepD (by decide) h9, keepD (by decide) h10, keepD (by decide) h11, Below.cons hB kb⟩
    · skip
      refine wpOp_step rfl (fun K' hK' => ?_)
      go_simp
      refine hK' _ _ ?_
      exact ⟨_, _, _, _, _, _, _, _, _, _, _, _, rfl, keepD (by decide) h0, keepD (by decide) h1, keepD (by decide) h2, keepD (by decide) h3, keepD (by decide) h4, keepD (by decide) h5, keepD (by decide) h6, keepD (by decide) h7, keepD (by decide) h8, fun _ => rfl, keepD (by decide) h10, keepD (by decide) h11, hB⟩
    · skip
      have d8 := hdep _ rfl ⟨8, .data⟩ (by simp) rfl
      obtain ⟨X_8, c_8, rfl, k_8⟩ := h8 d8
      have d9 := hdep _ rfl ⟨9, .data⟩ (by simp) rfl
      obtain rfl := h9 d9
      refine wpOp_step rfl (fun K' hK' => ?_)
      go_simp
      refine (Calls.mono (icmp_c X_8 c_8 m2 bA bc b w' k_8 (hb.below hB) (by omega) (by omega)) ?_)
      rintro e W1 ⟨rfl, kb⟩
      refine hK' _ _ ?_
      exact ⟨_, _, _, _, _, _, _, _, _, _, _, _, rfl, keepD (by decide) h0, keepD (by decide) h1, keepD (by decide) h2, keepD (by decide) h3, keepD (by decide) h4, keepD (by decide) h5, keepD (by decide) h6, keepD (by decide) h7, keepP (by decide) h8 (fun h => h.below kb), keepD (by decide) h9, fun _ => rfl, keepD (by decide) h11, Below.cons hB kb⟩
    · skip
      have d3 := hdep _ rfl ⟨3, .data⟩ (by simp) rfl
      obtain rfl := h3 d3
      have d5 := hdep _ rfl ⟨5, .data⟩ (by simp) rfl
      obtain rfl := h5 d5
      have d6 := hdep _ rfl ⟨6, .data⟩ (by simp) rfl
      obtain rfl := h6 d6
      have d10 := hdep _ rfl ⟨10, .data⟩ (by simp) rfl
      obtain rfl := h10 d10
      rcases hfn.out with rfl | rfl | rfl | rfl | rfl
      all_goals refine wpOp_step rfl (fun K' hK' => ?_)
      all_goals go_simp
      all_goals refine (Calls.mono (CW.out w') ?_)
      all_goals rintro e W1 ⟨rfl, kb⟩
      all_goals refine hK' _ _ ?_
      all_goals exact ⟨_, _, _, _, _, _, _, _, _, _, _, _, rfl, keepD (by decide) h0, keepD (by decide) h1, keepD (by decide) h2, keepD (by decide) h3, keepD (by decide) h4, keepD (by decide) h5, keepD (by decide) h6, keepD (by decide) h7, keepP (by decide) h8 (fun h => h.below kb), keepD (by decide) h9, keepD (by decide) h10, fun _ => rfl, Below.cons hB kb⟩
  case fin =>
    rintro E a' w' ⟨u34, u35, u36, u37, u38, u39, u40, u41, u42, u43, u44, u45, rfl, h0, h1, h2, h3, h4, h5, h6, h7, h8, h9, h10, h11, hB⟩ hall
    replace ha := ha.below hB
    replace hb := hb.below hB
    replace Ra := Ra.below hB
    replace qa0 := cbl hB qa0
    replace qa1 := cbl hB qa1
    replace Rb := Rb.below hB
    replace qb0 := cbl hB qb0
    replace qb1 := cbl hB qb1
    replace Rr := Rr.below hB
    replace qr0 := cbl hB qr0
    replace qr1 := cbl hB qr1
    replace hq := hq.below hB
    replace hm := hm.below hB
    replace Rq := Rq.below hB
    replace qq0 := cbl hB qq0
    replace qq1 := cbl hB qq1
    replace Rm := Rm.below hB
    replace qm0 := cbl hB qm0
    replace qm1 := cbl hB qm1
    replace HBT := Below.cons HBT hB
    obtain rfl := h11 (hall 11 (by simp))
    clear hall
    cases up
    case false =>
      have fzr0 := Rr.f (i := 0)
      have fzr1 := Rr.f (i := 1)
      go_wp2_with (fail)
      have hzq : q = ovr a b dr := by have := hov2.out; simpa using this.symm
      subst hzq
      have RS := Rr.store2 (.bool (sg ((ovr a b dr)))) (.slice Xq (nl (mg ((ovr a b dr)))) cq)
      have e0 := RS.c (i := 0) rfl
      have e1 := RS.c (i := 1) rfl
      refine bodyPost_ret (v := .agg #[.bool (sg ((ovr a b dr))), .slice Xq (nl (mg ((ovr a b dr)))) cq]) (by simp [results, Tryz.results65, go_sem, e0, e1]) rfl ?_
      exact ⟨Xq, cq, rfl, (Rr.keep2 (nuB rfl) hq), (Below.store2 HBT (by first | exact Nat.le_refl _ | omega))⟩
    case true =>
      go_wp2_with (fail)
      have hd5 := drb (w')
      replace ha := ha.below hd5
      replace hb := hb.below hd5
      replace Ra := Ra.below hd5
      replace qa0 := cbl hd5 qa0
      replace qa1 := cbl hd5 qa1
      replace Rb := Rb.below hd5
      replace qb0 := cbl hd5 qb0
      replace qb1 := cbl hd5 qb1
      replace Rr := Rr.below hd5
      replace qr0 := cbl hd5 qr0
      replace qr1 := cbl hd5 qr1
      replace hq := hq.below hd5
      replace hm := hm.below hd5
      replace Rq := Rq.below hd5
      replace qq0 := cbl hd5 qq0
      replace qq1 := cbl hd5 qq1
      replace Rm := Rm.below hd5
      replace qm0 := cbl hd5 qm0
      replace qm1 := cbl hd5 qm1
      replace HBT := Below.cons HBT hd5
      clear hd5
      obtain ⟨o1, Eo1⟩ : ∃ zq : Int, zq = (1 : Int) := ⟨_, rfl⟩
      have No1 : nl (mg o1) ≤ 1 := by rw [Eo1]; exact Nat.le_of_eq nl_one
      have C5_0 := fun (W : World) => (show Calls Tryz.prog 68 #[.int .i64 1] W (RetI W o1) by rw [Eo1]; exact iof1_c W)
      replace Eo1 := Lib.hid Eo1
      replace C5_0 := Lib.hid C5_0
      obtain ⟨y, Ey⟩ : ∃ zq : Int, zq = q + o1 := ⟨_, rfl⟩
      have C5_1 := fun (W : World) (A : Option Addr) (c : Nat) (h1 : NatV W Xq cq (mg q)) (h2 : NatV W A c (mg o1)) => iadd_c Xq cq q A c o1 W h1 h2 (by omega) (by omega)
      simp only [← Ey] at C5_1
      replace Ey := Lib.hid Ey
      replace C5_1 := Lib.hid C5_1
      go_region_held3 (fun W => W.cell? ⟨W2.heap.size, 0, none⟩ = some (.bool (sg q)) ∧ W.cell? ⟨W2.heap.size, 1, none⟩ = some (.slice Xq (nl (mg q)) cq))
        (first
          | exact ⟨qq0, qq1⟩
          | exact ⟨qq0_6, qq1_6⟩
          | exact ⟨qq0_7, qq1_7⟩
          | exact ⟨((Rq_7.other2 (by simp <;> omega)).c (i := 0) rfl), ((Rq_7.other2 (by simp <;> omega)).c (i := 1) rfl)⟩
          | go_keep)
        (first
          | (go_at_call 68; (with_reducible refine (C5_0.out _).mono ?_); rintro e W6 ⟨Xo1, co1, rfl, ho1, hb6⟩; have ha_6 := ha.below hb6; have hb_6 := hb.below hb6; have Ra_6 := Ra.below hb6; have qa0_6 := cbl hb6 qa0; have qa1_6 := cbl hb6 qa1; have Rb_6 := Rb.below hb6; have qb0_6 := cbl hb6 qb0; have qb1_6 := cbl hb6 qb1; have Rr_6 := Rr.below hb6; have qr0_6 := cbl hb6 qr0; have qr1_6 := cbl hb6 qr1; have hq_6 := hq.below hb6; have hm_6 := hm.below hb6; have Rq_6 := Rq.below hb6; have qq0_6 := cbl hb6 qq0; have qq1_6 := cbl hb6 qq1; have Rm_6 := Rm.below hb6; have qm0_6 := cbl hb6 qm0; have qm1_6 := cbl hb6 qm1; have HBT_6 := Below.cons HBT hb6)
          | (go_at_call 91; (with_reducible refine (C5_1.out _ _ _ hq_6 ho1).mono ?_); rintro e W7 ⟨Xy, cy, rfl, hy, hb7⟩; have ha_7 := ha_6.below hb7; have hb_7 := hb_6.below hb7; have Ra_7 := Ra_6.below hb7; have qa0_7 := cbl hb7 qa0_6; have qa1_7 := cbl hb7 qa1_6; have Rb_7 := Rb_6.below hb7; have qb0_7 := cbl hb7 qb0_6; have qb1_7 := cbl hb7 qb1_6; have Rr_7 := Rr_6.below hb7; have qr0_7 := cbl hb7 qr0_6; have qr1_7 := cbl hb7 qr1_6; have hq_7 := hq_6.below hb7; have hm_7 := hm_6.below hb7; have Rq_7 := Rq_6.below hb7; have qq0_7 := cbl hb7 qq0_6; have qq1_7 := cbl hb7 qq1_6; have Rm_7 := Rm_6.below hb7; have qm0_7 := cbl hb7 qm0_6; have qm1_7 := cbl hb7 qm1_6; have ho1_7 := ho1.below hb7; have HBT_7 := Below.cons HBT_6 hb7; have fz0 := Rr_7.f (i := 0); have fz1 := Rr_7.f (i := 1)))
      all_goals (try go_wp2_with (fail))
      have hzy : y = ovr a b dr := by rw [Ey.out, Eo1.out]; have := hov2.out; simpa using this.symm
      subst hzy
      have RS := Rr_7.store2 (.bool (sg ((ovr a b dr)))) (.slice Xy (nl (mg ((ovr a b dr)))) cy)
      have e0 := RS.c (i := 0) rfl
      have e1 := RS.c (i := 1) rfl
      refine bodyPost_ret (v := .agg #[.bool (sg ((ovr a b dr))), .slice Xy (nl (mg ((ovr a b dr)))) cy]) (by simp [results, Tryz.results65, go_sem, e0, e1]) rfl ?_
      exact ⟨Xy, cy, rfl, (Rr_7.keep2 (nuB rfl) hy), (Below.store2 HBT_7 (by first | exact Nat.le_refl _ | omega))⟩
theorem over_n (aA : Option Addr) (ac : Nat) (a : Int) (bA : Option Addr) (bc : Nat) (b : Int) (dr : Int) (w : World) (ha : NatV w aA ac (mg a)) (hb : NatV w bA bc (mg b))  (d0 : 0 ≤ dr) (d4 : dr ≤ 4) (la : nl (mg a) ≤ 1000000) (lb : nl (mg b) ≤ 1000000) (hb0 : 0 < b) (h0 : a % b ≠ 0) (h1 : a / b ≠ 0) :
    Calls Tryz.prog 65 #[.agg #[.bool (sg a), .slice aA (nl (mg a)) ac], .agg #[.bool (sg b), .slice bA (nl (mg b)) bc], .int .i64 dr] w (RetI w (ovr a b dr)) := by
  have lr0 := rest_le (a := a) hb0
  have lq0 := quo_le a b
  have ld0 := dbl_le (r := a % b)
  have hov : ovr a b dr = if upw (sg a) (decide (a / b % 2 = 1)) (2 * (a % b) - b) dr then a / b + 1 else a / b := by unfold ovr; rw [if_neg h0]
  replace hov := Lib.hid hov
  replace h0 := Lib.hid h0
  replace h1 := Lib.hid h1
  obtain ⟨hb1, Ra, Rb, Rr⟩ := bx3 w #[.bool (sg a), .slice aA (nl (mg a)) ac] 24 #[.bool (sg b), .slice bA (nl (mg b)) bc] 24 #[.bool false, .slice none 0 0] 24
  replace ha := ha.below hb1
  replace hb := hb.below hb1
  have HBT := hb1
  clear hb1
  have qa0 := Ra.c (i := 0) rfl
  have qa1 := Ra.c (i := 1) rfl
  have qb0 := Rb.c (i := 0) rfl
  have qb1 := Rb.c (i := 1) rfl
  have qr0 := Rr.c (i := 0) rfl
  have qr1 := Rr.c (i := 1) rfl
  go_enter Tryz.func65, Tryz.ntmps65
  go_wp2_with (fail)
  obtain ⟨q, Eq⟩ : ∃ zq : Int, zq = a / b := ⟨_, rfl⟩
  have lq : nl (mg q) ≤ 1000000 := by rw [Eq]; omega
  obtain ⟨m, Em⟩ : ∃ zq : Int, zq = a % b := ⟨_, rfl⟩
  have lm : nl (mg m) ≤ 1000000 := by rw [Em]; omega
  have dm2 : nl (mg (2 * m)) ≤ 1000001 := by rw [Em]; omega
  have CT2 := (idiv_c aA ac a bA bc b _ ha hb (by omega) (by omega) (by omega))
  rw [← Eq, ← Em] at CT2
  replace Eq := Lib.hid Eq
  replace Em := Lib.hid Em
  replace CT2 := Lib.hid CT2
  refine (Calls.mono CT2.out ?_)
  clear CT2
  rintro e W2 ⟨Xq, cq, Xm, cm, rfl, hq, hm, hb2⟩
  replace ha := ha.below hb2
  replace hb := hb.below hb2
  replace Ra := Ra.below hb2
  replace qa0 := cbl hb2 qa0
  replace qa1 := cbl hb2 qa1
  replace Rb := Rb.below hb2
  replace qb0 := cbl hb2 qb0
  replace qb1 := cbl hb2 qb1
  replace Rr := Rr.below hb2
  replace qr0 := cbl hb2 qr0
  replace qr1 := cbl hb2 qr1
  replace HBT := Below.cons HBT hb2
  clear hb2
  clear lr0 lq0 ld0
  have szr := Rr.lt
  go_wp2_with (fail)
  obtain ⟨hb3, Rq, Rm⟩ := bx2 W2 #[.bool (sg q), .slice Xq (nl (mg q)) cq] 24 #[.bool (sg m), .slice Xm (nl (mg m)) cm] 24
  replace ha := ha.below hb3
  replace hb := hb.below hb3
  replace Ra := Ra.below hb3
  replace qa0 := cbl hb3 qa0
  replace qa1 := cbl hb3 qa1
  replace Rb := Rb.below hb3
  replace qb0 := cbl hb3 qb0
  replace qb1 := cbl hb3 qb1
  replace Rr := Rr.below hb3
  replace qr0 := cbl hb3 qr0
  replace qr1 := cbl hb3 qr1
  replace hq := hq.below hb3
  replace hm := hm.below hb3
  replace HBT := Below.cons HBT hb3
  clear hb3
  have qq0 := Rq.c (i := 0) rfl
  have qq1 := Rq.c (i := 1) rfl
  have qm0 := Rm.c (i := 0) rfl
  have qm1 := Rm.c (i := 1) rfl
  have hsg : (m.sign == 0) = false := by have := h0.out; rw [← Em.out] at this; simp; exact this
  obtain ⟨sn, Esn⟩ : ∃ sn, sn = m.sign := ⟨_, rfl⟩
  have CG := isign_c Xm cm m ((W2.alloc (.cells #[.bool (sg q), .slice Xq (nl (mg q)) cq] 24)).alloc (.cells #[.bool (sg m), .slice Xm (nl (mg m)) cm] 24))
  rw [← Esn] at CG hsg
  replace Esn := Lib.hid Esn
  refine (Calls.mono (CG) ?_)
  rintro e W4 ⟨rfl, hb4⟩
  replace ha := ha.below hb4
  replace hb := hb.below hb4
  replace Ra := Ra.below hb4
  replace qa0 := cbl hb4 qa0
  replace qa1 := cbl hb4 qa1
  replace Rb := Rb.below hb4
  replace qb0 := cbl hb4 qb0
  replace qb1 := cbl hb4 qb1
  replace Rr := Rr.below hb4
  replace qr0 := cbl hb4 qr0
  replace qr1 := cbl hb4 qr1
  replace hq := hq.below hb4
  replace hm := hm.below hb4
  replace Rq := Rq.below hb4
  replace qq0 := cbl hb4 qq0
  replace qq1 := cbl hb4 qq1
  replace Rm := Rm.below hb4
  replace qm0 := cbl hb4 qm0
  replace qm1 := cbl hb4 qm1
  replace HBT := Below.cons HBT hb4
  clear hb4
  have qn : mg q ≠ 0 := fun e => h1.out (Eq.out ▸ mg_zero.1 e)
  have t1 : decide (0 < (nl (mg q) : Int)) = true := by have := nl_pos.2 qn; simp; omega
  have t2 : decide (0 < nl (mg q)) = true := by have := nl_pos.2 qn; simp; omega
  have t9 := nl_pos.2 qn
  replace qn := Lib.hid qn
  obtain ⟨ad, eX, hc0⟩ := hq.rd.get 0 t9
  obtain ⟨x, Ex⟩ : ∃ x, x = gl (limbs (mg q)) 0 := ⟨_, rfl⟩
  have hxl : x < 4294967296 := by rw [Ex]; exact (lim_limbs _).gl 0
  have hxv : x = mg q / 4294967296 ^ 0 % 4294967296 := by rw [Ex, limbs_gl]
  rw [← Ex, show ad.add 0 = ad by cases ad; simp [Addr.add]; try (split <;> simp)] at hc0
  have hod := odd_limb hxv
  have hand := and_one_u32 x hxl
  obtain ⟨z, Ez⟩ : ∃ z, z = x % 2 := ⟨_, rfl⟩
  rw [← Ez] at hand hod
  have hoz : ((z : Int) == 1) = decide (q % 2 = 1) := by rw [hod]; by_cases k : z = 1 <;> simp [k] <;> omega
  obtain ⟨od, Eod⟩ : ∃ od, od = decide (q % 2 = 1) := ⟨_, rfl⟩
  rw [← Eod] at hoz
  replace Ex := Lib.hid Ex
  replace hxv := Lib.hid hxv
  replace hod := Lib.hid hod
  replace Ez := Lib.hid Ez
  replace Eod := Lib.hid Eod
  subst eX
  go_wp2_with (fail)
  obtain ⟨m2, Em2⟩ : ∃ z, z = 2 * m := ⟨_, rfl⟩
  rw [← Em2] at dm2
  have CS := fun (W : World) (h1 : NatV W Xm cm (mg m)) => ishift_c Xm cm m 1 W h1 (by omega) (by omega)
  simp only [shf_twice, ← Em2] at CS
  obtain ⟨fn, hfn, wi, wf, CW0⟩ := way_at dr d0 d4
  replace hfn := Lib.hid hfn
  obtain ⟨up, Eup⟩ : ∃ z, z = upw (sg a) od (m2 - b) dr := ⟨_, rfl⟩
  have CW := CW0 (sg a) od m2 b
  rw [← Eup] at CW
  clear CW0
  have hov2 : ovr a b dr = if up = true then q + 1 else q := by rw [hov.out, Eup, Em2, ← Eq.out, ← Em.out, Eod.out]
  replace CS := Lib.hid CS
  replace CW := Lib.hid CW
  replace Em2 := Lib.hid Em2
  replace Eup := Lib.hid Eup
  replace hov2 := Lib.hid hov2
  refine wp_region_inv (fun E a' w' => ∃ (u34 u35 u36 u37 u38 u39 u40 u41 u42 u43 u44 u45 : Value),
    a' = { tmps := #[.agg #[.bool (sg a), .slice aA (nl (mg a)) ac], .agg #[.bool (sg b), .slice bA (nl (mg b)) bc], .int .i64 dr, .pointer (some ⟨w.heap.size, 0, none⟩), .pointer (some ⟨(w.heap.size + 1), 0, none⟩), undef, .pointer (some ⟨(w.heap.size + 1 + 1), 0, none⟩), .pointer (some ⟨W2.heap.size, 0, none⟩), .pointer (some ⟨(W2.heap.size + 1), 0, none⟩), .int .i64 0, .bool od, .tuple #[.agg #[.bool (sg q), .slice (some ad) (nl (mg q)) cq], .agg #[.bool (sg m), .slice Xm (nl (mg m)) cm], .int .i64 0], .agg #[.bool (sg a), .slice aA (nl (mg a)) ac], .agg #[.bool (sg b), .slice bA (nl (mg b)) bc], .tuple #[.agg #[.bool (sg q), .slice (some ad) (nl (mg q)) cq], .agg #[.bool (sg m), .slice Xm (nl (mg m)) cm], .int .i64 0], .agg #[.bool (sg q), .slice (some ad) (nl (mg q)) cq], .agg #[.bool (sg m), .slice Xm (nl (mg m)) cm], .int .i64 0, .agg #[.bool (sg m), .slice Xm (nl (mg m)) cm], .int .i64 sn, .bool false, undef, .pointer (some ⟨W2.heap.size, 1, none⟩), .slice (some ad) (nl (mg q)) cq, .int .i64 (nl (mg q)), .bool true, .bool true, .pointer (some ⟨W2.heap.size, 1, none⟩), .slice (some ad) (nl (mg q)) cq, .pointer (some ad), .int .u32 x, .int .u32 z, .bool od, .bool od, u34, u35, u36, u37, u38, u39, u40, u41, u42, u43, u44, u45, undef, undef, undef, undef], defers := [] } ∧
    (E 0 = true → u34 = (.agg #[.func (.func 99) #[] #[], .func (.func 100) #[] #[], .func (.func 101) #[] #[], .func (.func 102) #[] #[], .func (.func 103) #[] #[]])) ∧
    (E 1 = true → u35 = .int .i64 dr) ∧
    (E 2 = true → u36 = .agg #[.func (.func fn) #[] #[]]) ∧
    (E 3 = true → u37 = .func (.func fn) #[] #[]) ∧
    (E 4 = true → u38 = .pointer (some ⟨w.heap.size, 0, none⟩)) ∧
    (E 5 = true → u39 = .bool (sg a)) ∧
    (E 6 = true → u40 = .bool od) ∧
    (E 7 = true → u41 = .agg #[.bool (sg m), .slice Xm (nl (mg m)) cm]) ∧
    (E 8 = true → PI u42 m2 w') ∧
    (E 9 = true → u43 = .agg #[.bool (sg b), .slice bA (nl (mg b)) bc]) ∧
    (E 10 = true → u44 = .int .i64 (icmp m2 b)) ∧
    (E 11 = true → u45 = .bool up) ∧
    Below W4.heap.size W4 w') (by kernel_rfl) (by kernel_rfl) ?init ?fin ?step
  case init => exact ⟨_, _, _, _, _, _, _, _, _, _, _, _, rfl, by simp, by simp, by simp, by simp, by simp, by simp, by simp, by simp, by simp, by simp, by simp, by simp, (Below.refl _ _).drew⟩
  case step =>
    rintro E a' w' i ⟨u34, u35, u36, u37, u38, u39, u40, u41, u42, u43, u44, u45, rfl, h0, h1, h2, h3, h4, h5, h6, h7, h8, h9, h10, h11, hB⟩ hi hEi hdep
    have qa0 := cbl hB qa0
    have qa1 := cbl hB qa1
    have qb0 := cbl hB qb0
    have qb1 := cbl hB qb1
    have qm0 := cbl hB qm0
    have qm1 := cbl hB qm1
    obtain rfl | rfl | rfl | rfl | rfl | rfl | rfl | rfl | rfl | rfl | rfl | rfl : i = 0 ∨ i = 1 ∨ i = 2 ∨ i = 3 ∨ i = 4 ∨ i = 5 ∨ i = 6 ∨ i = 7 ∨ i = 8 ∨ i = 9 ∨ i = 10 ∨ i = 11 := by simp at hi; omega
    · skip
      refine wpOp_step rfl (fun K' hK' => ?_)
      go_simp
      refine (Calls.mono (ways_c w') ?_)
      rintro e W1 ⟨rfl, kb⟩
      refine hK' _ _ ?_
      exact ⟨_, _, _, _, _, _, _, _, _, _, _, _, rfl, fun _ => rfl, keepD (by decide) h1, keepD (by decide) h2, keepD (by decide) h3, keepD (by decide) h4, keepD (by decide) h5, keepD (by decide) h6, keepD (by decide) h7, keepP (by decide) h8 (fun h => h.below kb), keepD (by decide) h9, keepD (by decide) h10, keepD (by decide) h11, Below.cons hB kb⟩
    · skip
      refine wpOp_step rfl (fun K' hK' => ?_)
      go_simp
      refine hK' _ _ ?_
      exact ⟨_, _, _, _, _, _, _, _, _, _, _, _, rfl, keepD (by decide) h0, fun _ => rfl, keepD (by decide) h2, keepD (by decide) h3, keepD (by decide) h4, keepD (by decide) h5, keepD (by decide) h6, keepD (by decide) h7, keepD (by decide) h8, keepD (by decide) h9, keepD (by decide) h10, keepD (by decide) h11, hB⟩
    · skip
      have d0 := hdep _ rfl ⟨0, .data⟩ (by simp) rfl
      obtain rfl := h0 d0
      have d1 := hdep _ rfl ⟨1, .data⟩ (by simp) rfl
      obtain rfl := h1 d1
      refine wpOp_step rfl (fun K' hK' => ?_)
      go_simp
      refine hK' _ _ ?_
      exact ⟨_, _, _, _, _, _, _, _, _, _, _, _, rfl, keepD (by decide) h0, keepD (by decide) h1, fun _ => rfl, keepD (by decide) h3, keepD (by decide) h4, keepD (by decide) h5, keepD (by decide) h6, keepD (by decide) h7, keepD (by decide) h8, keepD (by decide) h9, keepD (by decide) h10, keepD (by decide) h11, hB⟩
    · skip
      have d2 := hdep _ rfl ⟨2, .data⟩ (by simp) rfl
      obtain rfl := h2 d2
      refine wpOp_step rfl (fun K' hK' => ?_)
      go_simp
      refine hK' _ _ ?_
      exact ⟨_, _, _, _, _, _, _, _, _, _, _, _, rfl, keepD (by decide) h0, keepD (by decide) h1, keepD (by decide) h2, fun _ => rfl, keepD (by decide) h4, keepD (by decide) h5, keepD (by decide) h6, keepD (by decide) h7, keepD (by decide) h8, keepD (by decide) h9, keepD (by decide) h10, keepD (by decide) h11, hB⟩
    · skip
      refine wpOp_step rfl (fun K' hK' => ?_)
      go_simp
      refine hK' _ _ ?_
      exact ⟨_, _, _, _, _, _, _, _, _, _, _, _, rfl, keepD (by decide) h0, keepD (by decide) h1, keepD (by decide) h2, keepD (by decide) h3, fun _ => rfl, keepD (by decide) h5, keepD (by decide) h6, keepD (by decide) h7, keepD (by decide) h8, keepD (by decide) h9, keepD (by decide) h10, keepD (by decide) h11, hB⟩
    · skip
      have d4 := hdep _ rfl ⟨4, .data⟩ (by simp) rfl
      obtain rfl := h4 d4
      refine wpOp_step rfl (fun K' hK' => ?_)
      go_simp
      refine hK' _ _ ?_
      exact ⟨_, _, _, _, _, _, _, _, _, _, _, _, rfl, keepD (by decide) h0, keepD (by decide) h1, keepD (by decide) h2, keepD (by decide) h3, keepD (by decide) h4, fun _ => rfl, keepD (by decide) h6, keepD (by decide) h7, keepD (by decide) h8, keepD (by decide) h9, keepD (by decide) h10, keepD (by decide) h11, hB⟩
    · skip
      refine wpOp_step rfl (fun K' hK' => ?_)
      go_simp
      refine hK' _ _ ?_
      exact ⟨_, _, _, _, _, _, _, _, _, _, _, _, rfl, keepD (by decide) h0, keepD (by decide) h1, keepD (by decide) h2, keepD (by decide) h3, keepD (by decide) h4, keepD (by decide) h5, fun _ => rfl, keepD (by decide) h7, keepD (by decide) h8, keepD (by decide) h9, keepD (by decide) h10, keepD (by decide) h11, hB⟩
    · skip
      refine wpOp_step rfl (fun K' hK' => ?_)
      go_simp
      refine hK' _ _ ?_
      exact ⟨_, _, _, _, _, _, _, _, _, _, _, _, rfl, keepD (by decide) h0, keepD (by decide) h1, keepD (by decide) h2, keepD (by decide) h3, keepD (by decide) h4, keepD (by decide) h5, keepD (by decide) h6, fun _ => rfl, keepD (by decide) h8, keepD (by decide) h9, keepD (by decide) h10, keepD (by decide) h11, hB⟩
    · skip
      have d7 := hdep _ rfl ⟨7, .data⟩ (by simp) rfl
      obtain rfl := h7 d7
      refine wpOp_step rfl (fun K' hK' => ?_)
      go_simp
      refine (Calls.mono (CS.out w' (hm.below hB)) ?_)
      rintro e W1 ⟨Xr, cr, rfl, kr, kb⟩
      refine hK' _ _ ?_
      exact ⟨_, _, _, _, _, _, _, _, _, _, _, _, rfl, keepD (by decide) h0, keepD (by decide) h1, keepD (by decide) h2, keepD (by decide) h3, keepD (by decide) h4, keepD (by decide) h5, keepD (by decide) h6, keepD (by decide) h7, fun _ => ⟨Xr, cr, rfl, kr⟩, keepD (by decide) h9, keepD (by decide) h10, keepD (by decide) h11, Below.cons hB kb⟩
    · skip
      refine wpOp_step rfl (fun K' hK' => ?_)
      go_simp
      refine hK' _ _ ?_
      exact ⟨_, _, _, _, _, _, _, _, _, _, _, _, rfl, keepD (by decide) h0, keepD (by decide) h1, keepD (by decide) h2, keepD (by decide) h3, keepD (by decide) h4, keepD (by decide) h5, keepD (by decide) h6, keepD (by decide) h7, keepD (by decide) h8, fun _ => rfl, keepD (by decide) h10, keepD (by decide) h11, hB⟩
    · skip
      have d8 := hdep _ rfl ⟨8, .data⟩ (by simp) rfl
      obtain ⟨X_8, c_8, rfl, k_8⟩ := h8 d8
      have d9 := hdep _ rfl ⟨9, .data⟩ (by simp) rfl
      obtain rfl := h9 d9
      refine wpOp_step rfl (fun K' hK' => ?_)
      go_simp
      refine (Calls.mono (icmp_c X_8 c_8 m2 bA bc b w' k_8 (hb.below hB) (by omega) (by omega)) ?_)
      rintro e W1 ⟨rfl, kb⟩
      refine hK' _ _ ?_
      exact ⟨_, _, _, _, _, _, _, _, _, _, _, _, rfl, keepD (by decide) h0, keepD (by decide) h1, keepD (by decide) h2, keepD (by decide) h3, keepD (by decide) h4, keepD (by decide) h5, keepD (by decide) h6, keepD (by decide) h7, keepP (by decide) h8 (fun h => h.below kb), keepD (by decide) h9, fun _ => rfl, keepD (by decide) h11, Below.cons hB kb⟩
    · skip
      have d3 := hdep _ rfl ⟨3, .data⟩ (by simp) rfl
      obtain rfl := h3 d3
      have d5 := hdep _ rfl ⟨5, .data⟩ (by simp) rfl
      obtain rfl := h5 d5
      have d6 := hdep _ rfl ⟨6, .data⟩ (by simp) rfl
      obtain rfl := h6 d6
      have d10 := hdep _ rfl ⟨10, .data⟩ (by simp) rfl
      obtain rfl := h10 d10
      rcases hfn.out with rfl | rfl | rfl | rfl | rfl
      all_goals refine wpOp_step rfl (fun K' hK' => ?_)
      all_goals go_simp
      all_goals refine (Calls.mono (CW.out w') ?_)
      all_goals rintro e W1 ⟨rfl, kb⟩
      all_goals refine hK' _ _ ?_
      all_goals exact ⟨_, _, _, _, _, _, _, _, _, _, _, _, rfl, keepD (by decide) h0, keepD (by decide) h1, keepD (by decide) h2, keepD (by decide) h3, keepD (by decide) h4, keepD (by decide) h5, keepD (by decide) h6, keepD (by decide) h7, keepP (by decide) h8 (fun h => h.below kb), keepD (by decide) h9, keepD (by decide) h10, fun _ => rfl, Below.cons hB kb⟩
  case fin =>
    rintro E a' w' ⟨u34, u35, u36, u37, u38, u39, u40, u41, u42, u43, u44, u45, rfl, h0, h1, h2, h3, h4, h5, h6, h7, h8, h9, h10, h11, hB⟩ hall
    replace ha := ha.below hB
    replace hb := hb.below hB
    replace Ra := Ra.below hB
    replace qa0 := cbl hB qa0
    replace qa1 := cbl hB qa1
    replace Rb := Rb.below hB
    replace qb0 := cbl hB qb0
    replace qb1 := cbl hB qb1
    replace Rr := Rr.below hB
    replace qr0 := cbl hB qr0
    replace qr1 := cbl hB qr1
    replace hq := hq.below hB
    replace hm := hm.below hB
    replace Rq := Rq.below hB
    replace qq0 := cbl hB qq0
    replace qq1 := cbl hB qq1
    replace Rm := Rm.below hB
    replace qm0 := cbl hB qm0
    replace qm1 := cbl hB qm1
    replace hc0 := cbl hB hc0
    replace HBT := Below.cons HBT hB
    obtain rfl := h11 (hall 11 (by simp))
    clear hall
    cases up
    case false =>
      have fzr0 := Rr.f (i := 0)
      have fzr1 := Rr.f (i := 1)
      go_wp2_with (fail)
      have hzq : q = ovr a b dr := by have := hov2.out; simpa using this.symm
      subst hzq
      have RS := Rr.store2 (.bool (sg ((ovr a b dr)))) (.slice (some ad) (nl (mg ((ovr a b dr)))) cq)
      have e0 := RS.c (i := 0) rfl
      have e1 := RS.c (i := 1) rfl
      refine bodyPost_ret (v := .agg #[.bool (sg ((ovr a b dr))), .slice (some ad) (nl (mg ((ovr a b dr)))) cq]) (by simp [results, Tryz.results65, go_sem, e0, e1]) rfl ?_
      exact ⟨(some ad), cq, rfl, (Rr.keep2 (nuB rfl) hq), (Below.store2 HBT (by first | exact Nat.le_refl _ | omega))⟩
    case true =>
      go_wp2_with (fail)
      have hd5 := drb (w')
      replace ha := ha.below hd5
      replace hb := hb.below hd5
      replace Ra := Ra.below hd5
      replace qa0 := cbl hd5 qa0
      replace qa1 := cbl hd5 qa1
      replace Rb := Rb.below hd5
      replace qb0 := cbl hd5 qb0
      replace qb1 := cbl hd5 qb1
      replace Rr := Rr.below hd5
      replace qr0 := cbl hd5 qr0
      replace qr1 := cbl hd5 qr1
      replace hq := hq.below hd5
      replace hm := hm.below hd5
      replace Rq := Rq.below hd5
      replace qq0 := cbl hd5 qq0
      replace qq1 := cbl hd5 qq1
      replace Rm := Rm.below hd5
      replace qm0 := cbl hd5 qm0
      replace qm1 := cbl hd5 qm1
      replace hc0 := cbl hd5 hc0
      replace HBT := Below.cons HBT hd5
      clear hd5
      obtain ⟨o1, Eo1⟩ : ∃ zq : Int, zq = (1 : Int) := ⟨_, rfl⟩
      have No1 : nl (mg o1) ≤ 1 := by rw [Eo1]; exact Nat.le_of_eq nl_one
      have C5_0 := fun (W : World) => (show Calls Tryz.prog 68 #[.int .i64 1] W (RetI W o1) by rw [Eo1]; exact iof1_c W)
      replace Eo1 := Lib.hid Eo1
      replace C5_0 := Lib.hid C5_0
      obtain ⟨y, Ey⟩ : ∃ zq : Int, zq = q + o1 := ⟨_, rfl⟩
      have C5_1 := fun (W : World) (A : Option Addr) (c : Nat) (h1 : NatV W (some ad) cq (mg q)) (h2 : NatV W A c (mg o1)) => iadd_c (some ad) cq q A c o1 W h1 h2 (by omega) (by omega)
      simp only [← Ey] at C5_1
      replace Ey := Lib.hid Ey
      replace C5_1 := Lib.hid C5_1
      go_region_held3 (fun W => W.cell? ⟨W2.heap.size, 0, none⟩ = some (.bool (sg q)) ∧ W.cell? ⟨W2.heap.size, 1, none⟩ = some (.slice (some ad) (nl (mg q)) cq))
        (first
          | exact ⟨qq0, qq1⟩
          | exact ⟨qq0_6, qq1_6⟩
          | exact ⟨qq0_7, qq1_7⟩
          | exact ⟨((Rq_7.other2 (by simp <;> omega)).c (i := 0) rfl), ((Rq_7.other2 (by simp <;> omega)).c (i := 1) rfl)⟩
          | go_keep)
        (first
          | (go_at_call 68; (with_reducible refine (C5_0.out _).mono ?_); rintro e W6 ⟨Xo1, co1, rfl, ho1, hb6⟩; have ha_6 := ha.below hb6; have hb_6 := hb.below hb6; have Ra_6 := Ra.below hb6; have qa0_6 := cbl hb6 qa0; have qa1_6 := cbl hb6 qa1; have Rb_6 := Rb.below hb6; have qb0_6 := cbl hb6 qb0; have qb1_6 := cbl hb6 qb1; have Rr_6 := Rr.below hb6; have qr0_6 := cbl hb6 qr0; have qr1_6 := cbl hb6 qr1; have hq_6 := hq.below hb6; have hm_6 := hm.below hb6; have Rq_6 := Rq.below hb6; have qq0_6 := cbl hb6 qq0; have qq1_6 := cbl hb6 qq1; have Rm_6 := Rm.below hb6; have qm0_6 := cbl hb6 qm0; have qm1_6 := cbl hb6 qm1; have hc0_6 := cbl hb6 hc0; have HBT_6 := Below.cons HBT hb6)
          | (go_at_call 91; (with_reducible refine (C5_1.out _ _ _ hq_6 ho1).mono ?_); rintro e W7 ⟨Xy, cy, rfl, hy, hb7⟩; have ha_7 := ha_6.below hb7; have hb_7 := hb_6.below hb7; have Ra_7 := Ra_6.below hb7; have qa0_7 := cbl hb7 qa0_6; have qa1_7 := cbl hb7 qa1_6; have Rb_7 := Rb_6.below hb7; have qb0_7 := cbl hb7 qb0_6; have qb1_7 := cbl hb7 qb1_6; have Rr_7 := Rr_6.below hb7; have qr0_7 := cbl hb7 qr0_6; have qr1_7 := cbl hb7 qr1_6; have hq_7 := hq_6.below hb7; have hm_7 := hm_6.below hb7; have Rq_7 := Rq_6.below hb7; have qq0_7 := cbl hb7 qq0_6; have qq1_7 := cbl hb7 qq1_6; have Rm_7 := Rm_6.below hb7; have qm0_7 := cbl hb7 qm0_6; have qm1_7 := cbl hb7 qm1_6; have hc0_7 := cbl hb7 hc0_6; have ho1_7 := ho1.below hb7; have HBT_7 := Below.cons HBT_6 hb7; have fz0 := Rr_7.f (i := 0); have fz1 := Rr_7.f (i := 1)))
      all_goals (try go_wp2_with (fail))
      have hzy : y = ovr a b dr := by rw [Ey.out, Eo1.out]; have := hov2.out; simpa using this.symm
      subst hzy
      have RS := Rr_7.store2 (.bool (sg ((ovr a b dr)))) (.slice Xy (nl (mg ((ovr a b dr)))) cy)
      have e0 := RS.c (i := 0) rfl
      have e1 := RS.c (i := 1) rfl
      refine bodyPost_ret (v := .agg #[.bool (sg ((ovr a b dr))), .slice Xy (nl (mg ((ovr a b dr)))) cy]) (by simp [results, Tryz.results65, go_sem, e0, e1]) rfl ?_
      exact ⟨Xy, cy, rfl, (Rr_7.keep2 (nuB rfl) hy), (Below.store2 HBT_7 (by first | exact Nat.le_refl _ | omega))⟩
theorem over_c (aA : Option Addr) (ac : Nat) (a : Int) (bA : Option Addr) (bc : Nat) (b : Int) (dr : Int) (w : World) (ha : NatV w aA ac (mg a)) (hb : NatV w bA bc (mg b)) (la : nl (mg a) ≤ 1000000) (lb : nl (mg b) ≤ 1000000) (hb0 : 0 < b) (h0 : 0 ≤ dr) (h4 : dr ≤ 4) :
    Calls Tryz.prog 65 #[.agg #[.bool (sg a), .slice aA (nl (mg a)) ac], .agg #[.bool (sg b), .slice bA (nl (mg b)) bc], .int .i64 dr] w (RetI w (ovr a b dr)) := by
  by_cases k : a % b = 0
  · exact over_z aA ac a bA bc b dr w ha hb h0 h4 la lb hb0 k
  · by_cases k2 : a / b = 0
    · exact over_q aA ac a bA bc b dr w ha hb h0 h4 la lb hb0 k k2
    · exact over_n aA ac a bA bc b dr w ha hb h0 h4 la lb hb0 k k2
end Go.Proofs.YtacjfpibilolnaaGreatDoor
