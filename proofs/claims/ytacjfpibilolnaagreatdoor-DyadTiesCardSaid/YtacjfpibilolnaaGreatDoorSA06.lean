/- The document's whole numbers, walked: DivMod, Exact. -/
import Derived.Test.YtacjfpibilolnaaGreatDoorSA05
import Derived.Test.YtacjfpibilolnaaGreatDoorSA01
import Derived.BigQuiet
import Derived.Deep.QuietTactic
import Derived.Shelf.Spec.TrailingZeros
import Derived.IntWalk
set_option linter.unusedVariables false
set_option linter.unusedSimpArgs false
namespace Go.Proofs.YtacjfpibilolnaaGreatDoor
open Go.RowKit Go.Shelf
attribute [local go_sem] max2_i min2_i max_two min_two

theorem cell_other2 {W : World} {j i k : Nat} {v v0 v1 : Value} (h : W.cell? ⟨j, i, none⟩ = some v) (hne : j ≠ k) : ((W.setCell ⟨k, 0, none⟩ v0).setCell ⟨k, 1, none⟩ v1).cell? ⟨j, i, none⟩ = some v := by
  unfold World.cell? at h ⊢
  rw [set2_far j hne]; exact h
set_option maxRecDepth 100000 in
set_option maxHeartbeats 2000000 in
theorem zdiv_f (aA : Option Addr) (ac : Nat) (a : Int) (bA : Option Addr) (bc : Nat) (b : Int) (w : World) (ha : NatV w aA ac (mg a)) (hb : NatV w bA bc (mg b)) (la : nl (mg a) ≤ 1048576) (lb : nl (mg b) ≤ 1048576) (hb0 : b ≠ 0) (h : 0 ≤ a) :
    Calls Tryz.prog 74 #[.agg #[.bool (sg a), .slice aA (nl (mg a)) ac], .agg #[.bool (sg b), .slice bA (nl (mg b)) bc]] w (RetII w (a / b) (a % b)) := by
  have pb : 0 < mg b := mg_pos.2 hb0
  have hv := dm_plain hb0 (.inl h)
  obtain ⟨q, Eq⟩ : ∃ zq : Nat, zq = mg a / mg b := ⟨_, rfl⟩
  obtain ⟨r, Er⟩ : ∃ zq : Nat, zq = mg a % mg b := ⟨_, rfl⟩
  have Bq : nl q ≤ 1048576 := by rw [Eq]; have := nl_div (mg a) (mg b); omega
  have Br : nl r ≤ 1048576 := by rw [Er]; have := nl_mod_le (mg a) (mg b); omega
  have hrb : r ≤ mg b := by rw [Er]; exact Nat.le_of_lt (Nat.mod_lt _ pb)
  have ta : sg a = false := sg_f h
  rw [show (sg a != sg b) = sg b by rw [ta]; simp, ← Eq, ← Er] at hv
  replace hv := Lib.hid hv
  replace h := Lib.hid h
  have hb1 : Below (w).heap.size (w) ((((w.alloc (.cells #[.bool false, .slice aA (nl (mg a)) ac] 24)).alloc (.cells #[.bool (sg b), .slice bA (nl (mg b)) bc] 24)).alloc (.cells #[.bool false, .slice none 0 0] 24)).alloc (.cells #[.bool false, .slice none 0 0] 24)) := (Below.alloc (Below.alloc (Below.alloc (Below.alloc (Below.refl _ _) (Nat.le_refl _) _) (by simp <;> omega) _) (by simp <;> omega) _) (by simp <;> omega) _)
  replace ha := ha.below hb1
  replace hb := hb.below hb1
  have HBT := hb1
  clear hb1
  have Ra : BoxA ((((w.alloc (.cells #[.bool false, .slice aA (nl (mg a)) ac] 24)).alloc (.cells #[.bool (sg b), .slice bA (nl (mg b)) bc] 24)).alloc (.cells #[.bool false, .slice none 0 0] 24)).alloc (.cells #[.bool false, .slice none 0 0] 24)) w.heap.size 24 #[.bool false, .slice aA (nl (mg a)) ac] := ⟨by repeat (first | exact at_new (by first | (simp; done) | (simp; omega)) | refine at_old (by first | (simp; done) | (simp; omega)) ?_)⟩
  have qa0 := Ra.c (i := 0) rfl
  have qa1 := Ra.c (i := 1) rfl
  have Rb : BoxA ((((w.alloc (.cells #[.bool false, .slice aA (nl (mg a)) ac] 24)).alloc (.cells #[.bool (sg b), .slice bA (nl (mg b)) bc] 24)).alloc (.cells #[.bool false, .slice none 0 0] 24)).alloc (.cells #[.bool false, .slice none 0 0] 24)) (w.heap.size + 1) 24 #[.bool (sg b), .slice bA (nl (mg b)) bc] := ⟨by repeat (first | exact at_new (by first | (simp; done) | (simp; omega)) | refine at_old (by first | (simp; done) | (simp; omega)) ?_)⟩
  have qb0 := Rb.c (i := 0) rfl
  have qb1 := Rb.c (i := 1) rfl
  have Rr : BoxA ((((w.alloc (.cells #[.bool false, .slice aA (nl (mg a)) ac] 24)).alloc (.cells #[.bool (sg b), .slice bA (nl (mg b)) bc] 24)).alloc (.cells #[.bool false, .slice none 0 0] 24)).alloc (.cells #[.bool false, .slice none 0 0] 24)) (w.heap.size + 1 + 1) 24 #[.bool false, .slice none 0 0] := ⟨by repeat (first | exact at_new (by first | (simp; done) | (simp; omega)) | refine at_old (by first | (simp; done) | (simp; omega)) ?_)⟩
  have qr0 := Rr.c (i := 0) rfl
  have qr1 := Rr.c (i := 1) rfl
  have Rs : BoxA ((((w.alloc (.cells #[.bool false, .slice aA (nl (mg a)) ac] 24)).alloc (.cells #[.bool (sg b), .slice bA (nl (mg b)) bc] 24)).alloc (.cells #[.bool false, .slice none 0 0] 24)).alloc (.cells #[.bool false, .slice none 0 0] 24)) (w.heap.size + 1 + 1 + 1) 24 #[.bool false, .slice none 0 0] := ⟨by repeat (first | exact at_new (by first | (simp; done) | (simp; omega)) | refine at_old (by first | (simp; done) | (simp; omega)) ?_)⟩
  have qs0 := Rs.c (i := 0) rfl
  have qs1 := Rs.c (i := 1) rfl
  go_enter Tryz.func74, Tryz.ntmps74
  go_wp2_with (fail)
  have CD := rdiv_c aA ac (mg a) bA bc (mg b) _ ha hb (by omega) (by omega) pb
  rw [← Eq, ← Er] at CD
  replace Eq := Lib.hid Eq
  replace Er := Lib.hid Er
  refine (Calls.mono CD ?_)
  clear CD
  rintro e W2 ⟨Xq, cq, Xr, cr, rfl, hq, hr, hb2⟩
  replace ha := ha.below hb2
  replace hb := hb.below hb2
  replace Ra := Ra.below hb2
  replace qa0 := cell_below hb2 qa0
  replace qa1 := cell_below hb2 qa1
  replace Rb := Rb.below hb2
  replace qb0 := cell_below hb2 qb0
  replace qb1 := cell_below hb2 qb1
  replace Rr := Rr.below hb2
  replace qr0 := cell_below hb2 qr0
  replace qr1 := cell_below hb2 qr1
  replace Rs := Rs.below hb2
  replace qs0 := cell_below hb2 qs0
  replace qs1 := cell_below hb2 qs1
  replace HBT := Below.cons HBT hb2
  clear hb2
  go_wp2_with (fail)
  obtain ⟨x, Ex⟩ : ∃ zq : Int, zq = ival (sg b) q := ⟨_, rfl⟩
  refine (Calls.mono (R := RetI W2 x) (by rw [Ex]; with_reducible exact (rz_c (sg b) Xq cq q _ hq (by omega))) ?_)
  replace Ex := Lib.hid Ex
  rintro e W3 ⟨Xx, cx, rfl, hx, hb3⟩
  replace ha := ha.below hb3
  replace hb := hb.below hb3
  replace Ra := Ra.below hb3
  replace qa0 := cell_below hb3 qa0
  replace qa1 := cell_below hb3 qa1
  replace Rb := Rb.below hb3
  replace qb0 := cell_below hb3 qb0
  replace qb1 := cell_below hb3 qb1
  replace Rr := Rr.below hb3
  replace qr0 := cell_below hb3 qr0
  replace qr1 := cell_below hb3 qr1
  replace Rs := Rs.below hb3
  replace qs0 := cell_below hb3 qs0
  replace qs1 := cell_below hb3 qs1
  replace hq := hq.below hb3
  replace hr := hr.below hb3
  replace HBT := Below.cons HBT hb3
  clear hb3
  go_wp2_with (fail)
  obtain ⟨y, Ey⟩ : ∃ zq : Int, zq = ival false r := ⟨_, rfl⟩
  refine (Calls.mono (R := RetI W3 y) (by rw [Ey]; with_reducible exact (rz_c false Xr cr r _ hr (by omega))) ?_)
  replace Ey := Lib.hid Ey
  rintro e W4 ⟨Xy, cy, rfl, hy, hb4⟩
  replace ha := ha.below hb4
  replace hb := hb.below hb4
  replace Ra := Ra.below hb4
  replace qa0 := cell_below hb4 qa0
  replace qa1 := cell_below hb4 qa1
  replace Rb := Rb.below hb4
  replace qb0 := cell_below hb4 qb0
  replace qb1 := cell_below hb4 qb1
  replace Rr := Rr.below hb4
  replace qr0 := cell_below hb4 qr0
  replace qr1 := cell_below hb4 qr1
  replace Rs := Rs.below hb4
  replace qs0 := cell_below hb4 qs0
  replace qs1 := cell_below hb4 qs1
  replace hq := hq.below hb4
  replace hr := hr.below hb4
  replace hx := hx.below hb4
  replace HBT := Below.cons HBT hb4
  clear hb4
  have hzx : x = a / b := by rw [Ex.out]; exact hv.out.1
  subst hzx
  have hzy : y = a % b := by rw [Ey.out]; exact hv.out.2
  subst hzy
  have fzr0 := Rr.f (i := 0)
  have fzr1 := Rr.f (i := 1)
  have fzs0 := Rs.f (i := 0)
  have fzs1 := Rs.f (i := 1)
  go_wp2_with (fail)
  have RU := Rr.store2 (.bool (sg ((a / b)))) (.slice Xx (nl (mg ((a / b)))) cx)
  have RV := (Rs.other2 (v0 := .bool (sg ((a / b)))) (v1 := .slice Xx (nl (mg ((a / b)))) cx) (show (w.heap.size + 1 + 1 + 1) ≠ (w.heap.size + 1 + 1) by omega)).store2 (.bool (sg ((a % b)))) (.slice Xy (nl (mg ((a % b)))) cy)
  have RU2 := RU.other2 (v0 := .bool (sg ((a % b)))) (v1 := .slice Xy (nl (mg ((a % b)))) cy) (show (w.heap.size + 1 + 1) ≠ (w.heap.size + 1 + 1 + 1) by omega)
  have e0 := RU2.c (i := 0) rfl
  have g0 := RV.c (i := 0) rfl
  have e1 := RU2.c (i := 1) rfl
  have g1 := RV.c (i := 1) rfl
  refine bodyPost_ret (v := .tuple #[.agg #[.bool (sg ((a / b))), .slice Xx (nl (mg ((a / b)))) cx], .agg #[.bool (sg ((a % b))), .slice Xy (nl (mg ((a % b)))) cy], .int .i64 0]) (by simp [results, Tryz.results74, go_sem, e0, e1, g0, g1]) rfl ?_
  exact ⟨Xx, cx, Xy, cy, rfl, ((Rs.other2 (v0 := .bool (sg ((a / b)))) (v1 := .slice Xx (nl (mg ((a / b)))) cx) (show (w.heap.size + 1 + 1 + 1) ≠ (w.heap.size + 1 + 1) by omega)).keep2 (by intro u hu; simp at hu; rcases hu with rfl | rfl <;> first | exact notU_bool _ | exact notU_slice _ _ _ | exact notU_i64 _) (Rr.keep2 (by intro u hu; simp at hu; rcases hu with rfl | rfl <;> first | exact notU_bool _ | exact notU_slice _ _ _ | exact notU_i64 _) hx)), ((Rs.other2 (v0 := .bool (sg ((a / b)))) (v1 := .slice Xx (nl (mg ((a / b)))) cx) (show (w.heap.size + 1 + 1 + 1) ≠ (w.heap.size + 1 + 1) by omega)).keep2 (by intro u hu; simp at hu; rcases hu with rfl | rfl <;> first | exact notU_bool _ | exact notU_slice _ _ _ | exact notU_i64 _) (Rr.keep2 (by intro u hu; simp at hu; rcases hu with rfl | rfl <;> first | exact notU_bool _ | exact notU_slice _ _ _ | exact notU_i64 _) hy)), Below.store2 (Below.store2 HBT (by omega)) (by omega)⟩
set_option maxRecDepth 100000 in
set_option maxHeartbeats 2000000 in
theorem zdiv_z (aA : Option Addr) (ac : Nat) (a : Int) (bA : Option Addr) (bc : Nat) (b : Int) (w : World) (ha : NatV w aA ac (mg a)) (hb : NatV w bA bc (mg b)) (la : nl (mg a) ≤ 1048576) (lb : nl (mg b) ≤ 1048576) (hb0 : b ≠ 0) (h : a < 0) (h2 : mg a % mg b = 0) :
    Calls Tryz.prog 74 #[.agg #[.bool (sg a), .slice aA (nl (mg a)) ac], .agg #[.bool (sg b), .slice bA (nl (mg b)) bc]] w (RetII w (a / b) (a % b)) := by
  have pb : 0 < mg b := mg_pos.2 hb0
  have hv := dm_plain hb0 (.inr h2)
  obtain ⟨q, Eq⟩ : ∃ zq : Nat, zq = mg a / mg b := ⟨_, rfl⟩
  obtain ⟨r, Er⟩ : ∃ zq : Nat, zq = mg a % mg b := ⟨_, rfl⟩
  have Bq : nl q ≤ 1048576 := by rw [Eq]; have := nl_div (mg a) (mg b); omega
  have Br : nl r ≤ 1048576 := by rw [Er]; have := nl_mod_le (mg a) (mg b); omega
  have hrb : r ≤ mg b := by rw [Er]; exact Nat.le_of_lt (Nat.mod_lt _ pb)
  have ta : sg a = true := sg_t h
  obtain ⟨n, En⟩ : ∃ n : Bool, n = !sg b := ⟨_, rfl⟩
  have In : (!sg b) = n := En.symm
  rw [show (sg a != sg b) = n by rw [ta, ← In]; simp, ← Eq, ← Er] at hv
  replace hv := Lib.hid hv
  replace En := Lib.hid En
  rw [← Er] at h2
  have t1 : ((nl r : Int) == 0) = true := ieqT (by rw [h2, nl_zero]; rfl)
  have t2 : (nl r == 0) = true := by rw [h2, nl_zero]; rfl
  replace h2 := Lib.hid h2
  replace h := Lib.hid h
  have hb1 : Below (w).heap.size (w) ((((w.alloc (.cells #[.bool true, .slice aA (nl (mg a)) ac] 24)).alloc (.cells #[.bool (sg b), .slice bA (nl (mg b)) bc] 24)).alloc (.cells #[.bool false, .slice none 0 0] 24)).alloc (.cells #[.bool false, .slice none 0 0] 24)) := (Below.alloc (Below.alloc (Below.alloc (Below.alloc (Below.refl _ _) (Nat.le_refl _) _) (by simp <;> omega) _) (by simp <;> omega) _) (by simp <;> omega) _)
  replace ha := ha.below hb1
  replace hb := hb.below hb1
  have HBT := hb1
  clear hb1
  have Ra : BoxA ((((w.alloc (.cells #[.bool true, .slice aA (nl (mg a)) ac] 24)).alloc (.cells #[.bool (sg b), .slice bA (nl (mg b)) bc] 24)).alloc (.cells #[.bool false, .slice none 0 0] 24)).alloc (.cells #[.bool false, .slice none 0 0] 24)) w.heap.size 24 #[.bool true, .slice aA (nl (mg a)) ac] := ⟨by repeat (first | exact at_new (by first | (simp; done) | (simp; omega)) | refine at_old (by first | (simp; done) | (simp; omega)) ?_)⟩
  have qa0 := Ra.c (i := 0) rfl
  have qa1 := Ra.c (i := 1) rfl
  have Rb : BoxA ((((w.alloc (.cells #[.bool true, .slice aA (nl (mg a)) ac] 24)).alloc (.cells #[.bool (sg b), .slice bA (nl (mg b)) bc] 24)).alloc (.cells #[.bool false, .slice none 0 0] 24)).alloc (.cells #[.bool false, .slice none 0 0] 24)) (w.heap.size + 1) 24 #[.bool (sg b), .slice bA (nl (mg b)) bc] := ⟨by repeat (first | exact at_new (by first | (simp; done) | (simp; omega)) | refine at_old (by first | (simp; done) | (simp; omega)) ?_)⟩
  have qb0 := Rb.c (i := 0) rfl
  have qb1 := Rb.c (i := 1) rfl
  have Rr : BoxA ((((w.alloc (.cells #[.bool true, .slice aA (nl (mg a)) ac] 24)).alloc (.cells #[.bool (sg b), .slice bA (nl (mg b)) bc] 24)).alloc (.cells #[.bool false, .slice none 0 0] 24)).alloc (.cells #[.bool false, .slice none 0 0] 24)) (w.heap.size + 1 + 1) 24 #[.bool false, .slice none 0 0] := ⟨by repeat (first | exact at_new (by first | (simp; done) | (simp; omega)) | refine at_old (by first | (simp; done) | (simp; omega)) ?_)⟩
  have qr0 := Rr.c (i := 0) rfl
  have qr1 := Rr.c (i := 1) rfl
  have Rs : BoxA ((((w.alloc (.cells #[.bool true, .slice aA (nl (mg a)) ac] 24)).alloc (.cells #[.bool (sg b), .slice bA (nl (mg b)) bc] 24)).alloc (.cells #[.bool false, .slice none 0 0] 24)).alloc (.cells #[.bool false, .slice none 0 0] 24)) (w.heap.size + 1 + 1 + 1) 24 #[.bool false, .slice none 0 0] := ⟨by repeat (first | exact at_new (by first | (simp; done) | (simp; omega)) | refine at_old (by first | (simp; done) | (simp; omega)) ?_)⟩
  have qs0 := Rs.c (i := 0) rfl
  have qs1 := Rs.c (i := 1) rfl
  go_enter Tryz.func74, Tryz.ntmps74
  go_wp2_with (fail)
  have CD := rdiv_c aA ac (mg a) bA bc (mg b) _ ha hb (by omega) (by omega) pb
  rw [← Eq, ← Er] at CD
  replace Eq := Lib.hid Eq
  replace Er := Lib.hid Er
  refine (Calls.mono CD ?_)
  clear CD
  rintro e W2 ⟨Xq, cq, Xr, cr, rfl, hq, hr, hb2⟩
  replace ha := ha.below hb2
  replace hb := hb.below hb2
  replace Ra := Ra.below hb2
  replace qa0 := cell_below hb2 qa0
  replace qa1 := cell_below hb2 qa1
  replace Rb := Rb.below hb2
  replace qb0 := cell_below hb2 qb0
  replace qb1 := cell_below hb2 qb1
  replace Rr := Rr.below hb2
  replace qr0 := cell_below hb2 qr0
  replace qr1 := cell_below hb2 qr1
  replace Rs := Rs.below hb2
  replace qs0 := cell_below hb2 qs0
  replace qs1 := cell_below hb2 qs1
  replace HBT := Below.cons HBT hb2
  clear hb2
  go_wp2_with (fail)
  obtain ⟨x, Ex⟩ : ∃ zq : Int, zq = ival n q := ⟨_, rfl⟩
  refine (Calls.mono (R := RetI W2 x) (by rw [Ex]; with_reducible exact (rz_c n Xq cq q _ hq (by omega))) ?_)
  replace Ex := Lib.hid Ex
  rintro e W3 ⟨Xx, cx, rfl, hx, hb3⟩
  replace ha := ha.below hb3
  replace hb := hb.below hb3
  replace Ra := Ra.below hb3
  replace qa0 := cell_below hb3 qa0
  replace qa1 := cell_below hb3 qa1
  replace Rb := Rb.below hb3
  replace qb0 := cell_below hb3 qb0
  replace qb1 := cell_below hb3 qb1
  replace Rr := Rr.below hb3
  replace qr0 := cell_below hb3 qr0
  replace qr1 := cell_below hb3 qr1
  replace Rs := Rs.below hb3
  replace qs0 := cell_below hb3 qs0
  replace qs1 := cell_below hb3 qs1
  replace hq := hq.below hb3
  replace hr := hr.below hb3
  replace HBT := Below.cons HBT hb3
  clear hb3
  go_wp2_with (fail)
  obtain ⟨y, Ey⟩ : ∃ zq : Int, zq = ival false r := ⟨_, rfl⟩
  refine (Calls.mono (R := RetI W3 y) (by rw [Ey]; with_reducible exact (rz_c false Xr cr r _ hr (by omega))) ?_)
  replace Ey := Lib.hid Ey
  rintro e W4 ⟨Xy, cy, rfl, hy, hb4⟩
  replace ha := ha.below hb4
  replace hb := hb.below hb4
  replace Ra := Ra.below hb4
  replace qa0 := cell_below hb4 qa0
  replace qa1 := cell_below hb4 qa1
  replace Rb := Rb.below hb4
  replace qb0 := cell_below hb4 qb0
  replace qb1 := cell_below hb4 qb1
  replace Rr := Rr.below hb4
  replace qr0 := cell_below hb4 qr0
  replace qr1 := cell_below hb4 qr1
  replace Rs := Rs.below hb4
  replace qs0 := cell_below hb4 qs0
  replace qs1 := cell_below hb4 qs1
  replace hq := hq.below hb4
  replace hr := hr.below hb4
  replace hx := hx.below hb4
  replace HBT := Below.cons HBT hb4
  clear hb4
  have hzx : x = a / b := by rw [Ex.out]; exact hv.out.1
  subst hzx
  have hzy : y = a % b := by rw [Ey.out]; exact hv.out.2
  subst hzy
  have fzr0 := Rr.f (i := 0)
  have fzr1 := Rr.f (i := 1)
  have fzs0 := Rs.f (i := 0)
  have fzs1 := Rs.f (i := 1)
  go_wp2_with (fail)
  have RU := Rr.store2 (.bool (sg ((a / b)))) (.slice Xx (nl (mg ((a / b)))) cx)
  have RV := (Rs.other2 (v0 := .bool (sg ((a / b)))) (v1 := .slice Xx (nl (mg ((a / b)))) cx) (show (w.heap.size + 1 + 1 + 1) ≠ (w.heap.size + 1 + 1) by omega)).store2 (.bool (sg ((a % b)))) (.slice Xy (nl (mg ((a % b)))) cy)
  have RU2 := RU.other2 (v0 := .bool (sg ((a % b)))) (v1 := .slice Xy (nl (mg ((a % b)))) cy) (show (w.heap.size + 1 + 1) ≠ (w.heap.size + 1 + 1 + 1) by omega)
  have e0 := RU2.c (i := 0) rfl
  have g0 := RV.c (i := 0) rfl
  have e1 := RU2.c (i := 1) rfl
  have g1 := RV.c (i := 1) rfl
  refine bodyPost_ret (v := .tuple #[.agg #[.bool (sg ((a / b))), .slice Xx (nl (mg ((a / b)))) cx], .agg #[.bool (sg ((a % b))), .slice Xy (nl (mg ((a % b)))) cy], .int .i64 0]) (by simp [results, Tryz.results74, go_sem, e0, e1, g0, g1]) rfl ?_
  exact ⟨Xx, cx, Xy, cy, rfl, ((Rs.other2 (v0 := .bool (sg ((a / b)))) (v1 := .slice Xx (nl (mg ((a / b)))) cx) (show (w.heap.size + 1 + 1 + 1) ≠ (w.heap.size + 1 + 1) by omega)).keep2 (by intro u hu; simp at hu; rcases hu with rfl | rfl <;> first | exact notU_bool _ | exact notU_slice _ _ _ | exact notU_i64 _) (Rr.keep2 (by intro u hu; simp at hu; rcases hu with rfl | rfl <;> first | exact notU_bool _ | exact notU_slice _ _ _ | exact notU_i64 _) hx)), ((Rs.other2 (v0 := .bool (sg ((a / b)))) (v1 := .slice Xx (nl (mg ((a / b)))) cx) (show (w.heap.size + 1 + 1 + 1) ≠ (w.heap.size + 1 + 1) by omega)).keep2 (by intro u hu; simp at hu; rcases hu with rfl | rfl <;> first | exact notU_bool _ | exact notU_slice _ _ _ | exact notU_i64 _) (Rr.keep2 (by intro u hu; simp at hu; rcases hu with rfl | rfl <;> first | exact notU_bool _ | exact notU_slice _ _ _ | exact notU_i64 _) hy)), Below.store2 (Below.store2 HBT (by omega)) (by omega)⟩
set_option maxRecDepth 100000 in
set_option maxHeartbeats 2000000 in
theorem zdiv_t (aA : Option Addr) (ac : Nat) (a : Int) (bA : Option Addr) (bc : Nat) (b : Int) (w : World) (ha : NatV w aA ac (mg a)) (hb : NatV w bA bc (mg b)) (la : nl (mg a) ≤ 1048576) (lb : nl (mg b) ≤ 1048576) (hb0 : b ≠ 0) (h : a < 0) (h2 : mg a % mg b ≠ 0) :
    Calls Tryz.prog 74 #[.agg #[.bool (sg a), .slice aA (nl (mg a)) ac], .agg #[.bool (sg b), .slice bA (nl (mg b)) bc]] w (RetII w (a / b) (a % b)) := by
  have pb : 0 < mg b := mg_pos.2 hb0
  have hv := dm_below hb0 h h2
  obtain ⟨q, Eq⟩ : ∃ zq : Nat, zq = mg a / mg b := ⟨_, rfl⟩
  obtain ⟨r, Er⟩ : ∃ zq : Nat, zq = mg a % mg b := ⟨_, rfl⟩
  have Bq : nl q ≤ 1048576 := by rw [Eq]; have := nl_div (mg a) (mg b); omega
  have Br : nl r ≤ 1048576 := by rw [Er]; have := nl_mod_le (mg a) (mg b); omega
  have hrb : r ≤ mg b := by rw [Er]; exact Nat.le_of_lt (Nat.mod_lt _ pb)
  have ta : sg a = true := sg_t h
  obtain ⟨n, En⟩ : ∃ n : Bool, n = !sg b := ⟨_, rfl⟩
  have In : (!sg b) = n := En.symm
  rw [show (sg a != sg b) = n by rw [ta, ← In]; simp, ← Eq, ← Er] at hv
  replace hv := Lib.hid hv
  replace En := Lib.hid En
  rw [← Er] at h2
  have t1 : ((nl r : Int) == 0) = false := ieqF (by have := nl_pos.2 h2; omega)
  have t2 : (nl r == 0) = false := by have := nl_pos.2 h2; simp; omega
  replace h2 := Lib.hid h2
  replace h := Lib.hid h
  have hb1 : Below (w).heap.size (w) ((((w.alloc (.cells #[.bool true, .slice aA (nl (mg a)) ac] 24)).alloc (.cells #[.bool (sg b), .slice bA (nl (mg b)) bc] 24)).alloc (.cells #[.bool false, .slice none 0 0] 24)).alloc (.cells #[.bool false, .slice none 0 0] 24)) := (Below.alloc (Below.alloc (Below.alloc (Below.alloc (Below.refl _ _) (Nat.le_refl _) _) (by simp <;> omega) _) (by simp <;> omega) _) (by simp <;> omega) _)
  replace ha := ha.below hb1
  replace hb := hb.below hb1
  have HBT := hb1
  clear hb1
  have Ra : BoxA ((((w.alloc (.cells #[.bool true, .slice aA (nl (mg a)) ac] 24)).alloc (.cells #[.bool (sg b), .slice bA (nl (mg b)) bc] 24)).alloc (.cells #[.bool false, .slice none 0 0] 24)).alloc (.cells #[.bool false, .slice none 0 0] 24)) w.heap.size 24 #[.bool true, .slice aA (nl (mg a)) ac] := ⟨by repeat (first | exact at_new (by first | (simp; done) | (simp; omega)) | refine at_old (by first | (simp; done) | (simp; omega)) ?_)⟩
  have qa0 := Ra.c (i := 0) rfl
  have qa1 := Ra.c (i := 1) rfl
  have Rb : BoxA ((((w.alloc (.cells #[.bool true, .slice aA (nl (mg a)) ac] 24)).alloc (.cells #[.bool (sg b), .slice bA (nl (mg b)) bc] 24)).alloc (.cells #[.bool false, .slice none 0 0] 24)).alloc (.cells #[.bool false, .slice none 0 0] 24)) (w.heap.size + 1) 24 #[.bool (sg b), .slice bA (nl (mg b)) bc] := ⟨by repeat (first | exact at_new (by first | (simp; done) | (simp; omega)) | refine at_old (by first | (simp; done) | (simp; omega)) ?_)⟩
  have qb0 := Rb.c (i := 0) rfl
  have qb1 := Rb.c (i := 1) rfl
  have Rr : BoxA ((((w.alloc (.cells #[.bool true, .slice aA (nl (mg a)) ac] 24)).alloc (.cells #[.bool (sg b), .slice bA (nl (mg b)) bc] 24)).alloc (.cells #[.bool false, .slice none 0 0] 24)).alloc (.cells #[.bool false, .slice none 0 0] 24)) (w.heap.size + 1 + 1) 24 #[.bool false, .slice none 0 0] := ⟨by repeat (first | exact at_new (by first | (simp; done) | (simp; omega)) | refine at_old (by first | (simp; done) | (simp; omega)) ?_)⟩
  have qr0 := Rr.c (i := 0) rfl
  have qr1 := Rr.c (i := 1) rfl
  have Rs : BoxA ((((w.alloc (.cells #[.bool true, .slice aA (nl (mg a)) ac] 24)).alloc (.cells #[.bool (sg b), .slice bA (nl (mg b)) bc] 24)).alloc (.cells #[.bool false, .slice none 0 0] 24)).alloc (.cells #[.bool false, .slice none 0 0] 24)) (w.heap.size + 1 + 1 + 1) 24 #[.bool false, .slice none 0 0] := ⟨by repeat (first | exact at_new (by first | (simp; done) | (simp; omega)) | refine at_old (by first | (simp; done) | (simp; omega)) ?_)⟩
  have qs0 := Rs.c (i := 0) rfl
  have qs1 := Rs.c (i := 1) rfl
  go_enter Tryz.func74, Tryz.ntmps74
  go_wp2_with (fail)
  have CD := rdiv_c aA ac (mg a) bA bc (mg b) _ ha hb (by omega) (by omega) pb
  rw [← Eq, ← Er] at CD
  replace Eq := Lib.hid Eq
  replace Er := Lib.hid Er
  refine (Calls.mono CD ?_)
  clear CD
  rintro e W2 ⟨Xq, cq, Xr, cr, rfl, hq, hr, hb2⟩
  replace ha := ha.below hb2
  replace hb := hb.below hb2
  replace Ra := Ra.below hb2
  replace qa0 := cell_below hb2 qa0
  replace qa1 := cell_below hb2 qa1
  replace Rb := Rb.below hb2
  replace qb0 := cell_below hb2 qb0
  replace qb1 := cell_below hb2 qb1
  replace Rr := Rr.below hb2
  replace qr0 := cell_below hb2 qr0
  replace qr1 := cell_below hb2 qr1
  replace Rs := Rs.below hb2
  replace qs0 := cell_below hb2 qs0
  replace qs1 := cell_below hb2 qs1
  replace HBT := Below.cons HBT hb2
  clear hb2
  go_wp2_with (fail)
  obtain ⟨r2, Er2⟩ : ∃ zq : Nat, zq = mg b - r := ⟨_, rfl⟩
  have Br2 : nl r2 ≤ 1048576 := by rw [Er2]; have := nl_sub (mg b) r; omega
  have CS := rsub_c bA bc (mg b) Xr cr r _ hb hr (by omega) (by omega) hrb
  rw [← Er2] at CS
  replace Er2 := Lib.hid Er2
  refine (Calls.mono CS ?_)
  clear CS
  rintro e W3 ⟨Xr2, cr2, rfl, hr2, hb3⟩
  replace ha := ha.below hb3
  replace hb := hb.below hb3
  replace Ra := Ra.below hb3
  replace qa0 := cell_below hb3 qa0
  replace qa1 := cell_below hb3 qa1
  replace Rb := Rb.below hb3
  replace qb0 := cell_below hb3 qb0
  replace qb1 := cell_below hb3 qb1
  replace Rr := Rr.below hb3
  replace qr0 := cell_below hb3 qr0
  replace qr1 := cell_below hb3 qr1
  replace Rs := Rs.below hb3
  replace qs0 := cell_below hb3 qs0
  replace qs1 := cell_below hb3 qs1
  replace hq := hq.below hb3
  replace hr := hr.below hb3
  replace HBT := Below.cons HBT hb3
  clear hb3
  go_wp2_with (fail)
  have hd4 : Below (W3).heap.size W3 (W3).drew := (Below.refl _ _).drew
  replace ha := ha.below hd4
  replace hb := hb.below hd4
  replace Ra := Ra.below hd4
  replace qa0 := cell_below hd4 qa0
  replace qa1 := cell_below hd4 qa1
  replace Rb := Rb.below hd4
  replace qb0 := cell_below hd4 qb0
  replace qb1 := cell_below hd4 qb1
  replace Rr := Rr.below hd4
  replace qr0 := cell_below hd4 qr0
  replace qr1 := cell_below hd4 qr1
  replace Rs := Rs.below hd4
  replace qs0 := cell_below hd4 qs0
  replace qs1 := cell_below hd4 qs1
  replace hq := hq.below hd4
  replace hr := hr.below hd4
  replace hr2 := hr2.below hd4
  replace HBT := Below.cons HBT hd4
  clear hd4
  replace qb0 : (W3).drew.cell? ⟨(w.heap.size + 1), 0, none⟩ = some (.bool (sg b)) := qb0
  have k0qb0 := qb0
  have neqb0r : (w.heap.size + 1) ≠ (w.heap.size + 1 + 1) := by omega
  have neqb0s : (w.heap.size + 1) ≠ (w.heap.size + 1 + 1 + 1) := by omega
  have hl4 : Below (W3).drew.heap.size (W3).drew ((W3).alloc (.cells #[.int .u32 1] 58)).drew := (show Below (W3).drew.heap.size (W3).drew ((W3).drew.alloc (.cells #[.int .u32 1] 58)) from (Below.refl _ _).alloc (Nat.le_refl _) _)
  replace ha := ha.below hl4
  replace hb := hb.below hl4
  replace Ra := Ra.below hl4
  replace qa0 := cell_below hl4 qa0
  replace qa1 := cell_below hl4 qa1
  replace Rb := Rb.below hl4
  replace qb0 := cell_below hl4 qb0
  replace qb1 := cell_below hl4 qb1
  replace Rr := Rr.below hl4
  replace qr0 := cell_below hl4 qr0
  replace qr1 := cell_below hl4 qr1
  replace Rs := Rs.below hl4
  replace qs0 := cell_below hl4 qs0
  replace qs1 := cell_below hl4 qs1
  replace hq := hq.below hl4
  replace hr := hr.below hl4
  replace hr2 := hr2.below hl4
  replace HBT := Below.cons HBT hl4
  clear hl4
  have hlit : ((W3).alloc (.cells #[.int .u32 1] 58)).drew.heap[(W3).heap.size]? = _ := heap_alloc_new (W3) (.cells #[.int .u32 1] 58)
  replace hlit := Lib.hid hlit
  obtain ⟨q2, Eq2⟩ : ∃ zq : Nat, zq = q + 1 := ⟨_, rfl⟩
  have Bq2 : nl q2 ≤ 1048577 := by rw [Eq2]; have := nl_add q 1; rw [nl_one] at this; omega
  have C4_0 := fun (W : World) (B : Option Addr) (d : Nat) (h1 : NatV W Xq cq q) (h2 : NatV W B d 1) => (show Calls Tryz.prog 83 #[.slice Xq (nl q) cq, .slice B 1 d] W (RetN W (q + 1)) by have := radd_c Xq cq q B d 1 W h1 h2 (by omega) (by rw [nl_one]; decide); rwa [nl_one] at this)
  simp only [← Eq2] at C4_0
  replace Eq2 := Lib.hid Eq2
  replace C4_0 := Lib.hid C4_0
  obtain ⟨x, Ex⟩ : ∃ zq : Int, zq = ival n q2 := ⟨_, rfl⟩
  have C4_1 := fun (W : World) (A : Option Addr) (c : Nat) (h1 : NatV W A c q2) => rz_c n A c q2 W h1 (by omega)
  simp only [← Ex] at C4_1
  replace Ex := Lib.hid Ex
  replace C4_1 := Lib.hid C4_1
  obtain ⟨y, Ey⟩ : ∃ zq : Int, zq = ival false r2 := ⟨_, rfl⟩
  have C4_2 := fun (W : World) (h1 : NatV W Xr2 cr2 r2) => rz_c false Xr2 cr2 r2 W h1 (by omega)
  simp only [← Ey] at C4_2
  replace Ey := Lib.hid Ey
  replace C4_2 := Lib.hid C4_2
  go_region_held3 (fun W => W.cell? ⟨(w.heap.size + 1), 0, none⟩ = some (.bool (sg b)))
    (first
      | with_reducible exact k0qb0
      | with_reducible exact qb0
      | with_reducible exact qb0_5
      | with_reducible exact qb0_6
      | with_reducible exact qb0_7
      | with_reducible exact (cell_other2 qb0_7 neqb0r)
      | with_reducible exact (cell_other2 (cell_other2 qb0_7 neqb0r) neqb0s)
      | go_keep)
    (first
      | (go_at_call 83; (with_reducible refine (C4_0.out _ _ _ hq (nat_one _ _ hlit.out)).mono ?_); rintro e W5 ⟨Xq2, cq2, rfl, hq2, hb5⟩; have ha_5 := ha.below hb5; have hb_5 := hb.below hb5; have Ra_5 := Ra.below hb5; have qa0_5 := cell_below hb5 qa0; have qa1_5 := cell_below hb5 qa1; have Rb_5 := Rb.below hb5; have qb0_5 := cell_below hb5 qb0; have qb1_5 := cell_below hb5 qb1; have Rr_5 := Rr.below hb5; have qr0_5 := cell_below hb5 qr0; have qr1_5 := cell_below hb5 qr1; have Rs_5 := Rs.below hb5; have qs0_5 := cell_below hb5 qs0; have qs1_5 := cell_below hb5 qs1; have hq_5 := hq.below hb5; have hr_5 := hr.below hb5; have hr2_5 := hr2.below hb5; have HBT_5 := Below.cons HBT hb5)
      | (go_at_call 71; (with_reducible refine (C4_1.out _ _ _ hq2).mono ?_); rintro e W6 ⟨Xx, cx, rfl, hx, hb6⟩; have ha_6 := ha_5.below hb6; have hb_6 := hb_5.below hb6; have Ra_6 := Ra_5.below hb6; have qa0_6 := cell_below hb6 qa0_5; have qa1_6 := cell_below hb6 qa1_5; have Rb_6 := Rb_5.below hb6; have qb0_6 := cell_below hb6 qb0_5; have qb1_6 := cell_below hb6 qb1_5; have Rr_6 := Rr_5.below hb6; have qr0_6 := cell_below hb6 qr0_5; have qr1_6 := cell_below hb6 qr1_5; have Rs_6 := Rs_5.below hb6; have qs0_6 := cell_below hb6 qs0_5; have qs1_6 := cell_below hb6 qs1_5; have hq_6 := hq_5.below hb6; have hr_6 := hr_5.below hb6; have hr2_6 := hr2_5.below hb6; have hq2_6 := hq2.below hb6; have HBT_6 := Below.cons HBT_5 hb6)
      | (go_at_call 71; (with_reducible refine (C4_2.out _ hr2_6).mono ?_); rintro e W7 ⟨Xy, cy, rfl, hy, hb7⟩; have ha_7 := ha_6.below hb7; have hb_7 := hb_6.below hb7; have Ra_7 := Ra_6.below hb7; have qa0_7 := cell_below hb7 qa0_6; have qa1_7 := cell_below hb7 qa1_6; have Rb_7 := Rb_6.below hb7; have qb0_7 := cell_below hb7 qb0_6; have qb1_7 := cell_below hb7 qb1_6; have Rr_7 := Rr_6.below hb7; have qr0_7 := cell_below hb7 qr0_6; have qr1_7 := cell_below hb7 qr1_6; have Rs_7 := Rs_6.below hb7; have qs0_7 := cell_below hb7 qs0_6; have qs1_7 := cell_below hb7 qs1_6; have hq_7 := hq_6.below hb7; have hr_7 := hr_6.below hb7; have hr2_7 := hr2_6.below hb7; have hq2_7 := hq2_6.below hb7; have hx_7 := hx.below hb7; have HBT_7 := Below.cons HBT_6 hb7; have fz0 := Rr_7.f (i := 0); have fz1 := Rr_7.f (i := 1); have fy0 := Rs_7.f (i := 0); have fy1 := Rs_7.f (i := 1)))
  all_goals (try go_wp2_with (fail))
  have hzx : x = a / b := by rw [Ex.out, Eq2.out]; exact hv.out.1
  subst hzx
  have hzy : y = a % b := by rw [Ey.out, Er2.out]; exact hv.out.2
  subst hzy
  have RU := Rr_7.store2 (.bool (sg ((a / b)))) (.slice Xx (nl (mg ((a / b)))) cx)
  have RV := (Rs_7.other2 (v0 := .bool (sg ((a / b)))) (v1 := .slice Xx (nl (mg ((a / b)))) cx) (show (w.heap.size + 1 + 1 + 1) ≠ (w.heap.size + 1 + 1) by omega)).store2 (.bool (sg ((a % b)))) (.slice Xy (nl (mg ((a % b)))) cy)
  have RU2 := RU.other2 (v0 := .bool (sg ((a % b)))) (v1 := .slice Xy (nl (mg ((a % b)))) cy) (show (w.heap.size + 1 + 1) ≠ (w.heap.size + 1 + 1 + 1) by omega)
  have e0 := RU2.c (i := 0) rfl
  have g0 := RV.c (i := 0) rfl
  have e1 := RU2.c (i := 1) rfl
  have g1 := RV.c (i := 1) rfl
  refine bodyPost_ret (v := .tuple #[.agg #[.bool (sg ((a / b))), .slice Xx (nl (mg ((a / b)))) cx], .agg #[.bool (sg ((a % b))), .slice Xy (nl (mg ((a % b)))) cy], .int .i64 0]) (by simp [results, Tryz.results74, go_sem, e0, e1, g0, g1]) rfl ?_
  exact ⟨Xx, cx, Xy, cy, rfl, ((Rs_7.other2 (v0 := .bool (sg ((a / b)))) (v1 := .slice Xx (nl (mg ((a / b)))) cx) (show (w.heap.size + 1 + 1 + 1) ≠ (w.heap.size + 1 + 1) by omega)).keep2 (by intro u hu; simp at hu; rcases hu with rfl | rfl <;> first | exact notU_bool _ | exact notU_slice _ _ _ | exact notU_i64 _) (Rr_7.keep2 (by intro u hu; simp at hu; rcases hu with rfl | rfl <;> first | exact notU_bool _ | exact notU_slice _ _ _ | exact notU_i64 _) hx_7)), ((Rs_7.other2 (v0 := .bool (sg ((a / b)))) (v1 := .slice Xx (nl (mg ((a / b)))) cx) (show (w.heap.size + 1 + 1 + 1) ≠ (w.heap.size + 1 + 1) by omega)).keep2 (by intro u hu; simp at hu; rcases hu with rfl | rfl <;> first | exact notU_bool _ | exact notU_slice _ _ _ | exact notU_i64 _) (Rr_7.keep2 (by intro u hu; simp at hu; rcases hu with rfl | rfl <;> first | exact notU_bool _ | exact notU_slice _ _ _ | exact notU_i64 _) hy)), Below.store2 (Below.store2 HBT_7 (by omega)) (by omega)⟩
theorem zdiv_c (aA : Option Addr) (ac : Nat) (a : Int) (bA : Option Addr) (bc : Nat) (b : Int) (w : World) (ha : NatV w aA ac (mg a)) (hb : NatV w bA bc (mg b)) (la : nl (mg a) ≤ 1048576) (lb : nl (mg b) ≤ 1048576) (hb0 : b ≠ 0) :
    Calls Tryz.prog 74 #[.agg #[.bool (sg a), .slice aA (nl (mg a)) ac], .agg #[.bool (sg b), .slice bA (nl (mg b)) bc]] w (RetII w (a / b) (a % b)) := by
  by_cases h : 0 ≤ a
  · exact zdiv_f aA ac a bA bc b w ha hb la lb hb0 h
  · by_cases h2 : mg a % mg b = 0
    · exact zdiv_z aA ac a bA bc b w ha hb la lb hb0 (by omega) h2
    · exact zdiv_t aA ac a bA bc b w ha hb la lb hb0 (by omega) h2
set_option maxRecDepth 100000 in
set_option maxHeartbeats 4000000 in
theorem zexact_c (aA : Option Addr) (ac : Nat) (a : Int) (bA : Option Addr) (bc : Nat) (b : Int) (w : World) (ha : NatV w aA ac (mg a)) (hb : NatV w bA bc (mg b)) (la : nl (mg a) ≤ 1048576) (lb : nl (mg b) ≤ 1048576) (hb0 : b ≠ 0) (hd : a % b = 0) :
    Calls Tryz.prog 126 #[.agg #[.bool (sg a), .slice aA (nl (mg a)) ac], .agg #[.bool (sg b), .slice bA (nl (mg b)) bc]] w (RetIb w (a / b)) := by
  replace hd := Lib.hid hd
  have hb1 : Below (w).heap.size (w) (((w.alloc (.cells #[.bool (sg a), .slice aA (nl (mg a)) ac] 24)).alloc (.cells #[.bool (sg b), .slice bA (nl (mg b)) bc] 24)).alloc (.cells #[.bool false, .slice none 0 0] 24)) := (Below.alloc (Below.alloc (Below.alloc (Below.refl _ _) (Nat.le_refl _) _) (by simp <;> omega) _) (by simp <;> omega) _)
  replace ha := ha.below hb1
  replace hb := hb.below hb1
  have HBT := hb1
  clear hb1
  have Ra : BoxA (((w.alloc (.cells #[.bool (sg a), .slice aA (nl (mg a)) ac] 24)).alloc (.cells #[.bool (sg b), .slice bA (nl (mg b)) bc] 24)).alloc (.cells #[.bool false, .slice none 0 0] 24)) w.heap.size 24 #[.bool (sg a), .slice aA (nl (mg a)) ac] := ⟨by repeat (first | exact at_new (by first | (simp; done) | (simp; omega)) | refine at_old (by first | (simp; done) | (simp; omega)) ?_)⟩
  have qa0 := Ra.c (i := 0) rfl
  have qa1 := Ra.c (i := 1) rfl
  have Rb : BoxA (((w.alloc (.cells #[.bool (sg a), .slice aA (nl (mg a)) ac] 24)).alloc (.cells #[.bool (sg b), .slice bA (nl (mg b)) bc] 24)).alloc (.cells #[.bool false, .slice none 0 0] 24)) (w.heap.size + 1) 24 #[.bool (sg b), .slice bA (nl (mg b)) bc] := ⟨by repeat (first | exact at_new (by first | (simp; done) | (simp; omega)) | refine at_old (by first | (simp; done) | (simp; omega)) ?_)⟩
  have qb0 := Rb.c (i := 0) rfl
  have qb1 := Rb.c (i := 1) rfl
  have Rr : BoxA (((w.alloc (.cells #[.bool (sg a), .slice aA (nl (mg a)) ac] 24)).alloc (.cells #[.bool (sg b), .slice bA (nl (mg b)) bc] 24)).alloc (.cells #[.bool false, .slice none 0 0] 24)) (w.heap.size + 1 + 1) 24 #[.bool false, .slice none 0 0] := ⟨by repeat (first | exact at_new (by first | (simp; done) | (simp; omega)) | refine at_old (by first | (simp; done) | (simp; omega)) ?_)⟩
  have qr0 := Rr.c (i := 0) rfl
  have qr1 := Rr.c (i := 1) rfl
  go_enter Tryz.func126, Tryz.ntmps126
  go_wp2_with (fail)
  obtain ⟨q, Eq⟩ : ∃ zq : Int, zq = a / b := ⟨_, rfl⟩
  obtain ⟨m, Em⟩ : ∃ zq : Int, zq = a % b := ⟨_, rfl⟩
  have CT2 := (zdiv_c aA ac a bA bc b _ ha hb (by omega) (by omega) hb0)
  rw [← Eq, ← Em] at CT2
  replace Eq := Lib.hid Eq
  replace Em := Lib.hid Em
  replace CT2 := Lib.hid CT2
  refine (Calls.mono CT2.out ?_)
  clear CT2
  rintro e W2 ⟨Xq, cq, Xm, cm, rfl, hq, hm, hb2⟩
  replace ha := ha.below hb2
  replace hb := hb.below hb2
  replace Ra := Ra.below hb2
  replace qa0 := cell_below hb2 qa0
  replace qa1 := cell_below hb2 qa1
  replace Rb := Rb.below hb2
  replace qb0 := cell_below hb2 qb0
  replace qb1 := cell_below hb2 qb1
  replace Rr := Rr.below hb2
  replace qr0 := cell_below hb2 qr0
  replace qr1 := cell_below hb2 qr1
  replace HBT := Below.cons HBT hb2
  clear hb2
  have lm : nl (mg m) = 0 := by rw [Em.out, hd.out]; exact nl_zero
  have t1 : decide (0 < (nl (mg m) : Int)) = false := by rw [lm]; rfl
  have t2 : decide (0 < nl (mg m)) = false := by rw [lm]; rfl
  replace lm := Lib.hid lm
  have hb3 : Below (W2).heap.size (W2) ((W2.alloc (.cells #[.bool (sg q), .slice Xq (nl (mg q)) cq] 24)).alloc (.cells #[.bool (sg m), .slice Xm (nl (mg m)) cm] 24)) := (Below.alloc (Below.alloc (Below.refl _ _) (Nat.le_refl _) _) (by simp <;> omega) _)
  replace ha := ha.below hb3
  replace hb := hb.below hb3
  replace Ra := Ra.below hb3
  replace qa0 := cell_below hb3 qa0
  replace qa1 := cell_below hb3 qa1
  replace Rb := Rb.below hb3
  replace qb0 := cell_below hb3 qb0
  replace qb1 := cell_below hb3 qb1
  replace Rr := Rr.below hb3
  replace qr0 := cell_below hb3 qr0
  replace qr1 := cell_below hb3 qr1
  replace hq := hq.below hb3
  replace hm := hm.below hb3
  replace HBT := Below.cons HBT hb3
  clear hb3
  have Rq : BoxA ((W2.alloc (.cells #[.bool (sg q), .slice Xq (nl (mg q)) cq] 24)).alloc (.cells #[.bool (sg m), .slice Xm (nl (mg m)) cm] 24)) W2.heap.size 24 #[.bool (sg q), .slice Xq (nl (mg q)) cq] := ⟨by repeat (first | exact at_new (by first | (simp; done) | (simp; omega)) | refine at_old (by first | (simp; done) | (simp; omega)) ?_)⟩
  have qq0 := Rq.c (i := 0) rfl
  have qq1 := Rq.c (i := 1) rfl
  have Rm : BoxA ((W2.alloc (.cells #[.bool (sg q), .slice Xq (nl (mg q)) cq] 24)).alloc (.cells #[.bool (sg m), .slice Xm (nl (mg m)) cm] 24)) (W2.heap.size + 1) 24 #[.bool (sg m), .slice Xm (nl (mg m)) cm] := ⟨by repeat (first | exact at_new (by first | (simp; done) | (simp; omega)) | refine at_old (by first | (simp; done) | (simp; omega)) ?_)⟩
  have qm0 := Rm.c (i := 0) rfl
  have qm1 := Rm.c (i := 1) rfl
  have fzr0 := Rr.f (i := 0)
  have fzr1 := Rr.f (i := 1)
  go_wp2_with (fail)
  have hzq : q = a / b := by exact Eq.out
  subst hzq
  have RS := Rr.store2 (.bool (sg ((a / b)))) (.slice Xq (nl (mg ((a / b)))) cq)
  have e0 := RS.c (i := 0) rfl
  have e1 := RS.c (i := 1) rfl
  refine bodyPost_ret (v := .tuple #[.agg #[.bool (sg ((a / b))), .slice Xq (nl (mg ((a / b)))) cq], .bool true]) (by simp [results, Tryz.results126, go_sem, e0, e1]) rfl ?_
  exact ⟨Xq, cq, rfl, Rr.keep2 (by intro u hu; simp at hu; rcases hu with rfl | rfl <;> first | exact notU_bool _ | exact notU_slice _ _ _ | exact notU_i64 _) hq, Below.store2 HBT (by omega)⟩
end Go.Proofs.YtacjfpibilolnaaGreatDoor

/- nat.Cmp again: it only draws. -/
set_option linter.unusedVariables false
set_option linter.unusedSimpArgs false
namespace Go.Proofs.YtacjfpibilolnaaGreatDoor
open Go.RowKit Go.Shelf
attribute [local go_sem] max2_i min2_i max_two min_two
set_option maxRecDepth 100000 in
set_option maxHeartbeats 1000000 in
theorem cmp_q (A : Option Addr) (c a : Nat) (B : Option Addr) (d b : Nat) (w : World) (hA : NatV w A c a) (hB : NatV w B d b) (ha : nl a ≤ 1099511627776) (hb : nl b ≤ 1099511627776) :
    Calls Tryz.prog 106 #[.slice A (nl a) c, .slice B (nl b) d] w fun e w' => e = .returned (.int .i64 (cmpN a b)) ∧ ∃ k, w' = w.drewN k := by
  by_cases hl : nl a = nl b
  · have fin : ∀ k, k < nl a → (∀ j, k + 1 ≤ j → j < nl a → gl (limbs a) j = gl (limbs b) j) → (gl (limbs a) k < gl (limbs b) k → cmpN a b = -1) ∧ (gl (limbs b) k < gl (limbs a) k → cmpN a b = 1) := fun k hk hj =>
      ⟨fun h => cmpN_lt (by have := val_lt_of (l := limbs a) (m := limbs b) hl (lim_limbs a) hk hj h; rwa [val_limbs, val_limbs] at this),
       fun h => cmpN_gt (by have := val_lt_of (l := limbs b) (m := limbs a) hl.symm (lim_limbs b) (k := k) (by unfold nl at *; omega) (fun j h1 h2 => (hj j h1 (by unfold nl at *; omega)).symm) h; rwa [val_limbs, val_limbs] at this)⟩
    have fin0 : (∀ j, 0 ≤ j → j < nl a → gl (limbs a) j = gl (limbs b) j) → cmpN a b = 0 := fun h => cmpN_eq (limbs_inj (val_eq_of hl h))
    have FIN := Lib.hid fin
    have FIN0 := Lib.hid fin0
    have hb1 : ((nl a : Int) != (nl b : Int)) = false := ineF (by omega)
    have hb2 : (nl a != nl b) = false := by simp [hl]
    have HL := Lib.hid hl
    clear fin fin0 hl
    go_enter Tryz.func106, Tryz.ntmps106
    go_wp2_with (fail)
    go_loopw [5] (fun i wr => ∃ k : Nat, i = .int .i64 ((k : Int) - 1) ∧ k ≤ nl a ∧ (∀ j, k ≤ j → j < nl a → gl (limbs a) j = gl (limbs b) j) ∧ ∃ m, wr = w.drewN m) (fun i wr => (intOf i + 1).toNat)
    case atStart => exact ⟨nl a, rfl, Nat.le_refl _, fun j h1 h2 => by omega, 0, rfl⟩
    case round =>
      obtain ⟨k, rfl, hk, hj, m, rfl⟩ := hrel
      have HJ := Lib.hid hj
      clear hj
      cases k with
      | zero =>
        go_wp2_with (fail)
        go_ret
        exact ⟨ret_int (FIN0.out HJ.out).symm, ⟨_, by first | rfl | (simp only [World.drewN_drewN]; rfl)⟩⟩
      | succ k =>
        rw [show (((k + 1 : Nat) : Int) - 1) = (k : Int) by omega]
        obtain ⟨ad, rfl, hcA⟩ := hA.rd.get k hk
        obtain ⟨bd, rfl, hcB⟩ := hB.rd.get k (by have := HL.out; unfold nl at *; omega)
        have i1 : k < nl a := hk
        have i2 : k < nl b := by have := HL.out; omega
        have hF := FIN.out k hk (fun j h1 h2 => HJ.out j h1 h2)
        obtain ⟨x, hx⟩ : ∃ x, gl (limbs a) k = x := ⟨_, rfl⟩
        obtain ⟨y, hy⟩ : ∃ y, gl (limbs b) k = y := ⟨_, rfl⟩
        rw [hx] at hcA
        rw [hy] at hcB
        rw [hx, hy] at hF
        have HF := Lib.hid hF
        have HX := Lib.hid hx
        have HY := Lib.hid hy
        clear hF hx hy
        rcases Nat.lt_trichotomy x y with h | h | h
        · have b1 : decide ((x : Int) < (y : Int)) = true := by simp; omega
          have b2 : decide (x < y) = true := by simp; omega
          have HV := Lib.hid (HF.out.1 h)
          clear h
          go_wp2_with (fail)
          go_quiet (fail)
          go_wp2_with (fail)
          go_ret
          exact ⟨ret_int HV.out.symm, ⟨_, by first | rfl | (simp only [World.drewN_drewN]; rfl)⟩⟩
        · have b1 : decide ((x : Int) < (y : Int)) = false := by simp; omega
          have b2 : decide (x < y) = false := by simp; omega
          have b3 : decide ((y : Int) < (x : Int)) = false := by simp; omega
          have b4 : decide (y < x) = false := by simp; omega
          have HV := Lib.hid h
          clear h
          go_wp2_with (fail)
          go_quiet (fail)
          go_wp2_with (fail)
          go_quiet (fail)
          go_wp2_with (fail)
          go_roundw
          case rel => exact ⟨k, by go_num, by omega, fun j h1 h2 => by
            by_cases e : j = k
            · rw [e, HX.out, HY.out, HV.out]
            · exact HJ.out j (by omega) h2, _, World.drewN_drewN .. ▸ World.drewN_drewN ..⟩
          case measure => simp [intOf] <;> omega
        · have b1 : decide ((x : Int) < (y : Int)) = false := by simp; omega
          have b2 : decide (x < y) = false := by simp; omega
          have b3 : decide ((y : Int) < (x : Int)) = true := by simp; omega
          have b4 : decide (y < x) = true := by simp; omega
          have HV := Lib.hid (HF.out.2 h)
          clear h
          go_wp2_with (fail)
          go_quiet (fail)
          go_wp2_with (fail)
          go_quiet (fail)
          go_wp2_with (fail)
          go_ret
          exact ⟨ret_int HV.out.symm, ⟨_, by first | rfl | (simp only [World.drewN_drewN]; rfl)⟩⟩
  · have hb1 : ((nl a : Int) != (nl b : Int)) = true := ineT (by omega)
    have hb2 : (nl a != nl b) = true := by simp [hl]
    go_enter Tryz.func106, Tryz.ntmps106
    go_wp2_with (fail)
    go_ret
    refine ⟨ret_int ?_, ⟨0, rfl⟩⟩
    rcases Nat.lt_or_ge (nl a) (nl b) with h | h
    · rw [cmpN_lt (show a < b by have := lt_nl.1 h; have := nl_lt a; omega)]; omega
    · rw [cmpN_gt (show b < a by have := lt_nl.1 (show nl b < nl a by omega); have := nl_lt b; omega)]; omega

end Go.Proofs.YtacjfpibilolnaaGreatDoor

/- Whole numbers, walked: Exact. -/
set_option linter.unusedVariables false
set_option linter.unusedSimpArgs false
namespace Go.Proofs.YtacjfpibilolnaaGreatDoor
open Go.RowKit Go.Shelf
attribute [local go_sem] max2_i min2_i max_two min_two

set_option maxRecDepth 100000 in
set_option maxHeartbeats 1000000 in
theorem iexact_c (aA : Option Addr) (ac : Nat) (a : Int) (bA : Option Addr) (bc : Nat) (b : Int) (w : World) (ha : NatV w aA ac (mg a)) (hb : NatV w bA bc (mg b)) (la : nl (mg a) ≤ 1048576) (lb : nl (mg b) ≤ 1048576) (hb0 : b ≠ 0) (hd : a % b = 0) :
    Calls Tryz.prog 124 #[.agg #[.bool (sg a), .slice aA (nl (mg a)) ac], .agg #[.bool (sg b), .slice bA (nl (mg b)) bc]] w (RetIb w (a / b)) := by
  replace hd := Lib.hid hd
  have hb1 : Below (w).heap.size (w) (((w.alloc (.cells #[.bool (sg a), .slice aA (nl (mg a)) ac] 24)).alloc (.cells #[.bool (sg b), .slice bA (nl (mg b)) bc] 24)).alloc (.cells #[.bool false, .slice none 0 0] 24)) := (Below.alloc (Below.alloc (Below.alloc (Below.refl _ _) (Nat.le_refl _) _) (by simp <;> omega) _) (by simp <;> omega) _)
  replace ha := ha.below hb1
  replace hb := hb.below hb1
  have HBT := hb1
  clear hb1
  have Ra : BoxA (((w.alloc (.cells #[.bool (sg a), .slice aA (nl (mg a)) ac] 24)).alloc (.cells #[.bool (sg b), .slice bA (nl (mg b)) bc] 24)).alloc (.cells #[.bool false, .slice none 0 0] 24)) w.heap.size 24 #[.bool (sg a), .slice aA (nl (mg a)) ac] := ⟨by repeat (first | exact at_new (by first | (simp; done) | (simp; omega)) | refine at_old (by first | (simp; done) | (simp; omega)) ?_)⟩
  have qa0 := Ra.c (i := 0) rfl
  have qa1 := Ra.c (i := 1) rfl
  have Rb : BoxA (((w.alloc (.cells #[.bool (sg a), .slice aA (nl (mg a)) ac] 24)).alloc (.cells #[.bool (sg b), .slice bA (nl (mg b)) bc] 24)).alloc (.cells #[.bool false, .slice none 0 0] 24)) (w.heap.size + 1) 24 #[.bool (sg b), .slice bA (nl (mg b)) bc] := ⟨by repeat (first | exact at_new (by first | (simp; done) | (simp; omega)) | refine at_old (by first | (simp; done) | (simp; omega)) ?_)⟩
  have qb0 := Rb.c (i := 0) rfl
  have qb1 := Rb.c (i := 1) rfl
  have Rr : BoxA (((w.alloc (.cells #[.bool (sg a), .slice aA (nl (mg a)) ac] 24)).alloc (.cells #[.bool (sg b), .slice bA (nl (mg b)) bc] 24)).alloc (.cells #[.bool false, .slice none 0 0] 24)) (w.heap.size + 1 + 1) 24 #[.bool false, .slice none 0 0] := ⟨by repeat (first | exact at_new (by first | (simp; done) | (simp; omega)) | refine at_old (by first | (simp; done) | (simp; omega)) ?_)⟩
  have qr0 := Rr.c (i := 0) rfl
  have qr1 := Rr.c (i := 1) rfl
  go_enter Tryz.func124, Tryz.ntmps124
  go_wp2_with (fail)
  obtain ⟨q, Eq⟩ : ∃ zq : Int, zq = a / b := ⟨_, rfl⟩
  obtain ⟨m, Em⟩ : ∃ zq : Int, zq = a % b := ⟨_, rfl⟩
  have CT2 := (idiv_c aA ac a bA bc b _ ha hb (by omega) (by omega) hb0)
  rw [← Eq, ← Em] at CT2
  replace Eq := Lib.hid Eq
  replace Em := Lib.hid Em
  replace CT2 := Lib.hid CT2
  refine (Calls.mono CT2.out ?_)
  clear CT2
  rintro e W2 ⟨Xq, cq, Xm, cm, rfl, hq, hm, hb2⟩
  replace ha := ha.below hb2
  replace hb := hb.below hb2
  replace Ra := Ra.below hb2
  replace qa0 := cell_below hb2 qa0
  replace qa1 := cell_below hb2 qa1
  replace Rb := Rb.below hb2
  replace qb0 := cell_below hb2 qb0
  replace qb1 := cell_below hb2 qb1
  replace Rr := Rr.below hb2
  replace qr0 := cell_below hb2 qr0
  replace qr1 := cell_below hb2 qr1
  replace HBT := Below.cons HBT hb2
  clear hb2
  go_wp2_with (fail)
  have hb3 : Below (W2).heap.size (W2) ((W2.alloc (.cells #[.bool (sg q), .slice Xq (nl (mg q)) cq] 24)).alloc (.cells #[.bool (sg m), .slice Xm (nl (mg m)) cm] 24)) := (Below.alloc (Below.alloc (Below.refl _ _) (Nat.le_refl _) _) (by simp <;> omega) _)
  replace ha := ha.below hb3
  replace hb := hb.below hb3
  replace Ra := Ra.below hb3
  replace qa0 := cell_below hb3 qa0
  replace qa1 := cell_below hb3 qa1
  replace Rb := Rb.below hb3
  replace qb0 := cell_below hb3 qb0
  replace qb1 := cell_below hb3 qb1
  replace Rr := Rr.below hb3
  replace qr0 := cell_below hb3 qr0
  replace qr1 := cell_below hb3 qr1
  replace hq := hq.below hb3
  replace hm := hm.below hb3
  replace HBT := Below.cons HBT hb3
  clear hb3
  have Rq : BoxA ((W2.alloc (.cells #[.bool (sg q), .slice Xq (nl (mg q)) cq] 24)).alloc (.cells #[.bool (sg m), .slice Xm (nl (mg m)) cm] 24)) W2.heap.size 24 #[.bool (sg q), .slice Xq (nl (mg q)) cq] := ⟨by repeat (first | exact at_new (by first | (simp; done) | (simp; omega)) | refine at_old (by first | (simp; done) | (simp; omega)) ?_)⟩
  have qq0 := Rq.c (i := 0) rfl
  have qq1 := Rq.c (i := 1) rfl
  have Rm : BoxA ((W2.alloc (.cells #[.bool (sg q), .slice Xq (nl (mg q)) cq] 24)).alloc (.cells #[.bool (sg m), .slice Xm (nl (mg m)) cm] 24)) (W2.heap.size + 1) 24 #[.bool (sg m), .slice Xm (nl (mg m)) cm] := ⟨by repeat (first | exact at_new (by first | (simp; done) | (simp; omega)) | refine at_old (by first | (simp; done) | (simp; omega)) ?_)⟩
  have qm0 := Rm.c (i := 0) rfl
  have qm1 := Rm.c (i := 1) rfl
  have hsg : m.sign = 0 := by rw [Em.out, hd.out]; rfl
  have CG := isign_c Xm cm m ((W2.alloc (.cells #[.bool (sg q), .slice Xq (nl (mg q)) cq] 24)).alloc (.cells #[.bool (sg m), .slice Xm (nl (mg m)) cm] 24))
  rw [hsg] at CG
  replace hsg := Lib.hid hsg
  refine (Calls.mono (CG) ?_)
  rintro e W4 ⟨rfl, hb4⟩
  replace ha := ha.below hb4
  replace hb := hb.below hb4
  replace Ra := Ra.below hb4
  replace qa0 := cell_below hb4 qa0
  replace qa1 := cell_below hb4 qa1
  replace Rb := Rb.below hb4
  replace qb0 := cell_below hb4 qb0
  replace qb1 := cell_below hb4 qb1
  replace Rr := Rr.below hb4
  replace qr0 := cell_below hb4 qr0
  replace qr1 := cell_below hb4 qr1
  replace hq := hq.below hb4
  replace hm := hm.below hb4
  replace Rq := Rq.below hb4
  replace qq0 := cell_below hb4 qq0
  replace qq1 := cell_below hb4 qq1
  replace Rm := Rm.below hb4
  replace qm0 := cell_below hb4 qm0
  replace qm1 := cell_below hb4 qm1
  replace HBT := Below.cons HBT hb4
  clear hb4
  have fzr0 := Rr.f (i := 0)
  have fzr1 := Rr.f (i := 1)
  go_wp2_with (fail)
  have hzq : q = a / b := by exact Eq.out
  subst hzq
  have RS := Rr.store2 (.bool (sg ((a / b)))) (.slice Xq (nl (mg ((a / b)))) cq)
  have e0 := RS.c (i := 0) rfl
  have e1 := RS.c (i := 1) rfl
  refine bodyPost_ret (v := .tuple #[.agg #[.bool (sg ((a / b))), .slice Xq (nl (mg ((a / b)))) cq], .bool true]) (by simp [results, Tryz.results124, go_sem, e0, e1]) rfl ?_
  exact ⟨Xq, cq, rfl, Rr.keep2 (by intro u hu; simp at hu; rcases hu with rfl | rfl <;> first | exact notU_bool _ | exact notU_slice _ _ _ | exact notU_i64 _) hq, Below.store2 HBT (by omega)⟩
theorem shf_nn {a n : Int} (ha : 0 ≤ a) (hn : 0 ≤ n) : ival false (mg a * 2 ^ n.toNat) = shf a n := by
  unfold shf; rw [if_pos hn]
  have : (mg a : Int) = a := by unfold mg; omega
  rw [ival_false, Int.natCast_mul, this, Int.natCast_pow]; rfl
theorem shf_bn {a n : Int} (ha : a < 0) (hn : 0 ≤ n) : ival true (mg a * 2 ^ n.toNat) = shf a n := by
  unfold shf ival; rw [if_pos hn, if_pos rfl]
  have : (mg a : Int) = -a := by unfold mg; omega
  rw [Int.natCast_mul, this, Int.natCast_pow, Int.neg_mul, Int.neg_neg]; rfl
theorem shf_nb {a n : Int} (k : Nat) (ha : 0 ≤ a) (hk : n = -(k : Int)) (h0 : 0 < k) : ival false (mg a / 2 ^ k) = shf a n := by
  unfold shf; rw [if_neg (by omega)]
  have : (mg a : Int) = a := by unfold mg; omega
  rw [ival_false, Int.natCast_ediv, this, hk, Int.neg_neg, Int.toNat_natCast, Int.natCast_pow]; rfl
theorem shf_b0 {a n : Int} (k : Nat) (ha : a < 0) (hk : n = -(k : Int)) (h0 : 0 < k) (h : mg a / 2 ^ k * 2 ^ k = mg a) : ival true (mg a / 2 ^ k) = shf a n := by
  unfold shf ival; rw [if_pos rfl, if_neg (by omega)]
  have h1 : ((mg a / 2 ^ k : Nat) : Int) * ((2 ^ k : Nat) : Int) = (mg a : Int) := by rw [← Int.natCast_mul, h]
  have h2 : (mg a : Int) = -a := by unfold mg; omega
  have hp : (0 : Int) < ((2 ^ k : Nat) : Int) := by have := Nat.two_pow_pos k; omega
  rw [hk, Int.neg_neg, Int.toNat_natCast]
  have e : (2 : Int) ^ k = ((2 ^ k : Nat) : Int) := by rw [Int.natCast_pow]; rfl
  rw [e]
  refine (ediv_uniq (by omega) (q := -((mg a / 2 ^ k : Nat) : Int)) (r := 0) ?_ (Int.le_refl _) (by omega)).1.symm
  rw [Int.neg_mul, h1]; omega
theorem shf_b1 {a n : Int} (k : Nat) (ha : a < 0) (hk : n = -(k : Int)) (h0 : 0 < k) (h : mg a / 2 ^ k * 2 ^ k ≠ mg a) : ival true (mg a / 2 ^ k + 1) = shf a n := by
  unfold shf ival; rw [if_pos rfl, if_neg (by omega)]
  have h0' := Nat.div_add_mod (mg a) (2 ^ k)
  have hlt := Nat.mod_lt (mg a) (Nat.two_pow_pos k)
  have h1 : ((2 ^ k : Nat) : Int) * ((mg a / 2 ^ k : Nat) : Int) + ((mg a % 2 ^ k : Nat) : Int) = (mg a : Int) := by rw [← Int.natCast_mul, ← Int.natCast_add, h0']
  have h3 : mg a % 2 ^ k ≠ 0 := fun e => h (by rw [e, Nat.add_zero, Nat.mul_comm] at h0'; exact h0')
  have h2 : (mg a : Int) = -a := by unfold mg; omega
  rw [hk, Int.neg_neg, Int.toNat_natCast]
  have e : (2 : Int) ^ k = ((2 ^ k : Nat) : Int) := by rw [Int.natCast_pow]; rfl
  rw [e]
  generalize mg a / 2 ^ k = q at *
  generalize mg a % 2 ^ k = r at *
  generalize 2 ^ k = P at *
  refine (ediv_uniq (by omega) (q := -((q + 1 : Nat) : Int)) (r := (P : Int) - r) ?_ (by omega) (by omega)).1.symm
  rw [Int.natCast_add, Int.neg_mul, Int.add_mul, Int.mul_comm (q : Int) (P : Int)]
  omega
set_option maxRecDepth 100000 in
set_option maxHeartbeats 1000000 in
theorem ishift_fu (aA : Option Addr) (ac : Nat) (a : Int) (n : Int) (w : World) (ha : NatV w aA ac (mg a))  (la : nl (mg a) ≤ 1048576) (ln : -16777216 ≤ n ∧ n ≤ 16777216) (h1 : 0 ≤ a) (h2 : 0 ≤ n) :
    Calls Tryz.prog 63 #[.agg #[.bool (sg a), .slice aA (nl (mg a)) ac], .int .i64 n] w (RetI w (shf a n)) := by
  have ta : sg a = false := sg_f h1
  have t1 : decide (n < 0) = false := by simp; omega
  obtain ⟨k, hk⟩ := Int.eq_ofNat_of_zero_le h2
  have lk : k ≤ 16777216 := by omega
  have hb1 : Below (w).heap.size (w) ((w.alloc (.cells #[.bool false, .slice aA (nl (mg a)) ac] 24)).alloc (.cells #[.bool false, .slice none 0 0] 24)) := (Below.alloc (Below.alloc (Below.refl _ _) (Nat.le_refl _) _) (by simp <;> omega) _)
  replace ha := ha.below hb1
  have HBT := hb1
  clear hb1
  have Ra : BoxA ((w.alloc (.cells #[.bool false, .slice aA (nl (mg a)) ac] 24)).alloc (.cells #[.bool false, .slice none 0 0] 24)) w.heap.size 24 #[.bool false, .slice aA (nl (mg a)) ac] := ⟨by repeat (first | exact at_new (by first | (simp; done) | (simp; omega)) | refine at_old (by first | (simp; done) | (simp; omega)) ?_)⟩
  have qa0 := Ra.c (i := 0) rfl
  have qa1 := Ra.c (i := 1) rfl
  have Rr : BoxA ((w.alloc (.cells #[.bool false, .slice aA (nl (mg a)) ac] 24)).alloc (.cells #[.bool false, .slice none 0 0] 24)) (w.heap.size + 1) 24 #[.bool false, .slice none 0 0] := ⟨by repeat (first | exact at_new (by first | (simp; done) | (simp; omega)) | refine at_old (by first | (simp; done) | (simp; omega)) ?_)⟩
  have qr0 := Rr.c (i := 0) rfl
  have qr1 := Rr.c (i := 1) rfl
  subst hk
  go_enter Tryz.func63, Tryz.ntmps63
  go_wp2_with (fail)
  obtain ⟨o, Eo⟩ : ∃ zq : Nat, zq = mg a * 2 ^ k := ⟨_, rfl⟩
  have Bo : nl o ≤ 2097152 := by rw [Eo]; have := nl_shl (mg a) k; omega
  refine (Calls.mono (R := RetN ((w.alloc (.cells #[.bool false, .slice aA (nl (mg a)) ac] 24)).alloc (.cells #[.bool false, .slice none 0 0] 24)) o) (by rw [Eo]; with_reducible exact (shl_e aA ac (mg a) (k : Int) k _ ha (by omega) rfl (by omega))) ?_)
  replace Eo := Lib.hid Eo
  rintro e W2 ⟨Xo, co, rfl, ho, hb2⟩
  replace ha := ha.below hb2
  replace Ra := Ra.below hb2
  replace qa0 := cell_below hb2 qa0
  replace qa1 := cell_below hb2 qa1
  replace Rr := Rr.below hb2
  replace qr0 := cell_below hb2 qr0
  replace qr1 := cell_below hb2 qr1
  replace HBT := Below.cons HBT hb2
  clear hb2
  go_wp2_with (fail)
  go_quiet (fail)
  have hb3 : Below (W2).heap.size (W2) ((W2).drewN nq) := below_drewN (Below.refl _ _) nq
  replace ha := ha.below hb3
  replace Ra := Ra.below hb3
  replace qa0 := cell_below hb3 qa0
  replace qa1 := cell_below hb3 qa1
  replace Rr := Rr.below hb3
  replace qr0 := cell_below hb3 qr0
  replace qr1 := cell_below hb3 qr1
  replace ho := ho.below hb3
  replace HBT := Below.cons HBT hb3
  clear hb3
  go_wp2_with (fail)
  obtain ⟨z, Ez⟩ : ∃ zq : Int, zq = ival false o := ⟨_, rfl⟩
  refine (Calls.mono (R := RetI ((W2).drewN nq) z) (by rw [Ez]; with_reducible exact (imake_c false Xo co o _ ho (by omega))) ?_)
  replace Ez := Lib.hid Ez
  rintro e W4 ⟨Xz, cz, rfl, hz, hb4⟩
  replace ha := ha.below hb4
  replace Ra := Ra.below hb4
  replace qa0 := cell_below hb4 qa0
  replace qa1 := cell_below hb4 qa1
  replace Rr := Rr.below hb4
  replace qr0 := cell_below hb4 qr0
  replace qr1 := cell_below hb4 qr1
  replace ho := ho.below hb4
  replace HBT := Below.cons HBT hb4
  clear hb4
  have fzr0 := Rr.f (i := 0)
  have fzr1 := Rr.f (i := 1)
  go_wp2_with (fail)
  have hzz : z = shf a (k : Int) := by rw [Ez.out, Eo.out]; have := shf_nn h1 h2; rwa [Int.toNat_natCast] at this
  subst hzz
  have RS := Rr.store2 (.bool (sg ((shf a (k : Int))))) (.slice Xz (nl (mg ((shf a (k : Int))))) cz)
  have e0 := RS.c (i := 0) rfl
  have e1 := RS.c (i := 1) rfl
  refine bodyPost_ret (v := .agg #[.bool (sg ((shf a (k : Int)))), .slice Xz (nl (mg ((shf a (k : Int))))) cz]) (by simp [results, Tryz.results63, go_sem, e0, e1]) rfl ?_
  exact ⟨Xz, cz, rfl, (Rr.keep2 (by intro u hu; simp at hu; rcases hu with rfl | rfl <;> first | exact notU_bool _ | exact notU_slice _ _ _ | exact notU_i64 _) hz), (Below.store2 HBT (by first | exact Nat.le_refl _ | omega))⟩
set_option maxRecDepth 100000 in
set_option maxHeartbeats 1000000 in
theorem ishift_fd (aA : Option Addr) (ac : Nat) (a : Int) (n : Int) (w : World) (ha : NatV w aA ac (mg a))  (la : nl (mg a) ≤ 1048576) (ln : -16777216 ≤ n ∧ n ≤ 16777216) (h1 : 0 ≤ a) (h2 : n < 0) :
    Calls Tryz.prog 63 #[.agg #[.bool (sg a), .slice aA (nl (mg a)) ac], .int .i64 n] w (RetI w (shf a n)) := by
  have ta : sg a = false := sg_f h1
  have t1 : decide (n < 0) = true := by simp; omega
  obtain ⟨k, hk⟩ := Int.eq_ofNat_of_zero_le (show 0 ≤ -n by omega)
  have hk0 : 0 < k := by omega
  have hk2 : n = -(k : Int) := by omega
  have lk : k ≤ 16777216 := by omega
  have hb1 : Below (w).heap.size (w) ((w.alloc (.cells #[.bool false, .slice aA (nl (mg a)) ac] 24)).alloc (.cells #[.bool false, .slice none 0 0] 24)) := (Below.alloc (Below.alloc (Below.refl _ _) (Nat.le_refl _) _) (by simp <;> omega) _)
  replace ha := ha.below hb1
  have HBT := hb1
  clear hb1
  have Ra : BoxA ((w.alloc (.cells #[.bool false, .slice aA (nl (mg a)) ac] 24)).alloc (.cells #[.bool false, .slice none 0 0] 24)) w.heap.size 24 #[.bool false, .slice aA (nl (mg a)) ac] := ⟨by repeat (first | exact at_new (by first | (simp; done) | (simp; omega)) | refine at_old (by first | (simp; done) | (simp; omega)) ?_)⟩
  have qa0 := Ra.c (i := 0) rfl
  have qa1 := Ra.c (i := 1) rfl
  have Rr : BoxA ((w.alloc (.cells #[.bool false, .slice aA (nl (mg a)) ac] 24)).alloc (.cells #[.bool false, .slice none 0 0] 24)) (w.heap.size + 1) 24 #[.bool false, .slice none 0 0] := ⟨by repeat (first | exact at_new (by first | (simp; done) | (simp; omega)) | refine at_old (by first | (simp; done) | (simp; omega)) ?_)⟩
  have qr0 := Rr.c (i := 0) rfl
  have qr1 := Rr.c (i := 1) rfl
  have In : -n = (k : Int) := hk
  replace hk2 := Lib.hid hk2
  replace hk := Lib.hid hk
  go_enter Tryz.func63, Tryz.ntmps63
  go_wp2_with (fail)
  obtain ⟨o, Eo⟩ : ∃ zq : Nat, zq = mg a / 2 ^ k := ⟨_, rfl⟩
  have Bo : nl o ≤ 1048576 := by rw [Eo]; have := nl_div (mg a) (2 ^ k); omega
  refine (Calls.mono (R := RetN ((w.alloc (.cells #[.bool false, .slice aA (nl (mg a)) ac] 24)).alloc (.cells #[.bool false, .slice none 0 0] 24)) o) (by rw [Eo]; with_reducible exact (shr_e aA ac (mg a) (k : Int) k _ ha (by omega) rfl (by omega))) ?_)
  replace Eo := Lib.hid Eo
  rintro e W2 ⟨Xo, co, rfl, ho, hb2⟩
  replace ha := ha.below hb2
  replace Ra := Ra.below hb2
  replace qa0 := cell_below hb2 qa0
  replace qa1 := cell_below hb2 qa1
  replace Rr := Rr.below hb2
  replace qr0 := cell_below hb2 qr0
  replace qr1 := cell_below hb2 qr1
  replace HBT := Below.cons HBT hb2
  clear hb2
  go_wp2_with (fail)
  go_quiet (fail)
  have hb3 : Below (W2).heap.size (W2) ((W2).drewN nq) := below_drewN (Below.refl _ _) nq
  replace ha := ha.below hb3
  replace Ra := Ra.below hb3
  replace qa0 := cell_below hb3 qa0
  replace qa1 := cell_below hb3 qa1
  replace Rr := Rr.below hb3
  replace qr0 := cell_below hb3 qr0
  replace qr1 := cell_below hb3 qr1
  replace ho := ho.below hb3
  replace HBT := Below.cons HBT hb3
  clear hb3
  go_wp2_with (fail)
  obtain ⟨z, Ez⟩ : ∃ zq : Int, zq = ival false o := ⟨_, rfl⟩
  refine (Calls.mono (R := RetI ((W2).drewN nq) z) (by rw [Ez]; with_reducible exact (imake_c false Xo co o _ ho (by omega))) ?_)
  replace Ez := Lib.hid Ez
  rintro e W4 ⟨Xz, cz, rfl, hz, hb4⟩
  replace ha := ha.below hb4
  replace Ra := Ra.below hb4
  replace qa0 := cell_below hb4 qa0
  replace qa1 := cell_below hb4 qa1
  replace Rr := Rr.below hb4
  replace qr0 := cell_below hb4 qr0
  replace qr1 := cell_below hb4 qr1
  replace ho := ho.below hb4
  replace HBT := Below.cons HBT hb4
  clear hb4
  have fzr0 := Rr.f (i := 0)
  have fzr1 := Rr.f (i := 1)
  go_wp2_with (fail)
  have hzz : z = shf a n := by rw [Ez.out, Eo.out]; exact shf_nb k h1 hk2.out hk0
  subst hzz
  have RS := Rr.store2 (.bool (sg ((shf a n)))) (.slice Xz (nl (mg ((shf a n)))) cz)
  have e0 := RS.c (i := 0) rfl
  have e1 := RS.c (i := 1) rfl
  refine bodyPost_ret (v := .agg #[.bool (sg ((shf a n))), .slice Xz (nl (mg ((shf a n)))) cz]) (by simp [results, Tryz.results63, go_sem, e0, e1]) rfl ?_
  exact ⟨Xz, cz, rfl, (Rr.keep2 (by intro u hu; simp at hu; rcases hu with rfl | rfl <;> first | exact notU_bool _ | exact notU_slice _ _ _ | exact notU_i64 _) hz), (Below.store2 HBT (by first | exact Nat.le_refl _ | omega))⟩
set_option maxRecDepth 100000 in
set_option maxHeartbeats 1000000 in
theorem ishift_tu (aA : Option Addr) (ac : Nat) (a : Int) (n : Int) (w : World) (ha : NatV w aA ac (mg a))  (la : nl (mg a) ≤ 1048576) (ln : -16777216 ≤ n ∧ n ≤ 16777216) (h1 : a < 0) (h2 : 0 ≤ n) :
    Calls Tryz.prog 63 #[.agg #[.bool (sg a), .slice aA (nl (mg a)) ac], .int .i64 n] w (RetI w (shf a n)) := by
  have ta : sg a = true := sg_t h1
  have t1 : decide (n < 0) = false := by simp; omega
  obtain ⟨k, hk⟩ := Int.eq_ofNat_of_zero_le h2
  have lk : k ≤ 16777216 := by omega
  have hb1 : Below (w).heap.size (w) ((w.alloc (.cells #[.bool true, .slice aA (nl (mg a)) ac] 24)).alloc (.cells #[.bool false, .slice none 0 0] 24)) := (Below.alloc (Below.alloc (Below.refl _ _) (Nat.le_refl _) _) (by simp <;> omega) _)
  replace ha := ha.below hb1
  have HBT := hb1
  clear hb1
  have Ra : BoxA ((w.alloc (.cells #[.bool true, .slice aA (nl (mg a)) ac] 24)).alloc (.cells #[.bool false, .slice none 0 0] 24)) w.heap.size 24 #[.bool true, .slice aA (nl (mg a)) ac] := ⟨by repeat (first | exact at_new (by first | (simp; done) | (simp; omega)) | refine at_old (by first | (simp; done) | (simp; omega)) ?_)⟩
  have qa0 := Ra.c (i := 0) rfl
  have qa1 := Ra.c (i := 1) rfl
  have Rr : BoxA ((w.alloc (.cells #[.bool true, .slice aA (nl (mg a)) ac] 24)).alloc (.cells #[.bool false, .slice none 0 0] 24)) (w.heap.size + 1) 24 #[.bool false, .slice none 0 0] := ⟨by repeat (first | exact at_new (by first | (simp; done) | (simp; omega)) | refine at_old (by first | (simp; done) | (simp; omega)) ?_)⟩
  have qr0 := Rr.c (i := 0) rfl
  have qr1 := Rr.c (i := 1) rfl
  subst hk
  go_enter Tryz.func63, Tryz.ntmps63
  go_wp2_with (fail)
  obtain ⟨o, Eo⟩ : ∃ zq : Nat, zq = mg a * 2 ^ k := ⟨_, rfl⟩
  have Bo : nl o ≤ 2097152 := by rw [Eo]; have := nl_shl (mg a) k; omega
  refine (Calls.mono (R := RetN ((w.alloc (.cells #[.bool true, .slice aA (nl (mg a)) ac] 24)).alloc (.cells #[.bool false, .slice none 0 0] 24)) o) (by rw [Eo]; with_reducible exact (shl_e aA ac (mg a) (k : Int) k _ ha (by omega) rfl (by omega))) ?_)
  replace Eo := Lib.hid Eo
  rintro e W2 ⟨Xo, co, rfl, ho, hb2⟩
  replace ha := ha.below hb2
  replace Ra := Ra.below hb2
  replace qa0 := cell_below hb2 qa0
  replace qa1 := cell_below hb2 qa1
  replace Rr := Rr.below hb2
  replace qr0 := cell_below hb2 qr0
  replace qr1 := cell_below hb2 qr1
  replace HBT := Below.cons HBT hb2
  clear hb2
  go_wp2_with (fail)
  have hle : mg a ≤ o := by rw [Eo.out]; exact Nat.le_mul_of_pos_right _ (Nat.two_pow_pos k)
  have t2 : decide (cmpN o (mg a) < 0) = false := by rw [decide_eq_false_iff_not, cmpN_neg]; omega
  replace hle := Lib.hid hle
  go_quiet ((go_at_call 106; exact Calls.quiet_of (cmp_q Xo co o aA ac (mg a) _ (ho.below (below_drewN (Below.refl _ _) _)) (ha.below (below_drewN (Below.refl _ _) _)) (by omega) (by omega))))
  have hb3 : Below (W2).heap.size (W2) ((W2).drewN nq) := below_drewN (Below.refl _ _) nq
  replace ha := ha.below hb3
  replace Ra := Ra.below hb3
  replace qa0 := cell_below hb3 qa0
  replace qa1 := cell_below hb3 qa1
  replace Rr := Rr.below hb3
  replace qr0 := cell_below hb3 qr0
  replace qr1 := cell_below hb3 qr1
  replace ho := ho.below hb3
  replace HBT := Below.cons HBT hb3
  clear hb3
  go_wp2_with (fail)
  obtain ⟨z, Ez⟩ : ∃ zq : Int, zq = ival true o := ⟨_, rfl⟩
  refine (Calls.mono (R := RetI ((W2).drewN nq) z) (by rw [Ez]; with_reducible exact (imake_c true Xo co o _ ho (by omega))) ?_)
  replace Ez := Lib.hid Ez
  rintro e W4 ⟨Xz, cz, rfl, hz, hb4⟩
  replace ha := ha.below hb4
  replace Ra := Ra.below hb4
  replace qa0 := cell_below hb4 qa0
  replace qa1 := cell_below hb4 qa1
  replace Rr := Rr.below hb4
  replace qr0 := cell_below hb4 qr0
  replace qr1 := cell_below hb4 qr1
  replace ho := ho.below hb4
  replace HBT := Below.cons HBT hb4
  clear hb4
  have fzr0 := Rr.f (i := 0)
  have fzr1 := Rr.f (i := 1)
  go_wp2_with (fail)
  have hzz : z = shf a (k : Int) := by rw [Ez.out, Eo.out]; have := shf_bn h1 h2; rwa [Int.toNat_natCast] at this
  subst hzz
  have RS := Rr.store2 (.bool (sg ((shf a (k : Int))))) (.slice Xz (nl (mg ((shf a (k : Int))))) cz)
  have e0 := RS.c (i := 0) rfl
  have e1 := RS.c (i := 1) rfl
  refine bodyPost_ret (v := .agg #[.bool (sg ((shf a (k : Int)))), .slice Xz (nl (mg ((shf a (k : Int))))) cz]) (by simp [results, Tryz.results63, go_sem, e0, e1]) rfl ?_
  exact ⟨Xz, cz, rfl, (Rr.keep2 (by intro u hu; simp at hu; rcases hu with rfl | rfl <;> first | exact notU_bool _ | exact notU_slice _ _ _ | exact notU_i64 _) hz), (Below.store2 HBT (by first | exact Nat.le_refl _ | omega))⟩
set_option maxRecDepth 100000 in
set_option maxHeartbeats 1000000 in
theorem ishift_td (aA : Option Addr) (ac : Nat) (a : Int) (n : Int) (w : World) (ha : NatV w aA ac (mg a))  (la : nl (mg a) ≤ 1048576) (ln : -16777216 ≤ n ∧ n ≤ 16777216) (h1 : a < 0) (h2 : n < 0) :
    Calls Tryz.prog 63 #[.agg #[.bool (sg a), .slice aA (nl (mg a)) ac], .int .i64 n] w (RetI w (shf a n)) := by
  have ta : sg a = true := sg_t h1
  have t1 : decide (n < 0) = true := by simp; omega
  obtain ⟨k, hk⟩ := Int.eq_ofNat_of_zero_le (show 0 ≤ -n by omega)
  have hk0 : 0 < k := by omega
  have hk2 : n = -(k : Int) := by omega
  have lk : k ≤ 16777216 := by omega
  have hb1 : Below (w).heap.size (w) ((w.alloc (.cells #[.bool true, .slice aA (nl (mg a)) ac] 24)).alloc (.cells #[.bool false, .slice none 0 0] 24)) := (Below.alloc (Below.alloc (Below.refl _ _) (Nat.le_refl _) _) (by simp <;> omega) _)
  replace ha := ha.below hb1
  have HBT := hb1
  clear hb1
  have Ra : BoxA ((w.alloc (.cells #[.bool true, .slice aA (nl (mg a)) ac] 24)).alloc (.cells #[.bool false, .slice none 0 0] 24)) w.heap.size 24 #[.bool true, .slice aA (nl (mg a)) ac] := ⟨by repeat (first | exact at_new (by first | (simp; done) | (simp; omega)) | refine at_old (by first | (simp; done) | (simp; omega)) ?_)⟩
  have qa0 := Ra.c (i := 0) rfl
  have qa1 := Ra.c (i := 1) rfl
  have Rr : BoxA ((w.alloc (.cells #[.bool true, .slice aA (nl (mg a)) ac] 24)).alloc (.cells #[.bool false, .slice none 0 0] 24)) (w.heap.size + 1) 24 #[.bool false, .slice none 0 0] := ⟨by repeat (first | exact at_new (by first | (simp; done) | (simp; omega)) | refine at_old (by first | (simp; done) | (simp; omega)) ?_)⟩
  have qr0 := Rr.c (i := 0) rfl
  have qr1 := Rr.c (i := 1) rfl
  have In : -n = (k : Int) := hk
  replace hk2 := Lib.hid hk2
  replace hk := Lib.hid hk
  go_enter Tryz.func63, Tryz.ntmps63
  go_wp2_with (fail)
  obtain ⟨o, Eo⟩ : ∃ zq : Nat, zq = mg a / 2 ^ k := ⟨_, rfl⟩
  have Bo : nl o ≤ 1048576 := by rw [Eo]; have := nl_div (mg a) (2 ^ k); omega
  refine (Calls.mono (R := RetN ((w.alloc (.cells #[.bool true, .slice aA (nl (mg a)) ac] 24)).alloc (.cells #[.bool false, .slice none 0 0] 24)) o) (by rw [Eo]; with_reducible exact (shr_e aA ac (mg a) (k : Int) k _ ha (by omega) rfl (by omega))) ?_)
  replace Eo := Lib.hid Eo
  rintro e W2 ⟨Xo, co, rfl, ho, hb2⟩
  replace ha := ha.below hb2
  replace Ra := Ra.below hb2
  replace qa0 := cell_below hb2 qa0
  replace qa1 := cell_below hb2 qa1
  replace Rr := Rr.below hb2
  replace qr0 := cell_below hb2 qr0
  replace qr1 := cell_below hb2 qr1
  replace HBT := Below.cons HBT hb2
  clear hb2
  go_wp2_with (fail)
  have hlt : o < mg a := by rw [Eo.out]; exact Nat.div_lt_self (mg_pos.2 (by omega)) (Nat.one_lt_two_pow (by omega))
  have t2 : decide (cmpN o (mg a) < 0) = true := by rw [decide_eq_true_eq, cmpN_neg]; exact hlt
  replace hlt := Lib.hid hlt
  by_cases hx : mg a / 2 ^ k * 2 ^ k = mg a
  · have t3 : (cmpN (o * 2 ^ k) (mg a) != 0) = false := by rw [bne_eq_false_iff_eq, cmpN_zero, Eo.out]; exact hx
    replace hx := Lib.hid hx
    have hd3 : Below (W2).heap.size W2 (W2).drew := (Below.refl _ _).drew
    replace ha := ha.below hd3
    replace Ra := Ra.below hd3
    replace qa0 := cell_below hd3 qa0
    replace qa1 := cell_below hd3 qa1
    replace Rr := Rr.below hd3
    replace qr0 := cell_below hd3 qr0
    replace qr1 := cell_below hd3 qr1
    replace ho := ho.below hd3
    replace HBT := Below.cons HBT hd3
    clear hd3
    have C3_0 := fun (W : World) (X : Option Addr) (x : Nat) (g : NatV W X x o) (h1 : NatV W aA ac (mg a)) => cmp_c X x o aA ac (mg a) W g h1 (by omega) (by omega)
    replace C3_0 := Lib.hid C3_0
    obtain ⟨p2, Ep2⟩ : ∃ zq : Nat, zq = o * 2 ^ k := ⟨_, rfl⟩
    have Bp2 : nl p2 ≤ 1048576 := by rw [Ep2, Eo.out]; exact Nat.le_trans (nl_mono (Nat.div_mul_le_self _ _)) (by omega)
    rw [← Ep2] at t3
    have C3_1 := fun (W : World) (X : Option Addr) (x : Nat) (g : NatV W X x o) => shl_e X x o (k : Int) k W g (by omega) rfl (by omega)
    simp only [← Ep2] at C3_1
    replace Ep2 := Lib.hid Ep2
    replace C3_1 := Lib.hid C3_1
    have C3_2 := fun (W : World) (X : Option Addr) (x : Nat) (g : NatV W X x p2) (h1 : NatV W aA ac (mg a)) => cmp_c X x p2 aA ac (mg a) W g h1 (by omega) (by omega)
    replace C3_2 := Lib.hid C3_2
    go_region_held3 (fun W => W.cell? ⟨w.heap.size, 0, none⟩ = some (.bool true) ∧ W.cell? ⟨w.heap.size, 1, none⟩ = some (.slice aA (nl (mg a)) ac))
      (first
        | exact ⟨qa0, qa1⟩
        | exact ⟨qa0_4, qa1_4⟩
        | exact ⟨qa0_5, qa1_5⟩
        | exact ⟨qa0_6, qa1_6⟩
        | go_keep)
      (first
        | (go_at_call 106; (with_reducible refine (C3_0.out _ _ _ ho ha).mono ?_); rintro e W4 ⟨rfl, hb4⟩; have ha_4 := ha.below hb4; have Ra_4 := Ra.below hb4; have qa0_4 := cell_below hb4 qa0; have qa1_4 := cell_below hb4 qa1; have Rr_4 := Rr.below hb4; have qr0_4 := cell_below hb4 qr0; have qr1_4 := cell_below hb4 qr1; have ho_4 := ho.below hb4; have HBT_4 := Below.cons HBT hb4)
        | (go_at_call 104; (with_reducible refine (C3_1.out _ _ _ ho_4).mono ?_); rintro e W5 ⟨Xp2, cp2, rfl, hp2, hb5⟩; have ha_5 := ha_4.below hb5; have Ra_5 := Ra_4.below hb5; have qa0_5 := cell_below hb5 qa0_4; have qa1_5 := cell_below hb5 qa1_4; have Rr_5 := Rr_4.below hb5; have qr0_5 := cell_below hb5 qr0_4; have qr1_5 := cell_below hb5 qr1_4; have ho_5 := ho_4.below hb5; have HBT_5 := Below.cons HBT_4 hb5)
        | (go_at_call 106; (with_reducible refine (C3_2.out _ _ _ hp2 ha_5).mono ?_); rintro e W6 ⟨rfl, hb6⟩; have ha_6 := ha_5.below hb6; have Ra_6 := Ra_5.below hb6; have qa0_6 := cell_below hb6 qa0_5; have qa1_6 := cell_below hb6 qa1_5; have Rr_6 := Rr_5.below hb6; have qr0_6 := cell_below hb6 qr0_5; have qr1_6 := cell_below hb6 qr1_5; have ho_6 := ho_5.below hb6; have hp2_6 := hp2.below hb6; have HBT_6 := Below.cons HBT_5 hb6))
    all_goals (try go_wp2_with (fail))
    obtain ⟨z, Ez⟩ : ∃ zq : Int, zq = ival true o := ⟨_, rfl⟩
    refine (Calls.mono (R := RetI W6 z) (by rw [Ez]; with_reducible exact (imake_c true Xo co o _ ho_6 (by omega))) ?_)
    replace Ez := Lib.hid Ez
    rintro e W7 ⟨Xz, cz, rfl, hz, hb7⟩
    replace ha_6 := ha_6.below hb7
    replace Ra_6 := Ra_6.below hb7
    replace qa0_6 := cell_below hb7 qa0_6
    replace qa1_6 := cell_below hb7 qa1_6
    replace Rr_6 := Rr_6.below hb7
    replace qr0_6 := cell_below hb7 qr0_6
    replace qr1_6 := cell_below hb7 qr1_6
    replace ho_6 := ho_6.below hb7
    replace hp2_6 := hp2_6.below hb7
    have HBT := Below.cons HBT_6 hb7
    clear hb7
    have fzr0 := Rr_6.f (i := 0)
    have fzr1 := Rr_6.f (i := 1)
    go_wp2_with (fail)
    have hzz : z = shf a n := by rw [Ez.out, Eo.out]; exact shf_b0 k h1 hk2.out hk0 hx.out
    subst hzz
    have RS := Rr_6.store2 (.bool (sg ((shf a n)))) (.slice Xz (nl (mg ((shf a n)))) cz)
    have e0 := RS.c (i := 0) rfl
    have e1 := RS.c (i := 1) rfl
    refine bodyPost_ret (v := .agg #[.bool (sg ((shf a n))), .slice Xz (nl (mg ((shf a n)))) cz]) (by simp [results, Tryz.results63, go_sem, e0, e1]) rfl ?_
    exact ⟨Xz, cz, rfl, (Rr_6.keep2 (by intro u hu; simp at hu; rcases hu with rfl | rfl <;> first | exact notU_bool _ | exact notU_slice _ _ _ | exact notU_i64 _) hz), (Below.store2 HBT (by first | exact Nat.le_refl _ | omega))⟩
  · have t3 : (cmpN (o * 2 ^ k) (mg a) != 0) = true := by rw [bne_iff_ne, ne_eq, cmpN_zero, Eo.out]; exact hx
    replace hx := Lib.hid hx
    have hd3 : Below (W2).heap.size W2 (W2).drew := (Below.refl _ _).drew
    replace ha := ha.below hd3
    replace Ra := Ra.below hd3
    replace qa0 := cell_below hd3 qa0
    replace qa1 := cell_below hd3 qa1
    replace Rr := Rr.below hd3
    replace qr0 := cell_below hd3 qr0
    replace qr1 := cell_below hd3 qr1
    replace ho := ho.below hd3
    replace HBT := Below.cons HBT hd3
    clear hd3
    have C3_0 := fun (W : World) (X : Option Addr) (x : Nat) (g : NatV W X x o) (h1 : NatV W aA ac (mg a)) => cmp_c X x o aA ac (mg a) W g h1 (by omega) (by omega)
    replace C3_0 := Lib.hid C3_0
    obtain ⟨p2, Ep2⟩ : ∃ zq : Nat, zq = o * 2 ^ k := ⟨_, rfl⟩
    have Bp2 : nl p2 ≤ 1048576 := by rw [Ep2, Eo.out]; exact Nat.le_trans (nl_mono (Nat.div_mul_le_self _ _)) (by omega)
    rw [← Ep2] at t3
    have C3_1 := fun (W : World) (X : Option Addr) (x : Nat) (g : NatV W X x o) => shl_e X x o (k : Int) k W g (by omega) rfl (by omega)
    simp only [← Ep2] at C3_1
    replace Ep2 := Lib.hid Ep2
    replace C3_1 := Lib.hid C3_1
    have C3_2 := fun (W : World) (X : Option Addr) (x : Nat) (g : NatV W X x p2) (h1 : NatV W aA ac (mg a)) => cmp_c X x p2 aA ac (mg a) W g h1 (by omega) (by omega)
    replace C3_2 := Lib.hid C3_2
    go_region_held3 (fun W => W.cell? ⟨w.heap.size, 0, none⟩ = some (.bool true) ∧ W.cell? ⟨w.heap.size, 1, none⟩ = some (.slice aA (nl (mg a)) ac))
      (first
        | exact ⟨qa0, qa1⟩
        | exact ⟨qa0_4, qa1_4⟩
        | exact ⟨qa0_5, qa1_5⟩
        | exact ⟨qa0_6, qa1_6⟩
        | go_keep)
      (first
        | (go_at_call 106; (with_reducible refine (C3_0.out _ _ _ ho ha).mono ?_); rintro e W4 ⟨rfl, hb4⟩; have ha_4 := ha.below hb4; have Ra_4 := Ra.below hb4; have qa0_4 := cell_below hb4 qa0; have qa1_4 := cell_below hb4 qa1; have Rr_4 := Rr.below hb4; have qr0_4 := cell_below hb4 qr0; have qr1_4 := cell_below hb4 qr1; have ho_4 := ho.below hb4; have HBT_4 := Below.cons HBT hb4)
        | (go_at_call 104; (with_reducible refine (C3_1.out _ _ _ ho_4).mono ?_); rintro e W5 ⟨Xp2, cp2, rfl, hp2, hb5⟩; have ha_5 := ha_4.below hb5; have Ra_5 := Ra_4.below hb5; have qa0_5 := cell_below hb5 qa0_4; have qa1_5 := cell_below hb5 qa1_4; have Rr_5 := Rr_4.below hb5; have qr0_5 := cell_below hb5 qr0_4; have qr1_5 := cell_below hb5 qr1_4; have ho_5 := ho_4.below hb5; have HBT_5 := Below.cons HBT_4 hb5)
        | (go_at_call 106; (with_reducible refine (C3_2.out _ _ _ hp2 ha_5).mono ?_); rintro e W6 ⟨rfl, hb6⟩; have ha_6 := ha_5.below hb6; have Ra_6 := Ra_5.below hb6; have qa0_6 := cell_below hb6 qa0_5; have qa1_6 := cell_below hb6 qa1_5; have Rr_6 := Rr_5.below hb6; have qr0_6 := cell_below hb6 qr0_5; have qr1_6 := cell_below hb6 qr1_5; have ho_6 := ho_5.below hb6; have hp2_6 := hp2.below hb6; have HBT_6 := Below.cons HBT_5 hb6))
    all_goals (try go_wp2_with (fail))
    obtain ⟨u, Eu⟩ : ∃ zq : Nat, zq = 1 := ⟨_, rfl⟩
    have Bu : nl u ≤ 1 := by rw [Eu, nl_one]; exact Nat.le_refl _
    refine (Calls.mono (R := RetN W6 u) (by rw [Eu]; with_reducible exact (ione_c _)) ?_)
    replace Eu := Lib.hid Eu
    rintro e W7 ⟨Xu, cu, rfl, hu, hb7⟩
    replace ha_6 := ha_6.below hb7
    replace Ra_6 := Ra_6.below hb7
    replace qa0_6 := cell_below hb7 qa0_6
    replace qa1_6 := cell_below hb7 qa1_6
    replace Rr_6 := Rr_6.below hb7
    replace qr0_6 := cell_below hb7 qr0_6
    replace qr1_6 := cell_below hb7 qr1_6
    replace ho_6 := ho_6.below hb7
    replace hp2_6 := hp2_6.below hb7
    have HBT := Below.cons HBT_6 hb7
    clear hb7
    go_wp2_with (fail)
    obtain ⟨o2, Eo2⟩ : ∃ zq : Nat, zq = o + u := ⟨_, rfl⟩
    have Bo2 : nl o2 ≤ 1048577 := by rw [Eo2]; have := nl_add o u; omega
    refine (Calls.mono (R := RetN W7 o2) (by rw [Eo2]; with_reducible exact (add_c Xo co o Xu cu u _ ho_6 hu (by omega) (by omega))) ?_)
    replace Eo2 := Lib.hid Eo2
    rintro e W8 ⟨Xo2, co2, rfl, ho2, hb8⟩
    replace ha_6 := ha_6.below hb8
    replace Ra_6 := Ra_6.below hb8
    replace qa0_6 := cell_below hb8 qa0_6
    replace qa1_6 := cell_below hb8 qa1_6
    replace Rr_6 := Rr_6.below hb8
    replace qr0_6 := cell_below hb8 qr0_6
    replace qr1_6 := cell_below hb8 qr1_6
    replace ho_6 := ho_6.below hb8
    replace hp2_6 := hp2_6.below hb8
    replace hu := hu.below hb8
    replace HBT := Below.cons HBT hb8
    clear hb8
    go_wp2_with (fail)
    obtain ⟨z, Ez⟩ : ∃ zq : Int, zq = ival true o2 := ⟨_, rfl⟩
    refine (Calls.mono (R := RetI W8 z) (by rw [Ez]; with_reducible exact (imake_c true Xo2 co2 o2 _ ho2 (by omega))) ?_)
    replace Ez := Lib.hid Ez
    rintro e W9 ⟨Xz, cz, rfl, hz, hb9⟩
    replace ha_6 := ha_6.below hb9
    replace Ra_6 := Ra_6.below hb9
    replace qa0_6 := cell_below hb9 qa0_6
    replace qa1_6 := cell_below hb9 qa1_6
    replace Rr_6 := Rr_6.below hb9
    replace qr0_6 := cell_below hb9 qr0_6
    replace qr1_6 := cell_below hb9 qr1_6
    replace ho_6 := ho_6.below hb9
    replace hp2_6 := hp2_6.below hb9
    replace hu := hu.below hb9
    replace ho2 := ho2.below hb9
    replace HBT := Below.cons HBT hb9
    clear hb9
    have fzr0 := Rr_6.f (i := 0)
    have fzr1 := Rr_6.f (i := 1)
    go_wp2_with (fail)
    have hzz : z = shf a n := by rw [Ez.out, Eo2.out, Eu.out, Eo.out]; exact shf_b1 k h1 hk2.out hk0 hx.out
    subst hzz
    have RS := Rr_6.store2 (.bool (sg ((shf a n)))) (.slice Xz (nl (mg ((shf a n)))) cz)
    have e0 := RS.c (i := 0) rfl
    have e1 := RS.c (i := 1) rfl
    refine bodyPost_ret (v := .agg #[.bool (sg ((shf a n))), .slice Xz (nl (mg ((shf a n)))) cz]) (by simp [results, Tryz.results63, go_sem, e0, e1]) rfl ?_
    exact ⟨Xz, cz, rfl, (Rr_6.keep2 (by intro u hu; simp at hu; rcases hu with rfl | rfl <;> first | exact notU_bool _ | exact notU_slice _ _ _ | exact notU_i64 _) hz), (Below.store2 HBT (by first | exact Nat.le_refl _ | omega))⟩
theorem ishift_c (aA : Option Addr) (ac : Nat) (a : Int) (n : Int) (w : World) (ha : NatV w aA ac (mg a)) (la : nl (mg a) ≤ 1048576) (ln : -16777216 ≤ n ∧ n ≤ 16777216) :
    Calls Tryz.prog 63 #[.agg #[.bool (sg a), .slice aA (nl (mg a)) ac], .int .i64 n] w (RetI w (shf a n)) := by
  by_cases h1 : a < 0
  · by_cases h2 : n < 0
    · exact ishift_td aA ac a n w ha la ln h1 h2
    · exact ishift_tu aA ac a n w ha la ln h1 (by omega)
  · by_cases h2 : n < 0
    · exact ishift_fd aA ac a n w ha la ln (by omega) h2
    · exact ishift_fu aA ac a n w ha la ln (by omega) (by omega)
end Go.Proofs.YtacjfpibilolnaaGreatDoor

/- Dyadic numbers, walked: the noughts at the end, Make. -/
set_option linter.unusedVariables false
set_option linter.unusedSimpArgs false
namespace Go.Proofs.YtacjfpibilolnaaGreatDoor
open Go.RowKit Go.Shelf
attribute [local go_sem] max2_i min2_i max_two min_two

/-- The table of Go's library lies as it was laid. -/
def Tab (w : World) : Prop := TabAt 0 Lib.deBruijn32tab w
theorem Tab.below {w w' : World} (h : Tab w) (hb : Below w.heap.size w w') : Tab w' := fun j hj => cell_below hb (h j hj)
def RetD (w : World) (q : Rat) (e : Ending) (w' : World) : Prop := ∃ A c, e = .returned (.agg #[.bool (sg (dmn q)), .slice A (nl (mg (dmn q))) c, .int .i64 (dex q)]) ∧ NatV w' A c (mg (dmn q)) ∧ Below w.heap.size w w'
theorem ctz_v2 {x : Nat} (hx : x < 4294967296) (h0 : x ≠ 0) : Lib.ctz 32 x = v2 x := by
  obtain ⟨m, h1, _⟩ := Lib.ctzFrom_spec 32 x (by omega) hx
  have e : Lib.ctz 32 x = Lib.ctzFrom 32 x := by simp [Lib.ctz, h0]
  rw [e]
  exact (v2_eq (b := 2 * m + 1) h1 (by omega)).symm
set_option maxRecDepth 100000 in
set_option maxHeartbeats 1000000 in
theorem tz32_walk (x k idx : Nat) (w : World) (hx0 : ((x : Int) == 0) = false)
    (key : bits BinOp.and IntKind.u32 (x : Int) (-(x : Int) % 4294967296) * 125613361 % 4294967296 / 134217728 = (idx : Int))
    (hi : idx < 32) (hk : k < 32) (hcell : w.cell? ⟨0, idx, none⟩ = some (.int .u8 k)) :
    Calls Tryz.prog 113 #[.int .u32 (x : Nat)] w fun e w' => e = .returned (.int .i64 (k : Nat)) ∧ w' = w := by
  go_enter Tryz.func113, Tryz.ntmps113
  go_wp2_with (simp only [key])
  go_ret
  exact ⟨rfl, rfl⟩
theorem tz32_c (x : Nat) (w : World) (hx : x < 4294967296) (hx0 : x ≠ 0) (hT : Tab w) :
    Calls Tryz.prog 113 #[.int .u32 (x : Nat)] w fun e w' => e = .returned (.int .i64 (v2 x : Nat)) ∧ w' = w := by
  obtain ⟨hlow, hk⟩ := Lib.lowest_bit 32 x hx0 hx
  obtain ⟨hi, htab⟩ := Lib.deBruijn32_at _ hk
  have hcell := hT _ hi
  rw [htab] at hcell
  rw [← ctz_v2 hx hx0]
  exact tz32_walk x _ _ w (ieqF (by omega)) (tz32_key x _ hx hx0 hlow) hi hk hcell
theorem mod_limb (a k : Nat) : a % 4294967296 ^ (k + 1) = a % 4294967296 ^ k + 4294967296 ^ k * (a / 4294967296 ^ k % 4294967296) := by
  rw [Nat.pow_succ, Nat.mod_mul]
theorem v2_limb {a k x : Nat} (h : a % 4294967296 ^ k = 0) (hx : x = a / 4294967296 ^ k % 4294967296) (h0 : x ≠ 0) : v2 a = 32 * k + v2 x := by
  obtain ⟨b, h1, h2⟩ := v2_spec h0
  have hd := Nat.div_add_mod a (4294967296 ^ k)
  rw [h, Nat.add_zero] at hd
  have hd2 := Nat.div_add_mod (a / 4294967296 ^ k) 4294967296
  rw [← hx] at hd2
  generalize a / 4294967296 ^ k / 4294967296 = c at *
  have hv : v2 x < 32 := by
    have h3 := v2_lt h0
    have h4 : x < 2 ^ 32 := by rw [hx]; exact Nat.mod_lt _ (by decide)
    exact (Nat.pow_lt_pow_iff_right (by decide : 1 < 2)).1 (Nat.lt_of_le_of_lt h3 h4)
  refine v2_eq (b := 2 ^ (32 - v2 x) * c + b) ?_ ?_
  · rw [← hd, ← hd2, ← pow32, Nat.pow_add, Nat.mul_assoc]
    congr 1
    rw [Nat.mul_add, ← h1, ← Nat.mul_assoc, ← Nat.pow_add, show v2 x + (32 - v2 x) = 32 by omega]
  · obtain ⟨j, hj⟩ : ∃ j, 32 - v2 x = j + 1 := ⟨31 - v2 x, by omega⟩
    rw [hj, Nat.pow_succ, Nat.mul_right_comm]; omega
set_option maxRecDepth 100000 in
set_option maxHeartbeats 1000000 in
theorem zeros_c (aA : Option Addr) (ac : Nat) (a : Int) (w : World) (ha : NatV w aA ac (mg a)) (hT : Tab w) (la : nl (mg a) ≤ 1048576) (h0 : a ≠ 0) :
    Calls Tryz.prog 72 #[.agg #[.bool (sg a), .slice aA (nl (mg a)) ac]] w fun e w' => e = .returned (.int .i64 (v2 (mg a) : Nat)) ∧ Below w.heap.size w w' := by
  have hp := nl_pos.2 (show mg a ≠ 0 from fun e => h0 (mg_zero.1 e))
  have hb : Below w.heap.size w (w.alloc (.cells #[.bool (sg a), .slice aA (nl (mg a)) ac] 24)) := (Below.refl _ _).alloc (Nat.le_refl _) _
  have Ra : BoxA (w.alloc (.cells #[.bool (sg a), .slice aA (nl (mg a)) ac] 24)) w.heap.size 24 #[.bool (sg a), .slice aA (nl (mg a)) ac] := ⟨at_new rfl⟩
  have qa1 := Ra.c (i := 1) rfl
  have hT2 := hT.below hb
  have ha2 := ha.below hb
  have hn0 : mg a ≠ 0 := fun e => h0 (mg_zero.1 e)
  clear ha
  replace hT2 := Lib.hid hT2
  generalize mg a = n at *
  go_enter Tryz.func72, Tryz.ntmps72
  go_wp2_with (fail)
  go_loop [3] (fun v => ∃ k : Nat, v = .int .i64 (k : Nat) ∧ k < nl n ∧ Hid (n % 4294967296 ^ k = 0)) (fun v => nl n - (intOf v).toNat)
  case atStart => exact ⟨0, rfl, hp, Lib.hid (by rw [Nat.pow_zero, Nat.mod_one])⟩
  case round =>
    obtain ⟨k, rfl, hk, hz⟩ := hrel
    obtain ⟨ad, rfl, hc⟩ := ha2.rd.get k hk
    obtain ⟨x, Ex⟩ : ∃ x, x = gl (limbs n) k := ⟨_, rfl⟩
    have hxl : x < 4294967296 := by rw [Ex]; exact (lim_limbs n).gl k
    have hxv : x = n / 4294967296 ^ k % 4294967296 := by rw [Ex, limbs_gl]
    rw [← Ex] at hc
    replace Ex := Lib.hid Ex
    by_cases hx0 : x = 0
    · have t1 : ((x : Int) == 0) = true := ieqT (by omega)
      have hz2 : n % 4294967296 ^ (k + 1) = 0 := by rw [mod_limb, hz.out, ← hxv, hx0]; rfl
      have hk2 : k + 1 < nl n := by
        rcases Nat.lt_or_ge (k + 1) (nl n) with h | h
        · exact h
        · exfalso
          rw [Nat.mod_eq_of_lt (nl_le.1 h)] at hz2
          exact hn0 hz2
      replace hz2 := Lib.hid hz2
      replace hx0 := Lib.hid hx0
      replace hxv := Lib.hid hxv
      go_wp2_with (fail)
      go_round
      case rel => exact ⟨k + 1, by go_num, hk2, hz2⟩
      case measure => simp [intOf] <;> omega
    · have t1 : ((x : Int) == 0) = false := ieqF (by omega)
      have C := tz32_c x _ hxl hx0 hT2.out
      have hv := v2_limb hz.out hxv hx0
      obtain ⟨z, Ez⟩ : ∃ z, z = v2 x := ⟨_, rfl⟩
      have hzl : z < 32 := by
        have h3 := v2_lt hx0
        rw [← Ez] at h3
        exact (Nat.pow_lt_pow_iff_right (by decide : 1 < 2)).1 (Nat.lt_of_le_of_lt h3 hxl)
      rw [← Ez] at C hv
      replace Ez := Lib.hid Ez
      replace hv := Lib.hid hv
      replace hxv := Lib.hid hxv
      replace C := Lib.hid C
      have hkl : k ≤ 1048576 := by omega
      go_wp2_with (fail)
      refine C.out.mono ?_
      rintro e w' ⟨rfl, rfl⟩
      go_wp2_with (fail)
      go_ret
      exact ⟨ret_int (by rw [hv.out]; omega), hb⟩
theorem dm_v2 (a : Int) : ival (sg a) (mg a / 2 ^ v2 (mg a)) = dm a := by
  have h1 := (dm_spec a).1
  have hp : (0 : Int) < 2 ^ v2 (mg a) := Int.pow_pos (by decide)
  have h4 : mg a = mg (dm a) * 2 ^ v2 (mg a) := by
    have := congrArg mg h1
    rw [mg_mul] at this
    have e : mg ((2 : Int) ^ v2 (mg a)) = 2 ^ v2 (mg a) := by unfold mg; rw [Int.natAbs_pow]; rfl
    rw [e] at this; exact this
  have h5 : mg a / 2 ^ v2 (mg a) = mg (dm a) := Nat.div_eq_of_eq_mul_left (Nat.two_pow_pos _) h4
  rw [h5]
  have h6 : sg a = sg (dm a) := by
    unfold sg
    rw [decide_eq_decide]
    constructor
    · intro h
      rcases Int.lt_or_le (dm a) 0 with k | k
      · exact k
      · have := Int.mul_nonneg k (Int.le_of_lt hp); omega
    · intro h
      have := Int.mul_neg_of_neg_of_pos h hp; omega
  rw [h6, ival_sm]
end Go.Proofs.YtacjfpibilolnaaGreatDoor

/- Dyadic numbers, walked: Make. -/
set_option linter.unusedVariables false
set_option linter.unusedSimpArgs false
namespace Go.Proofs.YtacjfpibilolnaaGreatDoor
open Go.RowKit Go.Shelf
attribute [local go_sem] max2_i min2_i max_two min_two

theorem dmn_zero : dmn 0 = 0 := rfl
theorem dex_zero : dex 0 = 0 := rfl
theorem mg0 : mg 0 = 0 := rfl
theorem sg0 : sg 0 = false := rfl
theorem v2_le (a : Nat) : v2 a ≤ 32 * nl a := by
  by_cases h : a = 0
  · subst h; exact Nat.zero_le _
  · have h1 := v2_lt h
    have h2 := nl_lt a
    rw [← pow32] at h2
    exact Nat.le_of_lt ((Nat.pow_lt_pow_iff_right (by decide : 1 < 2)).1 (Nat.lt_of_le_of_lt h1 h2))
set_option maxRecDepth 100000 in
theorem field_mag (b : Bool) (A : Option Addr) (n c : Nat) (W : World) : (Instr.field 24 (.agg #[.bool b, .slice A n c]) 1).run Tryz.prog W = .ok (.slice A n c) W := by rfl
theorem shf_down {a : Nat} {n : Nat} (h : 0 < n) : mg (shf (a : Int) (-(n : Int))) = a / 2 ^ n := by
  unfold shf; rw [if_neg (by omega), Int.neg_neg, Int.toNat_natCast]
  have : ((2 : Int) ^ n) = ((2 ^ n : Nat) : Int) := by rw [Int.natCast_pow]; rfl
  rw [this, ← Int.natCast_ediv, mg_nat]
set_option maxRecDepth 100000 in
set_option maxHeartbeats 4000000 in
theorem dmake_0 (aA : Option Addr) (ac : Nat) (a : Int) (e : Int) (w : World) (ha : NatV w aA ac (mg a))  (h0 : a = 0) :
    Calls Tryz.prog 24 #[.agg #[.bool (sg a), .slice aA (nl (mg a)) ac], .int .i64 e] w (RetD w (dval a e)) := by
  have t1 : ((nl (mg a) : Int) == 0) = true := ieqT (by rw [h0, mg0, nl_zero]; rfl)
  have hq : dval a e = 0 := by rw [h0]; exact dval_zero e
  replace h0 := Lib.hid h0
  replace hq := Lib.hid hq
  have hb1 : Below (w).heap.size (w) ((w.alloc (.cells #[.bool (sg a), .slice aA (nl (mg a)) ac] 24)).alloc (.cells #[.bool false, .slice none 0 0, .int .i64 0] 28)) := (Below.alloc (Below.alloc (Below.refl _ _) (Nat.le_refl _) _) (by simp <;> omega) _)
  replace ha := ha.below hb1
  have HBT := hb1
  clear hb1
  have Ra : BoxA ((w.alloc (.cells #[.bool (sg a), .slice aA (nl (mg a)) ac] 24)).alloc (.cells #[.bool false, .slice none 0 0, .int .i64 0] 28)) w.heap.size 24 #[.bool (sg a), .slice aA (nl (mg a)) ac] := ⟨by repeat (first | exact at_new (by first | (simp; done) | (simp; omega)) | refine at_old (by first | (simp; done) | (simp; omega)) ?_)⟩
  have qa0 := Ra.c (i := 0) rfl
  have qa1 := Ra.c (i := 1) rfl
  have Rr : BoxA ((w.alloc (.cells #[.bool (sg a), .slice aA (nl (mg a)) ac] 24)).alloc (.cells #[.bool false, .slice none 0 0, .int .i64 0] 28)) (w.heap.size + 1) 28 #[.bool false, .slice none 0 0, .int .i64 0] := ⟨by repeat (first | exact at_new (by first | (simp; done) | (simp; omega)) | refine at_old (by first | (simp; done) | (simp; omega)) ?_)⟩
  have qr0 := Rr.c (i := 0) rfl
  have qr1 := Rr.c (i := 1) rfl
  have qr2 := Rr.c (i := 2) rfl
  have fzr0 := Rr.f (i := 0)
  have fzr1 := Rr.f (i := 1)
  have fzr2 := Rr.f (i := 2)
  go_enter Tryz.func24, Tryz.ntmps24
  go_wp2_with (fail)
  have e0 := Rr.c (i := 0) rfl
  have e1 := Rr.c (i := 1) rfl
  have e2 := Rr.c (i := 2) rfl
  refine bodyPost_ret (v := .agg #[.bool false, .slice none 0 0, .int .i64 0]) (by simp [results, Tryz.results24, go_sem, e0, e1, e2]) rfl ?_
  rw [hq.out]
  exact ⟨none, 0, by rw [dmn_zero, dex_zero, mg0, sg0, nl_zero], by rw [dmn_zero, mg0]; exact ⟨.inl (by simp [vals, limbs_zero]), by rw [nl_zero]; exact Nat.le_refl _, by decide⟩, HBT⟩
set_option maxRecDepth 100000 in
set_option maxHeartbeats 4000000 in
theorem dmake_odd (aA : Option Addr) (ac : Nat) (a : Int) (e : Int) (w : World) (ha : NatV w aA ac (mg a))  (hT : Tab w) (la : nl (mg a) ≤ 262144) (le : -1073741824 ≤ e ∧ e ≤ 1073741824) (h0 : a ≠ 0) (hv : v2 (mg a) = 0) :
    Calls Tryz.prog 24 #[.agg #[.bool (sg a), .slice aA (nl (mg a)) ac], .int .i64 e] w (RetD w (dval a e)) := by
  have t1 : ((nl (mg a) : Int) == 0) = false := ieqF (by have := nl_pos.2 (show mg a ≠ 0 from fun h => h0 (mg_zero.1 h)); omega)
  have hf := make_form a e
  have hd : dm a = a := by unfold dm; rw [hv, Int.pow_zero, Int.ediv_one]
  have he : de a e = e := by unfold de; rw [if_neg h0, hv]; exact Int.add_zero e
  rw [hd, he] at hf
  replace hf := Lib.hid hf
  have CZ := fun (W : World) (h1 : NatV W aA ac (mg a)) (h2 : Tab W) => zeros_c aA ac a W h1 h2 (by omega) h0
  rw [hv] at CZ
  replace CZ := Lib.hid CZ
  replace hd := Lib.hid hd
  replace he := Lib.hid he
  replace hv := Lib.hid hv
  have hb1 : Below (w).heap.size (w) ((w.alloc (.cells #[.bool (sg a), .slice aA (nl (mg a)) ac] 24)).alloc (.cells #[.bool false, .slice none 0 0, .int .i64 0] 28)) := (Below.alloc (Below.alloc (Below.refl _ _) (Nat.le_refl _) _) (by simp <;> omega) _)
  replace ha := ha.below hb1
  replace hT := hT.below hb1
  have HBT := hb1
  clear hb1
  have Ra : BoxA ((w.alloc (.cells #[.bool (sg a), .slice aA (nl (mg a)) ac] 24)).alloc (.cells #[.bool false, .slice none 0 0, .int .i64 0] 28)) w.heap.size 24 #[.bool (sg a), .slice aA (nl (mg a)) ac] := ⟨by repeat (first | exact at_new (by first | (simp; done) | (simp; omega)) | refine at_old (by first | (simp; done) | (simp; omega)) ?_)⟩
  have qa0 := Ra.c (i := 0) rfl
  have qa1 := Ra.c (i := 1) rfl
  have Rr : BoxA ((w.alloc (.cells #[.bool (sg a), .slice aA (nl (mg a)) ac] 24)).alloc (.cells #[.bool false, .slice none 0 0, .int .i64 0] 28)) (w.heap.size + 1) 28 #[.bool false, .slice none 0 0, .int .i64 0] := ⟨by repeat (first | exact at_new (by first | (simp; done) | (simp; omega)) | refine at_old (by first | (simp; done) | (simp; omega)) ?_)⟩
  have qr0 := Rr.c (i := 0) rfl
  have qr1 := Rr.c (i := 1) rfl
  have qr2 := Rr.c (i := 2) rfl
  go_enter Tryz.func24, Tryz.ntmps24
  go_wp2_with (fail)
  refine (Calls.mono (CZ.out _ ha hT) ?_)
  rintro e W2 ⟨rfl, hb2⟩
  replace ha := ha.below hb2
  replace hT := hT.below hb2
  replace Ra := Ra.below hb2
  replace qa0 := cell_below hb2 qa0
  replace qa1 := cell_below hb2 qa1
  replace Rr := Rr.below hb2
  replace qr0 := cell_below hb2 qr0
  replace qr1 := cell_below hb2 qr1
  replace qr2 := cell_below hb2 qr2
  replace HBT := Below.cons HBT hb2
  clear hb2
  have fzr0 := Rr.f (i := 0)
  have fzr1 := Rr.f (i := 1)
  have fzr2 := Rr.f (i := 2)
  go_wp2_with (fail)
  have RS := Rr.store3 (.bool (sg a)) (.slice aA (nl (mg a)) ac) (.int .i64 e)
  have e0 := RS.c (i := 0) rfl
  have e1 := RS.c (i := 1) rfl
  have e2 := RS.c (i := 2) rfl
  refine bodyPost_ret (v := .agg #[.bool (sg a), .slice aA (nl (mg a)) ac, .int .i64 e]) (by simp [results, Tryz.results24, go_sem, e0, e1, e2]) rfl ?_
  exact ⟨aA, ac, (by rw [← hf.out.1, ← hf.out.2]), by rw [← hf.out.1]; exact (Rr.keep3 (by intro u hu; simp at hu; rcases hu with rfl | rfl | rfl <;> first | exact notU_bool _ | exact notU_slice _ _ _ | exact notU_i64 _) ha), (Below.store3 HBT (by first | exact Nat.le_refl _ | omega))⟩
set_option maxRecDepth 100000 in
set_option maxHeartbeats 4000000 in
theorem dmake_even (aA : Option Addr) (ac : Nat) (a : Int) (e : Int) (w : World) (ha : NatV w aA ac (mg a))  (hT : Tab w) (la : nl (mg a) ≤ 262144) (le : -1073741824 ≤ e ∧ e ≤ 1073741824) (h0 : a ≠ 0) (hv : 0 < v2 (mg a)) :
    Calls Tryz.prog 24 #[.agg #[.bool (sg a), .slice aA (nl (mg a)) ac], .int .i64 e] w (RetD w (dval a e)) := by
  have t1 : ((nl (mg a) : Int) == 0) = false := ieqF (by have := nl_pos.2 (show mg a ≠ 0 from fun h => h0 (mg_zero.1 h)); omega)
  have hf := make_form a e
  have hd := dm_v2 a
  have hvl := v2_le (mg a)
  have CZ := fun (W : World) (h1 : NatV W aA ac (mg a)) (h2 : Tab W) => zeros_c aA ac a W h1 h2 (by omega) h0
  obtain ⟨n, En⟩ : ∃ n, n = v2 (mg a) := ⟨_, rfl⟩
  have he : de a e = e + n := by unfold de; rw [if_neg h0, En]
  rw [← En] at CZ hv hd hvl
  obtain ⟨x, Ex⟩ : ∃ x, x = e + (n : Int) := ⟨_, rfl⟩
  have Ix : e + (n : Int) = x := Ex.symm
  have t2 : ((n : Int) == 0) = false := ieqF (by omega)
  have Wn : IntKind.i64.wrap (-(n : Int)) = -(n : Int) := IntWalk.i64_in _ (by omega)
  have Wx : IntKind.i64.wrap x = x := IntWalk.i64_in _ (by omega)
  rw [he, ← Ex] at hf
  replace CZ := Lib.hid CZ
  replace hd := Lib.hid hd
  replace he := Lib.hid he
  replace hf := Lib.hid hf
  replace Ex := Lib.hid Ex
  replace En := Lib.hid En
  have hfm := field_mag
  have hb1 : Below (w).heap.size (w) ((w.alloc (.cells #[.bool (sg a), .slice aA (nl (mg a)) ac] 24)).alloc (.cells #[.bool false, .slice none 0 0, .int .i64 0] 28)) := (Below.alloc (Below.alloc (Below.refl _ _) (Nat.le_refl _) _) (by simp <;> omega) _)
  replace ha := ha.below hb1
  replace hT := hT.below hb1
  have HBT := hb1
  clear hb1
  have Ra : BoxA ((w.alloc (.cells #[.bool (sg a), .slice aA (nl (mg a)) ac] 24)).alloc (.cells #[.bool false, .slice none 0 0, .int .i64 0] 28)) w.heap.size 24 #[.bool (sg a), .slice aA (nl (mg a)) ac] := ⟨by repeat (first | exact at_new (by first | (simp; done) | (simp; omega)) | refine at_old (by first | (simp; done) | (simp; omega)) ?_)⟩
  have qa0 := Ra.c (i := 0) rfl
  have qa1 := Ra.c (i := 1) rfl
  have Rr : BoxA ((w.alloc (.cells #[.bool (sg a), .slice aA (nl (mg a)) ac] 24)).alloc (.cells #[.bool false, .slice none 0 0, .int .i64 0] 28)) (w.heap.size + 1) 28 #[.bool false, .slice none 0 0, .int .i64 0] := ⟨by repeat (first | exact at_new (by first | (simp; done) | (simp; omega)) | refine at_old (by first | (simp; done) | (simp; omega)) ?_)⟩
  have qr0 := Rr.c (i := 0) rfl
  have qr1 := Rr.c (i := 1) rfl
  have qr2 := Rr.c (i := 2) rfl
  go_enter Tryz.func24, Tryz.ntmps24
  go_wp2_with (fail)
  refine (Calls.mono (CZ.out _ ha hT) ?_)
  rintro e W2 ⟨rfl, hb2⟩
  replace ha := ha.below hb2
  replace hT := hT.below hb2
  replace Ra := Ra.below hb2
  replace qa0 := cell_below hb2 qa0
  replace qa1 := cell_below hb2 qa1
  replace Rr := Rr.below hb2
  replace qr0 := cell_below hb2 qr0
  replace qr1 := cell_below hb2 qr1
  replace qr2 := cell_below hb2 qr2
  replace HBT := Below.cons HBT hb2
  clear hb2
  go_wp2_with (fail)
  have hd3 : Below (W2).heap.size W2 (W2).drew := (Below.refl _ _).drew
  replace ha := ha.below hd3
  replace hT := hT.below hd3
  replace Ra := Ra.below hd3
  replace qa0 := cell_below hd3 qa0
  replace qa1 := cell_below hd3 qa1
  replace Rr := Rr.below hd3
  replace qr0 := cell_below hd3 qr0
  replace qr1 := cell_below hd3 qr1
  replace qr2 := cell_below hd3 qr2
  replace HBT := Below.cons HBT hd3
  clear hd3
  obtain ⟨y, Ey⟩ : ∃ zq : Int, zq = ival false (mg a) := ⟨_, rfl⟩
  have Ny : nl (mg y) ≤ 1048576 := by rw [Ey, mg_ival]; omega
  have C3_0 := fun (W : World) (h1 : NatV W aA ac (mg a)) => imake_c false aA ac (mg a) W h1 (by omega)
  simp only [← Ey] at C3_0
  replace Ey := Lib.hid Ey
  replace C3_0 := Lib.hid C3_0
  obtain ⟨u, Eu⟩ : ∃ zq : Int, zq = shf y (-(n : Int)) := ⟨_, rfl⟩
  have Mu : mg u = mg a / 2 ^ n := by rw [Eu, Ey.out, ival_false]; exact shf_down hv
  have Nu : nl (mg u) ≤ 1048576 := by rw [Mu]; have := nl_div (mg a) (2 ^ n); omega
  replace Mu := Lib.hid Mu
  have C3_1 := fun (W : World) (A : Option Addr) (c : Nat) (h1 : NatV W A c (mg y)) => ishift_c A c y (-(n : Int)) W h1 Ny (by omega)
  simp only [← Eu] at C3_1
  replace Eu := Lib.hid Eu
  replace C3_1 := Lib.hid C3_1
  obtain ⟨z, Ez⟩ : ∃ zq : Int, zq = ival (sg a) (mg u) := ⟨_, rfl⟩
  have C3_2 := fun (W : World) (A : Option Addr) (c : Nat) (h1 : NatV W A c (mg u)) => imake_c (sg a) A c (mg u) W h1 (by omega)
  simp only [← Ez] at C3_2
  replace Ez := Lib.hid Ez
  replace C3_2 := Lib.hid C3_2
  go_region_held3 (fun W => W.cell? ⟨w.heap.size, 0, none⟩ = some (.bool (sg a)) ∧ W.cell? ⟨w.heap.size, 1, none⟩ = some (.slice aA (nl (mg a)) ac))
    (first
      | exact ⟨qa0, qa1⟩
      | exact ⟨qa0_4, qa1_4⟩
      | exact ⟨qa0_5, qa1_5⟩
      | exact ⟨qa0_6, qa1_6⟩
      | exact ⟨((Ra_6.other3 (by simp <;> omega)).c (i := 0) rfl), ((Ra_6.other3 (by simp <;> omega)).c (i := 1) rfl)⟩
      | go_keep)
    (first
      | (go_at_call 64; (with_reducible refine (C3_0.out _ ha).mono ?_); rintro e W4 ⟨Xy, cy, rfl, hy, hb4⟩; have ha_4 := ha.below hb4; have hT_4 := hT.below hb4; have Ra_4 := Ra.below hb4; have qa0_4 := cell_below hb4 qa0; have qa1_4 := cell_below hb4 qa1; have Rr_4 := Rr.below hb4; have qr0_4 := cell_below hb4 qr0; have qr1_4 := cell_below hb4 qr1; have qr2_4 := cell_below hb4 qr2; have HBT_4 := Below.cons HBT hb4)
      | (go_at_call 63; (with_reducible refine (C3_1.out _ _ _ hy).mono ?_); rintro e W5 ⟨Xu, cu, rfl, hu, hb5⟩; have ha_5 := ha_4.below hb5; have hT_5 := hT_4.below hb5; have Ra_5 := Ra_4.below hb5; have qa0_5 := cell_below hb5 qa0_4; have qa1_5 := cell_below hb5 qa1_4; have Rr_5 := Rr_4.below hb5; have qr0_5 := cell_below hb5 qr0_4; have qr1_5 := cell_below hb5 qr1_4; have qr2_5 := cell_below hb5 qr2_4; have hy_5 := hy.below hb5; have HBT_5 := Below.cons HBT_4 hb5)
      | (go_at_call 64; (with_reducible refine (C3_2.out _ _ _ hu).mono ?_); rintro e W6 ⟨Xz, cz, rfl, hz, hb6⟩; have ha_6 := ha_5.below hb6; have hT_6 := hT_5.below hb6; have Ra_6 := Ra_5.below hb6; have qa0_6 := cell_below hb6 qa0_5; have qa1_6 := cell_below hb6 qa1_5; have Rr_6 := Rr_5.below hb6; have qr0_6 := cell_below hb6 qr0_5; have qr1_6 := cell_below hb6 qr1_5; have qr2_6 := cell_below hb6 qr2_5; have hy_6 := hy_5.below hb6; have hu_6 := hu.below hb6; have HBT_6 := Below.cons HBT_5 hb6; have fz0 := Rr_6.f (i := 0); have fz1 := Rr_6.f (i := 1); have fz2 := Rr_6.f (i := 2)))
  all_goals (try go_wp2_with (fail))
  have eqz : z = dmn (dval a e) := by rw [Ez.out, Mu.out, hd.out, hf.out.1]
  have hx : x = dex (dval a e) := hf.out.2
  have RS := Rr_6.store3 (.bool (sg z)) (.slice Xz (nl (mg z)) cz) (.int .i64 x)
  have e0 := RS.c (i := 0) rfl
  have e1 := RS.c (i := 1) rfl
  have e2 := RS.c (i := 2) rfl
  refine bodyPost_ret (v := .agg #[.bool (sg z), .slice Xz (nl (mg z)) cz, .int .i64 x]) (by simp [results, Tryz.results24, go_sem, e0, e1, e2]) rfl ?_
  exact ⟨Xz, cz, (by rw [eqz, hx]), by rw [← eqz]; exact (Rr_6.keep3 (by intro u hu; simp at hu; rcases hu with rfl | rfl | rfl <;> first | exact notU_bool _ | exact notU_slice _ _ _ | exact notU_i64 _) hz), (Below.store3 HBT_6 (by first | exact Nat.le_refl _ | omega))⟩
theorem dmake_c (aA : Option Addr) (ac : Nat) (a : Int) (e : Int) (w : World) (ha : NatV w aA ac (mg a)) (hT : Tab w) (la : nl (mg a) ≤ 262144) (le : -1073741824 ≤ e ∧ e ≤ 1073741824) :
    Calls Tryz.prog 24 #[.agg #[.bool (sg a), .slice aA (nl (mg a)) ac], .int .i64 e] w (RetD w (dval a e)) := by
  by_cases h0 : a = 0
  · exact dmake_0 aA ac a e w ha h0
  · by_cases hv : v2 (mg a) = 0
    · exact dmake_odd aA ac a e w ha hT la le h0 hv
    · exact dmake_even aA ac a e w ha hT la le h0 (by omega)
end Go.Proofs.YtacjfpibilolnaaGreatDoor
