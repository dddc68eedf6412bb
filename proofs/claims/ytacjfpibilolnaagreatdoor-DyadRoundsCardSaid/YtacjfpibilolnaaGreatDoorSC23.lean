/- The document's whole numbers, walked: DivMod, Exact. -/
import Derived.Test.YtacjfpibilolnaaGreatDoorSC22
set_option maxRecDepth 100000
set_option maxHeartbeats 4000000
set_option linter.unusedVariables false
set_option linter.unusedSimpArgs false
namespace Go.Proofs.YtacjfpibilolnaaGreatDoor
open Go.RowKit Go.Shelf
attribute [local go_sem] max2_i min2_i max_two min_two

theorem cell_other2 {W : World} {j i k : Nat} {v v0 v1 : Value} (h : W.cell? ⟨j, i, none⟩ = some v) (hne : j ≠ k) : ((W.setCell ⟨k, 0, none⟩ v0).setCell ⟨k, 1, none⟩ v1).cell? ⟨j, i, none⟩ = some v := by
  unfold World.cell? at h ⊢
  rw [set2_far j hne]; exact h
theorem zdiv_f (aA : Option Addr) (ac : Nat) (a : Int) (bA : Option Addr) (bc : Nat) (b : Int) (w : World) (ha : NatV w aA ac (mg a)) (hb : NatV w bA bc (mg b)) (la : nl (mg a) ≤ 1048576) (lb : nl (mg b) ≤ 1048576) (hb0 : b ≠ 0) (h : 0 ≤ a) :
    Calls Tryz.prog 74 #[.agg #[.bool (sg a), .slice aA (nl (mg a)) ac], .agg #[.bool (sg b), .slice bA (nl (mg b)) bc]] w (RetII w (a / b) (a % b)) := by
  have pb : 0 < mg b := mg_pos.2 hb0
  have hv := dm_plain hb0 (.inl h)
  obtain ⟨q, Eq⟩ : ∃ zq : Nat, zq = mg a / mg b := ⟨_, rfl⟩
  obtain ⟨r, Er⟩ : ∃ zq : Nat, zq = mg a % mg b := ⟨_, rfl⟩
  have Bq : nl q ≤ 1048576 := by rw [Eq]; have := nl_div (mg a) (mg b); omega
  have Br : nl r ≤ 1048576 := by rw [Er]; have := nl_mod_le (mg a) (mg b); omega
  have hrb : r ≤ mg b := by rw [Er]; exact Nat.le_of_lt (Nat.mod_lt _ pb)
  have ta : sg a = false := sg_f h
  rw [show (sg a != sg b) = sg b by rw [ta]; simp, ← Eq, ← Er] at hv
  replace hv := Lib.hid hv
  replace h := Lib.hid h
  obtain ⟨hb1, Ra, Rb, Rr, Rs⟩ := bx4 w #[.bool false, .slice aA (nl (mg a)) ac] 24 #[.bool (sg b), .slice bA (nl (mg b)) bc] 24 #[.bool false, .slice none 0 0] 24 #[.bool false, .slice none 0 0] 24
  replace ha := ha.below hb1
  replace hb := hb.below hb1
  have HBT := hb1
  clear hb1
  have qa0 := Ra.c (i := 0) rfl
  have qa1 := Ra.c (i := 1) rfl
  have qb0 := Rb.c (i := 0) rfl
  have qb1 := Rb.c (i := 1) rfl
  have qr0 := Rr.c (i := 0) rfl
  have qr1 := Rr.c (i := 1) rfl
  have qs0 := Rs.c (i := 0) rfl
  have qs1 := Rs.c (i := 1) rfl
  go_enter Tryz.func74, Tryz.ntmps74
  go_wp2_with (fail)
  have CD := rdiv_c aA ac (mg a) bA bc (mg b) _ ha hb (by omega) (by omega) pb
  rw [← Eq, ← Er] at CD
  replace Eq := Lib.hid Eq
  replace Er := Lib.hid Er
  refine (Calls.mono CD ?_)
  clear CD
  rintro e W2 ⟨Xq, cq, Xr, cr, rfl, hq, hr, hb2⟩
  replace ha := ha.below hb2
  replace hb := hb.below hb2
  replace Ra := Ra.below hb2
  replace qa0 := cbl hb2 qa0
  replace qa1 := cbl hb2 qa1
  replace Rb := Rb.below hb2
  replace qb0 := cbl hb2 qb0
  replace qb1 := cbl hb2 qb1
  replace Rr := Rr.below hb2
  replace qr0 := cbl hb2 qr0
  replace qr1 := cbl hb2 qr1
  replace Rs := Rs.below hb2
  replace qs0 := cbl hb2 qs0
  replace qs1 := cbl hb2 qs1
  replace HBT := Below.cons HBT hb2
  clear hb2
  go_wp2_with (fail)
  obtain ⟨x, Ex⟩ : ∃ zq : Int, zq = ival (sg b) q := ⟨_, rfl⟩
  refine (Calls.mono (R := RetI W2 x) (by rw [Ex]; with_reducible exact (rz_c (sg b) Xq cq q _ hq (by omega))) ?_)
  replace Ex := Lib.hid Ex
  rintro e W3 ⟨Xx, cx, rfl, hx, hb3⟩
  replace ha := ha.below hb3
  replace hb := hb.below hb3
  replace Ra := Ra.below hb3
  replace qa0 := cbl hb3 qa0
  replace qa1 := cbl hb3 qa1
  replace Rb := Rb.below hb3
  replace qb0 := cbl hb3 qb0
  replace qb1 := cbl hb3 qb1
  replace Rr := Rr.below hb3
  replace qr0 := cbl hb3 qr0
  replace qr1 := cbl hb3 qr1
  replace Rs := Rs.below hb3
  replace qs0 := cbl hb3 qs0
  replace qs1 := cbl hb3 qs1
  replace hq := hq.below hb3
  replace hr := hr.below hb3
  replace HBT := Below.cons HBT hb3
  clear hb3
  go_wp2_with (fail)
  obtain ⟨y, Ey⟩ : ∃ zq : Int, zq = ival false r := ⟨_, rfl⟩
  refine (Calls.mono (R := RetI W3 y) (by rw [Ey]; with_reducible exact (rz_c false Xr cr r _ hr (by omega))) ?_)
  replace Ey := Lib.hid Ey
  rintro e W4 ⟨Xy, cy, rfl, hy, hb4⟩
  replace ha := ha.below hb4
  replace hb := hb.below hb4
  replace Ra := Ra.below hb4
  replace qa0 := cbl hb4 qa0
  replace qa1 := cbl hb4 qa1
  replace Rb := Rb.below hb4
  replace qb0 := cbl hb4 qb0
  replace qb1 := cbl hb4 qb1
  replace Rr := Rr.below hb4
  replace qr0 := cbl hb4 qr0
  replace qr1 := cbl hb4 qr1
  replace Rs := Rs.below hb4
  replace qs0 := cbl hb4 qs0
  replace qs1 := cbl hb4 qs1
  replace hq := hq.below hb4
  replace hr := hr.below hb4
  replace hx := hx.below hb4
  replace HBT := Below.cons HBT hb4
  clear hb4
  have hzx : x = a / b := by rw [Ex.out]; exact hv.out.1
  subst hzx
  have hzy : y = a % b := by rw [Ey.out]; exact hv.out.2
  subst hzy
  have fzr0 := Rr.f (i := 0)
  have fzr1 := Rr.f (i := 1)
  have fzs0 := Rs.f (i := 0)
  have fzs1 := Rs.f (i := 1)
  go_wp2_with (fail)
  have RU := Rr.store2 (.bool (sg ((a / b)))) (.slice Xx (nl (mg ((a / b)))) cx)
  have RV := (Rs.other2 (v0 := .bool (sg ((a / b)))) (v1 := .slice Xx (nl (mg ((a / b)))) cx) (show (w.heap.size + 1 + 1 + 1) ≠ (w.heap.size + 1 + 1) by omega)).store2 (.bool (sg ((a % b)))) (.slice Xy (nl (mg ((a % b)))) cy)
  have RU2 := RU.other2 (v0 := .bool (sg ((a % b)))) (v1 := .slice Xy (nl (mg ((a % b)))) cy) (show (w.heap.size + 1 + 1) ≠ (w.heap.size + 1 + 1 + 1) by omega)
  have e0 := RU2.c (i := 0) rfl
  have g0 := RV.c (i := 0) rfl
  have e1 := RU2.c (i := 1) rfl
  have g1 := RV.c (i := 1) rfl
  refine bodyPost_ret (v := .tuple #[.agg #[.bool (sg ((a / b))), .slice Xx (nl (mg ((a / b)))) cx], .agg #[.bool (sg ((a % b))), .slice Xy (nl (mg ((a % b)))) cy], .int .i64 0]) (by simp [results, Tryz.results74, go_sem, e0, e1, g0, g1]) rfl ?_
  exact ⟨Xx, cx, Xy, cy, rfl, ((Rs.other2 (v0 := .bool (sg ((a / b)))) (v1 := .slice Xx (nl (mg ((a / b)))) cx) (show (w.heap.size + 1 + 1 + 1) ≠ (w.heap.size + 1 + 1) by omega)).keep2 (nuB rfl) (Rr.keep2 (nuB rfl) hx)), ((Rs.other2 (v0 := .bool (sg ((a / b)))) (v1 := .slice Xx (nl (mg ((a / b)))) cx) (show (w.heap.size + 1 + 1 + 1) ≠ (w.heap.size + 1 + 1) by omega)).keep2 (nuB rfl) (Rr.keep2 (nuB rfl) hy)), Below.store2 (Below.store2 HBT (by omega)) (by omega)⟩
theorem zdiv_z (aA : Option Addr) (ac : Nat) (a : Int) (bA : Option Addr) (bc : Nat) (b : Int) (w : World) (ha : NatV w aA ac (mg a)) (hb : NatV w bA bc (mg b)) (la : nl (mg a) ≤ 1048576) (lb : nl (mg b) ≤ 1048576) (hb0 : b ≠ 0) (h : a < 0) (h2 : mg a % mg b = 0) :
    Calls Tryz.prog 74 #[.agg #[.bool (sg a), .slice aA (nl (mg a)) ac], .agg #[.bool (sg b), .slice bA (nl (mg b)) bc]] w (RetII w (a / b) (a % b)) := by
  have pb : 0 < mg b := mg_pos.2 hb0
  have hv := dm_plain hb0 (.inr h2)
  obtain ⟨q, Eq⟩ : ∃ zq : Nat, zq = mg a / mg b := ⟨_, rfl⟩
  obtain ⟨r, Er⟩ : ∃ zq : Nat, zq = mg a % mg b := ⟨_, rfl⟩
  have Bq : nl q ≤ 1048576 := by rw [Eq]; have := nl_div (mg a) (mg b); omega
  have Br : nl r ≤ 1048576 := by rw [Er]; have := nl_mod_le (mg a) (mg b); omega
  have hrb : r ≤ mg b := by rw [Er]; exact Nat.le_of_lt (Nat.mod_lt _ pb)
  have ta : sg a = true := sg_t h
  obtain ⟨n, En⟩ : ∃ n : Bool, n = !sg b := ⟨_, rfl⟩
  have In : (!sg b) = n := En.symm
  rw [show (sg a != sg b) = n by rw [ta, ← In]; simp, ← Eq, ← Er] at hv
  replace hv := Lib.hid hv
  replace En := Lib.hid En
  rw [← Er] at h2
  have t1 : ((nl r : Int) == 0) = true := ieqT (by rw [h2, nl_zero]; rfl)
  have t2 : (nl r == 0) = true := by rw [h2, nl_zero]; rfl
  replace h2 := Lib.hid h2
  replace h := Lib.hid h
  obtain ⟨hb1, Ra, Rb, Rr, Rs⟩ := bx4 w #[.bool true, .slice aA (nl (mg a)) ac] 24 #[.bool (sg b), .slice bA (nl (mg b)) bc] 24 #[.bool false, .slice none 0 0] 24 #[.bool false, .slice none 0 0] 24
  replace ha := ha.below hb1
  replace hb := hb.below hb1
  have HBT := hb1
  clear hb1
  have qa0 := Ra.c (i := 0) rfl
  have qa1 := Ra.c (i := 1) rfl
  have qb0 := Rb.c (i := 0) rfl
  have qb1 := Rb.c (i := 1) rfl
  have qr0 := Rr.c (i := 0) rfl
  have qr1 := Rr.c (i := 1) rfl
  have qs0 := Rs.c (i := 0) rfl
  have qs1 := Rs.c (i := 1) rfl
  go_enter Tryz.func74, Tryz.ntmps74
  go_wp2_with (fail)
  have CD := rdiv_c aA ac (mg a) bA bc (mg b) _ ha hb (by omega) (by omega) pb
  rw [← Eq, ← Er] at CD
  replace Eq := Lib.hid Eq
  replace Er := Lib.hid Er
  refine (Calls.mono CD ?_)
  clear CD
  rintro e W2 ⟨Xq, cq, Xr, cr, rfl, hq, hr, hb2⟩
  replace ha := ha.below hb2
  replace hb := hb.below hb2
  replace Ra := Ra.below hb2
  replace qa0 := cbl hb2 qa0
  replace qa1 := cbl hb2 qa1
  replace Rb := Rb.below hb2
  replace qb0 := cbl hb2 qb0
  replace qb1 := cbl hb2 qb1
  replace Rr := Rr.below hb2
  replace qr0 := cbl hb2 qr0
  replace qr1 := cbl hb2 qr1
  replace Rs := Rs.below hb2
  replace qs0 := cbl hb2 qs0
  replace qs1 := cbl hb2 qs1
  replace HBT := Below.cons HBT hb2
  clear hb2
  go_wp2_with (fail)
  obtain ⟨x, Ex⟩ : ∃ zq : Int, zq = ival n q := ⟨_, rfl⟩
  refine (Calls.mono (R := RetI W2 x) (by rw [Ex]; with_reducible exact (rz_c n Xq cq q _ hq (by omega))) ?_)
  replace Ex := Lib.hid Ex
  rintro e W3 ⟨Xx, cx, rfl, hx, hb3⟩
  replace ha := ha.below hb3
  replace hb := hb.below hb3
  replace Ra := Ra.below hb3
  replace qa0 := cbl hb3 qa0
  replace qa1 := cbl hb3 qa1
  replace Rb := Rb.below hb3
  replace qb0 := cbl hb3 qb0
  replace qb1 := cbl hb3 qb1
  replace Rr := Rr.below hb3
  replace qr0 := cbl hb3 qr0
  replace qr1 := cbl hb3 qr1
  replace Rs := Rs.below hb3
  replace qs0 := cbl hb3 qs0
  replace qs1 := cbl hb3 qs1
  replace hq := hq.below hb3
  replace hr := hr.below hb3
  replace HBT := Below.cons HBT hb3
  clear hb3
  go_wp2_with (fail)
  obtain ⟨y, Ey⟩ : ∃ zq : Int, zq = ival false r := ⟨_, rfl⟩
  refine (Calls.mono (R := RetI W3 y) (by rw [Ey]; with_reducible exact (rz_c false Xr cr r _ hr (by omega))) ?_)
  replace Ey := Lib.hid Ey
  rintro e W4 ⟨Xy, cy, rfl, hy, hb4⟩
  replace ha := ha.below hb4
  replace hb := hb.below hb4
  replace Ra := Ra.below hb4
  replace qa0 := cbl hb4 qa0
  replace qa1 := cbl hb4 qa1
  replace Rb := Rb.below hb4
  replace qb0 := cbl hb4 qb0
  replace qb1 := cbl hb4 qb1
  replace Rr := Rr.below hb4
  replace qr0 := cbl hb4 qr0
  replace qr1 := cbl hb4 qr1
  replace Rs := Rs.below hb4
  replace qs0 := cbl hb4 qs0
  replace qs1 := cbl hb4 qs1
  replace hq := hq.below hb4
  replace hr := hr.below hb4
  replace hx := hx.below hb4
  replace HBT := Below.cons HBT hb4
  clear hb4
  have hzx : x = a / b := by rw [Ex.out]; exact hv.out.1
  subst hzx
  have hzy : y = a % b := by rw [Ey.out]; exact hv.out.2
  subst hzy
  have fzr0 := Rr.f (i := 0)
  have fzr1 := Rr.f (i := 1)
  have fzs0 := Rs.f (i := 0)
  have fzs1 := Rs.f (i := 1)
  go_wp2_with (fail)
  have RU := Rr.store2 (.bool (sg ((a / b)))) (.slice Xx (nl (mg ((a / b)))) cx)
  have RV := (Rs.other2 (v0 := .bool (sg ((a / b)))) (v1 := .slice Xx (nl (mg ((a / b)))) cx) (show (w.heap.size + 1 + 1 + 1) ≠ (w.heap.size + 1 + 1) by omega)).store2 (.bool (sg ((a % b)))) (.slice Xy (nl (mg ((a % b)))) cy)
  have RU2 := RU.other2 (v0 := .bool (sg ((a % b)))) (v1 := .slice Xy (nl (mg ((a % b)))) cy) (show (w.heap.size + 1 + 1) ≠ (w.heap.size + 1 + 1 + 1) by omega)
  have e0 := RU2.c (i := 0) rfl
  have g0 := RV.c (i := 0) rfl
  have e1 := RU2.c (i := 1) rfl
  have g1 := RV.c (i := 1) rfl
  refine bodyPost_ret (v := .tuple #[.agg #[.bool (sg ((a / b))), .slice Xx (nl (mg ((a / b)))) cx], .agg #[.bool (sg ((a % b))), .slice Xy (nl (mg ((a % b)))) cy], .int .i64 0]) (by simp [results, Tryz.results74, go_sem, e0, e1, g0, g1]) rfl ?_
  exact ⟨Xx, cx, Xy, cy, rfl, ((Rs.other2 (v0 := .bool (sg ((a / b)))) (v1 := .slice Xx (nl (mg ((a / b)))) cx) (show (w.heap.size + 1 + 1 + 1) ≠ (w.heap.size + 1 + 1) by omega)).keep2 (nuB rfl) (Rr.keep2 (nuB rfl) hx)), ((Rs.other2 (v0 := .bool (sg ((a / b)))) (v1 := .slice Xx (nl (mg ((a / b)))) cx) (show (w.heap.size + 1 + 1 + 1) ≠ (w.heap.size + 1 + 1) by omega)).keep2 (nuB rfl) (Rr.keep2 (nuB rfl) hy)), Below.store2 (Below.store2 HBT (by omega)) (by omega)⟩
theorem zdiv_t (aA : Option Addr) (ac : Nat) (a : Int) (bA : Option Addr) (bc : Nat) (b : Int) (w : World) (ha : NatV w aA ac (mg a)) (hb : NatV w bA bc (mg b)) (la : nl (mg a) ≤ 1048576) (lb : nl (mg b) ≤ 1048576) (hb0 : b ≠ 0) (h : a < 0) (h2 : mg a % mg b ≠ 0) :
    Calls Tryz.prog 74 #[.agg #[.bool (sg a), .slice aA (nl (mg a)) ac], .agg #[.bool (sg b), .slice bA (nl (mg b)) bc]] w (RetII w (a / b) (a % b)) := by
  have pb : 0 < mg b := mg_pos.2 hb0
  have hv := dm_below hb0 h h2
  obtain ⟨q, Eq⟩ : ∃ zq : Nat, zq = mg a / mg b := ⟨_, rfl⟩
  obtain ⟨r, Er⟩ : ∃ zq : Nat, zq = mg a % mg b := ⟨_, rfl⟩
  have Bq : nl q ≤ 1048576 := by rw [Eq]; have := nl_div (mg a) (mg b); omega
  have Br : nl r ≤ 1048576 := by rw [Er]; have := nl_mod_le (mg a) (mg b); omega
  have hrb : r ≤ mg b := by rw [Er]; exact Nat.le_of_lt (Nat.mod_lt _ pb)
  have ta : sg a = true := sg_t h
  obtain ⟨n, En⟩ : ∃ n : Bool, n = !sg b := ⟨_, rfl⟩
  have In : (!sg b) = n := En.symm
  rw [show (sg a != sg b) = n by rw [ta, ← In]; simp, ← Eq, ← Er] at hv
  replace hv := Lib.hid hv
  replace En := Lib.hid En
  rw [← Er] at h2
  have t1 : ((nl r : Int) == 0) = false := ieqF (by have := nl_pos.2 h2; omega)
  have t2 : (nl r == 0) = false := by have := nl_pos.2 h2; simp; omega
  replace h2 := Lib.hid h2
  replace h := Lib.hid h
  obtain ⟨hb1, Ra, Rb, Rr, Rs⟩ := bx4 w #[.bool true, .slice aA (nl (mg a)) ac] 24 #[.bool (sg b), .slice bA (nl (mg b)) bc] 24 #[.bool false, .slice none 0 0] 24 #[.bool false, .slice none 0 0] 24
  replace ha := ha.below hb1
  replace hb := hb.below hb1
  have HBT := hb1
  clear hb1
  have qa0 := Ra.c (i := 0) rfl
  have qa1 := Ra.c (i := 1) rfl
  have qb0 := Rb.c (i := 0) rfl
  have qb1 := Rb.c (i := 1) rfl
  have qr0 := Rr.c (i := 0) rfl
  have qr1 := Rr.c (i := 1) rfl
  have qs0 := Rs.c (i := 0) rfl
  have qs1 := Rs.c (i := 1) rfl
  go_enter Tryz.func74, Tryz.ntmps74
  go_wp2_with (fail)
  have CD := rdiv_c aA ac (mg a) bA bc (mg b) _ ha hb (by omega) (by omega) pb
  rw [← Eq, ← Er] at CD
  replace Eq := Lib.hid Eq
  replace Er := Lib.hid Er
  refine (Calls.mono CD ?_)
  clear CD
  rintro e W2 ⟨Xq, cq, Xr, cr, rfl, hq, hr, hb2⟩
  replace ha := ha.below hb2
  replace hb := hb.below hb2
  replace Ra := Ra.below hb2
  replace qa0 := cbl hb2 qa0
  replace qa1 := cbl hb2 qa1
  replace Rb := Rb.below hb2
  replace qb0 := cbl hb2 qb0
  replace qb1 := cbl hb2 qb1
  replace Rr := Rr.below hb2
  replace qr0 := cbl hb2 qr0
  replace qr1 := cbl hb2 qr1
  replace Rs := Rs.below hb2
  replace qs0 := cbl hb2 qs0
  replace qs1 := cbl hb2 qs1
  replace HBT := Below.cons HBT hb2
  clear hb2
  go_wp2_with (fail)
  obtain ⟨r2, Er2⟩ : ∃ zq : Nat, zq = mg b - r := ⟨_, rfl⟩
  have Br2 : nl r2 ≤ 1048576 := by rw [Er2]; have := nl_sub (mg b) r; omega
  have CS := rsub_c bA bc (mg b) Xr cr r _ hb hr (by omega) (by omega) hrb
  rw [← Er2] at CS
  replace Er2 := Lib.hid Er2
  refine (Calls.mono CS ?_)
  clear CS
  rintro e W3 ⟨Xr2, cr2, rfl, hr2, hb3⟩
  replace ha := ha.below hb3
  replace hb := hb.below hb3
  replace Ra := Ra.below hb3
  replace qa0 := cbl hb3 qa0
  replace qa1 := cbl hb3 qa1
  replace Rb := Rb.below hb3
  replace qb0 := cbl hb3 qb0
  replace qb1 := cbl hb3 qb1
  replace Rr := Rr.below hb3
  replace qr0 := cbl hb3 qr0
  replace qr1 := cbl hb3 qr1
  replace Rs := Rs.below hb3
  replace qs0 := cbl hb3 qs0
  replace qs1 := cbl hb3 qs1
  replace hq := hq.below hb3
  replace hr := hr.below hb3
  replace HBT := Below.cons HBT hb3
  clear hb3
  go_wp2_with (fail)
  have hd4 := drb (W3)
  replace ha := ha.below hd4
  replace hb := hb.below hd4
  replace Ra := Ra.below hd4
  replace qa0 := cbl hd4 qa0
  replace qa1 := cbl hd4 qa1
  replace Rb := Rb.below hd4
  replace qb0 := cbl hd4 qb0
  replace qb1 := cbl hd4 qb1
  replace Rr := Rr.below hd4
  replace qr0 := cbl hd4 qr0
  replace qr1 := cbl hd4 qr1
  replace Rs := Rs.below hd4
  replace qs0 := cbl hd4 qs0
  replace qs1 := cbl hd4 qs1
  replace hq := hq.below hd4
  replace hr := hr.below hd4
  replace hr2 := hr2.below hd4
  replace HBT := Below.cons HBT hd4
  clear hd4
  replace qb0 : (W3).drew.cell? ⟨(w.heap.size + 1), 0, none⟩ = some (.bool (sg b)) := qb0
  have k0qb0 := qb0
  have neqb0r : (w.heap.size + 1) ≠ (w.heap.size + 1 + 1) := by omega
  have neqb0s : (w.heap.size + 1) ≠ (w.heap.size + 1 + 1 + 1) := by omega
  have hl4 : Below (W3).drew.heap.size (W3).drew ((W3).alloc (.cells #[.int .u32 1] 58)).drew := (show Below (W3).drew.heap.size (W3).drew ((W3).drew.alloc (.cells #[.int .u32 1] 58)) from (Below.refl _ _).alloc (Nat.le_refl _) _)
  replace ha := ha.below hl4
  replace hb := hb.below hl4
  replace Ra := Ra.below hl4
  replace qa0 := cbl hl4 qa0
  replace qa1 := cbl hl4 qa1
  replace Rb := Rb.below hl4
  replace qb0 := cbl hl4 qb0
  replace qb1 := cbl hl4 qb1
  replace Rr := Rr.below hl4
  replace qr0 := cbl hl4 qr0
  replace qr1 := cbl hl4 qr1
  replace Rs := Rs.below hl4
  replace qs0 := cbl hl4 qs0
  replace qs1 := cbl hl4 qs1
  replace hq := hq.below hl4
  replace hr := hr.below hl4
  replace hr2 := hr2.below hl4
  replace HBT := Below.cons HBT hl4
  clear hl4
  have hlit : ((W3).alloc (.cells #[.int .u32 1] 58)).drew.heap[(W3).heap.size]? = _ := heap_alloc_new (W3) (.cells #[.int .u32 1] 58)
  replace hlit := Lib.hid hlit
  obtain ⟨q2, Eq2⟩ : ∃ zq : Nat, zq = q + 1 := ⟨_, rfl⟩
  have Bq2 : nl q2 ≤ 1048577 := by rw [Eq2]; have := nl_add q 1; rw [nl_one] at this; omega
  have C4_0 := fun (W : World) (B : Option Addr) (d : Nat) (h1 : NatV W Xq cq q) (h2 : NatV W B d 1) => (show Calls Tryz.prog 83 #[.slice Xq (nl q) cq, .slice B 1 d] W (RetN W (q + 1)) by have := radd_c Xq cq q B d 1 W h1 h2 (by omega) (by rw [nl_one]; decide); rwa [nl_one] at this)
  simp only [← Eq2] at C4_0
  replace Eq2 := Lib.hid Eq2
  replace C4_0 := Lib.hid C4_0
  obtain ⟨x, Ex⟩ : ∃ zq : Int, zq = ival n q2 := ⟨_, rfl⟩
  have C4_1 := fun (W : World) (A : Option Addr) (c : Nat) (h1 : NatV W A c q2) => rz_c n A c q2 W h1 (by omega)
  simp only [← Ex] at C4_1
  replace Ex := Lib.hid Ex
  replace C4_1 := Lib.hid C4_1
  obtain ⟨y, Ey⟩ : ∃ zq : Int, zq = ival false r2 := ⟨_, rfl⟩
  have C4_2 := fun (W : World) (h1 : NatV W Xr2 cr2 r2) => rz_c false Xr2 cr2 r2 W h1 (by omega)
  simp only [← Ey] at C4_2
  replace Ey := Lib.hid Ey
  replace C4_2 := Lib.hid C4_2
  go_region_held3 (fun W => W.cell? ⟨(w.heap.size + 1), 0, none⟩ = some (.bool (sg b)))
    (first
      | with_reducible exact k0qb0
      | with_reducible exact qb0
      | with_reducible exact qb0_5
      | with_reducible exact qb0_6
      | with_reducible exact qb0_7
      | with_reducible exact (cell_other2 qb0_7 neqb0r)
      | with_reducible exact (cell_other2 (cell_other2 qb0_7 neqb0r) neqb0s)
      | go_keep)
    (first
      | (go_at_call 83; (with_reducible refine (C4_0.out _ _ _ hq (nat_one _ _ hlit.out)).mono ?_); rintro e W5 ⟨Xq2, cq2, rfl, hq2, hb5⟩; have ha_5 := ha.below hb5; have hb_5 := hb.below hb5; have Ra_5 := Ra.below hb5; have qa0_5 := cbl hb5 qa0; have qa1_5 := cbl hb5 qa1; have Rb_5 := Rb.below hb5; have qb0_5 := cbl hb5 qb0; have qb1_5 := cbl hb5 qb1; have Rr_5 := Rr.below hb5; have qr0_5 := cbl hb5 qr0; have qr1_5 := cbl hb5 qr1; have Rs_5 := Rs.below hb5; have qs0_5 := cbl hb5 qs0; have qs1_5 := cbl hb5 qs1; have hq_5 := hq.below hb5; have hr_5 := hr.below hb5; have hr2_5 := hr2.below hb5; have HBT_5 := Below.cons HBT hb5)
      | (go_at_call 71; (with_reducible refine (C4_1.out _ _ _ hq2).mono ?_); rintro e W6 ⟨Xx, cx, rfl, hx, hb6⟩; have ha_6 := ha_5.below hb6; have hb_6 := hb_5.below hb6; have Ra_6 := Ra_5.below hb6; have qa0_6 := cbl hb6 qa0_5; have qa1_6 := cbl hb6 qa1_5; have Rb_6 := Rb_5.below hb6; have qb0_6 := cbl hb6 qb0_5; have qb1_6 := cbl hb6 qb1_5; have Rr_6 := Rr_5.below hb6; have qr0_6 := cbl hb6 qr0_5; have qr1_6 := cbl hb6 qr1_5; have Rs_6 := Rs_5.below hb6; have qs0_6 := cbl hb6 qs0_5; have qs1_6 := cbl hb6 qs1_5; have hq_6 := hq_5.below hb6; have hr_6 := hr_5.below hb6; have hr2_6 := hr2_5.below hb6; have hq2_6 := hq2.below hb6; have HBT_6 := Below.cons HBT_5 hb6)
      | (go_at_call 71; (with_reducible refine (C4_2.out _ hr2_6).mono ?_); rintro e W7 ⟨Xy, cy, rfl, hy, hb7⟩; have ha_7 := ha_6.below hb7; have hb_7 := hb_6.below hb7; have Ra_7 := Ra_6.below hb7; have qa0_7 := cbl hb7 qa0_6; have qa1_7 := cbl hb7 qa1_6; have Rb_7 := Rb_6.below hb7; have qb0_7 := cbl hb7 qb0_6; have qb1_7 := cbl hb7 qb1_6; have Rr_7 := Rr_6.below hb7; have qr0_7 := cbl hb7 qr0_6; have qr1_7 := cbl hb7 qr1_6; have Rs_7 := Rs_6.below hb7; have qs0_7 := cbl hb7 qs0_6; have qs1_7 := cbl hb7 qs1_6; have hq_7 := hq_6.below hb7; have hr_7 := hr_6.below hb7; have hr2_7 := hr2_6.below hb7; have hq2_7 := hq2_6.below hb7; have hx_7 := hx.below hb7; have HBT_7 := Below.cons HBT_6 hb7; have fz0 := Rr_7.f (i := 0); have fz1 := Rr_7.f (i := 1); have fy0 := Rs_7.f (i := 0); have fy1 := Rs_7.f (i := 1)))
  all_goals (try go_wp2_with (fail))
  have hzx : x = a / b := by rw [Ex.out, Eq2.out]; exact hv.out.1
  subst hzx
  have hzy : y = a % b := by rw [Ey.out, Er2.out]; exact hv.out.2
  subst hzy
  have RU := Rr_7.store2 (.bool (sg ((a / b)))) (.slice Xx (nl (mg ((a / b)))) cx)
  have RV := (Rs_7.other2 (v0 := .bool (sg ((a / b)))) (v1 := .slice Xx (nl (mg ((a / b)))) cx) (show (w.heap.size + 1 + 1 + 1) ≠ (w.heap.size + 1 + 1) by omega)).store2 (.bool (sg ((a % b)))) (.slice Xy (nl (mg ((a % b)))) cy)
  have RU2 := RU.other2 (v0 := .bool (sg ((a % b)))) (v1 := .slice Xy (nl (mg ((a % b)))) cy) (show (w.heap.size + 1 + 1) ≠ (w.heap.size + 1 + 1 + 1) by omega)
  have e0 := RU2.c (i := 0) rfl
  have g0 := RV.c (i := 0) rfl
  have e1 := RU2.c (i := 1) rfl
  have g1 := RV.c (i := 1) rfl
  refine bodyPost_ret (v := .tuple #[.agg #[.bool (sg ((a / b))), .slice Xx (nl (mg ((a / b)))) cx], .agg #[.bool (sg ((a % b))), .slice Xy (nl (mg ((a % b)))) cy], .int .i64 0]) (by simp [results, Tryz.results74, go_sem, e0, e1, g0, g1]) rfl ?_
  exact ⟨Xx, cx, Xy, cy, rfl, ((Rs_7.other2 (v0 := .bool (sg ((a / b)))) (v1 := .slice Xx (nl (mg ((a / b)))) cx) (show (w.heap.size + 1 + 1 + 1) ≠ (w.heap.size + 1 + 1) by omega)).keep2 (nuB rfl) (Rr_7.keep2 (nuB rfl) hx_7)), ((Rs_7.other2 (v0 := .bool (sg ((a / b)))) (v1 := .slice Xx (nl (mg ((a / b)))) cx) (show (w.heap.size + 1 + 1 + 1) ≠ (w.heap.size + 1 + 1) by omega)).keep2 (nuB rfl) (Rr_7.keep2 (nuB rfl) hy)), Below.store2 (Below.store2 HBT_7 (by omega)) (by omega)⟩
theorem zdiv_c (aA : Option Addr) (ac : Nat) (a : Int) (bA : Option Addr) (bc : Nat) (b : Int) (w : World) (ha : NatV w aA ac (mg a)) (hb : NatV w bA bc (mg b)) (la : nl (mg a) ≤ 1048576) (lb : nl (mg b) ≤ 1048576) (hb0 : b ≠ 0) :
    Calls Tryz.prog 74 #[.agg #[.bool (sg a), .slice aA (nl (mg a)) ac], .agg #[.bool (sg b), .slice bA (nl (mg b)) bc]] w (RetII w (a / b) (a % b)) := by
  by_cases h : 0 ≤ a
  · exact zdiv_f aA ac a bA bc b w ha hb la lb hb0 h
  · by_cases h2 : mg a % mg b = 0
    · exact zdiv_z aA ac a bA bc b w ha hb la lb hb0 (by omega) h2
    · exact zdiv_t aA ac a bA bc b w ha hb la lb hb0 (by omega) h2
theorem zexact_c (aA : Option Addr) (ac : Nat) (a : Int) (bA : Option Addr) (bc : Nat) (b : Int) (w : World) (ha : NatV w aA ac (mg a)) (hb : NatV w bA bc (mg b)) (la : nl (mg a) ≤ 1048576) (lb : nl (mg b) ≤ 1048576) (hb0 : b ≠ 0) (hd : a % b = 0) :
    Calls Tryz.prog 126 #[.agg #[.bool (sg a), .slice aA (nl (mg a)) ac], .agg #[.bool (sg b), .slice bA (nl (mg b)) bc]] w (RetIb w (a / b)) := by
  replace hd := Lib.hid hd
  obtain ⟨hb1, Ra, Rb, Rr⟩ := bx3 w #[.bool (sg a), .slice aA (nl (mg a)) ac] 24 #[.bool (sg b), .slice bA (nl (mg b)) bc] 24 #[.bool false, .slice none 0 0] 24
  replace ha := ha.below hb1
  replace hb := hb.below hb1
  have HBT := hb1
  clear hb1
  have qa0 := Ra.c (i := 0) rfl
  have qa1 := Ra.c (i := 1) rfl
  have qb0 := Rb.c (i := 0) rfl
  have qb1 := Rb.c (i := 1) rfl
  have qr0 := Rr.c (i := 0) rfl
  have qr1 := Rr.c (i := 1) rfl
  go_enter Tryz.func126, Tryz.ntmps126
  go_wp2_with (fail)
  obtain ⟨q, Eq⟩ : ∃ zq : Int, zq = a / b := ⟨_, rfl⟩
  obtain ⟨m, Em⟩ : ∃ zq : Int, zq = a % b := ⟨_, rfl⟩
  have CT2 := (zdiv_c aA ac a bA bc b _ ha hb (by omega) (by omega) hb0)
  rw [← Eq, ← Em] at CT2
  replace Eq := Lib.hid Eq
  replace Em := Lib.hid Em
  replace CT2 := Lib.hid CT2
  refine (Calls.mono CT2.out ?_)
  clear CT2
  rintro e W2 ⟨Xq, cq, Xm, cm, rfl, hq, hm, hb2⟩
  replace ha := ha.below hb2
  replace hb := hb.below hb2
  replace Ra := Ra.below hb2
  replace qa0 := cbl hb2 qa0
  replace qa1 := cbl hb2 qa1
  replace Rb := Rb.below hb2
  replace qb0 := cbl hb2 qb0
  replace qb1 := cbl hb2 qb1
  replace Rr := Rr.below hb2
  replace qr0 := cbl hb2 qr0
  replace qr1 := cbl hb2 qr1
  replace HBT := Below.cons HBT hb2
  clear hb2
  have lm : nl (mg m) = 0 := by rw [Em.out, hd.out]; exact nl_zero
  have t1 : decide (0 < (nl (mg m) : Int)) = false := by rw [lm]; rfl
  have t2 : decide (0 < nl (mg m)) = false := by rw [lm]; rfl
  replace lm := Lib.hid lm
  obtain ⟨hb3, Rq, Rm⟩ := bx2 W2 #[.bool (sg q), .slice Xq (nl (mg q)) cq] 24 #[.bool (sg m), .slice Xm (nl (mg m)) cm] 24
  replace ha := ha.below hb3
  replace hb := hb.below hb3
  replace Ra := Ra.below hb3
  replace qa0 := cbl hb3 qa0
  replace qa1 := cbl hb3 qa1
  replace Rb := Rb.below hb3
  replace qb0 := cbl hb3 qb0
  replace qb1 := cbl hb3 qb1
  replace Rr := Rr.below hb3
  replace qr0 := cbl hb3 qr0
  replace qr1 := cbl hb3 qr1
  replace hq := hq.below hb3
  replace hm := hm.below hb3
  replace HBT := Below.cons HBT hb3
  clear hb3
  have qq0 := Rq.c (i := 0) rfl
  have qq1 := Rq.c (i := 1) rfl
  have qm0 := Rm.c (i := 0) rfl
  have qm1 := Rm.c (i := 1) rfl
  have fzr0 := Rr.f (i := 0)
  have fzr1 := Rr.f (i := 1)
  go_wp2_with (fail)
  have hzq : q = a / b := by exact Eq.out
  subst hzq
  have RS := Rr.store2 (.bool (sg ((a / b)))) (.slice Xq (nl (mg ((a / b)))) cq)
  have e0 := RS.c (i := 0) rfl
  have e1 := RS.c (i := 1) rfl
  refine bodyPost_ret (v := .tuple #[.agg #[.bool (sg ((a / b))), .slice Xq (nl (mg ((a / b)))) cq], .bool true]) (by simp [results, Tryz.results126, go_sem, e0, e1]) rfl ?_
  exact ⟨Xq, cq, rfl, Rr.keep2 (nuB rfl) hq, Below.store2 HBT (by omega)⟩
end Go.Proofs.YtacjfpibilolnaaGreatDoor
