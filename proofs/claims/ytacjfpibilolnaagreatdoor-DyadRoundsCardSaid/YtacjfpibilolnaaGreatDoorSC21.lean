/- Whole numbers, walked: DivMod, Exact. -/
import Derived.Test.YtacjfpibilolnaaGreatDoorSC15
import Derived.Test.YtacjfpibilolnaaGreatDoorSC20
set_option maxRecDepth 100000
set_option maxHeartbeats 4000000
set_option linter.unusedVariables false
set_option linter.unusedSimpArgs false
namespace Go.Proofs.YtacjfpibilolnaaGreatDoor
open Go.RowKit Go.Shelf
attribute [local go_sem] max2_i min2_i max_two min_two

def RetII (w : World) (q r : Int) (e : Ending) (w' : World) : Prop := ∃ A c B d, e = .returned (.tuple #[.agg #[.bool (sg q), .slice A (nl (mg q)) c], .agg #[.bool (sg r), .slice B (nl (mg r)) d], .int .i64 0]) ∧ NatV w' A c (mg q) ∧ NatV w' B d (mg r) ∧ Below w.heap.size w w'
def RetIb (w : World) (q : Int) (e : Ending) (w' : World) : Prop := ∃ A c, e = .returned (.tuple #[.agg #[.bool (sg q), .slice A (nl (mg q)) c], .bool true]) ∧ NatV w' A c (mg q) ∧ Below w.heap.size w w'
theorem ediv_uniq {a b q r : Int} (hb : b ≠ 0) (h : a = q * b + r) (h0 : 0 ≤ r) (h1 : r < b.natAbs) : a / b = q ∧ a % b = r := by
  rcases Int.lt_or_gt_of_ne hb with hn | hp
  · have e : a = (-q) * (-b) + r := by rw [Int.neg_mul_neg]; exact h
    have := (Int.ediv_emod_unique (a := a) (b := -b) (r := r) (q := -q) (by omega)).2 ⟨by rw [Int.mul_comm (-b) (-q)]; omega, h0, by omega⟩
    rw [Int.ediv_neg, Int.emod_neg] at this
    exact ⟨by omega, this.2⟩
  · exact (Int.ediv_emod_unique hp).2 ⟨by rw [Int.mul_comm b q]; omega, h0, by omega⟩
theorem ival_false (n : Nat) : ival false n = n := rfl
theorem dm_plain {a b : Int} (hb : b ≠ 0) (h : 0 ≤ a ∨ mg a % mg b = 0) : ival (sg a != sg b) (mg a / mg b) = a / b ∧ ival false (mg a % mg b) = a % b := by
  have hm := Nat.div_add_mod (mg a) (mg b)
  have hl := Nat.mod_lt (mg a) (show 0 < mg b from mg_pos.2 hb)
  generalize mg a / mg b = q at *
  generalize mg a % mg b = r at *
  have hm2 : ((mg b * q + r : Nat) : Int) = (mg a : Int) := by rw [hm]
  rw [Int.natCast_add, Int.natCast_mul] at hm2
  unfold mg at *
  have key : a = ival (sg a != sg b) q * b + ival false r := by
    rw [ival_false]
    unfold ival sg
    by_cases ha : a < 0
    · have hr : r = 0 := by omega
      subst hr
      by_cases hn : b < 0
      · have h1 : (b.natAbs : Int) = -b := by omega
        have h2 : (a.natAbs : Int) = -a := by omega
        rw [h1, h2] at hm2
        simp [ha, hn]; grind
      · have h1 : (b.natAbs : Int) = b := by omega
        have h2 : (a.natAbs : Int) = -a := by omega
        rw [h1, h2] at hm2
        simp [ha, hn]; grind
    · by_cases hn : b < 0
      · have h1 : (b.natAbs : Int) = -b := by omega
        have h2 : (a.natAbs : Int) = a := by omega
        rw [h1, h2] at hm2
        simp [ha, hn]; grind
      · have h1 : (b.natAbs : Int) = b := by omega
        have h2 : (a.natAbs : Int) = a := by omega
        rw [h1, h2] at hm2
        simp [ha, hn]; grind
  have := ediv_uniq hb key (by rw [ival_false]; omega) (by rw [ival_false]; omega)
  exact ⟨this.1.symm, this.2.symm⟩
theorem dm_below {a b : Int} (hb : b ≠ 0) (ha : a < 0) (h : mg a % mg b ≠ 0) : ival (sg a != sg b) (mg a / mg b + 1) = a / b ∧ ival false (mg b - mg a % mg b) = a % b := by
  have hm := Nat.div_add_mod (mg a) (mg b)
  have hl := Nat.mod_lt (mg a) (show 0 < mg b from mg_pos.2 hb)
  generalize mg a / mg b = q at *
  generalize mg a % mg b = r at *
  have hm2 : ((mg b * q + r : Nat) : Int) = (mg a : Int) := by rw [hm]
  rw [Int.natCast_add, Int.natCast_mul] at hm2
  unfold mg at *
  have hc : ((b.natAbs - r : Nat) : Int) = (b.natAbs : Int) - r := by omega
  have key : a = ival (sg a != sg b) (q + 1) * b + ival false (b.natAbs - r) := by
    rw [ival_false, hc]
    unfold ival sg
    have h2 : (a.natAbs : Int) = -a := by omega
    by_cases hn : b < 0
    · have h1 : (b.natAbs : Int) = -b := by omega
      rw [h1, h2] at hm2
      rw [h1]
      simp [ha, hn]; grind
    · have h1 : (b.natAbs : Int) = b := by omega
      rw [h1, h2] at hm2
      rw [h1]
      simp [ha, hn]; grind
  have := ediv_uniq hb key (by rw [ival_false]; omega) (by rw [ival_false]; omega)
  exact ⟨this.1.symm, this.2.symm⟩
theorem idiv_f (aA : Option Addr) (ac : Nat) (a : Int) (bA : Option Addr) (bc : Nat) (b : Int) (w : World) (ha : NatV w aA ac (mg a)) (hb : NatV w bA bc (mg b)) (la : nl (mg a) ≤ 1048576) (lb : nl (mg b) ≤ 1048576) (hb0 : b ≠ 0) (h : 0 ≤ a) :
    Calls Tryz.prog 110 #[.agg #[.bool (sg a), .slice aA (nl (mg a)) ac], .agg #[.bool (sg b), .slice bA (nl (mg b)) bc]] w (RetII w (a / b) (a % b)) := by
  have pb : 0 < mg b := mg_pos.2 hb0
  have hv := dm_plain hb0 (.inl h)
  obtain ⟨q, Eq⟩ : ∃ zq : Nat, zq = mg a / mg b := ⟨_, rfl⟩
  obtain ⟨r, Er⟩ : ∃ zq : Nat, zq = mg a % mg b := ⟨_, rfl⟩
  have Bq : nl q ≤ 1048576 := by rw [Eq]; have := nl_div (mg a) (mg b); omega
  have Br : nl r ≤ 1048576 := by rw [Er]; have := nl_mod_le (mg a) (mg b); omega
  have hrb : r ≤ mg b := by rw [Er]; exact Nat.le_of_lt (Nat.mod_lt _ pb)
  have ta : sg a = false := sg_f h
  rw [show (sg a != sg b) = sg b by rw [ta]; simp, ← Eq, ← Er] at hv
  replace hv := Lib.hid hv
  replace h := Lib.hid h
  obtain ⟨hb1, Ra, Rb, Rr, Rs⟩ := bx4 w #[.bool false, .slice aA (nl (mg a)) ac] 24 #[.bool (sg b), .slice bA (nl (mg b)) bc] 24 #[.bool false, .slice none 0 0] 24 #[.bool false, .slice none 0 0] 24
  replace ha := ha.below hb1
  replace hb := hb.below hb1
  have HBT := hb1
  clear hb1
  have qa0 := Ra.c (i := 0) rfl
  have qa1 := Ra.c (i := 1) rfl
  have qb0 := Rb.c (i := 0) rfl
  have qb1 := Rb.c (i := 1) rfl
  have qr0 := Rr.c (i := 0) rfl
  have qr1 := Rr.c (i := 1) rfl
  have qs0 := Rs.c (i := 0) rfl
  have qs1 := Rs.c (i := 1) rfl
  go_enter Tryz.func110, Tryz.ntmps110
  go_wp2_with (fail)
  have CD := ddivmod_c aA ac (mg a) bA bc (mg b) _ ha hb (by omega) (by omega) pb
  rw [← Eq, ← Er] at CD
  replace Eq := Lib.hid Eq
  replace Er := Lib.hid Er
  refine (Calls.mono CD ?_)
  clear CD
  rintro e W2 ⟨Xq, cq, Xr, cr, rfl, hq, hr, hb2⟩
  replace ha := ha.below hb2
  replace hb := hb.below hb2
  replace Ra := Ra.below hb2
  replace qa0 := cbl hb2 qa0
  replace qa1 := cbl hb2 qa1
  replace Rb := Rb.below hb2
  replace qb0 := cbl hb2 qb0
  replace qb1 := cbl hb2 qb1
  replace Rr := Rr.below hb2
  replace qr0 := cbl hb2 qr0
  replace qr1 := cbl hb2 qr1
  replace Rs := Rs.below hb2
  replace qs0 := cbl hb2 qs0
  replace qs1 := cbl hb2 qs1
  replace HBT := Below.cons HBT hb2
  clear hb2
  go_wp2_with (fail)
  obtain ⟨x, Ex⟩ : ∃ zq : Int, zq = ival (sg b) q := ⟨_, rfl⟩
  refine (Calls.mono (R := RetI W2 x) (by rw [Ex]; with_reducible exact (imake_c (sg b) Xq cq q _ hq (by omega))) ?_)
  replace Ex := Lib.hid Ex
  rintro e W3 ⟨Xx, cx, rfl, hx, hb3⟩
  replace ha := ha.below hb3
  replace hb := hb.below hb3
  replace Ra := Ra.below hb3
  replace qa0 := cbl hb3 qa0
  replace qa1 := cbl hb3 qa1
  replace Rb := Rb.below hb3
  replace qb0 := cbl hb3 qb0
  replace qb1 := cbl hb3 qb1
  replace Rr := Rr.below hb3
  replace qr0 := cbl hb3 qr0
  replace qr1 := cbl hb3 qr1
  replace Rs := Rs.below hb3
  replace qs0 := cbl hb3 qs0
  replace qs1 := cbl hb3 qs1
  replace hq := hq.below hb3
  replace hr := hr.below hb3
  replace HBT := Below.cons HBT hb3
  clear hb3
  go_wp2_with (fail)
  obtain ⟨y, Ey⟩ : ∃ zq : Int, zq = ival false r := ⟨_, rfl⟩
  refine (Calls.mono (R := RetI W3 y) (by rw [Ey]; with_reducible exact (imake_c false Xr cr r _ hr (by omega))) ?_)
  replace Ey := Lib.hid Ey
  rintro e W4 ⟨Xy, cy, rfl, hy, hb4⟩
  replace ha := ha.below hb4
  replace hb := hb.below hb4
  replace Ra := Ra.below hb4
  replace qa0 := cbl hb4 qa0
  replace qa1 := cbl hb4 qa1
  replace Rb := Rb.below hb4
  replace qb0 := cbl hb4 qb0
  replace qb1 := cbl hb4 qb1
  replace Rr := Rr.below hb4
  replace qr0 := cbl hb4 qr0
  replace qr1 := cbl hb4 qr1
  replace Rs := Rs.below hb4
  replace qs0 := cbl hb4 qs0
  replace qs1 := cbl hb4 qs1
  replace hq := hq.below hb4
  replace hr := hr.below hb4
  replace hx := hx.below hb4
  replace HBT := Below.cons HBT hb4
  clear hb4
  have hzx : x = a / b := by rw [Ex.out]; exact hv.out.1
  subst hzx
  have hzy : y = a % b := by rw [Ey.out]; exact hv.out.2
  subst hzy
  have fzr0 := Rr.f (i := 0)
  have fzr1 := Rr.f (i := 1)
  have fzs0 := Rs.f (i := 0)
  have fzs1 := Rs.f (i := 1)
  go_wp2_with (fail)
  have RU := Rr.store2 (.bool (sg ((a / b)))) (.slice Xx (nl (mg ((a / b)))) cx)
  have RV := (Rs.other2 (v0 := .bool (sg ((a / b)))) (v1 := .slice Xx (nl (mg ((a / b)))) cx) (show (w.heap.size + 1 + 1 + 1) ≠ (w.heap.size + 1 + 1) by omega)).store2 (.bool (sg ((a % b)))) (.slice Xy (nl (mg ((a % b)))) cy)
  have RU2 := RU.other2 (v0 := .bool (sg ((a % b)))) (v1 := .slice Xy (nl (mg ((a % b)))) cy) (show (w.heap.size + 1 + 1) ≠ (w.heap.size + 1 + 1 + 1) by omega)
  have e0 := RU2.c (i := 0) rfl
  have g0 := RV.c (i := 0) rfl
  have e1 := RU2.c (i := 1) rfl
  have g1 := RV.c (i := 1) rfl
  refine bodyPost_ret (v := .tuple #[.agg #[.bool (sg ((a / b))), .slice Xx (nl (mg ((a / b)))) cx], .agg #[.bool (sg ((a % b))), .slice Xy (nl (mg ((a % b)))) cy], .int .i64 0]) (by simp [results, Tryz.results110, go_sem, e0, e1, g0, g1]) rfl ?_
  exact ⟨Xx, cx, Xy, cy, rfl, ((Rs.other2 (v0 := .bool (sg ((a / b)))) (v1 := .slice Xx (nl (mg ((a / b)))) cx) (show (w.heap.size + 1 + 1 + 1) ≠ (w.heap.size + 1 + 1) by omega)).keep2 (nuB rfl) (Rr.keep2 (nuB rfl) hx)), ((Rs.other2 (v0 := .bool (sg ((a / b)))) (v1 := .slice Xx (nl (mg ((a / b)))) cx) (show (w.heap.size + 1 + 1 + 1) ≠ (w.heap.size + 1 + 1) by omega)).keep2 (nuB rfl) (Rr.keep2 (nuB rfl) hy)), Below.store2 (Below.store2 HBT (by omega)) (by omega)⟩
theorem idiv_z (aA : Option Addr) (ac : Nat) (a : Int) (bA : Option Addr) (bc : Nat) (b : Int) (w : World) (ha : NatV w aA ac (mg a)) (hb : NatV w bA bc (mg b)) (la : nl (mg a) ≤ 1048576) (lb : nl (mg b) ≤ 1048576) (hb0 : b ≠ 0) (h : a < 0) (h2 : mg a % mg b = 0) :
    Calls Tryz.prog 110 #[.agg #[.bool (sg a), .slice aA (nl (mg a)) ac], .agg #[.bool (sg b), .slice bA (nl (mg b)) bc]] w (RetII w (a / b) (a % b)) := by
  have pb : 0 < mg b := mg_pos.2 hb0
  have hv := dm_plain hb0 (.inr h2)
  obtain ⟨q, Eq⟩ : ∃ zq : Nat, zq = mg a / mg b := ⟨_, rfl⟩
  obtain ⟨r, Er⟩ : ∃ zq : Nat, zq = mg a % mg b := ⟨_, rfl⟩
  have Bq : nl q ≤ 1048576 := by rw [Eq]; have := nl_div (mg a) (mg b); omega
  have Br : nl r ≤ 1048576 := by rw [Er]; have := nl_mod_le (mg a) (mg b); omega
  have hrb : r ≤ mg b := by rw [Er]; exact Nat.le_of_lt (Nat.mod_lt _ pb)
  have ta : sg a = true := sg_t h
  obtain ⟨n, En⟩ : ∃ n : Bool, n = !sg b := ⟨_, rfl⟩
  have In : (!sg b) = n := En.symm
  rw [show (sg a != sg b) = n by rw [ta, ← In]; simp, ← Eq, ← Er] at hv
  replace hv := Lib.hid hv
  replace En := Lib.hid En
  rw [← Er] at h2
  have t1 : decide (0 < (nl r : Int)) = false := by rw [h2, nl_zero]; rfl
  have t2 : decide (0 < nl r) = false := by rw [h2, nl_zero]; rfl
  replace h2 := Lib.hid h2
  replace h := Lib.hid h
  obtain ⟨hb1, Ra, Rb, Rr, Rs⟩ := bx4 w #[.bool true, .slice aA (nl (mg a)) ac] 24 #[.bool (sg b), .slice bA (nl (mg b)) bc] 24 #[.bool false, .slice none 0 0] 24 #[.bool false, .slice none 0 0] 24
  replace ha := ha.below hb1
  replace hb := hb.below hb1
  have HBT := hb1
  clear hb1
  have qa0 := Ra.c (i := 0) rfl
  have qa1 := Ra.c (i := 1) rfl
  have qb0 := Rb.c (i := 0) rfl
  have qb1 := Rb.c (i := 1) rfl
  have qr0 := Rr.c (i := 0) rfl
  have qr1 := Rr.c (i := 1) rfl
  have qs0 := Rs.c (i := 0) rfl
  have qs1 := Rs.c (i := 1) rfl
  go_enter Tryz.func110, Tryz.ntmps110
  go_wp2_with (fail)
  have CD := ddivmod_c aA ac (mg a) bA bc (mg b) _ ha hb (by omega) (by omega) pb
  rw [← Eq, ← Er] at CD
  replace Eq := Lib.hid Eq
  replace Er := Lib.hid Er
  refine (Calls.mono CD ?_)
  clear CD
  rintro e W2 ⟨Xq, cq, Xr, cr, rfl, hq, hr, hb2⟩
  replace ha := ha.below hb2
  replace hb := hb.below hb2
  replace Ra := Ra.below hb2
  replace qa0 := cbl hb2 qa0
  replace qa1 := cbl hb2 qa1
  replace Rb := Rb.below hb2
  replace qb0 := cbl hb2 qb0
  replace qb1 := cbl hb2 qb1
  replace Rr := Rr.below hb2
  replace qr0 := cbl hb2 qr0
  replace qr1 := cbl hb2 qr1
  replace Rs := Rs.below hb2
  replace qs0 := cbl hb2 qs0
  replace qs1 := cbl hb2 qs1
  replace HBT := Below.cons HBT hb2
  clear hb2
  go_wp2_with (fail)
  obtain ⟨x, Ex⟩ : ∃ zq : Int, zq = ival n q := ⟨_, rfl⟩
  refine (Calls.mono (R := RetI W2 x) (by rw [Ex]; with_reducible exact (imake_c n Xq cq q _ hq (by omega))) ?_)
  replace Ex := Lib.hid Ex
  rintro e W3 ⟨Xx, cx, rfl, hx, hb3⟩
  replace ha := ha.below hb3
  replace hb := hb.below hb3
  replace Ra := Ra.below hb3
  replace qa0 := cbl hb3 qa0
  replace qa1 := cbl hb3 qa1
  replace Rb := Rb.below hb3
  replace qb0 := cbl hb3 qb0
  replace qb1 := cbl hb3 qb1
  replace Rr := Rr.below hb3
  replace qr0 := cbl hb3 qr0
  replace qr1 := cbl hb3 qr1
  replace Rs := Rs.below hb3
  replace qs0 := cbl hb3 qs0
  replace qs1 := cbl hb3 qs1
  replace hq := hq.below hb3
  replace hr := hr.below hb3
  replace HBT := Below.cons HBT hb3
  clear hb3
  go_wp2_with (fail)
  obtain ⟨y, Ey⟩ : ∃ zq : Int, zq = ival false r := ⟨_, rfl⟩
  refine (Calls.mono (R := RetI W3 y) (by rw [Ey]; with_reducible exact (imake_c false Xr cr r _ hr (by omega))) ?_)
  replace Ey := Lib.hid Ey
  rintro e W4 ⟨Xy, cy, rfl, hy, hb4⟩
  replace ha := ha.below hb4
  replace hb := hb.below hb4
  replace Ra := Ra.below hb4
  replace qa0 := cbl hb4 qa0
  replace qa1 := cbl hb4 qa1
  replace Rb := Rb.below hb4
  replace qb0 := cbl hb4 qb0
  replace qb1 := cbl hb4 qb1
  replace Rr := Rr.below hb4
  replace qr0 := cbl hb4 qr0
  replace qr1 := cbl hb4 qr1
  replace Rs := Rs.below hb4
  replace qs0 := cbl hb4 qs0
  replace qs1 := cbl hb4 qs1
  replace hq := hq.below hb4
  replace hr := hr.below hb4
  replace hx := hx.below hb4
  replace HBT := Below.cons HBT hb4
  clear hb4
  have hzx : x = a / b := by rw [Ex.out]; exact hv.out.1
  subst hzx
  have hzy : y = a % b := by rw [Ey.out]; exact hv.out.2
  subst hzy
  have fzr0 := Rr.f (i := 0)
  have fzr1 := Rr.f (i := 1)
  have fzs0 := Rs.f (i := 0)
  have fzs1 := Rs.f (i := 1)
  go_wp2_with (fail)
  have RU := Rr.store2 (.bool (sg ((a / b)))) (.slice Xx (nl (mg ((a / b)))) cx)
  have RV := (Rs.other2 (v0 := .bool (sg ((a / b)))) (v1 := .slice Xx (nl (mg ((a / b)))) cx) (show (w.heap.size + 1 + 1 + 1) ≠ (w.heap.size + 1 + 1) by omega)).store2 (.bool (sg ((a % b)))) (.slice Xy (nl (mg ((a % b)))) cy)
  have RU2 := RU.other2 (v0 := .bool (sg ((a % b)))) (v1 := .slice Xy (nl (mg ((a % b)))) cy) (show (w.heap.size + 1 + 1) ≠ (w.heap.size + 1 + 1 + 1) by omega)
  have e0 := RU2.c (i := 0) rfl
  have g0 := RV.c (i := 0) rfl
  have e1 := RU2.c (i := 1) rfl
  have g1 := RV.c (i := 1) rfl
  refine bodyPost_ret (v := .tuple #[.agg #[.bool (sg ((a / b))), .slice Xx (nl (mg ((a / b)))) cx], .agg #[.bool (sg ((a % b))), .slice Xy (nl (mg ((a % b)))) cy], .int .i64 0]) (by simp [results, Tryz.results110, go_sem, e0, e1, g0, g1]) rfl ?_
  exact ⟨Xx, cx, Xy, cy, rfl, ((Rs.other2 (v0 := .bool (sg ((a / b)))) (v1 := .slice Xx (nl (mg ((a / b)))) cx) (show (w.heap.size + 1 + 1 + 1) ≠ (w.heap.size + 1 + 1) by omega)).keep2 (nuB rfl) (Rr.keep2 (nuB rfl) hx)), ((Rs.other2 (v0 := .bool (sg ((a / b)))) (v1 := .slice Xx (nl (mg ((a / b)))) cx) (show (w.heap.size + 1 + 1 + 1) ≠ (w.heap.size + 1 + 1) by omega)).keep2 (nuB rfl) (Rr.keep2 (nuB rfl) hy)), Below.store2 (Below.store2 HBT (by omega)) (by omega)⟩
theorem idiv_t (aA : Option Addr) (ac : Nat) (a : Int) (bA : Option Addr) (bc : Nat) (b : Int) (w : World) (ha : NatV w aA ac (mg a)) (hb : NatV w bA bc (mg b)) (la : nl (mg a) ≤ 1048576) (lb : nl (mg b) ≤ 1048576) (hb0 : b ≠ 0) (h : a < 0) (h2 : mg a % mg b ≠ 0) :
    Calls Tryz.prog 110 #[.agg #[.bool (sg a), .slice aA (nl (mg a)) ac], .agg #[.bool (sg b), .slice bA (nl (mg b)) bc]] w (RetII w (a / b) (a % b)) := by
  have pb : 0 < mg b := mg_pos.2 hb0
  have hv := dm_below hb0 h h2
  obtain ⟨q, Eq⟩ : ∃ zq : Nat, zq = mg a / mg b := ⟨_, rfl⟩
  obtain ⟨r, Er⟩ : ∃ zq : Nat, zq = mg a % mg b := ⟨_, rfl⟩
  have Bq : nl q ≤ 1048576 := by rw [Eq]; have := nl_div (mg a) (mg b); omega
  have Br : nl r ≤ 1048576 := by rw [Er]; have := nl_mod_le (mg a) (mg b); omega
  have hrb : r ≤ mg b := by rw [Er]; exact Nat.le_of_lt (Nat.mod_lt _ pb)
  have ta : sg a = true := sg_t h
  obtain ⟨n, En⟩ : ∃ n : Bool, n = !sg b := ⟨_, rfl⟩
  have In : (!sg b) = n := En.symm
  rw [show (sg a != sg b) = n by rw [ta, ← In]; simp, ← Eq, ← Er] at hv
  replace hv := Lib.hid hv
  replace En := Lib.hid En
  rw [← Er] at h2
  have t1 : decide (0 < (nl r : Int)) = true := by have := nl_pos.2 h2; simp; omega
  have t2 : decide (0 < nl r) = true := by have := nl_pos.2 h2; simp; omega
  replace h2 := Lib.hid h2
  replace h := Lib.hid h
  obtain ⟨hb1, Ra, Rb, Rr, Rs⟩ := bx4 w #[.bool true, .slice aA (nl (mg a)) ac] 24 #[.bool (sg b), .slice bA (nl (mg b)) bc] 24 #[.bool false, .slice none 0 0] 24 #[.bool false, .slice none 0 0] 24
  replace ha := ha.below hb1
  replace hb := hb.below hb1
  have HBT := hb1
  clear hb1
  have qa0 := Ra.c (i := 0) rfl
  have qa1 := Ra.c (i := 1) rfl
  have qb0 := Rb.c (i := 0) rfl
  have qb1 := Rb.c (i := 1) rfl
  have qr0 := Rr.c (i := 0) rfl
  have qr1 := Rr.c (i := 1) rfl
  have qs0 := Rs.c (i := 0) rfl
  have qs1 := Rs.c (i := 1) rfl
  go_enter Tryz.func110, Tryz.ntmps110
  go_wp2_with (fail)
  have CD := ddivmod_c aA ac (mg a) bA bc (mg b) _ ha hb (by omega) (by omega) pb
  rw [← Eq, ← Er] at CD
  replace Eq := Lib.hid Eq
  replace Er := Lib.hid Er
  refine (Calls.mono CD ?_)
  clear CD
  rintro e W2 ⟨Xq, cq, Xr, cr, rfl, hq, hr, hb2⟩
  replace ha := ha.below hb2
  replace hb := hb.below hb2
  replace Ra := Ra.below hb2
  replace qa0 := cbl hb2 qa0
  replace qa1 := cbl hb2 qa1
  replace Rb := Rb.below hb2
  replace qb0 := cbl hb2 qb0
  replace qb1 := cbl hb2 qb1
  replace Rr := Rr.below hb2
  replace qr0 := cbl hb2 qr0
  replace qr1 := cbl hb2 qr1
  replace Rs := Rs.below hb2
  replace qs0 := cbl hb2 qs0
  replace qs1 := cbl hb2 qs1
  replace HBT := Below.cons HBT hb2
  clear hb2
  go_wp2_with (fail)
  obtain ⟨o, Eo⟩ : ∃ zq : Nat, zq = 1 := ⟨_, rfl⟩
  have Bo : nl o ≤ 1 := by rw [Eo, nl_one]; exact Nat.le_refl _
  refine (Calls.mono (R := RetN W2 o) (by rw [Eo]; with_reducible exact (ione_c _)) ?_)
  replace Eo := Lib.hid Eo
  rintro e W3 ⟨Xo, co, rfl, ho, hb3⟩
  replace ha := ha.below hb3
  replace hb := hb.below hb3
  replace Ra := Ra.below hb3
  replace qa0 := cbl hb3 qa0
  replace qa1 := cbl hb3 qa1
  replace Rb := Rb.below hb3
  replace qb0 := cbl hb3 qb0
  replace qb1 := cbl hb3 qb1
  replace Rr := Rr.below hb3
  replace qr0 := cbl hb3 qr0
  replace qr1 := cbl hb3 qr1
  replace Rs := Rs.below hb3
  replace qs0 := cbl hb3 qs0
  replace qs1 := cbl hb3 qs1
  replace hq := hq.below hb3
  replace hr := hr.below hb3
  replace HBT := Below.cons HBT hb3
  clear hb3
  go_wp2_with (fail)
  obtain ⟨q2, Eq2⟩ : ∃ zq : Nat, zq = q + o := ⟨_, rfl⟩
  have Bq2 : nl q2 ≤ 1048577 := by rw [Eq2]; have := nl_add q o; omega
  refine (Calls.mono (R := RetN W3 q2) (by rw [Eq2]; with_reducible exact (add_c Xq cq q Xo co o _ hq ho (by omega) (by omega))) ?_)
  replace Eq2 := Lib.hid Eq2
  rintro e W4 ⟨Xq2, cq2, rfl, hq2, hb4⟩
  replace ha := ha.below hb4
  replace hb := hb.below hb4
  replace Ra := Ra.below hb4
  replace qa0 := cbl hb4 qa0
  replace qa1 := cbl hb4 qa1
  replace Rb := Rb.below hb4
  replace qb0 := cbl hb4 qb0
  replace qb1 := cbl hb4 qb1
  replace Rr := Rr.below hb4
  replace qr0 := cbl hb4 qr0
  replace qr1 := cbl hb4 qr1
  replace Rs := Rs.below hb4
  replace qs0 := cbl hb4 qs0
  replace qs1 := cbl hb4 qs1
  replace hq := hq.below hb4
  replace hr := hr.below hb4
  replace ho := ho.below hb4
  replace HBT := Below.cons HBT hb4
  clear hb4
  go_wp2_with (fail)
  obtain ⟨r2, Er2⟩ : ∃ zq : Nat, zq = mg b - r := ⟨_, rfl⟩
  have Br2 : nl r2 ≤ 1048576 := by rw [Er2]; have := nl_sub (mg b) r; omega
  have CS := sub_c bA bc (mg b) Xr cr r _ hb hr (by omega) (by omega) hrb
  rw [← Er2] at CS
  replace Er2 := Lib.hid Er2
  refine (Calls.mono CS ?_)
  clear CS
  rintro e W5 ⟨Xr2, cr2, rfl, hr2, hb5⟩
  replace ha := ha.below hb5
  replace hb := hb.below hb5
  replace Ra := Ra.below hb5
  replace qa0 := cbl hb5 qa0
  replace qa1 := cbl hb5 qa1
  replace Rb := Rb.below hb5
  replace qb0 := cbl hb5 qb0
  replace qb1 := cbl hb5 qb1
  replace Rr := Rr.below hb5
  replace qr0 := cbl hb5 qr0
  replace qr1 := cbl hb5 qr1
  replace Rs := Rs.below hb5
  replace qs0 := cbl hb5 qs0
  replace qs1 := cbl hb5 qs1
  replace hq := hq.below hb5
  replace hr := hr.below hb5
  replace ho := ho.below hb5
  replace hq2 := hq2.below hb5
  replace HBT := Below.cons HBT hb5
  clear hb5
  go_wp2_with (fail)
  obtain ⟨x, Ex⟩ : ∃ zq : Int, zq = ival n q2 := ⟨_, rfl⟩
  refine (Calls.mono (R := RetI W5 x) (by rw [Ex]; with_reducible exact (imake_c n Xq2 cq2 q2 _ hq2 (by omega))) ?_)
  replace Ex := Lib.hid Ex
  rintro e W6 ⟨Xx, cx, rfl, hx, hb6⟩
  replace ha := ha.below hb6
  replace hb := hb.below hb6
  replace Ra := Ra.below hb6
  replace qa0 := cbl hb6 qa0
  replace qa1 := cbl hb6 qa1
  replace Rb := Rb.below hb6
  replace qb0 := cbl hb6 qb0
  replace qb1 := cbl hb6 qb1
  replace Rr := Rr.below hb6
  replace qr0 := cbl hb6 qr0
  replace qr1 := cbl hb6 qr1
  replace Rs := Rs.below hb6
  replace qs0 := cbl hb6 qs0
  replace qs1 := cbl hb6 qs1
  replace hq := hq.below hb6
  replace hr := hr.below hb6
  replace ho := ho.below hb6
  replace hq2 := hq2.below hb6
  replace hr2 := hr2.below hb6
  replace HBT := Below.cons HBT hb6
  clear hb6
  go_wp2_with (fail)
  obtain ⟨y, Ey⟩ : ∃ zq : Int, zq = ival false r2 := ⟨_, rfl⟩
  refine (Calls.mono (R := RetI W6 y) (by rw [Ey]; with_reducible exact (imake_c false Xr2 cr2 r2 _ hr2 (by omega))) ?_)
  replace Ey := Lib.hid Ey
  rintro e W7 ⟨Xy, cy, rfl, hy, hb7⟩
  replace ha := ha.below hb7
  replace hb := hb.below hb7
  replace Ra := Ra.below hb7
  replace qa0 := cbl hb7 qa0
  replace qa1 := cbl hb7 qa1
  replace Rb := Rb.below hb7
  replace qb0 := cbl hb7 qb0
  replace qb1 := cbl hb7 qb1
  replace Rr := Rr.below hb7
  replace qr0 := cbl hb7 qr0
  replace qr1 := cbl hb7 qr1
  replace Rs := Rs.below hb7
  replace qs0 := cbl hb7 qs0
  replace qs1 := cbl hb7 qs1
  replace hq := hq.below hb7
  replace hr := hr.below hb7
  replace ho := ho.below hb7
  replace hq2 := hq2.below hb7
  replace hr2 := hr2.below hb7
  replace hx := hx.below hb7
  replace HBT := Below.cons HBT hb7
  clear hb7
  have hzx : x = a / b := by rw [Ex.out, Eq2.out, Eo.out]; exact hv.out.1
  subst hzx
  have hzy : y = a % b := by rw [Ey.out, Er2.out]; exact hv.out.2
  subst hzy
  have fzr0 := Rr.f (i := 0)
  have fzr1 := Rr.f (i := 1)
  have fzs0 := Rs.f (i := 0)
  have fzs1 := Rs.f (i := 1)
  go_wp2_with (fail)
  have RU := Rr.store2 (.bool (sg ((a / b)))) (.slice Xx (nl (mg ((a / b)))) cx)
  have RV := (Rs.other2 (v0 := .bool (sg ((a / b)))) (v1 := .slice Xx (nl (mg ((a / b)))) cx) (show (w.heap.size + 1 + 1 + 1) ≠ (w.heap.size + 1 + 1) by omega)).store2 (.bool (sg ((a % b)))) (.slice Xy (nl (mg ((a % b)))) cy)
  have RU2 := RU.other2 (v0 := .bool (sg ((a % b)))) (v1 := .slice Xy (nl (mg ((a % b)))) cy) (show (w.heap.size + 1 + 1) ≠ (w.heap.size + 1 + 1 + 1) by omega)
  have e0 := RU2.c (i := 0) rfl
  have g0 := RV.c (i := 0) rfl
  have e1 := RU2.c (i := 1) rfl
  have g1 := RV.c (i := 1) rfl
  refine bodyPost_ret (v := .tuple #[.agg #[.bool (sg ((a / b))), .slice Xx (nl (mg ((a / b)))) cx], .agg #[.bool (sg ((a % b))), .slice Xy (nl (mg ((a % b)))) cy], .int .i64 0]) (by simp [results, Tryz.results110, go_sem, e0, e1, g0, g1]) rfl ?_
  exact ⟨Xx, cx, Xy, cy, rfl, ((Rs.other2 (v0 := .bool (sg ((a / b)))) (v1 := .slice Xx (nl (mg ((a / b)))) cx) (show (w.heap.size + 1 + 1 + 1) ≠ (w.heap.size + 1 + 1) by omega)).keep2 (nuB rfl) (Rr.keep2 (nuB rfl) hx)), ((Rs.other2 (v0 := .bool (sg ((a / b)))) (v1 := .slice Xx (nl (mg ((a / b)))) cx) (show (w.heap.size + 1 + 1 + 1) ≠ (w.heap.size + 1 + 1) by omega)).keep2 (nuB rfl) (Rr.keep2 (nuB rfl) hy)), Below.store2 (Below.store2 HBT (by omega)) (by omega)⟩
theorem idiv_c (aA : Option Addr) (ac : Nat) (a : Int) (bA : Option Addr) (bc : Nat) (b : Int) (w : World) (ha : NatV w aA ac (mg a)) (hb : NatV w bA bc (mg b)) (la : nl (mg a) ≤ 1048576) (lb : nl (mg b) ≤ 1048576) (hb0 : b ≠ 0) :
    Calls Tryz.prog 110 #[.agg #[.bool (sg a), .slice aA (nl (mg a)) ac], .agg #[.bool (sg b), .slice bA (nl (mg b)) bc]] w (RetII w (a / b) (a % b)) := by
  by_cases h : 0 ≤ a
  · exact idiv_f aA ac a bA bc b w ha hb la lb hb0 h
  · by_cases h2 : mg a % mg b = 0
    · exact idiv_z aA ac a bA bc b w ha hb la lb hb0 (by omega) h2
    · exact idiv_t aA ac a bA bc b w ha hb la lb hb0 (by omega) h2
end Go.Proofs.YtacjfpibilolnaaGreatDoor
