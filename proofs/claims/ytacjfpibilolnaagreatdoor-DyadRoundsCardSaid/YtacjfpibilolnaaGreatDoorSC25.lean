/- Whole numbers, walked: Exact. -/
import Derived.Test.YtacjfpibilolnaaGreatDoorSC21
import Derived.Test.YtacjfpibilolnaaGreatDoorSC24
import Derived.BigQuiet
import Derived.Deep.QuietTactic
set_option maxRecDepth 100000
set_option maxHeartbeats 4000000
set_option linter.unusedVariables false
set_option linter.unusedSimpArgs false
namespace Go.Proofs.YtacjfpibilolnaaGreatDoor
open Go.RowKit Go.Shelf
attribute [local go_sem] max2_i min2_i max_two min_two

theorem iexact_c (aA : Option Addr) (ac : Nat) (a : Int) (bA : Option Addr) (bc : Nat) (b : Int) (w : World) (ha : NatV w aA ac (mg a)) (hb : NatV w bA bc (mg b)) (la : nl (mg a) ≤ 1048576) (lb : nl (mg b) ≤ 1048576) (hb0 : b ≠ 0) (hd : a % b = 0) :
    Calls Tryz.prog 124 #[.agg #[.bool (sg a), .slice aA (nl (mg a)) ac], .agg #[.bool (sg b), .slice bA (nl (mg b)) bc]] w (RetIb w (a / b)) := by
  replace hd := Lib.hid hd
  obtain ⟨hb1, Ra, Rb, Rr⟩ := bx3 w #[.bool (sg a), .slice aA (nl (mg a)) ac] 24 #[.bool (sg b), .slice bA (nl (mg b)) bc] 24 #[.bool false, .slice none 0 0] 24
  replace ha := ha.below hb1
  replace hb := hb.below hb1
  have HBT := hb1
  clear hb1
  have qa0 := Ra.c (i := 0) rfl
  have qa1 := Ra.c (i := 1) rfl
  have qb0 := Rb.c (i := 0) rfl
  have qb1 := Rb.c (i := 1) rfl
  have qr0 := Rr.c (i := 0) rfl
  have qr1 := Rr.c (i := 1) rfl
  go_enter Tryz.func124, Tryz.ntmps124
  go_wp2_with (fail)
  obtain ⟨q, Eq⟩ : ∃ zq : Int, zq = a / b := ⟨_, rfl⟩
  obtain ⟨m, Em⟩ : ∃ zq : Int, zq = a % b := ⟨_, rfl⟩
  have CT2 := (idiv_c aA ac a bA bc b _ ha hb (by omega) (by omega) hb0)
  rw [← Eq, ← Em] at CT2
  replace Eq := Lib.hid Eq
  replace Em := Lib.hid Em
  replace CT2 := Lib.hid CT2
  refine (Calls.mono CT2.out ?_)
  clear CT2
  rintro e W2 ⟨Xq, cq, Xm, cm, rfl, hq, hm, hb2⟩
  replace ha := ha.below hb2
  replace hb := hb.below hb2
  replace Ra := Ra.below hb2
  replace qa0 := cbl hb2 qa0
  replace qa1 := cbl hb2 qa1
  replace Rb := Rb.below hb2
  replace qb0 := cbl hb2 qb0
  replace qb1 := cbl hb2 qb1
  replace Rr := Rr.below hb2
  replace qr0 := cbl hb2 qr0
  replace qr1 := cbl hb2 qr1
  replace HBT := Below.cons HBT hb2
  clear hb2
  go_wp2_with (fail)
  obtain ⟨hb3, Rq, Rm⟩ := bx2 W2 #[.bool (sg q), .slice Xq (nl (mg q)) cq] 24 #[.bool (sg m), .slice Xm (nl (mg m)) cm] 24
  replace ha := ha.below hb3
  replace hb := hb.below hb3
  replace Ra := Ra.below hb3
  replace qa0 := cbl hb3 qa0
  replace qa1 := cbl hb3 qa1
  replace Rb := Rb.below hb3
  replace qb0 := cbl hb3 qb0
  replace qb1 := cbl hb3 qb1
  replace Rr := Rr.below hb3
  replace qr0 := cbl hb3 qr0
  replace qr1 := cbl hb3 qr1
  replace hq := hq.below hb3
  replace hm := hm.below hb3
  replace HBT := Below.cons HBT hb3
  clear hb3
  have qq0 := Rq.c (i := 0) rfl
  have qq1 := Rq.c (i := 1) rfl
  have qm0 := Rm.c (i := 0) rfl
  have qm1 := Rm.c (i := 1) rfl
  have hsg : m.sign = 0 := by rw [Em.out, hd.out]; rfl
  have CG := isign_c Xm cm m ((W2.alloc (.cells #[.bool (sg q), .slice Xq (nl (mg q)) cq] 24)).alloc (.cells #[.bool (sg m), .slice Xm (nl (mg m)) cm] 24))
  rw [hsg] at CG
  replace hsg := Lib.hid hsg
  refine (Calls.mono (CG) ?_)
  rintro e W4 ⟨rfl, hb4⟩
  replace ha := ha.below hb4
  replace hb := hb.below hb4
  replace Ra := Ra.below hb4
  replace qa0 := cbl hb4 qa0
  replace qa1 := cbl hb4 qa1
  replace Rb := Rb.below hb4
  replace qb0 := cbl hb4 qb0
  replace qb1 := cbl hb4 qb1
  replace Rr := Rr.below hb4
  replace qr0 := cbl hb4 qr0
  replace qr1 := cbl hb4 qr1
  replace hq := hq.below hb4
  replace hm := hm.below hb4
  replace Rq := Rq.below hb4
  replace qq0 := cbl hb4 qq0
  replace qq1 := cbl hb4 qq1
  replace Rm := Rm.below hb4
  replace qm0 := cbl hb4 qm0
  replace qm1 := cbl hb4 qm1
  replace HBT := Below.cons HBT hb4
  clear hb4
  have fzr0 := Rr.f (i := 0)
  have fzr1 := Rr.f (i := 1)
  go_wp2_with (fail)
  have hzq : q = a / b := by exact Eq.out
  subst hzq
  have RS := Rr.store2 (.bool (sg ((a / b)))) (.slice Xq (nl (mg ((a / b)))) cq)
  have e0 := RS.c (i := 0) rfl
  have e1 := RS.c (i := 1) rfl
  refine bodyPost_ret (v := .tuple #[.agg #[.bool (sg ((a / b))), .slice Xq (nl (mg ((a / b)))) cq], .bool true]) (by simp [results, Tryz.results124, go_sem, e0, e1]) rfl ?_
  exact ⟨Xq, cq, rfl, Rr.keep2 (nuB rfl) hq, Below.store2 HBT (by omega)⟩
theorem shf_nn {a n : Int} (ha : 0 ≤ a) (hn : 0 ≤ n) : ival false (mg a * 2 ^ n.toNat) = shf a n := by
  unfold shf; rw [if_pos hn]
  have : (mg a : Int) = a := by unfold mg; omega
  rw [ival_false, Int.natCast_mul, this, Int.natCast_pow]; rfl
theorem shf_bn {a n : Int} (ha : a < 0) (hn : 0 ≤ n) : ival true (mg a * 2 ^ n.toNat) = shf a n := by
  unfold shf ival; rw [if_pos hn, if_pos rfl]
  have : (mg a : Int) = -a := by unfold mg; omega
  rw [Int.natCast_mul, this, Int.natCast_pow, Int.neg_mul, Int.neg_neg]; rfl
theorem shf_nb {a n : Int} (k : Nat) (ha : 0 ≤ a) (hk : n = -(k : Int)) (h0 : 0 < k) : ival false (mg a / 2 ^ k) = shf a n := by
  unfold shf; rw [if_neg (by omega)]
  have : (mg a : Int) = a := by unfold mg; omega
  rw [ival_false, Int.natCast_ediv, this, hk, Int.neg_neg, Int.toNat_natCast, Int.natCast_pow]; rfl
theorem shf_b0 {a n : Int} (k : Nat) (ha : a < 0) (hk : n = -(k : Int)) (h0 : 0 < k) (h : mg a / 2 ^ k * 2 ^ k = mg a) : ival true (mg a / 2 ^ k) = shf a n := by
  unfold shf ival; rw [if_pos rfl, if_neg (by omega)]
  have h1 : ((mg a / 2 ^ k : Nat) : Int) * ((2 ^ k : Nat) : Int) = (mg a : Int) := by rw [← Int.natCast_mul, h]
  have h2 : (mg a : Int) = -a := by unfold mg; omega
  have hp : (0 : Int) < ((2 ^ k : Nat) : Int) := by have := Nat.two_pow_pos k; omega
  rw [hk, Int.neg_neg, Int.toNat_natCast]
  have e : (2 : Int) ^ k = ((2 ^ k : Nat) : Int) := by rw [Int.natCast_pow]; rfl
  rw [e]
  refine (ediv_uniq (by omega) (q := -((mg a / 2 ^ k : Nat) : Int)) (r := 0) ?_ (Int.le_refl _) (by omega)).1.symm
  rw [Int.neg_mul, h1]; omega
theorem shf_b1 {a n : Int} (k : Nat) (ha : a < 0) (hk : n = -(k : Int)) (h0 : 0 < k) (h : mg a / 2 ^ k * 2 ^ k ≠ mg a) : ival true (mg a / 2 ^ k + 1) = shf a n := by
  unfold shf ival; rw [if_pos rfl, if_neg (by omega)]
  have h0' := Nat.div_add_mod (mg a) (2 ^ k)
  have hlt := Nat.mod_lt (mg a) (Nat.two_pow_pos k)
  have h1 : ((2 ^ k : Nat) : Int) * ((mg a / 2 ^ k : Nat) : Int) + ((mg a % 2 ^ k : Nat) : Int) = (mg a : Int) := by rw [← Int.natCast_mul, ← Int.natCast_add, h0']
  have h3 : mg a % 2 ^ k ≠ 0 := fun e => h (by rw [e, Nat.add_zero, Nat.mul_comm] at h0'; exact h0')
  have h2 : (mg a : Int) = -a := by unfold mg; omega
  rw [hk, Int.neg_neg, Int.toNat_natCast]
  have e : (2 : Int) ^ k = ((2 ^ k : Nat) : Int) := by rw [Int.natCast_pow]; rfl
  rw [e]
  generalize mg a / 2 ^ k = q at *
  generalize mg a % 2 ^ k = r at *
  generalize 2 ^ k = P at *
  refine (ediv_uniq (by omega) (q := -((q + 1 : Nat) : Int)) (r := (P : Int) - r) ?_ (by omega) (by omega)).1.symm
  rw [Int.natCast_add, Int.neg_mul, Int.add_mul, Int.mul_comm (q : Int) (P : Int)]
  omega
theorem ishift_fu (aA : Option Addr) (ac : Nat) (a : Int) (n : Int) (w : World) (ha : NatV w aA ac (mg a))  (la : nl (mg a) ≤ 1048576) (ln : -16777216 ≤ n ∧ n ≤ 16777216) (h1 : 0 ≤ a) (h2 : 0 ≤ n) :
    Calls Tryz.prog 63 #[.agg #[.bool (sg a), .slice aA (nl (mg a)) ac], .int .i64 n] w (RetI w (shf a n)) := by
  have ta : sg a = false := sg_f h1
  have t1 : decide (n < 0) = false := by simp; omega
  obtain ⟨k, hk⟩ := Int.eq_ofNat_of_zero_le h2
  have lk : k ≤ 16777216 := by omega
  obtain ⟨hb1, Ra, Rr⟩ := bx2 w #[.bool false, .slice aA (nl (mg a)) ac] 24 #[.bool false, .slice none 0 0] 24
  replace ha := ha.below hb1
  have HBT := hb1
  clear hb1
  have qa0 := Ra.c (i := 0) rfl
  have qa1 := Ra.c (i := 1) rfl
  have qr0 := Rr.c (i := 0) rfl
  have qr1 := Rr.c (i := 1) rfl
  subst hk
  go_enter Tryz.func63, Tryz.ntmps63
  go_wp2_with (fail)
  obtain ⟨o, Eo⟩ : ∃ zq : Nat, zq = mg a * 2 ^ k := ⟨_, rfl⟩
  have Bo : nl o ≤ 2097152 := by rw [Eo]; have := nl_shl (mg a) k; omega
  refine (Calls.mono (R := RetN ((w.alloc (.cells #[.bool false, .slice aA (nl (mg a)) ac] 24)).alloc (.cells #[.bool false, .slice none 0 0] 24)) o) (by rw [Eo]; with_reducible exact (shl_e aA ac (mg a) (k : Int) k _ ha (by omega) rfl (by omega))) ?_)
  replace Eo := Lib.hid Eo
  rintro e W2 ⟨Xo, co, rfl, ho, hb2⟩
  replace ha := ha.below hb2
  replace Ra := Ra.below hb2
  replace qa0 := cbl hb2 qa0
  replace qa1 := cbl hb2 qa1
  replace Rr := Rr.below hb2
  replace qr0 := cbl hb2 qr0
  replace qr1 := cbl hb2 qr1
  replace HBT := Below.cons HBT hb2
  clear hb2
  go_wp2_with (fail)
  go_quiet (fail)
  have hb3 : Below (W2).heap.size (W2) ((W2).drewN nq) := below_drewN (Below.refl _ _) nq
  replace ha := ha.below hb3
  replace Ra := Ra.below hb3
  replace qa0 := cbl hb3 qa0
  replace qa1 := cbl hb3 qa1
  replace Rr := Rr.below hb3
  replace qr0 := cbl hb3 qr0
  replace qr1 := cbl hb3 qr1
  replace ho := ho.below hb3
  replace HBT := Below.cons HBT hb3
  clear hb3
  go_wp2_with (fail)
  obtain ⟨z, Ez⟩ : ∃ zq : Int, zq = ival false o := ⟨_, rfl⟩
  refine (Calls.mono (R := RetI ((W2).drewN nq) z) (by rw [Ez]; with_reducible exact (imake_c false Xo co o _ ho (by omega))) ?_)
  replace Ez := Lib.hid Ez
  rintro e W4 ⟨Xz, cz, rfl, hz, hb4⟩
  replace ha := ha.below hb4
  replace Ra := Ra.below hb4
  replace qa0 := cbl hb4 qa0
  replace qa1 := cbl hb4 qa1
  replace Rr := Rr.below hb4
  replace qr0 := cbl hb4 qr0
  replace qr1 := cbl hb4 qr1
  replace ho := ho.below hb4
  replace HBT := Below.cons HBT hb4
  clear hb4
  have fzr0 := Rr.f (i := 0)
  have fzr1 := Rr.f (i := 1)
  go_wp2_with (fail)
  have hzz : z = shf a (k : Int) := by rw [Ez.out, Eo.out]; have := shf_nn h1 h2; rwa [Int.toNat_natCast] at this
  subst hzz
  have RS := Rr.store2 (.bool (sg ((shf a (k : Int))))) (.slice Xz (nl (mg ((shf a (k : Int))))) cz)
  have e0 := RS.c (i := 0) rfl
  have e1 := RS.c (i := 1) rfl
  refine bodyPost_ret (v := .agg #[.bool (sg ((shf a (k : Int)))), .slice Xz (nl (mg ((shf a (k : Int))))) cz]) (by simp [results, Tryz.results63, go_sem, e0, e1]) rfl ?_
  exact ⟨Xz, cz, rfl, (Rr.keep2 (nuB rfl) hz), (Below.store2 HBT (by first | exact Nat.le_refl _ | omega))⟩
theorem ishift_fd (aA : Option Addr) (ac : Nat) (a : Int) (n : Int) (w : World) (ha : NatV w aA ac (mg a))  (la : nl (mg a) ≤ 1048576) (ln : -16777216 ≤ n ∧ n ≤ 16777216) (h1 : 0 ≤ a) (h2 : n < 0) :
    Calls Tryz.prog 63 #[.agg #[.bool (sg a), .slice aA (nl (mg a)) ac], .int .i64 n] w (RetI w (shf a n)) := by
  have ta : sg a = false := sg_f h1
  have t1 : decide (n < 0) = true := by simp; omega
  obtain ⟨k, hk⟩ := Int.eq_ofNat_of_zero_le (show 0 ≤ -n by omega)
  have hk0 : 0 < k := by omega
  have hk2 : n = -(k : Int) := by omega
  have lk : k ≤ 16777216 := by omega
  obtain ⟨hb1, Ra, Rr⟩ := bx2 w #[.bool false, .slice aA (nl (mg a)) ac] 24 #[.bool false, .slice none 0 0] 24
  replace ha := ha.below hb1
  have HBT := hb1
  clear hb1
  have qa0 := Ra.c (i := 0) rfl
  have qa1 := Ra.c (i := 1) rfl
  have qr0 := Rr.c (i := 0) rfl
  have qr1 := Rr.c (i := 1) rfl
  have In : -n = (k : Int) := hk
  replace hk2 := Lib.hid hk2
  replace hk := Lib.hid hk
  go_enter Tryz.func63, Tryz.ntmps63
  go_wp2_with (fail)
  obtain ⟨o, Eo⟩ : ∃ zq : Nat, zq = mg a / 2 ^ k := ⟨_, rfl⟩
  have Bo : nl o ≤ 1048576 := by rw [Eo]; have := nl_div (mg a) (2 ^ k); omega
  refine (Calls.mono (R := RetN ((w.alloc (.cells #[.bool false, .slice aA (nl (mg a)) ac] 24)).alloc (.cells #[.bool false, .slice none 0 0] 24)) o) (by rw [Eo]; with_reducible exact (shr_e aA ac (mg a) (k : Int) k _ ha (by omega) rfl (by omega))) ?_)
  replace Eo := Lib.hid Eo
  rintro e W2 ⟨Xo, co, rfl, ho, hb2⟩
  replace ha := ha.below hb2
  replace Ra := Ra.below hb2
  replace qa0 := cbl hb2 qa0
  replace qa1 := cbl hb2 qa1
  replace Rr := Rr.below hb2
  replace qr0 := cbl hb2 qr0
  replace qr1 := cbl hb2 qr1
  replace HBT := Below.cons HBT hb2
  clear hb2
  go_wp2_with (fail)
  go_quiet (fail)
  have hb3 : Below (W2).heap.size (W2) ((W2).drewN nq) := below_drewN (Below.refl _ _) nq
  replace ha := ha.below hb3
  replace Ra := Ra.below hb3
  replace qa0 := cbl hb3 qa0
  replace qa1 := cbl hb3 qa1
  replace Rr := Rr.below hb3
  replace qr0 := cbl hb3 qr0
  replace qr1 := cbl hb3 qr1
  replace ho := ho.below hb3
  replace HBT := Below.cons HBT hb3
  clear hb3
  go_wp2_with (fail)
  obtain ⟨z, Ez⟩ : ∃ zq : Int, zq = ival false o := ⟨_, rfl⟩
  refine (Calls.mono (R := RetI ((W2).drewN nq) z) (by rw [Ez]; with_reducible exact (imake_c false Xo co o _ ho (by omega))) ?_)
  replace Ez := Lib.hid Ez
  rintro e W4 ⟨Xz, cz, rfl, hz, hb4⟩
  replace ha := ha.below hb4
  replace Ra := Ra.below hb4
  replace qa0 := cbl hb4 qa0
  replace qa1 := cbl hb4 qa1
  replace Rr := Rr.below hb4
  replace qr0 := cbl hb4 qr0
  replace qr1 := cbl hb4 qr1
  replace ho := ho.below hb4
  replace HBT := Below.cons HBT hb4
  clear hb4
  have fzr0 := Rr.f (i := 0)
  have fzr1 := Rr.f (i := 1)
  go_wp2_with (fail)
  have hzz : z = shf a n := by rw [Ez.out, Eo.out]; exact shf_nb k h1 hk2.out hk0
  subst hzz
  have RS := Rr.store2 (.bool (sg ((shf a n)))) (.slice Xz (nl (mg ((shf a n)))) cz)
  have e0 := RS.c (i := 0) rfl
  have e1 := RS.c (i := 1) rfl
  refine bodyPost_ret (v := .agg #[.bool (sg ((shf a n))), .slice Xz (nl (mg ((shf a n)))) cz]) (by simp [results, Tryz.results63, go_sem, e0, e1]) rfl ?_
  exact ⟨Xz, cz, rfl, (Rr.keep2 (nuB rfl) hz), (Below.store2 HBT (by first | exact Nat.le_refl _ | omega))⟩
theorem ishift_tu (aA : Option Addr) (ac : Nat) (a : Int) (n : Int) (w : World) (ha : NatV w aA ac (mg a))  (la : nl (mg a) ≤ 1048576) (ln : -16777216 ≤ n ∧ n ≤ 16777216) (h1 : a < 0) (h2 : 0 ≤ n) :
    Calls Tryz.prog 63 #[.agg #[.bool (sg a), .slice aA (nl (mg a)) ac], .int .i64 n] w (RetI w (shf a n)) := by
  have ta : sg a = true := sg_t h1
  have t1 : decide (n < 0) = false := by simp; omega
  obtain ⟨k, hk⟩ := Int.eq_ofNat_of_zero_le h2
  have lk : k ≤ 16777216 := by omega
  obtain ⟨hb1, Ra, Rr⟩ := bx2 w #[.bool true, .slice aA (nl (mg a)) ac] 24 #[.bool false, .slice none 0 0] 24
  replace ha := ha.below hb1
  have HBT := hb1
  clear hb1
  have qa0 := Ra.c (i := 0) rfl
  have qa1 := Ra.c (i := 1) rfl
  have qr0 := Rr.c (i := 0) rfl
  have qr1 := Rr.c (i := 1) rfl
  subst hk
  go_enter Tryz.func63, Tryz.ntmps63
  go_wp2_with (fail)
  obtain ⟨o, Eo⟩ : ∃ zq : Nat, zq = mg a * 2 ^ k := ⟨_, rfl⟩
  have Bo : nl o ≤ 2097152 := by rw [Eo]; have := nl_shl (mg a) k; omega
  refine (Calls.mono (R := RetN ((w.alloc (.cells #[.bool true, .slice aA (nl (mg a)) ac] 24)).alloc (.cells #[.bool false, .slice none 0 0] 24)) o) (by rw [Eo]; with_reducible exact (shl_e aA ac (mg a) (k : Int) k _ ha (by omega) rfl (by omega))) ?_)
  replace Eo := Lib.hid Eo
  rintro e W2 ⟨Xo, co, rfl, ho, hb2⟩
  replace ha := ha.below hb2
  replace Ra := Ra.below hb2
  replace qa0 := cbl hb2 qa0
  replace qa1 := cbl hb2 qa1
  replace Rr := Rr.below hb2
  replace qr0 := cbl hb2 qr0
  replace qr1 := cbl hb2 qr1
  replace HBT := Below.cons HBT hb2
  clear hb2
  go_wp2_with (fail)
  have hle : mg a ≤ o := by rw [Eo.out]; exact Nat.le_mul_of_pos_right _ (Nat.two_pow_pos k)
  have t2 : decide (cmpN o (mg a) < 0) = false := by rw [decide_eq_false_iff_not, cmpN_neg]; omega
  replace hle := Lib.hid hle
  go_quiet ((go_at_call 106; exact Calls.quiet_of (cmp_q Xo co o aA ac (mg a) _ (ho.below (below_drewN (Below.refl _ _) _)) (ha.below (below_drewN (Below.refl _ _) _)) (by omega) (by omega))))
  have hb3 : Below (W2).heap.size (W2) ((W2).drewN nq) := below_drewN (Below.refl _ _) nq
  replace ha := ha.below hb3
  replace Ra := Ra.below hb3
  replace qa0 := cbl hb3 qa0
  replace qa1 := cbl hb3 qa1
  replace Rr := Rr.below hb3
  replace qr0 := cbl hb3 qr0
  replace qr1 := cbl hb3 qr1
  replace ho := ho.below hb3
  replace HBT := Below.cons HBT hb3
  clear hb3
  go_wp2_with (fail)
  obtain ⟨z, Ez⟩ : ∃ zq : Int, zq = ival true o := ⟨_, rfl⟩
  refine (Calls.mono (R := RetI ((W2).drewN nq) z) (by rw [Ez]; with_reducible exact (imake_c true Xo co o _ ho (by omega))) ?_)
  replace Ez := Lib.hid Ez
  rintro e W4 ⟨Xz, cz, rfl, hz, hb4⟩
  replace ha := ha.below hb4
  replace Ra := Ra.below hb4
  replace qa0 := cbl hb4 qa0
  replace qa1 := cbl hb4 qa1
  replace Rr := Rr.below hb4
  replace qr0 := cbl hb4 qr0
  replace qr1 := cbl hb4 qr1
  replace ho := ho.below hb4
  replace HBT := Below.cons HBT hb4
  clear hb4
  have fzr0 := Rr.f (i := 0)
  have fzr1 := Rr.f (i := 1)
  go_wp2_with (fail)
  have hzz : z = shf a (k : Int) := by rw [Ez.out, Eo.out]; have := shf_bn h1 h2; rwa [Int.toNat_natCast] at this
  subst hzz
  have RS := Rr.store2 (.bool (sg ((shf a (k : Int))))) (.slice Xz (nl (mg ((shf a (k : Int))))) cz)
  have e0 := RS.c (i := 0) rfl
  have e1 := RS.c (i := 1) rfl
  refine bodyPost_ret (v := .agg #[.bool (sg ((shf a (k : Int)))), .slice Xz (nl (mg ((shf a (k : Int))))) cz]) (by simp [results, Tryz.results63, go_sem, e0, e1]) rfl ?_
  exact ⟨Xz, cz, rfl, (Rr.keep2 (nuB rfl) hz), (Below.store2 HBT (by first | exact Nat.le_refl _ | omega))⟩
theorem ishift_td (aA : Option Addr) (ac : Nat) (a : Int) (n : Int) (w : World) (ha : NatV w aA ac (mg a))  (la : nl (mg a) ≤ 1048576) (ln : -16777216 ≤ n ∧ n ≤ 16777216) (h1 : a < 0) (h2 : n < 0) :
    Calls Tryz.prog 63 #[.agg #[.bool (sg a), .slice aA (nl (mg a)) ac], .int .i64 n] w (RetI w (shf a n)) := by
  have ta : sg a = true := sg_t h1
  have t1 : decide (n < 0) = true := by simp; omega
  obtain ⟨k, hk⟩ := Int.eq_ofNat_of_zero_le (show 0 ≤ -n by omega)
  have hk0 : 0 < k := by omega
  have hk2 : n = -(k : Int) := by omega
  have lk : k ≤ 16777216 := by omega
  obtain ⟨hb1, Ra, Rr⟩ := bx2 w #[.bool true, .slice aA (nl (mg a)) ac] 24 #[.bool false, .slice none 0 0] 24
  replace ha := ha.below hb1
  have HBT := hb1
  clear hb1
  have qa0 := Ra.c (i := 0) rfl
  have qa1 := Ra.c (i := 1) rfl
  have qr0 := Rr.c (i := 0) rfl
  have qr1 := Rr.c (i := 1) rfl
  have In : -n = (k : Int) := hk
  replace hk2 := Lib.hid hk2
  replace hk := Lib.hid hk
  go_enter Tryz.func63, Tryz.ntmps63
  go_wp2_with (fail)
  obtain ⟨o, Eo⟩ : ∃ zq : Nat, zq = mg a / 2 ^ k := ⟨_, rfl⟩
  have Bo : nl o ≤ 1048576 := by rw [Eo]; have := nl_div (mg a) (2 ^ k); omega
  refine (Calls.mono (R := RetN ((w.alloc (.cells #[.bool true, .slice aA (nl (mg a)) ac] 24)).alloc (.cells #[.bool false, .slice none 0 0] 24)) o) (by rw [Eo]; with_reducible exact (shr_e aA ac (mg a) (k : Int) k _ ha (by omega) rfl (by omega))) ?_)
  replace Eo := Lib.hid Eo
  rintro e W2 ⟨Xo, co, rfl, ho, hb2⟩
  replace ha := ha.below hb2
  replace Ra := Ra.below hb2
  replace qa0 := cbl hb2 qa0
  replace qa1 := cbl hb2 qa1
  replace Rr := Rr.below hb2
  replace qr0 := cbl hb2 qr0
  replace qr1 := cbl hb2 qr1
  replace HBT := Below.cons HBT hb2
  clear hb2
  go_wp2_with (fail)
  have hlt : o < mg a := by rw [Eo.out]; exact Nat.div_lt_self (mg_pos.2 (by omega)) (Nat.one_lt_two_pow (by omega))
  have t2 : decide (cmpN o (mg a) < 0) = true := by rw [decide_eq_true_eq, cmpN_neg]; exact hlt
  replace hlt := Lib.hid hlt
  by_cases hx : mg a / 2 ^ k * 2 ^ k = mg a
  · have t3 : (cmpN (o * 2 ^ k) (mg a) != 0) = false := by rw [bne_eq_false_iff_eq, cmpN_zero, Eo.out]; exact hx
    replace hx := Lib.hid hx
    have hd3 := drb (W2)
    replace ha := ha.below hd3
    replace Ra := Ra.below hd3
    replace qa0 := cbl hd3 qa0
    replace qa1 := cbl hd3 qa1
    replace Rr := Rr.below hd3
    replace qr0 := cbl hd3 qr0
    replace qr1 := cbl hd3 qr1
    replace ho := ho.below hd3
    replace HBT := Below.cons HBT hd3
    clear hd3
    have C3_0 := fun (W : World) (X : Option Addr) (x : Nat) (g : NatV W X x o) (h1 : NatV W aA ac (mg a)) => cmp_c X x o aA ac (mg a) W g h1 (by omega) (by omega)
    replace C3_0 := Lib.hid C3_0
    obtain ⟨p2, Ep2⟩ : ∃ zq : Nat, zq = o * 2 ^ k := ⟨_, rfl⟩
    have Bp2 : nl p2 ≤ 1048576 := by rw [Ep2, Eo.out]; exact Nat.le_trans (nl_mono (Nat.div_mul_le_self _ _)) (by omega)
    rw [← Ep2] at t3
    have C3_1 := fun (W : World) (X : Option Addr) (x : Nat) (g : NatV W X x o) => shl_e X x o (k : Int) k W g (by omega) rfl (by omega)
    simp only [← Ep2] at C3_1
    replace Ep2 := Lib.hid Ep2
    replace C3_1 := Lib.hid C3_1
    have C3_2 := fun (W : World) (X : Option Addr) (x : Nat) (g : NatV W X x p2) (h1 : NatV W aA ac (mg a)) => cmp_c X x p2 aA ac (mg a) W g h1 (by omega) (by omega)
    replace C3_2 := Lib.hid C3_2
    go_region_held3 (fun W => W.cell? ⟨w.heap.size, 0, none⟩ = some (.bool true) ∧ W.cell? ⟨w.heap.size, 1, none⟩ = some (.slice aA (nl (mg a)) ac))
      (first
        | exact ⟨qa0, qa1⟩
        | exact ⟨qa0_4, qa1_4⟩
        | exact ⟨qa0_5, qa1_5⟩
        | exact ⟨qa0_6, qa1_6⟩
        | go_keep)
      (first
        | (go_at_call 106; (with_reducible refine (C3_0.out _ _ _ ho ha).mono ?_); rintro e W4 ⟨rfl, hb4⟩; have ha_4 := ha.below hb4; have Ra_4 := Ra.below hb4; have qa0_4 := cbl hb4 qa0; have qa1_4 := cbl hb4 qa1; have Rr_4 := Rr.below hb4; have qr0_4 := cbl hb4 qr0; have qr1_4 := cbl hb4 qr1; have ho_4 := ho.below hb4; have HBT_4 := Below.cons HBT hb4)
        | (go_at_call 104; (with_reducible refine (C3_1.out _ _ _ ho_4).mono ?_); rintro e W5 ⟨Xp2, cp2, rfl, hp2, hb5⟩; have ha_5 := ha_4.below hb5; have Ra_5 := Ra_4.below hb5; have qa0_5 := cbl hb5 qa0_4; have qa1_5 := cbl hb5 qa1_4; have Rr_5 := Rr_4.below hb5; have qr0_5 := cbl hb5 qr0_4; have qr1_5 := cbl hb5 qr1_4; have ho_5 := ho_4.below hb5; have HBT_5 := Below.cons HBT_4 hb5)
        | (go_at_call 106; (with_reducible refine (C3_2.out _ _ _ hp2 ha_5).mono ?_); rintro e W6 ⟨rfl, hb6⟩; have ha_6 := ha_5.below hb6; have Ra_6 := Ra_5.below hb6; have qa0_6 := cbl hb6 qa0_5; have qa1_6 := cbl hb6 qa1_5; have Rr_6 := Rr_5.below hb6; have qr0_6 := cbl hb6 qr0_5; have qr1_6 := cbl hb6 qr1_5; have ho_6 := ho_5.below hb6; have hp2_6 := hp2.below hb6; have HBT_6 := Below.cons HBT_5 hb6))
    all_goals (try go_wp2_with (fail))
    obtain ⟨z, Ez⟩ : ∃ zq : Int, zq = ival true o := ⟨_, rfl⟩
    refine (Calls.mono (R := RetI W6 z) (by rw [Ez]; with_reducible exact (imake_c true Xo co o _ ho_6 (by omega))) ?_)
    replace Ez := Lib.hid Ez
    rintro e W7 ⟨Xz, cz, rfl, hz, hb7⟩
    replace ha_6 := ha_6.below hb7
    replace Ra_6 := Ra_6.below hb7
    replace qa0_6 := cbl hb7 qa0_6
    replace qa1_6 := cbl hb7 qa1_6
    replace Rr_6 := Rr_6.below hb7
    replace qr0_6 := cbl hb7 qr0_6
    replace qr1_6 := cbl hb7 qr1_6
    replace ho_6 := ho_6.below hb7
    replace hp2_6 := hp2_6.below hb7
    have HBT := Below.cons HBT_6 hb7
    clear hb7
    have fzr0 := Rr_6.f (i := 0)
    have fzr1 := Rr_6.f (i := 1)
    go_wp2_with (fail)
    have hzz : z = shf a n := by rw [Ez.out, Eo.out]; exact shf_b0 k h1 hk2.out hk0 hx.out
    subst hzz
    have RS := Rr_6.store2 (.bool (sg ((shf a n)))) (.slice Xz (nl (mg ((shf a n)))) cz)
    have e0 := RS.c (i := 0) rfl
    have e1 := RS.c (i := 1) rfl
    refine bodyPost_ret (v := .agg #[.bool (sg ((shf a n))), .slice Xz (nl (mg ((shf a n)))) cz]) (by simp [results, Tryz.results63, go_sem, e0, e1]) rfl ?_
    exact ⟨Xz, cz, rfl, (Rr_6.keep2 (nuB rfl) hz), (Below.store2 HBT (by first | exact Nat.le_refl _ | omega))⟩
  · have t3 : (cmpN (o * 2 ^ k) (mg a) != 0) = true := by rw [bne_iff_ne, ne_eq, cmpN_zero, Eo.out]; exact hx
    replace hx := Lib.hid hx
    have hd3 := drb (W2)
    replace ha := ha.below hd3
    replace Ra := Ra.below hd3
    replace qa0 := cbl hd3 qa0
    replace qa1 := cbl hd3 qa1
    replace Rr := Rr.below hd3
    replace qr0 := cbl hd3 qr0
    replace qr1 := cbl hd3 qr1
    replace ho := ho.below hd3
    replace HBT := Below.cons HBT hd3
    clear hd3
    have C3_0 := fun (W : World) (X : Option Addr) (x : Nat) (g : NatV W X x o) (h1 : NatV W aA ac (mg a)) => cmp_c X x o aA ac (mg a) W g h1 (by omega) (by omega)
    replace C3_0 := Lib.hid C3_0
    obtain ⟨p2, Ep2⟩ : ∃ zq : Nat, zq = o * 2 ^ k := ⟨_, rfl⟩
    have Bp2 : nl p2 ≤ 1048576 := by rw [Ep2, Eo.out]; exact Nat.le_trans (nl_mono (Nat.div_mul_le_self _ _)) (by omega)
    rw [← Ep2] at t3
    have C3_1 := fun (W : World) (X : Option Addr) (x : Nat) (g : NatV W X x o) => shl_e X x o (k : Int) k W g (by omega) rfl (by omega)
    simp only [← Ep2] at C3_1
    replace Ep2 := Lib.hid Ep2
    replace C3_1 := Lib.hid C3_1
    have C3_2 := fun (W : World) (X : Option Addr) (x : Nat) (g : NatV W X x p2) (h1 : NatV W aA ac (mg a)) => cmp_c X x p2 aA ac (mg a) W g h1 (by omega) (by omega)
    replace C3_2 := Lib.hid C3_2
    go_region_held3 (fun W => W.cell? ⟨w.heap.size, 0, none⟩ = some (.bool true) ∧ W.cell? ⟨w.heap.size, 1, none⟩ = some (.slice aA (nl (mg a)) ac))
      (first
        | exact ⟨qa0, qa1⟩
        | exact ⟨qa0_4, qa1_4⟩
        | exact ⟨qa0_5, qa1_5⟩
        | exact ⟨qa0_6, qa1_6⟩
        | go_keep)
      (first
        | (go_at_call 106; (with_reducible refine (C3_0.out _ _ _ ho ha).mono ?_); rintro e W4 ⟨rfl, hb4⟩; have ha_4 := ha.below hb4; have Ra_4 := Ra.below hb4; have qa0_4 := cbl hb4 qa0; have qa1_4 := cbl hb4 qa1; have Rr_4 := Rr.below hb4; have qr0_4 := cbl hb4 qr0; have qr1_4 := cbl hb4 qr1; have ho_4 := ho.below hb4; have HBT_4 := Below.cons HBT hb4)
        | (go_at_call 104; (with_reducible refine (C3_1.out _ _ _ ho_4).mono ?_); rintro e W5 ⟨Xp2, cp2, rfl, hp2, hb5⟩; have ha_5 := ha_4.below hb5; have Ra_5 := Ra_4.below hb5; have qa0_5 := cbl hb5 qa0_4; have qa1_5 := cbl hb5 qa1_4; have Rr_5 := Rr_4.below hb5; have qr0_5 := cbl hb5 qr0_4; have qr1_5 := cbl hb5 qr1_4; have ho_5 := ho_4.below hb5; have HBT_5 := Below.cons HBT_4 hb5)
        | (go_at_call 106; (with_reducible refine (C3_2.out _ _ _ hp2 ha_5).mono ?_); rintro e W6 ⟨rfl, hb6⟩; have ha_6 := ha_5.below hb6; have Ra_6 := Ra_5.below hb6; have qa0_6 := cbl hb6 qa0_5; have qa1_6 := cbl hb6 qa1_5; have Rr_6 := Rr_5.below hb6; have qr0_6 := cbl hb6 qr0_5; have qr1_6 := cbl hb6 qr1_5; have ho_6 := ho_5.below hb6; have hp2_6 := hp2.below hb6; have HBT_6 := Below.cons HBT_5 hb6))
    all_goals (try go_wp2_with (fail))
    obtain ⟨u, Eu⟩ : ∃ zq : Nat, zq = 1 := ⟨_, rfl⟩
    have Bu : nl u ≤ 1 := by rw [Eu, nl_one]; exact Nat.le_refl _
    refine (Calls.mono (R := RetN W6 u) (by rw [Eu]; with_reducible exact (ione_c _)) ?_)
    replace Eu := Lib.hid Eu
    rintro e W7 ⟨Xu, cu, rfl, hu, hb7⟩
    replace ha_6 := ha_6.below hb7
    replace Ra_6 := Ra_6.below hb7
    replace qa0_6 := cbl hb7 qa0_6
    replace qa1_6 := cbl hb7 qa1_6
    replace Rr_6 := Rr_6.below hb7
    replace qr0_6 := cbl hb7 qr0_6
    replace qr1_6 := cbl hb7 qr1_6
    replace ho_6 := ho_6.below hb7
    replace hp2_6 := hp2_6.below hb7
    have HBT := Below.cons HBT_6 hb7
    clear hb7
    go_wp2_with (fail)
    obtain ⟨o2, Eo2⟩ : ∃ zq : Nat, zq = o + u := ⟨_, rfl⟩
    have Bo2 : nl o2 ≤ 1048577 := by rw [Eo2]; have := nl_add o u; omega
    refine (Calls.mono (R := RetN W7 o2) (by rw [Eo2]; with_reducible exact (add_c Xo co o Xu cu u _ ho_6 hu (by omega) (by omega))) ?_)
    replace Eo2 := Lib.hid Eo2
    rintro e W8 ⟨Xo2, co2, rfl, ho2, hb8⟩
    replace ha_6 := ha_6.below hb8
    replace Ra_6 := Ra_6.below hb8
    replace qa0_6 := cbl hb8 qa0_6
    replace qa1_6 := cbl hb8 qa1_6
    replace Rr_6 := Rr_6.below hb8
    replace qr0_6 := cbl hb8 qr0_6
    replace qr1_6 := cbl hb8 qr1_6
    replace ho_6 := ho_6.below hb8
    replace hp2_6 := hp2_6.below hb8
    replace hu := hu.below hb8
    replace HBT := Below.cons HBT hb8
    clear hb8
    go_wp2_with (fail)
    obtain ⟨z, Ez⟩ : ∃ zq : Int, zq = ival true o2 := ⟨_, rfl⟩
    refine (Calls.mono (R := RetI W8 z) (by rw [Ez]; with_reducible exact (imake_c true Xo2 co2 o2 _ ho2 (by omega))) ?_)
    replace Ez := Lib.hid Ez
    rintro e W9 ⟨Xz, cz, rfl, hz, hb9⟩
    replace ha_6 := ha_6.below hb9
    replace Ra_6 := Ra_6.below hb9
    replace qa0_6 := cbl hb9 qa0_6
    replace qa1_6 := cbl hb9 qa1_6
    replace Rr_6 := Rr_6.below hb9
    replace qr0_6 := cbl hb9 qr0_6
    replace qr1_6 := cbl hb9 qr1_6
    replace ho_6 := ho_6.below hb9
    replace hp2_6 := hp2_6.below hb9
    replace hu := hu.below hb9
    replace ho2 := ho2.below hb9
    replace HBT := Below.cons HBT hb9
    clear hb9
    have fzr0 := Rr_6.f (i := 0)
    have fzr1 := Rr_6.f (i := 1)
    go_wp2_with (fail)
    have hzz : z = shf a n := by rw [Ez.out, Eo2.out, Eu.out, Eo.out]; exact shf_b1 k h1 hk2.out hk0 hx.out
    subst hzz
    have RS := Rr_6.store2 (.bool (sg ((shf a n)))) (.slice Xz (nl (mg ((shf a n)))) cz)
    have e0 := RS.c (i := 0) rfl
    have e1 := RS.c (i := 1) rfl
    refine bodyPost_ret (v := .agg #[.bool (sg ((shf a n))), .slice Xz (nl (mg ((shf a n)))) cz]) (by simp [results, Tryz.results63, go_sem, e0, e1]) rfl ?_
    exact ⟨Xz, cz, rfl, (Rr_6.keep2 (nuB rfl) hz), (Below.store2 HBT (by first | exact Nat.le_refl _ | omega))⟩
theorem ishift_c (aA : Option Addr) (ac : Nat) (a : Int) (n : Int) (w : World) (ha : NatV w aA ac (mg a)) (la : nl (mg a) ≤ 1048576) (ln : -16777216 ≤ n ∧ n ≤ 16777216) :
    Calls Tryz.prog 63 #[.agg #[.bool (sg a), .slice aA (nl (mg a)) ac], .int .i64 n] w (RetI w (shf a n)) := by
  by_cases h1 : a < 0
  · by_cases h2 : n < 0
    · exact ishift_td aA ac a n w ha la ln h1 h2
    · exact ishift_tu aA ac a n w ha la ln h1 (by omega)
  · by_cases h2 : n < 0
    · exact ishift_fd aA ac a n w ha la ln (by omega) h2
    · exact ishift_fu aA ac a n w ha la ln (by omega) (by omega)
end Go.Proofs.YtacjfpibilolnaaGreatDoor
