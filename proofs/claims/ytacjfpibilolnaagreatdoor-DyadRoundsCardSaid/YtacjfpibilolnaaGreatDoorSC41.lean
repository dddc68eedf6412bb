/- The document's dyadic numbers, walked: power, Rat. -/
import Derived.Test.YtacjfpibilolnaaGreatDoorSC40
set_option maxRecDepth 100000
set_option maxHeartbeats 4000000
set_option linter.unusedVariables false
set_option linter.unusedSimpArgs false
namespace Go.Proofs.YtacjfpibilolnaaGreatDoor
open Go.RowKit Go.Shelf
attribute [local go_sem] max2_i min2_i max_two min_two

theorem zof1_c (w : World) : Calls Tryz.prog 31 #[.int .i64 1] w (RetI w 1) := zof_c 1 w (by decide) (by decide)
theorem pow_up (k : Nat) : ((shf 1 (k : Int) : Int) : Rat) = (2 : Rat) ^ (k : Int) := by
  rw [shf_one, zp_int, Int.natCast_pow]; rfl
theorem pow_mk (k : Nat) : mkRat 1 (2 ^ k) = (2 : Rat) ^ (-(k : Int)) := by
  rw [← dval_den]; unfold dval; simp
theorem pow_dn (k : Nat) : Rat.divInt 1 (shf 1 (k : Int)) = (2 : Rat) ^ (-(k : Int)) := by
  rw [shf_one, Rat.divInt_ofNat, pow_mk]
theorem pow_sz (n : Int) (h : -1000000 ≤ n ∧ n ≤ 1000000) : nl (mg ((2 : Rat) ^ n).num) ≤ 31251 ∧ nl ((2 : Rat) ^ n).den ≤ 31251 := by
  rcases Int.lt_or_le n 0 with hn | hn
  · obtain ⟨k, rfl⟩ := Int.exists_eq_neg_ofNat (show n ≤ 0 by omega)
    rw [← pow_mk]
    have h0 : (2 ^ k : Nat) ≠ 0 := Nat.pos_iff_ne_zero.1 (Nat.two_pow_pos k)
    rw [Rat.num_mkRat, Rat.den_mkRat, if_neg h0, if_neg h0]
    have hd := nl_div (2 ^ k) (Nat.gcd (2 ^ k) (Int.natAbs 1))
    have hp := nl_two_pow k
    have hm : mg (1 / ((Nat.gcd (2 ^ k) (Int.natAbs 1) : Nat) : Int)) ≤ 1 := Int.natAbs_ediv_le_natAbs 1 _
    have h1 := nl_mono hm
    rw [nl_one] at h1
    constructor
    · omega
    · omega
  · obtain ⟨k, rfl⟩ := Int.eq_ofNat_of_zero_le hn
    rw [← pow_up, Rat.num_intCast, Rat.den_intCast, shf_one, mg_nat, nl_two_pow, nl_one]
    constructor <;> omega
theorem dval_eq (a : Rat) (h : Dyd a) : ((dmn a : Int) : Rat) * (2 : Rat) ^ dex a = a := dval_q h
theorem tpow_u (n : Int) (w : World)  (n0 : 0 ≤ n) (n1 : n ≤ 1000000) :
    Calls Tryz.prog 67 #[.int .i64 n] w (RetR w ((2 : Rat) ^ n)) := by
  obtain ⟨k, rfl⟩ := Int.eq_ofNat_of_zero_le n0
  have t1 : decide (0 ≤ (k : Int)) = true := by simp
  have hv := pow_up k
  have hk : k ≤ 1000000 := by omega
  replace hv := Lib.hid hv
  obtain ⟨hb1, Rr⟩ := bx1 w #[.bool false, .slice none 0 0, .slice none 0 0] 26
  have HBT := hb1
  clear hb1
  have qr0 := Rr.c (i := 0) rfl
  have qr1 := Rr.c (i := 1) rfl
  have qr2 := Rr.c (i := 2) rfl
  go_enter Tryz.func67, Tryz.ntmps67
  go_wp2_with (fail)
  obtain ⟨o, Eo⟩ : ∃ zq : Int, zq = 1 := ⟨_, rfl⟩
  have No : nl (mg o) ≤ 1 := by rw [Eo]; exact Nat.le_of_eq nl_one
  refine (Calls.mono (R := RetI (w.alloc (.cells #[.bool false, .slice none 0 0, .slice none 0 0] 26)) o) (by rw [Eo]; with_reducible exact (zof1_c _)) ?_)
  replace Eo := Lib.hid Eo
  rintro e W2 ⟨Xo, co, rfl, ho, hb2⟩
  replace Rr := Rr.below hb2
  replace qr0 := cbl hb2 qr0
  replace qr1 := cbl hb2 qr1
  replace qr2 := cbl hb2 qr2
  replace HBT := Below.cons HBT hb2
  clear hb2
  go_wp2_with (fail)
  obtain ⟨p, Ep⟩ : ∃ zq : Int, zq = shf o (k : Int) := ⟨_, rfl⟩
  refine (Calls.mono (R := RetI W2 p) (by rw [Ep]; with_reducible exact (zshift_c Xo co o (k : Int) _ ho (by omega) (by omega))) ?_)
  replace Ep := Lib.hid Ep
  rintro e W3 ⟨Xp, cp, rfl, hp, hb3⟩
  replace Rr := Rr.below hb3
  replace qr0 := cbl hb3 qr0
  replace qr1 := cbl hb3 qr1
  replace qr2 := cbl hb3 qr2
  replace ho := ho.below hb3
  replace HBT := Below.cons HBT hb3
  clear hb3
  go_wp2_with (fail)
  obtain ⟨q, Eq⟩ : ∃ zq : Rat, zq = (p : Rat) := ⟨_, rfl⟩
  refine (Calls.mono (R := RetR W3 q) (by rw [Eq]; with_reducible exact (r9whole_c Xp cp p _ hp)) ?_)
  replace Eq := Lib.hid Eq
  rintro e W4 ⟨Xq, cq, Yq, dq, rfl, hq, gq, hb4⟩
  replace Rr := Rr.below hb4
  replace qr0 := cbl hb4 qr0
  replace qr1 := cbl hb4 qr1
  replace qr2 := cbl hb4 qr2
  replace ho := ho.below hb4
  replace hp := hp.below hb4
  replace HBT := Below.cons HBT hb4
  clear hb4
  have fzr0 := Rr.f (i := 0)
  have fzr1 := Rr.f (i := 1)
  have fzr2 := Rr.f (i := 2)
  go_wp2_with (fail)
  have hzq : q = ((2 : Rat) ^ (k : Int)) := by rw [Eq.out, Ep.out, Eo.out]; exact hv.out
  subst hzq
  have RS := Rr.store3 (.bool (sg ((((2 : Rat) ^ (k : Int)))).num)) (.slice Xq (nl (mg ((((2 : Rat) ^ (k : Int)))).num)) cq) (.slice Yq (nl ((((2 : Rat) ^ (k : Int)))).den) dq)
  have e0 := RS.c (i := 0) rfl
  have e1 := RS.c (i := 1) rfl
  have e2 := RS.c (i := 2) rfl
  refine bodyPost_ret (v := .agg #[.bool (sg ((((2 : Rat) ^ (k : Int)))).num), .slice Xq (nl (mg ((((2 : Rat) ^ (k : Int)))).num)) cq, .slice Yq (nl ((((2 : Rat) ^ (k : Int)))).den) dq]) (by simp [results, Tryz.results67, go_sem, e0, e1, e2]) rfl ?_
  exact ⟨Xq, cq, Yq, dq, rfl, (Rr.keep3 (nuB rfl) hq), (Rr.keep3 (nuB rfl) gq), (Below.store3 HBT (by first | exact Nat.le_refl _ | omega))⟩
theorem tpow_d (n : Int) (w : World)  (n0 : n < 0) (n1 : -1000000 ≤ n) :
    Calls Tryz.prog 67 #[.int .i64 n] w (RetR w ((2 : Rat) ^ n)) := by
  obtain ⟨k, hk⟩ := Int.eq_ofNat_of_zero_le (show 0 ≤ -n by omega)
  have t1 : decide (0 ≤ n) = false := by simp; exact n0
  have lk : k ≤ 1000000 := by omega
  have Wk : IntKind.i64.wrap (k : Int) = (k : Int) := IntWalk.i64_in _ (by omega)
  have hv := pow_dn k
  rw [show -(k : Int) = n by omega] at hv
  replace hv := Lib.hid hv
  obtain ⟨hb1, Rr⟩ := bx1 w #[.bool false, .slice none 0 0, .slice none 0 0] 26
  have HBT := hb1
  clear hb1
  have qr0 := Rr.c (i := 0) rfl
  have qr1 := Rr.c (i := 1) rfl
  have qr2 := Rr.c (i := 2) rfl
  go_enter Tryz.func67, Tryz.ntmps67
  go_wp2_with (fail)
  obtain ⟨o, Eo⟩ : ∃ zq : Int, zq = 1 := ⟨_, rfl⟩
  have No : nl (mg o) ≤ 1 := by rw [Eo]; exact Nat.le_of_eq nl_one
  refine (Calls.mono (R := RetI (w.alloc (.cells #[.bool false, .slice none 0 0, .slice none 0 0] 26)) o) (by rw [Eo]; with_reducible exact (zof1_c _)) ?_)
  replace Eo := Lib.hid Eo
  rintro e W2 ⟨Xo, co, rfl, ho, hb2⟩
  replace Rr := Rr.below hb2
  replace qr0 := cbl hb2 qr0
  replace qr1 := cbl hb2 qr1
  replace qr2 := cbl hb2 qr2
  replace HBT := Below.cons HBT hb2
  clear hb2
  go_wp2_with (fail)
  obtain ⟨o2, Eo2⟩ : ∃ zq : Int, zq = 1 := ⟨_, rfl⟩
  have No2 : nl (mg o2) ≤ 1 := by rw [Eo2]; exact Nat.le_of_eq nl_one
  refine (Calls.mono (R := RetI W2 o2) (by rw [Eo2]; with_reducible exact (zof1_c _)) ?_)
  replace Eo2 := Lib.hid Eo2
  rintro e W3 ⟨Xo2, co2, rfl, ho2, hb3⟩
  replace Rr := Rr.below hb3
  replace qr0 := cbl hb3 qr0
  replace qr1 := cbl hb3 qr1
  replace qr2 := cbl hb3 qr2
  replace ho := ho.below hb3
  replace HBT := Below.cons HBT hb3
  clear hb3
  go_wp2_with (fail)
  obtain ⟨p, Ep⟩ : ∃ zq : Int, zq = shf o2 (k : Int) := ⟨_, rfl⟩
  have Vp : p = ((2 ^ k : Nat) : Int) := by rw [Ep, Eo2.out]; exact shf_one k
  have Pp : 0 < p := by rw [Vp]; have := Nat.two_pow_pos k; omega
  have Np : nl (mg p) ≤ 1048576 := by rw [Vp, mg_nat, nl_two_pow]; omega
  replace Vp := Lib.hid Vp
  refine (Calls.mono (R := RetI W3 p) (by rw [Ep]; with_reducible exact (zshift_c Xo2 co2 o2 (k : Int) _ ho2 (by omega) (by omega))) ?_)
  replace Ep := Lib.hid Ep
  rintro e W4 ⟨Xp, cp, rfl, hp, hb4⟩
  replace Rr := Rr.below hb4
  replace qr0 := cbl hb4 qr0
  replace qr1 := cbl hb4 qr1
  replace qr2 := cbl hb4 qr2
  replace ho := ho.below hb4
  replace ho2 := ho2.below hb4
  replace HBT := Below.cons HBT hb4
  clear hb4
  go_wp2_with (fail)
  obtain ⟨q, Eq⟩ : ∃ z : Rat, z = Rat.divInt o p := ⟨_, rfl⟩
  have CM := r9make_c Xo co o Xp cp p W4 ho hp (by omega) (by omega) Pp
  rw [← Eq] at CM
  replace CM := Lib.hid CM
  replace Eq := Lib.hid Eq
  refine (Calls.mono CM.out ?_)
  clear CM
  rintro e W5 ⟨Xq, cq, Yq, dq, rfl, hq, gq, hb5⟩
  replace Rr := Rr.below hb5
  replace qr0 := cbl hb5 qr0
  replace qr1 := cbl hb5 qr1
  replace qr2 := cbl hb5 qr2
  replace ho := ho.below hb5
  replace ho2 := ho2.below hb5
  replace hp := hp.below hb5
  replace HBT := Below.cons HBT hb5
  clear hb5
  obtain ⟨hb6, Rq⟩ := bx1 W5 #[.bool (sg q.num), .slice Xq (nl (mg q.num)) cq, .slice Yq (nl q.den) dq] 26
  replace Rr := Rr.below hb6
  replace qr0 := cbl hb6 qr0
  replace qr1 := cbl hb6 qr1
  replace qr2 := cbl hb6 qr2
  replace ho := ho.below hb6
  replace ho2 := ho2.below hb6
  replace hp := hp.below hb6
  replace hq := hq.below hb6
  replace gq := gq.below hb6
  replace HBT := Below.cons HBT hb6
  clear hb6
  have qq0 := Rq.c (i := 0) rfl
  have qq1 := Rq.c (i := 1) rfl
  have qq2 := Rq.c (i := 2) rfl
  have fzr0 := Rr.f (i := 0)
  have fzr1 := Rr.f (i := 1)
  have fzr2 := Rr.f (i := 2)
  go_wp2_with (fail)
  have hzq : q = ((2 : Rat) ^ n) := by rw [Eq.out, Ep.out, Eo.out, Eo2.out]; exact hv.out
  subst hzq
  have RS := Rr.store3 (.bool (sg ((((2 : Rat) ^ n))).num)) (.slice Xq (nl (mg ((((2 : Rat) ^ n))).num)) cq) (.slice Yq (nl ((((2 : Rat) ^ n))).den) dq)
  have e0 := RS.c (i := 0) rfl
  have e1 := RS.c (i := 1) rfl
  have e2 := RS.c (i := 2) rfl
  refine bodyPost_ret (v := .agg #[.bool (sg ((((2 : Rat) ^ n))).num), .slice Xq (nl (mg ((((2 : Rat) ^ n))).num)) cq, .slice Yq (nl ((((2 : Rat) ^ n))).den) dq]) (by simp [results, Tryz.results67, go_sem, e0, e1, e2]) rfl ?_
  exact ⟨Xq, cq, Yq, dq, rfl, (Rr.keep3 (nuB rfl) hq), (Rr.keep3 (nuB rfl) gq), (Below.store3 HBT (by first | exact Nat.le_refl _ | omega))⟩
theorem tpow_c (n : Int) (w : World) (ln : -1000000 ≤ n ∧ n ≤ 1000000) :
    Calls Tryz.prog 67 #[.int .i64 n] w (RetR w ((2 : Rat) ^ n)) := by
  by_cases h : 0 ≤ n
  · exact tpow_u n w h ln.2
  · exact tpow_d n w (by omega) ln.1
theorem trat_c (aA : Option Addr) (ac : Nat) (a : Rat) (w : World) (ha : NatV w aA ac (mg (dmn a))) (oa : DOk a) :
    Calls Tryz.prog 30 #[.agg #[.bool (sg (dmn a)), .slice aA (nl (mg (dmn a))) ac, .int .i64 (dex a)]] w (RetR w a) := by
  have hl := oa.l
  have he := oa.e
  have eqv := dval_eq a oa.d
  have hp := pow_sz (dex a) he
  replace eqv := Lib.hid eqv
  replace oa := Lib.hid oa
  obtain ⟨hb1, Ra, Rr⟩ := bx2 w #[.bool (sg (dmn a)), .slice aA (nl (mg (dmn a))) ac, .int .i64 (dex a)] 28 #[.bool false, .slice none 0 0, .slice none 0 0] 26
  replace ha := ha.below hb1
  have HBT := hb1
  clear hb1
  have qa0 := Ra.c (i := 0) rfl
  have qa1 := Ra.c (i := 1) rfl
  have qa2 := Ra.c (i := 2) rfl
  have qr0 := Rr.c (i := 0) rfl
  have qr1 := Rr.c (i := 1) rfl
  have qr2 := Rr.c (i := 2) rfl
  go_enter Tryz.func30, Tryz.ntmps30
  go_wp2_with (fail)
  have hd2 := drb (((w.alloc (.cells #[.bool (sg (dmn a)), .slice aA (nl (mg (dmn a))) ac, .int .i64 (dex a)] 28)).alloc (.cells #[.bool false, .slice none 0 0, .slice none 0 0] 26)))
  replace ha := ha.below hd2
  replace Ra := Ra.below hd2
  replace qa0 := cbl hd2 qa0
  replace qa1 := cbl hd2 qa1
  replace qa2 := cbl hd2 qa2
  replace Rr := Rr.below hd2
  replace qr0 := cbl hd2 qr0
  replace qr1 := cbl hd2 qr1
  replace qr2 := cbl hd2 qr2
  replace HBT := Below.cons HBT hd2
  clear hd2
  obtain ⟨u, Eu⟩ : ∃ zq : Rat, zq = ((dmn a : Int) : Rat) := ⟨_, rfl⟩
  have Nu : nl (mg u.num) ≤ 262144 := by rw [Eu, Rat.num_intCast]; omega
  have Mu : nl u.den ≤ 262144 := by rw [Eu, Rat.den_intCast, nl_one]; decide
  have C2_0 := fun (W : World) (h1 : NatV W aA ac (mg (dmn a))) => r9whole_c aA ac (dmn a) W h1
  simp only [← Eu] at C2_0
  replace Eu := Lib.hid Eu
  replace C2_0 := Lib.hid C2_0
  obtain ⟨v, Ev⟩ : ∃ zq : Rat, zq = (2 : Rat) ^ dex a := ⟨_, rfl⟩
  have Nv : nl (mg v.num) ≤ 262144 := by rw [Ev]; omega
  have Mv : nl v.den ≤ 262144 := by rw [Ev]; omega
  have C2_1 := fun (W : World) => tpow_c (dex a) W he
  simp only [← Ev] at C2_1
  replace Ev := Lib.hid Ev
  replace C2_1 := Lib.hid C2_1
  obtain ⟨q, Eq⟩ : ∃ zq : Rat, zq = u * v := ⟨_, rfl⟩
  have C2_2 := fun (W : World) (A : Option Addr) (c : Nat) (B : Option Addr) (d : Nat) (A2 : Option Addr) (c2 : Nat) (B2 : Option Addr) (d2 : Nat) (h1 : NatV W A c (mg u.num)) (h2 : NatV W B d u.den) (h3 : NatV W A2 c2 (mg v.num)) (h4 : NatV W B2 d2 v.den) => r9mul_c A c B d u A2 c2 B2 d2 v W h1 h2 h3 h4 Nu Mu Nv Mv
  simp only [← Eq] at C2_2
  replace Eq := Lib.hid Eq
  replace C2_2 := Lib.hid C2_2
  go_region_held3 (fun W => W.cell? ⟨w.heap.size, 0, none⟩ = some (.bool (sg (dmn a))) ∧ W.cell? ⟨w.heap.size, 1, none⟩ = some (.slice aA (nl (mg (dmn a))) ac) ∧ W.cell? ⟨w.heap.size, 2, none⟩ = some (.int .i64 (dex a)))
    (first
      | exact ⟨qa0, qa1, qa2⟩
      | exact ⟨qa0_3, qa1_3, qa2_3⟩
      | exact ⟨qa0_4, qa1_4, qa2_4⟩
      | exact ⟨qa0_5, qa1_5, qa2_5⟩
      | exact ⟨((Ra_5.other3 (by simp <;> omega)).c (i := 0) rfl), ((Ra_5.other3 (by simp <;> omega)).c (i := 1) rfl), ((Ra_5.other3 (by simp <;> omega)).c (i := 2) rfl)⟩
      | go_keep)
    (first
      | (go_at_call 78; (with_reducible refine (C2_0.out _ ha).mono ?_); rintro e W3 ⟨Xu, cu, Yu, du, rfl, hu, gu, hb3⟩; have ha_3 := ha.below hb3; have Ra_3 := Ra.below hb3; have qa0_3 := cbl hb3 qa0; have qa1_3 := cbl hb3 qa1; have qa2_3 := cbl hb3 qa2; have Rr_3 := Rr.below hb3; have qr0_3 := cbl hb3 qr0; have qr1_3 := cbl hb3 qr1; have qr2_3 := cbl hb3 qr2; have HBT_3 := Below.cons HBT hb3)
      | (go_at_call 67; (with_reducible refine (C2_1.out _).mono ?_); rintro e W4 ⟨Xv, cv, Yv, dv, rfl, hv, gv, hb4⟩; have ha_4 := ha_3.below hb4; have Ra_4 := Ra_3.below hb4; have qa0_4 := cbl hb4 qa0_3; have qa1_4 := cbl hb4 qa1_3; have qa2_4 := cbl hb4 qa2_3; have Rr_4 := Rr_3.below hb4; have qr0_4 := cbl hb4 qr0_3; have qr1_4 := cbl hb4 qr1_3; have qr2_4 := cbl hb4 qr2_3; have hu_4 := hu.below hb4; have gu_4 := gu.below hb4; have HBT_4 := Below.cons HBT_3 hb4)
      | (go_at_call 56; (with_reducible refine (C2_2.out _ _ _ _ _ _ _ _ _ hu_4 gu_4 hv gv).mono ?_); rintro e W5 ⟨Xq, cq, Yq, dq, rfl, hq, gq, hb5⟩; have ha_5 := ha_4.below hb5; have Ra_5 := Ra_4.below hb5; have qa0_5 := cbl hb5 qa0_4; have qa1_5 := cbl hb5 qa1_4; have qa2_5 := cbl hb5 qa2_4; have Rr_5 := Rr_4.below hb5; have qr0_5 := cbl hb5 qr0_4; have qr1_5 := cbl hb5 qr1_4; have qr2_5 := cbl hb5 qr2_4; have hu_5 := hu_4.below hb5; have gu_5 := gu_4.below hb5; have hv_5 := hv.below hb5; have gv_5 := gv.below hb5; have HBT_5 := Below.cons HBT_4 hb5; have fz0 := Rr_5.f (i := 0); have fz1 := Rr_5.f (i := 1); have fz2 := Rr_5.f (i := 2)))
  all_goals (try go_wp2_with (fail))
  have hzq : q = a := by rw [Eq.out, Eu.out, Ev.out]; exact eqv.out
  subst hzq
  have RS := Rr_5.store3 (.bool (sg q.num)) (.slice Xq (nl (mg q.num)) cq) (.slice Yq (nl q.den) dq)
  have e0 := RS.c (i := 0) rfl
  have e1 := RS.c (i := 1) rfl
  have e2 := RS.c (i := 2) rfl
  refine bodyPost_ret (v := .agg #[.bool (sg q.num), .slice Xq (nl (mg q.num)) cq, .slice Yq (nl q.den) dq]) (by simp [results, Tryz.results30, go_sem, e0, e1, e2]) rfl ?_
  exact ⟨Xq, cq, Yq, dq, rfl, (Rr_5.keep3 (nuB rfl) hq), (Rr_5.keep3 (nuB rfl) gq), (Below.store3 HBT_5 (by first | exact Nat.le_refl _ | omega))⟩
end Go.Proofs.YtacjfpibilolnaaGreatDoor

/- The document's dyadic numbers, walked: Same, Sign, Scaled, Cmp. -/
set_option linter.unusedVariables false
set_option linter.unusedSimpArgs false
namespace Go.Proofs.YtacjfpibilolnaaGreatDoor
open Go.RowKit Go.Shelf
attribute [local go_sem] max2_i min2_i max_two min_two

theorem mul_sz (a b : Rat) : nl (mg (a * b).num) ≤ nl (mg a.num) + nl (mg b.num) ∧ nl (a * b).den ≤ nl a.den + nl b.den := by
  have h0 : a.den * b.den ≠ 0 := Nat.mul_ne_zero a.den_nz b.den_nz
  rw [Rat.mul_def', Rat.num_mkRat, Rat.den_mkRat, if_neg h0, if_neg h0]
  constructor
  · refine Nat.le_trans (nl_mono (Int.natAbs_ediv_le_natAbs _ _)) ?_
    have := nl_mul (mg a.num) (mg b.num)
    rw [← mg_mul] at this; exact this
  · exact Nat.le_trans (nl_div _ _) (nl_mul _ _)
theorem dyd_eq {a b : Rat} (ha : Dyd a) (hb : Dyd b) (h : dex a = dex b) : (a = b) ↔ dmn a = dmn b := by
  constructor
  · intro e; rw [e]
  · intro e; rw [← dval_q ha, ← dval_q hb, h, e]
theorem tsame_y (aA : Option Addr) (ac : Nat) (a : Rat) (bA : Option Addr) (bc : Nat) (b : Rat) (w : World) (ha : NatV w aA ac (mg (dmn a))) (hb : NatV w bA bc (mg (dmn b))) (da : Dyd a) (db : Dyd b) (la : nl (mg (dmn a)) ≤ 1073741824) (lb : nl (mg (dmn b)) ≤ 1073741824) (h0 : dex a = dex b) :
    Calls Tryz.prog 19 #[.agg #[.bool (sg (dmn a)), .slice aA (nl (mg (dmn a))) ac, .int .i64 (dex a)], .agg #[.bool (sg (dmn b)), .slice bA (nl (mg (dmn b))) bc, .int .i64 (dex b)]] w (fun e w' => e = .returned (.bool (decide (dmn a = dmn b))) ∧ Below w.heap.size w w') := by
  have t1 : (dex a == dex b) = true := by simp; exact h0
  replace h0 := Lib.hid h0
  replace da := Lib.hid da
  replace db := Lib.hid db
  obtain ⟨xa, Exa⟩ : ∃ z, z = dex a := ⟨_, rfl⟩
  obtain ⟨xb, Exb⟩ : ∃ z, z = dex b := ⟨_, rfl⟩
  rw [← Exa, ← Exb] at t1
  rw [← Exa, ← Exb]
  replace Exa := Lib.hid Exa
  replace Exb := Lib.hid Exb
  obtain ⟨hb1, Ra, Rb⟩ := bx2 w #[.bool (sg (dmn a)), .slice aA (nl (mg (dmn a))) ac, .int .i64 xa] 28 #[.bool (sg (dmn b)), .slice bA (nl (mg (dmn b))) bc, .int .i64 xb] 28
  replace ha := ha.below hb1
  replace hb := hb.below hb1
  have HBT := hb1
  clear hb1
  have qa0 := Ra.c (i := 0) rfl
  have qa1 := Ra.c (i := 1) rfl
  have qa2 := Ra.c (i := 2) rfl
  have qb0 := Rb.c (i := 0) rfl
  have qb1 := Rb.c (i := 1) rfl
  have qb2 := Rb.c (i := 2) rfl
  go_enter Tryz.func19, Tryz.ntmps19
  go_wp2_with (fail)
  refine (Calls.mono (zsame_c aA ac (dmn a) bA bc (dmn b) _ ha hb la lb) ?_)
  rintro e W2 ⟨rfl, hb2⟩
  replace ha := ha.below hb2
  replace hb := hb.below hb2
  replace Ra := Ra.below hb2
  replace qa0 := cbl hb2 qa0
  replace qa1 := cbl hb2 qa1
  replace qa2 := cbl hb2 qa2
  replace Rb := Rb.below hb2
  replace qb0 := cbl hb2 qb0
  replace qb1 := cbl hb2 qb1
  replace qb2 := cbl hb2 qb2
  replace HBT := Below.cons HBT hb2
  clear hb2
  go_wp2_with (fail)
  go_ret
  exact ⟨rfl, HBT⟩
theorem tsame_n (aA : Option Addr) (ac : Nat) (a : Rat) (bA : Option Addr) (bc : Nat) (b : Rat) (w : World) (ha : NatV w aA ac (mg (dmn a))) (hb : NatV w bA bc (mg (dmn b))) (da : Dyd a) (db : Dyd b) (la : nl (mg (dmn a)) ≤ 1073741824) (lb : nl (mg (dmn b)) ≤ 1073741824) (h0 : dex a ≠ dex b) :
    Calls Tryz.prog 19 #[.agg #[.bool (sg (dmn a)), .slice aA (nl (mg (dmn a))) ac, .int .i64 (dex a)], .agg #[.bool (sg (dmn b)), .slice bA (nl (mg (dmn b))) bc, .int .i64 (dex b)]] w (fun e w' => e = .returned (.bool false) ∧ Below w.heap.size w w') := by
  have t1 : (dex a == dex b) = false := by simp; exact h0
  replace h0 := Lib.hid h0
  replace da := Lib.hid da
  replace db := Lib.hid db
  obtain ⟨xa, Exa⟩ : ∃ z, z = dex a := ⟨_, rfl⟩
  obtain ⟨xb, Exb⟩ : ∃ z, z = dex b := ⟨_, rfl⟩
  rw [← Exa, ← Exb] at t1
  rw [← Exa, ← Exb]
  replace Exa := Lib.hid Exa
  replace Exb := Lib.hid Exb
  obtain ⟨hb1, Ra, Rb⟩ := bx2 w #[.bool (sg (dmn a)), .slice aA (nl (mg (dmn a))) ac, .int .i64 xa] 28 #[.bool (sg (dmn b)), .slice bA (nl (mg (dmn b))) bc, .int .i64 xb] 28
  replace ha := ha.below hb1
  replace hb := hb.below hb1
  have HBT := hb1
  clear hb1
  have qa0 := Ra.c (i := 0) rfl
  have qa1 := Ra.c (i := 1) rfl
  have qa2 := Ra.c (i := 2) rfl
  have qb0 := Rb.c (i := 0) rfl
  have qb1 := Rb.c (i := 1) rfl
  have qb2 := Rb.c (i := 2) rfl
  go_enter Tryz.func19, Tryz.ntmps19
  go_wp2_with (fail)
  go_ret
  exact ⟨rfl, HBT⟩
theorem tsame_c (aA : Option Addr) (ac : Nat) (a : Rat) (bA : Option Addr) (bc : Nat) (b : Rat) (w : World) (ha : NatV w aA ac (mg (dmn a))) (hb : NatV w bA bc (mg (dmn b))) (da : Dyd a) (db : Dyd b) (la : nl (mg (dmn a)) ≤ 1073741824) (lb : nl (mg (dmn b)) ≤ 1073741824) :
    Calls Tryz.prog 19 #[.agg #[.bool (sg (dmn a)), .slice aA (nl (mg (dmn a))) ac, .int .i64 (dex a)], .agg #[.bool (sg (dmn b)), .slice bA (nl (mg (dmn b))) bc, .int .i64 (dex b)]] w fun e w' => e = .returned (.bool (decide (a = b))) ∧ Below w.heap.size w w' := by
  by_cases h : dex a = dex b
  · rw [show decide (a = b) = decide (dmn a = dmn b) by rw [decide_eq_decide]; exact dyd_eq da db h]; exact tsame_y aA ac a bA bc b w ha hb da db la lb h
  · rw [decide_eq_false (fun e => h (by rw [e]))]; exact tsame_n aA ac a bA bc b w ha hb da db la lb h
theorem tscaled_c (aA : Option Addr) (ac : Nat) (a : Rat) (n : Int) (w : World) (ha : NatV w aA ac (mg (dmn a)))  (oa : DOk a) (la : nl (mg a.num) ≤ 200000) (ma : nl a.den ≤ 200000) (ln : -1000000 ≤ n ∧ n ≤ 1000000) :
    Calls Tryz.prog 22 #[.agg #[.bool (sg (dmn a)), .slice aA (nl (mg (dmn a))) ac, .int .i64 (dex a)], .int .i64 n] w (RetI w (a * (2 : Rat) ^ n).floor) := by
  have ps := pow_sz n ln
  have ms := mul_sz a ((2 : Rat) ^ n)
  obtain ⟨hb1, Ra, Rr⟩ := bx2 w #[.bool (sg (dmn a)), .slice aA (nl (mg (dmn a))) ac, .int .i64 (dex a)] 28 #[.bool false, .slice none 0 0] 24
  replace ha := ha.below hb1
  have HBT := hb1
  clear hb1
  have qa0 := Ra.c (i := 0) rfl
  have qa1 := Ra.c (i := 1) rfl
  have qa2 := Ra.c (i := 2) rfl
  have qr0 := Rr.c (i := 0) rfl
  have qr1 := Rr.c (i := 1) rfl
  go_enter Tryz.func22, Tryz.ntmps22
  go_wp2_with (fail)
  obtain ⟨x, Ex⟩ : ∃ zq : Rat, zq = a := ⟨_, rfl⟩
  refine (Calls.mono (R := RetR ((w.alloc (.cells #[.bool (sg (dmn a)), .slice aA (nl (mg (dmn a))) ac, .int .i64 (dex a)] 28)).alloc (.cells #[.bool false, .slice none 0 0] 24)) x) (by rw [Ex]; with_reducible exact (trat_c aA ac a _ ha oa)) ?_)
  replace Ex := Lib.hid Ex
  rintro e W2 ⟨Xx, cx, Yx, dx, rfl, hx, gx, hb2⟩
  replace ha := ha.below hb2
  replace Ra := Ra.below hb2
  replace qa0 := cbl hb2 qa0
  replace qa1 := cbl hb2 qa1
  replace qa2 := cbl hb2 qa2
  replace Rr := Rr.below hb2
  replace qr0 := cbl hb2 qr0
  replace qr1 := cbl hb2 qr1
  replace HBT := Below.cons HBT hb2
  clear hb2
  go_wp2_with (fail)
  obtain ⟨y, Ey⟩ : ∃ zq : Rat, zq = (2 : Rat) ^ n := ⟨_, rfl⟩
  rw [← Ey] at ps ms
  refine (Calls.mono (R := RetR W2 y) (by rw [Ey]; with_reducible exact (tpow_c n _ ln)) ?_)
  replace Ey := Lib.hid Ey
  rintro e W3 ⟨Xy, cy, Yy, dy, rfl, hy, gy, hb3⟩
  replace ha := ha.below hb3
  replace Ra := Ra.below hb3
  replace qa0 := cbl hb3 qa0
  replace qa1 := cbl hb3 qa1
  replace qa2 := cbl hb3 qa2
  replace Rr := Rr.below hb3
  replace qr0 := cbl hb3 qr0
  replace qr1 := cbl hb3 qr1
  replace hx := hx.below hb3
  replace gx := gx.below hb3
  replace HBT := Below.cons HBT hb3
  clear hb3
  go_wp2_with (fail)
  have ex := Ex.out
  obtain ⟨m, Em⟩ : ∃ zq : Rat, zq = x * y := ⟨_, rfl⟩
  have em : m = a * y := by rw [Em, Ex.out]
  rw [← em] at ms
  replace em := Lib.hid em
  refine (Calls.mono (R := RetR W3 m) (by rw [Em]; with_reducible exact (r9mul_c Xx cx Yx dx x Xy cy Yy dy y _ hx gx hy gy (by rw [Ex.out]; omega) (by rw [Ex.out]; omega) (by omega) (by omega))) ?_)
  replace Em := Lib.hid Em
  rintro e W4 ⟨Xm, cm, Ym, dm, rfl, hm, gm, hb4⟩
  replace ha := ha.below hb4
  replace Ra := Ra.below hb4
  replace qa0 := cbl hb4 qa0
  replace qa1 := cbl hb4 qa1
  replace qa2 := cbl hb4 qa2
  replace Rr := Rr.below hb4
  replace qr0 := cbl hb4 qr0
  replace qr1 := cbl hb4 qr1
  replace hx := hx.below hb4
  replace gx := gx.below hb4
  replace hy := hy.below hb4
  replace gy := gy.below hb4
  replace HBT := Below.cons HBT hb4
  clear hb4
  go_wp2_with (fail)
  obtain ⟨z, Ez⟩ : ∃ zq : Int, zq = m.floor := ⟨_, rfl⟩
  refine (Calls.mono (R := RetI W4 z) (by rw [Ez]; with_reducible exact (r9floor_c Xm cm Ym dm m _ hm gm (by omega) (by omega))) ?_)
  replace Ez := Lib.hid Ez
  rintro e W5 ⟨Xz, cz, rfl, hz, hb5⟩
  replace ha := ha.below hb5
  replace Ra := Ra.below hb5
  replace qa0 := cbl hb5 qa0
  replace qa1 := cbl hb5 qa1
  replace qa2 := cbl hb5 qa2
  replace Rr := Rr.below hb5
  replace qr0 := cbl hb5 qr0
  replace qr1 := cbl hb5 qr1
  replace hx := hx.below hb5
  replace gx := gx.below hb5
  replace hy := hy.below hb5
  replace gy := gy.below hb5
  replace hm := hm.below hb5
  replace gm := gm.below hb5
  replace HBT := Below.cons HBT hb5
  clear hb5
  have fzr0 := Rr.f (i := 0)
  have fzr1 := Rr.f (i := 1)
  go_wp2_with (fail)
  have hzz : z = ((a * (2 : Rat) ^ n).floor) := by rw [Ez.out, em.out, Ey.out]
  subst hzz
  have RS := Rr.store2 (.bool (sg ((((a * (2 : Rat) ^ n).floor))))) (.slice Xz (nl (mg ((((a * (2 : Rat) ^ n).floor))))) cz)
  have e0 := RS.c (i := 0) rfl
  have e1 := RS.c (i := 1) rfl
  refine bodyPost_ret (v := .agg #[.bool (sg ((((a * (2 : Rat) ^ n).floor)))), .slice Xz (nl (mg ((((a * (2 : Rat) ^ n).floor))))) cz]) (by simp [results, Tryz.results22, go_sem, e0, e1]) rfl ?_
  exact ⟨Xz, cz, rfl, (Rr.keep2 (nuB rfl) hz), (Below.store2 HBT (by first | exact Nat.le_refl _ | omega))⟩
end Go.Proofs.YtacjfpibilolnaaGreatDoor

/- The document's dyadic numbers, walked: Of, Neg. -/
set_option linter.unusedVariables false
set_option linter.unusedSimpArgs false
namespace Go.Proofs.YtacjfpibilolnaaGreatDoor
open Go.RowKit Go.Shelf
attribute [local go_sem] max2_i min2_i max_two min_two

end Go.Proofs.YtacjfpibilolnaaGreatDoor

/- The document's dyadic numbers, walked: Add, Sub. -/
set_option linter.unusedVariables false
set_option linter.unusedSimpArgs false
namespace Go.Proofs.YtacjfpibilolnaaGreatDoor
open Go.RowKit Go.Shelf
attribute [local go_sem] max2_i min2_i max_two min_two

end Go.Proofs.YtacjfpibilolnaaGreatDoor

/- The document's dyadic numbers, walked: Mul. -/
set_option linter.unusedVariables false
set_option linter.unusedSimpArgs false
namespace Go.Proofs.YtacjfpibilolnaaGreatDoor
open Go.RowKit Go.Shelf
attribute [local go_sem] max2_i min2_i max_two min_two

end Go.Proofs.YtacjfpibilolnaaGreatDoor
