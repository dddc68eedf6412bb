/- Dyadic numbers, walked: Round. -/
import Derived.Test.YtacjfpibilolnaaGreatDoorSC39
import Derived.Test.YtacjfpibilolnaaGreatDoorSC36
set_option maxRecDepth 100000
set_option maxHeartbeats 4000000
set_option linter.unusedVariables false
set_option linter.unusedSimpArgs false
namespace Go.Proofs.YtacjfpibilolnaaGreatDoor
open Go.RowKit Go.Shelf
attribute [local go_sem] max2_i min2_i max_two min_two

theorem dval_back {z n : Int} {a : Rat} (h : dval z (-n) = a) : a * (2 : Rat) ^ n = (z : Rat) := by
  rw [← h]; unfold dval
  rw [Rat.mul_assoc, ← zp_add, Int.add_left_neg, Rat.zpow_zero, Rat.mul_one]
theorem rnd_int (dr z : Int) : rnd dr (z : Rat) = z := by
  unfold rnd
  rw [Rat.floor_intCast, Rat.ceil_intCast]
  split
  · rfl
  · split
    · rfl
    · split <;> rfl
theorem round_same {a : Rat} {n : Int} (dr : Int) (h : Dyd a) (hn : -n ≤ dex a) : dval (rnd dr (a * (2 : Rat) ^ n)) (-n) = a := by
  have h1 := lev h hn
  rw [dval_back h1, rnd_int, h1]
theorem round_ovr {a : Rat} {n : Int} {k : Nat} (dr : Int) (h : Dyd a) (hk : -n - dex a = k) (h0 : 0 ≤ dr) (h4 : dr ≤ 4) : ovr (dmn a) ((2 ^ k : Nat) : Int) dr = rnd dr (a * (2 : Rat) ^ n) := by
  have e : a * (2 : Rat) ^ n = ((dmn a : Int) : Rat) / ((2 ^ k : Int) : Rat) := by
    conv => lhs; lhs; rw [← dval_q h]
    unfold dval
    rw [Rat.mul_assoc, ← zp_add, show dex a + n = -(k : Int) by omega, zp_neg, zp_int, Rat.div_def]
  rw [e, Int.natCast_pow]
  exact ovr_rnd (Int.pow_pos (by decide)) h0 h4
theorem round_neg (aA : Option Addr) (ac : Nat) (a : Rat) (n : Int) (dr : Int) (w : World) (ha : NatV w aA ac (mg (dmn a)))   (h0 : dr < 0) :
    Calls Tryz.prog 17 #[.agg #[.bool (sg (dmn a)), .slice aA (nl (mg (dmn a))) ac, .int .i64 (dex a)], .int .i64 n, .int .i64 dr] w (RetDe w 0 1) := by
  have t1 : decide (dr < 0) = true := decide_eq_true h0
  obtain ⟨hb1, Ra, Rr⟩ := bx2 w #[.bool (sg (dmn a)), .slice aA (nl (mg (dmn a))) ac, .int .i64 (dex a)] 28 #[.bool false, .slice none 0 0, .int .i64 0] 28
  replace ha := ha.below hb1
  have HBT := hb1
  clear hb1
  have qa0 := Ra.c (i := 0) rfl
  have qa1 := Ra.c (i := 1) rfl
  have qa2 := Ra.c (i := 2) rfl
  have qr0 := Rr.c (i := 0) rfl
  have qr1 := Rr.c (i := 1) rfl
  have qr2 := Rr.c (i := 2) rfl
  have fzr0 := Rr.f (i := 0)
  have fzr1 := Rr.f (i := 1)
  have fzr2 := Rr.f (i := 2)
  go_enter Tryz.func17, Tryz.ntmps17
  go_wp2_with (fail)
  have RS := Rr
  have e0 := RS.c (i := 0) rfl
  have e1 := RS.c (i := 1) rfl
  have e2 := RS.c (i := 2) rfl
  refine bodyPost_ret (v := .tuple #[.agg #[.bool false, .slice none 0 0, .int .i64 0], .int .i64 1]) (by simp [results, Tryz.results17, go_sem, e0, e1, e2]) rfl ?_
  exact ⟨none, 0, by rw [dmn_zero, dex_zero, mg0, sg0, nl_zero], nat_none _, HBT⟩
theorem round_big (aA : Option Addr) (ac : Nat) (a : Rat) (n : Int) (dr : Int) (w : World) (ha : NatV w aA ac (mg (dmn a)))   (h0 : 5 ≤ dr) :
    Calls Tryz.prog 17 #[.agg #[.bool (sg (dmn a)), .slice aA (nl (mg (dmn a))) ac, .int .i64 (dex a)], .int .i64 n, .int .i64 dr] w (RetDe w 0 1) := by
  have t1 : decide (dr < 0) = false := decide_eq_false (by omega)
  have t2 : decide (5 ≤ dr) = true := decide_eq_true h0
  obtain ⟨hb1, Ra, Rr⟩ := bx2 w #[.bool (sg (dmn a)), .slice aA (nl (mg (dmn a))) ac, .int .i64 (dex a)] 28 #[.bool false, .slice none 0 0, .int .i64 0] 28
  replace ha := ha.below hb1
  have HBT := hb1
  clear hb1
  have qa0 := Ra.c (i := 0) rfl
  have qa1 := Ra.c (i := 1) rfl
  have qa2 := Ra.c (i := 2) rfl
  have qr0 := Rr.c (i := 0) rfl
  have qr1 := Rr.c (i := 1) rfl
  have qr2 := Rr.c (i := 2) rfl
  go_enter Tryz.func17, Tryz.ntmps17
  go_wp2_with (fail)
  refine (Calls.mono (ways_c _) ?_)
  rintro e W2 ⟨rfl, hb2⟩
  replace ha := ha.below hb2
  replace Ra := Ra.below hb2
  replace qa0 := cbl hb2 qa0
  replace qa1 := cbl hb2 qa1
  replace qa2 := cbl hb2 qa2
  replace Rr := Rr.below hb2
  replace qr0 := cbl hb2 qr0
  replace qr1 := cbl hb2 qr1
  replace qr2 := cbl hb2 qr2
  replace HBT := Below.cons HBT hb2
  clear hb2
  have fzr0 := Rr.f (i := 0)
  have fzr1 := Rr.f (i := 1)
  have fzr2 := Rr.f (i := 2)
  go_wp2_with (fail)
  have RS := Rr.store3 (.bool false) (.slice none 0 0) (.int .i64 0)
  have e0 := RS.c (i := 0) rfl
  have e1 := RS.c (i := 1) rfl
  have e2 := RS.c (i := 2) rfl
  refine bodyPost_ret (v := .tuple #[.agg #[.bool false, .slice none 0 0, .int .i64 0], .int .i64 1]) (by simp [results, Tryz.results17, go_sem, e0, e1, e2]) rfl ?_
  exact ⟨none, 0, by rw [dmn_zero, dex_zero, mg0, sg0, nl_zero], nat_none _, Below.store3 HBT (by first | exact Nat.le_refl _ | omega)⟩
theorem round_same_c (aA : Option Addr) (ac : Nat) (a : Rat) (n : Int) (dr : Int) (w : World) (ha : NatV w aA ac (mg (dmn a)))   (oa : DOk a) (d0 : 0 ≤ dr) (d4 : dr ≤ 4) (ln : -1000000 ≤ n ∧ n ≤ 1000000) (hn : -n ≤ dex a) :
    Calls Tryz.prog 17 #[.agg #[.bool (sg (dmn a)), .slice aA (nl (mg (dmn a))) ac, .int .i64 (dex a)], .int .i64 n, .int .i64 dr] w (RetDe w (dval (rnd dr (a * (2 : Rat) ^ n)) (-n)) 0) := by
  have t1 : decide (dr < 0) = false := decide_eq_false (by omega)
  have t2 : decide (5 ≤ dr) = false := decide_eq_false (by omega)
  have Wn : IntKind.i64.wrap (-n) = -n := IntWalk.i64_in _ (by omega)
  have hl := oa.l
  have he := oa.e
  have t3 : decide (-n ≤ dex a) = true := decide_eq_true hn
  have hv := round_same dr oa.d hn
  replace hv := Lib.hid hv
  replace oa := Lib.hid oa
  replace he := Lib.hid he
  obtain ⟨hb1, Ra, Rr⟩ := bx2 w #[.bool (sg (dmn a)), .slice aA (nl (mg (dmn a))) ac, .int .i64 (dex a)] 28 #[.bool false, .slice none 0 0, .int .i64 0] 28
  replace ha := ha.below hb1
  have HBT := hb1
  clear hb1
  have qa0 := Ra.c (i := 0) rfl
  have qa1 := Ra.c (i := 1) rfl
  have qa2 := Ra.c (i := 2) rfl
  have qr0 := Rr.c (i := 0) rfl
  have qr1 := Rr.c (i := 1) rfl
  have qr2 := Rr.c (i := 2) rfl
  go_enter Tryz.func17, Tryz.ntmps17
  go_wp2_with (fail)
  refine (Calls.mono (ways_c _) ?_)
  rintro e W2 ⟨rfl, hb2⟩
  replace ha := ha.below hb2
  replace Ra := Ra.below hb2
  replace qa0 := cbl hb2 qa0
  replace qa1 := cbl hb2 qa1
  replace qa2 := cbl hb2 qa2
  replace Rr := Rr.below hb2
  replace qr0 := cbl hb2 qr0
  replace qr1 := cbl hb2 qr1
  replace qr2 := cbl hb2 qr2
  replace HBT := Below.cons HBT hb2
  clear hb2
  have fzr0 := Rr.f (i := 0)
  have fzr1 := Rr.f (i := 1)
  have fzr2 := Rr.f (i := 2)
  go_wp2_with (fail)
  have RS := Rr.store3 (.bool (sg (dmn a))) (.slice aA (nl (mg (dmn a))) ac) (.int .i64 (dex a))
  have e0 := RS.c (i := 0) rfl
  have e1 := RS.c (i := 1) rfl
  have e2 := RS.c (i := 2) rfl
  refine bodyPost_ret (v := .tuple #[.agg #[.bool (sg (dmn a)), .slice aA (nl (mg (dmn a))) ac, .int .i64 (dex a)], .int .i64 0]) (by simp [results, Tryz.results17, go_sem, e0, e1, e2]) rfl ?_
  rw [hv.out]
  exact ⟨aA, ac, rfl, Rr.keep3 (nuB rfl) ha, Below.store3 HBT (by omega)⟩
theorem round_cut_c (aA : Option Addr) (ac : Nat) (a : Rat) (n : Int) (dr : Int) (w : World) (ha : NatV w aA ac (mg (dmn a)))   (oa : DOk a) (d0 : 0 ≤ dr) (d4 : dr ≤ 4) (ln : -1000000 ≤ n ∧ n ≤ 1000000) (hT : Tab w) (hn : dex a < -n) :
    Calls Tryz.prog 17 #[.agg #[.bool (sg (dmn a)), .slice aA (nl (mg (dmn a))) ac, .int .i64 (dex a)], .int .i64 n, .int .i64 dr] w (RetDe w (dval (rnd dr (a * (2 : Rat) ^ n)) (-n)) 0) := by
  have t1 : decide (dr < 0) = false := decide_eq_false (by omega)
  have t2 : decide (5 ≤ dr) = false := decide_eq_false (by omega)
  have Wn : IntKind.i64.wrap (-n) = -n := IntWalk.i64_in _ (by omega)
  have hl := oa.l
  have he := oa.e
  have t3 : decide (-n ≤ dex a) = false := decide_eq_false (by omega)
  obtain ⟨k, hk⟩ := Int.eq_ofNat_of_zero_le (show 0 ≤ -n - dex a by omega)
  have hv := round_ovr dr oa.d hk d0 d4
  have Wk : IntKind.i64.wrap (-n - dex a) = (k : Int) := by rw [hk]; exact IntWalk.i64_in _ (by omega)
  have lk : k ≤ 2000000 := by omega
  have Wk2 : IntKind.i64.wrap (k : Int) = (k : Int) := IntWalk.i64_in _ (by omega)
  replace oa := Lib.hid oa
  replace he := Lib.hid he
  obtain ⟨hb1, Ra, Rr⟩ := bx2 w #[.bool (sg (dmn a)), .slice aA (nl (mg (dmn a))) ac, .int .i64 (dex a)] 28 #[.bool false, .slice none 0 0, .int .i64 0] 28
  replace ha := ha.below hb1
  replace hT := hT.below hb1
  have HBT := hb1
  clear hb1
  have qa0 := Ra.c (i := 0) rfl
  have qa1 := Ra.c (i := 1) rfl
  have qa2 := Ra.c (i := 2) rfl
  have qr0 := Rr.c (i := 0) rfl
  have qr1 := Rr.c (i := 1) rfl
  have qr2 := Rr.c (i := 2) rfl
  go_enter Tryz.func17, Tryz.ntmps17
  go_wp2_with (fail)
  refine (Calls.mono (ways_c _) ?_)
  rintro e W2 ⟨rfl, hb2⟩
  replace ha := ha.below hb2
  replace hT := hT.below hb2
  replace Ra := Ra.below hb2
  replace qa0 := cbl hb2 qa0
  replace qa1 := cbl hb2 qa1
  replace qa2 := cbl hb2 qa2
  replace Rr := Rr.below hb2
  replace qr0 := cbl hb2 qr0
  replace qr1 := cbl hb2 qr1
  replace qr2 := cbl hb2 qr2
  replace HBT := Below.cons HBT hb2
  clear hb2
  go_wp2_with (fail)
  have hd3 := drb (W2)
  replace ha := ha.below hd3
  replace hT := hT.below hd3
  replace Ra := Ra.below hd3
  replace qa0 := cbl hd3 qa0
  replace qa1 := cbl hd3 qa1
  replace qa2 := cbl hd3 qa2
  replace Rr := Rr.below hd3
  replace qr0 := cbl hd3 qr0
  replace qr1 := cbl hd3 qr1
  replace qr2 := cbl hd3 qr2
  replace HBT := Below.cons HBT hd3
  clear hd3
  obtain ⟨o, Eo⟩ : ∃ zq : Int, zq = (1 : Int) := ⟨_, rfl⟩
  have No : nl (mg o) ≤ 1 := by rw [Eo]; exact Nat.le_of_eq nl_one
  have C3_0 := fun (W : World) => (show Calls Tryz.prog 68 #[.int .i64 1] W (RetI W o) by rw [Eo]; exact iof1_c W)
  replace Eo := Lib.hid Eo
  replace C3_0 := Lib.hid C3_0
  obtain ⟨p, Ep⟩ : ∃ zq : Int, zq = shf o (k : Int) := ⟨_, rfl⟩
  have Vp : p = ((2 ^ k : Nat) : Int) := by rw [Ep, Eo.out]; exact shf_one k
  have Pp : 0 < p := by rw [Vp]; have := Nat.two_pow_pos k; omega
  have Np : nl (mg p) ≤ 162502 := by rw [Vp, mg_nat, nl_two_pow]; omega
  have lo := ovr_nl (dmn a) dr Pp
  rw [← Vp] at hv
  replace hv := Lib.hid hv
  replace Vp := Lib.hid Vp
  have C3_1 := fun (W : World) (A : Option Addr) (c : Nat) (h1 : NatV W A c (mg o)) => ishift_c A c o (k : Int) W h1 (by omega) (by omega)
  simp only [← Ep] at C3_1
  replace Ep := Lib.hid Ep
  replace C3_1 := Lib.hid C3_1
  obtain ⟨y, Ey⟩ : ∃ zq : Int, zq = ovr (dmn a) p dr := ⟨_, rfl⟩
  rw [← Ey] at lo
  have C3_2 := fun (W : World) (A : Option Addr) (c : Nat) (h1 : NatV W aA ac (mg (dmn a))) (h2 : NatV W A c (mg p)) => over_c aA ac (dmn a) A c p dr W h1 h2 (by omega) (by omega) Pp d0 d4
  simp only [← Ey] at C3_2
  replace Ey := Lib.hid Ey
  replace C3_2 := Lib.hid C3_2
  obtain ⟨x, Ex⟩ : ∃ zq : Rat, zq = dval y (-n) := ⟨_, rfl⟩
  have C3_3 := fun (W : World) (A : Option Addr) (c : Nat) (h1 : NatV W A c (mg y)) (h2 : Tab W) => dmake_c A c y (-n) W h1 h2 (by omega) (by omega)
  simp only [← Ex] at C3_3
  replace Ex := Lib.hid Ex
  replace C3_3 := Lib.hid C3_3
  go_region_held3 (fun W => W.cell? ⟨w.heap.size, 0, none⟩ = some (.bool (sg (dmn a))) ∧ W.cell? ⟨w.heap.size, 1, none⟩ = some (.slice aA (nl (mg (dmn a))) ac) ∧ W.cell? ⟨w.heap.size, 2, none⟩ = some (.int .i64 (dex a)))
    (first
      | exact ⟨qa0, qa1, qa2⟩
      | exact ⟨qa0_4, qa1_4, qa2_4⟩
      | exact ⟨qa0_5, qa1_5, qa2_5⟩
      | exact ⟨qa0_6, qa1_6, qa2_6⟩
      | exact ⟨qa0_7, qa1_7, qa2_7⟩
      | exact ⟨((Ra_7.other3 (by simp <;> omega)).c (i := 0) rfl), ((Ra_7.other3 (by simp <;> omega)).c (i := 1) rfl), ((Ra_7.other3 (by simp <;> omega)).c (i := 2) rfl)⟩
      | go_keep)
    (first
      | (go_at_call 68; (with_reducible refine (C3_0.out _).mono ?_); rintro e W4 ⟨Xo, co, rfl, ho, hb4⟩; have ha_4 := ha.below hb4; have hT_4 := hT.below hb4; have Ra_4 := Ra.below hb4; have qa0_4 := cbl hb4 qa0; have qa1_4 := cbl hb4 qa1; have qa2_4 := cbl hb4 qa2; have Rr_4 := Rr.below hb4; have qr0_4 := cbl hb4 qr0; have qr1_4 := cbl hb4 qr1; have qr2_4 := cbl hb4 qr2; have HBT_4 := Below.cons HBT hb4)
      | (go_at_call 63; (with_reducible refine (C3_1.out _ _ _ ho).mono ?_); rintro e W5 ⟨Xp, cp, rfl, hp, hb5⟩; have ha_5 := ha_4.below hb5; have hT_5 := hT_4.below hb5; have Ra_5 := Ra_4.below hb5; have qa0_5 := cbl hb5 qa0_4; have qa1_5 := cbl hb5 qa1_4; have qa2_5 := cbl hb5 qa2_4; have Rr_5 := Rr_4.below hb5; have qr0_5 := cbl hb5 qr0_4; have qr1_5 := cbl hb5 qr1_4; have qr2_5 := cbl hb5 qr2_4; have ho_5 := ho.below hb5; have HBT_5 := Below.cons HBT_4 hb5)
      | (go_at_call 65; (with_reducible refine (C3_2.out _ _ _ ha_5 hp).mono ?_); rintro e W6 ⟨Xy, cy, rfl, hy, hb6⟩; have ha_6 := ha_5.below hb6; have hT_6 := hT_5.below hb6; have Ra_6 := Ra_5.below hb6; have qa0_6 := cbl hb6 qa0_5; have qa1_6 := cbl hb6 qa1_5; have qa2_6 := cbl hb6 qa2_5; have Rr_6 := Rr_5.below hb6; have qr0_6 := cbl hb6 qr0_5; have qr1_6 := cbl hb6 qr1_5; have qr2_6 := cbl hb6 qr2_5; have ho_6 := ho_5.below hb6; have hp_6 := hp.below hb6; have HBT_6 := Below.cons HBT_5 hb6)
      | (go_at_call 24; (with_reducible refine (C3_3.out _ _ _ hy hT_6).mono ?_); rintro e W7 ⟨Xx, cx, rfl, hx, hb7⟩; have ha_7 := ha_6.below hb7; have hT_7 := hT_6.below hb7; have Ra_7 := Ra_6.below hb7; have qa0_7 := cbl hb7 qa0_6; have qa1_7 := cbl hb7 qa1_6; have qa2_7 := cbl hb7 qa2_6; have Rr_7 := Rr_6.below hb7; have qr0_7 := cbl hb7 qr0_6; have qr1_7 := cbl hb7 qr1_6; have qr2_7 := cbl hb7 qr2_6; have ho_7 := ho_6.below hb7; have hp_7 := hp_6.below hb7; have hy_7 := hy.below hb7; have HBT_7 := Below.cons HBT_6 hb7; have fz0 := Rr_7.f (i := 0); have fz1 := Rr_7.f (i := 1); have fz2 := Rr_7.f (i := 2)))
  all_goals (try go_wp2_with (fail))
  have eqx : x = dval (rnd dr (a * (2 : Rat) ^ n)) (-n) := by rw [Ex.out, Ey.out, hv.out]
  have RS := Rr_7.store3 (.bool (sg (dmn x))) (.slice Xx (nl (mg (dmn x))) cx) (.int .i64 (dex x))
  have e0 := RS.c (i := 0) rfl
  have e1 := RS.c (i := 1) rfl
  have e2 := RS.c (i := 2) rfl
  refine bodyPost_ret (v := .tuple #[.agg #[.bool (sg (dmn x)), .slice Xx (nl (mg (dmn x))) cx, .int .i64 (dex x)], .int .i64 0]) (by simp [results, Tryz.results17, go_sem, e0, e1, e2]) rfl ?_
  rw [← eqx]
  exact ⟨Xx, cx, rfl, Rr_7.keep3 (nuB rfl) hx, Below.store3 HBT_7 (by omega)⟩
theorem dround_c (aA : Option Addr) (ac : Nat) (a : Rat) (n dr : Int) (w : World) (ha : NatV w aA ac (mg (dmn a))) (hT : Tab w) (oa : DOk a) (d0 : 0 ≤ dr) (d4 : dr ≤ 4) (ln : -1000000 ≤ n ∧ n ≤ 1000000) :
    Calls Tryz.prog 17 #[.agg #[.bool (sg (dmn a)), .slice aA (nl (mg (dmn a))) ac, .int .i64 (dex a)], .int .i64 n, .int .i64 dr] w (RetDe w (dval (rnd dr (a * (2 : Rat) ^ n)) (-n)) 0) := by
  by_cases h : -n ≤ dex a
  · exact round_same_c aA ac a n dr w ha oa d0 d4 ln h
  · exact round_cut_c aA ac a n dr w ha oa d0 d4 ln hT (by omega)
end Go.Proofs.YtacjfpibilolnaaGreatDoor

/- The document's dyadic numbers, walked: Make. -/
set_option linter.unusedVariables false
set_option linter.unusedSimpArgs false
namespace Go.Proofs.YtacjfpibilolnaaGreatDoor
open Go.RowKit Go.Shelf
attribute [local go_sem] max2_i min2_i max_two min_two

theorem bit_low {a k : Nat} (h0 : a ≠ 0) (hk : k < v2 a) : a / 2 ^ k % 2 = 0 := by
  obtain ⟨b, h1, h2⟩ := v2_spec h0
  obtain ⟨j, hj⟩ : ∃ j, v2 a = k + (j + 1) := ⟨v2 a - k - 1, by omega⟩
  have e : a / 2 ^ k = 2 * (2 ^ j * b) := by
    have : a = 2 ^ k * (2 * (2 ^ j * b)) := by
      conv => lhs; rw [h1, hj, Nat.pow_add, Nat.pow_succ]
      rw [Nat.mul_assoc, Nat.mul_comm (2 ^ j) 2, Nat.mul_assoc]
    conv => lhs; rw [this]
    exact Nat.mul_div_cancel_left _ (Nat.two_pow_pos k)
  rw [e]; exact Nat.mul_mod_right _ _
theorem bit_odd {a : Nat} (h0 : a ≠ 0) : a / 2 ^ v2 a % 2 = 1 := by
  obtain ⟨b, h1, h2⟩ := v2_spec h0
  have e : a / 2 ^ v2 a = b := by
    conv => lhs; lhs; rw [h1]
    exact Nat.mul_div_cancel_left _ (Nat.two_pow_pos _)
  rw [e]; exact h2
theorem tmake_0 (aA : Option Addr) (ac : Nat) (a : Int) (e : Int) (w : World) (ha : NatV w aA ac (mg a))  (h0 : a = 0) :
    Calls Tryz.prog 37 #[.agg #[.bool (sg a), .slice aA (nl (mg a)) ac], .int .i64 e] w (RetD w (dval a e)) := by
  have t1 : ((nl (mg a) : Int) == 0) = true := ieqT (by rw [h0, mg0, nl_zero]; rfl)
  have t2 : (nl (mg a) == 0) = true := by rw [h0, mg0, nl_zero]; rfl
  have hq : dval a e = 0 := by rw [h0]; exact dval_zero e
  replace h0 := Lib.hid h0
  replace hq := Lib.hid hq
  obtain ⟨hb1, Ra, Rr⟩ := bx2 w #[.bool (sg a), .slice aA (nl (mg a)) ac] 24 #[.bool false, .slice none 0 0, .int .i64 0] 28
  replace ha := ha.below hb1
  have HBT := hb1
  clear hb1
  have qa0 := Ra.c (i := 0) rfl
  have qa1 := Ra.c (i := 1) rfl
  have qr0 := Rr.c (i := 0) rfl
  have qr1 := Rr.c (i := 1) rfl
  have qr2 := Rr.c (i := 2) rfl
  have fzr0 := Rr.f (i := 0)
  have fzr1 := Rr.f (i := 1)
  have fzr2 := Rr.f (i := 2)
  go_enter Tryz.func37, Tryz.ntmps37
  go_wp2_with (fail)
  have e0 := Rr.c (i := 0) rfl
  have e1 := Rr.c (i := 1) rfl
  have e2 := Rr.c (i := 2) rfl
  refine bodyPost_ret (v := .agg #[.bool false, .slice none 0 0, .int .i64 0]) (by simp [results, Tryz.results37, go_sem, e0, e1, e2]) rfl ?_
  rw [hq.out]
  exact ⟨none, 0, by rw [dmn_zero, dex_zero, mg0, sg0, nl_zero], by rw [dmn_zero, mg0]; exact ⟨.inl (by simp [vals, limbs_zero]), by rw [nl_zero]; exact Nat.le_refl _, by decide⟩, HBT⟩
theorem tmake_n (aA : Option Addr) (ac : Nat) (a : Int) (e : Int) (w : World) (ha : NatV w aA ac (mg a))  (la : nl (mg a) ≤ 1048576) (le : -1073741824 ≤ e ∧ e ≤ 1073741824) (h0 : a ≠ 0) :
    Calls Tryz.prog 37 #[.agg #[.bool (sg a), .slice aA (nl (mg a)) ac], .int .i64 e] w (RetD w (dval a e)) := by
  have m0 : mg a ≠ 0 := fun k => h0 (mg_zero.1 k)
  have t1 : ((nl (mg a) : Int) == 0) = false := ieqF (by have := nl_pos.2 m0; omega)
  have t2 : (nl (mg a) == 0) = false := by have := nl_pos.2 m0; simp; omega
  have hf := make_form a e
  have hd := dm_v2 a
  have hvl := v2_le (mg a)
  have hlow := fun k (h : k < v2 (mg a)) => bit_low m0 h
  have hodd := bit_odd m0
  obtain ⟨n, En⟩ : ∃ n, n = v2 (mg a) := ⟨_, rfl⟩
  have he : de a e = e + n := by unfold de; rw [if_neg h0, En]
  rw [← En] at hd hvl hlow hodd
  obtain ⟨x, Ex⟩ : ∃ x, x = e + (n : Int) := ⟨_, rfl⟩
  have Ix : e + (n : Int) = x := Ex.symm
  have Wx : IntKind.i64.wrap x = x := IntWalk.i64_in _ (by omega)
  rw [he, ← Ex] at hf
  have ln : n ≤ 33554432 := by omega
  replace hd := Lib.hid hd
  replace he := Lib.hid he
  replace hf := Lib.hid hf
  replace Ex := Lib.hid Ex
  replace En := Lib.hid En
  replace hlow := Lib.hid hlow
  replace hodd := Lib.hid hodd
  replace m0 := Lib.hid m0
  obtain ⟨hb1, Ra, Rr⟩ := bx2 w #[.bool (sg a), .slice aA (nl (mg a)) ac] 24 #[.bool false, .slice none 0 0, .int .i64 0] 28
  replace ha := ha.below hb1
  have HBT := hb1
  clear hb1
  have qa0 := Ra.c (i := 0) rfl
  have qa1 := Ra.c (i := 1) rfl
  have qr0 := Rr.c (i := 0) rfl
  have qr1 := Rr.c (i := 1) rfl
  have qr2 := Rr.c (i := 2) rfl
  go_enter Tryz.func37, Tryz.ntmps37
  go_wp2_with (fail)
  go_loop [5] (fun v => ∃ k : Nat, v = .int .i64 (k : Nat) ∧ k ≤ n) (fun v => n - (intOf v).toNat)
  case atStart => exact ⟨0, rfl, Nat.zero_le _⟩
  case round =>
    obtain ⟨k, rfl, hk⟩ := hrel
    by_cases hkn : k < n
    · have CB := rbit_c aA ac (mg a) k _ ha (by omega) (by omega)
      rw [hlow.out k hkn] at CB
      replace CB := Lib.hid CB
      go_wp2_with (fail)
      refine (Calls.mono CB.out ?_)
      rintro e1 w' ⟨rfl, hw⟩
      subst hw
      go_wp2_with (fail)
      go_round
      case rel => exact ⟨k + 1, by go_num, by omega⟩
      case measure => simp [intOf] <;> omega
    · obtain rfl : k = n := by omega
      have CB := rbit_c aA ac (mg a) k _ ha (by omega) (by omega)
      rw [hodd.out] at CB
      replace CB := Lib.hid CB
      go_wp2_with (fail)
      refine (Calls.mono CB.out ?_)
      rintro e1 w' ⟨rfl, hw⟩
      subst hw
      go_wp2_with (fail)
      have hd2 := drb (((w.alloc (.cells #[.bool (sg a), .slice aA (nl (mg a)) ac] 24)).alloc (.cells #[.bool false, .slice none 0 0, .int .i64 0] 28)))
      replace ha := ha.below hd2
      replace Ra := Ra.below hd2
      replace qa0 := cbl hd2 qa0
      replace qa1 := cbl hd2 qa1
      replace Rr := Rr.below hd2
      replace qr0 := cbl hd2 qr0
      replace qr1 := cbl hd2 qr1
      replace qr2 := cbl hd2 qr2
      replace HBT := Below.cons HBT hd2
      clear hd2
      obtain ⟨m, Em⟩ : ∃ zq : Nat, zq = mg a / 2 ^ k := ⟨_, rfl⟩
      have Bm : nl m ≤ 1048576 := by rw [Em]; have := nl_div (mg a) (2 ^ k); omega
      have C2_0 := fun (W : World) (h1 : NatV W aA ac (mg a)) => rshr_c aA ac (mg a) k W h1 (by omega) (by omega)
      simp only [← Em] at C2_0
      replace Em := Lib.hid Em
      replace C2_0 := Lib.hid C2_0
      obtain ⟨z, Ez⟩ : ∃ zq : Int, zq = ival (sg a) m := ⟨_, rfl⟩
      have C2_1 := fun (W : World) (A : Option Addr) (c : Nat) (h1 : NatV W A c m) => rz_c (sg a) A c m W h1 (by omega)
      simp only [← Ez] at C2_1
      replace Ez := Lib.hid Ez
      replace C2_1 := Lib.hid C2_1
      go_region_held3 (fun W => W.cell? ⟨w.heap.size, 0, none⟩ = some (.bool (sg a)) ∧ W.cell? ⟨w.heap.size, 1, none⟩ = some (.slice aA (nl (mg a)) ac))
        (first
          | exact ⟨qa0, qa1⟩
          | exact ⟨qa0_3, qa1_3⟩
          | exact ⟨qa0_4, qa1_4⟩
          | exact ⟨((Ra_4.other3 (by simp <;> omega)).c (i := 0) rfl), ((Ra_4.other3 (by simp <;> omega)).c (i := 1) rfl)⟩
          | go_keep)
        (first
          | (go_at_call 82; (with_reducible refine (C2_0.out _ ha).mono ?_); rintro e W3 ⟨Xm, cm, rfl, hm, hb3⟩; have ha_3 := ha.below hb3; have Ra_3 := Ra.below hb3; have qa0_3 := cbl hb3 qa0; have qa1_3 := cbl hb3 qa1; have Rr_3 := Rr.below hb3; have qr0_3 := cbl hb3 qr0; have qr1_3 := cbl hb3 qr1; have qr2_3 := cbl hb3 qr2; have HBT_3 := Below.cons HBT hb3)
          | (go_at_call 71; (with_reducible refine (C2_1.out _ _ _ hm).mono ?_); rintro e W4 ⟨Xz, cz, rfl, hz, hb4⟩; have ha_4 := ha_3.below hb4; have Ra_4 := Ra_3.below hb4; have qa0_4 := cbl hb4 qa0_3; have qa1_4 := cbl hb4 qa1_3; have Rr_4 := Rr_3.below hb4; have qr0_4 := cbl hb4 qr0_3; have qr1_4 := cbl hb4 qr1_3; have qr2_4 := cbl hb4 qr2_3; have hm_4 := hm.below hb4; have HBT_4 := Below.cons HBT_3 hb4; have fz0 := Rr_4.f (i := 0); have fz1 := Rr_4.f (i := 1); have fz2 := Rr_4.f (i := 2)))
      all_goals (try go_wp2_with (fail))
      have eqz : z = dmn (dval a e) := by rw [Ez.out, Em.out, hd.out, hf.out.1]
      have eqx : x = dex (dval a e) := hf.out.2
      have RS := Rr_4.store3 (.bool (sg z)) (.slice Xz (nl (mg z)) cz) (.int .i64 x)
      have e0 := RS.c (i := 0) rfl
      have e1 := RS.c (i := 1) rfl
      have e2 := RS.c (i := 2) rfl
      refine bodyPost_ret (v := .agg #[.bool (sg z), .slice Xz (nl (mg z)) cz, .int .i64 x]) (by simp [results, Tryz.results37, go_sem, e0, e1, e2]) rfl ?_
      exact ⟨Xz, cz, (by rw [eqz, eqx]), by rw [← eqz]; exact (Rr_4.keep3 (nuB rfl) hz), (Below.store3 HBT_4 (by first | exact Nat.le_refl _ | omega))⟩
theorem tmake_c (aA : Option Addr) (ac : Nat) (a : Int) (e : Int) (w : World) (ha : NatV w aA ac (mg a)) (la : nl (mg a) ≤ 1048576) (le : -1073741824 ≤ e ∧ e ≤ 1073741824) :
    Calls Tryz.prog 37 #[.agg #[.bool (sg a), .slice aA (nl (mg a)) ac], .int .i64 e] w (RetD w (dval a e)) := by
  by_cases h0 : a = 0
  · exact tmake_0 aA ac a e w ha h0
  · exact tmake_n aA ac a e w ha la le h0
end Go.Proofs.YtacjfpibilolnaaGreatDoor
