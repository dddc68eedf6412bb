/- A rational, a dyadic number, rounded, the document's way: Cut, Round. -/
import Derived.Test.YtacjfpibilolnaaGreatDoorSC44
set_option maxRecDepth 100000
set_option maxHeartbeats 4000000
set_option linter.unusedVariables false
set_option linter.unusedSimpArgs false
namespace Go.Proofs.YtacjfpibilolnaaGreatDoor
open Go.RowKit Go.Shelf
attribute [local go_sem] max2_i min2_i max_two min_two

theorem tcut_neg (aA : Option Addr) (ac : Nat) (aB : Option Addr) (ad : Nat) (a : Rat) (n : Int) (dr : Int) (w : World) (ha : NatV w aA ac (mg a.num)) (ga : NatV w aB ad a.den)   (h0 : dr < 0) :
    Calls Tryz.prog 16 #[.agg #[.bool (sg a.num), .slice aA (nl (mg a.num)) ac, .slice aB (nl a.den) ad], .int .i64 n, .int .i64 dr] w (RetDe w 0 1) := by
  have t1 : decide (dr < 0) = true := decide_eq_true h0
  obtain ⟨hb1, Ra, Rr⟩ := bx2 w #[.bool (sg a.num), .slice aA (nl (mg a.num)) ac, .slice aB (nl a.den) ad] 26 #[.bool false, .slice none 0 0, .int .i64 0] 28
  replace ha := ha.below hb1
  replace ga := ga.below hb1
  have HBT := hb1
  clear hb1
  have qa0 := Ra.c (i := 0) rfl
  have qa1 := Ra.c (i := 1) rfl
  have qa2 := Ra.c (i := 2) rfl
  have qr0 := Rr.c (i := 0) rfl
  have qr1 := Rr.c (i := 1) rfl
  have qr2 := Rr.c (i := 2) rfl
  have fzr0 := Rr.f (i := 0)
  have fzr1 := Rr.f (i := 1)
  have fzr2 := Rr.f (i := 2)
  go_enter Tryz.func16, Tryz.ntmps16
  go_wp2_with (fail)
  have RS := Rr.store3 (.bool false) (.slice none 0 0) (.int .i64 0)
  have e0 := RS.c (i := 0) rfl
  have e1 := RS.c (i := 1) rfl
  have e2 := RS.c (i := 2) rfl
  first
    | (refine bodyPost_ret (v := .tuple #[.agg #[.bool false, .slice none 0 0, .int .i64 0], .int .i64 1]) (by simp [results, Tryz.results16, go_sem, e0, e1, e2]) rfl ?_; exact ⟨none, 0, by rw [dmn_zero, dex_zero, mg0, sg0, nl_zero], nat_none _, Below.store3 HBT (by first | exact Nat.le_refl _ | omega)⟩)
    | (have e0 := Rr.c (i := 0) rfl; have e1 := Rr.c (i := 1) rfl; have e2 := Rr.c (i := 2) rfl; refine bodyPost_ret (v := .tuple #[.agg #[.bool false, .slice none 0 0, .int .i64 0], .int .i64 1]) (by simp [results, Tryz.results16, go_sem, e0, e1, e2]) rfl ?_; exact ⟨none, 0, by rw [dmn_zero, dex_zero, mg0, sg0, nl_zero], nat_none _, HBT⟩)
theorem tcut_big (aA : Option Addr) (ac : Nat) (aB : Option Addr) (ad : Nat) (a : Rat) (n : Int) (dr : Int) (w : World) (ha : NatV w aA ac (mg a.num)) (ga : NatV w aB ad a.den)   (h0 : 4 < dr) :
    Calls Tryz.prog 16 #[.agg #[.bool (sg a.num), .slice aA (nl (mg a.num)) ac, .slice aB (nl a.den) ad], .int .i64 n, .int .i64 dr] w (RetDe w 0 1) := by
  have t1 : decide (dr < 0) = false := decide_eq_false (by omega)
  have t2 : decide (4 < dr) = true := decide_eq_true h0
  obtain ⟨hb1, Ra, Rr⟩ := bx2 w #[.bool (sg a.num), .slice aA (nl (mg a.num)) ac, .slice aB (nl a.den) ad] 26 #[.bool false, .slice none 0 0, .int .i64 0] 28
  replace ha := ha.below hb1
  replace ga := ga.below hb1
  have HBT := hb1
  clear hb1
  have qa0 := Ra.c (i := 0) rfl
  have qa1 := Ra.c (i := 1) rfl
  have qa2 := Ra.c (i := 2) rfl
  have qr0 := Rr.c (i := 0) rfl
  have qr1 := Rr.c (i := 1) rfl
  have qr2 := Rr.c (i := 2) rfl
  have fzr0 := Rr.f (i := 0)
  have fzr1 := Rr.f (i := 1)
  have fzr2 := Rr.f (i := 2)
  go_enter Tryz.func16, Tryz.ntmps16
  go_wp2_with (fail)
  have RS := Rr.store3 (.bool false) (.slice none 0 0) (.int .i64 0)
  have e0 := RS.c (i := 0) rfl
  have e1 := RS.c (i := 1) rfl
  have e2 := RS.c (i := 2) rfl
  first
    | (refine bodyPost_ret (v := .tuple #[.agg #[.bool false, .slice none 0 0, .int .i64 0], .int .i64 1]) (by simp [results, Tryz.results16, go_sem, e0, e1, e2]) rfl ?_; exact ⟨none, 0, by rw [dmn_zero, dex_zero, mg0, sg0, nl_zero], nat_none _, Below.store3 HBT (by first | exact Nat.le_refl _ | omega)⟩)
    | (have e0 := Rr.c (i := 0) rfl; have e1 := Rr.c (i := 1) rfl; have e2 := Rr.c (i := 2) rfl; refine bodyPost_ret (v := .tuple #[.agg #[.bool false, .slice none 0 0, .int .i64 0], .int .i64 1]) (by simp [results, Tryz.results16, go_sem, e0, e1, e2]) rfl ?_; exact ⟨none, 0, by rw [dmn_zero, dex_zero, mg0, sg0, nl_zero], nat_none _, HBT⟩)
theorem tcut_in (aA : Option Addr) (ac : Nat) (aB : Option Addr) (ad : Nat) (a : Rat) (n : Int) (dr : Int) (w : World) (ha : NatV w aA ac (mg a.num)) (ga : NatV w aB ad a.den)   (ln : -1000000 ≤ n ∧ n ≤ 1000000) (la : nl (mg a.num) ≤ 60000) (ma : nl a.den ≤ 60000) (d0 : 0 ≤ dr) (d4 : dr ≤ 4) :
    Calls Tryz.prog 16 #[.agg #[.bool (sg a.num), .slice aA (nl (mg a.num)) ac, .slice aB (nl a.den) ad], .int .i64 n, .int .i64 dr] w (RetDe w (dval (rnd dr (a * (2 : Rat) ^ n)) (-n)) 0) := by
  have t1 : decide (dr < 0) = false := decide_eq_false (by omega)
  have t2 : decide (4 < dr) = false := decide_eq_false (by omega)
  have Wn : IntKind.i64.wrap (-n) = -n := IntWalk.i64_in _ (by omega)
  have sp := pow_sz n ln
  have sm := mul_sz a ((2 : Rat) ^ n)
  obtain ⟨p, Ep⟩ : ∃ z : Rat, z = (2 : Rat) ^ n := ⟨_, rfl⟩
  rw [← Ep] at sp sm ⊢
  obtain ⟨m, Em⟩ : ∃ z : Rat, z = a * p := ⟨_, rfl⟩
  rw [← Em] at sm ⊢
  have sr := nl_mono (rnd_abs dr m)
  replace Em := Lib.hid Em
  replace Ep := Lib.hid Ep
  obtain ⟨hb1, Ra, Rr⟩ := bx2 w #[.bool (sg a.num), .slice aA (nl (mg a.num)) ac, .slice aB (nl a.den) ad] 26 #[.bool false, .slice none 0 0, .int .i64 0] 28
  replace ha := ha.below hb1
  replace ga := ga.below hb1
  have HBT := hb1
  clear hb1
  have qa0 := Ra.c (i := 0) rfl
  have qa1 := Ra.c (i := 1) rfl
  have qa2 := Ra.c (i := 2) rfl
  have qr0 := Rr.c (i := 0) rfl
  have qr1 := Rr.c (i := 1) rfl
  have qr2 := Rr.c (i := 2) rfl
  go_enter Tryz.func16, Tryz.ntmps16
  go_wp2_with (fail)
  have hd2 := drb (((w.alloc (.cells #[.bool (sg a.num), .slice aA (nl (mg a.num)) ac, .slice aB (nl a.den) ad] 26)).alloc (.cells #[.bool false, .slice none 0 0, .int .i64 0] 28)))
  replace ha := ha.below hd2
  replace ga := ga.below hd2
  replace Ra := Ra.below hd2
  replace qa0 := cbl hd2 qa0
  replace qa1 := cbl hd2 qa1
  replace qa2 := cbl hd2 qa2
  replace Rr := Rr.below hd2
  replace qr0 := cbl hd2 qr0
  replace qr1 := cbl hd2 qr1
  replace qr2 := cbl hd2 qr2
  replace HBT := Below.cons HBT hd2
  clear hd2
  obtain ⟨u, Eu⟩ : ∃ zq : Rat, zq = p := ⟨_, rfl⟩
  have Nu : nl (mg u.num) ≤ 31251 ∧ nl u.den ≤ 31251 := by rw [Eu]; exact sp
  have C2_0 := fun (W : World) => (show Calls Tryz.prog 67 #[.int .i64 n] W (RetR W u) by rw [Eu, Ep.out]; exact tpow_c n W ln)
  replace Eu := Lib.hid Eu
  replace C2_0 := Lib.hid C2_0
  obtain ⟨v, Ev⟩ : ∃ zq : Rat, zq = m := ⟨_, rfl⟩
  have Nv : nl (mg v.num) ≤ 100000 ∧ nl v.den ≤ 100000 := by rw [Ev]; omega
  have C2_1 := fun (W : World) (A : Option Addr) (c : Nat) (B : Option Addr) (d : Nat) (h1 : NatV W aA ac (mg a.num)) (h2 : NatV W aB ad a.den) (h3 : NatV W A c (mg u.num)) (h4 : NatV W B d u.den) => (show Calls Tryz.prog 56 #[.agg #[.bool (sg a.num), .slice aA (nl (mg a.num)) ac, .slice aB (nl a.den) ad], .agg #[.bool (sg u.num), .slice A (nl (mg u.num)) c, .slice B (nl u.den) d]] W (RetR W v) by rw [Ev, Em.out, ← Eu.out]; exact r9mul_c aA ac aB ad a A c B d u W h1 h2 h3 h4 (by omega) (by omega) (by omega) (by omega))
  replace Ev := Lib.hid Ev
  replace C2_1 := Lib.hid C2_1
  obtain ⟨z, Ez⟩ : ∃ zq : Int, zq = rnd dr m := ⟨_, rfl⟩
  have Nz : nl (mg z) ≤ 1048576 := by rw [Ez]; omega
  have C2_2 := fun (W : World) (A : Option Addr) (c : Nat) (B : Option Addr) (d : Nat) (h1 : NatV W A c (mg v.num)) (h2 : NatV W B d v.den) => (show Calls Tryz.prog 66 #[.agg #[.bool (sg v.num), .slice A (nl (mg v.num)) c, .slice B (nl v.den) d], .int .i64 dr] W (RetI W z) by rw [Ez, ← Ev.out]; exact twhole_c A c B d v dr W h1 h2 Nv.1 Nv.2 d0 d4)
  replace Ez := Lib.hid Ez
  replace C2_2 := Lib.hid C2_2
  obtain ⟨x, Ex⟩ : ∃ zq : Rat, zq = dval z (-n) := ⟨_, rfl⟩
  have C2_3 := fun (W : World) (A : Option Addr) (c : Nat) (h1 : NatV W A c (mg z)) => tmake_c A c z (-n) W h1 Nz (by omega)
  simp only [← Ex] at C2_3
  replace Ex := Lib.hid Ex
  replace C2_3 := Lib.hid C2_3
  go_region_held3 (fun W => W.cell? ⟨w.heap.size, 0, none⟩ = some (.bool (sg a.num)) ∧ W.cell? ⟨w.heap.size, 1, none⟩ = some (.slice aA (nl (mg a.num)) ac) ∧ W.cell? ⟨w.heap.size, 2, none⟩ = some (.slice aB (nl a.den) ad))
    (first
      | exact ⟨qa0, qa1, qa2⟩
      | exact ⟨qa0_3, qa1_3, qa2_3⟩
      | exact ⟨qa0_4, qa1_4, qa2_4⟩
      | exact ⟨qa0_5, qa1_5, qa2_5⟩
      | exact ⟨qa0_6, qa1_6, qa2_6⟩
      | exact ⟨((Ra_6.other3 (by simp <;> omega)).c (i := 0) rfl), ((Ra_6.other3 (by simp <;> omega)).c (i := 1) rfl), ((Ra_6.other3 (by simp <;> omega)).c (i := 2) rfl)⟩
      | go_keep)
    (first
      | (go_at_call 67; (with_reducible refine (C2_0.out _).mono ?_); rintro e W3 ⟨Xu, cu, Yu, du, rfl, hu, gu, hb3⟩; have ha_3 := ha.below hb3; have ga_3 := ga.below hb3; have Ra_3 := Ra.below hb3; have qa0_3 := cbl hb3 qa0; have qa1_3 := cbl hb3 qa1; have qa2_3 := cbl hb3 qa2; have Rr_3 := Rr.below hb3; have qr0_3 := cbl hb3 qr0; have qr1_3 := cbl hb3 qr1; have qr2_3 := cbl hb3 qr2; have HBT_3 := Below.cons HBT hb3)
      | (go_at_call 56; (with_reducible refine (C2_1.out _ _ _ _ _ ha_3 ga_3 hu gu).mono ?_); rintro e W4 ⟨Xv, cv, Yv, dv, rfl, hv, gv, hb4⟩; have ha_4 := ha_3.below hb4; have ga_4 := ga_3.below hb4; have Ra_4 := Ra_3.below hb4; have qa0_4 := cbl hb4 qa0_3; have qa1_4 := cbl hb4 qa1_3; have qa2_4 := cbl hb4 qa2_3; have Rr_4 := Rr_3.below hb4; have qr0_4 := cbl hb4 qr0_3; have qr1_4 := cbl hb4 qr1_3; have qr2_4 := cbl hb4 qr2_3; have hu_4 := hu.below hb4; have gu_4 := gu.below hb4; have HBT_4 := Below.cons HBT_3 hb4)
      | (go_at_call 66; (with_reducible refine (C2_2.out _ _ _ _ _ hv gv).mono ?_); rintro e W5 ⟨Xz, cz, rfl, hz, hb5⟩; have ha_5 := ha_4.below hb5; have ga_5 := ga_4.below hb5; have Ra_5 := Ra_4.below hb5; have qa0_5 := cbl hb5 qa0_4; have qa1_5 := cbl hb5 qa1_4; have qa2_5 := cbl hb5 qa2_4; have Rr_5 := Rr_4.below hb5; have qr0_5 := cbl hb5 qr0_4; have qr1_5 := cbl hb5 qr1_4; have qr2_5 := cbl hb5 qr2_4; have hu_5 := hu_4.below hb5; have gu_5 := gu_4.below hb5; have hv_5 := hv.below hb5; have gv_5 := gv.below hb5; have HBT_5 := Below.cons HBT_4 hb5)
      | (go_at_call 37; (with_reducible refine (C2_3.out _ _ _ hz).mono ?_); rintro e W6 ⟨Xx, cx, rfl, hx, hb6⟩; have ha_6 := ha_5.below hb6; have ga_6 := ga_5.below hb6; have Ra_6 := Ra_5.below hb6; have qa0_6 := cbl hb6 qa0_5; have qa1_6 := cbl hb6 qa1_5; have qa2_6 := cbl hb6 qa2_5; have Rr_6 := Rr_5.below hb6; have qr0_6 := cbl hb6 qr0_5; have qr1_6 := cbl hb6 qr1_5; have qr2_6 := cbl hb6 qr2_5; have hu_6 := hu_5.below hb6; have gu_6 := gu_5.below hb6; have hv_6 := hv_5.below hb6; have gv_6 := gv_5.below hb6; have hz_6 := hz.below hb6; have HBT_6 := Below.cons HBT_5 hb6; have fz0 := Rr_6.f (i := 0); have fz1 := Rr_6.f (i := 1); have fz2 := Rr_6.f (i := 2)))
  all_goals (try go_wp2_with (fail))
  have eqx : x = dval (rnd dr m) (-n) := by rw [Ex.out, Ez.out]
  have RS := Rr_6.store3 (.bool (sg (dmn x))) (.slice Xx (nl (mg (dmn x))) cx) (.int .i64 (dex x))
  have e0 := RS.c (i := 0) rfl
  have e1 := RS.c (i := 1) rfl
  have e2 := RS.c (i := 2) rfl
  refine bodyPost_ret (v := .tuple #[.agg #[.bool (sg (dmn x)), .slice Xx (nl (mg (dmn x))) cx, .int .i64 (dex x)], .int .i64 0]) (by simp [results, Tryz.results16, go_sem, e0, e1, e2]) rfl ?_
  rw [← eqx]
  exact ⟨Xx, cx, rfl, Rr_6.keep3 (nuB rfl) hx, Below.store3 HBT_6 (by omega)⟩
theorem tround_in (aA : Option Addr) (ac : Nat) (a : Rat) (n : Int) (dr : Int) (w : World) (ha : NatV w aA ac (mg (dmn a)))   (oa : DOk a) (ln : -1000000 ≤ n ∧ n ≤ 1000000) (la : nl (mg a.num) ≤ 60000) (ma : nl a.den ≤ 60000) (d0 : 0 ≤ dr) (d4 : dr ≤ 4) :
    Calls Tryz.prog 18 #[.agg #[.bool (sg (dmn a)), .slice aA (nl (mg (dmn a))) ac, .int .i64 (dex a)], .int .i64 n, .int .i64 dr] w (RetDe w (dval (rnd dr (a * (2 : Rat) ^ n)) (-n)) 0) := by
  obtain ⟨y, Ey⟩ : ∃ z : Rat, z = dval (rnd dr (a * (2 : Rat) ^ n)) (-n) := ⟨_, rfl⟩
  rw [← Ey]
  replace oa := Lib.hid oa
  replace Ey := Lib.hid Ey
  obtain ⟨hb1, Ra, Rr⟩ := bx2 w #[.bool (sg (dmn a)), .slice aA (nl (mg (dmn a))) ac, .int .i64 (dex a)] 28 #[.bool false, .slice none 0 0, .int .i64 0] 28
  replace ha := ha.below hb1
  have HBT := hb1
  clear hb1
  have qa0 := Ra.c (i := 0) rfl
  have qa1 := Ra.c (i := 1) rfl
  have qa2 := Ra.c (i := 2) rfl
  have qr0 := Rr.c (i := 0) rfl
  have qr1 := Rr.c (i := 1) rfl
  have qr2 := Rr.c (i := 2) rfl
  go_enter Tryz.func18, Tryz.ntmps18
  go_wp2_with (fail)
  obtain ⟨v, Ev⟩ : ∃ zq : Rat, zq = a := ⟨_, rfl⟩
  have Nv : nl (mg v.num) ≤ 60000 ∧ nl v.den ≤ 60000 := by rw [Ev]; exact ⟨la, ma⟩
  refine (Calls.mono (R := RetR ((w.alloc (.cells #[.bool (sg (dmn a)), .slice aA (nl (mg (dmn a))) ac, .int .i64 (dex a)] 28)).alloc (.cells #[.bool false, .slice none 0 0, .int .i64 0] 28)) v) (by rw [Ev]; with_reducible exact (trat_c aA ac a _ ha oa.out)) ?_)
  replace Ev := Lib.hid Ev
  rintro e W2 ⟨Xv, cv, Yv, dv, rfl, hv, gv, hb2⟩
  replace ha := ha.below hb2
  replace Ra := Ra.below hb2
  replace qa0 := cbl hb2 qa0
  replace qa1 := cbl hb2 qa1
  replace qa2 := cbl hb2 qa2
  replace Rr := Rr.below hb2
  replace qr0 := cbl hb2 qr0
  replace qr1 := cbl hb2 qr1
  replace qr2 := cbl hb2 qr2
  replace HBT := Below.cons HBT hb2
  clear hb2
  go_wp2_with (fail)
  have CT : Calls Tryz.prog 16 #[.agg #[.bool (sg v.num), .slice Xv (nl (mg v.num)) cv, .slice Yv (nl v.den) dv], .int .i64 n, .int .i64 dr] W2 (RetDe W2 y 0) := by
    rw [Ey.out, ← Ev.out]; exact tcut_in Xv cv Yv dv v n dr _ hv gv ln Nv.1 Nv.2 d0 d4
  refine (Calls.mono CT ?_)
  clear CT
  rintro e W3 ⟨Xx, cx, rfl, hx, hb3⟩
  replace ha := ha.below hb3
  replace Ra := Ra.below hb3
  replace qa0 := cbl hb3 qa0
  replace qa1 := cbl hb3 qa1
  replace qa2 := cbl hb3 qa2
  replace Rr := Rr.below hb3
  replace qr0 := cbl hb3 qr0
  replace qr1 := cbl hb3 qr1
  replace qr2 := cbl hb3 qr2
  replace hv := hv.below hb3
  replace gv := gv.below hb3
  replace HBT := Below.cons HBT hb3
  clear hb3
  have fzr0 := Rr.f (i := 0)
  have fzr1 := Rr.f (i := 1)
  have fzr2 := Rr.f (i := 2)
  go_wp2_with (fail)
  have RS := Rr.store3 (.bool (sg (dmn y))) (.slice Xx (nl (mg (dmn y))) cx) (.int .i64 (dex y))
  have e0 := RS.c (i := 0) rfl
  have e1 := RS.c (i := 1) rfl
  have e2 := RS.c (i := 2) rfl
  refine bodyPost_ret (v := .tuple #[.agg #[.bool (sg (dmn y)), .slice Xx (nl (mg (dmn y))) cx, .int .i64 (dex y)], .int .i64 0]) (by simp [results, Tryz.results18, go_sem, e0, e1, e2]) rfl ?_
  exact ⟨Xx, cx, rfl, Rr.keep3 (nuB rfl) hx, Below.store3 HBT (by omega)⟩
theorem tround_neg (aA : Option Addr) (ac : Nat) (a : Rat) (n : Int) (dr : Int) (w : World) (ha : NatV w aA ac (mg (dmn a)))   (oa : DOk a) (la : nl (mg a.num) ≤ 60000) (ma : nl a.den ≤ 60000) (d0 : dr < 0) :
    Calls Tryz.prog 18 #[.agg #[.bool (sg (dmn a)), .slice aA (nl (mg (dmn a))) ac, .int .i64 (dex a)], .int .i64 n, .int .i64 dr] w (RetDe w 0 1) := by
  obtain ⟨y, Ey⟩ : ∃ z : Rat, z = 0 := ⟨_, rfl⟩
  rw [← Ey]
  replace oa := Lib.hid oa
  replace Ey := Lib.hid Ey
  obtain ⟨hb1, Ra, Rr⟩ := bx2 w #[.bool (sg (dmn a)), .slice aA (nl (mg (dmn a))) ac, .int .i64 (dex a)] 28 #[.bool false, .slice none 0 0, .int .i64 0] 28
  replace ha := ha.below hb1
  have HBT := hb1
  clear hb1
  have qa0 := Ra.c (i := 0) rfl
  have qa1 := Ra.c (i := 1) rfl
  have qa2 := Ra.c (i := 2) rfl
  have qr0 := Rr.c (i := 0) rfl
  have qr1 := Rr.c (i := 1) rfl
  have qr2 := Rr.c (i := 2) rfl
  go_enter Tryz.func18, Tryz.ntmps18
  go_wp2_with (fail)
  obtain ⟨v, Ev⟩ : ∃ zq : Rat, zq = a := ⟨_, rfl⟩
  have Nv : nl (mg v.num) ≤ 60000 ∧ nl v.den ≤ 60000 := by rw [Ev]; exact ⟨la, ma⟩
  refine (Calls.mono (R := RetR ((w.alloc (.cells #[.bool (sg (dmn a)), .slice aA (nl (mg (dmn a))) ac, .int .i64 (dex a)] 28)).alloc (.cells #[.bool false, .slice none 0 0, .int .i64 0] 28)) v) (by rw [Ev]; with_reducible exact (trat_c aA ac a _ ha oa.out)) ?_)
  replace Ev := Lib.hid Ev
  rintro e W2 ⟨Xv, cv, Yv, dv, rfl, hv, gv, hb2⟩
  replace ha := ha.below hb2
  replace Ra := Ra.below hb2
  replace qa0 := cbl hb2 qa0
  replace qa1 := cbl hb2 qa1
  replace qa2 := cbl hb2 qa2
  replace Rr := Rr.below hb2
  replace qr0 := cbl hb2 qr0
  replace qr1 := cbl hb2 qr1
  replace qr2 := cbl hb2 qr2
  replace HBT := Below.cons HBT hb2
  clear hb2
  go_wp2_with (fail)
  have CT : Calls Tryz.prog 16 #[.agg #[.bool (sg v.num), .slice Xv (nl (mg v.num)) cv, .slice Yv (nl v.den) dv], .int .i64 n, .int .i64 dr] W2 (RetDe W2 y 1) := by
    rw [Ey.out]; exact tcut_neg Xv cv Yv dv v n dr _ hv gv d0
  refine (Calls.mono CT ?_)
  clear CT
  rintro e W3 ⟨Xx, cx, rfl, hx, hb3⟩
  replace ha := ha.below hb3
  replace Ra := Ra.below hb3
  replace qa0 := cbl hb3 qa0
  replace qa1 := cbl hb3 qa1
  replace qa2 := cbl hb3 qa2
  replace Rr := Rr.below hb3
  replace qr0 := cbl hb3 qr0
  replace qr1 := cbl hb3 qr1
  replace qr2 := cbl hb3 qr2
  replace hv := hv.below hb3
  replace gv := gv.below hb3
  replace HBT := Below.cons HBT hb3
  clear hb3
  have fzr0 := Rr.f (i := 0)
  have fzr1 := Rr.f (i := 1)
  have fzr2 := Rr.f (i := 2)
  go_wp2_with (fail)
  have RS := Rr.store3 (.bool (sg (dmn y))) (.slice Xx (nl (mg (dmn y))) cx) (.int .i64 (dex y))
  have e0 := RS.c (i := 0) rfl
  have e1 := RS.c (i := 1) rfl
  have e2 := RS.c (i := 2) rfl
  refine bodyPost_ret (v := .tuple #[.agg #[.bool (sg (dmn y)), .slice Xx (nl (mg (dmn y))) cx, .int .i64 (dex y)], .int .i64 1]) (by simp [results, Tryz.results18, go_sem, e0, e1, e2]) rfl ?_
  exact ⟨Xx, cx, rfl, Rr.keep3 (nuB rfl) hx, Below.store3 HBT (by omega)⟩
theorem tround_big (aA : Option Addr) (ac : Nat) (a : Rat) (n : Int) (dr : Int) (w : World) (ha : NatV w aA ac (mg (dmn a)))   (oa : DOk a) (la : nl (mg a.num) ≤ 60000) (ma : nl a.den ≤ 60000) (d0 : 4 < dr) :
    Calls Tryz.prog 18 #[.agg #[.bool (sg (dmn a)), .slice aA (nl (mg (dmn a))) ac, .int .i64 (dex a)], .int .i64 n, .int .i64 dr] w (RetDe w 0 1) := by
  obtain ⟨y, Ey⟩ : ∃ z : Rat, z = 0 := ⟨_, rfl⟩
  rw [← Ey]
  replace oa := Lib.hid oa
  replace Ey := Lib.hid Ey
  obtain ⟨hb1, Ra, Rr⟩ := bx2 w #[.bool (sg (dmn a)), .slice aA (nl (mg (dmn a))) ac, .int .i64 (dex a)] 28 #[.bool false, .slice none 0 0, .int .i64 0] 28
  replace ha := ha.below hb1
  have HBT := hb1
  clear hb1
  have qa0 := Ra.c (i := 0) rfl
  have qa1 := Ra.c (i := 1) rfl
  have qa2 := Ra.c (i := 2) rfl
  have qr0 := Rr.c (i := 0) rfl
  have qr1 := Rr.c (i := 1) rfl
  have qr2 := Rr.c (i := 2) rfl
  go_enter Tryz.func18, Tryz.ntmps18
  go_wp2_with (fail)
  obtain ⟨v, Ev⟩ : ∃ zq : Rat, zq = a := ⟨_, rfl⟩
  have Nv : nl (mg v.num) ≤ 60000 ∧ nl v.den ≤ 60000 := by rw [Ev]; exact ⟨la, ma⟩
  refine (Calls.mono (R := RetR ((w.alloc (.cells #[.bool (sg (dmn a)), .slice aA (nl (mg (dmn a))) ac, .int .i64 (dex a)] 28)).alloc (.cells #[.bool false, .slice none 0 0, .int .i64 0] 28)) v) (by rw [Ev]; with_reducible exact (trat_c aA ac a _ ha oa.out)) ?_)
  replace Ev := Lib.hid Ev
  rintro e W2 ⟨Xv, cv, Yv, dv, rfl, hv, gv, hb2⟩
  replace ha := ha.below hb2
  replace Ra := Ra.below hb2
  replace qa0 := cbl hb2 qa0
  replace qa1 := cbl hb2 qa1
  replace qa2 := cbl hb2 qa2
  replace Rr := Rr.below hb2
  replace qr0 := cbl hb2 qr0
  replace qr1 := cbl hb2 qr1
  replace qr2 := cbl hb2 qr2
  replace HBT := Below.cons HBT hb2
  clear hb2
  go_wp2_with (fail)
  have CT : Calls Tryz.prog 16 #[.agg #[.bool (sg v.num), .slice Xv (nl (mg v.num)) cv, .slice Yv (nl v.den) dv], .int .i64 n, .int .i64 dr] W2 (RetDe W2 y 1) := by
    rw [Ey.out]; exact tcut_big Xv cv Yv dv v n dr _ hv gv d0
  refine (Calls.mono CT ?_)
  clear CT
  rintro e W3 ⟨Xx, cx, rfl, hx, hb3⟩
  replace ha := ha.below hb3
  replace Ra := Ra.below hb3
  replace qa0 := cbl hb3 qa0
  replace qa1 := cbl hb3 qa1
  replace qa2 := cbl hb3 qa2
  replace Rr := Rr.below hb3
  replace qr0 := cbl hb3 qr0
  replace qr1 := cbl hb3 qr1
  replace qr2 := cbl hb3 qr2
  replace hv := hv.below hb3
  replace gv := gv.below hb3
  replace HBT := Below.cons HBT hb3
  clear hb3
  have fzr0 := Rr.f (i := 0)
  have fzr1 := Rr.f (i := 1)
  have fzr2 := Rr.f (i := 2)
  go_wp2_with (fail)
  have RS := Rr.store3 (.bool (sg (dmn y))) (.slice Xx (nl (mg (dmn y))) cx) (.int .i64 (dex y))
  have e0 := RS.c (i := 0) rfl
  have e1 := RS.c (i := 1) rfl
  have e2 := RS.c (i := 2) rfl
  refine bodyPost_ret (v := .tuple #[.agg #[.bool (sg (dmn y)), .slice Xx (nl (mg (dmn y))) cx, .int .i64 (dex y)], .int .i64 1]) (by simp [results, Tryz.results18, go_sem, e0, e1, e2]) rfl ?_
  exact ⟨Xx, cx, rfl, Rr.keep3 (nuB rfl) hx, Below.store3 HBT (by omega)⟩
end Go.Proofs.YtacjfpibilolnaaGreatDoor
