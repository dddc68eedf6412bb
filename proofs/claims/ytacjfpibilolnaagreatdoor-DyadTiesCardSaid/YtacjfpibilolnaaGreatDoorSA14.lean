/- A rational, a dyadic number, rounded, the document's way: Cut, Round. -/
import Derived.Test.YtacjfpibilolnaaGreatDoorSA13
import Derived.Test.YtacjfpibilolnaaGreatDoorRows
import Derived.Deep.Strs
import Derived.ProofKit
import Derived.LaidMore
import Derived.OpenShut
import Derived.Stop.Joined
import Derived.Deep.Slices
import Derived.Below
import Derived.Carry
import Derived.Test.YtacjfpibilolnaaGreatDoorSA01
import Derived.Deep.RegionHeld3
set_option linter.unusedVariables false
set_option linter.unusedSimpArgs false
namespace Go.Proofs.YtacjfpibilolnaaGreatDoor
open Go.RowKit Go.Shelf
attribute [local go_sem] max2_i min2_i max_two min_two

set_option maxRecDepth 100000 in
set_option maxHeartbeats 1000000 in
theorem tcut_neg (aA : Option Addr) (ac : Nat) (aB : Option Addr) (ad : Nat) (a : Rat) (n : Int) (dr : Int) (w : World) (ha : NatV w aA ac (mg a.num)) (ga : NatV w aB ad a.den)   (h0 : dr < 0) :
    Calls Tryz.prog 16 #[.agg #[.bool (sg a.num), .slice aA (nl (mg a.num)) ac, .slice aB (nl a.den) ad], .int .i64 n, .int .i64 dr] w (RetDe w 0 1) := by
  have t1 : decide (dr < 0) = true := decide_eq_true h0
  have hb1 : Below (w).heap.size (w) ((w.alloc (.cells #[.bool (sg a.num), .slice aA (nl (mg a.num)) ac, .slice aB (nl a.den) ad] 26)).alloc (.cells #[.bool false, .slice none 0 0, .int .i64 0] 28)) := (Below.alloc (Below.alloc (Below.refl _ _) (Nat.le_refl _) _) (by simp <;> omega) _)
  replace ha := ha.below hb1
  replace ga := ga.below hb1
  have HBT := hb1
  clear hb1
  have Ra : BoxA ((w.alloc (.cells #[.bool (sg a.num), .slice aA (nl (mg a.num)) ac, .slice aB (nl a.den) ad] 26)).alloc (.cells #[.bool false, .slice none 0 0, .int .i64 0] 28)) w.heap.size 26 #[.bool (sg a.num), .slice aA (nl (mg a.num)) ac, .slice aB (nl a.den) ad] := ⟨by repeat (first | exact at_new (by first | (simp; done) | (simp; omega)) | refine at_old (by first | (simp; done) | (simp; omega)) ?_)⟩
  have qa0 := Ra.c (i := 0) rfl
  have qa1 := Ra.c (i := 1) rfl
  have qa2 := Ra.c (i := 2) rfl
  have Rr : BoxA ((w.alloc (.cells #[.bool (sg a.num), .slice aA (nl (mg a.num)) ac, .slice aB (nl a.den) ad] 26)).alloc (.cells #[.bool false, .slice none 0 0, .int .i64 0] 28)) (w.heap.size + 1) 28 #[.bool false, .slice none 0 0, .int .i64 0] := ⟨by repeat (first | exact at_new (by first | (simp; done) | (simp; omega)) | refine at_old (by first | (simp; done) | (simp; omega)) ?_)⟩
  have qr0 := Rr.c (i := 0) rfl
  have qr1 := Rr.c (i := 1) rfl
  have qr2 := Rr.c (i := 2) rfl
  have fzr0 := Rr.f (i := 0)
  have fzr1 := Rr.f (i := 1)
  have fzr2 := Rr.f (i := 2)
  go_enter Tryz.func16, Tryz.ntmps16
  go_wp2_with (fail)
  have RS := Rr.store3 (.bool false) (.slice none 0 0) (.int .i64 0)
  have e0 := RS.c (i := 0) rfl
  have e1 := RS.c (i := 1) rfl
  have e2 := RS.c (i := 2) rfl
  first
    | (refine bodyPost_ret (v := .tuple #[.agg #[.bool false, .slice none 0 0, .int .i64 0], .int .i64 1]) (by simp [results, Tryz.results16, go_sem, e0, e1, e2]) rfl ?_; exact ⟨none, 0, by rw [dmn_zero, dex_zero, mg0, sg0, nl_zero], nat_none _, Below.store3 HBT (by first | exact Nat.le_refl _ | omega)⟩)
    | (have e0 := Rr.c (i := 0) rfl; have e1 := Rr.c (i := 1) rfl; have e2 := Rr.c (i := 2) rfl; refine bodyPost_ret (v := .tuple #[.agg #[.bool false, .slice none 0 0, .int .i64 0], .int .i64 1]) (by simp [results, Tryz.results16, go_sem, e0, e1, e2]) rfl ?_; exact ⟨none, 0, by rw [dmn_zero, dex_zero, mg0, sg0, nl_zero], nat_none _, HBT⟩)
set_option maxRecDepth 100000 in
set_option maxHeartbeats 1000000 in
theorem tcut_big (aA : Option Addr) (ac : Nat) (aB : Option Addr) (ad : Nat) (a : Rat) (n : Int) (dr : Int) (w : World) (ha : NatV w aA ac (mg a.num)) (ga : NatV w aB ad a.den)   (h0 : 4 < dr) :
    Calls Tryz.prog 16 #[.agg #[.bool (sg a.num), .slice aA (nl (mg a.num)) ac, .slice aB (nl a.den) ad], .int .i64 n, .int .i64 dr] w (RetDe w 0 1) := by
  have t1 : decide (dr < 0) = false := decide_eq_false (by omega)
  have t2 : decide (4 < dr) = true := decide_eq_true h0
  have hb1 : Below (w).heap.size (w) ((w.alloc (.cells #[.bool (sg a.num), .slice aA (nl (mg a.num)) ac, .slice aB (nl a.den) ad] 26)).alloc (.cells #[.bool false, .slice none 0 0, .int .i64 0] 28)) := (Below.alloc (Below.alloc (Below.refl _ _) (Nat.le_refl _) _) (by simp <;> omega) _)
  replace ha := ha.below hb1
  replace ga := ga.below hb1
  have HBT := hb1
  clear hb1
  have Ra : BoxA ((w.alloc (.cells #[.bool (sg a.num), .slice aA (nl (mg a.num)) ac, .slice aB (nl a.den) ad] 26)).alloc (.cells #[.bool false, .slice none 0 0, .int .i64 0] 28)) w.heap.size 26 #[.bool (sg a.num), .slice aA (nl (mg a.num)) ac, .slice aB (nl a.den) ad] := ⟨by repeat (first | exact at_new (by first | (simp; done) | (simp; omega)) | refine at_old (by first | (simp; done) | (simp; omega)) ?_)⟩
  have qa0 := Ra.c (i := 0) rfl
  have qa1 := Ra.c (i := 1) rfl
  have qa2 := Ra.c (i := 2) rfl
  have Rr : BoxA ((w.alloc (.cells #[.bool (sg a.num), .slice aA (nl (mg a.num)) ac, .slice aB (nl a.den) ad] 26)).alloc (.cells #[.bool false, .slice none 0 0, .int .i64 0] 28)) (w.heap.size + 1) 28 #[.bool false, .slice none 0 0, .int .i64 0] := ⟨by repeat (first | exact at_new (by first | (simp; done) | (simp; omega)) | refine at_old (by first | (simp; done) | (simp; omega)) ?_)⟩
  have qr0 := Rr.c (i := 0) rfl
  have qr1 := Rr.c (i := 1) rfl
  have qr2 := Rr.c (i := 2) rfl
  have fzr0 := Rr.f (i := 0)
  have fzr1 := Rr.f (i := 1)
  have fzr2 := Rr.f (i := 2)
  go_enter Tryz.func16, Tryz.ntmps16
  go_wp2_with (fail)
  have RS := Rr.store3 (.bool false) (.slice none 0 0) (.int .i64 0)
  have e0 := RS.c (i := 0) rfl
  have e1 := RS.c (i := 1) rfl
  have e2 := RS.c (i := 2) rfl
  first
    | (refine bodyPost_ret (v := .tuple #[.agg #[.bool false, .slice none 0 0, .int .i64 0], .int .i64 1]) (by simp [results, Tryz.results16, go_sem, e0, e1, e2]) rfl ?_; exact ⟨none, 0, by rw [dmn_zero, dex_zero, mg0, sg0, nl_zero], nat_none _, Below.store3 HBT (by first | exact Nat.le_refl _ | omega)⟩)
    | (have e0 := Rr.c (i := 0) rfl; have e1 := Rr.c (i := 1) rfl; have e2 := Rr.c (i := 2) rfl; refine bodyPost_ret (v := .tuple #[.agg #[.bool false, .slice none 0 0, .int .i64 0], .int .i64 1]) (by simp [results, Tryz.results16, go_sem, e0, e1, e2]) rfl ?_; exact ⟨none, 0, by rw [dmn_zero, dex_zero, mg0, sg0, nl_zero], nat_none _, HBT⟩)
set_option maxRecDepth 100000 in
set_option maxHeartbeats 1000000 in
theorem tcut_in (aA : Option Addr) (ac : Nat) (aB : Option Addr) (ad : Nat) (a : Rat) (n : Int) (dr : Int) (w : World) (ha : NatV w aA ac (mg a.num)) (ga : NatV w aB ad a.den)   (ln : -1000000 ≤ n ∧ n ≤ 1000000) (la : nl (mg a.num) ≤ 60000) (ma : nl a.den ≤ 60000) (d0 : 0 ≤ dr) (d4 : dr ≤ 4) :
    Calls Tryz.prog 16 #[.agg #[.bool (sg a.num), .slice aA (nl (mg a.num)) ac, .slice aB (nl a.den) ad], .int .i64 n, .int .i64 dr] w (RetDe w (dval (rnd dr (a * (2 : Rat) ^ n)) (-n)) 0) := by
  have t1 : decide (dr < 0) = false := decide_eq_false (by omega)
  have t2 : decide (4 < dr) = false := decide_eq_false (by omega)
  have Wn : IntKind.i64.wrap (-n) = -n := IntWalk.i64_in _ (by omega)
  have sp := pow_sz n ln
  have sm := mul_sz a ((2 : Rat) ^ n)
  obtain ⟨p, Ep⟩ : ∃ z : Rat, z = (2 : Rat) ^ n := ⟨_, rfl⟩
  rw [← Ep] at sp sm ⊢
  obtain ⟨m, Em⟩ : ∃ z : Rat, z = a * p := ⟨_, rfl⟩
  rw [← Em] at sm ⊢
  have sr := nl_mono (rnd_abs dr m)
  replace Em := Lib.hid Em
  replace Ep := Lib.hid Ep
  have hb1 : Below (w).heap.size (w) ((w.alloc (.cells #[.bool (sg a.num), .slice aA (nl (mg a.num)) ac, .slice aB (nl a.den) ad] 26)).alloc (.cells #[.bool false, .slice none 0 0, .int .i64 0] 28)) := (Below.alloc (Below.alloc (Below.refl _ _) (Nat.le_refl _) _) (by simp <;> omega) _)
  replace ha := ha.below hb1
  replace ga := ga.below hb1
  have HBT := hb1
  clear hb1
  have Ra : BoxA ((w.alloc (.cells #[.bool (sg a.num), .slice aA (nl (mg a.num)) ac, .slice aB (nl a.den) ad] 26)).alloc (.cells #[.bool false, .slice none 0 0, .int .i64 0] 28)) w.heap.size 26 #[.bool (sg a.num), .slice aA (nl (mg a.num)) ac, .slice aB (nl a.den) ad] := ⟨by repeat (first | exact at_new (by first | (simp; done) | (simp; omega)) | refine at_old (by first | (simp; done) | (simp; omega)) ?_)⟩
  have qa0 := Ra.c (i := 0) rfl
  have qa1 := Ra.c (i := 1) rfl
  have qa2 := Ra.c (i := 2) rfl
  have Rr : BoxA ((w.alloc (.cells #[.bool (sg a.num), .slice aA (nl (mg a.num)) ac, .slice aB (nl a.den) ad] 26)).alloc (.cells #[.bool false, .slice none 0 0, .int .i64 0] 28)) (w.heap.size + 1) 28 #[.bool false, .slice none 0 0, .int .i64 0] := ⟨by repeat (first | exact at_new (by first | (simp; done) | (simp; omega)) | refine at_old (by first | (simp; done) | (simp; omega)) ?_)⟩
  have qr0 := Rr.c (i := 0) rfl
  have qr1 := Rr.c (i := 1) rfl
  have qr2 := Rr.c (i := 2) rfl
  go_enter Tryz.func16, Tryz.ntmps16
  go_wp2_with (fail)
  have hd2 : Below (((w.alloc (.cells #[.bool (sg a.num), .slice aA (nl (mg a.num)) ac, .slice aB (nl a.den) ad] 26)).alloc (.cells #[.bool false, .slice none 0 0, .int .i64 0] 28))).heap.size ((w.alloc (.cells #[.bool (sg a.num), .slice aA (nl (mg a.num)) ac, .slice aB (nl a.den) ad] 26)).alloc (.cells #[.bool false, .slice none 0 0, .int .i64 0] 28)) (((w.alloc (.cells #[.bool (sg a.num), .slice aA (nl (mg a.num)) ac, .slice aB (nl a.den) ad] 26)).alloc (.cells #[.bool false, .slice none 0 0, .int .i64 0] 28))).drew := (Below.refl _ _).drew
  replace ha := ha.below hd2
  replace ga := ga.below hd2
  replace Ra := Ra.below hd2
  replace qa0 := cell_below hd2 qa0
  replace qa1 := cell_below hd2 qa1
  replace qa2 := cell_below hd2 qa2
  replace Rr := Rr.below hd2
  replace qr0 := cell_below hd2 qr0
  replace qr1 := cell_below hd2 qr1
  replace qr2 := cell_below hd2 qr2
  replace HBT := Below.cons HBT hd2
  clear hd2
  obtain ⟨u, Eu⟩ : ∃ zq : Rat, zq = p := ⟨_, rfl⟩
  have Nu : nl (mg u.num) ≤ 31251 ∧ nl u.den ≤ 31251 := by rw [Eu]; exact sp
  have C2_0 := fun (W : World) => (show Calls Tryz.prog 67 #[.int .i64 n] W (RetR W u) by rw [Eu, Ep.out]; exact tpow_c n W ln)
  replace Eu := Lib.hid Eu
  replace C2_0 := Lib.hid C2_0
  obtain ⟨v, Ev⟩ : ∃ zq : Rat, zq = m := ⟨_, rfl⟩
  have Nv : nl (mg v.num) ≤ 100000 ∧ nl v.den ≤ 100000 := by rw [Ev]; omega
  have C2_1 := fun (W : World) (A : Option Addr) (c : Nat) (B : Option Addr) (d : Nat) (h1 : NatV W aA ac (mg a.num)) (h2 : NatV W aB ad a.den) (h3 : NatV W A c (mg u.num)) (h4 : NatV W B d u.den) => (show Calls Tryz.prog 56 #[.agg #[.bool (sg a.num), .slice aA (nl (mg a.num)) ac, .slice aB (nl a.den) ad], .agg #[.bool (sg u.num), .slice A (nl (mg u.num)) c, .slice B (nl u.den) d]] W (RetR W v) by rw [Ev, Em.out, ← Eu.out]; exact r9mul_c aA ac aB ad a A c B d u W h1 h2 h3 h4 (by omega) (by omega) (by omega) (by omega))
  replace Ev := Lib.hid Ev
  replace C2_1 := Lib.hid C2_1
  obtain ⟨z, Ez⟩ : ∃ zq : Int, zq = rnd dr m := ⟨_, rfl⟩
  have Nz : nl (mg z) ≤ 1048576 := by rw [Ez]; omega
  have C2_2 := fun (W : World) (A : Option Addr) (c : Nat) (B : Option Addr) (d : Nat) (h1 : NatV W A c (mg v.num)) (h2 : NatV W B d v.den) => (show Calls Tryz.prog 66 #[.agg #[.bool (sg v.num), .slice A (nl (mg v.num)) c, .slice B (nl v.den) d], .int .i64 dr] W (RetI W z) by rw [Ez, ← Ev.out]; exact twhole_c A c B d v dr W h1 h2 Nv.1 Nv.2 d0 d4)
  replace Ez := Lib.hid Ez
  replace C2_2 := Lib.hid C2_2
  obtain ⟨x, Ex⟩ : ∃ zq : Rat, zq = dval z (-n) := ⟨_, rfl⟩
  have C2_3 := fun (W : World) (A : Option Addr) (c : Nat) (h1 : NatV W A c (mg z)) => tmake_c A c z (-n) W h1 Nz (by omega)
  simp only [← Ex] at C2_3
  replace Ex := Lib.hid Ex
  replace C2_3 := Lib.hid C2_3
  go_region_held3 (fun W => W.cell? ⟨w.heap.size, 0, none⟩ = some (.bool (sg a.num)) ∧ W.cell? ⟨w.heap.size, 1, none⟩ = some (.slice aA (nl (mg a.num)) ac) ∧ W.cell? ⟨w.heap.size, 2, none⟩ = some (.slice aB (nl a.den) ad))
    (first
      | exact ⟨qa0, qa1, qa2⟩
      | exact ⟨qa0_3, qa1_3, qa2_3⟩
      | exact ⟨qa0_4, qa1_4, qa2_4⟩
      | exact ⟨qa0_5, qa1_5, qa2_5⟩
      | exact ⟨qa0_6, qa1_6, qa2_6⟩
      | exact ⟨((Ra_6.other3 (by simp <;> omega)).c (i := 0) rfl), ((Ra_6.other3 (by simp <;> omega)).c (i := 1) rfl), ((Ra_6.other3 (by simp <;> omega)).c (i := 2) rfl)⟩
      | go_keep)
    (first
      | (go_at_call 67; (with_reducible refine (C2_0.out _).mono ?_); rintro e W3 ⟨Xu, cu, Yu, du, rfl, hu, gu, hb3⟩; have ha_3 := ha.below hb3; have ga_3 := ga.below hb3; have Ra_3 := Ra.below hb3; have qa0_3 := cell_below hb3 qa0; have qa1_3 := cell_below hb3 qa1; have qa2_3 := cell_below hb3 qa2; have Rr_3 := Rr.below hb3; have qr0_3 := cell_below hb3 qr0; have qr1_3 := cell_below hb3 qr1; have qr2_3 := cell_below hb3 qr2; have HBT_3 := Below.cons HBT hb3)
      | (go_at_call 56; (with_reducible refine (C2_1.out _ _ _ _ _ ha_3 ga_3 hu gu).mono ?_); rintro e W4 ⟨Xv, cv, Yv, dv, rfl, hv, gv, hb4⟩; have ha_4 := ha_3.below hb4; have ga_4 := ga_3.below hb4; have Ra_4 := Ra_3.below hb4; have qa0_4 := cell_below hb4 qa0_3; have qa1_4 := cell_below hb4 qa1_3; have qa2_4 := cell_below hb4 qa2_3; have Rr_4 := Rr_3.below hb4; have qr0_4 := cell_below hb4 qr0_3; have qr1_4 := cell_below hb4 qr1_3; have qr2_4 := cell_below hb4 qr2_3; have hu_4 := hu.below hb4; have gu_4 := gu.below hb4; have HBT_4 := Below.cons HBT_3 hb4)
      | (go_at_call 66; (with_reducible refine (C2_2.out _ _ _ _ _ hv gv).mono ?_); rintro e W5 ⟨Xz, cz, rfl, hz, hb5⟩; have ha_5 := ha_4.below hb5; have ga_5 := ga_4.below hb5; have Ra_5 := Ra_4.below hb5; have qa0_5 := cell_below hb5 qa0_4; have qa1_5 := cell_below hb5 qa1_4; have qa2_5 := cell_below hb5 qa2_4; have Rr_5 := Rr_4.below hb5; have qr0_5 := cell_below hb5 qr0_4; have qr1_5 := cell_below hb5 qr1_4; have qr2_5 := cell_below hb5 qr2_4; have hu_5 := hu_4.below hb5; have gu_5 := gu_4.below hb5; have hv_5 := hv.below hb5; have gv_5 := gv.below hb5; have HBT_5 := Below.cons HBT_4 hb5)
      | (go_at_call 37; (with_reducible refine (C2_3.out _ _ _ hz).mono ?_); rintro e W6 ⟨Xx, cx, rfl, hx, hb6⟩; have ha_6 := ha_5.below hb6; have ga_6 := ga_5.below hb6; have Ra_6 := Ra_5.below hb6; have qa0_6 := cell_below hb6 qa0_5; have qa1_6 := cell_below hb6 qa1_5; have qa2_6 := cell_below hb6 qa2_5; have Rr_6 := Rr_5.below hb6; have qr0_6 := cell_below hb6 qr0_5; have qr1_6 := cell_below hb6 qr1_5; have qr2_6 := cell_below hb6 qr2_5; have hu_6 := hu_5.below hb6; have gu_6 := gu_5.below hb6; have hv_6 := hv_5.below hb6; have gv_6 := gv_5.below hb6; have hz_6 := hz.below hb6; have HBT_6 := Below.cons HBT_5 hb6; have fz0 := Rr_6.f (i := 0); have fz1 := Rr_6.f (i := 1); have fz2 := Rr_6.f (i := 2)))
  all_goals (try go_wp2_with (fail))
  have eqx : x = dval (rnd dr m) (-n) := by rw [Ex.out, Ez.out]
  have RS := Rr_6.store3 (.bool (sg (dmn x))) (.slice Xx (nl (mg (dmn x))) cx) (.int .i64 (dex x))
  have e0 := RS.c (i := 0) rfl
  have e1 := RS.c (i := 1) rfl
  have e2 := RS.c (i := 2) rfl
  refine bodyPost_ret (v := .tuple #[.agg #[.bool (sg (dmn x)), .slice Xx (nl (mg (dmn x))) cx, .int .i64 (dex x)], .int .i64 0]) (by simp [results, Tryz.results16, go_sem, e0, e1, e2]) rfl ?_
  rw [← eqx]
  exact ⟨Xx, cx, rfl, Rr_6.keep3 (by intro u hu; simp at hu; rcases hu with rfl | rfl | rfl <;> first | exact notU_bool _ | exact notU_slice _ _ _ | exact notU_i64 _) hx, Below.store3 HBT_6 (by omega)⟩
set_option maxRecDepth 100000 in
set_option maxHeartbeats 1000000 in
theorem tround_in (aA : Option Addr) (ac : Nat) (a : Rat) (n : Int) (dr : Int) (w : World) (ha : NatV w aA ac (mg (dmn a)))   (oa : DOk a) (ln : -1000000 ≤ n ∧ n ≤ 1000000) (la : nl (mg a.num) ≤ 60000) (ma : nl a.den ≤ 60000) (d0 : 0 ≤ dr) (d4 : dr ≤ 4) :
    Calls Tryz.prog 18 #[.agg #[.bool (sg (dmn a)), .slice aA (nl (mg (dmn a))) ac, .int .i64 (dex a)], .int .i64 n, .int .i64 dr] w (RetDe w (dval (rnd dr (a * (2 : Rat) ^ n)) (-n)) 0) := by
  obtain ⟨y, Ey⟩ : ∃ z : Rat, z = dval (rnd dr (a * (2 : Rat) ^ n)) (-n) := ⟨_, rfl⟩
  rw [← Ey]
  replace oa := Lib.hid oa
  replace Ey := Lib.hid Ey
  have hb1 : Below (w).heap.size (w) ((w.alloc (.cells #[.bool (sg (dmn a)), .slice aA (nl (mg (dmn a))) ac, .int .i64 (dex a)] 28)).alloc (.cells #[.bool false, .slice none 0 0, .int .i64 0] 28)) := (Below.alloc (Below.alloc (Below.refl _ _) (Nat.le_refl _) _) (by simp <;> omega) _)
  replace ha := ha.below hb1
  have HBT := hb1
  clear hb1
  have Ra : BoxA ((w.alloc (.cells #[.bool (sg (dmn a)), .slice aA (nl (mg (dmn a))) ac, .int .i64 (dex a)] 28)).alloc (.cells #[.bool false, .slice none 0 0, .int .i64 0] 28)) w.heap.size 28 #[.bool (sg (dmn a)), .slice aA (nl (mg (dmn a))) ac, .int .i64 (dex a)] := ⟨by repeat (first | exact at_new (by first | (simp; done) | (simp; omega)) | refine at_old (by first | (simp; done) | (simp; omega)) ?_)⟩
  have qa0 := Ra.c (i := 0) rfl
  have qa1 := Ra.c (i := 1) rfl
  have qa2 := Ra.c (i := 2) rfl
  have Rr : BoxA ((w.alloc (.cells #[.bool (sg (dmn a)), .slice aA (nl (mg (dmn a))) ac, .int .i64 (dex a)] 28)).alloc (.cells #[.bool false, .slice none 0 0, .int .i64 0] 28)) (w.heap.size + 1) 28 #[.bool false, .slice none 0 0, .int .i64 0] := ⟨by repeat (first | exact at_new (by first | (simp; done) | (simp; omega)) | refine at_old (by first | (simp; done) | (simp; omega)) ?_)⟩
  have qr0 := Rr.c (i := 0) rfl
  have qr1 := Rr.c (i := 1) rfl
  have qr2 := Rr.c (i := 2) rfl
  go_enter Tryz.func18, Tryz.ntmps18
  go_wp2_with (fail)
  obtain ⟨v, Ev⟩ : ∃ zq : Rat, zq = a := ⟨_, rfl⟩
  have Nv : nl (mg v.num) ≤ 60000 ∧ nl v.den ≤ 60000 := by rw [Ev]; exact ⟨la, ma⟩
  refine (Calls.mono (R := RetR ((w.alloc (.cells #[.bool (sg (dmn a)), .slice aA (nl (mg (dmn a))) ac, .int .i64 (dex a)] 28)).alloc (.cells #[.bool false, .slice none 0 0, .int .i64 0] 28)) v) (by rw [Ev]; with_reducible exact (trat_c aA ac a _ ha oa.out)) ?_)
  replace Ev := Lib.hid Ev
  rintro e W2 ⟨Xv, cv, Yv, dv, rfl, hv, gv, hb2⟩
  replace ha := ha.below hb2
  replace Ra := Ra.below hb2
  replace qa0 := cell_below hb2 qa0
  replace qa1 := cell_below hb2 qa1
  replace qa2 := cell_below hb2 qa2
  replace Rr := Rr.below hb2
  replace qr0 := cell_below hb2 qr0
  replace qr1 := cell_below hb2 qr1
  replace qr2 := cell_below hb2 qr2
  replace HBT := Below.cons HBT hb2
  clear hb2
  go_wp2_with (fail)
  have CT : Calls Tryz.prog 16 #[.agg #[.bool (sg v.num), .slice Xv (nl (mg v.num)) cv, .slice Yv (nl v.den) dv], .int .i64 n, .int .i64 dr] W2 (RetDe W2 y 0) := by
    rw [Ey.out, ← Ev.out]; exact tcut_in Xv cv Yv dv v n dr _ hv gv ln Nv.1 Nv.2 d0 d4
  refine (Calls.mono CT ?_)
  clear CT
  rintro e W3 ⟨Xx, cx, rfl, hx, hb3⟩
  replace ha := ha.below hb3
  replace Ra := Ra.below hb3
  replace qa0 := cell_below hb3 qa0
  replace qa1 := cell_below hb3 qa1
  replace qa2 := cell_below hb3 qa2
  replace Rr := Rr.below hb3
  replace qr0 := cell_below hb3 qr0
  replace qr1 := cell_below hb3 qr1
  replace qr2 := cell_below hb3 qr2
  replace hv := hv.below hb3
  replace gv := gv.below hb3
  replace HBT := Below.cons HBT hb3
  clear hb3
  have fzr0 := Rr.f (i := 0)
  have fzr1 := Rr.f (i := 1)
  have fzr2 := Rr.f (i := 2)
  go_wp2_with (fail)
  have RS := Rr.store3 (.bool (sg (dmn y))) (.slice Xx (nl (mg (dmn y))) cx) (.int .i64 (dex y))
  have e0 := RS.c (i := 0) rfl
  have e1 := RS.c (i := 1) rfl
  have e2 := RS.c (i := 2) rfl
  refine bodyPost_ret (v := .tuple #[.agg #[.bool (sg (dmn y)), .slice Xx (nl (mg (dmn y))) cx, .int .i64 (dex y)], .int .i64 0]) (by simp [results, Tryz.results18, go_sem, e0, e1, e2]) rfl ?_
  exact ⟨Xx, cx, rfl, Rr.keep3 (by intro u hu; simp at hu; rcases hu with rfl | rfl | rfl <;> first | exact notU_bool _ | exact notU_slice _ _ _ | exact notU_i64 _) hx, Below.store3 HBT (by omega)⟩
set_option maxRecDepth 100000 in
set_option maxHeartbeats 1000000 in
theorem tround_neg (aA : Option Addr) (ac : Nat) (a : Rat) (n : Int) (dr : Int) (w : World) (ha : NatV w aA ac (mg (dmn a)))   (oa : DOk a) (la : nl (mg a.num) ≤ 60000) (ma : nl a.den ≤ 60000) (d0 : dr < 0) :
    Calls Tryz.prog 18 #[.agg #[.bool (sg (dmn a)), .slice aA (nl (mg (dmn a))) ac, .int .i64 (dex a)], .int .i64 n, .int .i64 dr] w (RetDe w 0 1) := by
  obtain ⟨y, Ey⟩ : ∃ z : Rat, z = 0 := ⟨_, rfl⟩
  rw [← Ey]
  replace oa := Lib.hid oa
  replace Ey := Lib.hid Ey
  have hb1 : Below (w).heap.size (w) ((w.alloc (.cells #[.bool (sg (dmn a)), .slice aA (nl (mg (dmn a))) ac, .int .i64 (dex a)] 28)).alloc (.cells #[.bool false, .slice none 0 0, .int .i64 0] 28)) := (Below.alloc (Below.alloc (Below.refl _ _) (Nat.le_refl _) _) (by simp <;> omega) _)
  replace ha := ha.below hb1
  have HBT := hb1
  clear hb1
  have Ra : BoxA ((w.alloc (.cells #[.bool (sg (dmn a)), .slice aA (nl (mg (dmn a))) ac, .int .i64 (dex a)] 28)).alloc (.cells #[.bool false, .slice none 0 0, .int .i64 0] 28)) w.heap.size 28 #[.bool (sg (dmn a)), .slice aA (nl (mg (dmn a))) ac, .int .i64 (dex a)] := ⟨by repeat (first | exact at_new (by first | (simp; done) | (simp; omega)) | refine at_old (by first | (simp; done) | (simp; omega)) ?_)⟩
  have qa0 := Ra.c (i := 0) rfl
  have qa1 := Ra.c (i := 1) rfl
  have qa2 := Ra.c (i := 2) rfl
  have Rr : BoxA ((w.alloc (.cells #[.bool (sg (dmn a)), .slice aA (nl (mg (dmn a))) ac, .int .i64 (dex a)] 28)).alloc (.cells #[.bool false, .slice none 0 0, .int .i64 0] 28)) (w.heap.size + 1) 28 #[.bool false, .slice none 0 0, .int .i64 0] := ⟨by repeat (first | exact at_new (by first | (simp; done) | (simp; omega)) | refine at_old (by first | (simp; done) | (simp; omega)) ?_)⟩
  have qr0 := Rr.c (i := 0) rfl
  have qr1 := Rr.c (i := 1) rfl
  have qr2 := Rr.c (i := 2) rfl
  go_enter Tryz.func18, Tryz.ntmps18
  go_wp2_with (fail)
  obtain ⟨v, Ev⟩ : ∃ zq : Rat, zq = a := ⟨_, rfl⟩
  have Nv : nl (mg v.num) ≤ 60000 ∧ nl v.den ≤ 60000 := by rw [Ev]; exact ⟨la, ma⟩
  refine (Calls.mono (R := RetR ((w.alloc (.cells #[.bool (sg (dmn a)), .slice aA (nl (mg (dmn a))) ac, .int .i64 (dex a)] 28)).alloc (.cells #[.bool false, .slice none 0 0, .int .i64 0] 28)) v) (by rw [Ev]; with_reducible exact (trat_c aA ac a _ ha oa.out)) ?_)
  replace Ev := Lib.hid Ev
  rintro e W2 ⟨Xv, cv, Yv, dv, rfl, hv, gv, hb2⟩
  replace ha := ha.below hb2
  replace Ra := Ra.below hb2
  replace qa0 := cell_below hb2 qa0
  replace qa1 := cell_below hb2 qa1
  replace qa2 := cell_below hb2 qa2
  replace Rr := Rr.below hb2
  replace qr0 := cell_below hb2 qr0
  replace qr1 := cell_below hb2 qr1
  replace qr2 := cell_below hb2 qr2
  replace HBT := Below.cons HBT hb2
  clear hb2
  go_wp2_with (fail)
  have CT : Calls Tryz.prog 16 #[.agg #[.bool (sg v.num), .slice Xv (nl (mg v.num)) cv, .slice Yv (nl v.den) dv], .int .i64 n, .int .i64 dr] W2 (RetDe W2 y 1) := by
    rw [Ey.out]; exact tcut_neg Xv cv Yv dv v n dr _ hv gv d0
  refine (Calls.mono CT ?_)
  clear CT
  rintro e W3 ⟨Xx, cx, rfl, hx, hb3⟩
  replace ha := ha.below hb3
  replace Ra := Ra.below hb3
  replace qa0 := cell_below hb3 qa0
  replace qa1 := cell_below hb3 qa1
  replace qa2 := cell_below hb3 qa2
  replace Rr := Rr.below hb3
  replace qr0 := cell_below hb3 qr0
  replace qr1 := cell_below hb3 qr1
  replace qr2 := cell_below hb3 qr2
  replace hv := hv.below hb3
  replace gv := gv.below hb3
  replace HBT := Below.cons HBT hb3
  clear hb3
  have fzr0 := Rr.f (i := 0)
  have fzr1 := Rr.f (i := 1)
  have fzr2 := Rr.f (i := 2)
  go_wp2_with (fail)
  have RS := Rr.store3 (.bool (sg (dmn y))) (.slice Xx (nl (mg (dmn y))) cx) (.int .i64 (dex y))
  have e0 := RS.c (i := 0) rfl
  have e1 := RS.c (i := 1) rfl
  have e2 := RS.c (i := 2) rfl
  refine bodyPost_ret (v := .tuple #[.agg #[.bool (sg (dmn y)), .slice Xx (nl (mg (dmn y))) cx, .int .i64 (dex y)], .int .i64 1]) (by simp [results, Tryz.results18, go_sem, e0, e1, e2]) rfl ?_
  exact ⟨Xx, cx, rfl, Rr.keep3 (by intro u hu; simp at hu; rcases hu with rfl | rfl | rfl <;> first | exact notU_bool _ | exact notU_slice _ _ _ | exact notU_i64 _) hx, Below.store3 HBT (by omega)⟩
set_option maxRecDepth 100000 in
set_option maxHeartbeats 1000000 in
theorem tround_big (aA : Option Addr) (ac : Nat) (a : Rat) (n : Int) (dr : Int) (w : World) (ha : NatV w aA ac (mg (dmn a)))   (oa : DOk a) (la : nl (mg a.num) ≤ 60000) (ma : nl a.den ≤ 60000) (d0 : 4 < dr) :
    Calls Tryz.prog 18 #[.agg #[.bool (sg (dmn a)), .slice aA (nl (mg (dmn a))) ac, .int .i64 (dex a)], .int .i64 n, .int .i64 dr] w (RetDe w 0 1) := by
  obtain ⟨y, Ey⟩ : ∃ z : Rat, z = 0 := ⟨_, rfl⟩
  rw [← Ey]
  replace oa := Lib.hid oa
  replace Ey := Lib.hid Ey
  have hb1 : Below (w).heap.size (w) ((w.alloc (.cells #[.bool (sg (dmn a)), .slice aA (nl (mg (dmn a))) ac, .int .i64 (dex a)] 28)).alloc (.cells #[.bool false, .slice none 0 0, .int .i64 0] 28)) := (Below.alloc (Below.alloc (Below.refl _ _) (Nat.le_refl _) _) (by simp <;> omega) _)
  replace ha := ha.below hb1
  have HBT := hb1
  clear hb1
  have Ra : BoxA ((w.alloc (.cells #[.bool (sg (dmn a)), .slice aA (nl (mg (dmn a))) ac, .int .i64 (dex a)] 28)).alloc (.cells #[.bool false, .slice none 0 0, .int .i64 0] 28)) w.heap.size 28 #[.bool (sg (dmn a)), .slice aA (nl (mg (dmn a))) ac, .int .i64 (dex a)] := ⟨by repeat (first | exact at_new (by first | (simp; done) | (simp; omega)) | refine at_old (by first | (simp; done) | (simp; omega)) ?_)⟩
  have qa0 := Ra.c (i := 0) rfl
  have qa1 := Ra.c (i := 1) rfl
  have qa2 := Ra.c (i := 2) rfl
  have Rr : BoxA ((w.alloc (.cells #[.bool (sg (dmn a)), .slice aA (nl (mg (dmn a))) ac, .int .i64 (dex a)] 28)).alloc (.cells #[.bool false, .slice none 0 0, .int .i64 0] 28)) (w.heap.size + 1) 28 #[.bool false, .slice none 0 0, .int .i64 0] := ⟨by repeat (first | exact at_new (by first | (simp; done) | (simp; omega)) | refine at_old (by first | (simp; done) | (simp; omega)) ?_)⟩
  have qr0 := Rr.c (i := 0) rfl
  have qr1 := Rr.c (i := 1) rfl
  have qr2 := Rr.c (i := 2) rfl
  go_enter Tryz.func18, Tryz.ntmps18
  go_wp2_with (fail)
  obtain ⟨v, Ev⟩ : ∃ zq : Rat, zq = a := ⟨_, rfl⟩
  have Nv : nl (mg v.num) ≤ 60000 ∧ nl v.den ≤ 60000 := by rw [Ev]; exact ⟨la, ma⟩
  refine (Calls.mono (R := RetR ((w.alloc (.cells #[.bool (sg (dmn a)), .slice aA (nl (mg (dmn a))) ac, .int .i64 (dex a)] 28)).alloc (.cells #[.bool false, .slice none 0 0, .int .i64 0] 28)) v) (by rw [Ev]; with_reducible exact (trat_c aA ac a _ ha oa.out)) ?_)
  replace Ev := Lib.hid Ev
  rintro e W2 ⟨Xv, cv, Yv, dv, rfl, hv, gv, hb2⟩
  replace ha := ha.below hb2
  replace Ra := Ra.below hb2
  replace qa0 := cell_below hb2 qa0
  replace qa1 := cell_below hb2 qa1
  replace qa2 := cell_below hb2 qa2
  replace Rr := Rr.below hb2
  replace qr0 := cell_below hb2 qr0
  replace qr1 := cell_below hb2 qr1
  replace qr2 := cell_below hb2 qr2
  replace HBT := Below.cons HBT hb2
  clear hb2
  go_wp2_with (fail)
  have CT : Calls Tryz.prog 16 #[.agg #[.bool (sg v.num), .slice Xv (nl (mg v.num)) cv, .slice Yv (nl v.den) dv], .int .i64 n, .int .i64 dr] W2 (RetDe W2 y 1) := by
    rw [Ey.out]; exact tcut_big Xv cv Yv dv v n dr _ hv gv d0
  refine (Calls.mono CT ?_)
  clear CT
  rintro e W3 ⟨Xx, cx, rfl, hx, hb3⟩
  replace ha := ha.below hb3
  replace Ra := Ra.below hb3
  replace qa0 := cell_below hb3 qa0
  replace qa1 := cell_below hb3 qa1
  replace qa2 := cell_below hb3 qa2
  replace Rr := Rr.below hb3
  replace qr0 := cell_below hb3 qr0
  replace qr1 := cell_below hb3 qr1
  replace qr2 := cell_below hb3 qr2
  replace hv := hv.below hb3
  replace gv := gv.below hb3
  replace HBT := Below.cons HBT hb3
  clear hb3
  have fzr0 := Rr.f (i := 0)
  have fzr1 := Rr.f (i := 1)
  have fzr2 := Rr.f (i := 2)
  go_wp2_with (fail)
  have RS := Rr.store3 (.bool (sg (dmn y))) (.slice Xx (nl (mg (dmn y))) cx) (.int .i64 (dex y))
  have e0 := RS.c (i := 0) rfl
  have e1 := RS.c (i := 1) rfl
  have e2 := RS.c (i := 2) rfl
  refine bodyPost_ret (v := .tuple #[.agg #[.bool (sg (dmn y)), .slice Xx (nl (mg (dmn y))) cx, .int .i64 (dex y)], .int .i64 1]) (by simp [results, Tryz.results18, go_sem, e0, e1, e2]) rfl ?_
  exact ⟨Xx, cx, rfl, Rr.keep3 (by intro u hu; simp at hu; rcases hu with rfl | rfl | rfl <;> first | exact notU_bool _ | exact notU_slice _ _ _ | exact notU_i64 _) hx, Below.store3 HBT (by omega)⟩
end Go.Proofs.YtacjfpibilolnaaGreatDoor

/- What the laws of dyadic numbers share: cutting in any direction, sizes, what is alike. -/
set_option linter.unusedVariables false
set_option linter.unusedSimpArgs false
namespace Go.Proofs.YtacjfpibilolnaaGreatDoor
open Go.RowKit Go.Shelf

/-- What a rational is cut to, and whether the direction is one. -/
def cutV (q : Rat) (n dr : Int) : Rat := if 0 ≤ dr ∧ dr ≤ 4 then dval (rnd dr (q * (2 : Rat) ^ n)) (-n) else 0
def cutK (dr : Int) : Int := if 0 ≤ dr ∧ dr ≤ 4 then 0 else 1
theorem cutV_in {q : Rat} {n dr : Int} (h0 : 0 ≤ dr) (h4 : dr ≤ 4) : cutV q n dr = dval (rnd dr (q * (2 : Rat) ^ n)) (-n) := if_pos ⟨h0, h4⟩
theorem cutK_in {dr : Int} (h0 : 0 ≤ dr) (h4 : dr ≤ 4) : cutK dr = 0 := if_pos ⟨h0, h4⟩
theorem cutV_out {q : Rat} {n dr : Int} (h : ¬ (0 ≤ dr ∧ dr ≤ 4)) : cutV q n dr = 0 := if_neg h
theorem cutK_out {dr : Int} (h : ¬ (0 ≤ dr ∧ dr ≤ 4)) : cutK dr = 1 := if_neg h
/-- How long a dyadic number is, and how far its power lies from 0. -/
structure DB (q : Rat) (l E : Nat) : Prop where
  d : Dyd q
  l : nl (mg (dmn q)) ≤ l
  e : -(E : Int) ≤ dex q ∧ dex q ≤ E
theorem DB.ok {q : Rat} {l E : Nat} (h : DB q l E) (hl : l ≤ 100000) (hE : E ≤ 1000000) : DOk q := ⟨h.d, by have := h.l; omega, by have := h.e; omega⟩
theorem DB.mono {q : Rat} {l E l2 E2 : Nat} (h : DB q l E) (hl : l ≤ l2) (hE : E ≤ E2) : DB q l2 E2 := ⟨h.d, by have := h.l; omega, by have := h.e; omega⟩
theorem db_val {z e : Int} {l E : Nat} (hl : nl (mg z) ≤ l) (he : -(E : Int) ≤ e ∧ e ≤ E) : DB (dval z e) l (E + 32 * l) := by
  obtain ⟨h1, h2⟩ := form_bd z e
  refine ⟨dyd_val z e, by omega, ?_⟩
  omega
theorem db_zero (l E : Nat) : DB 0 l E := by
  have e0 := dval_zero 0
  exact ⟨by rw [← e0]; exact dyd_val 0 0, by rw [dmn_zero, mg0, nl_zero]; omega, by rw [dex_zero]; omega⟩
theorem db_neg {q : Rat} {l E : Nat} (h : DB q l E) : DB (-q) l E := by
  obtain ⟨h1, h2⟩ := form_neg h.d
  exact ⟨dyd_neg h.d, by rw [h1, mg_neg]; exact h.l, by rw [h2]; exact h.e⟩
theorem nl_shf_b {z d : Int} {l D : Nat} (h : nl (mg z) ≤ l) (h0 : 0 ≤ d) (h1 : d ≤ D) : nl (mg (shf z d)) ≤ l + (D / 32 + 1) := by
  obtain ⟨k, rfl⟩ := Int.eq_ofNat_of_zero_le h0
  unfold shf
  rw [if_pos h0, Int.toNat_natCast, mg_mul]
  have e : mg ((2 : Int) ^ k) = 2 ^ k := by unfold mg; rw [Int.natAbs_pow]; rfl
  rw [e]
  have h2 := nl_mul (mg z) (2 ^ k)
  rw [nl_two_pow] at h2
  have h3 : k / 32 ≤ D / 32 := Nat.div_le_div_right (by omega)
  omega
theorem db_add {a b : Rat} {l E : Nat} (ha : DB a l E) (hb : DB b l E) : DB (a + b) (l + E / 16 + 3) (E + 32 * (l + E / 16 + 3)) := by
  have h1 := ha.e
  have h2 := hb.e
  obtain ⟨F, hF⟩ : ∃ F, F = min (dex a) (dex b) := ⟨_, rfl⟩
  have hs : a + b = dval (shf (dmn a) (dex a - F) + shf (dmn b) (dex b - F)) F := by
    rw [dval_add, lev ha.d (by omega), lev hb.d (by omega)]
  have n1 := nl_shf_b ha.l (d := dex a - F) (D := 2 * E) (by omega) (by omega)
  have n2 := nl_shf_b hb.l (d := dex b - F) (D := 2 * E) (by omega) (by omega)
  have h3 := nl_add (mg (shf (dmn a) (dex a - F))) (mg (shf (dmn b) (dex b - F)))
  have h4 : nl (mg (shf (dmn a) (dex a - F) + shf (dmn b) (dex b - F))) ≤ nl (mg (shf (dmn a) (dex a - F)) + mg (shf (dmn b) (dex b - F))) := nl_mono (Int.natAbs_add_le _ _)
  rw [hs]
  exact db_val (by omega) (by omega)
theorem db_sub {a b : Rat} {l E : Nat} (ha : DB a l E) (hb : DB b l E) : DB (a - b) (l + E / 16 + 3) (E + 32 * (l + E / 16 + 3)) := by
  rw [Rat.sub_eq_add_neg]; exact db_add ha (db_neg hb)
theorem db_half {a : Rat} {l E : Nat} (ha : DB a l E) : DB (a * (1 / 2)) l (E + 1 + 32 * l) := by
  have h1 := ha.e
  have e := dval_half (dmn a) (dex a)
  rw [dval_q ha.d] at e
  rw [← e]
  exact db_val ha.l (by omega)
theorem db_cut {q : Rat} {n dr : Int} {l E : Nat} (hl : nl (mg (q * (2 : Rat) ^ n).num) ≤ l) (hE : -(E : Int) ≤ n ∧ n ≤ E) : DB (cutV q n dr) l (E + 32 * l) := by
  unfold cutV
  split
  · exact db_val (Nat.le_trans (nl_mono (rnd_abs _ _)) hl) (by omega)
  · exact db_zero _ _
theorem pow_szb (n : Int) {E : Nat} (h : -(E : Int) ≤ n ∧ n ≤ E) : nl (mg ((2 : Rat) ^ n).num) ≤ E / 32 + 1 ∧ nl ((2 : Rat) ^ n).den ≤ E / 32 + 1 := by
  rcases Int.lt_or_le n 0 with hn | hn
  · obtain ⟨k, rfl⟩ := Int.exists_eq_neg_ofNat (show n ≤ 0 by omega)
    rw [← pow_mk]
    have h0 : (2 ^ k : Nat) ≠ 0 := Nat.pos_iff_ne_zero.1 (Nat.two_pow_pos k)
    rw [Rat.num_mkRat, Rat.den_mkRat, if_neg h0, if_neg h0]
    have hd := nl_div (2 ^ k) (Nat.gcd (2 ^ k) (Int.natAbs 1))
    have hp := nl_two_pow k
    have hm : mg (1 / ((Nat.gcd (2 ^ k) (Int.natAbs 1) : Nat) : Int)) ≤ 1 := Int.natAbs_ediv_le_natAbs 1 _
    have h1 := nl_mono hm
    rw [nl_one] at h1
    have h3 : k / 32 ≤ E / 32 := Nat.div_le_div_right (by omega)
    constructor
    · omega
    · omega
  · obtain ⟨k, rfl⟩ := Int.eq_ofNat_of_zero_le hn
    rw [← pow_up, Rat.num_intCast, Rat.den_intCast, shf_one, mg_nat, nl_two_pow, nl_one]
    have h3 : k / 32 ≤ E / 32 := Nat.div_le_div_right (by omega)
    constructor <;> omega
theorem right_form {q : Rat} (h : -100000 ≤ dex q ∧ dex q ≤ 100000) : rightD (dmn q) (dex q) = true := by
  unfold rightD
  rcases nz_q q with k | ⟨k1, k2⟩
  · rw [if_neg (by omega), decide_eq_true k, decide_eq_true h.1, decide_eq_true h.2]; rfl
  · rw [if_pos k1, k2]; rfl
def PD (u : Value) (q : Rat) (W : World) : Prop := ∃ X c, u = .agg #[.bool (sg (dmn q)), .slice X (nl (mg (dmn q))) c, .int .i64 (dex q)] ∧ NatV W X c (mg (dmn q))
def PBD (n0 : Nat) (u : Value) (q : Rat) (W : World) : Prop := ∃ nb X c, u = .pointer (some ⟨nb, 0, none⟩) ∧ n0 ≤ nb ∧ BoxA W nb 28 #[.bool (sg (dmn q)), .slice X (nl (mg (dmn q))) c, .int .i64 (dex q)] ∧ NatV W X c (mg (dmn q))
theorem PD.below {W W' : World} {u : Value} {q : Rat} (h : PD u q W) (hb : Below W.heap.size W W') : PD u q W' := by
  obtain ⟨X, c, h1, h2⟩ := h; exact ⟨X, c, h1, h2.below hb⟩
theorem PD.put {W W' : World} {u : Value} {q : Rat} {k : Nat} (h : PD u q W) (hp : Put W W' k) : PD u q W' := by
  obtain ⟨X, c, h1, h2⟩ := h; exact ⟨X, c, h1, hp.nat h2⟩
theorem PBD.below {W W' : World} {u : Value} {q : Rat} {n0 : Nat} (h : PBD n0 u q W) (hb : Below W.heap.size W W') : PBD n0 u q W' := by
  obtain ⟨nb, X, c, h1, h2, h3, h4⟩ := h; exact ⟨nb, X, c, h1, h2, h3.below hb, h4.below hb⟩
theorem PBD.put {W W' : World} {u : Value} {q : Rat} {n0 k : Nat} (h : PBD n0 u q W) (hp : Put W W' k) (hne : u ≠ .pointer (some ⟨k, 0, none⟩)) : PBD n0 u q W' := by
  obtain ⟨nb, X, c, h1, h2, h3, h4⟩ := h
  exact ⟨nb, X, c, h1, h2, ⟨(hp.far nb (fun e => hne (by rw [h1, e]))).trans h3.at_⟩, hp.nat h4⟩
theorem dcutA_c (aA : Option Addr) (ac : Nat) (aB : Option Addr) (ad : Nat) (a : Rat) (n dr : Int) (w : World) (ha : NatV w aA ac (mg a.num)) (ga : NatV w aB ad a.den) (hT : Tab w) (lq : nl (mg a.num) ≤ 100000) (ld : nl a.den ≤ 100000) (ln : -1000000 ≤ n ∧ n ≤ 1000000) :
    Calls Tryz.prog 15 #[.agg #[.bool (sg a.num), .slice aA (nl (mg a.num)) ac, .slice aB (nl a.den) ad], .int .i64 n, .int .i64 dr] w (RetDe w (cutV a n dr) (cutK dr)) := by
  by_cases h : 0 ≤ dr ∧ dr ≤ 4
  · rw [cutV_in h.1 h.2, cutK_in h.1 h.2]; exact cut_in aA ac aB ad a n dr w ha ga hT lq ld h.1 h.2 ln
  · rw [cutV_out h, cutK_out h]
    rcases Int.lt_or_le dr 0 with k | k
    · exact cut_neg aA ac aB ad a n dr w ha ga k
    · exact cut_big aA ac aB ad a n dr w ha ga (by omega)
theorem droundA_c (aA : Option Addr) (ac : Nat) (a : Rat) (n dr : Int) (w : World) (ha : NatV w aA ac (mg (dmn a))) (hT : Tab w) (oa : DOk a) (ln : -1000000 ≤ n ∧ n ≤ 1000000) :
    Calls Tryz.prog 17 #[.agg #[.bool (sg (dmn a)), .slice aA (nl (mg (dmn a))) ac, .int .i64 (dex a)], .int .i64 n, .int .i64 dr] w (RetDe w (cutV a n dr) (cutK dr)) := by
  by_cases h : 0 ≤ dr ∧ dr ≤ 4
  · rw [cutV_in h.1 h.2, cutK_in h.1 h.2]; exact dround_c aA ac a n dr w ha hT oa h.1 h.2 ln
  · rw [cutV_out h, cutK_out h]
    rcases Int.lt_or_le dr 0 with k | k
    · exact round_neg aA ac a n dr w ha k
    · exact round_big aA ac a n dr w ha (by omega)
theorem tcutA_c (aA : Option Addr) (ac : Nat) (aB : Option Addr) (ad : Nat) (a : Rat) (n dr : Int) (w : World) (ha : NatV w aA ac (mg a.num)) (ga : NatV w aB ad a.den) (la : nl (mg a.num) ≤ 60000) (ma : nl a.den ≤ 60000) (ln : -1000000 ≤ n ∧ n ≤ 1000000) :
    Calls Tryz.prog 16 #[.agg #[.bool (sg a.num), .slice aA (nl (mg a.num)) ac, .slice aB (nl a.den) ad], .int .i64 n, .int .i64 dr] w (RetDe w (cutV a n dr) (cutK dr)) := by
  by_cases h : 0 ≤ dr ∧ dr ≤ 4
  · rw [cutV_in h.1 h.2, cutK_in h.1 h.2]; exact tcut_in aA ac aB ad a n dr w ha ga ln la ma h.1 h.2
  · rw [cutV_out h, cutK_out h]
    rcases Int.lt_or_le dr 0 with k | k
    · exact tcut_neg aA ac aB ad a n dr w ha ga k
    · exact tcut_big aA ac aB ad a n dr w ha ga (by omega)
theorem troundA_c (aA : Option Addr) (ac : Nat) (a : Rat) (n dr : Int) (w : World) (ha : NatV w aA ac (mg (dmn a))) (oa : DOk a) (la : nl (mg a.num) ≤ 60000) (ma : nl a.den ≤ 60000) (ln : -1000000 ≤ n ∧ n ≤ 1000000) :
    Calls Tryz.prog 18 #[.agg #[.bool (sg (dmn a)), .slice aA (nl (mg (dmn a))) ac, .int .i64 (dex a)], .int .i64 n, .int .i64 dr] w (RetDe w (cutV a n dr) (cutK dr)) := by
  by_cases h : 0 ≤ dr ∧ dr ≤ 4
  · rw [cutV_in h.1 h.2, cutK_in h.1 h.2]; exact tround_in aA ac a n dr w ha oa ln la ma h.1 h.2
  · rw [cutV_out h, cutK_out h]
    rcases Int.lt_or_le dr 0 with k | k
    · exact tround_neg aA ac a n dr w ha oa la ma k
    · exact tround_big aA ac a n dr w ha oa la ma (by omega)
theorem tsameT_c (aA : Option Addr) (ac : Nat) (a : Rat) (bA : Option Addr) (bc : Nat) (b : Rat) (w : World) (ha : NatV w aA ac (mg (dmn a))) (hb : NatV w bA bc (mg (dmn b))) (oa : DOk a) (h : a = b) :
    Calls Tryz.prog 19 #[.agg #[.bool (sg (dmn a)), .slice aA (nl (mg (dmn a))) ac, .int .i64 (dex a)], .agg #[.bool (sg (dmn b)), .slice bA (nl (mg (dmn b))) bc, .int .i64 (dex b)]] w (fun e w' => e = .returned (.bool true) ∧ Below w.heap.size w w') := by
  subst h
  have l := oa.l
  refine (tsame_c aA ac a bA bc a w ha hb oa.d oa.d (by omega) (by omega)).mono ?_
  rintro e w1 ⟨rfl, h1⟩
  exact ⟨by rw [decide_eq_true rfl], h1⟩
theorem r9sameT_c (aA : Option Addr) (ac : Nat) (aB : Option Addr) (ad : Nat) (a : Rat) (bA : Option Addr) (bc : Nat) (bB : Option Addr) (bd : Nat) (b : Rat) (w : World) (ha : NatV w aA ac (mg a.num)) (ga : NatV w aB ad a.den) (hb : NatV w bA bc (mg b.num)) (gb : NatV w bB bd b.den) (la : nl (mg a.num) ≤ 1073741824) (ma : nl a.den ≤ 1073741824) (h : a = b) :
    Calls Tryz.prog 54 #[.agg #[.bool (sg a.num), .slice aA (nl (mg a.num)) ac, .slice aB (nl a.den) ad], .agg #[.bool (sg b.num), .slice bA (nl (mg b.num)) bc, .slice bB (nl b.den) bd]] w (fun e w' => e = .returned (.bool true) ∧ Below w.heap.size w w') := by
  subst h
  refine (r9same_c aA ac aB ad a bA bc bB bd a w ha ga hb gb la ma la ma).mono ?_
  rintro e w1 ⟨rfl, h1⟩
  exact ⟨by rw [decide_eq_true rfl], h1⟩
theorem zsameT_c (aA : Option Addr) (ac : Nat) (a : Int) (bA : Option Addr) (bc : Nat) (b : Int) (w : World) (ha : NatV w aA ac (mg a)) (hb : NatV w bA bc (mg b)) (la : nl (mg a) ≤ 1073741824) (h : a = b) :
    Calls Tryz.prog 20 #[.agg #[.bool (sg a), .slice aA (nl (mg a)) ac], .agg #[.bool (sg b), .slice bA (nl (mg b)) bc]] w (fun e w' => e = .returned (.bool true) ∧ Below w.heap.size w w') := by
  subst h
  refine (zsame_c aA ac a bA bc a w ha hb la la).mono ?_
  rintro e w1 ⟨rfl, h1⟩
  exact ⟨by rw [decide_eq_true rfl], h1⟩
theorem drightT_c (aA : Option Addr) (ac : Nat) (a : Rat) (w : World) (ha : NatV w aA ac (mg (dmn a))) (l : nl (mg (dmn a)) ≤ 65536) (h : -100000 ≤ dex a ∧ dex a ≤ 100000) :
    Calls Tryz.prog 26 #[.agg #[.bool (sg (dmn a)), .slice aA (nl (mg (dmn a))) ac, .int .i64 (dex a)]] w (fun e w' => e = .returned (.bool true) ∧ Below w.heap.size w w') := by
  refine (dright_c aA ac (dmn a) (dex a) w ha l).mono ?_
  rintro e w1 ⟨rfl, h1⟩
  exact ⟨by rw [right_form h], h1⟩
theorem trightT_c (aA : Option Addr) (ac : Nat) (a : Rat) (w : World) (ha : NatV w aA ac (mg (dmn a))) (l : nl (mg (dmn a)) ≤ 65536) (h : -100000 ≤ dex a ∧ dex a ≤ 100000) :
    Calls Tryz.prog 27 #[.agg #[.bool (sg (dmn a)), .slice aA (nl (mg (dmn a))) ac, .int .i64 (dex a)]] w (fun e w' => e = .returned (.bool true) ∧ Below w.heap.size w w') := by
  refine (tright_c aA ac (dmn a) (dex a) w ha l).mono ?_
  rintro e w1 ⟨rfl, h1⟩
  exact ⟨by rw [right_form h], h1⟩
end Go.Proofs.YtacjfpibilolnaaGreatDoor

/- What the laws of dyadic numbers share: what is made of raw numbers. -/
set_option linter.unusedVariables false
set_option linter.unusedSimpArgs false
namespace Go.Proofs.YtacjfpibilolnaaGreatDoor
open Go.RowKit Go.Shelf

theorem zmadeI_c (sa : Bool) (A : Option Addr) (c : Nat) (l : List Nat) (m : Nat) (i : Int) (w : World) (hl : Rd w A l) (Ll : Lim l) (Ql : l.length ≤ maxLen) (Cl : l.length ≤ c) (Zl : A = none → c = 0) (hm : m ≤ 65536) (hi : (m : Int) = i) :
    Calls Tryz.prog 23 #[.agg #[.bool sa, .slice A l.length c], .int .i64 i] w (RetI w (ival sa (val (l.take m)))) := by
  subst hi; exact zmade_c sa A c m l w hl Ll Ql Cl Zl (by omega)
theorem r9madeI_c (sa : Bool) (A : Option Addr) (c : Nat) (l : List Nat) (B : Option Addr) (d : Nat) (k : List Nat) (m : Nat) (i : Int) (w : World) (hl : Rd w A l) (Ll : Lim l) (Ql : l.length ≤ maxLen) (Cl : l.length ≤ c) (Zl : A = none → c = 0) (hk : Rd w B k) (Lk : Lim k) (Qk : k.length ≤ maxLen) (Ck : k.length ≤ d) (Zk : B = none → d = 0) (hm : m ≤ 65536) (hi : (m : Int) = i) :
    Calls Tryz.prog 13 #[.agg #[.bool sa, .slice A l.length c, .slice B k.length d], .int .i64 i] w (RetR w (ratM sa (val (l.take m)) (val (k.take m)))) := by
  subst hi; exact r9made_c sa A c l B d k m w hl Ll Ql Cl Zl hk Lk Qk Ck Zk hm
theorem and16 (x : Int) : ∃ y : Nat, bits .and .i64 x 65535 = y ∧ y < 65536 := by
  have h1 : (BitVec.ofInt 64 x).toNat &&& 65535 < 2 ^ 16 := Nat.and_lt_two_pow _ (by decide)
  refine ⟨(BitVec.ofInt 64 x).toNat &&& 65535, ?_, h1⟩
  show IntKind.i64.wrap ((BitVec.ofInt 64 x &&& BitVec.ofInt 64 65535).toNat : Int) = _
  rw [BitVec.toNat_and, show (BitVec.ofInt 64 65535).toNat = 65535 from rfl]
  exact IntWalk.i64_in _ (by omega)
theorem cutE_bd (x : Int) : -200 ≤ cutE x ∧ cutE x ≤ 200 := by
  obtain ⟨y, h1, h2⟩ := and16 x
  unfold cutE
  rw [h1, Int.tmod_eq_emod_of_nonneg (by omega)]
  omega
theorem tmadeI_c (sa : Bool) (A : Option Addr) (c : Nat) (l : List Nat) (x : Int) (m : Nat) (i : Int) (w : World) (hl : Rd w A l) (Ll : Lim l) (Ql : l.length ≤ maxLen) (Cl : l.length ≤ c) (Zl : A = none → c = 0) (hm : m ≤ 65536) (hi : (m : Int) = i) :
    Calls Tryz.prog 14 #[.agg #[.bool sa, .slice A l.length c, .int .i64 x], .int .i64 i] w (RetD w (dval (ival sa (val (l.take m))) (cutE x))) := by
  subst hi; exact tmade_c sa A c m l x w hl Ll Ql Cl Zl hm (cutE_bd x)
theorem db_sz {a : Rat} {l E : Nat} (h : DB a l E) : nl (mg a.num) ≤ l + (E / 32 + 1) ∧ nl a.den ≤ 1 + (E / 32 + 1) := by
  have h1 := mul_sz ((dmn a : Int) : Rat) ((2 : Rat) ^ dex a)
  have h2 := pow_szb (dex a) h.e
  have h3 := h.l
  rw [dval_eq a h.d, Rat.num_intCast, Rat.den_intCast, nl_one] at h1
  omega
theorem db_rnd {q : Rat} {n dr : Int} {l E : Nat} (hl : nl (mg (q * (2 : Rat) ^ n).num) ≤ l) (hE : -(E : Int) ≤ n ∧ n ≤ E) : DB (dval (rnd dr (q * (2 : Rat) ^ n)) (-n)) l (E + 32 * l) :=
  db_val (Nat.le_trans (nl_mono (rnd_abs _ _)) hl) (by omega)
theorem mid_fst (x y : Rat) : rcmp x ((x + y) * (1 / 2)) = rcmp x y := by
  unfold rcmp
  by_cases h : x < y
  · rw [if_pos h, if_pos (by grind)]
  · rw [if_neg h, if_neg (by grind)]
    by_cases k : y < x
    · rw [if_pos k, if_pos (by grind)]
    · rw [if_neg k, if_neg (by grind)]
theorem mid_snd (x y : Rat) : rcmp ((x + y) * (1 / 2)) y = rcmp x y := by
  unfold rcmp
  by_cases h : x < y
  · rw [if_pos h, if_pos (by grind)]
  · rw [if_neg h, if_neg (by grind)]
    by_cases k : y < x
    · rw [if_pos k, if_pos (by grind)]
    · rw [if_neg k, if_neg (by grind)]
theorem mid_far (x y : Rat) : (x + y) * (1 / 2) - x = y - (x + y) * (1 / 2) := by grind
theorem scaled_eq {a : Rat} (h : Dyd a) (n : Int) : shf (dmn a) (dex a + n) = (a * (2 : Rat) ^ n).floor := by
  rw [shf_floor, zp_add, ← Rat.mul_assoc]
  have e := dval_q h
  unfold dval at e
  rw [e]
theorem dmn_sign (z e : Int) : (dmn (dval z e)).sign = z.sign := by
  obtain ⟨h1, _⟩ := make_form z e
  rw [← h1]
  have h2 := (dm_spec z).1
  conv => rhs; rw [h2]
  rw [Int.sign_mul, Int.sign_eq_one_of_pos (Int.pow_pos (by decide)), Int.mul_one]
theorem dval_up (z e : Int) (k : Nat) : dval (shf z (k : Int)) (e - k) = dval z e := by
  unfold shf
  rw [if_pos (Int.natCast_nonneg k), Int.toNat_natCast, dval_shift, show e - (k : Int) + k = e by omega]
theorem ratM_sz {s : Bool} {n d m : Nat} (hn : nl n ≤ m) (hd : nl d ≤ m) (hm : 1 ≤ m) : nl (mg (ratM s n d).num) ≤ m ∧ nl (ratM s n d).den ≤ m := by
  unfold ratM
  have hp : (0 : Int) < ((if d = 0 then 1 else d : Nat) : Int) := by split <;> omega
  obtain ⟨_, _, _, h1, h2, h3, _⟩ := gcd_parts (n := ival s n) hp
  rw [h1, h3]
  refine ⟨Nat.le_trans (nl_mono (Int.natAbs_ediv_le_natAbs _ _)) (by rw [show (ival s n).natAbs = n from mg_ival s n]; exact hn), Nat.le_trans (nl_mono (Int.natAbs_ediv_le_natAbs _ _)) ?_⟩
  rw [Int.natAbs_natCast]
  split
  · rw [nl_one]; exact hm
  · exact hd
end Go.Proofs.YtacjfpibilolnaaGreatDoor

/- What an input gives a walk: whole numbers, rationals, dyadic numbers, pairs; the library's table as it was laid. -/
set_option maxRecDepth 100000
set_option linter.unusedVariables false
set_option linter.unusedSimpArgs false
namespace Go.Proofs.YtacjfpibilolnaaGreatDoor
open Go.RowKit Go.ChangeShapes Go.WideShapes Go.ChangeAt

theorem row_own : ownKnob Tryz.prog.godebug = none := by kernel_rfl
theorem row_out : laidOutB Tryz.prog = true := by kernel_rfl
theorem row_globD : Tryz.prog.globalNamed "math/bits.deBruijn32tab" = some 0 := by kernel_rfl
theorem row_globDT : (Tryz.prog.globals[0]?).map (·.type) = some 120 := by kernel_rfl
theorem row_cellsB : Tryz.prog.cellsOf 4 = 1 := by kernel_rfl
theorem row_cells8 : Tryz.prog.cellsOf 5 = 1 := by kernel_rfl
theorem row_cellsI : Tryz.prog.cellsOf 3 = 1 := by kernel_rfl
theorem row_cellsZ : Tryz.prog.cellsOf 24 = 2 := by kernel_rfl
theorem row_cells16 : Tryz.prog.cellsOf 48 = 1 := by kernel_rfl
theorem row_cells32 : Tryz.prog.cellsOf 58 = 1 := by kernel_rfl
theorem row_cellsS : Tryz.prog.cellsOf 22 = 1 := by kernel_rfl

section
variable {H : Type} {enc : TypeId × Value → H} {W : World} {base : Nat} {sp : Nat → Bool} {held : Bool}

/-- What the laws' walks ask of a slice of limbs. -/
def IsL (W : World) (A : Option Addr) (c : Nat) (l : List Nat) : Prop := Rd W A l ∧ Lim l ∧ l.length ≤ maxLen ∧ l.length ≤ c ∧ (A = none → c = 0)
theorem open_nat {fuel : Nat} {cs : List Value} {x : DataW H × List MemPlace} (h : DataW.trod enc Tryz.prog W base sp held fuel 22 cs = some x) :
    ∃ A c l, cs = [.slice A l.length c] ∧ IsL W A c l := by
  rcases open_ints Tryz.underlying22 Tryz.underlying58 row_cells32 h with ⟨rfl, _⟩ | ⟨a, len, cap, zs, rfl, _, hl, hm, hz, _, hcell, hwf⟩
  · exact ⟨none, 0, [], rfl, Rd.nil, Lim.nil, by decide, Nat.le_refl _, fun _ => rfl⟩
  · have hlz : len ≤ zs.length := by rw [hz]; split <;> omega
    have hlen : ((zs.take len).map Int.toNat).length = len := by rw [List.length_map, List.length_take]; omega
    refine ⟨some a, cap, (zs.take len).map Int.toNat, by rw [hlen], ?_, ?_, by rw [hlen]; omega, by rw [hlen]; exact hl, fun e => by cases e⟩
    · refine .inr ⟨a, rfl, fun i u hu => ?_⟩
      have hi : i < len := by
        have := (List.getElem?_eq_some_iff.1 hu).1
        rw [vals_length, hlen] at this; exact this
      have hi2 : i < zs.length := by omega
      rw [hcell i hi2]
      have h0 := bounds_u32 (hwf _ (List.getElem_mem hi2))
      simp only [vals, List.map_map, List.getElem?_map, List.getElem?_take_of_lt hi, List.getElem?_eq_getElem hi2, Option.map_some] at hu
      rw [← Option.some.inj hu]
      simp only [Function.comp, List.getD_eq_getElem?_getD, List.getElem?_eq_getElem hi2, Option.getD_some]
      rw [Int.toNat_of_nonneg h0.1]
    · intro y hy
      obtain ⟨z, hz2, rfl⟩ := List.mem_map.1 hy
      have := bounds_u32 (hwf _ (List.mem_of_mem_take hz2))
      omega

theorem open_mag {fuel : Nat} {cs : List Value} {x : DataW H × List MemPlace} (h : DataW.trod enc Tryz.prog W base sp held fuel 24 cs = some x) :
    ∃ b A c l, cs = [.bool b, .slice A l.length c] ∧ IsL W A c l := by
  obtain ⟨y0, y1, n, _, hl, h0, h1⟩ := trod_struct2 Tryz.underlying24 h
  rw [row_cellsZ] at hl
  match cs, hl with
  | [c0, c1], _ =>
    have e0 : DataW.trod enc Tryz.prog W base sp held n 4 (([c0, c1].drop 0).take (Tryz.prog.cellsOf 4)) = some y0 := h0
    have e1 : DataW.trod enc Tryz.prog W base sp held n 22 (([c0, c1].drop 1).take (Tryz.prog.cellsOf 22)) = some y1 := h1
    rw [row_cellsB] at e0
    rw [row_cellsS] at e1
    obtain ⟨b, kb, _⟩ := DataW.trod_bool Tryz.underlying4 (show DataW.trod enc Tryz.prog W base sp held n 4 [c0] = some y0 from e0)
    obtain ⟨A, c, l, k1, i1⟩ := open_nat (show DataW.trod enc Tryz.prog W base sp held n 22 [c1] = some y1 from e1)
    simp only [List.cons.injEq, and_true] at kb k1
    subst kb k1
    exact ⟨b, A, c, l, rfl, i1⟩
theorem okw_int {r : Reach} {b0 : Nat} {v : Value} (hv : Value.okWide Tryz.prog W r b0 24 v) : ∃ cs : Array Value, v = .agg cs ∧ cs.size = 2 := by
  simp only [Value.okWide, Tryz.underlying24] at hv
  obtain ⟨cs, rfl, hcs, _⟩ := hv
  exact ⟨cs, rfl, by rw [hcs]; kernel_rfl⟩
theorem open_zi {r : Reach} {b0 : Nat} {v : Value} {d : DataW H} {ps : List MemPlace} (hv : Value.okWide Tryz.prog W r b0 24 v) (h : DataW.Trod enc Tryz.prog W base sp held 24 v d ps) :
    ∃ b A c l, v = .agg #[.bool b, .slice A l.length c] ∧ IsL W A c l := by
  obtain ⟨⟨cl⟩, rfl, hs⟩ := okw_int hv
  obtain ⟨fuel, hf⟩ := h
  obtain ⟨b, A, c, l, e, i⟩ := open_mag hf
  simp only [Value.cells] at e
  subst e
  exact ⟨b, A, c, l, rfl, i⟩
theorem okw_dyad {r : Reach} {b0 : Nat} {v : Value} (hv : Value.okWide Tryz.prog W r b0 28 v) : ∃ cs : Array Value, v = .agg cs ∧ cs.size = 3 := by
  simp only [Value.okWide, Tryz.underlying28] at hv
  obtain ⟨cs, rfl, hcs, _⟩ := hv
  exact ⟨cs, rfl, by rw [hcs]; kernel_rfl⟩
theorem open_dy {r : Reach} {b0 : Nat} {v : Value} {d : DataW H} {ps : List MemPlace} (hv : Value.okWide Tryz.prog W r b0 28 v) (h : DataW.Trod enc Tryz.prog W base sp held 28 v d ps) :
    ∃ b A c l x, v = .agg #[.bool b, .slice A l.length c, .int .i64 x] ∧ IsL W A c l := by
  obtain ⟨⟨cl⟩, rfl, hs⟩ := okw_dyad hv
  obtain ⟨fuel, hf⟩ := h
  obtain ⟨y0, y1, n, _, hl, h0, h1⟩ := trod_struct2 Tryz.underlying28 hf
  simp only [Value.cells] at h0 h1
  match cl, hs with
  | [c0, c1, c2], _ =>
    have e0 : DataW.trod enc Tryz.prog W base sp held n 24 (([c0, c1, c2].drop 0).take (Tryz.prog.cellsOf 24)) = some y0 := h0
    have e1 : DataW.trod enc Tryz.prog W base sp held n 3 (([c0, c1, c2].drop 2).take (Tryz.prog.cellsOf 3)) = some y1 := h1
    rw [row_cellsZ] at e0
    rw [row_cellsI] at e1
    obtain ⟨b, A, c, l, k0, i⟩ := open_mag (show DataW.trod enc Tryz.prog W base sp held n 24 [c0, c1] = some y0 from e0)
    obtain ⟨z, k1, _, _⟩ := DataW.trod_int Tryz.underlying3 (show DataW.trod enc Tryz.prog W base sp held n 3 [c2] = some y1 from e1)
    simp only [List.cons.injEq, and_true] at k0 k1
    obtain ⟨rfl, rfl⟩ := k0
    subst k1
    exact ⟨b, A, c, l, z, rfl, i⟩
theorem okw_rat {r : Reach} {b0 : Nat} {v : Value} (hv : Value.okWide Tryz.prog W r b0 26 v) : ∃ cs : Array Value, v = .agg cs ∧ cs.size = 3 := by
  simp only [Value.okWide, Tryz.underlying26] at hv
  obtain ⟨cs, rfl, hcs, _⟩ := hv
  exact ⟨cs, rfl, by rw [hcs]; kernel_rfl⟩
theorem open_ra {r : Reach} {b0 : Nat} {v : Value} {d : DataW H} {ps : List MemPlace} (hv : Value.okWide Tryz.prog W r b0 26 v) (h : DataW.Trod enc Tryz.prog W base sp held 26 v d ps) :
    ∃ b A c l B f k, v = .agg #[.bool b, .slice A l.length c, .slice B k.length f] ∧ IsL W A c l ∧ IsL W B f k := by
  obtain ⟨⟨cl⟩, rfl, hs⟩ := okw_rat hv
  obtain ⟨fuel, hf⟩ := h
  obtain ⟨y0, y1, n, _, hl, h0, h1⟩ := trod_struct2 Tryz.underlying26 hf
  simp only [Value.cells] at h0 h1
  match cl, hs with
  | [c0, c1, c2], _ =>
    have e0 : DataW.trod enc Tryz.prog W base sp held n 24 (([c0, c1, c2].drop 0).take (Tryz.prog.cellsOf 24)) = some y0 := h0
    have e1 : DataW.trod enc Tryz.prog W base sp held n 22 (([c0, c1, c2].drop 2).take (Tryz.prog.cellsOf 22)) = some y1 := h1
    rw [row_cellsZ] at e0
    rw [row_cellsS] at e1
    obtain ⟨b, A, c, l, k0, i⟩ := open_mag (show DataW.trod enc Tryz.prog W base sp held n 24 [c0, c1] = some y0 from e0)
    obtain ⟨B, f, k, k1, i1⟩ := open_nat (show DataW.trod enc Tryz.prog W base sp held n 22 [c2] = some y1 from e1)
    simp only [List.cons.injEq, and_true] at k0 k1
    obtain ⟨rfl, rfl⟩ := k0
    subst k1
    exact ⟨b, A, c, l, B, f, k, rfl, i, i1⟩
theorem okw_pi {r : Reach} {b0 : Nat} {v : Value} (hv : Value.okWide Tryz.prog W r b0 29 v) : ∃ cs : Array Value, v = .agg cs ∧ cs.size = 2 := by
  simp only [Value.okWide, Tryz.underlying29] at hv
  obtain ⟨cs, rfl, hcs, _⟩ := hv
  exact ⟨cs, rfl, by rw [hcs]; kernel_rfl⟩
theorem open_pi {r : Reach} {b0 : Nat} {v : Value} {d : DataW H} {ps : List MemPlace} (hv : Value.okWide Tryz.prog W r b0 29 v) (h : DataW.Trod enc Tryz.prog W base sp held 29 v d ps) :
    ∃ x y : Int, v = .agg #[.int .i64 (x : Int), .int .i64 (y : Int)] := by
  obtain ⟨⟨cl⟩, rfl, hs⟩ := okw_pi hv
  obtain ⟨fuel, hf⟩ := h
  obtain ⟨xs, n, _, _, hl, hx, he⟩ := DataW.trod_array Tryz.underlying29 hf
  simp only [Value.cells] at he
  match cl, hs with
  | [c0, c1], _ =>
    have e0 := he 0 (by decide)
    have e1 := he 1 (by decide)
    rw [row_cellsI] at e0 e1
    match xs, hx with
    | [x0, x1], _ =>
      obtain ⟨z0, k0, _, w0⟩ := DataW.trod_int Tryz.underlying3 (show DataW.trod enc Tryz.prog W base sp held n 3 [c0] = some x0 from e0)
      obtain ⟨z1, k1, _, w1⟩ := DataW.trod_int Tryz.underlying3 (show DataW.trod enc Tryz.prog W base sp held n 3 [c1] = some x1 from e1)
      simp only [List.cons.injEq, and_true] at k0 k1
      subst k0 k1
      exact ⟨z0, z1, rfl⟩
theorem okw_pu {r : Reach} {b0 : Nat} {v : Value} (hv : Value.okWide Tryz.prog W r b0 61 v) : ∃ cs : Array Value, v = .agg cs ∧ cs.size = 2 := by
  simp only [Value.okWide, Tryz.underlying61] at hv
  obtain ⟨cs, rfl, hcs, _⟩ := hv
  exact ⟨cs, rfl, by rw [hcs]; kernel_rfl⟩
theorem open_pu {r : Reach} {b0 : Nat} {v : Value} {d : DataW H} {ps : List MemPlace} (hv : Value.okWide Tryz.prog W r b0 61 v) (h : DataW.Trod enc Tryz.prog W base sp held 61 v d ps) :
    ∃ x y : Nat, v = .agg #[.int .u16 (x : Nat), .int .u16 (y : Nat)] ∧ x < 65536 ∧ y < 65536 := by
  obtain ⟨⟨cl⟩, rfl, hs⟩ := okw_pu hv
  obtain ⟨fuel, hf⟩ := h
  obtain ⟨xs, n, _, _, hl, hx, he⟩ := DataW.trod_array Tryz.underlying61 hf
  simp only [Value.cells] at he
  match cl, hs with
  | [c0, c1], _ =>
    have e0 := he 0 (by decide)
    have e1 := he 1 (by decide)
    rw [row_cells16] at e0 e1
    match xs, hx with
    | [x0, x1], _ =>
      obtain ⟨z0, k0, _, w0⟩ := DataW.trod_int Tryz.underlying48 (show DataW.trod enc Tryz.prog W base sp held n 48 [c0] = some x0 from e0)
      obtain ⟨z1, k1, _, w1⟩ := DataW.trod_int Tryz.underlying48 (show DataW.trod enc Tryz.prog W base sp held n 48 [c1] = some x1 from e1)
      simp only [List.cons.injEq, and_true] at k0 k1
      subst k0 k1
      have b0 := bounds_u16 w0
      have b1 := bounds_u16 w1
      obtain ⟨n0, rfl⟩ := Int.eq_ofNat_of_zero_le b0.1
      obtain ⟨n1, rfl⟩ := Int.eq_ofNat_of_zero_le b1.1
      exact ⟨n0, n1, rfl, by omega, by omega⟩
end

/-- The library's table, as it was laid, gives the cells that the walks read. -/
theorem tab_core {W : World} {g0 : Nat} {t0 : TypeId} {cs0 : List Value} {xs : List (DataW Unit × List MemPlace)} {n : Nat} (hxs : xs.length = 32) (hl : cs0.length = 32)
    (hx : xs.map Prod.fst = Lib.deBruijn32tab.map (fun k => (DataW.lit (.int .u8 (k : Nat)) : DataW Unit)))
    (he : ∀ i, i < 32 → DataW.trod (fun _ => ()) Tryz.prog W 0 (fun _ => true) false n 5 ((cs0.drop i).take 1) = xs[i]?)
    (cell : ∀ i, W.cell? ⟨g0, i, none⟩ = cs0[i]?) : TabAt g0 Lib.deBruijn32tab W := by
  intro j hj
  have hj32 : j < 32 := hj
  have e := he j hj32
  rw [List.getElem?_eq_getElem (by omega : j < xs.length)] at e
  obtain ⟨z, hz, hd, _⟩ := DataW.trod_int Tryz.underlying5 e
  have h1 : (xs.map Prod.fst)[j]? = (Lib.deBruijn32tab.map (fun k => (DataW.lit (.int .u8 (k : Nat)) : DataW Unit)))[j]? := by rw [hx]
  rw [List.getElem?_map, List.getElem?_map, List.getElem?_eq_getElem (by omega : j < xs.length), hd, List.getElem?_eq_getElem hj] at h1
  simp only [Option.map_some, Option.some.injEq, DataW.lit.injEq, Lit.int.injEq, true_and] at h1
  rw [cell j]
  have h2 := congrArg (fun l => l[0]?) hz
  simp only [List.getElem?_take_of_lt Nat.zero_lt_one, List.getElem?_drop, Nat.add_zero, List.getElem?_cons_zero] at h2
  rw [h2, h1, List.getD_eq_getElem?_getD, List.getElem?_eq_getElem hj]; rfl
theorem tab_of_laid {W : World} (h : laidMetH Tryz.prog [("math/bits.deBruijn32tab", Rows.laid_math_bits_deBruijn32tab)] W) : Tab W := by
  rw [MakeChecks.laidMetH_plain _ _ _ (by kernel_rfl)] at h
  obtain ⟨ps, ⟨g0, t0, cs0, f0, p0, q0, hg0, ht0, hv0, hd0, _, _⟩, _⟩ := h
  obtain rfl := Option.some.inj (row_globD.symm.trans hg0)
  obtain rfl := Option.some.inj (row_globDT.symm.trans ht0)
  obtain ⟨xs, n, _, hx, hl, hxs, he⟩ := DataW.trod_array Tryz.underlying120 hd0
  have h3 : Tryz.prog.cellsOf 120 = 32 := by kernel_rfl
  have cell := fun i => World.var?_cell hg0 hv0 i
  obtain ⟨cl⟩ := cs0
  simp only [row_cells8, Nat.mul_one] at he
  refine tab_core (t0 := 0) hxs (by rw [← h3]; exact hl) ?_ he (fun i => by simpa using cell i)
  simp only [Rows.laid_math_bits_deBruijn32tab, Prod.mk.injEq, DataW.agg.injEq] at hx
  exact hx.1.symm
theorem door_met (os : Os) (args : Array Value) : laidMetH Tryz.prog [("math/bits.deBruijn32tab", Rows.laid_math_bits_deBruijn32tab)] ((World.doorLaid Tryz.prog 400 os).forCall (fun _ _ => 0) ⟨#[], args, []⟩).memory :=
  laidMetH_of_parts3 (fuel := 8) (laidMet_of_run' 8 (by kernel_rfl) (by kernel_rfl)) (by kernel_rfl) (by kernel_rfl)
end Go.Proofs.YtacjfpibilolnaaGreatDoor

/- A region that draws its order, whose calls come up in one order alone and whose other operations yield the same at whatever time: it is run one behind the other. -/
set_option linter.unusedVariables false
set_option linter.unusedSimpArgs false
namespace Go.Proofs.YtacjfpibilolnaaGreatDoor
open Go.RowKit

/-- One behind the other, by a list of operations; 'true': it yields the same in every world that meets S. -/
def SeqP (P : Program) (ops : Array Oper) (Q : Exit → Act → World → Prop) (S : World → Prop) : List (Nat × Bool) → Act → World → Prop
  | [], a, w => Q .normal a w
  | (i, true) :: p, a, w => ∃ o v, ops[i]? = some o ∧ (∀ c a w, Q (.panic c) (a.put o.dst v) w → Q (.panic c) a w) ∧ YieldsIf P ops S o v a ∧ SeqP P ops Q S p (a.put o.dst v) w
  | (i, false) :: p, a, w => wpOp P ops Q i (fun a' w' => S w' ∧ (S w' → SeqP P ops Q S p a' w')) a w
/-- What the order hangs on: number, kind, what it comes behind, what it writes, what it reads. -/
structure Info where
  i : Nat
  t : Bool
  deps : List Nat
  dst : Option Nat
  looks : List Nat
def infoOf (ops : Array Oper) (x : Nat × Bool) : Info :=
  match ops[x.1]? with
  | none => ⟨x.1, x.2, [], none, []⟩
  | some o => ⟨x.1, x.2, (o.after.toList.filter (Region.binds .any)).map (fun e => e.on), o.dst, Oper.looksAt ops o⟩
def apartB (x y : Info) : Bool :=
  (match x.dst with | some d => !y.looks.contains d && y.dst != some d | none => true) && (match y.dst with | some d => !x.looks.contains d | none => true)
def chkTake : List Info → Bool
  | [] => true
  | x :: r => (!x.t || r.all (fun y => y.deps.contains x.i || apartB x y)) && chkTake r
def chkOrder : List Nat → List Info → Bool
  | _, [] => true
  | d, x :: r => !d.contains x.i && x.deps.all (fun k => d.contains k) && chkOrder (x.i :: d) r
def chkCall : Option (List Nat) → List Info → Bool
  | _, [] => true
  | none, x :: r => chkCall (if x.t then none else some [x.i]) r
  | some W, x :: r => x.deps.any (fun k => W.contains k) && chkCall (if x.t then some (x.i :: W) else some [x.i]) r
def chkAll (ops : Array Oper) (p : List (Nat × Bool)) : Bool :=
  let l := p.map (infoOf ops)
  chkTake l && chkOrder [] l && chkCall none l && (List.range ops.size).all (fun k => (p.map (fun x => x.1)).contains k) && p.all (fun x => decide (x.1 < ops.size)) && Region.noSelect ops
/-- The operations behind a call each come behind something from that call on. -/
theorem chkCall_spec : ∀ (l : List Info) (W : List Nat), chkCall (some W) l = true → ∀ x ∈ l, ∃ k ∈ x.deps, k ∈ W ∨ ∃ y ∈ l, y.i = k
  | [], W, h, x, hx => by cases hx
  | y :: r, W, h, x, hx => by
    simp only [chkCall, Bool.and_eq_true] at h
    obtain ⟨h1, h2⟩ := h
    rcases List.mem_cons.1 hx with rfl | hx
    · obtain ⟨k, hk, hc⟩ := List.any_eq_true.1 h1
      exact ⟨k, hk, .inl (by simpa using hc)⟩
    · have h3 : ∃ W', chkCall (some W') r = true ∧ ∀ k ∈ W', k ∈ W ∨ k = y.i := by
        cases ht : y.t with
        | true => rw [ht] at h2; exact ⟨y.i :: W, h2, fun k hk => by rcases List.mem_cons.1 hk with rfl | hk; exact .inr rfl; exact .inl hk⟩
        | false => rw [ht] at h2; exact ⟨[y.i], h2, fun k hk => .inr (by simpa using hk)⟩
      obtain ⟨W', hW, hsub⟩ := h3
      obtain ⟨k, hk, hc⟩ := chkCall_spec r W' hW x hx
      refine ⟨k, hk, ?_⟩
      rcases hc with hc | ⟨z, hz, he⟩
      · rcases hsub k hc with h | h
        · exact .inl h
        · exact .inr ⟨y, List.mem_cons_self .., h.symm⟩
      · exact .inr ⟨z, List.mem_cons_of_mem _ hz, he⟩
theorem infoOf_some {ops : Array Oper} {x : Nat × Bool} {o : Oper} (h : ops[x.1]? = some o) : infoOf ops x = ⟨x.1, x.2, (o.after.toList.filter (Region.binds .any)).map (fun e => e.on), o.dst, Oper.looksAt ops o⟩ := by
  unfold infoOf; rw [h]
theorem infoOf_i (ops : Array Oper) (x : Nat × Bool) : (infoOf ops x).i = x.1 := by unfold infoOf; split <;> rfl
theorem infoOf_t (ops : Array Oper) (x : Nat × Bool) : (infoOf ops x).t = x.2 := by unfold infoOf; split <;> rfl
theorem dep_mem {ops : Array Oper} {x : Nat × Bool} {o : Oper} (h : ops[x.1]? = some o) {k : Nat} : k ∈ (infoOf ops x).deps ↔ ∃ e ∈ o.after, Region.binds .any e = true ∧ e.on = k := by
  rw [infoOf_some h]
  simp only [List.mem_map, List.mem_filter, Array.mem_toList_iff]
  constructor
  · rintro ⟨e, ⟨h1, h2⟩, h3⟩; exact ⟨e, h1, h2, h3⟩
  · rintro ⟨e, h1, h2, h3⟩; exact ⟨e, ⟨h1, h2⟩, h3⟩
theorem apartB_spec {ops : Array Oper} {x y : Nat × Bool} {o o' : Oper} (hx : ops[x.1]? = some o) (hy : ops[y.1]? = some o') (h : apartB (infoOf ops x) (infoOf ops y) = true) : Oper.apart ops o o' = true := by
  rw [infoOf_some hx, infoOf_some hy] at h
  exact h
/-- The region's own walk, from any point of the list on. -/
theorem seq_held {P : Program} {ops : Array Oper} {Q : Exit → Act → World → Prop} {S : World → Prop} (hns : Region.noSelect ops = true) :
    ∀ (p : List (Nat × Bool)) (d : List Nat) (c : Option (List Nat)) (L : Array Bool) (a : Act) (w : World),
      chkTake (p.map (infoOf ops)) = true → chkOrder d (p.map (infoOf ops)) = true → chkCall c (p.map (infoOf ops)) = true →
      (∀ k, k < ops.size → k ∈ d ∨ ∃ x ∈ p, x.1 = k) → (∀ x ∈ p, x.1 < ops.size) →
      (∀ k ∈ d, k < ops.size) → L.size = ops.size → (∀ k, k < ops.size → (L.getD k false = true ↔ k ∈ d)) → S w → SeqP P ops Q S p a w → wpAnyH P .any ops Q S p.length L a w
  | [], d, c, L, a, w, _, _, _, hall, _, _, hs, hL, hS, h => by
    refine ⟨?_, h⟩
    rw [List.eq_nil_iff_forall_not_mem]
    intro j hj
    obtain ⟨h1, o, ho, _⟩ := mem_ready.1 hj
    have hjn : j < ops.size := (Array.getElem?_eq_some_iff.1 ho).1
    have h2 : j ∈ d := by
      rcases hall j hjn with h | ⟨x, hx, _⟩
      · exact h
      · cases hx
    have h3 := (hL j hjn).2 h2
    have hl : j < L.size := by omega
    simp [Array.getD, hl] at h1 h3
    rw [h1] at h3; cases h3
  | (i, b) :: p, d, c, L, a, w, ht, ho, hc, hall, hlt, hdl, hs, hL, hS, h => by
    have hi : i < ops.size := hlt (i, b) (List.mem_cons_self ..)
    obtain ⟨oi, hoi⟩ : ∃ o, ops[i]? = some o := ⟨ops[i], Array.getElem?_eq_getElem hi⟩
    simp only [List.map_cons, chkTake, chkOrder, Bool.and_eq_true, infoOf_i, infoOf_t] at ht ho
    obtain ⟨ht1, ht2⟩ := ht
    obtain ⟨⟨ho0, ho1⟩, ho2⟩ := ho
    have hid : i ∉ d := by simpa using ho0
    have hbit : ∀ k, k < ops.size → ((L.setIfInBounds i true).getD k false = true ↔ k ∈ i :: d) := by
      intro k hk
      rw [bit_set (by omega)]
      by_cases e : k = i
      · rw [if_pos e]; simp [e]
      · rw [if_neg e, hL k hk]; simp [e]
    have hunl : ∀ k, k < ops.size → (L.getD k true = false ↔ k ∉ d) := by
      intro k hk
      have := hL k hk
      have hl : k < L.size := by omega
      simp only [Array.getD, hl, dite_true] at this ⊢
      rw [← this, Bool.not_eq_true]
    have hready : i ∈ Region.ready .any ops L := by
      refine mem_ready.2 ⟨(hunl i hi).2 hid, oi, hoi, fun e he hb => ?_⟩
      have hk : e.on ∈ (infoOf ops (i, b)).deps := (dep_mem (x := (i, b)) hoi).2 ⟨e, he, hb, rfl⟩
      have hd : e.on ∈ d := by have := List.all_eq_true.1 ho1 _ hk; simpa using this
      exact (hL _ (hdl _ hd)).2 hd
    have hcall : ∃ c', chkCall c' (p.map (infoOf ops)) = true ∧ (b = false → ∃ W, c' = some W ∧ W = [i]) := by
      cases c with
      | none =>
        simp only [List.map_cons, chkCall, infoOf_i, infoOf_t] at hc
        cases b with
        | true => exact ⟨_, hc, fun e => by cases e⟩
        | false => exact ⟨_, hc, fun _ => ⟨[i], rfl, rfl⟩⟩
      | some W =>
        simp only [List.map_cons, chkCall, infoOf_i, infoOf_t, Bool.and_eq_true] at hc
        cases b with
        | true => exact ⟨_, hc.2, fun e => by cases e⟩
        | false => exact ⟨_, hc.2, fun _ => ⟨[i], rfl, rfl⟩⟩
    obtain ⟨c', hc', hcW⟩ := hcall
    have hall' : ∀ k, k < ops.size → k ∈ i :: d ∨ ∃ x ∈ p, x.1 = k := by
      intro k hk
      rcases hall k hk with h | ⟨x, hx, e⟩
      · exact .inl (List.mem_cons_of_mem _ h)
      · rcases List.mem_cons.1 hx with rfl | hx
        · exact .inl (by rw [← e]; exact List.mem_cons_self ..)
        · exact .inr ⟨x, hx, e⟩
    have hlt' : ∀ x ∈ p, x.1 < ops.size := fun x hx => hlt x (List.mem_cons_of_mem _ hx)
    have IH := fun a' w' (hS' : S w') (h' : SeqP P ops Q S p a' w') => seq_held hns p (i :: d) c' (L.setIfInBounds i true) a' w' ht2 ho2 hc' hall' hlt' (fun k hk => by rcases List.mem_cons.1 hk with rfl | hk; exact hi; exact hdl k hk) (by simpa using hs) hbit hS' h'
    cases b with
    | true =>
      obtain ⟨o, v, ho', hQ, hy, hrest⟩ := h
      rw [hoi] at ho'; cases ho'
      refine wpAnyH_first hoi ?_ hQ _ _ _ _ ?_ hready hy hS (IH _ _ hS hrest)
      · intro j o cs bl hj e
        have := Array.all_eq_true_iff_forall_mem.1 hns o (Array.mem_of_getElem? hj)
        rw [e] at this; cases this
      · intro j oj hj hne hu hno
        have hjn : j < ops.size := (Array.getElem?_eq_some_iff.1 hj).1
        have hjd : j ∉ d := (hunl j hjn).1 hu
        rcases hall j hjn with h | ⟨x, hx, e⟩
        · exact absurd h hjd
        · rcases List.mem_cons.1 hx with rfl | hx
          · exact absurd e.symm hne
          · subst e
            simp only [Bool.not_true, Bool.false_or] at ht1
            have h1 := List.all_eq_true.1 ht1 _ (List.mem_map_of_mem (f := infoOf ops) hx)
            rcases Bool.or_eq_true_iff.1 h1 with h2 | h2
            · exfalso
              have h3 : i ∈ (infoOf ops x).deps := by simpa using h2
              obtain ⟨e, he, hb, hon⟩ := (dep_mem hj).1 h3
              exact hno e he hb hon
            · exact apartB_spec (x := (i, true)) hoi hj h2
    | false =>
      refine ⟨fun e => (by rw [e] at hready; exact (nomatch hready)), fun j hj => ?_⟩
      have hji : j = i := by
        obtain ⟨h1, oj, hoj, hdep⟩ := mem_ready.1 hj
        have hjn : j < ops.size := (Array.getElem?_eq_some_iff.1 hoj).1
        have hjd : j ∉ d := (hunl j hjn).1 h1
        rcases hall j hjn with h | ⟨x, hx, e⟩
        · exact absurd h hjd
        · rcases List.mem_cons.1 hx with rfl | hx
          · exact e.symm
          · exfalso
            subst e
            obtain ⟨W, rfl, rfl⟩ := hcW rfl
            obtain ⟨k, hk, hW⟩ := chkCall_spec _ _ hc' _ (List.mem_map_of_mem (f := infoOf ops) hx)
            obtain ⟨e, he, hb, hon⟩ := (dep_mem hoj).1 hk
            have hlk := hdep e he hb
            rw [hon] at hlk
            have hkn : k < ops.size := by
              rcases hW with hW | ⟨y, hy, ey⟩
              · simp at hW; omega
              · obtain ⟨z, hz, rfl⟩ := List.mem_map.1 hy
                rw [infoOf_i] at ey; rw [← ey]; exact hlt' z hz
            have hkd := (hL k hkn).1 hlk
            have hnot : ∀ (q : List (Nat × Bool)) (d' : List Nat), chkOrder d' (q.map (infoOf ops)) = true → ∀ z ∈ q, z.1 ∉ d' := by
              intro q
              induction q with
              | nil => intro d' _ z hz; cases hz
              | cons y r ih =>
                intro d' h z hz
                simp only [List.map_cons, chkOrder, Bool.and_eq_true, infoOf_i] at h
                rcases List.mem_cons.1 hz with rfl | hz
                · simpa using h.1.1
                · exact fun hm => ih _ h.2 z hz (List.mem_cons_of_mem _ hm)
            rcases hW with hW | ⟨y, hy, ey⟩
            · simp at hW; subst hW; exact hid hkd
            · obtain ⟨z, hz, rfl⟩ := List.mem_map.1 hy
              rw [infoOf_i] at ey; subst ey
              exact hnot p (i :: d) ho2 z hz (List.mem_cons_of_mem _ hkd)
      subst hji
      exact wpOp_mono (fun a' w' h' => ⟨h'.1, IH a' w' h'.1 (h'.2 h'.1)⟩) h
theorem wp_region_seq {P : Program} {ops : Array Oper} {Q : Exit → Act → World → Prop} {id : Nat} {a : Act} {w : World} (S : World → Prop) (p : List (Nat × Bool)) (hm : P.follows .mixedOrders = true)
    (hc : chkAll ops p = true) (hn : p.length = ops.size) (hS : S w.drew) (h : S w.drew → SeqP P ops Q S p a w.drew) : (Code.region id ops true).wp P Q a w := by
  refine wp_region_held_drew (S := S) hm hS (fun hS => ?_)
  unfold chkAll at hc
  simp only [Bool.and_eq_true] at hc
  obtain ⟨⟨⟨⟨⟨h1, h2⟩, h3⟩, h4⟩, h5⟩, h6⟩ := hc
  have := seq_held (P := P) (Q := Q) (S := S) h6 p [] none (Array.replicate ops.size false) a w.drew h1 h2 h3 ?_ ?_ (fun k hk => nomatch hk) (by simp) ?_ hS (h hS)
  · rw [hn] at this; exact this
  · intro k hk
    have := List.all_eq_true.1 h4 k (List.mem_range.2 hk)
    right
    simp only [List.contains_iff_mem, List.mem_map] at this
    obtain ⟨x, hx, e⟩ := this
    exact ⟨x, hx, e⟩
  · intro x hx
    simpa using List.all_eq_true.1 h5 x hx
  · intro k hk
    simp [Array.getD, hk]
section
variable {P : Program} {ops : Array Oper} {Q : Exit → Act → World → Prop} {S : World → Prop} {p : List (Nat × Bool)} {a : Act} {w : World} {i : Nat} {o : Oper}
theorem SeqP.take {v : Value} (ho : ops.toList[i]? = some o) (hQ : ∀ c a w, Q (.panic c) (a.put o.dst v) w → Q (.panic c) a w) (hy : YieldsIf P ops S o v a) (h : SeqP P ops Q S p (a.put o.dst v) w) : SeqP P ops Q S ((i, true) :: p) a w :=
  ⟨o, v, by rw [← Array.getElem?_toList]; exact ho, hQ, hy, h⟩
theorem SeqP.call (ho : ops.toList[i]? = some o) (hw : Region.wanted o (yielded ops a.tmps) = true) (h : ∀ K : Act → World → Prop, Shut (∀ a w, S w → (S w → SeqP P ops Q S p a w) → K a w) → Oper.wp P o a w K Q) : SeqP P ops Q S ((i, false) :: p) a w := by
  show wpOp P ops Q i _ a w
  unfold wpOp
  rw [show ops[i]? = some o by rw [← Array.getElem?_toList]; exact ho]
  simp only [hw, if_true]
  exact .inl (h _ (fun a w hS h => ⟨hS, h⟩))
theorem SeqP.done (h : Q .normal a w) : SeqP P ops Q S [] a w := h
end
end Go.Proofs.YtacjfpibilolnaaGreatDoor
