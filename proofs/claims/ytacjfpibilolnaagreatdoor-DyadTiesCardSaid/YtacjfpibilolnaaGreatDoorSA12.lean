/- Dyadic numbers, walked: Round. -/
import Derived.Test.YtacjfpibilolnaaGreatDoorSA11
import Derived.Test.YtacjfpibilolnaaGreatDoorSA10
set_option linter.unusedVariables false
set_option linter.unusedSimpArgs false
namespace Go.Proofs.YtacjfpibilolnaaGreatDoor
open Go.RowKit Go.Shelf
attribute [local go_sem] max2_i min2_i max_two min_two

theorem dval_back {z n : Int} {a : Rat} (h : dval z (-n) = a) : a * (2 : Rat) ^ n = (z : Rat) := by
  rw [← h]; unfold dval
  rw [Rat.mul_assoc, ← zp_add, Int.add_left_neg, Rat.zpow_zero, Rat.mul_one]
theorem rnd_int (dr z : Int) : rnd dr (z : Rat) = z := by
  unfold rnd
  rw [Rat.floor_intCast, Rat.ceil_intCast]
  split
  · rfl
  · split
    · rfl
    · split <;> rfl
theorem round_same {a : Rat} {n : Int} (dr : Int) (h : Dyd a) (hn : -n ≤ dex a) : dval (rnd dr (a * (2 : Rat) ^ n)) (-n) = a := by
  have h1 := lev h hn
  rw [dval_back h1, rnd_int, h1]
theorem round_ovr {a : Rat} {n : Int} {k : Nat} (dr : Int) (h : Dyd a) (hk : -n - dex a = k) (h0 : 0 ≤ dr) (h4 : dr ≤ 4) : ovr (dmn a) ((2 ^ k : Nat) : Int) dr = rnd dr (a * (2 : Rat) ^ n) := by
  have e : a * (2 : Rat) ^ n = ((dmn a : Int) : Rat) / ((2 ^ k : Int) : Rat) := by
    conv => lhs; lhs; rw [← dval_q h]
    unfold dval
    rw [Rat.mul_assoc, ← zp_add, show dex a + n = -(k : Int) by omega, zp_neg, zp_int, Rat.div_def]
  rw [e, Int.natCast_pow]
  exact ovr_rnd (Int.pow_pos (by decide)) h0 h4
set_option maxRecDepth 100000 in
set_option maxHeartbeats 1000000 in
theorem round_neg (aA : Option Addr) (ac : Nat) (a : Rat) (n : Int) (dr : Int) (w : World) (ha : NatV w aA ac (mg (dmn a)))   (h0 : dr < 0) :
    Calls Tryz.prog 17 #[.agg #[.bool (sg (dmn a)), .slice aA (nl (mg (dmn a))) ac, .int .i64 (dex a)], .int .i64 n, .int .i64 dr] w (RetDe w 0 1) := by
  have t1 : decide (dr < 0) = true := decide_eq_true h0
  have hb1 : Below (w).heap.size (w) ((w.alloc (.cells #[.bool (sg (dmn a)), .slice aA (nl (mg (dmn a))) ac, .int .i64 (dex a)] 28)).alloc (.cells #[.bool false, .slice none 0 0, .int .i64 0] 28)) := (Below.alloc (Below.alloc (Below.refl _ _) (Nat.le_refl _) _) (by simp <;> omega) _)
  replace ha := ha.below hb1
  have HBT := hb1
  clear hb1
  have Ra : BoxA ((w.alloc (.cells #[.bool (sg (dmn a)), .slice aA (nl (mg (dmn a))) ac, .int .i64 (dex a)] 28)).alloc (.cells #[.bool false, .slice none 0 0, .int .i64 0] 28)) w.heap.size 28 #[.bool (sg (dmn a)), .slice aA (nl (mg (dmn a))) ac, .int .i64 (dex a)] := ⟨by repeat (first | exact at_new (by first | (simp; done) | (simp; omega)) | refine at_old (by first | (simp; done) | (simp; omega)) ?_)⟩
  have qa0 := Ra.c (i := 0) rfl
  have qa1 := Ra.c (i := 1) rfl
  have qa2 := Ra.c (i := 2) rfl
  have Rr : BoxA ((w.alloc (.cells #[.bool (sg (dmn a)), .slice aA (nl (mg (dmn a))) ac, .int .i64 (dex a)] 28)).alloc (.cells #[.bool false, .slice none 0 0, .int .i64 0] 28)) (w.heap.size + 1) 28 #[.bool false, .slice none 0 0, .int .i64 0] := ⟨by repeat (first | exact at_new (by first | (simp; done) | (simp; omega)) | refine at_old (by first | (simp; done) | (simp; omega)) ?_)⟩
  have qr0 := Rr.c (i := 0) rfl
  have qr1 := Rr.c (i := 1) rfl
  have qr2 := Rr.c (i := 2) rfl
  have fzr0 := Rr.f (i := 0)
  have fzr1 := Rr.f (i := 1)
  have fzr2 := Rr.f (i := 2)
  go_enter Tryz.func17, Tryz.ntmps17
  go_wp2_with (fail)
  have RS := Rr
  have e0 := RS.c (i := 0) rfl
  have e1 := RS.c (i := 1) rfl
  have e2 := RS.c (i := 2) rfl
  refine bodyPost_ret (v := .tuple #[.agg #[.bool false, .slice none 0 0, .int .i64 0], .int .i64 1]) (by simp [results, Tryz.results17, go_sem, e0, e1, e2]) rfl ?_
  exact ⟨none, 0, by rw [dmn_zero, dex_zero, mg0, sg0, nl_zero], nat_none _, HBT⟩
set_option maxRecDepth 100000 in
set_option maxHeartbeats 1000000 in
theorem round_big (aA : Option Addr) (ac : Nat) (a : Rat) (n : Int) (dr : Int) (w : World) (ha : NatV w aA ac (mg (dmn a)))   (h0 : 5 ≤ dr) :
    Calls Tryz.prog 17 #[.agg #[.bool (sg (dmn a)), .slice aA (nl (mg (dmn a))) ac, .int .i64 (dex a)], .int .i64 n, .int .i64 dr] w (RetDe w 0 1) := by
  have t1 : decide (dr < 0) = false := decide_eq_false (by omega)
  have t2 : decide (5 ≤ dr) = true := decide_eq_true h0
  have hb1 : Below (w).heap.size (w) ((w.alloc (.cells #[.bool (sg (dmn a)), .slice aA (nl (mg (dmn a))) ac, .int .i64 (dex a)] 28)).alloc (.cells #[.bool false, .slice none 0 0, .int .i64 0] 28)) := (Below.alloc (Below.alloc (Below.refl _ _) (Nat.le_refl _) _) (by simp <;> omega) _)
  replace ha := ha.below hb1
  have HBT := hb1
  clear hb1
  have Ra : BoxA ((w.alloc (.cells #[.bool (sg (dmn a)), .slice aA (nl (mg (dmn a))) ac, .int .i64 (dex a)] 28)).alloc (.cells #[.bool false, .slice none 0 0, .int .i64 0] 28)) w.heap.size 28 #[.bool (sg (dmn a)), .slice aA (nl (mg (dmn a))) ac, .int .i64 (dex a)] := ⟨by repeat (first | exact at_new (by first | (simp; done) | (simp; omega)) | refine at_old (by first | (simp; done) | (simp; omega)) ?_)⟩
  have qa0 := Ra.c (i := 0) rfl
  have qa1 := Ra.c (i := 1) rfl
  have qa2 := Ra.c (i := 2) rfl
  have Rr : BoxA ((w.alloc (.cells #[.bool (sg (dmn a)), .slice aA (nl (mg (dmn a))) ac, .int .i64 (dex a)] 28)).alloc (.cells #[.bool false, .slice none 0 0, .int .i64 0] 28)) (w.heap.size + 1) 28 #[.bool false, .slice none 0 0, .int .i64 0] := ⟨by repeat (first | exact at_new (by first | (simp; done) | (simp; omega)) | refine at_old (by first | (simp; done) | (simp; omega)) ?_)⟩
  have qr0 := Rr.c (i := 0) rfl
  have qr1 := Rr.c (i := 1) rfl
  have qr2 := Rr.c (i := 2) rfl
  go_enter Tryz.func17, Tryz.ntmps17
  go_wp2_with (fail)
  refine (Calls.mono (ways_c _) ?_)
  rintro e W2 ⟨rfl, hb2⟩
  replace ha := ha.below hb2
  replace Ra := Ra.below hb2
  replace qa0 := cell_below hb2 qa0
  replace qa1 := cell_below hb2 qa1
  replace qa2 := cell_below hb2 qa2
  replace Rr := Rr.below hb2
  replace qr0 := cell_below hb2 qr0
  replace qr1 := cell_below hb2 qr1
  replace qr2 := cell_below hb2 qr2
  replace HBT := Below.cons HBT hb2
  clear hb2
  have fzr0 := Rr.f (i := 0)
  have fzr1 := Rr.f (i := 1)
  have fzr2 := Rr.f (i := 2)
  go_wp2_with (fail)
  have RS := Rr.store3 (.bool false) (.slice none 0 0) (.int .i64 0)
  have e0 := RS.c (i := 0) rfl
  have e1 := RS.c (i := 1) rfl
  have e2 := RS.c (i := 2) rfl
  refine bodyPost_ret (v := .tuple #[.agg #[.bool false, .slice none 0 0, .int .i64 0], .int .i64 1]) (by simp [results, Tryz.results17, go_sem, e0, e1, e2]) rfl ?_
  exact ⟨none, 0, by rw [dmn_zero, dex_zero, mg0, sg0, nl_zero], nat_none _, Below.store3 HBT (by first | exact Nat.le_refl _ | omega)⟩
set_option maxRecDepth 100000 in
set_option maxHeartbeats 1000000 in
theorem round_same_c (aA : Option Addr) (ac : Nat) (a : Rat) (n : Int) (dr : Int) (w : World) (ha : NatV w aA ac (mg (dmn a)))   (oa : DOk a) (d0 : 0 ≤ dr) (d4 : dr ≤ 4) (ln : -1000000 ≤ n ∧ n ≤ 1000000) (hn : -n ≤ dex a) :
    Calls Tryz.prog 17 #[.agg #[.bool (sg (dmn a)), .slice aA (nl (mg (dmn a))) ac, .int .i64 (dex a)], .int .i64 n, .int .i64 dr] w (RetDe w (dval (rnd dr (a * (2 : Rat) ^ n)) (-n)) 0) := by
  have t1 : decide (dr < 0) = false := decide_eq_false (by omega)
  have t2 : decide (5 ≤ dr) = false := decide_eq_false (by omega)
  have Wn : IntKind.i64.wrap (-n) = -n := IntWalk.i64_in _ (by omega)
  have hl := oa.l
  have he := oa.e
  have t3 : decide (-n ≤ dex a) = true := decide_eq_true hn
  have hv := round_same dr oa.d hn
  replace hv := Lib.hid hv
  replace oa := Lib.hid oa
  replace he := Lib.hid he
  have hb1 : Below (w).heap.size (w) ((w.alloc (.cells #[.bool (sg (dmn a)), .slice aA (nl (mg (dmn a))) ac, .int .i64 (dex a)] 28)).alloc (.cells #[.bool false, .slice none 0 0, .int .i64 0] 28)) := (Below.alloc (Below.alloc (Below.refl _ _) (Nat.le_refl _) _) (by simp <;> omega) _)
  replace ha := ha.below hb1
  have HBT := hb1
  clear hb1
  have Ra : BoxA ((w.alloc (.cells #[.bool (sg (dmn a)), .slice aA (nl (mg (dmn a))) ac, .int .i64 (dex a)] 28)).alloc (.cells #[.bool false, .slice none 0 0, .int .i64 0] 28)) w.heap.size 28 #[.bool (sg (dmn a)), .slice aA (nl (mg (dmn a))) ac, .int .i64 (dex a)] := ⟨by repeat (first | exact at_new (by first | (simp; done) | (simp; omega)) | refine at_old (by first | (simp; done) | (simp; omega)) ?_)⟩
  have qa0 := Ra.c (i := 0) rfl
  have qa1 := Ra.c (i := 1) rfl
  have qa2 := Ra.c (i := 2) rfl
  have Rr : BoxA ((w.alloc (.cells #[.bool (sg (dmn a)), .slice aA (nl (mg (dmn a))) ac, .int .i64 (dex a)] 28)).alloc (.cells #[.bool false, .slice none 0 0, .int .i64 0] 28)) (w.heap.size + 1) 28 #[.bool false, .slice none 0 0, .int .i64 0] := ⟨by repeat (first | exact at_new (by first | (simp; done) | (simp; omega)) | refine at_old (by first | (simp; done) | (simp; omega)) ?_)⟩
  have qr0 := Rr.c (i := 0) rfl
  have qr1 := Rr.c (i := 1) rfl
  have qr2 := Rr.c (i := 2) rfl
  go_enter Tryz.func17, Tryz.ntmps17
  go_wp2_with (fail)
  refine (Calls.mono (ways_c _) ?_)
  rintro e W2 ⟨rfl, hb2⟩
  replace ha := ha.below hb2
  replace Ra := Ra.below hb2
  replace qa0 := cell_below hb2 qa0
  replace qa1 := cell_below hb2 qa1
  replace qa2 := cell_below hb2 qa2
  replace Rr := Rr.below hb2
  replace qr0 := cell_below hb2 qr0
  replace qr1 := cell_below hb2 qr1
  replace qr2 := cell_below hb2 qr2
  replace HBT := Below.cons HBT hb2
  clear hb2
  have fzr0 := Rr.f (i := 0)
  have fzr1 := Rr.f (i := 1)
  have fzr2 := Rr.f (i := 2)
  go_wp2_with (fail)
  have RS := Rr.store3 (.bool (sg (dmn a))) (.slice aA (nl (mg (dmn a))) ac) (.int .i64 (dex a))
  have e0 := RS.c (i := 0) rfl
  have e1 := RS.c (i := 1) rfl
  have e2 := RS.c (i := 2) rfl
  refine bodyPost_ret (v := .tuple #[.agg #[.bool (sg (dmn a)), .slice aA (nl (mg (dmn a))) ac, .int .i64 (dex a)], .int .i64 0]) (by simp [results, Tryz.results17, go_sem, e0, e1, e2]) rfl ?_
  rw [hv.out]
  exact ⟨aA, ac, rfl, Rr.keep3 (by intro u hu; simp at hu; rcases hu with rfl | rfl | rfl <;> first | exact notU_bool _ | exact notU_slice _ _ _ | exact notU_i64 _) ha, Below.store3 HBT (by omega)⟩
set_option maxRecDepth 100000 in
set_option maxHeartbeats 1000000 in
theorem round_cut_c (aA : Option Addr) (ac : Nat) (a : Rat) (n : Int) (dr : Int) (w : World) (ha : NatV w aA ac (mg (dmn a)))   (oa : DOk a) (d0 : 0 ≤ dr) (d4 : dr ≤ 4) (ln : -1000000 ≤ n ∧ n ≤ 1000000) (hT : Tab w) (hn : dex a < -n) :
    Calls Tryz.prog 17 #[.agg #[.bool (sg (dmn a)), .slice aA (nl (mg (dmn a))) ac, .int .i64 (dex a)], .int .i64 n, .int .i64 dr] w (RetDe w (dval (rnd dr (a * (2 : Rat) ^ n)) (-n)) 0) := by
  have t1 : decide (dr < 0) = false := decide_eq_false (by omega)
  have t2 : decide (5 ≤ dr) = false := decide_eq_false (by omega)
  have Wn : IntKind.i64.wrap (-n) = -n := IntWalk.i64_in _ (by omega)
  have hl := oa.l
  have he := oa.e
  have t3 : decide (-n ≤ dex a) = false := decide_eq_false (by omega)
  obtain ⟨k, hk⟩ := Int.eq_ofNat_of_zero_le (show 0 ≤ -n - dex a by omega)
  have hv := round_ovr dr oa.d hk d0 d4
  have Wk : IntKind.i64.wrap (-n - dex a) = (k : Int) := by rw [hk]; exact IntWalk.i64_in _ (by omega)
  have lk : k ≤ 2000000 := by omega
  have Wk2 : IntKind.i64.wrap (k : Int) = (k : Int) := IntWalk.i64_in _ (by omega)
  replace oa := Lib.hid oa
  replace he := Lib.hid he
  have hb1 : Below (w).heap.size (w) ((w.alloc (.cells #[.bool (sg (dmn a)), .slice aA (nl (mg (dmn a))) ac, .int .i64 (dex a)] 28)).alloc (.cells #[.bool false, .slice none 0 0, .int .i64 0] 28)) := (Below.alloc (Below.alloc (Below.refl _ _) (Nat.le_refl _) _) (by simp <;> omega) _)
  replace ha := ha.below hb1
  replace hT := hT.below hb1
  have HBT := hb1
  clear hb1
  have Ra : BoxA ((w.alloc (.cells #[.bool (sg (dmn a)), .slice aA (nl (mg (dmn a))) ac, .int .i64 (dex a)] 28)).alloc (.cells #[.bool false, .slice none 0 0, .int .i64 0] 28)) w.heap.size 28 #[.bool (sg (dmn a)), .slice aA (nl (mg (dmn a))) ac, .int .i64 (dex a)] := ⟨by repeat (first | exact at_new (by first | (simp; done) | (simp; omega)) | refine at_old (by first | (simp; done) | (simp; omega)) ?_)⟩
  have qa0 := Ra.c (i := 0) rfl
  have qa1 := Ra.c (i := 1) rfl
  have qa2 := Ra.c (i := 2) rfl
  have Rr : BoxA ((w.alloc (.cells #[.bool (sg (dmn a)), .slice aA (nl (mg (dmn a))) ac, .int .i64 (dex a)] 28)).alloc (.cells #[.bool false, .slice none 0 0, .int .i64 0] 28)) (w.heap.size + 1) 28 #[.bool false, .slice none 0 0, .int .i64 0] := ⟨by repeat (first | exact at_new (by first | (simp; done) | (simp; omega)) | refine at_old (by first | (simp; done) | (simp; omega)) ?_)⟩
  have qr0 := Rr.c (i := 0) rfl
  have qr1 := Rr.c (i := 1) rfl
  have qr2 := Rr.c (i := 2) rfl
  go_enter Tryz.func17, Tryz.ntmps17
  go_wp2_with (fail)
  refine (Calls.mono (ways_c _) ?_)
  rintro e W2 ⟨rfl, hb2⟩
  replace ha := ha.below hb2
  replace hT := hT.below hb2
  replace Ra := Ra.below hb2
  replace qa0 := cell_below hb2 qa0
  replace qa1 := cell_below hb2 qa1
  replace qa2 := cell_below hb2 qa2
  replace Rr := Rr.below hb2
  replace qr0 := cell_below hb2 qr0
  replace qr1 := cell_below hb2 qr1
  replace qr2 := cell_below hb2 qr2
  replace HBT := Below.cons HBT hb2
  clear hb2
  go_wp2_with (fail)
  have hd3 : Below (W2).heap.size W2 (W2).drew := (Below.refl _ _).drew
  replace ha := ha.below hd3
  replace hT := hT.below hd3
  replace Ra := Ra.below hd3
  replace qa0 := cell_below hd3 qa0
  replace qa1 := cell_below hd3 qa1
  replace qa2 := cell_below hd3 qa2
  replace Rr := Rr.below hd3
  replace qr0 := cell_below hd3 qr0
  replace qr1 := cell_below hd3 qr1
  replace qr2 := cell_below hd3 qr2
  replace HBT := Below.cons HBT hd3
  clear hd3
  obtain ⟨o, Eo⟩ : ∃ zq : Int, zq = (1 : Int) := ⟨_, rfl⟩
  have No : nl (mg o) ≤ 1 := by rw [Eo]; exact Nat.le_of_eq nl_one
  have C3_0 := fun (W : World) => (show Calls Tryz.prog 68 #[.int .i64 1] W (RetI W o) by rw [Eo]; exact iof1_c W)
  replace Eo := Lib.hid Eo
  replace C3_0 := Lib.hid C3_0
  obtain ⟨p, Ep⟩ : ∃ zq : Int, zq = shf o (k : Int) := ⟨_, rfl⟩
  have Vp : p = ((2 ^ k : Nat) : Int) := by rw [Ep, Eo.out]; exact shf_one k
  have Pp : 0 < p := by rw [Vp]; have := Nat.two_pow_pos k; omega
  have Np : nl (mg p) ≤ 162502 := by rw [Vp, mg_nat, nl_two_pow]; omega
  have lo := ovr_nl (dmn a) dr Pp
  rw [← Vp] at hv
  replace hv := Lib.hid hv
  replace Vp := Lib.hid Vp
  have C3_1 := fun (W : World) (A : Option Addr) (c : Nat) (h1 : NatV W A c (mg o)) => ishift_c A c o (k : Int) W h1 (by omega) (by omega)
  simp only [← Ep] at C3_1
  replace Ep := Lib.hid Ep
  replace C3_1 := Lib.hid C3_1
  obtain ⟨y, Ey⟩ : ∃ zq : Int, zq = ovr (dmn a) p dr := ⟨_, rfl⟩
  rw [← Ey] at lo
  have C3_2 := fun (W : World) (A : Option Addr) (c : Nat) (h1 : NatV W aA ac (mg (dmn a))) (h2 : NatV W A c (mg p)) => over_c aA ac (dmn a) A c p dr W h1 h2 (by omega) (by omega) Pp d0 d4
  simp only [← Ey] at C3_2
  replace Ey := Lib.hid Ey
  replace C3_2 := Lib.hid C3_2
  obtain ⟨x, Ex⟩ : ∃ zq : Rat, zq = dval y (-n) := ⟨_, rfl⟩
  have C3_3 := fun (W : World) (A : Option Addr) (c : Nat) (h1 : NatV W A c (mg y)) (h2 : Tab W) => dmake_c A c y (-n) W h1 h2 (by omega) (by omega)
  simp only [← Ex] at C3_3
  replace Ex := Lib.hid Ex
  replace C3_3 := Lib.hid C3_3
  go_region_held3 (fun W => W.cell? ⟨w.heap.size, 0, none⟩ = some (.bool (sg (dmn a))) ∧ W.cell? ⟨w.heap.size, 1, none⟩ = some (.slice aA (nl (mg (dmn a))) ac) ∧ W.cell? ⟨w.heap.size, 2, none⟩ = some (.int .i64 (dex a)))
    (first
      | exact ⟨qa0, qa1, qa2⟩
      | exact ⟨qa0_4, qa1_4, qa2_4⟩
      | exact ⟨qa0_5, qa1_5, qa2_5⟩
      | exact ⟨qa0_6, qa1_6, qa2_6⟩
      | exact ⟨qa0_7, qa1_7, qa2_7⟩
      | exact ⟨((Ra_7.other3 (by simp <;> omega)).c (i := 0) rfl), ((Ra_7.other3 (by simp <;> omega)).c (i := 1) rfl), ((Ra_7.other3 (by simp <;> omega)).c (i := 2) rfl)⟩
      | go_keep)
    (first
      | (go_at_call 68; (with_reducible refine (C3_0.out _).mono ?_); rintro e W4 ⟨Xo, co, rfl, ho, hb4⟩; have ha_4 := ha.below hb4; have hT_4 := hT.below hb4; have Ra_4 := Ra.below hb4; have qa0_4 := cell_below hb4 qa0; have qa1_4 := cell_below hb4 qa1; have qa2_4 := cell_below hb4 qa2; have Rr_4 := Rr.below hb4; have qr0_4 := cell_below hb4 qr0; have qr1_4 := cell_below hb4 qr1; have qr2_4 := cell_below hb4 qr2; have HBT_4 := Below.cons HBT hb4)
      | (go_at_call 63; (with_reducible refine (C3_1.out _ _ _ ho).mono ?_); rintro e W5 ⟨Xp, cp, rfl, hp, hb5⟩; have ha_5 := ha_4.below hb5; have hT_5 := hT_4.below hb5; have Ra_5 := Ra_4.below hb5; have qa0_5 := cell_below hb5 qa0_4; have qa1_5 := cell_below hb5 qa1_4; have qa2_5 := cell_below hb5 qa2_4; have Rr_5 := Rr_4.below hb5; have qr0_5 := cell_below hb5 qr0_4; have qr1_5 := cell_below hb5 qr1_4; have qr2_5 := cell_below hb5 qr2_4; have ho_5 := ho.below hb5; have HBT_5 := Below.cons HBT_4 hb5)
      | (go_at_call 65; (with_reducible refine (C3_2.out _ _ _ ha_5 hp).mono ?_); rintro e W6 ⟨Xy, cy, rfl, hy, hb6⟩; have ha_6 := ha_5.below hb6; have hT_6 := hT_5.below hb6; have Ra_6 := Ra_5.below hb6; have qa0_6 := cell_below hb6 qa0_5; have qa1_6 := cell_below hb6 qa1_5; have qa2_6 := cell_below hb6 qa2_5; have Rr_6 := Rr_5.below hb6; have qr0_6 := cell_below hb6 qr0_5; have qr1_6 := cell_below hb6 qr1_5; have qr2_6 := cell_below hb6 qr2_5; have ho_6 := ho_5.below hb6; have hp_6 := hp.below hb6; have HBT_6 := Below.cons HBT_5 hb6)
      | (go_at_call 24; (with_reducible refine (C3_3.out _ _ _ hy hT_6).mono ?_); rintro e W7 ⟨Xx, cx, rfl, hx, hb7⟩; have ha_7 := ha_6.below hb7; have hT_7 := hT_6.below hb7; have Ra_7 := Ra_6.below hb7; have qa0_7 := cell_below hb7 qa0_6; have qa1_7 := cell_below hb7 qa1_6; have qa2_7 := cell_below hb7 qa2_6; have Rr_7 := Rr_6.below hb7; have qr0_7 := cell_below hb7 qr0_6; have qr1_7 := cell_below hb7 qr1_6; have qr2_7 := cell_below hb7 qr2_6; have ho_7 := ho_6.below hb7; have hp_7 := hp_6.below hb7; have hy_7 := hy.below hb7; have HBT_7 := Below.cons HBT_6 hb7; have fz0 := Rr_7.f (i := 0); have fz1 := Rr_7.f (i := 1); have fz2 := Rr_7.f (i := 2)))
  all_goals (try go_wp2_with (fail))
  have eqx : x = dval (rnd dr (a * (2 : Rat) ^ n)) (-n) := by rw [Ex.out, Ey.out, hv.out]
  have RS := Rr_7.store3 (.bool (sg (dmn x))) (.slice Xx (nl (mg (dmn x))) cx) (.int .i64 (dex x))
  have e0 := RS.c (i := 0) rfl
  have e1 := RS.c (i := 1) rfl
  have e2 := RS.c (i := 2) rfl
  refine bodyPost_ret (v := .tuple #[.agg #[.bool (sg (dmn x)), .slice Xx (nl (mg (dmn x))) cx, .int .i64 (dex x)], .int .i64 0]) (by simp [results, Tryz.results17, go_sem, e0, e1, e2]) rfl ?_
  rw [← eqx]
  exact ⟨Xx, cx, rfl, Rr_7.keep3 (by intro u hu; simp at hu; rcases hu with rfl | rfl | rfl <;> first | exact notU_bool _ | exact notU_slice _ _ _ | exact notU_i64 _) hx, Below.store3 HBT_7 (by omega)⟩
theorem dround_c (aA : Option Addr) (ac : Nat) (a : Rat) (n dr : Int) (w : World) (ha : NatV w aA ac (mg (dmn a))) (hT : Tab w) (oa : DOk a) (d0 : 0 ≤ dr) (d4 : dr ≤ 4) (ln : -1000000 ≤ n ∧ n ≤ 1000000) :
    Calls Tryz.prog 17 #[.agg #[.bool (sg (dmn a)), .slice aA (nl (mg (dmn a))) ac, .int .i64 (dex a)], .int .i64 n, .int .i64 dr] w (RetDe w (dval (rnd dr (a * (2 : Rat) ^ n)) (-n)) 0) := by
  by_cases h : -n ≤ dex a
  · exact round_same_c aA ac a n dr w ha oa d0 d4 ln h
  · exact round_cut_c aA ac a n dr w ha oa d0 d4 ln hT (by omega)
end Go.Proofs.YtacjfpibilolnaaGreatDoor

/- The document's dyadic numbers, walked: Make. -/
set_option linter.unusedVariables false
set_option linter.unusedSimpArgs false
namespace Go.Proofs.YtacjfpibilolnaaGreatDoor
open Go.RowKit Go.Shelf
attribute [local go_sem] max2_i min2_i max_two min_two

theorem bit_low {a k : Nat} (h0 : a ≠ 0) (hk : k < v2 a) : a / 2 ^ k % 2 = 0 := by
  obtain ⟨b, h1, h2⟩ := v2_spec h0
  obtain ⟨j, hj⟩ : ∃ j, v2 a = k + (j + 1) := ⟨v2 a - k - 1, by omega⟩
  have e : a / 2 ^ k = 2 * (2 ^ j * b) := by
    have : a = 2 ^ k * (2 * (2 ^ j * b)) := by
      conv => lhs; rw [h1, hj, Nat.pow_add, Nat.pow_succ]
      rw [Nat.mul_assoc, Nat.mul_comm (2 ^ j) 2, Nat.mul_assoc]
    conv => lhs; rw [this]
    exact Nat.mul_div_cancel_left _ (Nat.two_pow_pos k)
  rw [e]; exact Nat.mul_mod_right _ _
theorem bit_odd {a : Nat} (h0 : a ≠ 0) : a / 2 ^ v2 a % 2 = 1 := by
  obtain ⟨b, h1, h2⟩ := v2_spec h0
  have e : a / 2 ^ v2 a = b := by
    conv => lhs; lhs; rw [h1]
    exact Nat.mul_div_cancel_left _ (Nat.two_pow_pos _)
  rw [e]; exact h2
set_option maxRecDepth 100000 in
set_option maxHeartbeats 4000000 in
theorem tmake_0 (aA : Option Addr) (ac : Nat) (a : Int) (e : Int) (w : World) (ha : NatV w aA ac (mg a))  (h0 : a = 0) :
    Calls Tryz.prog 37 #[.agg #[.bool (sg a), .slice aA (nl (mg a)) ac], .int .i64 e] w (RetD w (dval a e)) := by
  have t1 : ((nl (mg a) : Int) == 0) = true := ieqT (by rw [h0, mg0, nl_zero]; rfl)
  have t2 : (nl (mg a) == 0) = true := by rw [h0, mg0, nl_zero]; rfl
  have hq : dval a e = 0 := by rw [h0]; exact dval_zero e
  replace h0 := Lib.hid h0
  replace hq := Lib.hid hq
  have hb1 : Below (w).heap.size (w) ((w.alloc (.cells #[.bool (sg a), .slice aA (nl (mg a)) ac] 24)).alloc (.cells #[.bool false, .slice none 0 0, .int .i64 0] 28)) := (Below.alloc (Below.alloc (Below.refl _ _) (Nat.le_refl _) _) (by simp <;> omega) _)
  replace ha := ha.below hb1
  have HBT := hb1
  clear hb1
  have Ra : BoxA ((w.alloc (.cells #[.bool (sg a), .slice aA (nl (mg a)) ac] 24)).alloc (.cells #[.bool false, .slice none 0 0, .int .i64 0] 28)) w.heap.size 24 #[.bool (sg a), .slice aA (nl (mg a)) ac] := ⟨by repeat (first | exact at_new (by first | (simp; done) | (simp; omega)) | refine at_old (by first | (simp; done) | (simp; omega)) ?_)⟩
  have qa0 := Ra.c (i := 0) rfl
  have qa1 := Ra.c (i := 1) rfl
  have Rr : BoxA ((w.alloc (.cells #[.bool (sg a), .slice aA (nl (mg a)) ac] 24)).alloc (.cells #[.bool false, .slice none 0 0, .int .i64 0] 28)) (w.heap.size + 1) 28 #[.bool false, .slice none 0 0, .int .i64 0] := ⟨by repeat (first | exact at_new (by first | (simp; done) | (simp; omega)) | refine at_old (by first | (simp; done) | (simp; omega)) ?_)⟩
  have qr0 := Rr.c (i := 0) rfl
  have qr1 := Rr.c (i := 1) rfl
  have qr2 := Rr.c (i := 2) rfl
  have fzr0 := Rr.f (i := 0)
  have fzr1 := Rr.f (i := 1)
  have fzr2 := Rr.f (i := 2)
  go_enter Tryz.func37, Tryz.ntmps37
  go_wp2_with (fail)
  have e0 := Rr.c (i := 0) rfl
  have e1 := Rr.c (i := 1) rfl
  have e2 := Rr.c (i := 2) rfl
  refine bodyPost_ret (v := .agg #[.bool false, .slice none 0 0, .int .i64 0]) (by simp [results, Tryz.results37, go_sem, e0, e1, e2]) rfl ?_
  rw [hq.out]
  exact ⟨none, 0, by rw [dmn_zero, dex_zero, mg0, sg0, nl_zero], by rw [dmn_zero, mg0]; exact ⟨.inl (by simp [vals, limbs_zero]), by rw [nl_zero]; exact Nat.le_refl _, by decide⟩, HBT⟩
set_option maxRecDepth 100000 in
set_option maxHeartbeats 4000000 in
theorem tmake_n (aA : Option Addr) (ac : Nat) (a : Int) (e : Int) (w : World) (ha : NatV w aA ac (mg a))  (la : nl (mg a) ≤ 1048576) (le : -1073741824 ≤ e ∧ e ≤ 1073741824) (h0 : a ≠ 0) :
    Calls Tryz.prog 37 #[.agg #[.bool (sg a), .slice aA (nl (mg a)) ac], .int .i64 e] w (RetD w (dval a e)) := by
  have m0 : mg a ≠ 0 := fun k => h0 (mg_zero.1 k)
  have t1 : ((nl (mg a) : Int) == 0) = false := ieqF (by have := nl_pos.2 m0; omega)
  have t2 : (nl (mg a) == 0) = false := by have := nl_pos.2 m0; simp; omega
  have hf := make_form a e
  have hd := dm_v2 a
  have hvl := v2_le (mg a)
  have hlow := fun k (h : k < v2 (mg a)) => bit_low m0 h
  have hodd := bit_odd m0
  obtain ⟨n, En⟩ : ∃ n, n = v2 (mg a) := ⟨_, rfl⟩
  have he : de a e = e + n := by unfold de; rw [if_neg h0, En]
  rw [← En] at hd hvl hlow hodd
  obtain ⟨x, Ex⟩ : ∃ x, x = e + (n : Int) := ⟨_, rfl⟩
  have Ix : e + (n : Int) = x := Ex.symm
  have Wx : IntKind.i64.wrap x = x := IntWalk.i64_in _ (by omega)
  rw [he, ← Ex] at hf
  have ln : n ≤ 33554432 := by omega
  replace hd := Lib.hid hd
  replace he := Lib.hid he
  replace hf := Lib.hid hf
  replace Ex := Lib.hid Ex
  replace En := Lib.hid En
  replace hlow := Lib.hid hlow
  replace hodd := Lib.hid hodd
  replace m0 := Lib.hid m0
  have hb1 : Below (w).heap.size (w) ((w.alloc (.cells #[.bool (sg a), .slice aA (nl (mg a)) ac] 24)).alloc (.cells #[.bool false, .slice none 0 0, .int .i64 0] 28)) := (Below.alloc (Below.alloc (Below.refl _ _) (Nat.le_refl _) _) (by simp <;> omega) _)
  replace ha := ha.below hb1
  have HBT := hb1
  clear hb1
  have Ra : BoxA ((w.alloc (.cells #[.bool (sg a), .slice aA (nl (mg a)) ac] 24)).alloc (.cells #[.bool false, .slice none 0 0, .int .i64 0] 28)) w.heap.size 24 #[.bool (sg a), .slice aA (nl (mg a)) ac] := ⟨by repeat (first | exact at_new (by first | (simp; done) | (simp; omega)) | refine at_old (by first | (simp; done) | (simp; omega)) ?_)⟩
  have qa0 := Ra.c (i := 0) rfl
  have qa1 := Ra.c (i := 1) rfl
  have Rr : BoxA ((w.alloc (.cells #[.bool (sg a), .slice aA (nl (mg a)) ac] 24)).alloc (.cells #[.bool false, .slice none 0 0, .int .i64 0] 28)) (w.heap.size + 1) 28 #[.bool false, .slice none 0 0, .int .i64 0] := ⟨by repeat (first | exact at_new (by first | (simp; done) | (simp; omega)) | refine at_old (by first | (simp; done) | (simp; omega)) ?_)⟩
  have qr0 := Rr.c (i := 0) rfl
  have qr1 := Rr.c (i := 1) rfl
  have qr2 := Rr.c (i := 2) rfl
  go_enter Tryz.func37, Tryz.ntmps37
  go_wp2_with (fail)
  go_loop [5] (fun v => ∃ k : Nat, v = .int .i64 (k : Nat) ∧ k ≤ n) (fun v => n - (intOf v).toNat)
  case atStart => exact ⟨0, rfl, Nat.zero_le _⟩
  case round =>
    obtain ⟨k, rfl, hk⟩ := hrel
    by_cases hkn : k < n
    · have CB := rbit_c aA ac (mg a) k _ ha (by omega) (by omega)
      rw [hlow.out k hkn] at CB
      replace CB := Lib.hid CB
      go_wp2_with (fail)
      refine (Calls.mono CB.out ?_)
      rintro e1 w' ⟨rfl, hw⟩
      subst hw
      go_wp2_with (fail)
      go_round
      case rel => exact ⟨k + 1, by go_num, by omega⟩
      case measure => simp [intOf] <;> omega
    · obtain rfl : k = n := by omega
      have CB := rbit_c aA ac (mg a) k _ ha (by omega) (by omega)
      rw [hodd.out] at CB
      replace CB := Lib.hid CB
      go_wp2_with (fail)
      refine (Calls.mono CB.out ?_)
      rintro e1 w' ⟨rfl, hw⟩
      subst hw
      go_wp2_with (fail)
      have hd2 : Below (((w.alloc (.cells #[.bool (sg a), .slice aA (nl (mg a)) ac] 24)).alloc (.cells #[.bool false, .slice none 0 0, .int .i64 0] 28))).heap.size ((w.alloc (.cells #[.bool (sg a), .slice aA (nl (mg a)) ac] 24)).alloc (.cells #[.bool false, .slice none 0 0, .int .i64 0] 28)) (((w.alloc (.cells #[.bool (sg a), .slice aA (nl (mg a)) ac] 24)).alloc (.cells #[.bool false, .slice none 0 0, .int .i64 0] 28))).drew := (Below.refl _ _).drew
      replace ha := ha.below hd2
      replace Ra := Ra.below hd2
      replace qa0 := cell_below hd2 qa0
      replace qa1 := cell_below hd2 qa1
      replace Rr := Rr.below hd2
      replace qr0 := cell_below hd2 qr0
      replace qr1 := cell_below hd2 qr1
      replace qr2 := cell_below hd2 qr2
      replace HBT := Below.cons HBT hd2
      clear hd2
      obtain ⟨m, Em⟩ : ∃ zq : Nat, zq = mg a / 2 ^ k := ⟨_, rfl⟩
      have Bm : nl m ≤ 1048576 := by rw [Em]; have := nl_div (mg a) (2 ^ k); omega
      have C2_0 := fun (W : World) (h1 : NatV W aA ac (mg a)) => rshr_c aA ac (mg a) k W h1 (by omega) (by omega)
      simp only [← Em] at C2_0
      replace Em := Lib.hid Em
      replace C2_0 := Lib.hid C2_0
      obtain ⟨z, Ez⟩ : ∃ zq : Int, zq = ival (sg a) m := ⟨_, rfl⟩
      have C2_1 := fun (W : World) (A : Option Addr) (c : Nat) (h1 : NatV W A c m) => rz_c (sg a) A c m W h1 (by omega)
      simp only [← Ez] at C2_1
      replace Ez := Lib.hid Ez
      replace C2_1 := Lib.hid C2_1
      go_region_held3 (fun W => W.cell? ⟨w.heap.size, 0, none⟩ = some (.bool (sg a)) ∧ W.cell? ⟨w.heap.size, 1, none⟩ = some (.slice aA (nl (mg a)) ac))
        (first
          | exact ⟨qa0, qa1⟩
          | exact ⟨qa0_3, qa1_3⟩
          | exact ⟨qa0_4, qa1_4⟩
          | exact ⟨((Ra_4.other3 (by simp <;> omega)).c (i := 0) rfl), ((Ra_4.other3 (by simp <;> omega)).c (i := 1) rfl)⟩
          | go_keep)
        (first
          | (go_at_call 82; (with_reducible refine (C2_0.out _ ha).mono ?_); rintro e W3 ⟨Xm, cm, rfl, hm, hb3⟩; have ha_3 := ha.below hb3; have Ra_3 := Ra.below hb3; have qa0_3 := cell_below hb3 qa0; have qa1_3 := cell_below hb3 qa1; have Rr_3 := Rr.below hb3; have qr0_3 := cell_below hb3 qr0; have qr1_3 := cell_below hb3 qr1; have qr2_3 := cell_below hb3 qr2; have HBT_3 := Below.cons HBT hb3)
          | (go_at_call 71; (with_reducible refine (C2_1.out _ _ _ hm).mono ?_); rintro e W4 ⟨Xz, cz, rfl, hz, hb4⟩; have ha_4 := ha_3.below hb4; have Ra_4 := Ra_3.below hb4; have qa0_4 := cell_below hb4 qa0_3; have qa1_4 := cell_below hb4 qa1_3; have Rr_4 := Rr_3.below hb4; have qr0_4 := cell_below hb4 qr0_3; have qr1_4 := cell_below hb4 qr1_3; have qr2_4 := cell_below hb4 qr2_3; have hm_4 := hm.below hb4; have HBT_4 := Below.cons HBT_3 hb4; have fz0 := Rr_4.f (i := 0); have fz1 := Rr_4.f (i := 1); have fz2 := Rr_4.f (i := 2)))
      all_goals (try go_wp2_with (fail))
      have eqz : z = dmn (dval a e) := by rw [Ez.out, Em.out, hd.out, hf.out.1]
      have eqx : x = dex (dval a e) := hf.out.2
      have RS := Rr_4.store3 (.bool (sg z)) (.slice Xz (nl (mg z)) cz) (.int .i64 x)
      have e0 := RS.c (i := 0) rfl
      have e1 := RS.c (i := 1) rfl
      have e2 := RS.c (i := 2) rfl
      refine bodyPost_ret (v := .agg #[.bool (sg z), .slice Xz (nl (mg z)) cz, .int .i64 x]) (by simp [results, Tryz.results37, go_sem, e0, e1, e2]) rfl ?_
      exact ⟨Xz, cz, (by rw [eqz, eqx]), by rw [← eqz]; exact (Rr_4.keep3 (by intro u hu; simp at hu; rcases hu with rfl | rfl | rfl <;> first | exact notU_bool _ | exact notU_slice _ _ _ | exact notU_i64 _) hz), (Below.store3 HBT_4 (by first | exact Nat.le_refl _ | omega))⟩
theorem tmake_c (aA : Option Addr) (ac : Nat) (a : Int) (e : Int) (w : World) (ha : NatV w aA ac (mg a)) (la : nl (mg a) ≤ 1048576) (le : -1073741824 ≤ e ∧ e ≤ 1073741824) :
    Calls Tryz.prog 37 #[.agg #[.bool (sg a), .slice aA (nl (mg a)) ac], .int .i64 e] w (RetD w (dval a e)) := by
  by_cases h0 : a = 0
  · exact tmake_0 aA ac a e w ha h0
  · exact tmake_n aA ac a e w ha la le h0
end Go.Proofs.YtacjfpibilolnaaGreatDoor

/- The document's dyadic numbers, walked: power, Rat. -/
set_option linter.unusedVariables false
set_option linter.unusedSimpArgs false
namespace Go.Proofs.YtacjfpibilolnaaGreatDoor
open Go.RowKit Go.Shelf
attribute [local go_sem] max2_i min2_i max_two min_two

theorem zof1_c (w : World) : Calls Tryz.prog 31 #[.int .i64 1] w (RetI w 1) := zof_c 1 w (by decide) (by decide)
theorem pow_up (k : Nat) : ((shf 1 (k : Int) : Int) : Rat) = (2 : Rat) ^ (k : Int) := by
  rw [shf_one, zp_int, Int.natCast_pow]; rfl
theorem pow_mk (k : Nat) : mkRat 1 (2 ^ k) = (2 : Rat) ^ (-(k : Int)) := by
  rw [← dval_den]; unfold dval; simp
theorem pow_dn (k : Nat) : Rat.divInt 1 (shf 1 (k : Int)) = (2 : Rat) ^ (-(k : Int)) := by
  rw [shf_one, Rat.divInt_ofNat, pow_mk]
theorem pow_sz (n : Int) (h : -1000000 ≤ n ∧ n ≤ 1000000) : nl (mg ((2 : Rat) ^ n).num) ≤ 31251 ∧ nl ((2 : Rat) ^ n).den ≤ 31251 := by
  rcases Int.lt_or_le n 0 with hn | hn
  · obtain ⟨k, rfl⟩ := Int.exists_eq_neg_ofNat (show n ≤ 0 by omega)
    rw [← pow_mk]
    have h0 : (2 ^ k : Nat) ≠ 0 := Nat.pos_iff_ne_zero.1 (Nat.two_pow_pos k)
    rw [Rat.num_mkRat, Rat.den_mkRat, if_neg h0, if_neg h0]
    have hd := nl_div (2 ^ k) (Nat.gcd (2 ^ k) (Int.natAbs 1))
    have hp := nl_two_pow k
    have hm : mg (1 / ((Nat.gcd (2 ^ k) (Int.natAbs 1) : Nat) : Int)) ≤ 1 := Int.natAbs_ediv_le_natAbs 1 _
    have h1 := nl_mono hm
    rw [nl_one] at h1
    constructor
    · omega
    · omega
  · obtain ⟨k, rfl⟩ := Int.eq_ofNat_of_zero_le hn
    rw [← pow_up, Rat.num_intCast, Rat.den_intCast, shf_one, mg_nat, nl_two_pow, nl_one]
    constructor <;> omega
theorem dval_eq (a : Rat) (h : Dyd a) : ((dmn a : Int) : Rat) * (2 : Rat) ^ dex a = a := dval_q h
set_option maxRecDepth 100000 in
set_option maxHeartbeats 4000000 in
theorem tpow_u (n : Int) (w : World)  (n0 : 0 ≤ n) (n1 : n ≤ 1000000) :
    Calls Tryz.prog 67 #[.int .i64 n] w (RetR w ((2 : Rat) ^ n)) := by
  obtain ⟨k, rfl⟩ := Int.eq_ofNat_of_zero_le n0
  have t1 : decide (0 ≤ (k : Int)) = true := by simp
  have hv := pow_up k
  have hk : k ≤ 1000000 := by omega
  replace hv := Lib.hid hv
  have hb1 : Below (w).heap.size (w) (w.alloc (.cells #[.bool false, .slice none 0 0, .slice none 0 0] 26)) := (Below.alloc (Below.refl _ _) (Nat.le_refl _) _)
  have HBT := hb1
  clear hb1
  have Rr : BoxA (w.alloc (.cells #[.bool false, .slice none 0 0, .slice none 0 0] 26)) w.heap.size 26 #[.bool false, .slice none 0 0, .slice none 0 0] := ⟨by repeat (first | exact at_new (by first | (simp; done) | (simp; omega)) | refine at_old (by first | (simp; done) | (simp; omega)) ?_)⟩
  have qr0 := Rr.c (i := 0) rfl
  have qr1 := Rr.c (i := 1) rfl
  have qr2 := Rr.c (i := 2) rfl
  go_enter Tryz.func67, Tryz.ntmps67
  go_wp2_with (fail)
  obtain ⟨o, Eo⟩ : ∃ zq : Int, zq = 1 := ⟨_, rfl⟩
  have No : nl (mg o) ≤ 1 := by rw [Eo]; exact Nat.le_of_eq nl_one
  refine (Calls.mono (R := RetI (w.alloc (.cells #[.bool false, .slice none 0 0, .slice none 0 0] 26)) o) (by rw [Eo]; with_reducible exact (zof1_c _)) ?_)
  replace Eo := Lib.hid Eo
  rintro e W2 ⟨Xo, co, rfl, ho, hb2⟩
  replace Rr := Rr.below hb2
  replace qr0 := cell_below hb2 qr0
  replace qr1 := cell_below hb2 qr1
  replace qr2 := cell_below hb2 qr2
  replace HBT := Below.cons HBT hb2
  clear hb2
  go_wp2_with (fail)
  obtain ⟨p, Ep⟩ : ∃ zq : Int, zq = shf o (k : Int) := ⟨_, rfl⟩
  refine (Calls.mono (R := RetI W2 p) (by rw [Ep]; with_reducible exact (zshift_c Xo co o (k : Int) _ ho (by omega) (by omega))) ?_)
  replace Ep := Lib.hid Ep
  rintro e W3 ⟨Xp, cp, rfl, hp, hb3⟩
  replace Rr := Rr.below hb3
  replace qr0 := cell_below hb3 qr0
  replace qr1 := cell_below hb3 qr1
  replace qr2 := cell_below hb3 qr2
  replace ho := ho.below hb3
  replace HBT := Below.cons HBT hb3
  clear hb3
  go_wp2_with (fail)
  obtain ⟨q, Eq⟩ : ∃ zq : Rat, zq = (p : Rat) := ⟨_, rfl⟩
  refine (Calls.mono (R := RetR W3 q) (by rw [Eq]; with_reducible exact (r9whole_c Xp cp p _ hp)) ?_)
  replace Eq := Lib.hid Eq
  rintro e W4 ⟨Xq, cq, Yq, dq, rfl, hq, gq, hb4⟩
  replace Rr := Rr.below hb4
  replace qr0 := cell_below hb4 qr0
  replace qr1 := cell_below hb4 qr1
  replace qr2 := cell_below hb4 qr2
  replace ho := ho.below hb4
  replace hp := hp.below hb4
  replace HBT := Below.cons HBT hb4
  clear hb4
  have fzr0 := Rr.f (i := 0)
  have fzr1 := Rr.f (i := 1)
  have fzr2 := Rr.f (i := 2)
  go_wp2_with (fail)
  have hzq : q = ((2 : Rat) ^ (k : Int)) := by rw [Eq.out, Ep.out, Eo.out]; exact hv.out
  subst hzq
  have RS := Rr.store3 (.bool (sg ((((2 : Rat) ^ (k : Int)))).num)) (.slice Xq (nl (mg ((((2 : Rat) ^ (k : Int)))).num)) cq) (.slice Yq (nl ((((2 : Rat) ^ (k : Int)))).den) dq)
  have e0 := RS.c (i := 0) rfl
  have e1 := RS.c (i := 1) rfl
  have e2 := RS.c (i := 2) rfl
  refine bodyPost_ret (v := .agg #[.bool (sg ((((2 : Rat) ^ (k : Int)))).num), .slice Xq (nl (mg ((((2 : Rat) ^ (k : Int)))).num)) cq, .slice Yq (nl ((((2 : Rat) ^ (k : Int)))).den) dq]) (by simp [results, Tryz.results67, go_sem, e0, e1, e2]) rfl ?_
  exact ⟨Xq, cq, Yq, dq, rfl, (Rr.keep3 (by intro u hu; simp at hu; rcases hu with rfl | rfl | rfl <;> first | exact notU_bool _ | exact notU_slice _ _ _ | exact notU_i64 _) hq), (Rr.keep3 (by intro u hu; simp at hu; rcases hu with rfl | rfl | rfl <;> first | exact notU_bool _ | exact notU_slice _ _ _ | exact notU_i64 _) gq), (Below.store3 HBT (by first | exact Nat.le_refl _ | omega))⟩
set_option maxRecDepth 100000 in
set_option maxHeartbeats 4000000 in
theorem tpow_d (n : Int) (w : World)  (n0 : n < 0) (n1 : -1000000 ≤ n) :
    Calls Tryz.prog 67 #[.int .i64 n] w (RetR w ((2 : Rat) ^ n)) := by
  obtain ⟨k, hk⟩ := Int.eq_ofNat_of_zero_le (show 0 ≤ -n by omega)
  have t1 : decide (0 ≤ n) = false := by simp; exact n0
  have lk : k ≤ 1000000 := by omega
  have Wk : IntKind.i64.wrap (k : Int) = (k : Int) := IntWalk.i64_in _ (by omega)
  have hv := pow_dn k
  rw [show -(k : Int) = n by omega] at hv
  replace hv := Lib.hid hv
  have hb1 : Below (w).heap.size (w) (w.alloc (.cells #[.bool false, .slice none 0 0, .slice none 0 0] 26)) := (Below.alloc (Below.refl _ _) (Nat.le_refl _) _)
  have HBT := hb1
  clear hb1
  have Rr : BoxA (w.alloc (.cells #[.bool false, .slice none 0 0, .slice none 0 0] 26)) w.heap.size 26 #[.bool false, .slice none 0 0, .slice none 0 0] := ⟨by repeat (first | exact at_new (by first | (simp; done) | (simp; omega)) | refine at_old (by first | (simp; done) | (simp; omega)) ?_)⟩
  have qr0 := Rr.c (i := 0) rfl
  have qr1 := Rr.c (i := 1) rfl
  have qr2 := Rr.c (i := 2) rfl
  go_enter Tryz.func67, Tryz.ntmps67
  go_wp2_with (fail)
  obtain ⟨o, Eo⟩ : ∃ zq : Int, zq = 1 := ⟨_, rfl⟩
  have No : nl (mg o) ≤ 1 := by rw [Eo]; exact Nat.le_of_eq nl_one
  refine (Calls.mono (R := RetI (w.alloc (.cells #[.bool false, .slice none 0 0, .slice none 0 0] 26)) o) (by rw [Eo]; with_reducible exact (zof1_c _)) ?_)
  replace Eo := Lib.hid Eo
  rintro e W2 ⟨Xo, co, rfl, ho, hb2⟩
  replace Rr := Rr.below hb2
  replace qr0 := cell_below hb2 qr0
  replace qr1 := cell_below hb2 qr1
  replace qr2 := cell_below hb2 qr2
  replace HBT := Below.cons HBT hb2
  clear hb2
  go_wp2_with (fail)
  obtain ⟨o2, Eo2⟩ : ∃ zq : Int, zq = 1 := ⟨_, rfl⟩
  have No2 : nl (mg o2) ≤ 1 := by rw [Eo2]; exact Nat.le_of_eq nl_one
  refine (Calls.mono (R := RetI W2 o2) (by rw [Eo2]; with_reducible exact (zof1_c _)) ?_)
  replace Eo2 := Lib.hid Eo2
  rintro e W3 ⟨Xo2, co2, rfl, ho2, hb3⟩
  replace Rr := Rr.below hb3
  replace qr0 := cell_below hb3 qr0
  replace qr1 := cell_below hb3 qr1
  replace qr2 := cell_below hb3 qr2
  replace ho := ho.below hb3
  replace HBT := Below.cons HBT hb3
  clear hb3
  go_wp2_with (fail)
  obtain ⟨p, Ep⟩ : ∃ zq : Int, zq = shf o2 (k : Int) := ⟨_, rfl⟩
  have Vp : p = ((2 ^ k : Nat) : Int) := by rw [Ep, Eo2.out]; exact shf_one k
  have Pp : 0 < p := by rw [Vp]; have := Nat.two_pow_pos k; omega
  have Np : nl (mg p) ≤ 1048576 := by rw [Vp, mg_nat, nl_two_pow]; omega
  replace Vp := Lib.hid Vp
  refine (Calls.mono (R := RetI W3 p) (by rw [Ep]; with_reducible exact (zshift_c Xo2 co2 o2 (k : Int) _ ho2 (by omega) (by omega))) ?_)
  replace Ep := Lib.hid Ep
  rintro e W4 ⟨Xp, cp, rfl, hp, hb4⟩
  replace Rr := Rr.below hb4
  replace qr0 := cell_below hb4 qr0
  replace qr1 := cell_below hb4 qr1
  replace qr2 := cell_below hb4 qr2
  replace ho := ho.below hb4
  replace ho2 := ho2.below hb4
  replace HBT := Below.cons HBT hb4
  clear hb4
  go_wp2_with (fail)
  obtain ⟨q, Eq⟩ : ∃ z : Rat, z = Rat.divInt o p := ⟨_, rfl⟩
  have CM := r9make_c Xo co o Xp cp p W4 ho hp (by omega) (by omega) Pp
  rw [← Eq] at CM
  replace CM := Lib.hid CM
  replace Eq := Lib.hid Eq
  refine (Calls.mono CM.out ?_)
  clear CM
  rintro e W5 ⟨Xq, cq, Yq, dq, rfl, hq, gq, hb5⟩
  replace Rr := Rr.below hb5
  replace qr0 := cell_below hb5 qr0
  replace qr1 := cell_below hb5 qr1
  replace qr2 := cell_below hb5 qr2
  replace ho := ho.below hb5
  replace ho2 := ho2.below hb5
  replace hp := hp.below hb5
  replace HBT := Below.cons HBT hb5
  clear hb5
  have hb6 : Below (W5).heap.size (W5) (W5.alloc (.cells #[.bool (sg q.num), .slice Xq (nl (mg q.num)) cq, .slice Yq (nl q.den) dq] 26)) := (Below.alloc (Below.refl _ _) (Nat.le_refl _) _)
  replace Rr := Rr.below hb6
  replace qr0 := cell_below hb6 qr0
  replace qr1 := cell_below hb6 qr1
  replace qr2 := cell_below hb6 qr2
  replace ho := ho.below hb6
  replace ho2 := ho2.below hb6
  replace hp := hp.below hb6
  replace hq := hq.below hb6
  replace gq := gq.below hb6
  replace HBT := Below.cons HBT hb6
  clear hb6
  have Rq : BoxA (W5.alloc (.cells #[.bool (sg q.num), .slice Xq (nl (mg q.num)) cq, .slice Yq (nl q.den) dq] 26)) W5.heap.size 26 #[.bool (sg q.num), .slice Xq (nl (mg q.num)) cq, .slice Yq (nl q.den) dq] := ⟨by repeat (first | exact at_new (by first | (simp; done) | (simp; omega)) | refine at_old (by first | (simp; done) | (simp; omega)) ?_)⟩
  have qq0 := Rq.c (i := 0) rfl
  have qq1 := Rq.c (i := 1) rfl
  have qq2 := Rq.c (i := 2) rfl
  have fzr0 := Rr.f (i := 0)
  have fzr1 := Rr.f (i := 1)
  have fzr2 := Rr.f (i := 2)
  go_wp2_with (fail)
  have hzq : q = ((2 : Rat) ^ n) := by rw [Eq.out, Ep.out, Eo.out, Eo2.out]; exact hv.out
  subst hzq
  have RS := Rr.store3 (.bool (sg ((((2 : Rat) ^ n))).num)) (.slice Xq (nl (mg ((((2 : Rat) ^ n))).num)) cq) (.slice Yq (nl ((((2 : Rat) ^ n))).den) dq)
  have e0 := RS.c (i := 0) rfl
  have e1 := RS.c (i := 1) rfl
  have e2 := RS.c (i := 2) rfl
  refine bodyPost_ret (v := .agg #[.bool (sg ((((2 : Rat) ^ n))).num), .slice Xq (nl (mg ((((2 : Rat) ^ n))).num)) cq, .slice Yq (nl ((((2 : Rat) ^ n))).den) dq]) (by simp [results, Tryz.results67, go_sem, e0, e1, e2]) rfl ?_
  exact ⟨Xq, cq, Yq, dq, rfl, (Rr.keep3 (by intro u hu; simp at hu; rcases hu with rfl | rfl | rfl <;> first | exact notU_bool _ | exact notU_slice _ _ _ | exact notU_i64 _) hq), (Rr.keep3 (by intro u hu; simp at hu; rcases hu with rfl | rfl | rfl <;> first | exact notU_bool _ | exact notU_slice _ _ _ | exact notU_i64 _) gq), (Below.store3 HBT (by first | exact Nat.le_refl _ | omega))⟩
theorem tpow_c (n : Int) (w : World) (ln : -1000000 ≤ n ∧ n ≤ 1000000) :
    Calls Tryz.prog 67 #[.int .i64 n] w (RetR w ((2 : Rat) ^ n)) := by
  by_cases h : 0 ≤ n
  · exact tpow_u n w h ln.2
  · exact tpow_d n w (by omega) ln.1
set_option maxRecDepth 100000 in
set_option maxHeartbeats 1000000 in
theorem trat_c (aA : Option Addr) (ac : Nat) (a : Rat) (w : World) (ha : NatV w aA ac (mg (dmn a))) (oa : DOk a) :
    Calls Tryz.prog 30 #[.agg #[.bool (sg (dmn a)), .slice aA (nl (mg (dmn a))) ac, .int .i64 (dex a)]] w (RetR w a) := by
  have hl := oa.l
  have he := oa.e
  have eqv := dval_eq a oa.d
  have hp := pow_sz (dex a) he
  replace eqv := Lib.hid eqv
  replace oa := Lib.hid oa
  have hb1 : Below (w).heap.size (w) ((w.alloc (.cells #[.bool (sg (dmn a)), .slice aA (nl (mg (dmn a))) ac, .int .i64 (dex a)] 28)).alloc (.cells #[.bool false, .slice none 0 0, .slice none 0 0] 26)) := (Below.alloc (Below.alloc (Below.refl _ _) (Nat.le_refl _) _) (by simp <;> omega) _)
  replace ha := ha.below hb1
  have HBT := hb1
  clear hb1
  have Ra : BoxA ((w.alloc (.cells #[.bool (sg (dmn a)), .slice aA (nl (mg (dmn a))) ac, .int .i64 (dex a)] 28)).alloc (.cells #[.bool false, .slice none 0 0, .slice none 0 0] 26)) w.heap.size 28 #[.bool (sg (dmn a)), .slice aA (nl (mg (dmn a))) ac, .int .i64 (dex a)] := ⟨by repeat (first | exact at_new (by first | (simp; done) | (simp; omega)) | refine at_old (by first | (simp; done) | (simp; omega)) ?_)⟩
  have qa0 := Ra.c (i := 0) rfl
  have qa1 := Ra.c (i := 1) rfl
  have qa2 := Ra.c (i := 2) rfl
  have Rr : BoxA ((w.alloc (.cells #[.bool (sg (dmn a)), .slice aA (nl (mg (dmn a))) ac, .int .i64 (dex a)] 28)).alloc (.cells #[.bool false, .slice none 0 0, .slice none 0 0] 26)) (w.heap.size + 1) 26 #[.bool false, .slice none 0 0, .slice none 0 0] := ⟨by repeat (first | exact at_new (by first | (simp; done) | (simp; omega)) | refine at_old (by first | (simp; done) | (simp; omega)) ?_)⟩
  have qr0 := Rr.c (i := 0) rfl
  have qr1 := Rr.c (i := 1) rfl
  have qr2 := Rr.c (i := 2) rfl
  go_enter Tryz.func30, Tryz.ntmps30
  go_wp2_with (fail)
  have hd2 : Below (((w.alloc (.cells #[.bool (sg (dmn a)), .slice aA (nl (mg (dmn a))) ac, .int .i64 (dex a)] 28)).alloc (.cells #[.bool false, .slice none 0 0, .slice none 0 0] 26))).heap.size ((w.alloc (.cells #[.bool (sg (dmn a)), .slice aA (nl (mg (dmn a))) ac, .int .i64 (dex a)] 28)).alloc (.cells #[.bool false, .slice none 0 0, .slice none 0 0] 26)) (((w.alloc (.cells #[.bool (sg (dmn a)), .slice aA (nl (mg (dmn a))) ac, .int .i64 (dex a)] 28)).alloc (.cells #[.bool false, .slice none 0 0, .slice none 0 0] 26))).drew := (Below.refl _ _).drew
  replace ha := ha.below hd2
  replace Ra := Ra.below hd2
  replace qa0 := cell_below hd2 qa0
  replace qa1 := cell_below hd2 qa1
  replace qa2 := cell_below hd2 qa2
  replace Rr := Rr.below hd2
  replace qr0 := cell_below hd2 qr0
  replace qr1 := cell_below hd2 qr1
  replace qr2 := cell_below hd2 qr2
  replace HBT := Below.cons HBT hd2
  clear hd2
  obtain ⟨u, Eu⟩ : ∃ zq : Rat, zq = ((dmn a : Int) : Rat) := ⟨_, rfl⟩
  have Nu : nl (mg u.num) ≤ 262144 := by rw [Eu, Rat.num_intCast]; omega
  have Mu : nl u.den ≤ 262144 := by rw [Eu, Rat.den_intCast, nl_one]; decide
  have C2_0 := fun (W : World) (h1 : NatV W aA ac (mg (dmn a))) => r9whole_c aA ac (dmn a) W h1
  simp only [← Eu] at C2_0
  replace Eu := Lib.hid Eu
  replace C2_0 := Lib.hid C2_0
  obtain ⟨v, Ev⟩ : ∃ zq : Rat, zq = (2 : Rat) ^ dex a := ⟨_, rfl⟩
  have Nv : nl (mg v.num) ≤ 262144 := by rw [Ev]; omega
  have Mv : nl v.den ≤ 262144 := by rw [Ev]; omega
  have C2_1 := fun (W : World) => tpow_c (dex a) W he
  simp only [← Ev] at C2_1
  replace Ev := Lib.hid Ev
  replace C2_1 := Lib.hid C2_1
  obtain ⟨q, Eq⟩ : ∃ zq : Rat, zq = u * v := ⟨_, rfl⟩
  have C2_2 := fun (W : World) (A : Option Addr) (c : Nat) (B : Option Addr) (d : Nat) (A2 : Option Addr) (c2 : Nat) (B2 : Option Addr) (d2 : Nat) (h1 : NatV W A c (mg u.num)) (h2 : NatV W B d u.den) (h3 : NatV W A2 c2 (mg v.num)) (h4 : NatV W B2 d2 v.den) => r9mul_c A c B d u A2 c2 B2 d2 v W h1 h2 h3 h4 Nu Mu Nv Mv
  simp only [← Eq] at C2_2
  replace Eq := Lib.hid Eq
  replace C2_2 := Lib.hid C2_2
  go_region_held3 (fun W => W.cell? ⟨w.heap.size, 0, none⟩ = some (.bool (sg (dmn a))) ∧ W.cell? ⟨w.heap.size, 1, none⟩ = some (.slice aA (nl (mg (dmn a))) ac) ∧ W.cell? ⟨w.heap.size, 2, none⟩ = some (.int .i64 (dex a)))
    (first
      | exact ⟨qa0, qa1, qa2⟩
      | exact ⟨qa0_3, qa1_3, qa2_3⟩
      | exact ⟨qa0_4, qa1_4, qa2_4⟩
      | exact ⟨qa0_5, qa1_5, qa2_5⟩
      | exact ⟨((Ra_5.other3 (by simp <;> omega)).c (i := 0) rfl), ((Ra_5.other3 (by simp <;> omega)).c (i := 1) rfl), ((Ra_5.other3 (by simp <;> omega)).c (i := 2) rfl)⟩
      | go_keep)
    (first
      | (go_at_call 78; (with_reducible refine (C2_0.out _ ha).mono ?_); rintro e W3 ⟨Xu, cu, Yu, du, rfl, hu, gu, hb3⟩; have ha_3 := ha.below hb3; have Ra_3 := Ra.below hb3; have qa0_3 := cell_below hb3 qa0; have qa1_3 := cell_below hb3 qa1; have qa2_3 := cell_below hb3 qa2; have Rr_3 := Rr.below hb3; have qr0_3 := cell_below hb3 qr0; have qr1_3 := cell_below hb3 qr1; have qr2_3 := cell_below hb3 qr2; have HBT_3 := Below.cons HBT hb3)
      | (go_at_call 67; (with_reducible refine (C2_1.out _).mono ?_); rintro e W4 ⟨Xv, cv, Yv, dv, rfl, hv, gv, hb4⟩; have ha_4 := ha_3.below hb4; have Ra_4 := Ra_3.below hb4; have qa0_4 := cell_below hb4 qa0_3; have qa1_4 := cell_below hb4 qa1_3; have qa2_4 := cell_below hb4 qa2_3; have Rr_4 := Rr_3.below hb4; have qr0_4 := cell_below hb4 qr0_3; have qr1_4 := cell_below hb4 qr1_3; have qr2_4 := cell_below hb4 qr2_3; have hu_4 := hu.below hb4; have gu_4 := gu.below hb4; have HBT_4 := Below.cons HBT_3 hb4)
      | (go_at_call 56; (with_reducible refine (C2_2.out _ _ _ _ _ _ _ _ _ hu_4 gu_4 hv gv).mono ?_); rintro e W5 ⟨Xq, cq, Yq, dq, rfl, hq, gq, hb5⟩; have ha_5 := ha_4.below hb5; have Ra_5 := Ra_4.below hb5; have qa0_5 := cell_below hb5 qa0_4; have qa1_5 := cell_below hb5 qa1_4; have qa2_5 := cell_below hb5 qa2_4; have Rr_5 := Rr_4.below hb5; have qr0_5 := cell_below hb5 qr0_4; have qr1_5 := cell_below hb5 qr1_4; have qr2_5 := cell_below hb5 qr2_4; have hu_5 := hu_4.below hb5; have gu_5 := gu_4.below hb5; have hv_5 := hv.below hb5; have gv_5 := gv.below hb5; have HBT_5 := Below.cons HBT_4 hb5; have fz0 := Rr_5.f (i := 0); have fz1 := Rr_5.f (i := 1); have fz2 := Rr_5.f (i := 2)))
  all_goals (try go_wp2_with (fail))
  have hzq : q = a := by rw [Eq.out, Eu.out, Ev.out]; exact eqv.out
  subst hzq
  have RS := Rr_5.store3 (.bool (sg q.num)) (.slice Xq (nl (mg q.num)) cq) (.slice Yq (nl q.den) dq)
  have e0 := RS.c (i := 0) rfl
  have e1 := RS.c (i := 1) rfl
  have e2 := RS.c (i := 2) rfl
  refine bodyPost_ret (v := .agg #[.bool (sg q.num), .slice Xq (nl (mg q.num)) cq, .slice Yq (nl q.den) dq]) (by simp [results, Tryz.results30, go_sem, e0, e1, e2]) rfl ?_
  exact ⟨Xq, cq, Yq, dq, rfl, (Rr_5.keep3 (by intro u hu; simp at hu; rcases hu with rfl | rfl | rfl <;> first | exact notU_bool _ | exact notU_slice _ _ _ | exact notU_i64 _) hq), (Rr_5.keep3 (by intro u hu; simp at hu; rcases hu with rfl | rfl | rfl <;> first | exact notU_bool _ | exact notU_slice _ _ _ | exact notU_i64 _) gq), (Below.store3 HBT_5 (by first | exact Nat.le_refl _ | omega))⟩
end Go.Proofs.YtacjfpibilolnaaGreatDoor

/- The document's dyadic numbers, walked: Same, Sign, Scaled, Cmp. -/
set_option linter.unusedVariables false
set_option linter.unusedSimpArgs false
namespace Go.Proofs.YtacjfpibilolnaaGreatDoor
open Go.RowKit Go.Shelf
attribute [local go_sem] max2_i min2_i max_two min_two

theorem mul_sz (a b : Rat) : nl (mg (a * b).num) ≤ nl (mg a.num) + nl (mg b.num) ∧ nl (a * b).den ≤ nl a.den + nl b.den := by
  have h0 : a.den * b.den ≠ 0 := Nat.mul_ne_zero a.den_nz b.den_nz
  rw [Rat.mul_def', Rat.num_mkRat, Rat.den_mkRat, if_neg h0, if_neg h0]
  constructor
  · refine Nat.le_trans (nl_mono (Int.natAbs_ediv_le_natAbs _ _)) ?_
    have := nl_mul (mg a.num) (mg b.num)
    rw [← mg_mul] at this; exact this
  · exact Nat.le_trans (nl_div _ _) (nl_mul _ _)
theorem dyd_eq {a b : Rat} (ha : Dyd a) (hb : Dyd b) (h : dex a = dex b) : (a = b) ↔ dmn a = dmn b := by
  constructor
  · intro e; rw [e]
  · intro e; rw [← dval_q ha, ← dval_q hb, h, e]
set_option maxRecDepth 100000 in
set_option maxHeartbeats 4000000 in
theorem tsame_y (aA : Option Addr) (ac : Nat) (a : Rat) (bA : Option Addr) (bc : Nat) (b : Rat) (w : World) (ha : NatV w aA ac (mg (dmn a))) (hb : NatV w bA bc (mg (dmn b))) (da : Dyd a) (db : Dyd b) (la : nl (mg (dmn a)) ≤ 1073741824) (lb : nl (mg (dmn b)) ≤ 1073741824) (h0 : dex a = dex b) :
    Calls Tryz.prog 19 #[.agg #[.bool (sg (dmn a)), .slice aA (nl (mg (dmn a))) ac, .int .i64 (dex a)], .agg #[.bool (sg (dmn b)), .slice bA (nl (mg (dmn b))) bc, .int .i64 (dex b)]] w (fun e w' => e = .returned (.bool (decide (dmn a = dmn b))) ∧ Below w.heap.size w w') := by
  have t1 : (dex a == dex b) = true := by simp; exact h0
  replace h0 := Lib.hid h0
  replace da := Lib.hid da
  replace db := Lib.hid db
  obtain ⟨xa, Exa⟩ : ∃ z, z = dex a := ⟨_, rfl⟩
  obtain ⟨xb, Exb⟩ : ∃ z, z = dex b := ⟨_, rfl⟩
  rw [← Exa, ← Exb] at t1
  rw [← Exa, ← Exb]
  replace Exa := Lib.hid Exa
  replace Exb := Lib.hid Exb
  have hb1 : Below (w).heap.size (w) ((w.alloc (.cells #[.bool (sg (dmn a)), .slice aA (nl (mg (dmn a))) ac, .int .i64 xa] 28)).alloc (.cells #[.bool (sg (dmn b)), .slice bA (nl (mg (dmn b))) bc, .int .i64 xb] 28)) := (Below.alloc (Below.alloc (Below.refl _ _) (Nat.le_refl _) _) (by simp <;> omega) _)
  replace ha := ha.below hb1
  replace hb := hb.below hb1
  have HBT := hb1
  clear hb1
  have Ra : BoxA ((w.alloc (.cells #[.bool (sg (dmn a)), .slice aA (nl (mg (dmn a))) ac, .int .i64 xa] 28)).alloc (.cells #[.bool (sg (dmn b)), .slice bA (nl (mg (dmn b))) bc, .int .i64 xb] 28)) w.heap.size 28 #[.bool (sg (dmn a)), .slice aA (nl (mg (dmn a))) ac, .int .i64 xa] := ⟨by repeat (first | exact at_new (by first | (simp; done) | (simp; omega)) | refine at_old (by first | (simp; done) | (simp; omega)) ?_)⟩
  have qa0 := Ra.c (i := 0) rfl
  have qa1 := Ra.c (i := 1) rfl
  have qa2 := Ra.c (i := 2) rfl
  have Rb : BoxA ((w.alloc (.cells #[.bool (sg (dmn a)), .slice aA (nl (mg (dmn a))) ac, .int .i64 xa] 28)).alloc (.cells #[.bool (sg (dmn b)), .slice bA (nl (mg (dmn b))) bc, .int .i64 xb] 28)) (w.heap.size + 1) 28 #[.bool (sg (dmn b)), .slice bA (nl (mg (dmn b))) bc, .int .i64 xb] := ⟨by repeat (first | exact at_new (by first | (simp; done) | (simp; omega)) | refine at_old (by first | (simp; done) | (simp; omega)) ?_)⟩
  have qb0 := Rb.c (i := 0) rfl
  have qb1 := Rb.c (i := 1) rfl
  have qb2 := Rb.c (i := 2) rfl
  go_enter Tryz.func19, Tryz.ntmps19
  go_wp2_with (fail)
  refine (Calls.mono (zsame_c aA ac (dmn a) bA bc (dmn b) _ ha hb la lb) ?_)
  rintro e W2 ⟨rfl, hb2⟩
  replace ha := ha.below hb2
  replace hb := hb.below hb2
  replace Ra := Ra.below hb2
  replace qa0 := cell_below hb2 qa0
  replace qa1 := cell_below hb2 qa1
  replace qa2 := cell_below hb2 qa2
  replace Rb := Rb.below hb2
  replace qb0 := cell_below hb2 qb0
  replace qb1 := cell_below hb2 qb1
  replace qb2 := cell_below hb2 qb2
  replace HBT := Below.cons HBT hb2
  clear hb2
  go_wp2_with (fail)
  go_ret
  exact ⟨rfl, HBT⟩
set_option maxRecDepth 100000 in
set_option maxHeartbeats 4000000 in
theorem tsame_n (aA : Option Addr) (ac : Nat) (a : Rat) (bA : Option Addr) (bc : Nat) (b : Rat) (w : World) (ha : NatV w aA ac (mg (dmn a))) (hb : NatV w bA bc (mg (dmn b))) (da : Dyd a) (db : Dyd b) (la : nl (mg (dmn a)) ≤ 1073741824) (lb : nl (mg (dmn b)) ≤ 1073741824) (h0 : dex a ≠ dex b) :
    Calls Tryz.prog 19 #[.agg #[.bool (sg (dmn a)), .slice aA (nl (mg (dmn a))) ac, .int .i64 (dex a)], .agg #[.bool (sg (dmn b)), .slice bA (nl (mg (dmn b))) bc, .int .i64 (dex b)]] w (fun e w' => e = .returned (.bool false) ∧ Below w.heap.size w w') := by
  have t1 : (dex a == dex b) = false := by simp; exact h0
  replace h0 := Lib.hid h0
  replace da := Lib.hid da
  replace db := Lib.hid db
  obtain ⟨xa, Exa⟩ : ∃ z, z = dex a := ⟨_, rfl⟩
  obtain ⟨xb, Exb⟩ : ∃ z, z = dex b := ⟨_, rfl⟩
  rw [← Exa, ← Exb] at t1
  rw [← Exa, ← Exb]
  replace Exa := Lib.hid Exa
  replace Exb := Lib.hid Exb
  have hb1 : Below (w).heap.size (w) ((w.alloc (.cells #[.bool (sg (dmn a)), .slice aA (nl (mg (dmn a))) ac, .int .i64 xa] 28)).alloc (.cells #[.bool (sg (dmn b)), .slice bA (nl (mg (dmn b))) bc, .int .i64 xb] 28)) := (Below.alloc (Below.alloc (Below.refl _ _) (Nat.le_refl _) _) (by simp <;> omega) _)
  replace ha := ha.below hb1
  replace hb := hb.below hb1
  have HBT := hb1
  clear hb1
  have Ra : BoxA ((w.alloc (.cells #[.bool (sg (dmn a)), .slice aA (nl (mg (dmn a))) ac, .int .i64 xa] 28)).alloc (.cells #[.bool (sg (dmn b)), .slice bA (nl (mg (dmn b))) bc, .int .i64 xb] 28)) w.heap.size 28 #[.bool (sg (dmn a)), .slice aA (nl (mg (dmn a))) ac, .int .i64 xa] := ⟨by repeat (first | exact at_new (by first | (simp; done) | (simp; omega)) | refine at_old (by first | (simp; done) | (simp; omega)) ?_)⟩
  have qa0 := Ra.c (i := 0) rfl
  have qa1 := Ra.c (i := 1) rfl
  have qa2 := Ra.c (i := 2) rfl
  have Rb : BoxA ((w.alloc (.cells #[.bool (sg (dmn a)), .slice aA (nl (mg (dmn a))) ac, .int .i64 xa] 28)).alloc (.cells #[.bool (sg (dmn b)), .slice bA (nl (mg (dmn b))) bc, .int .i64 xb] 28)) (w.heap.size + 1) 28 #[.bool (sg (dmn b)), .slice bA (nl (mg (dmn b))) bc, .int .i64 xb] := ⟨by repeat (first | exact at_new (by first | (simp; done) | (simp; omega)) | refine at_old (by first | (simp; done) | (simp; omega)) ?_)⟩
  have qb0 := Rb.c (i := 0) rfl
  have qb1 := Rb.c (i := 1) rfl
  have qb2 := Rb.c (i := 2) rfl
  go_enter Tryz.func19, Tryz.ntmps19
  go_wp2_with (fail)
  go_ret
  exact ⟨rfl, HBT⟩
theorem tsame_c (aA : Option Addr) (ac : Nat) (a : Rat) (bA : Option Addr) (bc : Nat) (b : Rat) (w : World) (ha : NatV w aA ac (mg (dmn a))) (hb : NatV w bA bc (mg (dmn b))) (da : Dyd a) (db : Dyd b) (la : nl (mg (dmn a)) ≤ 1073741824) (lb : nl (mg (dmn b)) ≤ 1073741824) :
    Calls Tryz.prog 19 #[.agg #[.bool (sg (dmn a)), .slice aA (nl (mg (dmn a))) ac, .int .i64 (dex a)], .agg #[.bool (sg (dmn b)), .slice bA (nl (mg (dmn b))) bc, .int .i64 (dex b)]] w fun e w' => e = .returned (.bool (decide (a = b))) ∧ Below w.heap.size w w' := by
  by_cases h : dex a = dex b
  · rw [show decide (a = b) = decide (dmn a = dmn b) by rw [decide_eq_decide]; exact dyd_eq da db h]; exact tsame_y aA ac a bA bc b w ha hb da db la lb h
  · rw [decide_eq_false (fun e => h (by rw [e]))]; exact tsame_n aA ac a bA bc b w ha hb da db la lb h
set_option maxRecDepth 100000 in
set_option maxHeartbeats 4000000 in
theorem tscaled_c (aA : Option Addr) (ac : Nat) (a : Rat) (n : Int) (w : World) (ha : NatV w aA ac (mg (dmn a)))  (oa : DOk a) (la : nl (mg a.num) ≤ 200000) (ma : nl a.den ≤ 200000) (ln : -1000000 ≤ n ∧ n ≤ 1000000) :
    Calls Tryz.prog 22 #[.agg #[.bool (sg (dmn a)), .slice aA (nl (mg (dmn a))) ac, .int .i64 (dex a)], .int .i64 n] w (RetI w (a * (2 : Rat) ^ n).floor) := by
  have ps := pow_sz n ln
  have ms := mul_sz a ((2 : Rat) ^ n)
  have hb1 : Below (w).heap.size (w) ((w.alloc (.cells #[.bool (sg (dmn a)), .slice aA (nl (mg (dmn a))) ac, .int .i64 (dex a)] 28)).alloc (.cells #[.bool false, .slice none 0 0] 24)) := (Below.alloc (Below.alloc (Below.refl _ _) (Nat.le_refl _) _) (by simp <;> omega) _)
  replace ha := ha.below hb1
  have HBT := hb1
  clear hb1
  have Ra : BoxA ((w.alloc (.cells #[.bool (sg (dmn a)), .slice aA (nl (mg (dmn a))) ac, .int .i64 (dex a)] 28)).alloc (.cells #[.bool false, .slice none 0 0] 24)) w.heap.size 28 #[.bool (sg (dmn a)), .slice aA (nl (mg (dmn a))) ac, .int .i64 (dex a)] := ⟨by repeat (first | exact at_new (by first | (simp; done) | (simp; omega)) | refine at_old (by first | (simp; done) | (simp; omega)) ?_)⟩
  have qa0 := Ra.c (i := 0) rfl
  have qa1 := Ra.c (i := 1) rfl
  have qa2 := Ra.c (i := 2) rfl
  have Rr : BoxA ((w.alloc (.cells #[.bool (sg (dmn a)), .slice aA (nl (mg (dmn a))) ac, .int .i64 (dex a)] 28)).alloc (.cells #[.bool false, .slice none 0 0] 24)) (w.heap.size + 1) 24 #[.bool false, .slice none 0 0] := ⟨by repeat (first | exact at_new (by first | (simp; done) | (simp; omega)) | refine at_old (by first | (simp; done) | (simp; omega)) ?_)⟩
  have qr0 := Rr.c (i := 0) rfl
  have qr1 := Rr.c (i := 1) rfl
  go_enter Tryz.func22, Tryz.ntmps22
  go_wp2_with (fail)
  obtain ⟨x, Ex⟩ : ∃ zq : Rat, zq = a := ⟨_, rfl⟩
  refine (Calls.mono (R := RetR ((w.alloc (.cells #[.bool (sg (dmn a)), .slice aA (nl (mg (dmn a))) ac, .int .i64 (dex a)] 28)).alloc (.cells #[.bool false, .slice none 0 0] 24)) x) (by rw [Ex]; with_reducible exact (trat_c aA ac a _ ha oa)) ?_)
  replace Ex := Lib.hid Ex
  rintro e W2 ⟨Xx, cx, Yx, dx, rfl, hx, gx, hb2⟩
  replace ha := ha.below hb2
  replace Ra := Ra.below hb2
  replace qa0 := cell_below hb2 qa0
  replace qa1 := cell_below hb2 qa1
  replace qa2 := cell_below hb2 qa2
  replace Rr := Rr.below hb2
  replace qr0 := cell_below hb2 qr0
  replace qr1 := cell_below hb2 qr1
  replace HBT := Below.cons HBT hb2
  clear hb2
  go_wp2_with (fail)
  obtain ⟨y, Ey⟩ : ∃ zq : Rat, zq = (2 : Rat) ^ n := ⟨_, rfl⟩
  rw [← Ey] at ps ms
  refine (Calls.mono (R := RetR W2 y) (by rw [Ey]; with_reducible exact (tpow_c n _ ln)) ?_)
  replace Ey := Lib.hid Ey
  rintro e W3 ⟨Xy, cy, Yy, dy, rfl, hy, gy, hb3⟩
  replace ha := ha.below hb3
  replace Ra := Ra.below hb3
  replace qa0 := cell_below hb3 qa0
  replace qa1 := cell_below hb3 qa1
  replace qa2 := cell_below hb3 qa2
  replace Rr := Rr.below hb3
  replace qr0 := cell_below hb3 qr0
  replace qr1 := cell_below hb3 qr1
  replace hx := hx.below hb3
  replace gx := gx.below hb3
  replace HBT := Below.cons HBT hb3
  clear hb3
  go_wp2_with (fail)
  have ex := Ex.out
  obtain ⟨m, Em⟩ : ∃ zq : Rat, zq = x * y := ⟨_, rfl⟩
  have em : m = a * y := by rw [Em, Ex.out]
  rw [← em] at ms
  replace em := Lib.hid em
  refine (Calls.mono (R := RetR W3 m) (by rw [Em]; with_reducible exact (r9mul_c Xx cx Yx dx x Xy cy Yy dy y _ hx gx hy gy (by rw [Ex.out]; omega) (by rw [Ex.out]; omega) (by omega) (by omega))) ?_)
  replace Em := Lib.hid Em
  rintro e W4 ⟨Xm, cm, Ym, dm, rfl, hm, gm, hb4⟩
  replace ha := ha.below hb4
  replace Ra := Ra.below hb4
  replace qa0 := cell_below hb4 qa0
  replace qa1 := cell_below hb4 qa1
  replace qa2 := cell_below hb4 qa2
  replace Rr := Rr.below hb4
  replace qr0 := cell_below hb4 qr0
  replace qr1 := cell_below hb4 qr1
  replace hx := hx.below hb4
  replace gx := gx.below hb4
  replace hy := hy.below hb4
  replace gy := gy.below hb4
  replace HBT := Below.cons HBT hb4
  clear hb4
  go_wp2_with (fail)
  obtain ⟨z, Ez⟩ : ∃ zq : Int, zq = m.floor := ⟨_, rfl⟩
  refine (Calls.mono (R := RetI W4 z) (by rw [Ez]; with_reducible exact (r9floor_c Xm cm Ym dm m _ hm gm (by omega) (by omega))) ?_)
  replace Ez := Lib.hid Ez
  rintro e W5 ⟨Xz, cz, rfl, hz, hb5⟩
  replace ha := ha.below hb5
  replace Ra := Ra.below hb5
  replace qa0 := cell_below hb5 qa0
  replace qa1 := cell_below hb5 qa1
  replace qa2 := cell_below hb5 qa2
  replace Rr := Rr.below hb5
  replace qr0 := cell_below hb5 qr0
  replace qr1 := cell_below hb5 qr1
  replace hx := hx.below hb5
  replace gx := gx.below hb5
  replace hy := hy.below hb5
  replace gy := gy.below hb5
  replace hm := hm.below hb5
  replace gm := gm.below hb5
  replace HBT := Below.cons HBT hb5
  clear hb5
  have fzr0 := Rr.f (i := 0)
  have fzr1 := Rr.f (i := 1)
  go_wp2_with (fail)
  have hzz : z = ((a * (2 : Rat) ^ n).floor) := by rw [Ez.out, em.out, Ey.out]
  subst hzz
  have RS := Rr.store2 (.bool (sg ((((a * (2 : Rat) ^ n).floor))))) (.slice Xz (nl (mg ((((a * (2 : Rat) ^ n).floor))))) cz)
  have e0 := RS.c (i := 0) rfl
  have e1 := RS.c (i := 1) rfl
  refine bodyPost_ret (v := .agg #[.bool (sg ((((a * (2 : Rat) ^ n).floor)))), .slice Xz (nl (mg ((((a * (2 : Rat) ^ n).floor))))) cz]) (by simp [results, Tryz.results22, go_sem, e0, e1]) rfl ?_
  exact ⟨Xz, cz, rfl, (Rr.keep2 (by intro u hu; simp at hu; rcases hu with rfl | rfl <;> first | exact notU_bool _ | exact notU_slice _ _ _ | exact notU_i64 _) hz), (Below.store2 HBT (by first | exact Nat.le_refl _ | omega))⟩
end Go.Proofs.YtacjfpibilolnaaGreatDoor

/- The document's dyadic numbers, walked: Of, Neg. -/
set_option linter.unusedVariables false
set_option linter.unusedSimpArgs false
namespace Go.Proofs.YtacjfpibilolnaaGreatDoor
open Go.RowKit Go.Shelf
attribute [local go_sem] max2_i min2_i max_two min_two

end Go.Proofs.YtacjfpibilolnaaGreatDoor

/- The document's dyadic numbers, walked: Add, Sub. -/
set_option linter.unusedVariables false
set_option linter.unusedSimpArgs false
namespace Go.Proofs.YtacjfpibilolnaaGreatDoor
open Go.RowKit Go.Shelf
attribute [local go_sem] max2_i min2_i max_two min_two

end Go.Proofs.YtacjfpibilolnaaGreatDoor

/- The document's dyadic numbers, walked: Mul. -/
set_option linter.unusedVariables false
set_option linter.unusedSimpArgs false
namespace Go.Proofs.YtacjfpibilolnaaGreatDoor
open Go.RowKit Go.Shelf
attribute [local go_sem] max2_i min2_i max_two min_two

end Go.Proofs.YtacjfpibilolnaaGreatDoor

/- The document's dyadic numbers, walked: Made. -/
set_option linter.unusedVariables false
set_option linter.unusedSimpArgs false
namespace Go.Proofs.YtacjfpibilolnaaGreatDoor
open Go.RowKit Go.Shelf
attribute [local go_sem] max2_i min2_i max_two min_two

/-- The power that is made of any number. -/
def cutE (x : Int) : Int := Int.tmod (bits .and .i64 x 65535) 401 - 200
set_option maxRecDepth 100000 in
set_option maxHeartbeats 4000000 in
theorem tmade_c (sa : Bool) (A : Option Addr) (c m : Nat) (l : List Nat) (x : Int) (w : World) (h : Rd w A l) (hL : Lim l) (hl : l.length ≤ maxLen) (hc : l.length ≤ c) (hnil : A = none → c = 0) (hm : m ≤ 65536) (hx : -200 ≤ cutE x ∧ cutE x ≤ 200) :
    Calls Tryz.prog 14 #[.agg #[.bool sa, .slice A l.length c, .int .i64 x], .int .i64 (m : Nat)] w (RetD w (dval (ival sa (val (l.take m))) (cutE x))) := by
  have lv : nl (val (l.take m)) ≤ 65536 := Nat.le_trans (made_nl l hL m) hm
  obtain ⟨y, Ey⟩ : ∃ z, z = cutE x := ⟨_, rfl⟩
  have Iy : Int.tmod (bits .and .i64 x 65535) 401 - 200 = y := Ey.symm
  rw [← Ey] at hx ⊢
  have Wy : IntKind.i64.wrap y = y := IntWalk.i64_in _ (by omega)
  replace Ey := Lib.hid Ey
  have hb1 : Below (w).heap.size (w) ((w.alloc (.cells #[.bool sa, .slice A l.length c, .int .i64 x] 28)).alloc (.cells #[.bool false, .slice none 0 0, .int .i64 0] 28)) := (Below.alloc (Below.alloc (Below.refl _ _) (Nat.le_refl _) _) (by simp <;> omega) _)
  replace h := h.below hb1
  have HBT := hb1
  clear hb1
  have Ra : BoxA ((w.alloc (.cells #[.bool sa, .slice A l.length c, .int .i64 x] 28)).alloc (.cells #[.bool false, .slice none 0 0, .int .i64 0] 28)) w.heap.size 28 #[.bool sa, .slice A l.length c, .int .i64 x] := ⟨by repeat (first | exact at_new (by first | (simp; done) | (simp; omega)) | refine at_old (by first | (simp; done) | (simp; omega)) ?_)⟩
  have qa0 := Ra.c (i := 0) rfl
  have qa1 := Ra.c (i := 1) rfl
  have qa2 := Ra.c (i := 2) rfl
  have Rr : BoxA ((w.alloc (.cells #[.bool sa, .slice A l.length c, .int .i64 x] 28)).alloc (.cells #[.bool false, .slice none 0 0, .int .i64 0] 28)) (w.heap.size + 1) 28 #[.bool false, .slice none 0 0, .int .i64 0] := ⟨by repeat (first | exact at_new (by first | (simp; done) | (simp; omega)) | refine at_old (by first | (simp; done) | (simp; omega)) ?_)⟩
  have qr0 := Rr.c (i := 0) rfl
  have qr1 := Rr.c (i := 1) rfl
  have qr2 := Rr.c (i := 2) rfl
  go_enter Tryz.func14, Tryz.ntmps14
  go_wp2_with (fail)
  have hd2 : Below (((w.alloc (.cells #[.bool sa, .slice A l.length c, .int .i64 x] 28)).alloc (.cells #[.bool false, .slice none 0 0, .int .i64 0] 28))).heap.size ((w.alloc (.cells #[.bool sa, .slice A l.length c, .int .i64 x] 28)).alloc (.cells #[.bool false, .slice none 0 0, .int .i64 0] 28)) (((w.alloc (.cells #[.bool sa, .slice A l.length c, .int .i64 x] 28)).alloc (.cells #[.bool false, .slice none 0 0, .int .i64 0] 28))).drew := (Below.refl _ _).drew
  replace h := h.below hd2
  replace Ra := Ra.below hd2
  replace qa0 := cell_below hd2 qa0
  replace qa1 := cell_below hd2 qa1
  replace qa2 := cell_below hd2 qa2
  replace Rr := Rr.below hd2
  replace qr0 := cell_below hd2 qr0
  replace qr1 := cell_below hd2 qr1
  replace qr2 := cell_below hd2 qr2
  replace HBT := Below.cons HBT hd2
  clear hd2
  obtain ⟨n, En⟩ : ∃ zq : Int, zq = ival sa (val (l.take m)) := ⟨_, rfl⟩
  have Nn : nl (mg n) ≤ 65536 := by rw [En, mg_ival]; exact lv
  have C2_0 := fun (W : World) (h1 : Rd W A l) => zmade_c sa A c m l W h1 hL hl hc hnil (by omega)
  simp only [← En] at C2_0
  replace En := Lib.hid En
  replace C2_0 := Lib.hid C2_0
  obtain ⟨q, Eq⟩ : ∃ zq : Rat, zq = dval n y := ⟨_, rfl⟩
  have C2_1 := fun (W : World) (A : Option Addr) (c : Nat) (h1 : NatV W A c (mg n)) => tmake_c A c n y W h1 (by omega) (by omega)
  simp only [← Eq] at C2_1
  replace Eq := Lib.hid Eq
  replace C2_1 := Lib.hid C2_1
  go_region_held3 (fun W => W.cell? ⟨w.heap.size, 0, none⟩ = some (.bool sa) ∧ W.cell? ⟨w.heap.size, 1, none⟩ = some (.slice A l.length c) ∧ W.cell? ⟨w.heap.size, 2, none⟩ = some (.int .i64 x))
    (first
      | exact ⟨qa0, qa1, qa2⟩
      | exact ⟨qa0_3, qa1_3, qa2_3⟩
      | exact ⟨qa0_4, qa1_4, qa2_4⟩
      | exact ⟨((Ra_4.other3 (by simp <;> omega)).c (i := 0) rfl), ((Ra_4.other3 (by simp <;> omega)).c (i := 1) rfl), ((Ra_4.other3 (by simp <;> omega)).c (i := 2) rfl)⟩
      | go_keep)
    (first
      | (go_at_call 23; (with_reducible refine (C2_0.out _ h).mono ?_); rintro e W3 ⟨Xn, cn, rfl, hn, hb3⟩; have h_3 := h.below hb3; have Ra_3 := Ra.below hb3; have qa0_3 := cell_below hb3 qa0; have qa1_3 := cell_below hb3 qa1; have qa2_3 := cell_below hb3 qa2; have Rr_3 := Rr.below hb3; have qr0_3 := cell_below hb3 qr0; have qr1_3 := cell_below hb3 qr1; have qr2_3 := cell_below hb3 qr2; have HBT_3 := Below.cons HBT hb3)
      | (go_at_call 37; (with_reducible refine (C2_1.out _ _ _ hn).mono ?_); rintro e W4 ⟨Xq, cq, rfl, hq, hb4⟩; have h_4 := h_3.below hb4; have Ra_4 := Ra_3.below hb4; have qa0_4 := cell_below hb4 qa0_3; have qa1_4 := cell_below hb4 qa1_3; have qa2_4 := cell_below hb4 qa2_3; have Rr_4 := Rr_3.below hb4; have qr0_4 := cell_below hb4 qr0_3; have qr1_4 := cell_below hb4 qr1_3; have qr2_4 := cell_below hb4 qr2_3; have hn_4 := hn.below hb4; have HBT_4 := Below.cons HBT_3 hb4; have fz0 := Rr_4.f (i := 0); have fz1 := Rr_4.f (i := 1); have fz2 := Rr_4.f (i := 2)))
  all_goals (try go_wp2_with (fail))
  have hzq : q = (dval (ival sa (val (l.take m))) y) := by rw [Eq.out, En.out]
  subst hzq
  have RS := Rr_4.store3 (.bool (sg (dmn (((dval (ival sa (val (l.take m))) y)))))) (.slice Xq (nl (mg (dmn (((dval (ival sa (val (l.take m))) y)))))) cq) (.int .i64 (dex (((dval (ival sa (val (l.take m))) y)))))
  have e0 := RS.c (i := 0) rfl
  have e1 := RS.c (i := 1) rfl
  have e2 := RS.c (i := 2) rfl
  refine bodyPost_ret (v := .agg #[.bool (sg (dmn (((dval (ival sa (val (l.take m))) y))))), .slice Xq (nl (mg (dmn (((dval (ival sa (val (l.take m))) y)))))) cq, .int .i64 (dex (((dval (ival sa (val (l.take m))) y))))]) (by simp [results, Tryz.results14, go_sem, e0, e1, e2]) rfl ?_
  exact ⟨Xq, cq, rfl, (Rr_4.keep3 (by intro u hu; simp at hu; rcases hu with rfl | rfl | rfl <;> first | exact notU_bool _ | exact notU_slice _ _ _ | exact notU_i64 _) hq), (Below.store3 HBT_4 (by first | exact Nat.le_refl _ | omega))⟩
end Go.Proofs.YtacjfpibilolnaaGreatDoor

/- The document's dyadic numbers, walked: Mid. -/
set_option linter.unusedVariables false
set_option linter.unusedSimpArgs false
namespace Go.Proofs.YtacjfpibilolnaaGreatDoor
open Go.RowKit Go.Shelf
attribute [local go_sem] max2_i min2_i max_two min_two

theorem add_sz2 (a b : Rat) (la : nl (mg a.num) ≤ 100000) (ma : nl a.den ≤ 100000) (lb : nl (mg b.num) ≤ 100000) (mb : nl b.den ≤ 100000) : nl (mg (a + b).num) ≤ 200001 ∧ nl (a + b).den ≤ 200000 := by
  have h0 : a.den * b.den ≠ 0 := Nat.mul_ne_zero a.den_nz b.den_nz
  rw [Rat.add_def', Rat.num_mkRat, Rat.den_mkRat, if_neg h0, if_neg h0]
  constructor
  · refine Nat.le_trans (nl_mono (Int.natAbs_ediv_le_natAbs _ _)) ?_
    have h1 : mg (a.num * (b.den : Int) + b.num * (a.den : Int)) ≤ mg a.num * b.den + mg b.num * a.den := by
      refine Nat.le_trans (Int.natAbs_add_le _ _) ?_
      rw [Int.natAbs_mul, Int.natAbs_mul]; exact Nat.le_refl _
    refine Nat.le_trans (nl_mono h1) ?_
    have h2 := nl_add (mg a.num * b.den) (mg b.num * a.den)
    have h3 := nl_mul (mg a.num) b.den
    have h4 := nl_mul (mg b.num) a.den
    have h5 : ∀ x y : Nat, nl x ≤ 200000 → nl y ≤ 200000 → nl (x + y) ≤ 200001 := by
      intro x y hx hy
      have := nl_add x y
      omega
    exact h5 _ _ (by omega) (by omega)
  · refine Nat.le_trans (nl_div _ _) ?_
    have := nl_mul a.den b.den; omega
end Go.Proofs.YtacjfpibilolnaaGreatDoor

/- Whether a natural, a whole number is right. -/
set_option linter.unusedVariables false
set_option linter.unusedSimpArgs false
namespace Go.Proofs.YtacjfpibilolnaaGreatDoor
open Go.RowKit Go.Shelf
attribute [local go_sem] max2_i min2_i max_two min_two

set_option maxRecDepth 100000 in
set_option maxHeartbeats 1000000 in
theorem right_c (A : Option Addr) (c a : Nat) (w : World) (hA : NatV w A c a) (ha : nl a ≤ 65536) :
    Calls Tryz.prog 116 #[.slice A (nl a) c] w fun e w' => e = .returned (.bool true) ∧ w' = w := by
  by_cases h : nl a = 0
  · rw [h]
    go_enter Tryz.func116, Tryz.ntmps116
    go_wp2_with (fail)
    go_ret
    exact ⟨rfl, rfl⟩
  · obtain ⟨k, hk⟩ : ∃ k, nl a = k + 1 := ⟨nl a - 1, by omega⟩
    obtain ⟨ad, rfl, hcx⟩ := hA.rd.get k (by show k < nl a; omega)
    have hne : gl (limbs a) k ≠ 0 := by
      have h2 := limbs_last a (fun e => h (by rw [e, nl_zero]))
      rwa [hk, Nat.add_sub_cancel] at h2
    obtain ⟨x, hx⟩ : ∃ x, x = gl (limbs a) k := ⟨_, rfl⟩
    rw [← hx] at hcx hne
    have h1 : ((nl a : Int) == 0) = false := ieqF (by omega)
    have hkI : (nl a : Int) - 1 = (k : Int) := by omega
    have hkl : k < nl a := by omega
    have h2 : ((x : Int) != 0) = true := ineT (by omega)
    have h3 : decide ((nl a : Int) ≤ 65536) = true := by simp; omega
    replace hx := Lib.hid hx
    clear hne h hk
    go_enter Tryz.func116, Tryz.ntmps116
    go_wp2_with (fail)
    go_ret
    exact ⟨rfl, rfl⟩

set_option maxRecDepth 100000 in
set_option maxHeartbeats 4000000 in
theorem iright_n (aA : Option Addr) (ac : Nat) (a : Int) (w : World) (ha : NatV w aA ac (mg a)) (la : nl (mg a) ≤ 65536) (h0 : a < 0) :
    Calls Tryz.prog 75 #[.agg #[.bool (sg a), .slice aA (nl (mg a)) ac]] w (fun e w' => e = .returned (.bool true) ∧ Below w.heap.size w w') := by
  have ts : sg a = true := sg_t h0
  have m0 : mg a ≠ 0 := fun k => by have := mg_zero.1 k; omega
  have t1 : ((nl (mg a) : Int) == 0) = false := ieqF (by have := nl_pos.2 m0; omega)
  have t2 : (nl (mg a) == 0) = false := by have := nl_pos.2 m0; simp; omega
  replace h0 := Lib.hid h0
  have hb1 : Below (w).heap.size (w) (w.alloc (.cells #[.bool true, .slice aA (nl (mg a)) ac] 24)) := (Below.alloc (Below.refl _ _) (Nat.le_refl _) _)
  replace ha := ha.below hb1
  have HBT := hb1
  clear hb1
  have Ra : BoxA (w.alloc (.cells #[.bool true, .slice aA (nl (mg a)) ac] 24)) w.heap.size 24 #[.bool true, .slice aA (nl (mg a)) ac] := ⟨by repeat (first | exact at_new (by first | (simp; done) | (simp; omega)) | refine at_old (by first | (simp; done) | (simp; omega)) ?_)⟩
  have qa0 := Ra.c (i := 0) rfl
  have qa1 := Ra.c (i := 1) rfl
  go_enter Tryz.func75, Tryz.ntmps75
  go_wp2_with (fail)
  refine (Calls.mono (right_c aA ac (mg a) _ ha la) ?_)
  rintro e w' ⟨rfl, hw⟩
  subst hw
  go_wp2_with (fail)
  go_ret
  exact ⟨rfl, HBT⟩
set_option maxRecDepth 100000 in
set_option maxHeartbeats 4000000 in
theorem iright_z (aA : Option Addr) (ac : Nat) (a : Int) (w : World) (ha : NatV w aA ac (mg a)) (la : nl (mg a) ≤ 65536) (h0 : a = 0) :
    Calls Tryz.prog 75 #[.agg #[.bool (sg a), .slice aA (nl (mg a)) ac]] w (fun e w' => e = .returned (.bool true) ∧ Below w.heap.size w w') := by
  have ts : sg a = false := sg_f (by omega)
  replace h0 := Lib.hid h0
  have hb1 : Below (w).heap.size (w) (w.alloc (.cells #[.bool false, .slice aA (nl (mg a)) ac] 24)) := (Below.alloc (Below.refl _ _) (Nat.le_refl _) _)
  replace ha := ha.below hb1
  have HBT := hb1
  clear hb1
  have Ra : BoxA (w.alloc (.cells #[.bool false, .slice aA (nl (mg a)) ac] 24)) w.heap.size 24 #[.bool false, .slice aA (nl (mg a)) ac] := ⟨by repeat (first | exact at_new (by first | (simp; done) | (simp; omega)) | refine at_old (by first | (simp; done) | (simp; omega)) ?_)⟩
  have qa0 := Ra.c (i := 0) rfl
  have qa1 := Ra.c (i := 1) rfl
  go_enter Tryz.func75, Tryz.ntmps75
  go_wp2_with (fail)
  refine (Calls.mono (right_c aA ac (mg a) _ ha la) ?_)
  rintro e w' ⟨rfl, hw⟩
  subst hw
  go_wp2_with (fail)
  go_ret
  exact ⟨rfl, HBT⟩
set_option maxRecDepth 100000 in
set_option maxHeartbeats 4000000 in
theorem iright_p (aA : Option Addr) (ac : Nat) (a : Int) (w : World) (ha : NatV w aA ac (mg a)) (la : nl (mg a) ≤ 65536) (h0 : 0 < a) :
    Calls Tryz.prog 75 #[.agg #[.bool (sg a), .slice aA (nl (mg a)) ac]] w (fun e w' => e = .returned (.bool true) ∧ Below w.heap.size w w') := by
  have ts : sg a = false := sg_f (by omega)
  replace h0 := Lib.hid h0
  have hb1 : Below (w).heap.size (w) (w.alloc (.cells #[.bool false, .slice aA (nl (mg a)) ac] 24)) := (Below.alloc (Below.refl _ _) (Nat.le_refl _) _)
  replace ha := ha.below hb1
  have HBT := hb1
  clear hb1
  have Ra : BoxA (w.alloc (.cells #[.bool false, .slice aA (nl (mg a)) ac] 24)) w.heap.size 24 #[.bool false, .slice aA (nl (mg a)) ac] := ⟨by repeat (first | exact at_new (by first | (simp; done) | (simp; omega)) | refine at_old (by first | (simp; done) | (simp; omega)) ?_)⟩
  have qa0 := Ra.c (i := 0) rfl
  have qa1 := Ra.c (i := 1) rfl
  go_enter Tryz.func75, Tryz.ntmps75
  go_wp2_with (fail)
  refine (Calls.mono (right_c aA ac (mg a) _ ha la) ?_)
  rintro e w' ⟨rfl, hw⟩
  subst hw
  go_wp2_with (fail)
  go_ret
  exact ⟨rfl, HBT⟩
theorem iright_c (aA : Option Addr) (ac : Nat) (a : Int) (w : World) (ha : NatV w aA ac (mg a)) (la : nl (mg a) ≤ 65536) :
    Calls Tryz.prog 75 #[.agg #[.bool (sg a), .slice aA (nl (mg a)) ac]] w fun e w' => e = .returned (.bool true) ∧ Below w.heap.size w w' := by
  obtain h | h | h : a < 0 ∨ a = 0 ∨ 0 < a := by omega
  · exact iright_n aA ac a w ha la h
  · exact iright_z aA ac a w ha la h
  · exact iright_p aA ac a w ha la h
end Go.Proofs.YtacjfpibilolnaaGreatDoor

/- Whether a dyadic number is right. -/
set_option linter.unusedVariables false
set_option linter.unusedSimpArgs false
namespace Go.Proofs.YtacjfpibilolnaaGreatDoor
open Go.RowKit Go.Shelf
attribute [local go_sem] max2_i min2_i max_two min_two

/-- Whether a whole number times a power of 2 is of the one form. -/
def rightD (z e : Int) : Bool := if z = 0 then e == 0 else decide (z % 2 = 1) && (decide (-100000 ≤ e) && decide (e ≤ 100000))
set_option maxRecDepth 100000 in
set_option maxHeartbeats 4000000 in
theorem dright_z (aA : Option Addr) (ac : Nat) (a x : Int) (w : World) (ha : NatV w aA ac (mg a)) (la : nl (mg a) ≤ 65536) (h0 : a = 0) :
    Calls Tryz.prog 26 #[.agg #[.bool (sg a), .slice aA (nl (mg a)) ac, .int .i64 x]] w (fun e w' => e = .returned (.bool (rightD a x)) ∧ Below w.heap.size w w') := by
  have hr : rightD a x = (x == 0) := by unfold rightD; rw [if_pos h0]
  have t1 : decide (0 < (nl (mg a) : Int)) = false := by rw [h0, mg0, nl_zero]; rfl
  have t2 : decide (0 < nl (mg a)) = false := by rw [h0, mg0, nl_zero]; rfl
  have t3 : ((nl (mg a) : Int) == 0) = true := ieqT (by rw [h0, mg0, nl_zero]; rfl)
  have t4 : (nl (mg a) == 0) = true := by rw [h0, mg0, nl_zero]; rfl
  rw [hr]
  clear hr
  replace h0 := Lib.hid h0
  have hb1 : Below (w).heap.size (w) (w.alloc (.cells #[.bool (sg a), .slice aA (nl (mg a)) ac, .int .i64 x] 28)) := (Below.alloc (Below.refl _ _) (Nat.le_refl _) _)
  replace ha := ha.below hb1
  have HBT := hb1
  clear hb1
  have Ra : BoxA (w.alloc (.cells #[.bool (sg a), .slice aA (nl (mg a)) ac, .int .i64 x] 28)) w.heap.size 28 #[.bool (sg a), .slice aA (nl (mg a)) ac, .int .i64 x] := ⟨by repeat (first | exact at_new (by first | (simp; done) | (simp; omega)) | refine at_old (by first | (simp; done) | (simp; omega)) ?_)⟩
  have qa0 := Ra.c (i := 0) rfl
  have qa1 := Ra.c (i := 1) rfl
  have qa2 := Ra.c (i := 2) rfl
  go_enter Tryz.func26, Tryz.ntmps26
  go_wp2_with (fail)
  refine (Calls.mono (iright_c aA ac a _ ha la) ?_)
  rintro e W1 ⟨rfl, hb1⟩
  replace ha := ha.below hb1
  replace Ra := Ra.below hb1
  replace qa0 := cell_below hb1 qa0
  replace qa1 := cell_below hb1 qa1
  replace qa2 := cell_below hb1 qa2
  replace HBT := Below.cons HBT hb1
  clear hb1
  go_wp2_with (fail)
  go_ret
  exact ⟨rfl, HBT⟩
set_option maxRecDepth 100000 in
set_option maxHeartbeats 4000000 in
theorem dright_e (aA : Option Addr) (ac : Nat) (a x : Int) (w : World) (ha : NatV w aA ac (mg a)) (la : nl (mg a) ≤ 65536) (h0 : a ≠ 0) (h1 : a % 2 = 0) :
    Calls Tryz.prog 26 #[.agg #[.bool (sg a), .slice aA (nl (mg a)) ac, .int .i64 x]] w (fun e w' => e = .returned (.bool (rightD a x)) ∧ Below w.heap.size w w') := by
  have m0 : mg a ≠ 0 := fun k => h0 (mg_zero.1 k)
  have t1 : decide (0 < (nl (mg a) : Int)) = true := by have := nl_pos.2 m0; simp; omega
  have t2 : decide (0 < nl (mg a)) = true := by have := nl_pos.2 m0; simp; omega
  have t3 : ((nl (mg a) : Int) == 0) = false := ieqF (by have := nl_pos.2 m0; omega)
  have t4 : (nl (mg a) == 0) = false := by have := nl_pos.2 m0; simp; omega
  have t9 := nl_pos.2 m0
  replace m0 := Lib.hid m0
  have hr : rightD a x = false := by unfold rightD; rw [if_neg h0, decide_eq_false (by omega)]; rfl
  rw [hr]
  clear hr
  replace h0 := Lib.hid h0
  have hb1 : Below (w).heap.size (w) (w.alloc (.cells #[.bool (sg a), .slice aA (nl (mg a)) ac, .int .i64 x] 28)) := (Below.alloc (Below.refl _ _) (Nat.le_refl _) _)
  replace ha := ha.below hb1
  have HBT := hb1
  clear hb1
  have Ra : BoxA (w.alloc (.cells #[.bool (sg a), .slice aA (nl (mg a)) ac, .int .i64 x] 28)) w.heap.size 28 #[.bool (sg a), .slice aA (nl (mg a)) ac, .int .i64 x] := ⟨by repeat (first | exact at_new (by first | (simp; done) | (simp; omega)) | refine at_old (by first | (simp; done) | (simp; omega)) ?_)⟩
  have qa0 := Ra.c (i := 0) rfl
  have qa1 := Ra.c (i := 1) rfl
  have qa2 := Ra.c (i := 2) rfl
  go_enter Tryz.func26, Tryz.ntmps26
  go_wp2_with (fail)
  refine (Calls.mono (iright_c aA ac a _ ha la) ?_)
  rintro e W1 ⟨rfl, hb1⟩
  replace ha := ha.below hb1
  replace Ra := Ra.below hb1
  replace qa0 := cell_below hb1 qa0
  replace qa1 := cell_below hb1 qa1
  replace qa2 := cell_below hb1 qa2
  replace HBT := Below.cons HBT hb1
  clear hb1
  obtain ⟨ad, eX, hc0⟩ := ha.rd.get 0 (by exact t9)
  obtain ⟨y, Ey⟩ : ∃ x, x = gl (limbs (mg a)) 0 := ⟨_, rfl⟩
  have hxl : y < 4294967296 := by rw [Ey]; exact (lim_limbs _).gl 0
  have hxv : y = mg a / 4294967296 ^ 0 % 4294967296 := by rw [Ey, limbs_gl]
  rw [← Ey, show ad.add 0 = ad by cases ad; simp [Addr.add]; try (split <;> simp)] at hc0
  have hod := odd_limb hxv
  have hand := and_one_u32 y hxl
  have hy : y % 2 = 0 := by simp only [decide_eq_decide] at hod; omega
  rw [hy] at hand
  replace Ey := Lib.hid Ey
  replace hxv := Lib.hid hxv
  replace hod := Lib.hid hod
  replace hy := Lib.hid hy
  replace h1 := Lib.hid h1
  subst eX
  go_wp2_with (fail)
  go_ret
  exact ⟨rfl, HBT⟩
set_option maxRecDepth 100000 in
set_option maxHeartbeats 4000000 in
theorem dright_o (aA : Option Addr) (ac : Nat) (a x : Int) (w : World) (ha : NatV w aA ac (mg a)) (la : nl (mg a) ≤ 65536) (h0 : a ≠ 0) (h1 : a % 2 = 1) (h2 : -100000 ≤ x) :
    Calls Tryz.prog 26 #[.agg #[.bool (sg a), .slice aA (nl (mg a)) ac, .int .i64 x]] w (fun e w' => e = .returned (.bool (rightD a x)) ∧ Below w.heap.size w w') := by
  have m0 : mg a ≠ 0 := fun k => h0 (mg_zero.1 k)
  have t1 : decide (0 < (nl (mg a) : Int)) = true := by have := nl_pos.2 m0; simp; omega
  have t2 : decide (0 < nl (mg a)) = true := by have := nl_pos.2 m0; simp; omega
  have t3 : ((nl (mg a) : Int) == 0) = false := ieqF (by have := nl_pos.2 m0; omega)
  have t4 : (nl (mg a) == 0) = false := by have := nl_pos.2 m0; simp; omega
  have t9 := nl_pos.2 m0
  replace m0 := Lib.hid m0
  have t5 : decide (-100000 ≤ x) = true := decide_eq_true h2
  have hr : rightD a x = decide (x ≤ 100000) := by unfold rightD; rw [if_neg h0, decide_eq_true h1, t5]; rfl
  rw [hr]
  clear hr
  replace h0 := Lib.hid h0
  have hb1 : Below (w).heap.size (w) (w.alloc (.cells #[.bool (sg a), .slice aA (nl (mg a)) ac, .int .i64 x] 28)) := (Below.alloc (Below.refl _ _) (Nat.le_refl _) _)
  replace ha := ha.below hb1
  have HBT := hb1
  clear hb1
  have Ra : BoxA (w.alloc (.cells #[.bool (sg a), .slice aA (nl (mg a)) ac, .int .i64 x] 28)) w.heap.size 28 #[.bool (sg a), .slice aA (nl (mg a)) ac, .int .i64 x] := ⟨by repeat (first | exact at_new (by first | (simp; done) | (simp; omega)) | refine at_old (by first | (simp; done) | (simp; omega)) ?_)⟩
  have qa0 := Ra.c (i := 0) rfl
  have qa1 := Ra.c (i := 1) rfl
  have qa2 := Ra.c (i := 2) rfl
  go_enter Tryz.func26, Tryz.ntmps26
  go_wp2_with (fail)
  refine (Calls.mono (iright_c aA ac a _ ha la) ?_)
  rintro e W1 ⟨rfl, hb1⟩
  replace ha := ha.below hb1
  replace Ra := Ra.below hb1
  replace qa0 := cell_below hb1 qa0
  replace qa1 := cell_below hb1 qa1
  replace qa2 := cell_below hb1 qa2
  replace HBT := Below.cons HBT hb1
  clear hb1
  obtain ⟨ad, eX, hc0⟩ := ha.rd.get 0 (by exact t9)
  obtain ⟨y, Ey⟩ : ∃ x, x = gl (limbs (mg a)) 0 := ⟨_, rfl⟩
  have hxl : y < 4294967296 := by rw [Ey]; exact (lim_limbs _).gl 0
  have hxv : y = mg a / 4294967296 ^ 0 % 4294967296 := by rw [Ey, limbs_gl]
  rw [← Ey, show ad.add 0 = ad by cases ad; simp [Addr.add]; try (split <;> simp)] at hc0
  have hod := odd_limb hxv
  have hand := and_one_u32 y hxl
  have hy : y % 2 = 1 := by simp only [decide_eq_decide] at hod; omega
  rw [hy] at hand
  replace Ey := Lib.hid Ey
  replace hxv := Lib.hid hxv
  replace hod := Lib.hid hod
  replace hy := Lib.hid hy
  replace h1 := Lib.hid h1
  subst eX
  go_wp2_with (fail)
  go_ret
  exact ⟨rfl, HBT⟩
set_option maxRecDepth 100000 in
set_option maxHeartbeats 4000000 in
theorem dright_l (aA : Option Addr) (ac : Nat) (a x : Int) (w : World) (ha : NatV w aA ac (mg a)) (la : nl (mg a) ≤ 65536) (h0 : a ≠ 0) (h1 : a % 2 = 1) (h2 : x < -100000) :
    Calls Tryz.prog 26 #[.agg #[.bool (sg a), .slice aA (nl (mg a)) ac, .int .i64 x]] w (fun e w' => e = .returned (.bool (rightD a x)) ∧ Below w.heap.size w w') := by
  have m0 : mg a ≠ 0 := fun k => h0 (mg_zero.1 k)
  have t1 : decide (0 < (nl (mg a) : Int)) = true := by have := nl_pos.2 m0; simp; omega
  have t2 : decide (0 < nl (mg a)) = true := by have := nl_pos.2 m0; simp; omega
  have t3 : ((nl (mg a) : Int) == 0) = false := ieqF (by have := nl_pos.2 m0; omega)
  have t4 : (nl (mg a) == 0) = false := by have := nl_pos.2 m0; simp; omega
  have t9 := nl_pos.2 m0
  replace m0 := Lib.hid m0
  have t5 : decide (-100000 ≤ x) = false := decide_eq_false (by omega)
  have hr : rightD a x = false := by unfold rightD; rw [if_neg h0, decide_eq_true h1, t5]; rfl
  rw [hr]
  clear hr
  replace h0 := Lib.hid h0
  have hb1 : Below (w).heap.size (w) (w.alloc (.cells #[.bool (sg a), .slice aA (nl (mg a)) ac, .int .i64 x] 28)) := (Below.alloc (Below.refl _ _) (Nat.le_refl _) _)
  replace ha := ha.below hb1
  have HBT := hb1
  clear hb1
  have Ra : BoxA (w.alloc (.cells #[.bool (sg a), .slice aA (nl (mg a)) ac, .int .i64 x] 28)) w.heap.size 28 #[.bool (sg a), .slice aA (nl (mg a)) ac, .int .i64 x] := ⟨by repeat (first | exact at_new (by first | (simp; done) | (simp; omega)) | refine at_old (by first | (simp; done) | (simp; omega)) ?_)⟩
  have qa0 := Ra.c (i := 0) rfl
  have qa1 := Ra.c (i := 1) rfl
  have qa2 := Ra.c (i := 2) rfl
  go_enter Tryz.func26, Tryz.ntmps26
  go_wp2_with (fail)
  refine (Calls.mono (iright_c aA ac a _ ha la) ?_)
  rintro e W1 ⟨rfl, hb1⟩
  replace ha := ha.below hb1
  replace Ra := Ra.below hb1
  replace qa0 := cell_below hb1 qa0
  replace qa1 := cell_below hb1 qa1
  replace qa2 := cell_below hb1 qa2
  replace HBT := Below.cons HBT hb1
  clear hb1
  obtain ⟨ad, eX, hc0⟩ := ha.rd.get 0 (by exact t9)
  obtain ⟨y, Ey⟩ : ∃ x, x = gl (limbs (mg a)) 0 := ⟨_, rfl⟩
  have hxl : y < 4294967296 := by rw [Ey]; exact (lim_limbs _).gl 0
  have hxv : y = mg a / 4294967296 ^ 0 % 4294967296 := by rw [Ey, limbs_gl]
  rw [← Ey, show ad.add 0 = ad by cases ad; simp [Addr.add]; try (split <;> simp)] at hc0
  have hod := odd_limb hxv
  have hand := and_one_u32 y hxl
  have hy : y % 2 = 1 := by simp only [decide_eq_decide] at hod; omega
  rw [hy] at hand
  replace Ey := Lib.hid Ey
  replace hxv := Lib.hid hxv
  replace hod := Lib.hid hod
  replace hy := Lib.hid hy
  replace h1 := Lib.hid h1
  subst eX
  go_wp2_with (fail)
  go_ret
  exact ⟨rfl, HBT⟩
theorem dright_c (aA : Option Addr) (ac : Nat) (a x : Int) (w : World) (ha : NatV w aA ac (mg a)) (la : nl (mg a) ≤ 65536) :
    Calls Tryz.prog 26 #[.agg #[.bool (sg a), .slice aA (nl (mg a)) ac, .int .i64 x]] w (fun e w' => e = .returned (.bool (rightD a x)) ∧ Below w.heap.size w w') := by
  by_cases h0 : a = 0
  · exact dright_z aA ac a x w ha la h0
  · by_cases h1 : a % 2 = 0
    · exact dright_e aA ac a x w ha la h0 h1
    · by_cases h2 : -100000 ≤ x
      · exact dright_o aA ac a x w ha la h0 (by omega) h2
      · exact dright_l aA ac a x w ha la h0 (by omega) (by omega)
end Go.Proofs.YtacjfpibilolnaaGreatDoor

/- Whether a number is right, the document's way. -/
set_option linter.unusedVariables false
set_option linter.unusedSimpArgs false
namespace Go.Proofs.YtacjfpibilolnaaGreatDoor
open Go.RowKit Go.Shelf
attribute [local go_sem] max2_i min2_i max_two min_two

set_option maxRecDepth 100000 in
set_option maxHeartbeats 4000000 in
theorem zright_n (aA : Option Addr) (ac : Nat) (a : Int) (w : World) (ha : NatV w aA ac (mg a)) (la : nl (mg a) ≤ 65536) (h0 : a < 0) :
    Calls Tryz.prog 76 #[.agg #[.bool (sg a), .slice aA (nl (mg a)) ac]] w (fun e w' => e = .returned (.bool true) ∧ Below w.heap.size w w') := by
  have ts : sg a = true := sg_t h0
  have m0 : mg a ≠ 0 := fun k => by have := mg_zero.1 k; omega
  have t1 : ((nl (mg a) : Int) == 0) = false := ieqF (by have := nl_pos.2 m0; omega)
  have t2 : (nl (mg a) == 0) = false := by have := nl_pos.2 m0; simp; omega
  have t5 : decide (0 < (nl (mg a) : Int)) = true := by have := nl_pos.2 m0; simp; omega
  have t6 : decide (0 < nl (mg a)) = true := by have := nl_pos.2 m0; simp; omega
  replace h0 := Lib.hid h0
  have hb1 : Below (w).heap.size (w) (w.alloc (.cells #[.bool true, .slice aA (nl (mg a)) ac] 24)) := (Below.alloc (Below.refl _ _) (Nat.le_refl _) _)
  replace ha := ha.below hb1
  have HBT := hb1
  clear hb1
  have Ra : BoxA (w.alloc (.cells #[.bool true, .slice aA (nl (mg a)) ac] 24)) w.heap.size 24 #[.bool true, .slice aA (nl (mg a)) ac] := ⟨by repeat (first | exact at_new (by first | (simp; done) | (simp; omega)) | refine at_old (by first | (simp; done) | (simp; omega)) ?_)⟩
  have qa0 := Ra.c (i := 0) rfl
  have qa1 := Ra.c (i := 1) rfl
  go_enter Tryz.func76, Tryz.ntmps76
  go_wp2_with (fail)
  refine (Calls.mono (rright_c aA ac (mg a) _ ha la) ?_)
  rintro e w' ⟨rfl, hw⟩
  subst hw
  go_wp2_with (fail)
  go_ret
  exact ⟨rfl, HBT⟩
set_option maxRecDepth 100000 in
set_option maxHeartbeats 4000000 in
theorem zright_z (aA : Option Addr) (ac : Nat) (a : Int) (w : World) (ha : NatV w aA ac (mg a)) (la : nl (mg a) ≤ 65536) (h0 : a = 0) :
    Calls Tryz.prog 76 #[.agg #[.bool (sg a), .slice aA (nl (mg a)) ac]] w (fun e w' => e = .returned (.bool true) ∧ Below w.heap.size w w') := by
  have ts : sg a = false := sg_f (by omega)
  replace h0 := Lib.hid h0
  have hb1 : Below (w).heap.size (w) (w.alloc (.cells #[.bool false, .slice aA (nl (mg a)) ac] 24)) := (Below.alloc (Below.refl _ _) (Nat.le_refl _) _)
  replace ha := ha.below hb1
  have HBT := hb1
  clear hb1
  have Ra : BoxA (w.alloc (.cells #[.bool false, .slice aA (nl (mg a)) ac] 24)) w.heap.size 24 #[.bool false, .slice aA (nl (mg a)) ac] := ⟨by repeat (first | exact at_new (by first | (simp; done) | (simp; omega)) | refine at_old (by first | (simp; done) | (simp; omega)) ?_)⟩
  have qa0 := Ra.c (i := 0) rfl
  have qa1 := Ra.c (i := 1) rfl
  go_enter Tryz.func76, Tryz.ntmps76
  go_wp2_with (fail)
  refine (Calls.mono (rright_c aA ac (mg a) _ ha la) ?_)
  rintro e w' ⟨rfl, hw⟩
  subst hw
  go_wp2_with (fail)
  go_ret
  exact ⟨rfl, HBT⟩
set_option maxRecDepth 100000 in
set_option maxHeartbeats 4000000 in
theorem zright_p (aA : Option Addr) (ac : Nat) (a : Int) (w : World) (ha : NatV w aA ac (mg a)) (la : nl (mg a) ≤ 65536) (h0 : 0 < a) :
    Calls Tryz.prog 76 #[.agg #[.bool (sg a), .slice aA (nl (mg a)) ac]] w (fun e w' => e = .returned (.bool true) ∧ Below w.heap.size w w') := by
  have ts : sg a = false := sg_f (by omega)
  replace h0 := Lib.hid h0
  have hb1 : Below (w).heap.size (w) (w.alloc (.cells #[.bool false, .slice aA (nl (mg a)) ac] 24)) := (Below.alloc (Below.refl _ _) (Nat.le_refl _) _)
  replace ha := ha.below hb1
  have HBT := hb1
  clear hb1
  have Ra : BoxA (w.alloc (.cells #[.bool false, .slice aA (nl (mg a)) ac] 24)) w.heap.size 24 #[.bool false, .slice aA (nl (mg a)) ac] := ⟨by repeat (first | exact at_new (by first | (simp; done) | (simp; omega)) | refine at_old (by first | (simp; done) | (simp; omega)) ?_)⟩
  have qa0 := Ra.c (i := 0) rfl
  have qa1 := Ra.c (i := 1) rfl
  go_enter Tryz.func76, Tryz.ntmps76
  go_wp2_with (fail)
  refine (Calls.mono (rright_c aA ac (mg a) _ ha la) ?_)
  rintro e w' ⟨rfl, hw⟩
  subst hw
  go_wp2_with (fail)
  go_ret
  exact ⟨rfl, HBT⟩
theorem zright_c (aA : Option Addr) (ac : Nat) (a : Int) (w : World) (ha : NatV w aA ac (mg a)) (la : nl (mg a) ≤ 65536) :
    Calls Tryz.prog 76 #[.agg #[.bool (sg a), .slice aA (nl (mg a)) ac]] w fun e w' => e = .returned (.bool true) ∧ Below w.heap.size w w' := by
  obtain h | h | h : a < 0 ∨ a = 0 ∨ 0 < a := by omega
  · exact zright_n aA ac a w ha la h
  · exact zright_z aA ac a w ha la h
  · exact zright_p aA ac a w ha la h
set_option maxRecDepth 100000 in
set_option maxHeartbeats 4000000 in
theorem tright_z (aA : Option Addr) (ac : Nat) (a x : Int) (w : World) (ha : NatV w aA ac (mg a)) (la : nl (mg a) ≤ 65536) (h0 : a = 0) :
    Calls Tryz.prog 27 #[.agg #[.bool (sg a), .slice aA (nl (mg a)) ac, .int .i64 x]] w (fun e w' => e = .returned (.bool (rightD a x)) ∧ Below w.heap.size w w') := by
  have hr : rightD a x = (x == 0) := by unfold rightD; rw [if_pos h0]
  have t1 : decide (0 < (nl (mg a) : Int)) = false := by rw [h0, mg0, nl_zero]; rfl
  have t2 : decide (0 < nl (mg a)) = false := by rw [h0, mg0, nl_zero]; rfl
  have t3 : ((nl (mg a) : Int) == 0) = true := ieqT (by rw [h0, mg0, nl_zero]; rfl)
  have t4 : (nl (mg a) == 0) = true := by rw [h0, mg0, nl_zero]; rfl
  rw [hr]
  clear hr
  replace h0 := Lib.hid h0
  have hb1 : Below (w).heap.size (w) (w.alloc (.cells #[.bool (sg a), .slice aA (nl (mg a)) ac, .int .i64 x] 28)) := (Below.alloc (Below.refl _ _) (Nat.le_refl _) _)
  replace ha := ha.below hb1
  have HBT := hb1
  clear hb1
  have Ra : BoxA (w.alloc (.cells #[.bool (sg a), .slice aA (nl (mg a)) ac, .int .i64 x] 28)) w.heap.size 28 #[.bool (sg a), .slice aA (nl (mg a)) ac, .int .i64 x] := ⟨by repeat (first | exact at_new (by first | (simp; done) | (simp; omega)) | refine at_old (by first | (simp; done) | (simp; omega)) ?_)⟩
  have qa0 := Ra.c (i := 0) rfl
  have qa1 := Ra.c (i := 1) rfl
  have qa2 := Ra.c (i := 2) rfl
  go_enter Tryz.func27, Tryz.ntmps27
  go_wp2_with (fail)
  refine (Calls.mono (zright_c aA ac a _ ha la) ?_)
  rintro e W1 ⟨rfl, hb1⟩
  replace ha := ha.below hb1
  replace Ra := Ra.below hb1
  replace qa0 := cell_below hb1 qa0
  replace qa1 := cell_below hb1 qa1
  replace qa2 := cell_below hb1 qa2
  replace HBT := Below.cons HBT hb1
  clear hb1
  go_wp2_with (fail)
  go_ret
  exact ⟨rfl, HBT⟩
set_option maxRecDepth 100000 in
set_option maxHeartbeats 4000000 in
theorem tright_e (aA : Option Addr) (ac : Nat) (a x : Int) (w : World) (ha : NatV w aA ac (mg a)) (la : nl (mg a) ≤ 65536) (h0 : a ≠ 0) (h1 : a % 2 = 0) :
    Calls Tryz.prog 27 #[.agg #[.bool (sg a), .slice aA (nl (mg a)) ac, .int .i64 x]] w (fun e w' => e = .returned (.bool (rightD a x)) ∧ Below w.heap.size w w') := by
  have m0 : mg a ≠ 0 := fun k => h0 (mg_zero.1 k)
  have t1 : decide (0 < (nl (mg a) : Int)) = true := by have := nl_pos.2 m0; simp; omega
  have t2 : decide (0 < nl (mg a)) = true := by have := nl_pos.2 m0; simp; omega
  have t3 : ((nl (mg a) : Int) == 0) = false := ieqF (by have := nl_pos.2 m0; omega)
  have t4 : (nl (mg a) == 0) = false := by have := nl_pos.2 m0; simp; omega
  have t9 := nl_pos.2 m0
  replace m0 := Lib.hid m0
  have hr : rightD a x = false := by unfold rightD; rw [if_neg h0, decide_eq_false (by omega)]; rfl
  rw [hr]
  clear hr
  replace h0 := Lib.hid h0
  have hb1 : Below (w).heap.size (w) (w.alloc (.cells #[.bool (sg a), .slice aA (nl (mg a)) ac, .int .i64 x] 28)) := (Below.alloc (Below.refl _ _) (Nat.le_refl _) _)
  replace ha := ha.below hb1
  have HBT := hb1
  clear hb1
  have Ra : BoxA (w.alloc (.cells #[.bool (sg a), .slice aA (nl (mg a)) ac, .int .i64 x] 28)) w.heap.size 28 #[.bool (sg a), .slice aA (nl (mg a)) ac, .int .i64 x] := ⟨by repeat (first | exact at_new (by first | (simp; done) | (simp; omega)) | refine at_old (by first | (simp; done) | (simp; omega)) ?_)⟩
  have qa0 := Ra.c (i := 0) rfl
  have qa1 := Ra.c (i := 1) rfl
  have qa2 := Ra.c (i := 2) rfl
  go_enter Tryz.func27, Tryz.ntmps27
  go_wp2_with (fail)
  refine (Calls.mono (zright_c aA ac a _ ha la) ?_)
  rintro e W1 ⟨rfl, hb1⟩
  replace ha := ha.below hb1
  replace Ra := Ra.below hb1
  replace qa0 := cell_below hb1 qa0
  replace qa1 := cell_below hb1 qa1
  replace qa2 := cell_below hb1 qa2
  replace HBT := Below.cons HBT hb1
  clear hb1
  obtain ⟨ad, eX, hc0⟩ := ha.rd.get 0 (by exact t9)
  obtain ⟨y, Ey⟩ : ∃ x, x = gl (limbs (mg a)) 0 := ⟨_, rfl⟩
  have hxl : y < 4294967296 := by rw [Ey]; exact (lim_limbs _).gl 0
  have hxv : y = mg a / 4294967296 ^ 0 % 4294967296 := by rw [Ey, limbs_gl]
  rw [← Ey, show ad.add 0 = ad by cases ad; simp [Addr.add]; try (split <;> simp)] at hc0
  have hod := odd_limb hxv
  have hand := and_one_u32 y hxl
  have hy : y % 2 = 0 := by simp only [decide_eq_decide] at hod; omega
  have hm : (y : Int) % 2 = 0 := by omega
  have hm2 : Int.tmod (y : Int) 2 = 0 := by rw [Int.tmod_eq_emod_of_nonneg (Int.natCast_nonneg y)]; exact hm
  clear hand
  replace Ey := Lib.hid Ey
  replace hxv := Lib.hid hxv
  replace hod := Lib.hid hod
  replace hy := Lib.hid hy
  replace h1 := Lib.hid h1
  subst eX
  go_wp2_with (fail)
  go_ret
  exact ⟨rfl, HBT⟩
set_option maxRecDepth 100000 in
set_option maxHeartbeats 4000000 in
theorem tright_o (aA : Option Addr) (ac : Nat) (a x : Int) (w : World) (ha : NatV w aA ac (mg a)) (la : nl (mg a) ≤ 65536) (h0 : a ≠ 0) (h1 : a % 2 = 1) (h2 : -100000 ≤ x) :
    Calls Tryz.prog 27 #[.agg #[.bool (sg a), .slice aA (nl (mg a)) ac, .int .i64 x]] w (fun e w' => e = .returned (.bool (rightD a x)) ∧ Below w.heap.size w w') := by
  have m0 : mg a ≠ 0 := fun k => h0 (mg_zero.1 k)
  have t1 : decide (0 < (nl (mg a) : Int)) = true := by have := nl_pos.2 m0; simp; omega
  have t2 : decide (0 < nl (mg a)) = true := by have := nl_pos.2 m0; simp; omega
  have t3 : ((nl (mg a) : Int) == 0) = false := ieqF (by have := nl_pos.2 m0; omega)
  have t4 : (nl (mg a) == 0) = false := by have := nl_pos.2 m0; simp; omega
  have t9 := nl_pos.2 m0
  replace m0 := Lib.hid m0
  have t5 : decide (-100000 ≤ x) = true := decide_eq_true h2
  have hr : rightD a x = decide (x ≤ 100000) := by unfold rightD; rw [if_neg h0, decide_eq_true h1, t5]; rfl
  rw [hr]
  clear hr
  replace h0 := Lib.hid h0
  have hb1 : Below (w).heap.size (w) (w.alloc (.cells #[.bool (sg a), .slice aA (nl (mg a)) ac, .int .i64 x] 28)) := (Below.alloc (Below.refl _ _) (Nat.le_refl _) _)
  replace ha := ha.below hb1
  have HBT := hb1
  clear hb1
  have Ra : BoxA (w.alloc (.cells #[.bool (sg a), .slice aA (nl (mg a)) ac, .int .i64 x] 28)) w.heap.size 28 #[.bool (sg a), .slice aA (nl (mg a)) ac, .int .i64 x] := ⟨by repeat (first | exact at_new (by first | (simp; done) | (simp; omega)) | refine at_old (by first | (simp; done) | (simp; omega)) ?_)⟩
  have qa0 := Ra.c (i := 0) rfl
  have qa1 := Ra.c (i := 1) rfl
  have qa2 := Ra.c (i := 2) rfl
  go_enter Tryz.func27, Tryz.ntmps27
  go_wp2_with (fail)
  refine (Calls.mono (zright_c aA ac a _ ha la) ?_)
  rintro e W1 ⟨rfl, hb1⟩
  replace ha := ha.below hb1
  replace Ra := Ra.below hb1
  replace qa0 := cell_below hb1 qa0
  replace qa1 := cell_below hb1 qa1
  replace qa2 := cell_below hb1 qa2
  replace HBT := Below.cons HBT hb1
  clear hb1
  obtain ⟨ad, eX, hc0⟩ := ha.rd.get 0 (by exact t9)
  obtain ⟨y, Ey⟩ : ∃ x, x = gl (limbs (mg a)) 0 := ⟨_, rfl⟩
  have hxl : y < 4294967296 := by rw [Ey]; exact (lim_limbs _).gl 0
  have hxv : y = mg a / 4294967296 ^ 0 % 4294967296 := by rw [Ey, limbs_gl]
  rw [← Ey, show ad.add 0 = ad by cases ad; simp [Addr.add]; try (split <;> simp)] at hc0
  have hod := odd_limb hxv
  have hand := and_one_u32 y hxl
  have hy : y % 2 = 1 := by simp only [decide_eq_decide] at hod; omega
  have hm : (y : Int) % 2 = 1 := by omega
  have hm2 : Int.tmod (y : Int) 2 = 1 := by rw [Int.tmod_eq_emod_of_nonneg (Int.natCast_nonneg y)]; exact hm
  clear hand
  replace Ey := Lib.hid Ey
  replace hxv := Lib.hid hxv
  replace hod := Lib.hid hod
  replace hy := Lib.hid hy
  replace h1 := Lib.hid h1
  subst eX
  go_wp2_with (fail)
  go_ret
  exact ⟨rfl, HBT⟩
set_option maxRecDepth 100000 in
set_option maxHeartbeats 4000000 in
theorem tright_l (aA : Option Addr) (ac : Nat) (a x : Int) (w : World) (ha : NatV w aA ac (mg a)) (la : nl (mg a) ≤ 65536) (h0 : a ≠ 0) (h1 : a % 2 = 1) (h2 : x < -100000) :
    Calls Tryz.prog 27 #[.agg #[.bool (sg a), .slice aA (nl (mg a)) ac, .int .i64 x]] w (fun e w' => e = .returned (.bool (rightD a x)) ∧ Below w.heap.size w w') := by
  have m0 : mg a ≠ 0 := fun k => h0 (mg_zero.1 k)
  have t1 : decide (0 < (nl (mg a) : Int)) = true := by have := nl_pos.2 m0; simp; omega
  have t2 : decide (0 < nl (mg a)) = true := by have := nl_pos.2 m0; simp; omega
  have t3 : ((nl (mg a) : Int) == 0) = false := ieqF (by have := nl_pos.2 m0; omega)
  have t4 : (nl (mg a) == 0) = false := by have := nl_pos.2 m0; simp; omega
  have t9 := nl_pos.2 m0
  replace m0 := Lib.hid m0
  have t5 : decide (-100000 ≤ x) = false := decide_eq_false (by omega)
  have hr : rightD a x = false := by unfold rightD; rw [if_neg h0, decide_eq_true h1, t5]; rfl
  rw [hr]
  clear hr
  replace h0 := Lib.hid h0
  have hb1 : Below (w).heap.size (w) (w.alloc (.cells #[.bool (sg a), .slice aA (nl (mg a)) ac, .int .i64 x] 28)) := (Below.alloc (Below.refl _ _) (Nat.le_refl _) _)
  replace ha := ha.below hb1
  have HBT := hb1
  clear hb1
  have Ra : BoxA (w.alloc (.cells #[.bool (sg a), .slice aA (nl (mg a)) ac, .int .i64 x] 28)) w.heap.size 28 #[.bool (sg a), .slice aA (nl (mg a)) ac, .int .i64 x] := ⟨by repeat (first | exact at_new (by first | (simp; done) | (simp; omega)) | refine at_old (by first | (simp; done) | (simp; omega)) ?_)⟩
  have qa0 := Ra.c (i := 0) rfl
  have qa1 := Ra.c (i := 1) rfl
  have qa2 := Ra.c (i := 2) rfl
  go_enter Tryz.func27, Tryz.ntmps27
  go_wp2_with (fail)
  refine (Calls.mono (zright_c aA ac a _ ha la) ?_)
  rintro e W1 ⟨rfl, hb1⟩
  replace ha := ha.below hb1
  replace Ra := Ra.below hb1
  replace qa0 := cell_below hb1 qa0
  replace qa1 := cell_below hb1 qa1
  replace qa2 := cell_below hb1 qa2
  replace HBT := Below.cons HBT hb1
  clear hb1
  obtain ⟨ad, eX, hc0⟩ := ha.rd.get 0 (by exact t9)
  obtain ⟨y, Ey⟩ : ∃ x, x = gl (limbs (mg a)) 0 := ⟨_, rfl⟩
  have hxl : y < 4294967296 := by rw [Ey]; exact (lim_limbs _).gl 0
  have hxv : y = mg a / 4294967296 ^ 0 % 4294967296 := by rw [Ey, limbs_gl]
  rw [← Ey, show ad.add 0 = ad by cases ad; simp [Addr.add]; try (split <;> simp)] at hc0
  have hod := odd_limb hxv
  have hand := and_one_u32 y hxl
  have hy : y % 2 = 1 := by simp only [decide_eq_decide] at hod; omega
  have hm : (y : Int) % 2 = 1 := by omega
  have hm2 : Int.tmod (y : Int) 2 = 1 := by rw [Int.tmod_eq_emod_of_nonneg (Int.natCast_nonneg y)]; exact hm
  clear hand
  replace Ey := Lib.hid Ey
  replace hxv := Lib.hid hxv
  replace hod := Lib.hid hod
  replace hy := Lib.hid hy
  replace h1 := Lib.hid h1
  subst eX
  go_wp2_with (fail)
  go_ret
  exact ⟨rfl, HBT⟩
theorem tright_c (aA : Option Addr) (ac : Nat) (a x : Int) (w : World) (ha : NatV w aA ac (mg a)) (la : nl (mg a) ≤ 65536) :
    Calls Tryz.prog 27 #[.agg #[.bool (sg a), .slice aA (nl (mg a)) ac, .int .i64 x]] w (fun e w' => e = .returned (.bool (rightD a x)) ∧ Below w.heap.size w w') := by
  by_cases h0 : a = 0
  · exact tright_z aA ac a x w ha la h0
  · by_cases h1 : a % 2 = 0
    · exact tright_e aA ac a x w ha la h0 h1
    · by_cases h2 : -100000 ≤ x
      · exact tright_o aA ac a x w ha la h0 (by omega) h2
      · exact tright_l aA ac a x w ha la h0 (by omega) (by omega)
end Go.Proofs.YtacjfpibilolnaaGreatDoor

/- How long the parts of a dyadic number's rational are. -/
set_option linter.unusedVariables false
namespace Go.Proofs.YtacjfpibilolnaaGreatDoor

end Go.Proofs.YtacjfpibilolnaaGreatDoor
