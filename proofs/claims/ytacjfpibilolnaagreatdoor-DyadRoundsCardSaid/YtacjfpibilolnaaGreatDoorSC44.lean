/- A rational rounded to a whole number, the document's way. -/
import Derived.Test.YtacjfpibilolnaaGreatDoorSC42
import Derived.Test.YtacjfpibilolnaaGreatDoorSC43
set_option maxRecDepth 100000
set_option maxHeartbeats 4000000
set_option linter.unusedVariables false
set_option linter.unusedSimpArgs false
namespace Go.Proofs.YtacjfpibilolnaaGreatDoor
open Go.RowKit Go.Shelf
attribute [local go_sem] max2_i min2_i max_two min_two

theorem floor_abs (x : Rat) : mg x.floor ≤ mg x.num := by
  rw [Rat.floor_def]
  exact Int.natAbs_ediv_le_natAbs _ _
theorem ceil_abs (x : Rat) : mg x.ceil ≤ mg x.num := by
  rw [Rat.ceil_eq_neg_floor_neg, mg_neg]
  refine Nat.le_trans (floor_abs _) ?_
  rw [Rat.neg_num, mg_neg]; exact Nat.le_refl _
theorem rnd_abs (dr : Int) (x : Rat) : mg (rnd dr x) ≤ mg x.num := by
  unfold rnd
  split
  · exact floor_abs x
  · split
    · exact ceil_abs x
    · split
      · exact floor_abs x
      · exact ceil_abs x
theorem sub_sz2 (a b : Rat) (la : nl (mg a.num) ≤ 100000) (ma : nl a.den ≤ 100000) (lb : nl (mg b.num) ≤ 100000) (mb : nl b.den ≤ 100000) : nl (mg (a - b).num) ≤ 200001 ∧ nl (a - b).den ≤ 200000 := by
  rw [Rat.sub_eq_add_neg]
  exact add_sz2 a (-b) la ma (by rw [Rat.neg_num, mg_neg]; exact lb) (by rw [Rat.neg_den]; exact mb)
theorem rcmp_sub {x y : Rat} : rcmp x y = if x < y then -1 else if x = y then 0 else 1 := by
  unfold rcmp
  by_cases h : x < y
  · rw [if_pos h, if_pos h]
  · rw [if_neg h, if_neg h]
    by_cases k : x = y
    · rw [if_pos k, if_neg (by rw [k]; exact Rat.lt_irrefl)]
    · rw [if_neg k, if_pos]
      have := Rat.not_lt.1 h
      grind
theorem PBR.put {W W' : World} {u : Value} {q : Rat} {n0 k : Nat} (h : PBR n0 u q W) (hp : Put W W' k) (hne : u ≠ .pointer (some ⟨k, 0, none⟩)) : PBR n0 u q W' := by
  obtain ⟨nb, X, c, Y, d, h1, h2, h3, h4, h5⟩ := h
  exact ⟨nb, X, c, Y, d, h1, h2, ⟨(hp.far nb (fun e => hne (by rw [h1, e]))).trans h3.at_⟩, hp.nat h4, hp.nat h5⟩
theorem num_neg {a : Rat} : a < 0 ↔ a.num < 0 := by rw [← Rat.not_le, ← Rat.num_nonneg]; omega
/-- A sure direction is down or up, by the sign. -/
theorem sure_cases (a : Rat) (dr : Int) (d0 : 0 ≤ dr) (d3 : dr ≤ 3) : (a.num.sign = -1 ∨ a.num.sign = 0 ∨ a.num.sign = 1) ∧
    (rnd dr a = a.floor ∧ (dr = 0 ∨ dr = 2 ∧ ¬ a.num.sign < 0 ∨ dr = 3 ∧ a.num.sign < 0) ∨ rnd dr a = a.ceil ∧ (dr = 1 ∨ dr = 2 ∧ a.num.sign < 0 ∨ dr = 3 ∧ ¬ a.num.sign < 0)) := by
  have hs : a.num.sign < 0 ↔ a < 0 := by rw [Int.sign_neg_iff, num_neg]
  refine ⟨by rcases Int.lt_trichotomy a.num 0 with h | h | h; exact .inl (Int.sign_eq_neg_one_of_neg h); exact .inr (.inl (by rw [h]; rfl)); exact .inr (.inr (Int.sign_eq_one_of_pos h)), ?_⟩
  unfold rnd
  rw [hs]
  obtain rfl | rfl | rfl | rfl : dr = 0 ∨ dr = 1 ∨ dr = 2 ∨ dr = 3 := by omega
  · simp
  · simp
  · by_cases h : a < 0 <;> simp [h]
  · by_cases h : a < 0 <;> simp [h]
theorem near_cases (a : Rat) : rcmp (a - (a.floor : Rat)) ((a.ceil : Rat) - a) = -1 ∧ rnd 4 a = a.floor ∨ rcmp (a - (a.floor : Rat)) ((a.ceil : Rat) - a) = 0 ∧ a.floor % 2 = 0 ∧ rnd 4 a = a.floor ∨
    rcmp (a - (a.floor : Rat)) ((a.ceil : Rat) - a) = 0 ∧ a.floor % 2 = 1 ∧ rnd 4 a = a.ceil ∨ rcmp (a - (a.floor : Rat)) ((a.ceil : Rat) - a) = 1 ∧ rnd 4 a = a.ceil := by
  rw [rcmp_sub, rnd_4]
  by_cases c1 : a - (a.floor : Rat) < (a.ceil : Rat) - a
  · rw [if_pos c1, if_pos (.inl c1)]; exact .inl ⟨rfl, rfl⟩
  · rw [if_neg c1]
    by_cases c2 : a - (a.floor : Rat) = (a.ceil : Rat) - a
    · rw [if_pos c2]
      by_cases c3 : a.floor % 2 = 0
      · rw [if_pos (.inr ⟨c2, c3⟩)]; exact .inr (.inl ⟨rfl, c3, rfl⟩)
      · rw [if_neg (by rintro (k | ⟨_, k⟩); exact c1 k; exact c3 k)]; exact .inr (.inr (.inl ⟨rfl, by omega, rfl⟩))
    · rw [if_neg c2, if_neg (by rintro (k | ⟨k, _⟩); exact c1 k; exact c2 k)]; exact .inr (.inr (.inr ⟨rfl, rfl⟩))
theorem twhole_s (aA : Option Addr) (ac : Nat) (aB : Option Addr) (ad : Nat) (a : Rat) (dr : Int) (w : World) (ha : NatV w aA ac (mg a.num)) (ga : NatV w aB ad a.den)  (la : nl (mg a.num) ≤ 100000) (ma : nl a.den ≤ 100000) (d0 : 0 ≤ dr) (d3 : dr ≤ 3) :
    Calls Tryz.prog 66 #[.agg #[.bool (sg a.num), .slice aA (nl (mg a.num)) ac, .slice aB (nl a.den) ad], .int .i64 dr] w (RetI w (rnd dr a)) := by
  have lf := Nat.le_trans (nl_mono (ceil_abs a)) la
  replace lf : nl (mg a.ceil) ≤ 1048576 := by omega
  have HS := sure_cases a dr d0 d3
  obtain ⟨sn, Esn⟩ : ∃ z, z = a.num.sign := ⟨_, rfl⟩
  rw [← Esn] at HS
  have CG := fun (W : World) (h1 : NatV W aA ac (mg a.num)) (h2 : NatV W aB ad a.den) => r9sign_c aA ac aB ad a W h1 h2 (by omega)
  rw [← Esn] at CG
  obtain ⟨y, Ey⟩ : ∃ z : Int, z = rnd dr a := ⟨_, rfl⟩
  rw [← Ey] at HS ⊢
  replace CG := Lib.hid CG
  replace Esn := Lib.hid Esn
  replace HS := Lib.hid HS
  replace Ey := Lib.hid Ey
  obtain ⟨lo, Elo⟩ : ∃ z, z = a.floor := ⟨_, rfl⟩
  obtain ⟨up, Eup⟩ : ∃ z, z = a.ceil := ⟨_, rfl⟩
  have C1 := fun (W : World) (h1 : NatV W aA ac (mg a.num)) (h2 : NatV W aB ad a.den) => r9floor_c aA ac aB ad a W h1 h2 (by omega) (by omega)
  rw [← Elo] at C1
  have C2 := fun (W : World) (h1 : NatV W aA ac (mg a.num)) (h2 : NatV W aB ad a.den) => r9ceil_c aA ac aB ad a W h1 h2 (by omega) (by omega) lf
  rw [← Eup] at C2
  replace C1 := Lib.hid C1
  replace C2 := Lib.hid C2
  replace Elo := Lib.hid Elo
  replace Eup := Lib.hid Eup
  obtain ⟨hb1, Ra, Rr⟩ := bx2 w #[.bool (sg a.num), .slice aA (nl (mg a.num)) ac, .slice aB (nl a.den) ad] 26 #[.bool false, .slice none 0 0] 24
  replace ha := ha.below hb1
  replace ga := ga.below hb1
  have HBT := hb1
  clear hb1
  have qa0 := Ra.c (i := 0) rfl
  have qa1 := Ra.c (i := 1) rfl
  have qa2 := Ra.c (i := 2) rfl
  have qr0 := Rr.c (i := 0) rfl
  have qr1 := Rr.c (i := 1) rfl
  go_enter Tryz.func66, Tryz.ntmps66
  go_wp2_with (fail)
  generalize hW0 : ((w.alloc (.cells #[.bool (sg a.num), .slice aA (nl (mg a.num)) ac, .slice aB (nl a.den) ad] 26)).alloc (.cells #[.bool false, .slice none 0 0] 24)) = W0 at *
  replace hW0 := Lib.hid hW0
  refine wp_region_inv (fun E a' w' => ∃ (u11 u12 u13 u14 u5 u6 : Value),
    a' = { tmps := #[.agg #[.bool (sg a.num), .slice aA (nl (mg a.num)) ac, .slice aB (nl a.den) ad], .int .i64 dr, .pointer (some ⟨w.heap.size, 0, none⟩), undef, .pointer (some ⟨(w.heap.size + 1), 0, none⟩), u5, u6, undef, undef, undef, undef, u11, u12, u13, u14, undef, undef, undef, undef, undef, undef, undef, undef, undef, undef, undef, undef, undef, undef, undef, undef, undef, undef, undef, undef, undef, undef, undef, undef, undef, undef, undef, undef, undef, undef, undef, undef, undef, undef, undef, undef, undef, undef, undef, undef, undef, undef, undef, undef, undef, undef, undef, undef, undef], defers := [] } ∧
    (E 0 = true → u11 = .agg #[.bool (sg a.num), .slice aA (nl (mg a.num)) ac, .slice aB (nl a.den) ad]) ∧
    (E 1 = true → PI u12 lo w') ∧
    (E 2 = true → u13 = .agg #[.bool (sg a.num), .slice aA (nl (mg a.num)) ac, .slice aB (nl a.den) ad]) ∧
    (E 3 = true → PI u14 up w') ∧
    (E 4 = true → PB2 24 W0.heap.size u5 w') ∧
    (E 5 = true → PB2 24 W0.heap.size u6 w') ∧
    (E 6 = true → PBI W0.heap.size u5 lo w') ∧
    (E 7 = true → PBI W0.heap.size u6 up w') ∧
    (E 6 = true → E 4 = true) ∧
    (E 7 = true → E 5 = true) ∧
    (E 4 = true → E 5 = true → u5 ≠ u6) ∧
    Below W0.heap.size W0 w') (by kernel_rfl) (by kernel_rfl) ?init ?fin ?step
  case init => exact ⟨_, _, _, _, _, _, rfl, by simp, by simp, by simp, by simp, by simp, by simp, by simp, by simp, by simp, by simp, by simp, (Below.refl _ _).drew⟩
  case step =>
    rintro E a' w' i ⟨u11, u12, u13, u14, u5, u6, rfl, h0, h1, h2, h3, h4, h5, h6, h7, hD6, hD7, hN4_5, hB⟩ hi hEi hdep
    have qa0 := cbl hB qa0
    have qa1 := cbl hB qa1
    have qa2 := cbl hB qa2
    obtain rfl | rfl | rfl | rfl | rfl | rfl | rfl | rfl : i = 0 ∨ i = 1 ∨ i = 2 ∨ i = 3 ∨ i = 4 ∨ i = 5 ∨ i = 6 ∨ i = 7 := by simp at hi; omega
    · skip
      refine wpOp_step rfl (fun K' hK' => ?_)
      go_simp
      refine hK' _ _ ?_
      exact ⟨_, _, _, _, _, _, rfl, fun _ => rfl, keepD (by decide) h1, keepD (by decide) h2, keepD (by decide) h3, keepD (by decide) h4, keepD (by decide) h5, keepD (by decide) h6, keepD (by decide) h7, (fun h => by have := hD6 (by simpa using h); simpa using this), (fun h => by have := hD7 (by simpa using h); simpa using this), (fun h k => hN4_5 (by simpa using h) (by simpa using k)), hB⟩
    · skip
      have d0 := hdep _ rfl ⟨0, .data⟩ (by simp) rfl
      obtain rfl := h0 d0
      refine wpOp_step rfl (fun K' hK' => ?_)
      go_simp
      refine (Calls.mono (C1.out w' (ha.below hB) (ga.below hB)) ?_)
      rintro e W1 ⟨Xr, cr, rfl, kr, kb⟩
      refine hK' _ _ ?_
      exact ⟨_, _, _, _, _, _, rfl, keepD (by decide) h0, fun _ => ⟨Xr, cr, rfl, kr⟩, keepD (by decide) h2, keepP (by decide) h3 (fun h => h.below kb), keepP (by decide) h4 (fun h => h.below kb), keepP (by decide) h5 (fun h => h.below kb), keepP (by decide) h6 (fun h => h.below kb), keepP (by decide) h7 (fun h => h.below kb), (fun h => by have := hD6 (by simpa using h); simpa using this), (fun h => by have := hD7 (by simpa using h); simpa using this), (fun h k => hN4_5 (by simpa using h) (by simpa using k)), Below.cons hB kb⟩
    · skip
      refine wpOp_step rfl (fun K' hK' => ?_)
      go_simp
      refine hK' _ _ ?_
      exact ⟨_, _, _, _, _, _, rfl, keepD (by decide) h0, keepD (by decide) h1, fun _ => rfl, keepD (by decide) h3, keepD (by decide) h4, keepD (by decide) h5, keepD (by decide) h6, keepD (by decide) h7, (fun h => by have := hD6 (by simpa using h); simpa using this), (fun h => by have := hD7 (by simpa using h); simpa using this), (fun h k => hN4_5 (by simpa using h) (by simpa using k)), hB⟩
    · skip
      have d2 := hdep _ rfl ⟨2, .data⟩ (by simp) rfl
      obtain rfl := h2 d2
      refine wpOp_step rfl (fun K' hK' => ?_)
      go_simp
      refine (Calls.mono (C2.out w' (ha.below hB) (ga.below hB)) ?_)
      rintro e W1 ⟨Xr, cr, rfl, kr, kb⟩
      refine hK' _ _ ?_
      exact ⟨_, _, _, _, _, _, rfl, keepD (by decide) h0, keepP (by decide) h1 (fun h => h.below kb), keepD (by decide) h2, fun _ => ⟨Xr, cr, rfl, kr⟩, keepP (by decide) h4 (fun h => h.below kb), keepP (by decide) h5 (fun h => h.below kb), keepP (by decide) h6 (fun h => h.below kb), keepP (by decide) h7 (fun h => h.below kb), (fun h => by have := hD6 (by simpa using h); simpa using this), (fun h => by have := hD7 (by simpa using h); simpa using this), (fun h k => hN4_5 (by simpa using h) (by simpa using k)), Below.cons hB kb⟩
    · skip
      have kb : Below w'.heap.size w' (w'.alloc (.cells #[.bool false, .slice none 0 0] 24)) := (Below.refl _ _).alloc (Nat.le_refl _) _
      refine wpOp_step rfl (fun K' hK' => ?_)
      go_simp
      refine hK' _ _ ?_
      exact ⟨_, _, _, _, _, _, rfl, keepD (by decide) h0, keepP (by decide) h1 (fun h => h.below kb), keepD (by decide) h2, keepP (by decide) h3 (fun h => h.below kb), fun _ => ⟨_, _, _, rfl, hB.size, ⟨at_new rfl⟩, notU_bool _, notU_slice _ _ _⟩, keepP (by decide) h5 (fun h => h.below kb), (fun h => by have h2 := hD6 (by simpa using h); rw [hEi] at h2; cases h2), keepP (by decide) h7 (fun h => h.below kb), (fun _ => by simp), (fun h => by have := hD7 (by simpa using h); simpa using this), (fun _ h => by obtain ⟨n2, e2, l2⟩ := (h5 (by simpa using h)).lt; rw [e2]; intro e3; simp at e3 <;> omega), Below.cons hB kb⟩
    · skip
      have kb : Below w'.heap.size w' (w'.alloc (.cells #[.bool false, .slice none 0 0] 24)) := (Below.refl _ _).alloc (Nat.le_refl _) _
      refine wpOp_step rfl (fun K' hK' => ?_)
      go_simp
      refine hK' _ _ ?_
      exact ⟨_, _, _, _, _, _, rfl, keepD (by decide) h0, keepP (by decide) h1 (fun h => h.below kb), keepD (by decide) h2, keepP (by decide) h3 (fun h => h.below kb), keepP (by decide) h4 (fun h => h.below kb), fun _ => ⟨_, _, _, rfl, hB.size, ⟨at_new rfl⟩, notU_bool _, notU_slice _ _ _⟩, keepP (by decide) h6 (fun h => h.below kb), (fun h => by have h2 := hD7 (by simpa using h); rw [hEi] at h2; cases h2), (fun h => by have := hD6 (by simpa using h); simpa using this), (fun _ => by simp), (fun h _ => by obtain ⟨n2, e2, l2⟩ := (h4 (by simpa using h)).lt; rw [e2]; intro e3; simp at e3 <;> omega), Below.cons hB kb⟩
    · skip
      have d4 := hdep _ rfl ⟨4, .data⟩ (by simp) rfl
      obtain ⟨nb, z0, z1, rfl, hn, hb, nz0, nz1⟩ := h4 d4
      have d1 := hdep _ rfl ⟨1, .data⟩ (by simp) rfl
      obtain ⟨X_1, c_1, rfl, k_1⟩ := h1 d1
      have fz0 := hb.f (i := 0)
      have cz0 := hb.c (i := 0) rfl
      have fz1 := hb.f (i := 1)
      have cz1 := hb.c (i := 1) rfl
      have hp := hb.put2 (notU2 nz0 nz1) (.bool (sg lo)) (.slice X_1 (nl (mg lo)) c_1)
      have hs := hb.store2 (.bool (sg lo)) (.slice X_1 (nl (mg lo)) c_1)
      refine wpOp_step rfl (fun K' hK' => ?_)
      go_simp
      refine hK' _ _ ?_
      exact ⟨_, _, _, _, _, _, rfl, keepD (by decide) h0, keepP (by decide) h1 (fun h => h.put hp), keepD (by decide) h2, keepP (by decide) h3 (fun h => h.put hp), (fun _ => ⟨nb, _, _, rfl, hn, hs, notU_bool _, notU_slice _ _ _⟩), keepP' (by decide) h5 (fun e h => h.put hp (fun e3 => hN4_5 d4 (by simpa using e) e3.symm)), fun _ => ⟨nb, X_1, c_1, rfl, hn, hs, hp.nat k_1⟩, keepP' (by decide) h7 (fun e h => h.put hp (fun e3 => hN4_5 d4 (hD7 (by simpa using e)) e3.symm)), (fun _ => by simp [d4]), (fun h => by have := hD7 (by simpa using h); simpa using this), (fun h k => hN4_5 (by simpa using h) (by simpa using k)), Below.store2 hB hn⟩
    · skip
      have d5 := hdep _ rfl ⟨5, .data⟩ (by simp) rfl
      obtain ⟨nb, z0, z1, rfl, hn, hb, nz0, nz1⟩ := h5 d5
      have d3 := hdep _ rfl ⟨3, .data⟩ (by simp) rfl
      obtain ⟨X_3, c_3, rfl, k_3⟩ := h3 d3
      have fz0 := hb.f (i := 0)
      have cz0 := hb.c (i := 0) rfl
      have fz1 := hb.f (i := 1)
      have cz1 := hb.c (i := 1) rfl
      have hp := hb.put2 (notU2 nz0 nz1) (.bool (sg up)) (.slice X_3 (nl (mg up)) c_3)
      have hs := hb.store2 (.bool (sg up)) (.slice X_3 (nl (mg up)) c_3)
      refine wpOp_step rfl (fun K' hK' => ?_)
      go_simp
      refine hK' _ _ ?_
      exact ⟨_, _, _, _, _, _, rfl, keepD (by decide) h0, keepP (by decide) h1 (fun h => h.put hp), keepD (by decide) h2, keepP (by decide) h3 (fun h => h.put hp), keepP' (by decide) h4 (fun e h => h.put hp (hN4_5 (by simpa using e) d5)), (fun _ => ⟨nb, _, _, rfl, hn, hs, notU_bool _, notU_slice _ _ _⟩), keepP' (by decide) h6 (fun e h => h.put hp (hN4_5 (hD6 (by simpa using e)) d5)), fun _ => ⟨nb, X_3, c_3, rfl, hn, hs, hp.nat k_3⟩, (fun h => by have := hD6 (by simpa using h); simpa using this), (fun _ => by simp [d5]), (fun h k => hN4_5 (by simpa using h) (by simpa using k)), Below.store2 hB hn⟩
  case fin =>
    rintro E a' w' ⟨u11, u12, u13, u14, u5, u6, rfl, h0, h1, h2, h3, h4, h5, h6, h7, hD6, hD7, hN4_5, hB⟩ hall
    obtain ⟨nblo, Xlo, clo, rfl, hnlo, Rlo, hlo⟩ := h6 (hall 6 (by simp))
    obtain ⟨nbup, Xup, cup, rfl, hnup, Rup, hup⟩ := h7 (hall 7 (by simp))
    replace ha := ha.below hB
    replace ga := ga.below hB
    replace Ra := Ra.below hB
    replace qa0 := cbl hB qa0
    replace qa1 := cbl hB qa1
    replace qa2 := cbl hB qa2
    replace Rr := Rr.below hB
    replace qr0 := cbl hB qr0
    replace qr1 := cbl hB qr1
    replace HBT := Below.cons HBT hB
    have kvlo := hnlo
    have qlo0 := Rlo.c (i := 0) rfl
    have qlo1 := Rlo.c (i := 1) rfl
    have kvup := hnup
    have qup0 := Rup.c (i := 0) rfl
    have qup1 := Rup.c (i := 1) rfl
    have hz : w.heap.size + 2 = W0.heap.size := by rw [← hW0.out]; simp
    go_wp2_with (fail)
    refine (Calls.mono (CG.out _ ha ga) ?_)
    rintro e W2 ⟨rfl, hb2⟩
    replace ha := ha.below hb2
    replace ga := ga.below hb2
    replace Ra := Ra.below hb2
    replace qa0 := cbl hb2 qa0
    replace qa1 := cbl hb2 qa1
    replace qa2 := cbl hb2 qa2
    replace Rr := Rr.below hb2
    replace qr0 := cbl hb2 qr0
    replace qr1 := cbl hb2 qr1
    replace hlo := hlo.below hb2
    replace Rlo := Rlo.below hb2
    replace qlo0 := cbl hb2 qlo0
    replace qlo1 := cbl hb2 qlo1
    replace hup := hup.below hb2
    replace Rup := Rup.below hb2
    replace qup0 := cbl hb2 qup0
    replace qup1 := cbl hb2 qup1
    replace HBT := Below.cons HBT hb2
    clear hb2
    obtain ⟨hs3, HS⟩ := HS.out
    rcases HS with ⟨hy, rfl | ⟨rfl, h1⟩ | ⟨rfl, h1⟩⟩ | ⟨hy, rfl | ⟨rfl, h1⟩ | ⟨rfl, h1⟩⟩
    · skip
      replace hy := Lib.hid hy
      obtain ⟨tb, Etb⟩ : ∃ z, z = decide (sn < 0) := ⟨_, rfl⟩
      have t1 : decide (sn < 0) = tb := Etb.symm
      replace Etb := Lib.hid Etb
      clear hs3
      have fzr0 := Rr.f (i := 0)
      have fzr1 := Rr.f (i := 1)
      go_wp2_with (fail)
      have hzy : lo = y := by rw [hy.out, Elo.out]
      subst hzy
      have RS := Rr.store2 (.bool (sg lo)) (.slice Xlo (nl (mg lo)) clo)
      have e0 := RS.c (i := 0) rfl
      have e1 := RS.c (i := 1) rfl
      refine bodyPost_ret (v := .agg #[.bool (sg lo), .slice Xlo (nl (mg lo)) clo]) (by simp [results, Tryz.results66, go_sem, e0, e1]) rfl ?_
      exact ⟨Xlo, clo, rfl, (Rr.keep2 (nuB rfl) hlo), (Below.store2 HBT (by first | exact Nat.le_refl _ | omega))⟩
    · skip
      replace hy := Lib.hid hy
      have t1 : decide (sn < 0) = false := decide_eq_false (by omega)
      clear h1 hs3
      have fzr0 := Rr.f (i := 0)
      have fzr1 := Rr.f (i := 1)
      go_wp2_with (fail)
      have hzy : lo = y := by rw [hy.out, Elo.out]
      subst hzy
      have RS := Rr.store2 (.bool (sg lo)) (.slice Xlo (nl (mg lo)) clo)
      have e0 := RS.c (i := 0) rfl
      have e1 := RS.c (i := 1) rfl
      refine bodyPost_ret (v := .agg #[.bool (sg lo), .slice Xlo (nl (mg lo)) clo]) (by simp [results, Tryz.results66, go_sem, e0, e1]) rfl ?_
      exact ⟨Xlo, clo, rfl, (Rr.keep2 (nuB rfl) hlo), (Below.store2 HBT (by first | exact Nat.le_refl _ | omega))⟩
    · skip
      replace hy := Lib.hid hy
      have t1 : decide (sn < 0) = true := decide_eq_true (by omega)
      clear h1 hs3
      have fzr0 := Rr.f (i := 0)
      have fzr1 := Rr.f (i := 1)
      go_wp2_with (fail)
      have hzy : lo = y := by rw [hy.out, Elo.out]
      subst hzy
      have RS := Rr.store2 (.bool (sg lo)) (.slice Xlo (nl (mg lo)) clo)
      have e0 := RS.c (i := 0) rfl
      have e1 := RS.c (i := 1) rfl
      refine bodyPost_ret (v := .agg #[.bool (sg lo), .slice Xlo (nl (mg lo)) clo]) (by simp [results, Tryz.results66, go_sem, e0, e1]) rfl ?_
      exact ⟨Xlo, clo, rfl, (Rr.keep2 (nuB rfl) hlo), (Below.store2 HBT (by first | exact Nat.le_refl _ | omega))⟩
    · skip
      replace hy := Lib.hid hy
      obtain ⟨tb, Etb⟩ : ∃ z, z = decide (sn < 0) := ⟨_, rfl⟩
      have t1 : decide (sn < 0) = tb := Etb.symm
      replace Etb := Lib.hid Etb
      clear hs3
      have fzr0 := Rr.f (i := 0)
      have fzr1 := Rr.f (i := 1)
      go_wp2_with (fail)
      have hzy : up = y := by rw [hy.out, Eup.out]
      subst hzy
      have RS := Rr.store2 (.bool (sg up)) (.slice Xup (nl (mg up)) cup)
      have e0 := RS.c (i := 0) rfl
      have e1 := RS.c (i := 1) rfl
      refine bodyPost_ret (v := .agg #[.bool (sg up), .slice Xup (nl (mg up)) cup]) (by simp [results, Tryz.results66, go_sem, e0, e1]) rfl ?_
      exact ⟨Xup, cup, rfl, (Rr.keep2 (nuB rfl) hup), (Below.store2 HBT (by first | exact Nat.le_refl _ | omega))⟩
    · skip
      replace hy := Lib.hid hy
      have t1 : decide (sn < 0) = true := decide_eq_true (by omega)
      clear h1 hs3
      have fzr0 := Rr.f (i := 0)
      have fzr1 := Rr.f (i := 1)
      go_wp2_with (fail)
      have hzy : up = y := by rw [hy.out, Eup.out]
      subst hzy
      have RS := Rr.store2 (.bool (sg up)) (.slice Xup (nl (mg up)) cup)
      have e0 := RS.c (i := 0) rfl
      have e1 := RS.c (i := 1) rfl
      refine bodyPost_ret (v := .agg #[.bool (sg up), .slice Xup (nl (mg up)) cup]) (by simp [results, Tryz.results66, go_sem, e0, e1]) rfl ?_
      exact ⟨Xup, cup, rfl, (Rr.keep2 (nuB rfl) hup), (Below.store2 HBT (by first | exact Nat.le_refl _ | omega))⟩
    · skip
      replace hy := Lib.hid hy
      have t1 : decide (sn < 0) = false := decide_eq_false (by omega)
      clear h1 hs3
      have fzr0 := Rr.f (i := 0)
      have fzr1 := Rr.f (i := 1)
      go_wp2_with (fail)
      have hzy : up = y := by rw [hy.out, Eup.out]
      subst hzy
      have RS := Rr.store2 (.bool (sg up)) (.slice Xup (nl (mg up)) cup)
      have e0 := RS.c (i := 0) rfl
      have e1 := RS.c (i := 1) rfl
      refine bodyPost_ret (v := .agg #[.bool (sg up), .slice Xup (nl (mg up)) cup]) (by simp [results, Tryz.results66, go_sem, e0, e1]) rfl ?_
      exact ⟨Xup, cup, rfl, (Rr.keep2 (nuB rfl) hup), (Below.store2 HBT (by first | exact Nat.le_refl _ | omega))⟩
theorem twhole_n (aA : Option Addr) (ac : Nat) (aB : Option Addr) (ad : Nat) (a : Rat) (w : World) (ha : NatV w aA ac (mg a.num)) (ga : NatV w aB ad a.den) (la : nl (mg a.num) ≤ 100000) (ma : nl a.den ≤ 100000) :
    Calls Tryz.prog 66 #[.agg #[.bool (sg a.num), .slice aA (nl (mg a.num)) ac, .slice aB (nl a.den) ad], .int .i64 4] w (RetI w (rnd 4 a)) := by
  have Nlo := Nat.le_trans (nl_mono (floor_abs a)) la
  have Nup := Nat.le_trans (nl_mono (ceil_abs a)) la
  have lf : nl (mg a.ceil) ≤ 1048576 := by omega
  have SA := sub_sz2 a (a.floor : Rat) la ma (by rw [Rat.num_intCast]; exact Nlo) (by rw [Rat.den_intCast, nl_one]; omega)
  have SB := sub_sz2 (a.ceil : Rat) a (by rw [Rat.num_intCast]; exact Nup) (by rw [Rat.den_intCast, nl_one]; omega) la ma
  have HC := near_cases a
  obtain ⟨fa, Efa⟩ : ∃ z, z = a - (a.floor : Rat) := ⟨_, rfl⟩
  obtain ⟨fb, Efb⟩ : ∃ z, z = (a.ceil : Rat) - a := ⟨_, rfl⟩
  rw [← Efa] at SA HC
  rw [← Efb] at SB HC
  obtain ⟨rc, Erc⟩ : ∃ z, z = rcmp fa fb := ⟨_, rfl⟩
  obtain ⟨y, Ey⟩ : ∃ z : Int, z = rnd 4 a := ⟨_, rfl⟩
  rw [← Erc, ← Ey] at HC
  rw [← Ey]
  obtain ⟨sn, Esn⟩ : ∃ z, z = a.num.sign := ⟨_, rfl⟩
  have CG := fun (W : World) (h1 : NatV W aA ac (mg a.num)) (h2 : NatV W aB ad a.den) => r9sign_c aA ac aB ad a W h1 h2 (by omega)
  rw [← Esn] at CG
  replace CG := Lib.hid CG
  replace Esn := Lib.hid Esn
  replace HC := Lib.hid HC
  replace Efa := Lib.hid Efa
  replace Efb := Lib.hid Efb
  replace Erc := Lib.hid Erc
  replace Ey := Lib.hid Ey
  obtain ⟨bn, Ebn⟩ : ∃ z, z = decide (sn < 0) := ⟨_, rfl⟩
  have tb : decide (sn < 0) = bn := Ebn.symm
  replace Ebn := Lib.hid Ebn
  obtain ⟨lo, Elo⟩ : ∃ z, z = a.floor := ⟨_, rfl⟩
  obtain ⟨up, Eup⟩ : ∃ z, z = a.ceil := ⟨_, rfl⟩
  have C1 := fun (W : World) (h1 : NatV W aA ac (mg a.num)) (h2 : NatV W aB ad a.den) => r9floor_c aA ac aB ad a W h1 h2 (by omega) (by omega)
  rw [← Elo] at C1
  have C2 := fun (W : World) (h1 : NatV W aA ac (mg a.num)) (h2 : NatV W aB ad a.den) => r9ceil_c aA ac aB ad a W h1 h2 (by omega) (by omega) lf
  rw [← Eup] at C2
  replace C1 := Lib.hid C1
  replace C2 := Lib.hid C2
  replace Elo := Lib.hid Elo
  replace Eup := Lib.hid Eup
  obtain ⟨hb1, Ra, Rr⟩ := bx2 w #[.bool (sg a.num), .slice aA (nl (mg a.num)) ac, .slice aB (nl a.den) ad] 26 #[.bool false, .slice none 0 0] 24
  replace ha := ha.below hb1
  replace ga := ga.below hb1
  have HBT := hb1
  clear hb1
  have qa0 := Ra.c (i := 0) rfl
  have qa1 := Ra.c (i := 1) rfl
  have qa2 := Ra.c (i := 2) rfl
  have qr0 := Rr.c (i := 0) rfl
  have qr1 := Rr.c (i := 1) rfl
  go_enter Tryz.func66, Tryz.ntmps66
  go_wp2_with (fail)
  generalize hW0 : ((w.alloc (.cells #[.bool (sg a.num), .slice aA (nl (mg a.num)) ac, .slice aB (nl a.den) ad] 26)).alloc (.cells #[.bool false, .slice none 0 0] 24)) = W0 at *
  replace hW0 := Lib.hid hW0
  refine wp_region_inv (fun E a' w' => ∃ (u11 u12 u13 u14 u5 u6 : Value),
    a' = { tmps := #[.agg #[.bool (sg a.num), .slice aA (nl (mg a.num)) ac, .slice aB (nl a.den) ad], .int .i64 4, .pointer (some ⟨w.heap.size, 0, none⟩), undef, .pointer (some ⟨(w.heap.size + 1), 0, none⟩), u5, u6, undef, undef, undef, undef, u11, u12, u13, u14, undef, undef, undef, undef, undef, undef, undef, undef, undef, undef, undef, undef, undef, undef, undef, undef, undef, undef, undef, undef, undef, undef, undef, undef, undef, undef, undef, undef, undef, undef, undef, undef, undef, undef, undef, undef, undef, undef, undef, undef, undef, undef, undef, undef, undef, undef, undef, undef, undef], defers := [] } ∧
    (E 0 = true → u11 = .agg #[.bool (sg a.num), .slice aA (nl (mg a.num)) ac, .slice aB (nl a.den) ad]) ∧
    (E 1 = true → PI u12 lo w') ∧
    (E 2 = true → u13 = .agg #[.bool (sg a.num), .slice aA (nl (mg a.num)) ac, .slice aB (nl a.den) ad]) ∧
    (E 3 = true → PI u14 up w') ∧
    (E 4 = true → PB2 24 W0.heap.size u5 w') ∧
    (E 5 = true → PB2 24 W0.heap.size u6 w') ∧
    (E 6 = true → PBI W0.heap.size u5 lo w') ∧
    (E 7 = true → PBI W0.heap.size u6 up w') ∧
    (E 6 = true → E 4 = true) ∧
    (E 7 = true → E 5 = true) ∧
    (E 4 = true → E 5 = true → u5 ≠ u6) ∧
    Below W0.heap.size W0 w') (by kernel_rfl) (by kernel_rfl) ?init ?fin ?step
  case init => exact ⟨_, _, _, _, _, _, rfl, by simp, by simp, by simp, by simp, by simp, by simp, by simp, by simp, by simp, by simp, by simp, (Below.refl _ _).drew⟩
  case step =>
    rintro E a' w' i ⟨u11, u12, u13, u14, u5, u6, rfl, h0, h1, h2, h3, h4, h5, h6, h7, hD6, hD7, hN4_5, hB⟩ hi hEi hdep
    have qa0 := cbl hB qa0
    have qa1 := cbl hB qa1
    have qa2 := cbl hB qa2
    obtain rfl | rfl | rfl | rfl | rfl | rfl | rfl | rfl : i = 0 ∨ i = 1 ∨ i = 2 ∨ i = 3 ∨ i = 4 ∨ i = 5 ∨ i = 6 ∨ i = 7 := by simp at hi; omega
    · skip
      refine wpOp_step rfl (fun K' hK' => ?_)
      go_simp
      refine hK' _ _ ?_
      exact ⟨_, _, _, _, _, _, rfl, fun _ => rfl, keepD (by decide) h1, keepD (by decide) h2, keepD (by decide) h3, keepD (by decide) h4, keepD (by decide) h5, keepD (by decide) h6, keepD (by decide) h7, (fun h => by have := hD6 (by simpa using h); simpa using this), (fun h => by have := hD7 (by simpa using h); simpa using this), (fun h k => hN4_5 (by simpa using h) (by simpa using k)), hB⟩
    · skip
      have d0 := hdep _ rfl ⟨0, .data⟩ (by simp) rfl
      obtain rfl := h0 d0
      refine wpOp_step rfl (fun K' hK' => ?_)
      go_simp
      refine (Calls.mono (C1.out w' (ha.below hB) (ga.below hB)) ?_)
      rintro e W1 ⟨Xr, cr, rfl, kr, kb⟩
      refine hK' _ _ ?_
      exact ⟨_, _, _, _, _, _, rfl, keepD (by decide) h0, fun _ => ⟨Xr, cr, rfl, kr⟩, keepD (by decide) h2, keepP (by decide) h3 (fun h => h.below kb), keepP (by decide) h4 (fun h => h.below kb), keepP (by decide) h5 (fun h => h.below kb), keepP (by decide) h6 (fun h => h.below kb), keepP (by decide) h7 (fun h => h.below kb), (fun h => by have := hD6 (by simpa using h); simpa using this), (fun h => by have := hD7 (by simpa using h); simpa using this), (fun h k => hN4_5 (by simpa using h) (by simpa using k)), Below.cons hB kb⟩
    · skip
      refine wpOp_step rfl (fun K' hK' => ?_)
      go_simp
      refine hK' _ _ ?_
      exact ⟨_, _, _, _, _, _, rfl, keepD (by decide) h0, keepD (by decide) h1, fun _ => rfl, keepD (by decide) h3, keepD (by decide) h4, keepD (by decide) h5, keepD (by decide) h6, keepD (by decide) h7, (fun h => by have := hD6 (by simpa using h); simpa using this), (fun h => by have := hD7 (by simpa using h); simpa using this), (fun h k => hN4_5 (by simpa using h) (by simpa using k)), hB⟩
    · skip
      have d2 := hdep _ rfl ⟨2, .data⟩ (by simp) rfl
      obtain rfl := h2 d2
      refine wpOp_step rfl (fun K' hK' => ?_)
      go_simp
      refine (Calls.mono (C2.out w' (ha.below hB) (ga.below hB)) ?_)
      rintro e W1 ⟨Xr, cr, rfl, kr, kb⟩
      refine hK' _ _ ?_
      exact ⟨_, _, _, _, _, _, rfl, keepD (by decide) h0, keepP (by decide) h1 (fun h => h.below kb), keepD (by decide) h2, fun _ => ⟨Xr, cr, rfl, kr⟩, keepP (by decide) h4 (fun h => h.below kb), keepP (by decide) h5 (fun h => h.below kb), keepP (by decide) h6 (fun h => h.below kb), keepP (by decide) h7 (fun h => h.below kb), (fun h => by have := hD6 (by simpa using h); simpa using this), (fun h => by have := hD7 (by simpa using h); simpa using this), (fun h k => hN4_5 (by simpa using h) (by simpa using k)), Below.cons hB kb⟩
    · skip
      have kb : Below w'.heap.size w' (w'.alloc (.cells #[.bool false, .slice none 0 0] 24)) := (Below.refl _ _).alloc (Nat.le_refl _) _
      refine wpOp_step rfl (fun K' hK' => ?_)
      go_simp
      refine hK' _ _ ?_
      exact ⟨_, _, _, _, _, _, rfl, keepD (by decide) h0, keepP (by decide) h1 (fun h => h.below kb), keepD (by decide) h2, keepP (by decide) h3 (fun h => h.below kb), fun _ => ⟨_, _, _, rfl, hB.size, ⟨at_new rfl⟩, notU_bool _, notU_slice _ _ _⟩, keepP (by decide) h5 (fun h => h.below kb), (fun h => by have h2 := hD6 (by simpa using h); rw [hEi] at h2; cases h2), keepP (by decide) h7 (fun h => h.below kb), (fun _ => by simp), (fun h => by have := hD7 (by simpa using h); simpa using this), (fun _ h => by obtain ⟨n2, e2, l2⟩ := (h5 (by simpa using h)).lt; rw [e2]; intro e3; simp at e3 <;> omega), Below.cons hB kb⟩
    · skip
      have kb : Below w'.heap.size w' (w'.alloc (.cells #[.bool false, .slice none 0 0] 24)) := (Below.refl _ _).alloc (Nat.le_refl _) _
      refine wpOp_step rfl (fun K' hK' => ?_)
      go_simp
      refine hK' _ _ ?_
      exact ⟨_, _, _, _, _, _, rfl, keepD (by decide) h0, keepP (by decide) h1 (fun h => h.below kb), keepD (by decide) h2, keepP (by decide) h3 (fun h => h.below kb), keepP (by decide) h4 (fun h => h.below kb), fun _ => ⟨_, _, _, rfl, hB.size, ⟨at_new rfl⟩, notU_bool _, notU_slice _ _ _⟩, keepP (by decide) h6 (fun h => h.below kb), (fun h => by have h2 := hD7 (by simpa using h); rw [hEi] at h2; cases h2), (fun h => by have := hD6 (by simpa using h); simpa using this), (fun _ => by simp), (fun h _ => by obtain ⟨n2, e2, l2⟩ := (h4 (by simpa using h)).lt; rw [e2]; intro e3; simp at e3 <;> omega), Below.cons hB kb⟩
    · skip
      have d4 := hdep _ rfl ⟨4, .data⟩ (by simp) rfl
      obtain ⟨nb, z0, z1, rfl, hn, hb, nz0, nz1⟩ := h4 d4
      have d1 := hdep _ rfl ⟨1, .data⟩ (by simp) rfl
      obtain ⟨X_1, c_1, rfl, k_1⟩ := h1 d1
      have fz0 := hb.f (i := 0)
      have cz0 := hb.c (i := 0) rfl
      have fz1 := hb.f (i := 1)
      have cz1 := hb.c (i := 1) rfl
      have hp := hb.put2 (notU2 nz0 nz1) (.bool (sg lo)) (.slice X_1 (nl (mg lo)) c_1)
      have hs := hb.store2 (.bool (sg lo)) (.slice X_1 (nl (mg lo)) c_1)
      refine wpOp_step rfl (fun K' hK' => ?_)
      go_simp
      refine hK' _ _ ?_
      exact ⟨_, _, _, _, _, _, rfl, keepD (by decide) h0, keepP (by decide) h1 (fun h => h.put hp), keepD (by decide) h2, keepP (by decide) h3 (fun h => h.put hp), (fun _ => ⟨nb, _, _, rfl, hn, hs, notU_bool _, notU_slice _ _ _⟩), keepP' (by decide) h5 (fun e h => h.put hp (fun e3 => hN4_5 d4 (by simpa using e) e3.symm)), fun _ => ⟨nb, X_1, c_1, rfl, hn, hs, hp.nat k_1⟩, keepP' (by decide) h7 (fun e h => h.put hp (fun e3 => hN4_5 d4 (hD7 (by simpa using e)) e3.symm)), (fun _ => by simp [d4]), (fun h => by have := hD7 (by simpa using h); simpa using this), (fun h k => hN4_5 (by simpa using h) (by simpa using k)), Below.store2 hB hn⟩
    · skip
      have d5 := hdep _ rfl ⟨5, .data⟩ (by simp) rfl
      obtain ⟨nb, z0, z1, rfl, hn, hb, nz0, nz1⟩ := h5 d5
      have d3 := hdep _ rfl ⟨3, .data⟩ (by simp) rfl
      obtain ⟨X_3, c_3, rfl, k_3⟩ := h3 d3
      have fz0 := hb.f (i := 0)
      have cz0 := hb.c (i := 0) rfl
      have fz1 := hb.f (i := 1)
      have cz1 := hb.c (i := 1) rfl
      have hp := hb.put2 (notU2 nz0 nz1) (.bool (sg up)) (.slice X_3 (nl (mg up)) c_3)
      have hs := hb.store2 (.bool (sg up)) (.slice X_3 (nl (mg up)) c_3)
      refine wpOp_step rfl (fun K' hK' => ?_)
      go_simp
      refine hK' _ _ ?_
      exact ⟨_, _, _, _, _, _, rfl, keepD (by decide) h0, keepP (by decide) h1 (fun h => h.put hp), keepD (by decide) h2, keepP (by decide) h3 (fun h => h.put hp), keepP' (by decide) h4 (fun e h => h.put hp (hN4_5 (by simpa using e) d5)), (fun _ => ⟨nb, _, _, rfl, hn, hs, notU_bool _, notU_slice _ _ _⟩), keepP' (by decide) h6 (fun e h => h.put hp (hN4_5 (hD6 (by simpa using e)) d5)), fun _ => ⟨nb, X_3, c_3, rfl, hn, hs, hp.nat k_3⟩, (fun h => by have := hD6 (by simpa using h); simpa using this), (fun _ => by simp [d5]), (fun h k => hN4_5 (by simpa using h) (by simpa using k)), Below.store2 hB hn⟩
  case fin =>
    rintro E a' w' ⟨u11, u12, u13, u14, u5, u6, rfl, h0, h1, h2, h3, h4, h5, h6, h7, hD6, hD7, hN4_5, hB⟩ hall
    obtain ⟨nblo, Xlo, clo, rfl, hnlo, Rlo, hlo⟩ := h6 (hall 6 (by simp))
    obtain ⟨nbup, Xup, cup, rfl, hnup, Rup, hup⟩ := h7 (hall 7 (by simp))
    replace ha := ha.below hB
    replace ga := ga.below hB
    replace Ra := Ra.below hB
    replace qa0 := cbl hB qa0
    replace qa1 := cbl hB qa1
    replace qa2 := cbl hB qa2
    replace Rr := Rr.below hB
    replace qr0 := cbl hB qr0
    replace qr1 := cbl hB qr1
    replace HBT := Below.cons HBT hB
    have kvlo := hnlo
    have qlo0 := Rlo.c (i := 0) rfl
    have qlo1 := Rlo.c (i := 1) rfl
    have kvup := hnup
    have qup0 := Rup.c (i := 0) rfl
    have qup1 := Rup.c (i := 1) rfl
    have hz : w.heap.size + 2 = W0.heap.size := by rw [← hW0.out]; simp
    have Hlo : lo = a.floor := Elo.out
    have Hup : up = a.ceil := Eup.out
    rw [← Hlo] at Nlo
    rw [← Hup] at Nup
    replace Hlo := Lib.hid Hlo
    replace Hup := Lib.hid Hup
    go_wp2_with (fail)
    refine (Calls.mono (CG.out _ ha ga) ?_)
    rintro e W2 ⟨rfl, hb2⟩
    replace ha := ha.below hb2
    replace ga := ga.below hb2
    replace Ra := Ra.below hb2
    replace qa0 := cbl hb2 qa0
    replace qa1 := cbl hb2 qa1
    replace qa2 := cbl hb2 qa2
    replace Rr := Rr.below hb2
    replace qr0 := cbl hb2 qr0
    replace qr1 := cbl hb2 qr1
    replace hlo := hlo.below hb2
    replace Rlo := Rlo.below hb2
    replace qlo0 := cbl hb2 qlo0
    replace qlo1 := cbl hb2 qlo1
    replace hup := hup.below hb2
    replace Rup := Rup.below hb2
    replace qup0 := cbl hb2 qup0
    replace qup1 := cbl hb2 qup1
    replace HBT := Below.cons HBT hb2
    clear hb2
    go_wp2_with (fail)
    obtain ⟨xl, Exl⟩ : ∃ z : Rat, z = (lo : Rat) := ⟨_, rfl⟩
    obtain ⟨xu, Exu⟩ : ∃ z : Rat, z = (up : Rat) := ⟨_, rfl⟩
    have Nxl : nl (mg xl.num) ≤ 100000 ∧ nl xl.den ≤ 1 := by rw [Exl, Rat.num_intCast, Rat.den_intCast, nl_one]; exact ⟨Nlo, Nat.le_refl _⟩
    have Nxu : nl (mg xu.num) ≤ 100000 ∧ nl xu.den ≤ 1 := by rw [Exu, Rat.num_intCast, Rat.den_intCast, nl_one]; exact ⟨Nup, Nat.le_refl _⟩
    have C3 := fun (W : World) (A : Option Addr) (c : Nat) (h : NatV W A c (mg lo)) => r9whole_c A c lo W h
    rw [← Exl] at C3
    have C4 := fun (W : World) (A : Option Addr) (c : Nat) (h : NatV W A c (mg up)) => r9whole_c A c up W h
    rw [← Exu] at C4
    have C5 := fun (W : World) (A : Option Addr) (c : Nat) (B : Option Addr) (d : Nat) (h1 : NatV W aA ac (mg a.num)) (h2 : NatV W aB ad a.den) (h3 : NatV W A c (mg xl.num)) (h4 : NatV W B d xl.den) => (show Calls Tryz.prog 32 #[.agg #[.bool (sg a.num), .slice aA (nl (mg a.num)) ac, .slice aB (nl a.den) ad], .agg #[.bool (sg xl.num), .slice A (nl (mg xl.num)) c, .slice B (nl xl.den) d]] W (RetR W fa) by rw [Efa.out, ← Hlo.out, ← Exl]; exact r9sub_c aA ac aB ad a A c B d xl W h1 h2 h3 h4 (by omega) (by omega) (by omega) (by omega))
    have C6 := fun (W : World) (A : Option Addr) (c : Nat) (B : Option Addr) (d : Nat) (h1 : NatV W aA ac (mg a.num)) (h2 : NatV W aB ad a.den) (h3 : NatV W A c (mg xu.num)) (h4 : NatV W B d xu.den) => (show Calls Tryz.prog 32 #[.agg #[.bool (sg xu.num), .slice A (nl (mg xu.num)) c, .slice B (nl xu.den) d], .agg #[.bool (sg a.num), .slice aA (nl (mg a.num)) ac, .slice aB (nl a.den) ad]] W (RetR W fb) by rw [Efb.out, ← Hup.out, ← Exu]; exact r9sub_c A c B d xu aA ac aB ad a W h3 h4 h1 h2 (by omega) (by omega) (by omega) (by omega))
    replace C3 := Lib.hid C3
    replace C4 := Lib.hid C4
    replace C5 := Lib.hid C5
    replace C6 := Lib.hid C6
    replace Exl := Lib.hid Exl
    replace Exu := Lib.hid Exu
    refine wp_region_inv (fun E a' w' => ∃ (u39 u40 u41 u42 u43 u44 u45 u46 u8 u9 : Value),
      a' = { tmps := #[.agg #[.bool (sg a.num), .slice aA (nl (mg a.num)) ac, .slice aB (nl a.den) ad], .int .i64 4, .pointer (some ⟨w.heap.size, 0, none⟩), undef, .pointer (some ⟨(w.heap.size + 1), 0, none⟩), .pointer (some ⟨nblo, 0, none⟩), .pointer (some ⟨nbup, 0, none⟩), .bool bn, u8, u9, undef, .agg #[.bool (sg a.num), .slice aA (nl (mg a.num)) ac, .slice aB (nl a.den) ad], u12, .agg #[.bool (sg a.num), .slice aA (nl (mg a.num)) ac, .slice aB (nl a.den) ad], u14, .agg #[.bool (sg a.num), .slice aA (nl (mg a.num)) ac, .slice aB (nl a.den) ad], .int .i64 sn, .bool bn, .int .i64 4, .bool false, .bool false, .int .i64 4, .bool false, .bool false, undef, undef, .bool false, .bool false, .bool false, .int .i64 4, .bool false, .bool false, undef, .bool false, .bool false, undef, .int .i64 4, .bool false, undef, u39, u40, u41, u42, u43, u44, u45, u46, undef, undef, undef, undef, undef, undef, undef, undef, undef, undef, undef, undef, undef, undef, undef, undef, undef], defers := [] } ∧
      (E 0 = true → u39 = .agg #[.bool (sg a.num), .slice aA (nl (mg a.num)) ac, .slice aB (nl a.den) ad]) ∧
      (E 1 = true → u40 = .agg #[.bool (sg lo), .slice Xlo (nl (mg lo)) clo]) ∧
      (E 2 = true → PR u41 xl w') ∧
      (E 3 = true → PR u42 fa w') ∧
      (E 4 = true → u43 = .agg #[.bool (sg up), .slice Xup (nl (mg up)) cup]) ∧
      (E 5 = true → PR u44 xu w') ∧
      (E 6 = true → u45 = .agg #[.bool (sg a.num), .slice aA (nl (mg a.num)) ac, .slice aB (nl a.den) ad]) ∧
      (E 7 = true → PR u46 fb w') ∧
      (E 8 = true → PB3 26 W2.heap.size u8 w') ∧
      (E 9 = true → PB3 26 W2.heap.size u9 w') ∧
      (E 10 = true → PBR W2.heap.size u8 fa w') ∧
      (E 11 = true → PBR W2.heap.size u9 fb w') ∧
      (E 10 = true → E 8 = true) ∧
      (E 11 = true → E 9 = true) ∧
      (E 8 = true → E 9 = true → u8 ≠ u9) ∧
      Below W2.heap.size W2 w') (by kernel_rfl) (by kernel_rfl) ?init ?fin ?step
    case init => exact ⟨_, _, _, _, _, _, _, _, _, _, rfl, by simp, by simp, by simp, by simp, by simp, by simp, by simp, by simp, by simp, by simp, by simp, by simp, by simp, by simp, by simp, (Below.refl _ _).drew⟩
    case step =>
      rintro E a' w' i ⟨u39, u40, u41, u42, u43, u44, u45, u46, u8, u9, rfl, h0, h1, h2, h3, h4, h5, h6, h7, h8, h9, h10, h11, hD10, hD11, hN8_9, hB⟩ hi hEi hdep
      have qa0 := cbl hB qa0
      have qa1 := cbl hB qa1
      have qa2 := cbl hB qa2
      have qlo0 := cbl hB qlo0
      have qlo1 := cbl hB qlo1
      have qup0 := cbl hB qup0
      have qup1 := cbl hB qup1
      obtain rfl | rfl | rfl | rfl | rfl | rfl | rfl | rfl | rfl | rfl | rfl | rfl : i = 0 ∨ i = 1 ∨ i = 2 ∨ i = 3 ∨ i = 4 ∨ i = 5 ∨ i = 6 ∨ i = 7 ∨ i = 8 ∨ i = 9 ∨ i = 10 ∨ i = 11 := by simp at hi; omega
      · skip
        refine wpOp_step rfl (fun K' hK' => ?_)
        go_simp
        refine hK' _ _ ?_
        exact ⟨_, _, _, _, _, _, _, _, _, _, rfl, fun _ => rfl, keepD (by decide) h1, keepD (by decide) h2, keepD (by decide) h3, keepD (by decide) h4, keepD (by decide) h5, keepD (by decide) h6, keepD (by decide) h7, keepD (by decide) h8, keepD (by decide) h9, keepD (by decide) h10, keepD (by decide) h11, (fun h => by have := hD10 (by simpa using h); simpa using this), (fun h => by have := hD11 (by simpa using h); simpa using this), (fun h k => hN8_9 (by simpa using h) (by simpa using k)), hB⟩
      · skip
        refine wpOp_step rfl (fun K' hK' => ?_)
        go_simp
        refine hK' _ _ ?_
        exact ⟨_, _, _, _, _, _, _, _, _, _, rfl, keepD (by decide) h0, fun _ => rfl, keepD (by decide) h2, keepD (by decide) h3, keepD (by decide) h4, keepD (by decide) h5, keepD (by decide) h6, keepD (by decide) h7, keepD (by decide) h8, keepD (by decide) h9, keepD (by decide) h10, keepD (by decide) h11, (fun h => by have := hD10 (by simpa using h); simpa using this), (fun h => by have := hD11 (by simpa using h); simpa using this), (fun h k => hN8_9 (by simpa using h) (by simpa using k)), hB⟩
      · skip
        have d1 := hdep _ rfl ⟨1, .data⟩ (by simp) rfl
        obtain rfl := h1 d1
        refine wpOp_step rfl (fun K' hK' => ?_)
        go_simp
        refine (Calls.mono (C3.out w' _ _ (hlo.below hB)) ?_)
        rintro e W1 ⟨Xr, cr, Yr, dr, rfl, kr, lr, kb⟩
        refine hK' _ _ ?_
        exact ⟨_, _, _, _, _, _, _, _, _, _, rfl, keepD (by decide) h0, keepD (by decide) h1, fun _ => ⟨Xr, cr, Yr, dr, rfl, kr, lr⟩, keepP (by decide) h3 (fun h => h.below kb), keepD (by decide) h4, keepP (by decide) h5 (fun h => h.below kb), keepD (by decide) h6, keepP (by decide) h7 (fun h => h.below kb), keepP (by decide) h8 (fun h => h.below kb), keepP (by decide) h9 (fun h => h.below kb), keepP (by decide) h10 (fun h => h.below kb), keepP (by decide) h11 (fun h => h.below kb), (fun h => by have := hD10 (by simpa using h); simpa using this), (fun h => by have := hD11 (by simpa using h); simpa using this), (fun h k => hN8_9 (by simpa using h) (by simpa using k)), Below.cons hB kb⟩
      · skip
        have d0 := hdep _ rfl ⟨0, .data⟩ (by simp) rfl
        obtain rfl := h0 d0
        have d2 := hdep _ rfl ⟨2, .data⟩ (by simp) rfl
        obtain ⟨X_2, c_2, Y_2, d_2, rfl, k_2, l_2⟩ := h2 d2
        refine wpOp_step rfl (fun K' hK' => ?_)
        go_simp
        refine (Calls.mono (C5.out w' X_2 c_2 Y_2 d_2 (ha.below hB) (ga.below hB) k_2 l_2) ?_)
        rintro e W1 ⟨Xr, cr, Yr, dr, rfl, kr, lr, kb⟩
        refine hK' _ _ ?_
        exact ⟨_, _, _, _, _, _, _, _, _, _, rfl, keepD (by decide) h0, keepD (by decide) h1, keepP (by decide) h2 (fun h => h.below kb), fun _ => ⟨Xr, cr, Yr, dr, rfl, kr, lr⟩, keepD (by decide) h4, keepP (by decide) h5 (fun h => h.below kb), keepD (by decide) h6, keepP (by decide) h7 (fun h => h.below kb), keepP (by decide) h8 (fun h => h.below kb), keepP (by decide) h9 (fun h => h.below kb), keepP (by decide) h10 (fun h => h.below kb), keepP (by decide) h11 (fun h => h.below kb), (fun h => by have := hD10 (by simpa using h); simpa using this), (fun h => by have := hD11 (by simpa using h); simpa using this), (fun h k => hN8_9 (by simpa using h) (by simpa using k)), Below.cons hB kb⟩
      · skip
        refine wpOp_step rfl (fun K' hK' => ?_)
        go_simp
        refine hK' _ _ ?_
        exact ⟨_, _, _, _, _, _, _, _, _, _, rfl, keepD (by decide) h0, keepD (by decide) h1, keepD (by decide) h2, keepD (by decide) h3, fun _ => rfl, keepD (by decide) h5, keepD (by decide) h6, keepD (by decide) h7, keepD (by decide) h8, keepD (by decide) h9, keepD (by decide) h10, keepD (by decide) h11, (fun h => by have := hD10 (by simpa using h); simpa using this), (fun h => by have := hD11 (by simpa using h); simpa using this), (fun h k => hN8_9 (by simpa using h) (by simpa using k)), hB⟩
      · skip
        have d4 := hdep _ rfl ⟨4, .data⟩ (by simp) rfl
        obtain rfl := h4 d4
        refine wpOp_step rfl (fun K' hK' => ?_)
        go_simp
        refine (Calls.mono (C4.out w' _ _ (hup.below hB)) ?_)
        rintro e W1 ⟨Xr, cr, Yr, dr, rfl, kr, lr, kb⟩
        refine hK' _ _ ?_
        exact ⟨_, _, _, _, _, _, _, _, _, _, rfl, keepD (by decide) h0, keepD (by decide) h1, keepP (by decide) h2 (fun h => h.below kb), keepP (by decide) h3 (fun h => h.below kb), keepD (by decide) h4, fun _ => ⟨Xr, cr, Yr, dr, rfl, kr, lr⟩, keepD (by decide) h6, keepP (by decide) h7 (fun h => h.below kb), keepP (by decide) h8 (fun h => h.below kb), keepP (by decide) h9 (fun h => h.below kb), keepP (by decide) h10 (fun h => h.below kb), keepP (by decide) h11 (fun h => h.below kb), (fun h => by have := hD10 (by simpa using h); simpa using this), (fun h => by have := hD11 (by simpa using h); simpa using this), (fun h k => hN8_9 (by simpa using h) (by simpa using k)), Below.cons hB kb⟩
      · skip
        refine wpOp_step rfl (fun K' hK' => ?_)
        go_simp
        refine hK' _ _ ?_
        exact ⟨_, _, _, _, _, _, _, _, _, _, rfl, keepD (by decide) h0, keepD (by decide) h1, keepD (by decide) h2, keepD (by decide) h3, keepD (by decide) h4, keepD (by decide) h5, fun _ => rfl, keepD (by decide) h7, keepD (by decide) h8, keepD (by decide) h9, keepD (by decide) h10, keepD (by decide) h11, (fun h => by have := hD10 (by simpa using h); simpa using this), (fun h => by have := hD11 (by simpa using h); simpa using this), (fun h k => hN8_9 (by simpa using h) (by simpa using k)), hB⟩
      · skip
        have d5 := hdep _ rfl ⟨5, .data⟩ (by simp) rfl
        obtain ⟨X_5, c_5, Y_5, d_5, rfl, k_5, l_5⟩ := h5 d5
        have d6 := hdep _ rfl ⟨6, .data⟩ (by simp) rfl
        obtain rfl := h6 d6
        refine wpOp_step rfl (fun K' hK' => ?_)
        go_simp
        refine (Calls.mono (C6.out w' X_5 c_5 Y_5 d_5 (ha.below hB) (ga.below hB) k_5 l_5) ?_)
        rintro e W1 ⟨Xr, cr, Yr, dr, rfl, kr, lr, kb⟩
        refine hK' _ _ ?_
        exact ⟨_, _, _, _, _, _, _, _, _, _, rfl, keepD (by decide) h0, keepD (by decide) h1, keepP (by decide) h2 (fun h => h.below kb), keepP (by decide) h3 (fun h => h.below kb), keepD (by decide) h4, keepP (by decide) h5 (fun h => h.below kb), keepD (by decide) h6, fun _ => ⟨Xr, cr, Yr, dr, rfl, kr, lr⟩, keepP (by decide) h8 (fun h => h.below kb), keepP (by decide) h9 (fun h => h.below kb), keepP (by decide) h10 (fun h => h.below kb), keepP (by decide) h11 (fun h => h.below kb), (fun h => by have := hD10 (by simpa using h); simpa using this), (fun h => by have := hD11 (by simpa using h); simpa using this), (fun h k => hN8_9 (by simpa using h) (by simpa using k)), Below.cons hB kb⟩
      · skip
        have kb : Below w'.heap.size w' (w'.alloc (.cells #[.bool false, .slice none 0 0, .slice none 0 0] 26)) := (Below.refl _ _).alloc (Nat.le_refl _) _
        refine wpOp_step rfl (fun K' hK' => ?_)
        go_simp
        refine hK' _ _ ?_
        exact ⟨_, _, _, _, _, _, _, _, _, _, rfl, keepD (by decide) h0, keepD (by decide) h1, keepP (by decide) h2 (fun h => h.below kb), keepP (by decide) h3 (fun h => h.below kb), keepD (by decide) h4, keepP (by decide) h5 (fun h => h.below kb), keepD (by decide) h6, keepP (by decide) h7 (fun h => h.below kb), fun _ => ⟨_, _, _, _, rfl, hB.size, ⟨at_new rfl⟩, notU_bool _, notU_slice _ _ _, notU_slice _ _ _⟩, keepP (by decide) h9 (fun h => h.below kb), (fun h => by have h2 := hD10 (by simpa using h); rw [hEi] at h2; cases h2), keepP (by decide) h11 (fun h => h.below kb), (fun _ => by simp), (fun h => by have := hD11 (by simpa using h); simpa using this), (fun _ h => by obtain ⟨n2, e2, l2⟩ := (h9 (by simpa using h)).lt; rw [e2]; intro e3; simp at e3 <;> omega), Below.cons hB kb⟩
      · skip
        have kb : Below w'.heap.size w' (w'.alloc (.cells #[.bool false, .slice none 0 0, .slice none 0 0] 26)) := (Below.refl _ _).alloc (Nat.le_refl _) _
        refine wpOp_step rfl (fun K' hK' => ?_)
        go_simp
        refine hK' _ _ ?_
        exact ⟨_, _, _, _, _, _, _, _, _, _, rfl, keepD (by decide) h0, keepD (by decide) h1, keepP (by decide) h2 (fun h => h.below kb), keepP (by decide) h3 (fun h => h.below kb), keepD (by decide) h4, keepP (by decide) h5 (fun h => h.below kb), keepD (by decide) h6, keepP (by decide) h7 (fun h => h.below kb), keepP (by decide) h8 (fun h => h.below kb), fun _ => ⟨_, _, _, _, rfl, hB.size, ⟨at_new rfl⟩, notU_bool _, notU_slice _ _ _, notU_slice _ _ _⟩, keepP (by decide) h10 (fun h => h.below kb), (fun h => by have h2 := hD11 (by simpa using h); rw [hEi] at h2; cases h2), (fun h => by have := hD10 (by simpa using h); simpa using this), (fun _ => by simp), (fun h _ => by obtain ⟨n2, e2, l2⟩ := (h8 (by simpa using h)).lt; rw [e2]; intro e3; simp at e3 <;> omega), Below.cons hB kb⟩
      · skip
        have d8 := hdep _ rfl ⟨8, .data⟩ (by simp) rfl
        obtain ⟨nb, z0, z1, z2, rfl, hn, hb, nz0, nz1, nz2⟩ := h8 d8
        have d3 := hdep _ rfl ⟨3, .data⟩ (by simp) rfl
        obtain ⟨X_3, c_3, Y_3, d_3, rfl, k_3, l_3⟩ := h3 d3
        have fz0 := hb.f (i := 0)
        have cz0 := hb.c (i := 0) rfl
        have fz1 := hb.f (i := 1)
        have cz1 := hb.c (i := 1) rfl
        have fz2 := hb.f (i := 2)
        have cz2 := hb.c (i := 2) rfl
        have hp := hb.put3 (notU3 nz0 nz1 nz2) (.bool (sg fa.num)) (.slice X_3 (nl (mg fa.num)) c_3) (.slice Y_3 (nl fa.den) d_3)
        have hs := hb.store3 (.bool (sg fa.num)) (.slice X_3 (nl (mg fa.num)) c_3) (.slice Y_3 (nl fa.den) d_3)
        refine wpOp_step rfl (fun K' hK' => ?_)
        go_simp
        refine hK' _ _ ?_
        exact ⟨_, _, _, _, _, _, _, _, _, _, rfl, keepD (by decide) h0, keepD (by decide) h1, keepP (by decide) h2 (fun h => h.put hp), keepP (by decide) h3 (fun h => h.put hp), keepD (by decide) h4, keepP (by decide) h5 (fun h => h.put hp), keepD (by decide) h6, keepP (by decide) h7 (fun h => h.put hp), (fun _ => ⟨nb, _, _, _, rfl, hn, hs, notU_bool _, notU_slice _ _ _, notU_slice _ _ _⟩), keepP' (by decide) h9 (fun e h => h.put hp (fun e3 => hN8_9 d8 (by simpa using e) e3.symm)), fun _ => ⟨nb, X_3, c_3, Y_3, d_3, rfl, hn, hs, hp.nat k_3, hp.nat l_3⟩, keepP' (by decide) h11 (fun e h => h.put hp (fun e3 => hN8_9 d8 (hD11 (by simpa using e)) e3.symm)), (fun _ => by simp [d8]), (fun h => by have := hD11 (by simpa using h); simpa using this), (fun h k => hN8_9 (by simpa using h) (by simpa using k)), Below.store3 hB hn⟩
      · skip
        have d9 := hdep _ rfl ⟨9, .data⟩ (by simp) rfl
        obtain ⟨nb, z0, z1, z2, rfl, hn, hb, nz0, nz1, nz2⟩ := h9 d9
        have d7 := hdep _ rfl ⟨7, .data⟩ (by simp) rfl
        obtain ⟨X_7, c_7, Y_7, d_7, rfl, k_7, l_7⟩ := h7 d7
        have fz0 := hb.f (i := 0)
        have cz0 := hb.c (i := 0) rfl
        have fz1 := hb.f (i := 1)
        have cz1 := hb.c (i := 1) rfl
        have fz2 := hb.f (i := 2)
        have cz2 := hb.c (i := 2) rfl
        have hp := hb.put3 (notU3 nz0 nz1 nz2) (.bool (sg fb.num)) (.slice X_7 (nl (mg fb.num)) c_7) (.slice Y_7 (nl fb.den) d_7)
        have hs := hb.store3 (.bool (sg fb.num)) (.slice X_7 (nl (mg fb.num)) c_7) (.slice Y_7 (nl fb.den) d_7)
        refine wpOp_step rfl (fun K' hK' => ?_)
        go_simp
        refine hK' _ _ ?_
        exact ⟨_, _, _, _, _, _, _, _, _, _, rfl, keepD (by decide) h0, keepD (by decide) h1, keepP (by decide) h2 (fun h => h.put hp), keepP (by decide) h3 (fun h => h.put hp), keepD (by decide) h4, keepP (by decide) h5 (fun h => h.put hp), keepD (by decide) h6, keepP (by decide) h7 (fun h => h.put hp), keepP' (by decide) h8 (fun e h => h.put hp (hN8_9 (by simpa using e) d9)), (fun _ => ⟨nb, _, _, _, rfl, hn, hs, notU_bool _, notU_slice _ _ _, notU_slice _ _ _⟩), keepP' (by decide) h10 (fun e h => h.put hp (hN8_9 (hD10 (by simpa using e)) d9)), fun _ => ⟨nb, X_7, c_7, Y_7, d_7, rfl, hn, hs, hp.nat k_7, hp.nat l_7⟩, (fun h => by have := hD10 (by simpa using h); simpa using this), (fun _ => by simp [d9]), (fun h k => hN8_9 (by simpa using h) (by simpa using k)), Below.store3 hB hn⟩
    case fin =>
      rintro E a' w' ⟨u39, u40, u41, u42, u43, u44, u45, u46, u8, u9, rfl, h0, h1, h2, h3, h4, h5, h6, h7, h8, h9, h10, h11, hD10, hD11, hN8_9, hB⟩ hall
      obtain ⟨nbfa, Xfa, cfa, Yfa, dfa, rfl, hnfa, Rfa, hfa, gfa⟩ := h10 (hall 10 (by simp))
      obtain ⟨nbfb, Xfb, cfb, Yfb, dfb, rfl, hnfb, Rfb, hfb, gfb⟩ := h11 (hall 11 (by simp))
      replace ha := ha.below hB
      replace ga := ga.below hB
      replace Ra := Ra.below hB
      replace qa0 := cbl hB qa0
      replace qa1 := cbl hB qa1
      replace qa2 := cbl hB qa2
      replace Rr := Rr.below hB
      replace qr0 := cbl hB qr0
      replace qr1 := cbl hB qr1
      replace hlo := hlo.below hB
      replace Rlo := Rlo.below hB
      replace qlo0 := cbl hB qlo0
      replace qlo1 := cbl hB qlo1
      replace hup := hup.below hB
      replace Rup := Rup.below hB
      replace qup0 := cbl hB qup0
      replace qup1 := cbl hB qup1
      replace HBT := Below.cons HBT hB
      have kvfa := hnfa
      have qfa0 := Rfa.c (i := 0) rfl
      have qfa1 := Rfa.c (i := 1) rfl
      have qfa2 := Rfa.c (i := 2) rfl
      have kvfb := hnfb
      have qfb0 := Rfb.c (i := 0) rfl
      have qfb1 := Rfb.c (i := 1) rfl
      have qfb2 := Rfb.c (i := 2) rfl
      have CC := fun (W : World) (A : Option Addr) (c : Nat) (B : Option Addr) (d : Nat) (A2 : Option Addr) (c2 : Nat) (B2 : Option Addr) (d2 : Nat) (h1 : NatV W A c (mg fa.num)) (h2 : NatV W B d fa.den) (h3 : NatV W A2 c2 (mg fb.num)) (h4 : NatV W B2 d2 fb.den) => r9cmp_c A c B d fa A2 c2 B2 d2 fb W h1 h2 h3 h4 (by omega) (by omega) (by omega) (by omega)
      rw [← Erc.out] at CC
      replace CC := Lib.hid CC
      go_wp2_with (fail)
      refine (Calls.mono (CC.out _ _ _ _ _ _ _ _ _ hfa gfa hfb gfb) ?_)
      rintro e W3 ⟨rfl, hb3⟩
      replace ha := ha.below hb3
      replace ga := ga.below hb3
      replace Ra := Ra.below hb3
      replace qa0 := cbl hb3 qa0
      replace qa1 := cbl hb3 qa1
      replace qa2 := cbl hb3 qa2
      replace Rr := Rr.below hb3
      replace qr0 := cbl hb3 qr0
      replace qr1 := cbl hb3 qr1
      replace hlo := hlo.below hb3
      replace Rlo := Rlo.below hb3
      replace qlo0 := cbl hb3 qlo0
      replace qlo1 := cbl hb3 qlo1
      replace hup := hup.below hb3
      replace Rup := Rup.below hb3
      replace qup0 := cbl hb3 qup0
      replace qup1 := cbl hb3 qup1
      replace hfa := hfa.below hb3
      replace gfa := gfa.below hb3
      replace Rfa := Rfa.below hb3
      replace qfa0 := cbl hb3 qfa0
      replace qfa1 := cbl hb3 qfa1
      replace qfa2 := cbl hb3 qfa2
      replace hfb := hfb.below hb3
      replace gfb := gfb.below hb3
      replace Rfb := Rfb.below hb3
      replace qfb0 := cbl hb3 qfb0
      replace qfb1 := cbl hb3 qfb1
      replace qfb2 := cbl hb3 qfb2
      replace HBT := Below.cons HBT hb3
      clear hb3
      have HC2 := HC.out
      rw [← Hlo.out] at HC2
      clear CC HC
      rcases HC2 with ⟨rfl, hy⟩ | ⟨rfl, ho, hy⟩ | ⟨rfl, ho, hy⟩ | ⟨rfl, hy⟩
      · skip
        replace hy := Lib.hid hy
        have fzr0 := Rr.f (i := 0)
        have fzr1 := Rr.f (i := 1)
        go_wp2_with (fail)
        have hzy : lo = y := by rw [hy.out]
        subst hzy
        have RS := Rr.store2 (.bool (sg lo)) (.slice Xlo (nl (mg lo)) clo)
        have e0 := RS.c (i := 0) rfl
        have e1 := RS.c (i := 1) rfl
        refine bodyPost_ret (v := .agg #[.bool (sg lo), .slice Xlo (nl (mg lo)) clo]) (by simp [results, Tryz.results66, go_sem, e0, e1]) rfl ?_
        exact ⟨Xlo, clo, rfl, (Rr.keep2 (nuB rfl) hlo), (Below.store2 HBT (by first | exact Nat.le_refl _ | omega))⟩
      · skip
        replace hy := Lib.hid hy
        replace ho := Lib.hid ho
        go_wp2_with (fail)
        have hbit : mg lo / 2 ^ 0 % 2 = 0 := by have := ho.out; rw [Nat.pow_zero, Nat.div_one]; unfold mg; omega
        have CB := rbit_c _ _ (mg lo) 0 _ hlo (by omega) (by decide)
        rw [hbit] at CB
        clear hbit
        refine (Calls.mono CB ?_)
        clear CB
        rintro e w' ⟨rfl, hw⟩
        first | subst hw | (replace hw := hw.symm; subst hw)
        have fzr0 := Rr.f (i := 0)
        have fzr1 := Rr.f (i := 1)
        go_wp2_with (fail)
        have hzy : lo = y := by rw [hy.out]
        subst hzy
        have RS := Rr.store2 (.bool (sg lo)) (.slice Xlo (nl (mg lo)) clo)
        have e0 := RS.c (i := 0) rfl
        have e1 := RS.c (i := 1) rfl
        refine bodyPost_ret (v := .agg #[.bool (sg lo), .slice Xlo (nl (mg lo)) clo]) (by simp [results, Tryz.results66, go_sem, e0, e1]) rfl ?_
        exact ⟨Xlo, clo, rfl, (Rr.keep2 (nuB rfl) hlo), (Below.store2 HBT (by first | exact Nat.le_refl _ | omega))⟩
      · skip
        replace hy := Lib.hid hy
        replace ho := Lib.hid ho
        go_wp2_with (fail)
        have hbit : mg lo / 2 ^ 0 % 2 = 1 := by have := ho.out; rw [Nat.pow_zero, Nat.div_one]; unfold mg; omega
        have CB := rbit_c _ _ (mg lo) 0 _ hlo (by omega) (by decide)
        rw [hbit] at CB
        clear hbit
        refine (Calls.mono CB ?_)
        clear CB
        rintro e w' ⟨rfl, hw⟩
        first | subst hw | (replace hw := hw.symm; subst hw)
        have fzr0 := Rr.f (i := 0)
        have fzr1 := Rr.f (i := 1)
        go_wp2_with (fail)
        have hzy : up = y := by rw [hy.out, Hup.out]
        subst hzy
        have RS := Rr.store2 (.bool (sg up)) (.slice Xup (nl (mg up)) cup)
        have e0 := RS.c (i := 0) rfl
        have e1 := RS.c (i := 1) rfl
        refine bodyPost_ret (v := .agg #[.bool (sg up), .slice Xup (nl (mg up)) cup]) (by simp [results, Tryz.results66, go_sem, e0, e1]) rfl ?_
        exact ⟨Xup, cup, rfl, (Rr.keep2 (nuB rfl) hup), (Below.store2 HBT (by first | exact Nat.le_refl _ | omega))⟩
      · skip
        replace hy := Lib.hid hy
        have fzr0 := Rr.f (i := 0)
        have fzr1 := Rr.f (i := 1)
        go_wp2_with (fail)
        have hzy : up = y := by rw [hy.out, Hup.out]
        subst hzy
        have RS := Rr.store2 (.bool (sg up)) (.slice Xup (nl (mg up)) cup)
        have e0 := RS.c (i := 0) rfl
        have e1 := RS.c (i := 1) rfl
        refine bodyPost_ret (v := .agg #[.bool (sg up), .slice Xup (nl (mg up)) cup]) (by simp [results, Tryz.results66, go_sem, e0, e1]) rfl ?_
        exact ⟨Xup, cup, rfl, (Rr.keep2 (nuB rfl) hup), (Below.store2 HBT (by first | exact Nat.le_refl _ | omega))⟩
theorem twhole_c (aA : Option Addr) (ac : Nat) (aB : Option Addr) (ad : Nat) (a : Rat) (dr : Int) (w : World) (ha : NatV w aA ac (mg a.num)) (ga : NatV w aB ad a.den) (la : nl (mg a.num) ≤ 100000) (ma : nl a.den ≤ 100000) (d0 : 0 ≤ dr) (d4 : dr ≤ 4) :
    Calls Tryz.prog 66 #[.agg #[.bool (sg a.num), .slice aA (nl (mg a.num)) ac, .slice aB (nl a.den) ad], .int .i64 dr] w (RetI w (rnd dr a)) := by
  by_cases h : dr = 4
  · subst h; exact twhole_n aA ac aB ad a w ha ga la ma
  · exact twhole_s aA ac aB ad a dr w ha ga la ma d0 (by omega)
end Go.Proofs.YtacjfpibilolnaaGreatDoor
