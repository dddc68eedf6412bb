/- The document's whole numbers, walked: Shift. -/
import Derived.Test.YtacjfpibilolnaaGreatDoorSC23
import Derived.Test.YtacjfpibilolnaaGreatDoorSC31
set_option maxRecDepth 100000
set_option maxHeartbeats 4000000
set_option linter.unusedVariables false
set_option linter.unusedSimpArgs false
namespace Go.Proofs.YtacjfpibilolnaaGreatDoor
open Go.RowKit Go.Shelf
attribute [local go_sem] max2_i min2_i max_two min_two

def PN (u : Value) (n : Nat) (W : World) : Prop := ∃ X c, u = .slice X (nl n) c ∧ NatV W X c n
def PII (u : Value) (q r : Int) (W : World) : Prop := ∃ X c Y d, u = .tuple #[.agg #[.bool (sg q), .slice X (nl (mg q)) c], .agg #[.bool (sg r), .slice Y (nl (mg r)) d], .int .i64 0] ∧ NatV W X c (mg q) ∧ NatV W Y d (mg r)
theorem PN.below {W W' : World} {u : Value} {n : Nat} (h : PN u n W) (hb : Below W.heap.size W W') : PN u n W' := by
  obtain ⟨X, c, h1, h2⟩ := h; exact ⟨X, c, h1, h2.below hb⟩
theorem PII.below {W W' : World} {u : Value} {q r : Int} (h : PII u q r W) (hb : Below W.heap.size W W') : PII u q r W' := by
  obtain ⟨X, c, Y, d, h1, h2, h3⟩ := h; exact ⟨X, c, Y, d, h1, h2.below hb, h3.below hb⟩
theorem PN.put {W W' : World} {u : Value} {n k : Nat} (h : PN u n W) (hp : Put W W' k) : PN u n W' := by
  obtain ⟨X, c, h1, h2⟩ := h; exact ⟨X, c, h1, hp.nat h2⟩
theorem PII.put {W W' : World} {u : Value} {q r : Int} {k : Nat} (h : PII u q r W) (hp : Put W W' k) : PII u q r W' := by
  obtain ⟨X, c, Y, d, h1, h2, h3⟩ := h; exact ⟨X, c, Y, d, h1, hp.nat h2, hp.nat h3⟩
theorem shf_up (a : Int) (k : Nat) : ival (sg a) (mg a * 2 ^ k) = shf a (k : Int) := by
  rcases Int.lt_or_le a 0 with h | h
  · have := shf_bn (n := (k : Int)) h (Int.natCast_nonneg k)
    rw [Int.toNat_natCast] at this
    rw [sg_t h]; exact this
  · have := shf_nn (n := (k : Int)) h (Int.natCast_nonneg k)
    rw [Int.toNat_natCast] at this
    rw [sg_f h]; exact this
theorem shf_dn (a : Int) {n : Int} {k : Nat} (h : -n = (k : Int)) (h0 : n < 0) : a / (ival false (2 ^ k)) = shf a n := by
  unfold shf; rw [if_neg (by omega), h, Int.toNat_natCast, ival_false, Int.natCast_pow]; rfl
theorem zshift_u (aA : Option Addr) (ac : Nat) (a : Int) (n : Int) (w : World) (ha : NatV w aA ac (mg a))  (la : nl (mg a) ≤ 1048576) (n0 : 0 ≤ n) (n1 : n ≤ 16777216) :
    Calls Tryz.prog 25 #[.agg #[.bool (sg a), .slice aA (nl (mg a)) ac], .int .i64 n] w (RetI w (shf a n)) := by
  obtain ⟨k, rfl⟩ := Int.eq_ofNat_of_zero_le n0
  have t1 : decide (0 ≤ (k : Int)) = true := by simp
  have hv := shf_up a k
  have hk : k ≤ 16777216 := by omega
  have hs := nl_shl (mg a) k
  replace hv := Lib.hid hv
  obtain ⟨hb1, Ra, Rr⟩ := bx2 w #[.bool (sg a), .slice aA (nl (mg a)) ac] 24 #[.bool false, .slice none 0 0] 24
  replace ha := ha.below hb1
  have HBT := hb1
  clear hb1
  have qa0 := Ra.c (i := 0) rfl
  have qa1 := Ra.c (i := 1) rfl
  have qr0 := Rr.c (i := 0) rfl
  have qr1 := Rr.c (i := 1) rfl
  go_enter Tryz.func25, Tryz.ntmps25
  go_wp2_with (fail)
  have hd2 := drb (((w.alloc (.cells #[.bool (sg a), .slice aA (nl (mg a)) ac] 24)).alloc (.cells #[.bool false, .slice none 0 0] 24)))
  replace ha := ha.below hd2
  replace Ra := Ra.below hd2
  replace qa0 := cbl hd2 qa0
  replace qa1 := cbl hd2 qa1
  replace Rr := Rr.below hd2
  replace qr0 := cbl hd2 qr0
  replace qr1 := cbl hd2 qr1
  replace HBT := Below.cons HBT hd2
  clear hd2
  obtain ⟨m, Em⟩ : ∃ zq : Nat, zq = mg a * 2 ^ k := ⟨_, rfl⟩
  have Bm : nl m ≤ 1099511627776 := by rw [Em]; omega
  have C2_0 := fun (W : World) (h1 : NatV W aA ac (mg a)) => rshl_c aA ac (mg a) k W h1 (by omega) (by omega)
  simp only [← Em] at C2_0
  replace Em := Lib.hid Em
  replace C2_0 := Lib.hid C2_0
  obtain ⟨z, Ez⟩ : ∃ zq : Int, zq = ival (sg a) m := ⟨_, rfl⟩
  have C2_1 := fun (W : World) (A : Option Addr) (c : Nat) (h1 : NatV W A c m) => rz_c (sg a) A c m W h1 (by omega)
  simp only [← Ez] at C2_1
  replace Ez := Lib.hid Ez
  replace C2_1 := Lib.hid C2_1
  go_region_held3 (fun W => W.cell? ⟨w.heap.size, 0, none⟩ = some (.bool (sg a)) ∧ W.cell? ⟨w.heap.size, 1, none⟩ = some (.slice aA (nl (mg a)) ac))
    (first
      | exact ⟨qa0, qa1⟩
      | exact ⟨qa0_3, qa1_3⟩
      | exact ⟨qa0_4, qa1_4⟩
      | exact ⟨((Ra_4.other2 (by simp <;> omega)).c (i := 0) rfl), ((Ra_4.other2 (by simp <;> omega)).c (i := 1) rfl)⟩
      | go_keep)
    (first
      | (go_at_call 73; (with_reducible refine (C2_0.out _ ha).mono ?_); rintro e W3 ⟨Xm, cm, rfl, hm, hb3⟩; have ha_3 := ha.below hb3; have Ra_3 := Ra.below hb3; have qa0_3 := cbl hb3 qa0; have qa1_3 := cbl hb3 qa1; have Rr_3 := Rr.below hb3; have qr0_3 := cbl hb3 qr0; have qr1_3 := cbl hb3 qr1; have HBT_3 := Below.cons HBT hb3)
      | (go_at_call 71; (with_reducible refine (C2_1.out _ _ _ hm).mono ?_); rintro e W4 ⟨Xz, cz, rfl, hz, hb4⟩; have ha_4 := ha_3.below hb4; have Ra_4 := Ra_3.below hb4; have qa0_4 := cbl hb4 qa0_3; have qa1_4 := cbl hb4 qa1_3; have Rr_4 := Rr_3.below hb4; have qr0_4 := cbl hb4 qr0_3; have qr1_4 := cbl hb4 qr1_3; have hm_4 := hm.below hb4; have HBT_4 := Below.cons HBT_3 hb4; have fz0 := Rr_4.f (i := 0); have fz1 := Rr_4.f (i := 1)))
  all_goals (try go_wp2_with (fail))
  have hzz : z = (shf a (k : Int)) := by rw [Ez.out, Em.out]; exact hv.out
  subst hzz
  have RS := Rr_4.store2 (.bool (sg (((shf a (k : Int)))))) (.slice Xz (nl (mg (((shf a (k : Int)))))) cz)
  have e0 := RS.c (i := 0) rfl
  have e1 := RS.c (i := 1) rfl
  refine bodyPost_ret (v := .agg #[.bool (sg (((shf a (k : Int))))), .slice Xz (nl (mg (((shf a (k : Int)))))) cz]) (by simp [results, Tryz.results25, go_sem, e0, e1]) rfl ?_
  exact ⟨Xz, cz, rfl, (Rr_4.keep2 (nuB rfl) hz), (Below.store2 HBT_4 (by first | exact Nat.le_refl _ | omega))⟩
theorem zshift_d (aA : Option Addr) (ac : Nat) (a : Int) (n : Int) (w : World) (ha : NatV w aA ac (mg a))  (la : nl (mg a) ≤ 1048576) (n0 : n < 0) (n1 : -16777216 ≤ n) :
    Calls Tryz.prog 25 #[.agg #[.bool (sg a), .slice aA (nl (mg a)) ac], .int .i64 n] w (RetI w (shf a n)) := by
  obtain ⟨k, hk⟩ := Int.eq_ofNat_of_zero_le (show 0 ≤ -n by omega)
  have t1 : decide (0 ≤ n) = false := by simp; exact n0
  have lk : k ≤ 16777216 := by omega
  have Wk : IntKind.i64.wrap (k : Int) = (k : Int) := IntWalk.i64_in _ (by omega)
  have hv := shf_dn a hk n0
  obtain ⟨p, Ep⟩ : ∃ z : Nat, z = 1 * 2 ^ k := ⟨_, rfl⟩
  have Np : nl p ≤ 1048576 := by rw [Ep, Nat.one_mul, nl_two_pow]; omega
  have C1 := fun (W : World) (A : Option Addr) (c : Nat) (h1 : NatV W A c 1) => rshl_c A c 1 k W h1 (by rw [nl_one]; decide) (by omega)
  rw [← Ep] at C1
  obtain ⟨pz, Epz⟩ : ∃ z : Int, z = ival false p := ⟨_, rfl⟩
  have C2 := fun (W : World) (A : Option Addr) (c : Nat) (h1 : NatV W A c p) => rz_c false A c p W h1 (by omega)
  rw [← Epz] at C2
  have pz0 : pz ≠ 0 := by rw [Epz, ival_false, Ep]; have := Nat.two_pow_pos k; omega
  have Npz : nl (mg pz) ≤ 1048576 := by rw [Epz, mg_ival]; exact Np
  obtain ⟨q, Eq⟩ : ∃ z : Int, z = a / pz := ⟨_, rfl⟩
  obtain ⟨r, Er⟩ : ∃ z : Int, z = a % pz := ⟨_, rfl⟩
  have C3 := fun (W : World) (A : Option Addr) (c : Nat) (h1 : NatV W aA ac (mg a)) (h2 : NatV W A c (mg pz)) => zdiv_c aA ac a A c pz W h1 h2 (by omega) (by omega) pz0
  rw [← Eq, ← Er] at C3
  have eqz : q = shf a n := by rw [Eq, Epz, Ep, Nat.one_mul]; exact hv
  replace hv := Lib.hid hv
  replace Ep := Lib.hid Ep
  replace Epz := Lib.hid Epz
  replace Eq := Lib.hid Eq
  replace Er := Lib.hid Er
  replace C1 := Lib.hid C1
  replace C2 := Lib.hid C2
  replace C3 := Lib.hid C3
  replace eqz := Lib.hid eqz
  obtain ⟨hb1, Ra, Rr⟩ := bx2 w #[.bool (sg a), .slice aA (nl (mg a)) ac] 24 #[.bool false, .slice none 0 0] 24
  replace ha := ha.below hb1
  have HBT := hb1
  clear hb1
  have qa0 := Ra.c (i := 0) rfl
  have qa1 := Ra.c (i := 1) rfl
  have qr0 := Rr.c (i := 0) rfl
  have qr1 := Rr.c (i := 1) rfl
  go_enter Tryz.func25, Tryz.ntmps25
  go_wp2_with (fail)
  generalize hW0 : ((w.alloc (.cells #[.bool (sg a), .slice aA (nl (mg a)) ac] 24)).alloc (.cells #[.bool false, .slice none 0 0] 24)) = W0 at *
  replace hW0 := Lib.hid hW0
  refine wp_region_inv (fun E a' w' => ∃ (u18 u19 u20 u21 u22 u23 u24 u17 u25 u26 u27 u5 u6 u7 : Value),
    a' = { tmps := #[.agg #[.bool (sg a), .slice aA (nl (mg a)) ac], .int .i64 n, .pointer (some ⟨w.heap.size, 0, none⟩), undef, .pointer (some ⟨(w.heap.size + 1), 0, none⟩), u5, u6, u7, .int .i64 n, .bool false, undef, undef, undef, undef, undef, undef, undef, u17, u18, u19, u20, u21, u22, u23, u24, u25, u26, u27, undef], defers := [] } ∧
    (E 0 = true → u18 = .agg #[.bool (sg a), .slice aA (nl (mg a)) ac]) ∧
    (E 1 = true → PN u19 1 w') ∧
    (E 2 = true → u20 = .int .i64 n) ∧
    (E 3 = true → u21 = .int .i64 k) ∧
    (E 4 = true → PN u22 p w') ∧
    (E 5 = true → PI u23 pz w') ∧
    (E 6 = true → PII u24 q r w') ∧
    (E 7 = true → PII u17 q r w') ∧
    (E 8 = true → PI u25 q w') ∧
    (E 9 = true → PI u26 r w') ∧
    (E 10 = true → u27 = .int .i64 0) ∧
    (E 11 = true → PB2 24 W0.heap.size u5 w') ∧
    (E 12 = true → PB2 24 W0.heap.size u6 w') ∧
    (E 13 = true → PBI W0.heap.size u5 q w') ∧
    (E 14 = true → PBI W0.heap.size u6 r w') ∧
    (E 15 = true → u7 = .int .i64 0) ∧
    (E 13 = true → E 11 = true) ∧
    (E 14 = true → E 12 = true) ∧
    (E 11 = true → E 12 = true → u5 ≠ u6) ∧
    Below W0.heap.size W0 w') (by kernel_rfl) (by kernel_rfl) ?init ?fin ?step
  case init => exact ⟨_, _, _, _, _, _, _, _, _, _, _, _, _, _, rfl, by simp, by simp, by simp, by simp, by simp, by simp, by simp, by simp, by simp, by simp, by simp, by simp, by simp, by simp, by simp, by simp, by simp, by simp, by simp, (Below.refl _ _).drew⟩
  case step =>
    rintro E a' w' i ⟨u18, u19, u20, u21, u22, u23, u24, u17, u25, u26, u27, u5, u6, u7, rfl, h0, h1, h2, h3, h4, h5, h6, h7, h8, h9, h10, h11, h12, h13, h14, h15, hD13, hD14, hN11_12, hB⟩ hi hEi hdep
    have qa0 := cbl hB qa0
    have qa1 := cbl hB qa1
    obtain rfl | rfl | rfl | rfl | rfl | rfl | rfl | rfl | rfl | rfl | rfl | rfl | rfl | rfl | rfl | rfl : i = 0 ∨ i = 1 ∨ i = 2 ∨ i = 3 ∨ i = 4 ∨ i = 5 ∨ i = 6 ∨ i = 7 ∨ i = 8 ∨ i = 9 ∨ i = 10 ∨ i = 11 ∨ i = 12 ∨ i = 13 ∨ i = 14 ∨ i = 15 := by simp at hi; omega
    · skip
      refine wpOp_step rfl (fun K' hK' => ?_)
      go_simp
      refine hK' _ _ ?_
      exact ⟨_, _, _, _, _, _, _, _, _, _, _, _, _, _, rfl, fun _ => rfl, keepD (by decide) h1, keepD (by decide) h2, keepD (by decide) h3, keepD (by decide) h4, keepD (by decide) h5, keepD (by decide) h6, keepD (by decide) h7, keepD (by decide) h8, keepD (by decide) h9, keepD (by decide) h10, keepD (by decide) h11, keepD (by decide) h12, keepD (by decide) h13, keepD (by decide) h14, keepD (by decide) h15, (fun h => by have := hD13 (by simpa using h); simpa using this), (fun h => by have := hD14 (by simpa using h); simpa using this), (fun h k => hN11_12 (by simpa using h) (by simpa using k)), hB⟩
    · skip
      have kb : Below w'.heap.size w' (w'.alloc (.cells #[.int .u32 1] 58)) := (Below.refl _ _).alloc (Nat.le_refl _) _
      refine wpOp_step rfl (fun K' hK' => ?_)
      go_simp
      refine hK' _ _ ?_
      exact ⟨_, _, _, _, _, _, _, _, _, _, _, _, _, _, rfl, keepD (by decide) h0, fun _ => ⟨some ⟨w'.heap.size, 0, none⟩, 1, by rw [nl_one], nat_one _ _ (heap_alloc_new w' (.cells #[.int .u32 1] 58))⟩, keepD (by decide) h2, keepD (by decide) h3, keepP (by decide) h4 (fun h => h.below kb), keepP (by decide) h5 (fun h => h.below kb), keepP (by decide) h6 (fun h => h.below kb), keepP (by decide) h7 (fun h => h.below kb), keepP (by decide) h8 (fun h => h.below kb), keepP (by decide) h9 (fun h => h.below kb), keepD (by decide) h10, keepP (by decide) h11 (fun h => h.below kb), keepP (by decide) h12 (fun h => h.below kb), keepP (by decide) h13 (fun h => h.below kb), keepP (by decide) h14 (fun h => h.below kb), keepD (by decide) h15, (fun h => by have := hD13 (by simpa using h); simpa using this), (fun h => by have := hD14 (by simpa using h); simpa using this), (fun h k => hN11_12 (by simpa using h) (by simpa using k)), Below.cons hB kb⟩
    · skip
      refine wpOp_step rfl (fun K' hK' => ?_)
      go_simp
      refine hK' _ _ ?_
      exact ⟨_, _, _, _, _, _, _, _, _, _, _, _, _, _, rfl, keepD (by decide) h0, keepD (by decide) h1, fun _ => rfl, keepD (by decide) h3, keepD (by decide) h4, keepD (by decide) h5, keepD (by decide) h6, keepD (by decide) h7, keepD (by decide) h8, keepD (by decide) h9, keepD (by decide) h10, keepD (by decide) h11, keepD (by decide) h12, keepD (by decide) h13, keepD (by decide) h14, keepD (by decide) h15, (fun h => by have := hD13 (by simpa using h); simpa using this), (fun h => by have := hD14 (by simpa using h); simpa using this), (fun h k => hN11_12 (by simpa using h) (by simpa using k)), hB⟩
    · skip
      have d2 := hdep _ rfl ⟨2, .data⟩ (by simp) rfl
      obtain rfl := h2 d2
      refine wpOp_step rfl (fun K' hK' => ?_)
      go_simp
      refine hK' _ _ ?_
      exact ⟨_, _, _, _, _, _, _, _, _, _, _, _, _, _, rfl, keepD (by decide) h0, keepD (by decide) h1, keepD (by decide) h2, fun _ => rfl, keepD (by decide) h4, keepD (by decide) h5, keepD (by decide) h6, keepD (by decide) h7, keepD (by decide) h8, keepD (by decide) h9, keepD (by decide) h10, keepD (by decide) h11, keepD (by decide) h12, keepD (by decide) h13, keepD (by decide) h14, keepD (by decide) h15, (fun h => by have := hD13 (by simpa using h); simpa using this), (fun h => by have := hD14 (by simpa using h); simpa using this), (fun h k => hN11_12 (by simpa using h) (by simpa using k)), hB⟩
    · skip
      have d1 := hdep _ rfl ⟨1, .data⟩ (by simp) rfl
      obtain ⟨X_1, c_1, rfl, k_1⟩ := h1 d1
      have d3 := hdep _ rfl ⟨3, .data⟩ (by simp) rfl
      obtain rfl := h3 d3
      refine wpOp_step rfl (fun K' hK' => ?_)
      go_simp
      refine (Calls.mono (C1.out w' _ _ k_1) ?_)
      rintro e W1 ⟨Xr, cr, rfl, kr, kb⟩
      refine hK' _ _ ?_
      exact ⟨_, _, _, _, _, _, _, _, _, _, _, _, _, _, rfl, keepD (by decide) h0, keepP (by decide) h1 (fun h => h.below kb), keepD (by decide) h2, keepD (by decide) h3, fun _ => ⟨Xr, cr, rfl, kr⟩, keepP (by decide) h5 (fun h => h.below kb), keepP (by decide) h6 (fun h => h.below kb), keepP (by decide) h7 (fun h => h.below kb), keepP (by decide) h8 (fun h => h.below kb), keepP (by decide) h9 (fun h => h.below kb), keepD (by decide) h10, keepP (by decide) h11 (fun h => h.below kb), keepP (by decide) h12 (fun h => h.below kb), keepP (by decide) h13 (fun h => h.below kb), keepP (by decide) h14 (fun h => h.below kb), keepD (by decide) h15, (fun h => by have := hD13 (by simpa using h); simpa using this), (fun h => by have := hD14 (by simpa using h); simpa using this), (fun h k => hN11_12 (by simpa using h) (by simpa using k)), Below.cons hB kb⟩
    · skip
      have d4 := hdep _ rfl ⟨4, .data⟩ (by simp) rfl
      obtain ⟨X_4, c_4, rfl, k_4⟩ := h4 d4
      refine wpOp_step rfl (fun K' hK' => ?_)
      go_simp
      refine (Calls.mono (C2.out w' _ _ k_4) ?_)
      rintro e W1 ⟨Xr, cr, rfl, kr, kb⟩
      refine hK' _ _ ?_
      exact ⟨_, _, _, _, _, _, _, _, _, _, _, _, _, _, rfl, keepD (by decide) h0, keepP (by decide) h1 (fun h => h.below kb), keepD (by decide) h2, keepD (by decide) h3, keepP (by decide) h4 (fun h => h.below kb), fun _ => ⟨Xr, cr, rfl, kr⟩, keepP (by decide) h6 (fun h => h.below kb), keepP (by decide) h7 (fun h => h.below kb), keepP (by decide) h8 (fun h => h.below kb), keepP (by decide) h9 (fun h => h.below kb), keepD (by decide) h10, keepP (by decide) h11 (fun h => h.below kb), keepP (by decide) h12 (fun h => h.below kb), keepP (by decide) h13 (fun h => h.below kb), keepP (by decide) h14 (fun h => h.below kb), keepD (by decide) h15, (fun h => by have := hD13 (by simpa using h); simpa using this), (fun h => by have := hD14 (by simpa using h); simpa using this), (fun h k => hN11_12 (by simpa using h) (by simpa using k)), Below.cons hB kb⟩
    · skip
      have d0 := hdep _ rfl ⟨0, .data⟩ (by simp) rfl
      obtain rfl := h0 d0
      have d5 := hdep _ rfl ⟨5, .data⟩ (by simp) rfl
      obtain ⟨X_5, c_5, rfl, k_5⟩ := h5 d5
      refine wpOp_step rfl (fun K' hK' => ?_)
      go_simp
      refine (Calls.mono (C3.out w' _ _ (ha.below hB) k_5) ?_)
      rintro e W1 ⟨Xr, cr, Yr, dr, rfl, kr, lr, kb⟩
      refine hK' _ _ ?_
      exact ⟨_, _, _, _, _, _, _, _, _, _, _, _, _, _, rfl, keepD (by decide) h0, keepP (by decide) h1 (fun h => h.below kb), keepD (by decide) h2, keepD (by decide) h3, keepP (by decide) h4 (fun h => h.below kb), keepP (by decide) h5 (fun h => h.below kb), fun _ => ⟨Xr, cr, Yr, dr, rfl, kr, lr⟩, keepP (by decide) h7 (fun h => h.below kb), keepP (by decide) h8 (fun h => h.below kb), keepP (by decide) h9 (fun h => h.below kb), keepD (by decide) h10, keepP (by decide) h11 (fun h => h.below kb), keepP (by decide) h12 (fun h => h.below kb), keepP (by decide) h13 (fun h => h.below kb), keepP (by decide) h14 (fun h => h.below kb), keepD (by decide) h15, (fun h => by have := hD13 (by simpa using h); simpa using this), (fun h => by have := hD14 (by simpa using h); simpa using this), (fun h k => hN11_12 (by simpa using h) (by simpa using k)), Below.cons hB kb⟩
    · skip
      have d6 := hdep _ rfl ⟨6, .data⟩ (by simp) rfl
      obtain ⟨X_6, c_6, Y_6, d_6, rfl, k_6, l_6⟩ := h6 d6
      refine wpOp_step rfl (fun K' hK' => ?_)
      go_simp
      refine hK' _ _ ?_
      exact ⟨_, _, _, _, _, _, _, _, _, _, _, _, _, _, rfl, keepD (by decide) h0, keepD (by decide) h1, keepD (by decide) h2, keepD (by decide) h3, keepD (by decide) h4, keepD (by decide) h5, keepD (by decide) h6, fun _ => ⟨X_6, c_6, Y_6, d_6, rfl, k_6, l_6⟩, keepD (by decide) h8, keepD (by decide) h9, keepD (by decide) h10, keepD (by decide) h11, keepD (by decide) h12, keepD (by decide) h13, keepD (by decide) h14, keepD (by decide) h15, (fun h => by have := hD13 (by simpa using h); simpa using this), (fun h => by have := hD14 (by simpa using h); simpa using this), (fun h k => hN11_12 (by simpa using h) (by simpa using k)), hB⟩
    · skip
      have d7 := hdep _ rfl ⟨7, .data⟩ (by simp) rfl
      obtain ⟨X_7, c_7, Y_7, d_7, rfl, k_7, l_7⟩ := h7 d7
      refine wpOp_step rfl (fun K' hK' => ?_)
      go_simp
      refine hK' _ _ ?_
      exact ⟨_, _, _, _, _, _, _, _, _, _, _, _, _, _, rfl, keepD (by decide) h0, keepD (by decide) h1, keepD (by decide) h2, keepD (by decide) h3, keepD (by decide) h4, keepD (by decide) h5, keepD (by decide) h6, keepD (by decide) h7, fun _ => ⟨X_7, c_7, rfl, k_7⟩, keepD (by decide) h9, keepD (by decide) h10, keepD (by decide) h11, keepD (by decide) h12, keepD (by decide) h13, keepD (by decide) h14, keepD (by decide) h15, (fun h => by have := hD13 (by simpa using h); simpa using this), (fun h => by have := hD14 (by simpa using h); simpa using this), (fun h k => hN11_12 (by simpa using h) (by simpa using k)), hB⟩
    · skip
      have d7 := hdep _ rfl ⟨7, .data⟩ (by simp) rfl
      obtain ⟨X_7, c_7, Y_7, d_7, rfl, k_7, l_7⟩ := h7 d7
      refine wpOp_step rfl (fun K' hK' => ?_)
      go_simp
      refine hK' _ _ ?_
      exact ⟨_, _, _, _, _, _, _, _, _, _, _, _, _, _, rfl, keepD (by decide) h0, keepD (by decide) h1, keepD (by decide) h2, keepD (by decide) h3, keepD (by decide) h4, keepD (by decide) h5, keepD (by decide) h6, keepD (by decide) h7, keepD (by decide) h8, fun _ => ⟨Y_7, d_7, rfl, l_7⟩, keepD (by decide) h10, keepD (by decide) h11, keepD (by decide) h12, keepD (by decide) h13, keepD (by decide) h14, keepD (by decide) h15, (fun h => by have := hD13 (by simpa using h); simpa using this), (fun h => by have := hD14 (by simpa using h); simpa using this), (fun h k => hN11_12 (by simpa using h) (by simpa using k)), hB⟩
    · skip
      have d7 := hdep _ rfl ⟨7, .data⟩ (by simp) rfl
      obtain ⟨X_7, c_7, Y_7, d_7, rfl, k_7, l_7⟩ := h7 d7
      refine wpOp_step rfl (fun K' hK' => ?_)
      go_simp
      refine hK' _ _ ?_
      exact ⟨_, _, _, _, _, _, _, _, _, _, _, _, _, _, rfl, keepD (by decide) h0, keepD (by decide) h1, keepD (by decide) h2, keepD (by decide) h3, keepD (by decide) h4, keepD (by decide) h5, keepD (by decide) h6, keepD (by decide) h7, keepD (by decide) h8, keepD (by decide) h9, fun _ => rfl, keepD (by decide) h11, keepD (by decide) h12, keepD (by decide) h13, keepD (by decide) h14, keepD (by decide) h15, (fun h => by have := hD13 (by simpa using h); simpa using this), (fun h => by have := hD14 (by simpa using h); simpa using this), (fun h k => hN11_12 (by simpa using h) (by simpa using k)), hB⟩
    · skip
      have kb : Below w'.heap.size w' (w'.alloc (.cells #[.bool false, .slice none 0 0] 24)) := (Below.refl _ _).alloc (Nat.le_refl _) _
      refine wpOp_step rfl (fun K' hK' => ?_)
      go_simp
      refine hK' _ _ ?_
      exact ⟨_, _, _, _, _, _, _, _, _, _, _, _, _, _, rfl, keepD (by decide) h0, keepP (by decide) h1 (fun h => h.below kb), keepD (by decide) h2, keepD (by decide) h3, keepP (by decide) h4 (fun h => h.below kb), keepP (by decide) h5 (fun h => h.below kb), keepP (by decide) h6 (fun h => h.below kb), keepP (by decide) h7 (fun h => h.below kb), keepP (by decide) h8 (fun h => h.below kb), keepP (by decide) h9 (fun h => h.below kb), keepD (by decide) h10, fun _ => ⟨_, _, _, rfl, hB.size, ⟨at_new rfl⟩, notU_bool _, notU_slice _ _ _⟩, keepP (by decide) h12 (fun h => h.below kb), (fun h => by have h2 := hD13 (by simpa using h); rw [hEi] at h2; cases h2), keepP (by decide) h14 (fun h => h.below kb), keepD (by decide) h15, (fun _ => by simp), (fun h => by have := hD14 (by simpa using h); simpa using this), (fun _ h => by obtain ⟨n2, e2, l2⟩ := (h12 (by simpa using h)).lt; rw [e2]; intro e3; simp at e3 <;> omega), Below.cons hB kb⟩
    · skip
      have kb : Below w'.heap.size w' (w'.alloc (.cells #[.bool false, .slice none 0 0] 24)) := (Below.refl _ _).alloc (Nat.le_refl _) _
      refine wpOp_step rfl (fun K' hK' => ?_)
      go_simp
      refine hK' _ _ ?_
      exact ⟨_, _, _, _, _, _, _, _, _, _, _, _, _, _, rfl, keepD (by decide) h0, keepP (by decide) h1 (fun h => h.below kb), keepD (by decide) h2, keepD (by decide) h3, keepP (by decide) h4 (fun h => h.below kb), keepP (by decide) h5 (fun h => h.below kb), keepP (by decide) h6 (fun h => h.below kb), keepP (by decide) h7 (fun h => h.below kb), keepP (by decide) h8 (fun h => h.below kb), keepP (by decide) h9 (fun h => h.below kb), keepD (by decide) h10, keepP (by decide) h11 (fun h => h.below kb), fun _ => ⟨_, _, _, rfl, hB.size, ⟨at_new rfl⟩, notU_bool _, notU_slice _ _ _⟩, keepP (by decide) h13 (fun h => h.below kb), (fun h => by have h2 := hD14 (by simpa using h); rw [hEi] at h2; cases h2), keepD (by decide) h15, (fun h => by have := hD13 (by simpa using h); simpa using this), (fun _ => by simp), (fun h _ => by obtain ⟨n2, e2, l2⟩ := (h11 (by simpa using h)).lt; rw [e2]; intro e3; simp at e3 <;> omega), Below.cons hB kb⟩
    · skip
      have d11 := hdep _ rfl ⟨11, .data⟩ (by simp) rfl
      obtain ⟨nb, z0, z1, rfl, hn, hb, nz0, nz1⟩ := h11 d11
      have d8 := hdep _ rfl ⟨8, .data⟩ (by simp) rfl
      obtain ⟨X_8, c_8, rfl, k_8⟩ := h8 d8
      have fz0 := hb.f (i := 0)
      have cz0 := hb.c (i := 0) rfl
      have fz1 := hb.f (i := 1)
      have cz1 := hb.c (i := 1) rfl
      have hp := hb.put2 (notU2 nz0 nz1) (.bool (sg q)) (.slice X_8 (nl (mg q)) c_8)
      have hs := hb.store2 (.bool (sg q)) (.slice X_8 (nl (mg q)) c_8)
      refine wpOp_step rfl (fun K' hK' => ?_)
      go_simp
      refine hK' _ _ ?_
      exact ⟨_, _, _, _, _, _, _, _, _, _, _, _, _, _, rfl, keepD (by decide) h0, keepP (by decide) h1 (fun h => h.put hp), keepD (by decide) h2, keepD (by decide) h3, keepP (by decide) h4 (fun h => h.put hp), keepP (by decide) h5 (fun h => h.put hp), keepP (by decide) h6 (fun h => h.put hp), keepP (by decide) h7 (fun h => h.put hp), keepP (by decide) h8 (fun h => h.put hp), keepP (by decide) h9 (fun h => h.put hp), keepD (by decide) h10, (fun _ => ⟨nb, _, _, rfl, hn, hs, notU_bool _, notU_slice _ _ _⟩), keepP' (by decide) h12 (fun e h => h.put hp (fun e3 => hN11_12 d11 (by simpa using e) e3.symm)), fun _ => ⟨nb, X_8, c_8, rfl, hn, hs, hp.nat k_8⟩, keepP' (by decide) h14 (fun e h => h.put hp (fun e3 => hN11_12 d11 (hD14 (by simpa using e)) e3.symm)), keepD (by decide) h15, (fun _ => by simp [d11]), (fun h => by have := hD14 (by simpa using h); simpa using this), (fun h k => hN11_12 (by simpa using h) (by simpa using k)), Below.store2 hB hn⟩
    · skip
      have d12 := hdep _ rfl ⟨12, .data⟩ (by simp) rfl
      obtain ⟨nb, z0, z1, rfl, hn, hb, nz0, nz1⟩ := h12 d12
      have d9 := hdep _ rfl ⟨9, .data⟩ (by simp) rfl
      obtain ⟨X_9, c_9, rfl, k_9⟩ := h9 d9
      have fz0 := hb.f (i := 0)
      have cz0 := hb.c (i := 0) rfl
      have fz1 := hb.f (i := 1)
      have cz1 := hb.c (i := 1) rfl
      have hp := hb.put2 (notU2 nz0 nz1) (.bool (sg r)) (.slice X_9 (nl (mg r)) c_9)
      have hs := hb.store2 (.bool (sg r)) (.slice X_9 (nl (mg r)) c_9)
      refine wpOp_step rfl (fun K' hK' => ?_)
      go_simp
      refine hK' _ _ ?_
      exact ⟨_, _, _, _, _, _, _, _, _, _, _, _, _, _, rfl, keepD (by decide) h0, keepP (by decide) h1 (fun h => h.put hp), keepD (by decide) h2, keepD (by decide) h3, keepP (by decide) h4 (fun h => h.put hp), keepP (by decide) h5 (fun h => h.put hp), keepP (by decide) h6 (fun h => h.put hp), keepP (by decide) h7 (fun h => h.put hp), keepP (by decide) h8 (fun h => h.put hp), keepP (by decide) h9 (fun h => h.put hp), keepD (by decide) h10, keepP' (by decide) h11 (fun e h => h.put hp (hN11_12 (by simpa using e) d12)), (fun _ => ⟨nb, _, _, rfl, hn, hs, notU_bool _, notU_slice _ _ _⟩), keepP' (by decide) h13 (fun e h => h.put hp (hN11_12 (hD13 (by simpa using e)) d12)), fun _ => ⟨nb, X_9, c_9, rfl, hn, hs, hp.nat k_9⟩, keepD (by decide) h15, (fun h => by have := hD13 (by simpa using h); simpa using this), (fun _ => by simp [d12]), (fun h k => hN11_12 (by simpa using h) (by simpa using k)), Below.store2 hB hn⟩
    · skip
      have d10 := hdep _ rfl ⟨10, .data⟩ (by simp) rfl
      obtain rfl := h10 d10
      refine wpOp_step rfl (fun K' hK' => ?_)
      go_simp
      refine hK' _ _ ?_
      exact ⟨_, _, _, _, _, _, _, _, _, _, _, _, _, _, rfl, keepD (by decide) h0, keepD (by decide) h1, keepD (by decide) h2, keepD (by decide) h3, keepD (by decide) h4, keepD (by decide) h5, keepD (by decide) h6, keepD (by decide) h7, keepD (by decide) h8, keepD (by decide) h9, keepD (by decide) h10, keepD (by decide) h11, keepD (by decide) h12, keepD (by decide) h13, keepD (by decide) h14, fun _ => rfl, (fun h => by have := hD13 (by simpa using h); simpa using this), (fun h => by have := hD14 (by simpa using h); simpa using this), (fun h k => hN11_12 (by simpa using h) (by simpa using k)), hB⟩
  case fin =>
    rintro E a' w' ⟨u18, u19, u20, u21, u22, u23, u24, u17, u25, u26, u27, u5, u6, u7, rfl, h0, h1, h2, h3, h4, h5, h6, h7, h8, h9, h10, h11, h12, h13, h14, h15, hD13, hD14, hN11_12, hB⟩ hall
    obtain ⟨nbq, Xq, cq, rfl, hnq, Rq, hq⟩ := h13 (hall 13 (by simp))
    replace ha := ha.below hB
    replace Ra := Ra.below hB
    replace qa0 := cbl hB qa0
    replace qa1 := cbl hB qa1
    replace Rr := Rr.below hB
    replace qr0 := cbl hB qr0
    replace qr1 := cbl hB qr1
    replace HBT := Below.cons HBT hB
    have kvq := hnq
    have qq0 := Rq.c (i := 0) rfl
    have qq1 := Rq.c (i := 1) rfl
    have hz : w.heap.size + 2 = W0.heap.size := by rw [← hW0.out]; simp
    have fzr0 := Rr.f (i := 0)
    have fzr1 := Rr.f (i := 1)
    go_wp2_with (fail)
    have hzq : q = (shf a n) := by exact eqz.out
    subst hzq
    have RS := Rr.store2 (.bool (sg (((shf a n))))) (.slice Xq (nl (mg (((shf a n))))) cq)
    have e0 := RS.c (i := 0) rfl
    have e1 := RS.c (i := 1) rfl
    refine bodyPost_ret (v := .agg #[.bool (sg (((shf a n)))), .slice Xq (nl (mg (((shf a n))))) cq]) (by simp [results, Tryz.results25, go_sem, e0, e1]) rfl ?_
    exact ⟨Xq, cq, rfl, (Rr.keep2 (nuB rfl) hq), (Below.store2 HBT (by first | exact Nat.le_refl _ | omega))⟩
theorem zshift_c (aA : Option Addr) (ac : Nat) (a : Int) (n : Int) (w : World) (ha : NatV w aA ac (mg a)) (la : nl (mg a) ≤ 1048576) (ln : -16777216 ≤ n ∧ n ≤ 16777216) :
    Calls Tryz.prog 25 #[.agg #[.bool (sg a), .slice aA (nl (mg a)) ac], .int .i64 n] w (RetI w (shf a n)) := by
  by_cases h : 0 ≤ n
  · exact zshift_u aA ac a n w ha la h ln.2
  · exact zshift_d aA ac a n w ha la (by omega) ln.1
end Go.Proofs.YtacjfpibilolnaaGreatDoor
