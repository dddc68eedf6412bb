/- The document's whole numbers, walked: Shift. -/
import Derived.Test.YthcmoimlnhghcaaGreatDoorD03
set_option maxRecDepth 100000
set_option maxHeartbeats 4000000
set_option linter.unusedVariables false
set_option linter.unusedSimpArgs false
namespace Go.Proofs.YthcmoimlnhghcaaGreatDoor
open Go.RowKit Go.Shelf
attribute [local go_sem] max2_i min2_i max_two min_two

def PN (u : Value) (n : Nat) (W : World) : Prop := ∃ X c, u = .slice X (nl n) c ∧ NatV W X c n
def PII (u : Value) (q r : Int) (W : World) : Prop := ∃ X c Y d, u = .tuple #[.agg #[.bool (sg q), .slice X (nl (mg q)) c], .agg #[.bool (sg r), .slice Y (nl (mg r)) d], .int .i64 0] ∧ NatV W X c (mg q) ∧ NatV W Y d (mg r)
theorem PN.below {W W' : World} {u : Value} {n : Nat} (h : PN u n W) (hb : Below W.heap.size W W') : PN u n W' := by
  obtain ⟨X, c, h1, h2⟩ := h; exact ⟨X, c, h1, h2.below hb⟩
theorem PII.below {W W' : World} {u : Value} {q r : Int} (h : PII u q r W) (hb : Below W.heap.size W W') : PII u q r W' := by
  obtain ⟨X, c, Y, d, h1, h2, h3⟩ := h; exact ⟨X, c, Y, d, h1, h2.below hb, h3.below hb⟩
theorem PN.put {W W' : World} {u : Value} {n k : Nat} (h : PN u n W) (hp : Put W W' k) : PN u n W' := by
  obtain ⟨X, c, h1, h2⟩ := h; exact ⟨X, c, h1, hp.nat h2⟩
theorem PII.put {W W' : World} {u : Value} {q r : Int} {k : Nat} (h : PII u q r W) (hp : Put W W' k) : PII u q r W' := by
  obtain ⟨X, c, Y, d, h1, h2, h3⟩ := h; exact ⟨X, c, Y, d, h1, hp.nat h2, hp.nat h3⟩
theorem shf_up (a : Int) (k : Nat) : ival (sg a) (mg a * 2 ^ k) = shf a (k : Int) := by
  rcases Int.lt_or_le a 0 with h | h
  · have := shf_bn (n := (k : Int)) h (Int.natCast_nonneg k)
    rw [Int.toNat_natCast] at this
    rw [sg_t h]; exact this
  · have := shf_nn (n := (k : Int)) h (Int.natCast_nonneg k)
    rw [Int.toNat_natCast] at this
    rw [sg_f h]; exact this
theorem shf_dn (a : Int) {n : Int} {k : Nat} (h : -n = (k : Int)) (h0 : n < 0) : a / (ival false (2 ^ k)) = shf a n := by
  unfold shf; rw [if_neg (by omega), h, Int.toNat_natCast, ival_false, Int.natCast_pow]; rfl
theorem zshift_u (aA : Option Addr) (ac : Nat) (a : Int) (n : Int) (w : World) (ha : NatV w aA ac (mg a))  (la : nl (mg a) ≤ 1048576) (n0 : 0 ≤ n) (n1 : n ≤ 16777216) :
    Calls Tryz.prog 127 #[.agg #[.bool (sg a), .slice aA (nl (mg a)) ac], .int .i64 n] w (RetI w (shf a n)) := by
  obtain ⟨k, rfl⟩ := Int.eq_ofNat_of_zero_le n0
  have t1 : decide (0 ≤ (k : Int)) = true := by simp
  have hv := shf_up a k
  have hk : k ≤ 16777216 := by omega
  have hs := nl_shl (mg a) k
  replace hv := Lib.hid hv
  obtain ⟨hb1, Ra, Rr⟩ := bx2 w #[.bool (sg a), .slice aA (nl (mg a)) ac] 24 #[.bool false, .slice none 0 0] 24
  replace ha := ha.below hb1
  have HBT := hb1
  clear hb1
  have qa0 := Ra.c (i := 0) rfl
  have qa1 := Ra.c (i := 1) rfl
  have qr0 := Rr.c (i := 0) rfl
  have qr1 := Rr.c (i := 1) rfl
  go_enter Tryz.func127, Tryz.ntmps127
  go_wp2_with (fail)
  have hd2 := drb (((w.alloc (.cells #[.bool (sg a), .slice aA (nl (mg a)) ac] 24)).alloc (.cells #[.bool false, .slice none 0 0] 24)))
  replace ha := ha.below hd2
  replace Ra := Ra.below hd2
  replace qa0 := cbl hd2 qa0
  replace qa1 := cbl hd2 qa1
  replace Rr := Rr.below hd2
  replace qr0 := cbl hd2 qr0
  replace qr1 := cbl hd2 qr1
  replace HBT := Below.cons HBT hd2
  clear hd2
  obtain ⟨m, Em⟩ : ∃ zq : Nat, zq = mg a * 2 ^ k := ⟨_, rfl⟩
  have Bm : nl m ≤ 1099511627776 := by rw [Em]; omega
  have C2_0 := fun (W : World) (h1 : NatV W aA ac (mg a)) => rshl_c aA ac (mg a) k W h1 (by omega) (by omega)
  simp only [← Em] at C2_0
  replace Em := Lib.hid Em
  replace C2_0 := Lib.hid C2_0
  obtain ⟨z, Ez⟩ : ∃ zq : Int, zq = ival (sg a) m := ⟨_, rfl⟩
  have C2_1 := fun (W : World) (A : Option Addr) (c : Nat) (h1 : NatV W A c m) => rz_c (sg a) A c m W h1 (by omega)
  simp only [← Ez] at C2_1
  replace Ez := Lib.hid Ez
  replace C2_1 := Lib.hid C2_1
  go_region_held3 (fun W => W.cell? ⟨w.heap.size, 0, none⟩ = some (.bool (sg a)) ∧ W.cell? ⟨w.heap.size, 1, none⟩ = some (.slice aA (nl (mg a)) ac))
    (first
      | exact ⟨qa0, qa1⟩
      | exact ⟨qa0_3, qa1_3⟩
      | exact ⟨qa0_4, qa1_4⟩
      | exact ⟨((Ra_4.other2 (by simp <;> omega)).c (i := 0) rfl), ((Ra_4.other2 (by simp <;> omega)).c (i := 1) rfl)⟩
      | go_keep)
    (first
      | (go_at_call 130; (with_reducible refine (C2_0.out _ ha).mono ?_); rintro e W3 ⟨Xm, cm, rfl, hm, hb3⟩; have ha_3 := ha.below hb3; have Ra_3 := Ra.below hb3; have qa0_3 := cbl hb3 qa0; have qa1_3 := cbl hb3 qa1; have Rr_3 := Rr.below hb3; have qr0_3 := cbl hb3 qr0; have qr1_3 := cbl hb3 qr1; have HBT_3 := Below.cons HBT hb3)
      | (go_at_call 56; (with_reducible refine (C2_1.out _ _ _ hm).mono ?_); rintro e W4 ⟨Xz, cz, rfl, hz, hb4⟩; have ha_4 := ha_3.below hb4; have Ra_4 := Ra_3.below hb4; have qa0_4 := cbl hb4 qa0_3; have qa1_4 := cbl hb4 qa1_3; have Rr_4 := Rr_3.below hb4; have qr0_4 := cbl hb4 qr0_3; have qr1_4 := cbl hb4 qr1_3; have hm_4 := hm.below hb4; have HBT_4 := Below.cons HBT_3 hb4; have fz0 := Rr_4.f (i := 0); have fz1 := Rr_4.f (i := 1)))
  all_goals (try go_wp2_with (fail))
  have hzz : z = (shf a (k : Int)) := by rw [Ez.out, Em.out]; exact hv.out
  subst hzz
  have RS := Rr_4.store2 (.bool (sg (((shf a (k : Int)))))) (.slice Xz (nl (mg (((shf a (k : Int)))))) cz)
  have e0 := RS.c (i := 0) rfl
  have e1 := RS.c (i := 1) rfl
  refine bodyPost_ret (v := .agg #[.bool (sg (((shf a (k : Int))))), .slice Xz (nl (mg (((shf a (k : Int)))))) cz]) (by simp [results, Tryz.results127, go_sem, e0, e1]) rfl ?_
  exact ⟨Xz, cz, rfl, (Rr_4.keep2 (nuB rfl) hz), (Below.store2 HBT_4 (by first | exact Nat.le_refl _ | omega))⟩
theorem zshift_d (aA : Option Addr) (ac : Nat) (a : Int) (n : Int) (w : World) (ha : NatV w aA ac (mg a))  (la : nl (mg a) ≤ 1048576) (n0 : n < 0) (n1 : -16777216 ≤ n) :
    Calls Tryz.prog 127 #[.agg #[.bool (sg a), .slice aA (nl (mg a)) ac], .int .i64 n] w (RetI w (shf a n)) := by
  obtain ⟨k, hk⟩ := Int.eq_ofNat_of_zero_le (show 0 ≤ -n by omega)
  have t1 : decide (0 ≤ n) = false := by simp; exact n0
  have lk : k ≤ 16777216 := by omega
  have Wk : IntKind.i64.wrap (k : Int) = (k : Int) := IntWalk.i64_in _ (by omega)
  have hv := shf_dn a hk n0
  obtain ⟨p, Ep⟩ : ∃ z : Nat, z = 1 * 2 ^ k := ⟨_, rfl⟩
  have Np : nl p ≤ 1048576 := by rw [Ep, Nat.one_mul, nl_two_pow]; omega
  have C1 := fun (W : World) (A : Option Addr) (c : Nat) (h1 : NatV W A c 1) => rshl_c A c 1 k W h1 (by rw [nl_one]; decide) (by omega)
  rw [← Ep] at C1
  obtain ⟨pz, Epz⟩ : ∃ z : Int, z = ival false p := ⟨_, rfl⟩
  have C2 := fun (W : World) (A : Option Addr) (c : Nat) (h1 : NatV W A c p) => rz_c false A c p W h1 (by omega)
  rw [← Epz] at C2
  have pz0 : pz ≠ 0 := by rw [Epz, ival_false, Ep]; have := Nat.two_pow_pos k; omega
  have Npz : nl (mg pz) ≤ 1048576 := by rw [Epz, mg_ival]; exact Np
  obtain ⟨q, Eq⟩ : ∃ z : Int, z = a / pz := ⟨_, rfl⟩
  obtain ⟨r, Er⟩ : ∃ z : Int, z = a % pz := ⟨_, rfl⟩
  have C3 := fun (W : World) (A : Option Addr) (c : Nat) (h1 : NatV W aA ac (mg a)) (h2 : NatV W A c (mg pz)) => zdiv_c aA ac a A c pz W h1 h2 (by omega) (by omega) pz0
  rw [← Eq, ← Er] at C3
  have eqz : q = shf a n := by rw [Eq, Epz, Ep, Nat.one_mul]; exact hv
  replace hv := Lib.hid hv
  replace Ep := Lib.hid Ep
  replace Epz := Lib.hid Epz
  replace Eq := Lib.hid Eq
  replace Er := Lib.hid Er
  replace C1 := Lib.hid C1
  replace C2 := Lib.hid C2
  replace C3 := Lib.hid C3
  replace eqz := Lib.hid eqz
  obtain ⟨hb1, Ra, Rr⟩ := bx2 w #[.bool (sg a), .slice aA (nl (mg a)) ac] 24 #[.bool false, .slice none 0 0] 24
  replace ha := ha.below hb1
  have HBT := hb1
  clear hb1
  have qa0 := Ra.c (i := 0) rfl
  have qa1 := Ra.c (i := 1) rfl
  have qr0 := Rr.c (i := 0) rfl
  have qr1 := Rr.c (i := 1) rfl
  go_enter Tryz.func127, Tryz.ntmps127
  go_wp2_with (fail)
  generalize hW0 : ((w.alloc (.cells #[.bool (sg a), .slice aA (nl (mg a)) ac] 24)).alloc (.cells #[.bool false, .slice none 0 0] 24)) = W0 at *
  replace hW0 := Lib.hid hW0
  refine wp_region_inv (fun E a' w' => ∃ (u18 u19 u20 u21 u22 u23 u24 u17 u25 u26 u27 u5 u6 u7 : Value),
    a' = { tmps := #[.agg #[.bool (sg a), .slice aA (nl (mg a)) ac], .int .i64 n, .pointer (some ⟨w.heap.size, 0, none⟩), undef, .pointer (some ⟨(w.heap.size + 1), 0, none⟩), u5, u6, u7, .int .i64 n, .bool false, undef, undef, undef, undef, undef, undef, undef, u17, u18, u19, u20, u21, u22, u23, u24, u25, u26, u27, undef], defers := [] } ∧
    (E 0 = true → u18 = .agg #[.bool (sg a), .slice aA (nl (mg a)) ac]) ∧
    (E 1 = true → PN u19 1 w') ∧
    (E 2 = true → u20 = .int .i64 n) ∧
    (E 3 = true → u21 = .int .i64 k) ∧
    (E 4 = true → PN u22 p w') ∧
    (E 5 = true → PI u23 pz w') ∧
    (E 6 = true → PII u24 q r w') ∧
    (E 7 = true → PII u17 q r w') ∧
    (E 8 = true → PI u25 q w') ∧
    (E 9 = true → PI u26 r w') ∧
    (E 10 = true → u27 = .int .i64 0) ∧
    (E 11 = true → PB2 24 W0.heap.size u5 w') ∧
    (E 12 = true → PB2 24 W0.heap.size u6 w') ∧
    (E 13 = true → PBI W0.heap.size u5 q w') ∧
    (E 14 = true → PBI W0.heap.size u6 r w') ∧
    (E 15 = true → u7 = .int .i64 0) ∧
    (E 13 = true → E 11 = true) ∧
    (E 14 = true → E 12 = true) ∧
    (E 11 = true → E 12 = true → u5 ≠ u6) ∧
    Below W0.heap.size W0 w') (by kernel_rfl) (by kernel_rfl) ?init ?fin ?step
  case init => exact ⟨_, _, _, _, _, _, _, _, _, _, _, _, _, _, rfl, by simp, by simp, by simp, by simp, by simp, by simp, by simp, by simp, by simp, by simp, by simp, by simp, by simp, by simp, by simp, by simp, by simp, by simp, by simp, (Below.refl _ _).drew⟩
  case step =>
    rintro E a' w' i ⟨u18, u19, u20, u21, u22, u23, u24, u17, u25, u26, u27, u5, u6, u7, rfl, h0, h1, h2, h3, h4, h5, h6, h7, h8, h9, h10, h11, h12, h13, h14, h15, hD13, hD14, hN11_12, hB⟩ hi hEi hdep
    have qa0 := cbl hB qa0
    have qa1 := cbl hB qa1
    obtain rfl | rfl | rfl | rfl | rfl | rfl | rfl | rfl | rfl | rfl | rfl | rfl | rfl | rfl | rfl | rfl : i = 0 ∨ i = 1 ∨ i = 2 ∨ i = 3 ∨ i = 4 ∨ i = 5 ∨ i = 6 ∨ i = 7 ∨ i = 8 ∨ i = 9 ∨ i = 10 ∨ i = 11 ∨ i = 12 ∨ i = 13 ∨ i = 14 ∨ i = 15 := by simp at hi; omega
    · skip
      refine wpOp_step rfl (fun K' hK' => ?_)
      go_simp
      refine hK' _ _ ?_
      exact ⟨_, _, _, _, _, _, _, _, _, _, _, _, _, _, rfl, fun _ => rfl, kd h1, kd h2, kd h3, kd h4, kd h5, kd h6, kd h7, kd h8, kd h9, kd h10, kd h11, kd h12, kd h13, kd h14, kd h15, (fun h => by have := hD13 (by simpa using h); simpa using this), (fun h => by have := hD14 (by simpa using h); simpa using this), (fun h k => hN11_12 (by simpa using h) (by simpa using k)), hB⟩
    · skip
      have kb : Below w'.heap.size w' (w'.alloc (.cells #[.int .u32 1] 65)) := (Below.refl _ _).alloc (Nat.le_refl _) _
      refine wpOp_step rfl (fun K' hK' => ?_)
      go_simp
      refine hK' _ _ ?_
      exact ⟨_, _, _, _, _, _, _, _, _, _, _, _, _, _, rfl, kd h0, fun _ => ⟨some ⟨w'.heap.size, 0, none⟩, 1, by rw [nl_one], nat_one _ _ (heap_alloc_new w' (.cells #[.int .u32 1] 65))⟩, kd h2, kd h3, kp h4 (fun h => h.below kb), kp h5 (fun h => h.below kb), kp h6 (fun h => h.below kb), kp h7 (fun h => h.below kb), kp h8 (fun h => h.below kb), kp h9 (fun h => h.below kb), kd h10, kp h11 (fun h => h.below kb), kp h12 (fun h => h.below kb), kp h13 (fun h => h.below kb), kp h14 (fun h => h.below kb), kd h15, (fun h => by have := hD13 (by simpa using h); simpa using this), (fun h => by have := hD14 (by simpa using h); simpa using this), (fun h k => hN11_12 (by simpa using h) (by simpa using k)), Below.cons hB kb⟩
    · skip
      refine wpOp_step rfl (fun K' hK' => ?_)
      go_simp
      refine hK' _ _ ?_
      exact ⟨_, _, _, _, _, _, _, _, _, _, _, _, _, _, rfl, kd h0, kd h1, fun _ => rfl, kd h3, kd h4, kd h5, kd h6, kd h7, kd h8, kd h9, kd h10, kd h11, kd h12, kd h13, kd h14, kd h15, (fun h => by have := hD13 (by simpa using h); simpa using this), (fun h => by have := hD14 (by simpa using h); simpa using this), (fun h k => hN11_12 (by simpa using h) (by simpa using k)), hB⟩
    · skip
      have d2 := hdep _ rfl ⟨2, .data⟩ (by simp) rfl
      obtain rfl := h2 d2
      refine wpOp_step rfl (fun K' hK' => ?_)
      go_simp
      refine hK' _ _ ?_
      exact ⟨_, _, _, _, _, _, _, _, _, _, _, _, _, _, rfl, kd h0, kd h1, kd h2, fun _ => rfl, kd h4, kd h5, kd h6, kd h7, kd h8, kd h9, kd h10, kd h11, kd h12, kd h13, kd h14, kd h15, (fun h => by have := hD13 (by simpa using h); simpa using this), (fun h => by have := hD14 (by simpa using h); simpa using this), (fun h k => hN11_12 (by simpa using h) (by simpa using k)), hB⟩
    · skip
      have d1 := hdep _ rfl ⟨1, .data⟩ (by simp) rfl
      obtain ⟨X_1, c_1, rfl, k_1⟩ := h1 d1
      have d3 := hdep _ rfl ⟨3, .data⟩ (by simp) rfl
      obtain rfl := h3 d3
      refine wpOp_step rfl (fun K' hK' => ?_)
      go_simp
      refine (Calls.mono (C1.out w' _ _ k_1) ?_)
      rintro e W1 ⟨Xr, cr, rfl, kr, kb⟩
      refine hK' _ _ ?_
      exact ⟨_, _, _, _, _, _, _, _, _, _, _, _, _, _, rfl, kd h0, kp h1 (fun h => h.below kb), kd h2, kd h3, fun _ => ⟨Xr, cr, rfl, kr⟩, kp h5 (fun h => h.below kb), kp h6 (fun h => h.below kb), kp h7 (fun h => h.below kb), kp h8 (fun h => h.below kb), kp h9 (fun h => h.below kb), kd h10, kp h11 (fun h => h.below kb), kp h12 (fun h => h.below kb), kp h13 (fun h => h.below kb), kp h14 (fun h => h.below kb), kd h15, (fun h => by have := hD13 (by simpa using h); simpa using this), (fun h => by have := hD14 (by simpa using h); simpa using this), (fun h k => hN11_12 (by simpa using h) (by simpa using k)), Below.cons hB kb⟩
    · skip
      have d4 := hdep _ rfl ⟨4, .data⟩ (by simp) rfl
      obtain ⟨X_4, c_4, rfl, k_4⟩ := h4 d4
      refine wpOp_step rfl (fun K' hK' => ?_)
      go_simp
      refine (Calls.mono (C2.out w' _ _ k_4) ?_)
      rintro e W1 ⟨Xr, cr, rfl, kr, kb⟩
      refine hK' _ _ ?_
      exact ⟨_, _, _, _, _, _, _, _, _, _, _, _, _, _, rfl, kd h0, kp h1 (fun h => h.below kb), kd h2, kd h3, kp h4 (fun h => h.below kb), fun _ => ⟨Xr, cr, rfl, kr⟩, kp h6 (fun h => h.below kb), kp h7 (fun h => h.below kb), kp h8 (fun h => h.below kb), kp h9 (fun h => h.below kb), kd h10, kp h11 (fun h => h.below kb), kp h12 (fun h => h.below kb), kp h13 (fun h => h.below kb), kp h14 (fun h => h.below kb), kd h15, (fun h => by have := hD13 (by simpa using h); simpa using this), (fun h => by have := hD14 (by simpa using h); simpa using this), (fun h k => hN11_12 (by simpa using h) (by simpa using k)), Below.cons hB kb⟩
    · skip
      have d0 := hdep _ rfl ⟨0, .data⟩ (by simp) rfl
      obtain rfl := h0 d0
      have d5 := hdep _ rfl ⟨5, .data⟩ (by simp) rfl
      obtain ⟨X_5, c_5, rfl, k_5⟩ := h5 d5
      refine wpOp_step rfl (fun K' hK' => ?_)
      go_simp
      refine (Calls.mono (C3.out w' _ _ (ha.below hB) k_5) ?_)
      rintro e W1 ⟨Xr, cr, Yr, dr, rfl, kr, lr, kb⟩
      refine hK' _ _ ?_
      exact ⟨_, _, _, _, _, _, _, _, _, _, _, _, _, _, rfl, kd h0, kp h1 (fun h => h.below kb), kd h2, kd h3, kp h4 (fun h => h.below kb), kp h5 (fun h => h.below kb), fun _ => ⟨Xr, cr, Yr, dr, rfl, kr, lr⟩, kp h7 (fun h => h.below kb), kp h8 (fun h => h.below kb), kp h9 (fun h => h.below kb), kd h10, kp h11 (fun h => h.below kb), kp h12 (fun h => h.below kb), kp h13 (fun h => h.below kb), kp h14 (fun h => h.below kb), kd h15, (fun h => by have := hD13 (by simpa using h); simpa using this), (fun h => by have := hD14 (by simpa using h); simpa using this), (fun h k => hN11_12 (by simpa using h) (by simpa using k)), Below.cons hB kb⟩
    · skip
      have d6 := hdep _ rfl ⟨6, .data⟩ (by simp) rfl
      obtain ⟨X_6, c_6, Y_6, d_6, rfl, k_6, l_6⟩ := h6 d6
      refine wpOp_step rfl (fun K' hK' => ?_)
      go_simp
      refine hK' _ _ ?_
      exact ⟨_, _, _, _, _, _, _, _, _, _, _, _, _, _, rfl, kd h0, kd h1, kd h2, kd h3, kd h4, kd h5, kd h6, fun _ => ⟨X_6, c_6, Y_6, d_6, rfl, k_6, l_6⟩, kd h8, kd h9, kd h10, kd h11, kd h12, kd h13, kd h14, kd h15, (fun h => by have := hD13 (by simpa using h); simpa using this), (fun h => by have := hD14 (by simpa using h); simpa using this), (fun h k => hN11_12 (by simpa using h) (by simpa using k)), hB⟩
    · skip
      have d7 := hdep _ rfl ⟨7, .data⟩ (by simp) rfl
      obtain ⟨X_7, c_7, Y_7, d_7, rfl, k_7, l_7⟩ := h7 d7
      refine wpOp_step rfl (fun K' hK' => ?_)
      go_simp
      refine hK' _ _ ?_
      exact ⟨_, _, _, _, _, _, _, _, _, _, _, _, _, _, rfl, kd h0, kd h1, kd h2, kd h3, kd h4, kd h5, kd h6, kd h7, fun _ => ⟨X_7, c_7, rfl, k_7⟩, kd h9, kd h10, kd h11, kd h12, kd h13, kd h14, kd h15, (fun h => by have := hD13 (by simpa using h); simpa using this), (fun h => by have := hD14 (by simpa using h); simpa using this), (fun h k => hN11_12 (by simpa using h) (by simpa using k)), hB⟩
    · skip
      have d7 := hdep _ rfl ⟨7, .data⟩ (by simp) rfl
      obtain ⟨X_7, c_7, Y_7, d_7, rfl, k_7, l_7⟩ := h7 d7
      refine wpOp_step rfl (fun K' hK' => ?_)
      go_simp
      refine hK' _ _ ?_
      exact ⟨_, _, _, _, _, _, _, _, _, _, _, _, _, _, rfl, kd h0, kd h1, kd h2, kd h3, kd h4, kd h5, kd h6, kd h7, kd h8, fun _ => ⟨Y_7, d_7, rfl, l_7⟩, kd h10, kd h11, kd h12, kd h13, kd h14, kd h15, (fun h => by have := hD13 (by simpa using h); simpa using this), (fun h => by have := hD14 (by simpa using h); simpa using this), (fun h k => hN11_12 (by simpa using h) (by simpa using k)), hB⟩
    · skip
      have d7 := hdep _ rfl ⟨7, .data⟩ (by simp) rfl
      obtain ⟨X_7, c_7, Y_7, d_7, rfl, k_7, l_7⟩ := h7 d7
      refine wpOp_step rfl (fun K' hK' => ?_)
      go_simp
      refine hK' _ _ ?_
      exact ⟨_, _, _, _, _, _, _, _, _, _, _, _, _, _, rfl, kd h0, kd h1, kd h2, kd h3, kd h4, kd h5, kd h6, kd h7, kd h8, kd h9, fun _ => rfl, kd h11, kd h12, kd h13, kd h14, kd h15, (fun h => by have := hD13 (by simpa using h); simpa using this), (fun h => by have := hD14 (by simpa using h); simpa using this), (fun h k => hN11_12 (by simpa using h) (by simpa using k)), hB⟩
    · skip
      have kb : Below w'.heap.size w' (w'.alloc (.cells #[.bool false, .slice none 0 0] 24)) := (Below.refl _ _).alloc (Nat.le_refl _) _
      refine wpOp_step rfl (fun K' hK' => ?_)
      go_simp
      refine hK' _ _ ?_
      exact ⟨_, _, _, _, _, _, _, _, _, _, _, _, _, _, rfl, kd h0, kp h1 (fun h => h.below kb), kd h2, kd h3, kp h4 (fun h => h.below kb), kp h5 (fun h => h.below kb), kp h6 (fun h => h.below kb), kp h7 (fun h => h.below kb), kp h8 (fun h => h.below kb), kp h9 (fun h => h.below kb), kd h10, fun _ => ⟨_, _, _, rfl, hB.size, ⟨at_new rfl⟩, notU_bool _, notU_slice _ _ _⟩, kp h12 (fun h => h.below kb), (fun h => by have h2 := hD13 (by simpa using h); rw [hEi] at h2; cases h2), kp h14 (fun h => h.below kb), kd h15, (fun _ => by simp), (fun h => by have := hD14 (by simpa using h); simpa using this), (fun _ h => by obtain ⟨n2, e2, l2⟩ := (h12 (by simpa using h)).lt; rw [e2]; intro e3; simp at e3 <;> omega), Below.cons hB kb⟩
    · skip
      have kb : Below w'.heap.size w' (w'.alloc (.cells #[.bool false, .slice none 0 0] 24)) := (Below.refl _ _).alloc (Nat.le_refl _) _
      refine wpOp_step rfl (fun K' hK' => ?_)
      go_simp
      refine hK' _ _ ?_
      exact ⟨_, _, _, _, _, _, _, _, _, _, _, _, _, _, rfl, kd h0, kp h1 (fun h => h.below kb), kd h2, kd h3, kp h4 (fun h => h.below kb), kp h5 (fun h => h.below kb), kp h6 (fun h => h.below kb), kp h7 (fun h => h.below kb), kp h8 (fun h => h.below kb), kp h9 (fun h => h.below kb), kd h10, kp h11 (fun h => h.below kb), fun _ => ⟨_, _, _, rfl, hB.size, ⟨at_new rfl⟩, notU_bool _, notU_slice _ _ _⟩, kp h13 (fun h => h.below kb), (fun h => by have h2 := hD14 (by simpa using h); rw [hEi] at h2; cases h2), kd h15, (fun h => by have := hD13 (by simpa using h); simpa using this), (fun _ => by simp), (fun h _ => by obtain ⟨n2, e2, l2⟩ := (h11 (by simpa using h)).lt; rw [e2]; intro e3; simp at e3 <;> omega), Below.cons hB kb⟩
    · skip
      have d11 := hdep _ rfl ⟨11, .data⟩ (by simp) rfl
      obtain ⟨nb, z0, z1, rfl, hn, hb, nz0, nz1⟩ := h11 d11
      have d8 := hdep _ rfl ⟨8, .data⟩ (by simp) rfl
      obtain ⟨X_8, c_8, rfl, k_8⟩ := h8 d8
      have fz0 := hb.f (i := 0)
      have cz0 := hb.c (i := 0) rfl
      have fz1 := hb.f (i := 1)
      have cz1 := hb.c (i := 1) rfl
      have hp := hb.put2 (notU2 nz0 nz1) (.bool (sg q)) (.slice X_8 (nl (mg q)) c_8)
      have hs := hb.store2 (.bool (sg q)) (.slice X_8 (nl (mg q)) c_8)
      refine wpOp_step rfl (fun K' hK' => ?_)
      go_simp
      refine hK' _ _ ?_
      exact ⟨_, _, _, _, _, _, _, _, _, _, _, _, _, _, rfl, kd h0, kp h1 (fun h => h.put hp), kd h2, kd h3, kp h4 (fun h => h.put hp), kp h5 (fun h => h.put hp), kp h6 (fun h => h.put hp), kp h7 (fun h => h.put hp), kp h8 (fun h => h.put hp), kp h9 (fun h => h.put hp), kd h10, (fun _ => ⟨nb, _, _, rfl, hn, hs, notU_bool _, notU_slice _ _ _⟩), keepP' (by decide) h12 (fun e h => h.put hp (fun e3 => hN11_12 d11 (by simpa using e) e3.symm)), fun _ => ⟨nb, X_8, c_8, rfl, hn, hs, hp.nat k_8⟩, keepP' (by decide) h14 (fun e h => h.put hp (fun e3 => hN11_12 d11 (hD14 (by simpa using e)) e3.symm)), kd h15, (fun _ => by simp [d11]), (fun h => by have := hD14 (by simpa using h); simpa using this), (fun h k => hN11_12 (by simpa using h) (by simpa using k)), Below.store2 hB hn⟩
    · skip
      have d12 := hdep _ rfl ⟨12, .data⟩ (by simp) rfl
      obtain ⟨nb, z0, z1, rfl, hn, hb, nz0, nz1⟩ := h12 d12
      have d9 := hdep _ rfl ⟨9, .data⟩ (by simp) rfl
      obtain ⟨X_9, c_9, rfl, k_9⟩ := h9 d9
      have fz0 := hb.f (i := 0)
      have cz0 := hb.c (i := 0) rfl
      have fz1 := hb.f (i := 1)
      have cz1 := hb.c (i := 1) rfl
      have hp := hb.put2 (notU2 nz0 nz1) (.bool (sg r)) (.slice X_9 (nl (mg r)) c_9)
      have hs := hb.store2 (.bool (sg r)) (.slice X_9 (nl (mg r)) c_9)
      refine wpOp_step rfl (fun K' hK' => ?_)
      go_simp
      refine hK' _ _ ?_
      exact ⟨_, _, _, _, _, _, _, _, _, _, _, _, _, _, rfl, kd h0, kp h1 (fun h => h.put hp), kd h2, kd h3, kp h4 (fun h => h.put hp), kp h5 (fun h => h.put hp), kp h6 (fun h => h.put hp), kp h7 (fun h => h.put hp), kp h8 (fun h => h.put hp), kp h9 (fun h => h.put hp), kd h10, keepP' (by decide) h11 (fun e h => h.put hp (hN11_12 (by simpa using e) d12)), (fun _ => ⟨nb, _, _, rfl, hn, hs, notU_bool _, notU_slice _ _ _⟩), keepP' (by decide) h13 (fun e h => h.put hp (hN11_12 (hD13 (by simpa using e)) d12)), fun _ => ⟨nb, X_9, c_9, rfl, hn, hs, hp.nat k_9⟩, kd h15, (fun h => by have := hD13 (by simpa using h); simpa using this), (fun _ => by simp [d12]), (fun h k => hN11_12 (by simpa using h) (by simpa using k)), Below.store2 hB hn⟩
    · skip
      have d10 := hdep _ rfl ⟨10, .data⟩ (by simp) rfl
      obtain rfl := h10 d10
      refine wpOp_step rfl (fun K' hK' => ?_)
      go_simp
      refine hK' _ _ ?_
      exact ⟨_, _, _, _, _, _, _, _, _, _, _, _, _, _, rfl, kd h0, kd h1, kd h2, kd h3, kd h4, kd h5, kd h6, kd h7, kd h8, kd h9, kd h10, kd h11, kd h12, kd h13, kd h14, fun _ => rfl, (fun h => by have := hD13 (by simpa using h); simpa using this), (fun h => by have := hD14 (by simpa using h); simpa using this), (fun h k => hN11_12 (by simpa using h) (by simpa using k)), hB⟩
  case fin =>
    rintro E a' w' ⟨u18, u19, u20, u21, u22, u23, u24, u17, u25, u26, u27, u5, u6, u7, rfl, h0, h1, h2, h3, h4, h5, h6, h7, h8, h9, h10, h11, h12, h13, h14, h15, hD13, hD14, hN11_12, hB⟩ hall
    obtain ⟨nbq, Xq, cq, rfl, hnq, Rq, hq⟩ := h13 (hall 13 (by simp))
    replace ha := ha.below hB
    replace Ra := Ra.below hB
    replace qa0 := cbl hB qa0
    replace qa1 := cbl hB qa1
    replace Rr := Rr.below hB
    replace qr0 := cbl hB qr0
    replace qr1 := cbl hB qr1
    replace HBT := Below.cons HBT hB
    have kvq := hnq
    have qq0 := Rq.c (i := 0) rfl
    have qq1 := Rq.c (i := 1) rfl
    have hz : w.heap.size + 2 = W0.heap.size := by rw [← hW0.out]; simp
    have fzr0 := Rr.f (i := 0)
    have fzr1 := Rr.f (i := 1)
    go_wp2_with (fail)
    have hzq : q = (shf a n) := by exact eqz.out
    subst hzq
    have RS := Rr.store2 (.bool (sg (((shf a n))))) (.slice Xq (nl (mg (((shf a n))))) cq)
    have e0 := RS.c (i := 0) rfl
    have e1 := RS.c (i := 1) rfl
    refine bodyPost_ret (v := .agg #[.bool (sg (((shf a n)))), .slice Xq (nl (mg (((shf a n))))) cq]) (by simp [results, Tryz.results127, go_sem, e0, e1]) rfl ?_
    exact ⟨Xq, cq, rfl, (Rr.keep2 (nuB rfl) hq), (Below.store2 HBT (by first | exact Nat.le_refl _ | omega))⟩
theorem zshift_c (aA : Option Addr) (ac : Nat) (a : Int) (n : Int) (w : World) (ha : NatV w aA ac (mg a)) (la : nl (mg a) ≤ 1048576) (ln : -16777216 ≤ n ∧ n ≤ 16777216) :
    Calls Tryz.prog 127 #[.agg #[.bool (sg a), .slice aA (nl (mg a)) ac], .int .i64 n] w (RetI w (shf a n)) := by
  by_cases h : 0 ≤ n
  · exact zshift_u aA ac a n w ha la h ln.2
  · exact zshift_d aA ac a n w ha la (by omega) ln.1
theorem rgcd_c (aA : Option Addr) (ac a : Nat) (bA : Option Addr) (bc b : Nat) (w : World) (ha : NatV w aA ac a) (hb : NatV w bA bc b) (la : nl a ≤ 16777216) (lb : nl b ≤ 16777216) :
    Calls Tryz.prog 33 #[.slice aA (nl a) ac, .slice bA (nl b) bc] w (RetN w (Nat.gcd a b)) := by
  go_enter Tryz.func33, Tryz.ntmps33
  go_wp2_with (fail)
  go_loopw [0, 1] (fun va vb wr => ∃ (x y : Nat) (X : Option Addr) (cx : Nat) (Y : Option Addr) (cy : Nat), va = .slice X (nl x) cx ∧ vb = .slice Y (nl y) cy ∧ NatV wr X cx x ∧ NatV wr Y cy y ∧ Below w.heap.size w wr ∧ Hid (Nat.gcd x y = Nat.gcd a b) ∧ nl x ≤ 16777216 ∧ nl y ≤ 16777216) (fun va vb wr => natAt wr (some vb))
  case atStart => exact ⟨a, b, aA, ac, bA, bc, rfl, rfl, ha, hb, Below.refl _ _, Lib.hid rfl, la, lb⟩
  case round =>
    obtain ⟨x, y, X, cx, Y, cy, rfl, rfl, hX, hY, hbr, hg, lx, ly⟩ := hrel
    by_cases h0 : y = 0
    · have t1 : decide (0 < (nl y : Int)) = false := by rw [h0, nl_zero]; rfl
      have t2 : decide (0 < nl y) = false := by rw [h0, nl_zero]; rfl
      have ev : x = Nat.gcd a b := by rw [← hg.out, h0, Nat.gcd_zero_right]
      replace ev := Lib.hid ev
      replace h0 := Lib.hid h0
      go_wp2_with (fail)
      go_ret
      rw [← ev.out]
      exact ⟨X, cx, rfl, hX, hbr⟩
    · have t1 : decide (0 < (nl y : Int)) = true := by have := nl_pos.2 h0; simp; omega
      have t2 : decide (0 < nl y) = true := by have := nl_pos.2 h0; simp; omega
      have CD := rdiv_c X cx x Y cy y wr hX hY lx ly (by omega)
      obtain ⟨r, Er⟩ : ∃ z : Nat, z = x % y := ⟨_, rfl⟩
      rw [← Er] at CD
      have lr : nl r ≤ 16777216 := by rw [Er]; exact Nat.le_trans (nl_mod_le x y) lx
      have hr : r < y := by rw [Er]; exact Nat.mod_lt _ (by omega)
      have hg2 : Nat.gcd y r = Nat.gcd a b := by rw [Er, ← hg.out, Nat.gcd_comm x y, Nat.gcd_rec y x, Nat.gcd_comm]
      replace hg2 := Lib.hid hg2
      replace CD := Lib.hid CD
      replace Er := Lib.hid Er
      go_wp2_with (fail)
      refine CD.out.mono ?_
      rintro e w1 ⟨Q, cq, R, cr, rfl, hQ, hR, hb1⟩
      have hY1 := hY.below hb1
      have hmeas : natAt w1 (some (.slice R (nl r) cr)) < natAt wr (some (.slice Y (nl y) cy)) := by rw [hR.at_, hY.at_]; exact hr
      replace hmeas := Lib.hid hmeas
      go_wp2_with (fail)
      go_roundw
      case rel => exact ⟨y, r, Y, cy, R, cr, rfl, rfl, hY1, hR, hbr.cons hb1, hg2, ly, lr⟩
      case measure => exact hmeas.out
def PIb (u : Value) (q : Int) (W : World) : Prop := ∃ X c, u = .tuple #[.agg #[.bool (sg q), .slice X (nl (mg q)) c], .bool true] ∧ NatV W X c (mg q)
theorem PIb.below {W W' : World} {u : Value} {q : Int} (h : PIb u q W) (hb : Below W.heap.size W W') : PIb u q W' := by
  obtain ⟨X, c, h1, h2⟩ := h; exact ⟨X, c, h1, h2.below hb⟩
theorem PIb.put {W W' : World} {u : Value} {q : Int} {k : Nat} (h : PIb u q W) (hp : Put W W' k) : PIb u q W' := by
  obtain ⟨X, c, h1, h2⟩ := h; exact ⟨X, c, h1, hp.nat h2⟩
theorem sg_natc (n : Nat) : sg (n : Int) = false := sg_f (Int.natCast_nonneg n)
theorem r9nat_c (aA : Option Addr) (ac a : Nat) (w : World) (ha : NatV w aA ac a)  :
    Calls Tryz.prog 122 #[.slice aA (nl a) ac] w (RetI w (a : Int)) := by
  obtain ⟨hb1, Rr⟩ := bx1 w #[.bool false, .slice aA (nl a) ac] 24
  replace ha := ha.below hb1
  have HBT := hb1
  clear hb1
  have qr0 := Rr.c (i := 0) rfl
  have qr1 := Rr.c (i := 1) rfl
  go_enter Tryz.func122, Tryz.ntmps122
  go_wp2_with (fail)
  have e0 := Rr.c (i := 0) rfl
  have e1 := Rr.c (i := 1) rfl
  refine bodyPost_ret (v := .agg #[.bool false, .slice aA (nl a) ac]) (by simp [results, Tryz.results122, go_sem, e0, e1]) rfl ?_
  exact ⟨aA, ac, by rw [sg_natc, mg_nat], by rw [mg_nat]; exact ha, HBT⟩
theorem r9whole_c (aA : Option Addr) (ac : Nat) (a : Int) (w : World) (ha : NatV w aA ac (mg a))  :
    Calls Tryz.prog 83 #[.agg #[.bool (sg a), .slice aA (nl (mg a)) ac]] w (RetR w (a : Rat)) := by
  go_enter Tryz.func83, Tryz.ntmps83
  go_wp2_with (fail)
  obtain ⟨hb1, Ra, Rr, Rl⟩ := bx3 w #[.bool (sg a), .slice aA (nl (mg a)) ac] 24 #[.bool (sg a), .slice aA (nl (mg a)) ac, .slice (some ⟨w.heap.size + 1 + 1, 0, none⟩) 1 1] 41 #[.int .u32 1] 65
  replace ha := ha.below hb1
  have HBT := hb1
  clear hb1
  have qa0 := Ra.c (i := 0) rfl
  have qa1 := Ra.c (i := 1) rfl
  have qr0 := Rr.c (i := 0) rfl
  have qr1 := Rr.c (i := 1) rfl
  have qr2 := Rr.c (i := 2) rfl
  have ql0 := Rl.c (i := 0) rfl
  have hone := nat_one _ _ Rl.at_
  refine bodyPost_ret (v := .agg #[.bool (sg a), .slice aA (nl (mg a)) ac, .slice (some ⟨w.heap.size + 1 + 1, 0, none⟩) 1 1]) (by simp [results, Tryz.results83, go_sem, qr0, qr1, qr2]) rfl ?_
  exact ⟨aA, ac, some ⟨w.heap.size + 1 + 1, 0, none⟩, 1, by rw [Rat.num_intCast, Rat.den_intCast, nl_one], by rw [Rat.num_intCast]; exact ha, by rw [Rat.den_intCast]; exact hone, HBT⟩
theorem r9make_c (aA : Option Addr) (ac : Nat) (a : Int) (bA : Option Addr) (bc : Nat) (b : Int) (w : World) (ha : NatV w aA ac (mg a)) (hb : NatV w bA bc (mg b)) (la : nl (mg a) ≤ 1048576) (lb : nl (mg b) ≤ 1048576) (hb0 : 0 < b) :
    Calls Tryz.prog 110 #[.agg #[.bool (sg a), .slice aA (nl (mg a)) ac], .agg #[.bool (sg b), .slice bA (nl (mg b)) bc]] w (RetRe w (Rat.divInt a b)) := by
  obtain ⟨p1, p2, p3, p4, p5, p6, p7⟩ := gcd_parts (n := a) hb0
  have hne : b ≠ 0 := by omega
  have sb : sg b = false := sg_f (by omega)
  have t0 : ((nl (mg b) : Int) == 0) = false := ieqF (by have := nl_pos.2 (show mg b ≠ 0 from fun e => hne (mg_zero.1 e)); omega)
  have t1 : (nl (mg b) == 0) = false := by have := nl_pos.2 (show mg b ≠ 0 from fun e => hne (mg_zero.1 e)); simp; omega
  obtain ⟨g, Eg⟩ : ∃ g, g = Nat.gcd (mg a) (mg b) := ⟨_, rfl⟩
  rw [← Eg] at p1 p2 p3 p4 p5 p6 p7
  have lg : nl g ≤ 1048576 := by rw [Eg]; exact Nat.le_trans (nl_mono (Nat.gcd_le_right _ (mg_pos.2 hne))) lb
  have hg0 : (g : Int) ≠ 0 := by omega
  have lg2 : nl (mg (g : Int)) ≤ 1048576 := by rw [mg_nat]; omega
  have bm : ((mg b : Nat) : Int) = b := by unfold mg; omega
  obtain ⟨v, Ev⟩ : ∃ z : Int, z = b / (g : Int) := ⟨_, rfl⟩
  have CX := fun (W : World) (A : Option Addr) (c : Nat) (G : Option Addr) (x : Nat) (h1 : NatV W A c (mg b)) (h2 : NatV W G x (mg (g : Int))) => zexact_c A c b G x (g : Int) W h1 h2 lb lg2 hg0 p2
  rw [← Ev] at CX
  have CN := fun (W : World) (h1 : NatV W bA bc (mg b)) => r9nat_c bA bc (mg b) W h1
  rw [bm] at CN
  replace p1 := Lib.hid p1
  replace p2 := Lib.hid p2
  replace p4 := Lib.hid p4
  replace p5 := Lib.hid p5
  replace p6 := Lib.hid p6
  replace p7 := Lib.hid p7
  replace hb0 := Lib.hid hb0
  replace Ev := Lib.hid Ev
  replace CX := Lib.hid CX
  replace CN := Lib.hid CN
  replace bm := Lib.hid bm
  obtain ⟨hb1, Ra, Rb, Rr⟩ := bx3 w #[.bool (sg a), .slice aA (nl (mg a)) ac] 24 #[.bool false, .slice bA (nl (mg b)) bc] 24 #[.bool false, .slice none 0 0, .slice none 0 0] 41
  replace ha := ha.below hb1
  replace hb := hb.below hb1
  have HBT := hb1
  clear hb1
  have qa0 := Ra.c (i := 0) rfl
  have qa1 := Ra.c (i := 1) rfl
  have qb0 := Rb.c (i := 0) rfl
  have qb1 := Rb.c (i := 1) rfl
  have qr0 := Rr.c (i := 0) rfl
  have qr1 := Rr.c (i := 1) rfl
  have qr2 := Rr.c (i := 2) rfl
  go_enter Tryz.func110, Tryz.ntmps110
  go_wp2_with (fail)
  have CC := rgcd_c aA ac (mg a) bA bc (mg b) (((w.alloc (.cells #[.bool (sg a), .slice aA (nl (mg a)) ac] 24)).alloc (.cells #[.bool false, .slice bA (nl (mg b)) bc] 24)).alloc (.cells #[.bool false, .slice none 0 0, .slice none 0 0] 41)) ha hb (by omega) (by omega)
  rw [← Eg] at CC
  replace CC := Lib.hid CC
  replace Eg := Lib.hid Eg
  refine (Calls.mono CC.out ?_)
  rintro e W2 ⟨Xg, cg, rfl, hg, hb2⟩
  replace ha := ha.below hb2
  replace hb := hb.below hb2
  replace Ra := Ra.below hb2
  replace qa0 := cbl hb2 qa0
  replace qa1 := cbl hb2 qa1
  replace Rb := Rb.below hb2
  replace qb0 := cbl hb2 qb0
  replace qb1 := cbl hb2 qb1
  replace Rr := Rr.below hb2
  replace qr0 := cbl hb2 qr0
  replace qr1 := cbl hb2 qr1
  replace qr2 := cbl hb2 qr2
  replace HBT := Below.cons HBT hb2
  clear hb2
  go_wp2_with (fail)
  obtain ⟨gi, Egi⟩ : ∃ zq : Int, zq = (g : Int) := ⟨_, rfl⟩
  refine (Calls.mono (R := RetI W2 gi) (by rw [Egi]; with_reducible exact (r9nat_c Xg cg g _ hg)) ?_)
  replace Egi := Lib.hid Egi
  rintro e W3 ⟨Xgi, cgi, rfl, hgi, hb3⟩
  replace ha := ha.below hb3
  replace hb := hb.below hb3
  replace Ra := Ra.below hb3
  replace qa0 := cbl hb3 qa0
  replace qa1 := cbl hb3 qa1
  replace Rb := Rb.below hb3
  replace qb0 := cbl hb3 qb0
  replace qb1 := cbl hb3 qb1
  replace Rr := Rr.below hb3
  replace qr0 := cbl hb3 qr0
  replace qr1 := cbl hb3 qr1
  replace qr2 := cbl hb3 qr2
  replace hg := hg.below hb3
  replace HBT := Below.cons HBT hb3
  clear hb3
  have hzgi : gi = (g : Int) := by exact Egi.out
  subst hzgi
  have szr := Rr.lt
  obtain ⟨hb4, Rg⟩ := bx1 W3 #[.bool (sg (((g : Int)))), .slice Xgi (nl (mg (((g : Int))))) cgi] 24
  replace ha := ha.below hb4
  replace hb := hb.below hb4
  replace Ra := Ra.below hb4
  replace qa0 := cbl hb4 qa0
  replace qa1 := cbl hb4 qa1
  replace Rb := Rb.below hb4
  replace qb0 := cbl hb4 qb0
  replace qb1 := cbl hb4 qb1
  replace Rr := Rr.below hb4
  replace qr0 := cbl hb4 qr0
  replace qr1 := cbl hb4 qr1
  replace qr2 := cbl hb4 qr2
  replace hg := hg.below hb4
  replace hgi := hgi.below hb4
  replace HBT := Below.cons HBT hb4
  clear hb4
  have qg0 := Rg.c (i := 0) rfl
  have qg1 := Rg.c (i := 1) rfl
  go_wp2_with (fail)
  obtain ⟨u, Eu⟩ : ∃ zq : Int, zq = a / (g : Int) := ⟨_, rfl⟩
  have CE := zexact_c aA ac a Xgi cgi (g : Int) (W3.alloc (.cells #[.bool (sg (((g : Int)))), .slice Xgi (nl (mg (((g : Int))))) cgi] 24)) ha hgi la lg2 hg0 p1.out
  rw [← Eu] at CE
  replace Eu := Lib.hid Eu
  replace CE := Lib.hid CE
  refine (Calls.mono CE.out ?_)
  clear CE
  rintro e W5 ⟨Xu, cu, rfl, hu, hb5⟩
  replace ha := ha.below hb5
  replace hb := hb.below hb5
  replace Ra := Ra.below hb5
  replace qa0 := cbl hb5 qa0
  replace qa1 := cbl hb5 qa1
  replace Rb := Rb.below hb5
  replace qb0 := cbl hb5 qb0
  replace qb1 := cbl hb5 qb1
  replace Rr := Rr.below hb5
  replace qr0 := cbl hb5 qr0
  replace qr1 := cbl hb5 qr1
  replace qr2 := cbl hb5 qr2
  replace hg := hg.below hb5
  replace hgi := hgi.below hb5
  replace Rg := Rg.below hb5
  replace qg0 := cbl hb5 qg0
  replace qg1 := cbl hb5 qg1
  replace HBT := Below.cons HBT hb5
  clear hb5
  have szg := Rg.lt
  obtain ⟨hb6, Ru⟩ := bx1 W5 #[.bool (sg u), .slice Xu (nl (mg u)) cu] 24
  replace ha := ha.below hb6
  replace hb := hb.below hb6
  replace Ra := Ra.below hb6
  replace qa0 := cbl hb6 qa0
  replace qa1 := cbl hb6 qa1
  replace Rb := Rb.below hb6
  replace qb0 := cbl hb6 qb0
  replace qb1 := cbl hb6 qb1
  replace Rr := Rr.below hb6
  replace qr0 := cbl hb6 qr0
  replace qr1 := cbl hb6 qr1
  replace qr2 := cbl hb6 qr2
  replace hg := hg.below hb6
  replace hgi := hgi.below hb6
  replace Rg := Rg.below hb6
  replace qg0 := cbl hb6 qg0
  replace qg1 := cbl hb6 qg1
  replace hu := hu.below hb6
  replace HBT := Below.cons HBT hb6
  clear hb6
  have qu0 := Ru.c (i := 0) rfl
  have qu1 := Ru.c (i := 1) rfl
  go_wp2_with (fail)
  clear t0 t1
  replace sb := Lib.hid sb
  have szu := Ru.lt
  generalize hW0 : (W5.alloc (.cells #[.bool (sg u), .slice Xu (nl (mg u)) cu] 24)) = W0 at *
  replace hW0 := Lib.hid hW0
  refine wp_region_inv (fun E a' w' => ∃ (u29 u30 u31 u32 u33 u28 u34 u35 u9 u10 : Value),
    a' = { tmps := #[.agg #[.bool (sg a), .slice aA (nl (mg a)) ac], .agg #[.bool false, .slice bA (nl (mg b)) bc], .pointer (some ⟨w.heap.size, 0, none⟩), .pointer (some ⟨(w.heap.size + 1), 0, none⟩), .pointer (some ⟨(w.heap.size + 1 + 1), 0, none⟩), .int .i64 0, .pointer (some ⟨W3.heap.size, 0, none⟩), .pointer (some ⟨W5.heap.size, 0, none⟩), .bool true, u9, u10, .pointer (some ⟨(w.heap.size + 1), 1, none⟩), .slice bA (nl (mg b)) bc, .int .i64 (nl (mg b)), .bool false, undef, .pointer (some ⟨w.heap.size, 1, none⟩), .slice aA (nl (mg a)) ac, .pointer (some ⟨(w.heap.size + 1), 1, none⟩), .slice bA (nl (mg b)) bc, .slice Xg (nl g) cg, .agg #[.bool (sg (((g : Int)))), .slice Xgi (nl (mg (((g : Int))))) cgi], .tuple #[.agg #[.bool (sg u), .slice Xu (nl (mg u)) cu], .bool true], .agg #[.bool (sg a), .slice aA (nl (mg a)) ac], .agg #[.bool (sg (((g : Int)))), .slice Xgi (nl (mg (((g : Int))))) cgi], .tuple #[.agg #[.bool (sg u), .slice Xu (nl (mg u)) cu], .bool true], .agg #[.bool (sg u), .slice Xu (nl (mg u)) cu], .bool true, u28, u29, u30, u31, u32, u33, u34, u35, undef, undef, undef, undef, undef, undef, undef, undef], defers := [] } ∧
    (E 0 = true → u29 = .pointer (some ⟨(w.heap.size + 1), 1, none⟩)) ∧
    (E 1 = true → u30 = .slice bA (nl (mg b)) bc) ∧
    (E 2 = true → PI u31 b w') ∧
    (E 3 = true → u32 = .agg #[.bool (sg (((g : Int)))), .slice Xgi (nl (mg (((g : Int))))) cgi]) ∧
    (E 4 = true → PIb u33 v w') ∧
    (E 5 = true → PIb u28 v w') ∧
    (E 6 = true → PI u34 v w') ∧
    (E 7 = true → u35 = .bool true) ∧
    (E 8 = true → PB2 24 W0.heap.size u9 w') ∧
    (E 9 = true → PBI W0.heap.size u9 v w') ∧
    (E 10 = true → u10 = .bool true) ∧
    (E 9 = true → E 8 = true) ∧
    Below W0.heap.size W0 w') (by kernel_rfl) (by kernel_rfl) ?init ?fin ?step
  case init => exact ⟨_, _, _, _, _, _, _, _, _, _, rfl, by simp, by simp, by simp, by simp, by simp, by simp, by simp, by simp, by simp, by simp, by simp, by simp, (Below.refl _ _).drew⟩
  case step =>
    rintro E a' w' i ⟨u29, u30, u31, u32, u33, u28, u34, u35, u9, u10, rfl, h0, h1, h2, h3, h4, h5, h6, h7, h8, h9, h10, hD9, hB⟩ hi hEi hdep
    have qb1 := cbl hB qb1
    have qg0 := cbl hB qg0
    have qg1 := cbl hB qg1
    obtain rfl | rfl | rfl | rfl | rfl | rfl | rfl | rfl | rfl | rfl | rfl : i = 0 ∨ i = 1 ∨ i = 2 ∨ i = 3 ∨ i = 4 ∨ i = 5 ∨ i = 6 ∨ i = 7 ∨ i = 8 ∨ i = 9 ∨ i = 10 := by simp at hi; omega
    · skip
      refine wpOp_step rfl (fun K' hK' => ?_)
      go_simp
      refine hK' _ _ ?_
      exact ⟨_, _, _, _, _, _, _, _, _, _, rfl, fun _ => rfl, kd h1, kd h2, kd h3, kd h4, kd h5, kd h6, kd h7, kd h8, kd h9, kd h10, (fun h => by have := hD9 (by simpa using h); simpa using this), hB⟩
    · skip
      have d0 := hdep _ rfl ⟨0, .data⟩ (by simp) rfl
      obtain rfl := h0 d0
      refine wpOp_step rfl (fun K' hK' => ?_)
      go_simp
      refine hK' _ _ ?_
      exact ⟨_, _, _, _, _, _, _, _, _, _, rfl, kd h0, fun _ => rfl, kd h2, kd h3, kd h4, kd h5, kd h6, kd h7, kd h8, kd h9, kd h10, (fun h => by have := hD9 (by simpa using h); simpa using this), hB⟩
    · skip
      have d1 := hdep _ rfl ⟨1, .data⟩ (by simp) rfl
      obtain rfl := h1 d1
      refine wpOp_step rfl (fun K' hK' => ?_)
      go_simp
      refine (Calls.mono (CN.out w' (hb.below hB)) ?_)
      rintro e W1 ⟨Xr, cr, rfl, kr, kb⟩
      refine hK' _ _ ?_
      exact ⟨_, _, _, _, _, _, _, _, _, _, rfl, kd h0, kd h1, fun _ => ⟨Xr, cr, rfl, kr⟩, kd h3, kp h4 (fun h => h.below kb), kp h5 (fun h => h.below kb), kp h6 (fun h => h.below kb), kd h7, kp h8 (fun h => h.below kb), kp h9 (fun h => h.below kb), kd h10, (fun h => by have := hD9 (by simpa using h); simpa using this), Below.cons hB kb⟩
    · skip
      refine wpOp_step rfl (fun K' hK' => ?_)
      go_simp
      refine hK' _ _ ?_
      exact ⟨_, _, _, _, _, _, _, _, _, _, rfl, kd h0, kd h1, kd h2, fun _ => rfl, kd h4, kd h5, kd h6, kd h7, kd h8, kd h9, kd h10, (fun h => by have := hD9 (by simpa using h); simpa using this), hB⟩
    · skip
      have d2 := hdep _ rfl ⟨2, .data⟩ (by simp) rfl
      obtain ⟨X_2, c_2, rfl, k_2⟩ := h2 d2
      have d3 := hdep _ rfl ⟨3, .data⟩ (by simp) rfl
      obtain rfl := h3 d3
      refine wpOp_step rfl (fun K' hK' => ?_)
      go_simp
      refine (Calls.mono (CX.out w' X_2 c_2 Xgi cgi k_2 (hgi.below hB)) ?_)
      rintro e W1 ⟨Xr, cr, rfl, kr, kb⟩
      refine hK' _ _ ?_
      exact ⟨_, _, _, _, _, _, _, _, _, _, rfl, kd h0, kd h1, kp h2 (fun h => h.below kb), kd h3, fun _ => ⟨Xr, cr, rfl, kr⟩, kp h5 (fun h => h.below kb), kp h6 (fun h => h.below kb), kd h7, kp h8 (fun h => h.below kb), kp h9 (fun h => h.below kb), kd h10, (fun h => by have := hD9 (by simpa using h); simpa using this), Below.cons hB kb⟩
    · skip
      have d4 := hdep _ rfl ⟨4, .data⟩ (by simp) rfl
      obtain ⟨X_4, c_4, rfl, k_4⟩ := h4 d4
      refine wpOp_step rfl (fun K' hK' => ?_)
      go_simp
      refine hK' _ _ ?_
      exact ⟨_, _, _, _, _, _, _, _, _, _, rfl, kd h0, kd h1, kd h2, kd h3, kd h4, fun _ => ⟨X_4, c_4, rfl, k_4⟩, kd h6, kd h7, kd h8, kd h9, kd h10, (fun h => by have := hD9 (by simpa using h); simpa using this), hB⟩
    · skip
      have d5 := hdep _ rfl ⟨5, .data⟩ (by simp) rfl
      obtain ⟨X_5, c_5, rfl, k_5⟩ := h5 d5
      refine wpOp_step rfl (fun K' hK' => ?_)
      go_simp
      refine hK' _ _ ?_
      exact ⟨_, _, _, _, _, _, _, _, _, _, rfl, kd h0, kd h1, kd h2, kd h3, kd h4, kd h5, fun _ => ⟨X_5, c_5, rfl, k_5⟩, kd h7, kd h8, kd h9, kd h10, (fun h => by have := hD9 (by simpa using h); simpa using this), hB⟩
    · skip
      have d5 := hdep _ rfl ⟨5, .data⟩ (by simp) rfl
      obtain ⟨X_5, c_5, rfl, k_5⟩ := h5 d5
      refine wpOp_step rfl (fun K' hK' => ?_)
      go_simp
      refine hK' _ _ ?_
      exact ⟨_, _, _, _, _, _, _, _, _, _, rfl, kd h0, kd h1, kd h2, kd h3, kd h4, kd h5, kd h6, fun _ => rfl, kd h8, kd h9, kd h10, (fun h => by have := hD9 (by simpa using h); simpa using this), hB⟩
    · skip
      have kb : Below w'.heap.size w' (w'.alloc (.cells #[.bool false, .slice none 0 0] 24)) := (Below.refl _ _).alloc (Nat.le_refl _) _
      refine wpOp_step rfl (fun K' hK' => ?_)
      go_simp
      refine hK' _ _ ?_
      exact ⟨_, _, _, _, _, _, _, _, _, _, rfl, kd h0, kd h1, kp h2 (fun h => h.below kb), kd h3, kp h4 (fun h => h.below kb), kp h5 (fun h => h.below kb), kp h6 (fun h => h.below kb), kd h7, fun _ => ⟨_, _, _, rfl, hB.size, ⟨at_new rfl⟩, notU_bool _, notU_slice _ _ _⟩, (fun h => by have h2 := hD9 (by simpa using h); rw [hEi] at h2; cases h2), kd h10, (fun _ => by simp), Below.cons hB kb⟩
    · skip
      have d8 := hdep _ rfl ⟨8, .data⟩ (by simp) rfl
      obtain ⟨nb, z0, z1, rfl, hn, hb, nz0, nz1⟩ := h8 d8
      have d6 := hdep _ rfl ⟨6, .data⟩ (by simp) rfl
      obtain ⟨X_6, c_6, rfl, k_6⟩ := h6 d6
      have fz0 := hb.f (i := 0)
      have cz0 := hb.c (i := 0) rfl
      have fz1 := hb.f (i := 1)
      have cz1 := hb.c (i := 1) rfl
      have hp := hb.put2 (notU2 nz0 nz1) (.bool (sg v)) (.slice X_6 (nl (mg v)) c_6)
      have hs := hb.store2 (.bool (sg v)) (.slice X_6 (nl (mg v)) c_6)
      refine wpOp_step rfl (fun K' hK' => ?_)
      go_simp
      refine hK' _ _ ?_
      exact ⟨_, _, _, _, _, _, _, _, _, _, rfl, kd h0, kd h1, kp h2 (fun h => h.put hp), kd h3, kp h4 (fun h => h.put hp), kp h5 (fun h => h.put hp), kp h6 (fun h => h.put hp), kd h7, (fun _ => ⟨nb, _, _, rfl, hn, hs, notU_bool _, notU_slice _ _ _⟩), fun _ => ⟨nb, X_6, c_6, rfl, hn, hs, hp.nat k_6⟩, kd h10, (fun _ => by simp [d8]), Below.store2 hB hn⟩
    · skip
      have d7 := hdep _ rfl ⟨7, .data⟩ (by simp) rfl
      obtain rfl := h7 d7
      refine wpOp_step rfl (fun K' hK' => ?_)
      go_simp
      refine hK' _ _ ?_
      exact ⟨_, _, _, _, _, _, _, _, _, _, rfl, kd h0, kd h1, kd h2, kd h3, kd h4, kd h5, kd h6, kd h7, kd h8, kd h9, fun _ => rfl, (fun h => by have := hD9 (by simpa using h); simpa using this), hB⟩
  case fin =>
    rintro E a' w' ⟨u29, u30, u31, u32, u33, u28, u34, u35, u9, u10, rfl, h0, h1, h2, h3, h4, h5, h6, h7, h8, h9, h10, hD9, hB⟩ hall
    obtain ⟨nbv, Xv, cv, rfl, hnv, Rv, hv⟩ := h9 (hall 9 (by simp))
    replace ha := ha.below hB
    replace hb := hb.below hB
    replace Ra := Ra.below hB
    replace qa0 := cbl hB qa0
    replace qa1 := cbl hB qa1
    replace Rb := Rb.below hB
    replace qb0 := cbl hB qb0
    replace qb1 := cbl hB qb1
    replace Rr := Rr.below hB
    replace qr0 := cbl hB qr0
    replace qr1 := cbl hB qr1
    replace qr2 := cbl hB qr2
    replace hg := hg.below hB
    replace hgi := hgi.below hB
    replace Rg := Rg.below hB
    replace qg0 := cbl hB qg0
    replace qg1 := cbl hB qg1
    replace hu := hu.below hB
    replace Ru := Ru.below hB
    replace qu0 := cbl hB qu0
    replace qu1 := cbl hB qu1
    replace HBT := Below.cons HBT hB
    have kvv := hnv
    have qv0 := Rv.c (i := 0) rfl
    have qv1 := Rv.c (i := 1) rfl
    have fzr0 := Rr.f (i := 0)
    have fzr1 := Rr.f (i := 1)
    have fzr2 := Rr.f (i := 2)
    go_wp2_with (fail)
    have hnum : u = (Rat.divInt a b).num := by rw [Eu.out]; exact p4.out.symm
    have hden : mg v = (Rat.divInt a b).den := by rw [Ev.out]; exact p6.out.symm
    have RS := Rr.store3 (.bool (sg u)) (.slice Xu (nl (mg u)) cu) (.slice Xv (nl (mg v)) cv)
    have e0 := RS.c (i := 0) rfl
    have e1 := RS.c (i := 1) rfl
    have e2 := RS.c (i := 2) rfl
    refine bodyPost_ret (v := .tuple #[.agg #[.bool (sg u), .slice Xu (nl (mg u)) cu, .slice Xv (nl (mg v)) cv], .int .i64 0]) (by simp [results, Tryz.results110, go_sem, e0, e1, e2]) rfl ?_
    exact ⟨Xu, cu, Xv, cv, by rw [← hnum, ← hden], by rw [← hnum]; exact Rr.keep3 (nuB rfl) hu, by rw [← hden]; exact Rr.keep3 (nuB rfl) hv, Below.store3 HBT (by omega)⟩
theorem r9over_c (aA : Option Addr) (ac : Nat) (a : Int) (bA : Option Addr) (bc : Nat) (b : Int) (w : World) (ha : NatV w aA ac (mg a)) (hb : NatV w bA bc (mg b)) (la : nl (mg a) ≤ 1048576) (lb : nl (mg b) ≤ 1048576) (hb0 : 0 < b) :
    Calls Tryz.prog 124 #[.agg #[.bool (sg a), .slice aA (nl (mg a)) ac], .agg #[.bool (sg b), .slice bA (nl (mg b)) bc]] w (RetR w (Rat.divInt a b)) := by
  obtain ⟨hb1, Ra, Rb, Rr⟩ := bx3 w #[.bool (sg a), .slice aA (nl (mg a)) ac] 24 #[.bool (sg b), .slice bA (nl (mg b)) bc] 24 #[.bool false, .slice none 0 0, .slice none 0 0] 41
  replace ha := ha.below hb1
  replace hb := hb.below hb1
  have HBT := hb1
  clear hb1
  have qa0 := Ra.c (i := 0) rfl
  have qa1 := Ra.c (i := 1) rfl
  have qb0 := Rb.c (i := 0) rfl
  have qb1 := Rb.c (i := 1) rfl
  have qr0 := Rr.c (i := 0) rfl
  have qr1 := Rr.c (i := 1) rfl
  have qr2 := Rr.c (i := 2) rfl
  go_enter Tryz.func124, Tryz.ntmps124
  go_wp2_with (fail)
  obtain ⟨q, Eq⟩ : ∃ z : Rat, z = Rat.divInt a b := ⟨_, rfl⟩
  have CM := r9make_c aA ac a bA bc b (((w.alloc (.cells #[.bool (sg a), .slice aA (nl (mg a)) ac] 24)).alloc (.cells #[.bool (sg b), .slice bA (nl (mg b)) bc] 24)).alloc (.cells #[.bool false, .slice none 0 0, .slice none 0 0] 41)) ha hb la lb hb0
  rw [← Eq] at CM
  replace CM := Lib.hid CM
  replace Eq := Lib.hid Eq
  refine (Calls.mono CM.out ?_)
  clear CM
  rintro e W2 ⟨Xq, cq, Yq, dq, rfl, hq, gq, hb2⟩
  replace ha := ha.below hb2
  replace hb := hb.below hb2
  replace Ra := Ra.below hb2
  replace qa0 := cbl hb2 qa0
  replace qa1 := cbl hb2 qa1
  replace Rb := Rb.below hb2
  replace qb0 := cbl hb2 qb0
  replace qb1 := cbl hb2 qb1
  replace Rr := Rr.below hb2
  replace qr0 := cbl hb2 qr0
  replace qr1 := cbl hb2 qr1
  replace qr2 := cbl hb2 qr2
  replace HBT := Below.cons HBT hb2
  clear hb2
  obtain ⟨hb3, Rq⟩ := bx1 W2 #[.bool (sg q.num), .slice Xq (nl (mg q.num)) cq, .slice Yq (nl q.den) dq] 41
  replace ha := ha.below hb3
  replace hb := hb.below hb3
  replace Ra := Ra.below hb3
  replace qa0 := cbl hb3 qa0
  replace qa1 := cbl hb3 qa1
  replace Rb := Rb.below hb3
  replace qb0 := cbl hb3 qb0
  replace qb1 := cbl hb3 qb1
  replace Rr := Rr.below hb3
  replace qr0 := cbl hb3 qr0
  replace qr1 := cbl hb3 qr1
  replace qr2 := cbl hb3 qr2
  replace hq := hq.below hb3
  replace gq := gq.below hb3
  replace HBT := Below.cons HBT hb3
  clear hb3
  have qq0 := Rq.c (i := 0) rfl
  have qq1 := Rq.c (i := 1) rfl
  have qq2 := Rq.c (i := 2) rfl
  have fzr0 := Rr.f (i := 0)
  have fzr1 := Rr.f (i := 1)
  have fzr2 := Rr.f (i := 2)
  go_wp2_with (fail)
  have hzq : q = (Rat.divInt a b) := by exact Eq.out
  subst hzq
  have RS := Rr.store3 (.bool (sg (((Rat.divInt a b))).num)) (.slice Xq (nl (mg (((Rat.divInt a b))).num)) cq) (.slice Yq (nl (((Rat.divInt a b))).den) dq)
  have e0 := RS.c (i := 0) rfl
  have e1 := RS.c (i := 1) rfl
  have e2 := RS.c (i := 2) rfl
  refine bodyPost_ret (v := .agg #[.bool (sg (((Rat.divInt a b))).num), .slice Xq (nl (mg (((Rat.divInt a b))).num)) cq, .slice Yq (nl (((Rat.divInt a b))).den) dq]) (by simp [results, Tryz.results124, go_sem, e0, e1, e2]) rfl ?_
  exact ⟨Xq, cq, Yq, dq, rfl, (Rr.keep3 (nuB rfl) hq), (Rr.keep3 (nuB rfl) gq), (Below.store3 HBT (by first | exact Nat.le_refl _ | omega))⟩
theorem r9neg_c (aA : Option Addr) (ac : Nat) (aB : Option Addr) (ad : Nat) (a : Rat) (w : World) (ha : NatV w aA ac (mg a.num)) (ga : NatV w aB ad a.den) (la : nl (mg a.num) ≤ 1073741824) :
    Calls Tryz.prog 126 #[.agg #[.bool (sg a.num), .slice aA (nl (mg a.num)) ac, .slice aB (nl a.den) ad]] w (RetR w (-a)) := by
  have e1 : (-a).num = -a.num := Rat.neg_num a
  have e2 : (-a).den = a.den := Rat.neg_den a
  replace e1 := Lib.hid e1
  replace e2 := Lib.hid e2
  obtain ⟨hb1, Ra, Rr⟩ := bx2 w #[.bool (sg a.num), .slice aA (nl (mg a.num)) ac, .slice aB (nl a.den) ad] 41 #[.bool false, .slice none 0 0, .slice none 0 0] 41
  replace ha := ha.below hb1
  replace ga := ga.below hb1
  have HBT := hb1
  clear hb1
  have qa0 := Ra.c (i := 0) rfl
  have qa1 := Ra.c (i := 1) rfl
  have qa2 := Ra.c (i := 2) rfl
  have qr0 := Rr.c (i := 0) rfl
  have qr1 := Rr.c (i := 1) rfl
  have qr2 := Rr.c (i := 2) rfl
  go_enter Tryz.func126, Tryz.ntmps126
  go_wp2_with (fail)
  have hd2 := drb (((w.alloc (.cells #[.bool (sg a.num), .slice aA (nl (mg a.num)) ac, .slice aB (nl a.den) ad] 41)).alloc (.cells #[.bool false, .slice none 0 0, .slice none 0 0] 41)))
  replace ha := ha.below hd2
  replace ga := ga.below hd2
  replace Ra := Ra.below hd2
  replace qa0 := cbl hd2 qa0
  replace qa1 := cbl hd2 qa1
  replace qa2 := cbl hd2 qa2
  replace Rr := Rr.below hd2
  replace qr0 := cbl hd2 qr0
  replace qr1 := cbl hd2 qr1
  replace qr2 := cbl hd2 qr2
  replace HBT := Below.cons HBT hd2
  clear hd2
  obtain ⟨z, Ez⟩ : ∃ zq : Int, zq = -a.num := ⟨_, rfl⟩
  have C2_0 := fun (W : World) (h1 : NatV W aA ac (mg a.num)) => zneg_c aA ac a.num W h1 la
  simp only [← Ez] at C2_0
  replace Ez := Lib.hid Ez
  replace C2_0 := Lib.hid C2_0
  go_region_held3 (fun W => W.cell? ⟨w.heap.size, 0, none⟩ = some (.bool (sg a.num)) ∧ W.cell? ⟨w.heap.size, 1, none⟩ = some (.slice aA (nl (mg a.num)) ac) ∧ W.cell? ⟨w.heap.size, 2, none⟩ = some (.slice aB (nl a.den) ad))
    (first
      | exact ⟨qa0, qa1, qa2⟩
      | exact ⟨qa0_3, qa1_3, qa2_3⟩
      | exact ⟨((Ra_3.other3 (by simp <;> omega)).c (i := 0) rfl), ((Ra_3.other3 (by simp <;> omega)).c (i := 1) rfl), ((Ra_3.other3 (by simp <;> omega)).c (i := 2) rfl)⟩
      | go_keep)
    (first
      | (go_at_call 69; (with_reducible refine (C2_0.out _ ha).mono ?_); rintro e W3 ⟨Xz, cz, rfl, hz, hb3⟩; have ha_3 := ha.below hb3; have ga_3 := ga.below hb3; have Ra_3 := Ra.below hb3; have qa0_3 := cbl hb3 qa0; have qa1_3 := cbl hb3 qa1; have qa2_3 := cbl hb3 qa2; have Rr_3 := Rr.below hb3; have qr0_3 := cbl hb3 qr0; have qr1_3 := cbl hb3 qr1; have qr2_3 := cbl hb3 qr2; have HBT_3 := Below.cons HBT hb3; have fz0 := Rr_3.f (i := 0); have fz1 := Rr_3.f (i := 1); have fz2 := Rr_3.f (i := 2)))
  all_goals (try go_wp2_with (fail))
  have RS := Rr_3.store3 (.bool (sg z)) (.slice Xz (nl (mg z)) cz) (.slice aB (nl a.den) ad)
  have g0 := RS.c (i := 0) rfl
  have g1 := RS.c (i := 1) rfl
  have g2 := RS.c (i := 2) rfl
  refine bodyPost_ret (v := .agg #[.bool (sg z), .slice Xz (nl (mg z)) cz, .slice aB (nl a.den) ad]) (by simp [results, Tryz.results126, go_sem, g0, g1, g2]) rfl ?_
  have ez : z = (-a).num := by rw [Ez.out, e1.out]
  exact ⟨Xz, cz, aB, ad, by rw [← ez, e2.out], by rw [← ez]; exact Rr_3.keep3 (nuB rfl) hz, by rw [e2.out]; exact Rr_3.keep3 (nuB rfl) ga_3, Below.store3 HBT_3 (by omega)⟩
theorem divInt_add (a b : Rat) : Rat.divInt (a.num * (b.den : Int) + b.num * (a.den : Int)) ((a.den : Int) * (b.den : Int)) = a + b := by
  rw [Rat.add_def', ← Int.natCast_mul, Rat.divInt_ofNat]
theorem divInt_mul (a b : Rat) : Rat.divInt (a.num * b.num) ((a.den : Int) * (b.den : Int)) = a * b := by
  rw [Rat.mul_def', ← Int.natCast_mul, Rat.divInt_ofNat]
theorem add_nl {x y : Int} (hx : nl (mg x) ≤ 524288) (hy : nl (mg y) ≤ 524288) : nl (mg (x + y)) ≤ 524289 := by
  have h1 : mg (x + y) ≤ mg x + mg y := Int.natAbs_add_le x y
  have h2 := nl_add (mg x) (mg y)
  have h3 := nl_mono h1
  omega
theorem rcmp_icmp (a b : Rat) : icmp (a.num * (b.den : Int)) (b.num * (a.den : Int)) = rcmp a b := by
  unfold icmp rcmp
  simp only [Rat.lt_iff]
theorem r9mul_c (aA : Option Addr) (ac : Nat) (aB : Option Addr) (ad : Nat) (a : Rat) (bA : Option Addr) (bc : Nat) (bB : Option Addr) (bd : Nat) (b : Rat) (w : World) (ha : NatV w aA ac (mg a.num)) (ga : NatV w aB ad a.den) (hb : NatV w bA bc (mg b.num)) (gb : NatV w bB bd b.den) (la : nl (mg a.num) ≤ 262144) (ma : nl a.den ≤ 262144) (lb : nl (mg b.num) ≤ 262144) (mb : nl b.den ≤ 262144) :
    Calls Tryz.prog 77 #[.agg #[.bool (sg a.num), .slice aA (nl (mg a.num)) ac, .slice aB (nl a.den) ad], .agg #[.bool (sg b.num), .slice bA (nl (mg b.num)) bc, .slice bB (nl b.den) bd]] w (RetR w (a * b)) := by
  have hd := divInt_mul a b
  replace hd := Lib.hid hd
  obtain ⟨hb1, Ra, Rb, Rr⟩ := bx3 w #[.bool (sg a.num), .slice aA (nl (mg a.num)) ac, .slice aB (nl a.den) ad] 41 #[.bool (sg b.num), .slice bA (nl (mg b.num)) bc, .slice bB (nl b.den) bd] 41 #[.bool false, .slice none 0 0, .slice none 0 0] 41
  replace ha := ha.below hb1
  replace ga := ga.below hb1
  replace hb := hb.below hb1
  replace gb := gb.below hb1
  have HBT := hb1
  clear hb1
  have qa0 := Ra.c (i := 0) rfl
  have qa1 := Ra.c (i := 1) rfl
  have qa2 := Ra.c (i := 2) rfl
  have qb0 := Rb.c (i := 0) rfl
  have qb1 := Rb.c (i := 1) rfl
  have qb2 := Rb.c (i := 2) rfl
  have qr0 := Rr.c (i := 0) rfl
  have qr1 := Rr.c (i := 1) rfl
  have qr2 := Rr.c (i := 2) rfl
  go_enter Tryz.func77, Tryz.ntmps77
  go_wp2_with (fail)
  have hd2 := drb ((((w.alloc (.cells #[.bool (sg a.num), .slice aA (nl (mg a.num)) ac, .slice aB (nl a.den) ad] 41)).alloc (.cells #[.bool (sg b.num), .slice bA (nl (mg b.num)) bc, .slice bB (nl b.den) bd] 41)).alloc (.cells #[.bool false, .slice none 0 0, .slice none 0 0] 41)))
  replace ha := ha.below hd2
  replace ga := ga.below hd2
  replace hb := hb.below hd2
  replace gb := gb.below hd2
  replace Ra := Ra.below hd2
  replace qa0 := cbl hd2 qa0
  replace qa1 := cbl hd2 qa1
  replace qa2 := cbl hd2 qa2
  replace Rb := Rb.below hd2
  replace qb0 := cbl hd2 qb0
  replace qb1 := cbl hd2 qb1
  replace qb2 := cbl hd2 qb2
  replace Rr := Rr.below hd2
  replace qr0 := cbl hd2 qr0
  replace qr1 := cbl hd2 qr1
  replace qr2 := cbl hd2 qr2
  replace HBT := Below.cons HBT hd2
  clear hd2
  obtain ⟨n, En⟩ : ∃ zq : Int, zq = a.num * b.num := ⟨_, rfl⟩
  have Nn : nl (mg n) ≤ 524288 := by rw [En, mg_mul]; have := nl_mul (mg a.num) (mg b.num); omega
  have C2_0 := fun (W : World) (h1 : NatV W aA ac (mg a.num)) (h2 : NatV W bA bc (mg b.num)) => zmul_c aA ac a.num bA bc b.num W h1 h2 (by omega) (by omega)
  simp only [← En] at C2_0
  replace En := Lib.hid En
  replace C2_0 := Lib.hid C2_0
  obtain ⟨u, Eu⟩ : ∃ zq : Int, zq = (a.den : Int) := ⟨_, rfl⟩
  have Nu : nl (mg u) ≤ 262144 := by rw [Eu, mg_nat]; exact ma
  have C2_1 := fun (W : World) (h1 : NatV W aB ad a.den) => r9nat_c aB ad a.den W h1
  simp only [← Eu] at C2_1
  replace Eu := Lib.hid Eu
  replace C2_1 := Lib.hid C2_1
  obtain ⟨v, Ev⟩ : ∃ zq : Int, zq = (b.den : Int) := ⟨_, rfl⟩
  have Nv : nl (mg v) ≤ 262144 := by rw [Ev, mg_nat]; exact mb
  have C2_2 := fun (W : World) (h1 : NatV W bB bd b.den) => r9nat_c bB bd b.den W h1
  simp only [← Ev] at C2_2
  replace Ev := Lib.hid Ev
  replace C2_2 := Lib.hid C2_2
  obtain ⟨p, Ep⟩ : ∃ zq : Int, zq = u * v := ⟨_, rfl⟩
  have Np : nl (mg p) ≤ 524288 := by rw [Ep, mg_mul]; have := nl_mul (mg u) (mg v); omega
  have P0 : 0 < p := by rw [Ep, Eu.out, Ev.out]; have := a.den_nz; have := b.den_nz; exact Int.mul_pos (by omega) (by omega)
  have C2_3 := fun (W : World) (A : Option Addr) (c : Nat) (B : Option Addr) (d : Nat) (h1 : NatV W A c (mg u)) (h2 : NatV W B d (mg v)) => zmul_c A c u B d v W h1 h2 (by omega) (by omega)
  simp only [← Ep] at C2_3
  replace Ep := Lib.hid Ep
  replace C2_3 := Lib.hid C2_3
  obtain ⟨q, Eq⟩ : ∃ zq : Rat, zq = Rat.divInt n p := ⟨_, rfl⟩
  have C2_4 := fun (W : World) (A : Option Addr) (c : Nat) (B : Option Addr) (d : Nat) (h1 : NatV W A c (mg n)) (h2 : NatV W B d (mg p)) => r9over_c A c n B d p W h1 h2 (by omega) (by omega) P0
  simp only [← Eq] at C2_4
  replace Eq := Lib.hid Eq
  replace C2_4 := Lib.hid C2_4
  go_region_held3 (fun W => W.cell? ⟨w.heap.size, 0, none⟩ = some (.bool (sg a.num)) ∧ W.cell? ⟨w.heap.size, 1, none⟩ = some (.slice aA (nl (mg a.num)) ac) ∧ W.cell? ⟨w.heap.size, 2, none⟩ = some (.slice aB (nl a.den) ad) ∧ W.cell? ⟨(w.heap.size + 1), 0, none⟩ = some (.bool (sg b.num)) ∧ W.cell? ⟨(w.heap.size + 1), 1, none⟩ = some (.slice bA (nl (mg b.num)) bc) ∧ W.cell? ⟨(w.heap.size + 1), 2, none⟩ = some (.slice bB (nl b.den) bd))
    (first
      | exact ⟨qa0, qa1, qa2, qb0, qb1, qb2⟩
      | exact ⟨qa0_3, qa1_3, qa2_3, qb0_3, qb1_3, qb2_3⟩
      | exact ⟨qa0_4, qa1_4, qa2_4, qb0_4, qb1_4, qb2_4⟩
      | exact ⟨qa0_5, qa1_5, qa2_5, qb0_5, qb1_5, qb2_5⟩
      | exact ⟨qa0_6, qa1_6, qa2_6, qb0_6, qb1_6, qb2_6⟩
      | exact ⟨qa0_7, qa1_7, qa2_7, qb0_7, qb1_7, qb2_7⟩
      | exact ⟨((Ra_7.other3 (by simp <;> omega)).c (i := 0) rfl), ((Ra_7.other3 (by simp <;> omega)).c (i := 1) rfl), ((Ra_7.other3 (by simp <;> omega)).c (i := 2) rfl), ((Rb_7.other3 (by simp <;> omega)).c (i := 0) rfl), ((Rb_7.other3 (by simp <;> omega)).c (i := 1) rfl), ((Rb_7.other3 (by simp <;> omega)).c (i := 2) rfl)⟩
      | go_keep)
    (first
      | (go_at_call 121; (with_reducible refine (C2_0.out _ ha hb).mono ?_); rintro e W3 ⟨Xn, cn, rfl, hn, hb3⟩; have ha_3 := ha.below hb3; have ga_3 := ga.below hb3; have hb_3 := hb.below hb3; have gb_3 := gb.below hb3; have Ra_3 := Ra.below hb3; have qa0_3 := cbl hb3 qa0; have qa1_3 := cbl hb3 qa1; have qa2_3 := cbl hb3 qa2; have Rb_3 := Rb.below hb3; have qb0_3 := cbl hb3 qb0; have qb1_3 := cbl hb3 qb1; have qb2_3 := cbl hb3 qb2; have Rr_3 := Rr.below hb3; have qr0_3 := cbl hb3 qr0; have qr1_3 := cbl hb3 qr1; have qr2_3 := cbl hb3 qr2; have HBT_3 := Below.cons HBT hb3)
      | (go_at_call 122; (with_reducible refine (C2_1.out _ ga_3).mono ?_); rintro e W4 ⟨Xu, cu, rfl, hu, hb4⟩; have ha_4 := ha_3.below hb4; have ga_4 := ga_3.below hb4; have hb_4 := hb_3.below hb4; have gb_4 := gb_3.below hb4; have Ra_4 := Ra_3.below hb4; have qa0_4 := cbl hb4 qa0_3; have qa1_4 := cbl hb4 qa1_3; have qa2_4 := cbl hb4 qa2_3; have Rb_4 := Rb_3.below hb4; have qb0_4 := cbl hb4 qb0_3; have qb1_4 := cbl hb4 qb1_3; have qb2_4 := cbl hb4 qb2_3; have Rr_4 := Rr_3.below hb4; have qr0_4 := cbl hb4 qr0_3; have qr1_4 := cbl hb4 qr1_3; have qr2_4 := cbl hb4 qr2_3; have hn_4 := hn.below hb4; have HBT_4 := Below.cons HBT_3 hb4)
      | (go_at_call 122; (with_reducible refine (C2_2.out _ gb_4).mono ?_); rintro e W5 ⟨Xv, cv, rfl, hv, hb5⟩; have ha_5 := ha_4.below hb5; have ga_5 := ga_4.below hb5; have hb_5 := hb_4.below hb5; have gb_5 := gb_4.below hb5; have Ra_5 := Ra_4.below hb5; have qa0_5 := cbl hb5 qa0_4; have qa1_5 := cbl hb5 qa1_4; have qa2_5 := cbl hb5 qa2_4; have Rb_5 := Rb_4.below hb5; have qb0_5 := cbl hb5 qb0_4; have qb1_5 := cbl hb5 qb1_4; have qb2_5 := cbl hb5 qb2_4; have Rr_5 := Rr_4.below hb5; have qr0_5 := cbl hb5 qr0_4; have qr1_5 := cbl hb5 qr1_4; have qr2_5 := cbl hb5 qr2_4; have hn_5 := hn_4.below hb5; have hu_5 := hu.below hb5; have HBT_5 := Below.cons HBT_4 hb5)
      | (go_at_call 121; (with_reducible refine (C2_3.out _ _ _ _ _ hu_5 hv).mono ?_); rintro e W6 ⟨Xp, cp, rfl, hp, hb6⟩; have ha_6 := ha_5.below hb6; have ga_6 := ga_5.below hb6; have hb_6 := hb_5.below hb6; have gb_6 := gb_5.below hb6; have Ra_6 := Ra_5.below hb6; have qa0_6 := cbl hb6 qa0_5; have qa1_6 := cbl hb6 qa1_5; have qa2_6 := cbl hb6 qa2_5; have Rb_6 := Rb_5.below hb6; have qb0_6 := cbl hb6 qb0_5; have qb1_6 := cbl hb6 qb1_5; have qb2_6 := cbl hb6 qb2_5; have Rr_6 := Rr_5.below hb6; have qr0_6 := cbl hb6 qr0_5; have qr1_6 := cbl hb6 qr1_5; have qr2_6 := cbl hb6 qr2_5; have hn_6 := hn_5.below hb6; have hu_6 := hu_5.below hb6; have hv_6 := hv.below hb6; have HBT_6 := Below.cons HBT_5 hb6)
      | (go_at_call 124; (with_reducible refine (C2_4.out _ _ _ _ _ hn_6 hp).mono ?_); rintro e W7 ⟨Xq, cq, Yq, dq, rfl, hq, gq, hb7⟩; have ha_7 := ha_6.below hb7; have ga_7 := ga_6.below hb7; have hb_7 := hb_6.below hb7; have gb_7 := gb_6.below hb7; have Ra_7 := Ra_6.below hb7; have qa0_7 := cbl hb7 qa0_6; have qa1_7 := cbl hb7 qa1_6; have qa2_7 := cbl hb7 qa2_6; have Rb_7 := Rb_6.below hb7; have qb0_7 := cbl hb7 qb0_6; have qb1_7 := cbl hb7 qb1_6; have qb2_7 := cbl hb7 qb2_6; have Rr_7 := Rr_6.below hb7; have qr0_7 := cbl hb7 qr0_6; have qr1_7 := cbl hb7 qr1_6; have qr2_7 := cbl hb7 qr2_6; have hn_7 := hn_6.below hb7; have hu_7 := hu_6.below hb7; have hv_7 := hv_6.below hb7; have hp_7 := hp.below hb7; have HBT_7 := Below.cons HBT_6 hb7; have fz0 := Rr_7.f (i := 0); have fz1 := Rr_7.f (i := 1); have fz2 := Rr_7.f (i := 2)))
  all_goals (try go_wp2_with (fail))
  have hzq : q = a * b := by rw [Eq.out, En.out, Ep.out, Eu.out, Ev.out]; exact hd.out
  subst hzq
  have RS := Rr_7.store3 (.bool (sg ((a * b)).num)) (.slice Xq (nl (mg ((a * b)).num)) cq) (.slice Yq (nl ((a * b)).den) dq)
  have e0 := RS.c (i := 0) rfl
  have e1 := RS.c (i := 1) rfl
  have e2 := RS.c (i := 2) rfl
  refine bodyPost_ret (v := .agg #[.bool (sg ((a * b)).num), .slice Xq (nl (mg ((a * b)).num)) cq, .slice Yq (nl ((a * b)).den) dq]) (by simp [results, Tryz.results77, go_sem, e0, e1, e2]) rfl ?_
  exact ⟨Xq, cq, Yq, dq, rfl, (Rr_7.keep3 (nuB rfl) hq), (Rr_7.keep3 (nuB rfl) gq), (Below.store3 HBT_7 (by first | exact Nat.le_refl _ | omega))⟩
theorem r9add_c (aA : Option Addr) (ac : Nat) (aB : Option Addr) (ad : Nat) (a : Rat) (bA : Option Addr) (bc : Nat) (bB : Option Addr) (bd : Nat) (b : Rat) (w : World) (ha : NatV w aA ac (mg a.num)) (ga : NatV w aB ad a.den) (hb : NatV w bA bc (mg b.num)) (gb : NatV w bB bd b.den) (la : nl (mg a.num) ≤ 262144) (ma : nl a.den ≤ 262144) (lb : nl (mg b.num) ≤ 262144) (mb : nl b.den ≤ 262144) :
    Calls Tryz.prog 74 #[.agg #[.bool (sg a.num), .slice aA (nl (mg a.num)) ac, .slice aB (nl a.den) ad], .agg #[.bool (sg b.num), .slice bA (nl (mg b.num)) bc, .slice bB (nl b.den) bd]] w (RetR w (a + b)) := by
  have hd := divInt_add a b
  replace hd := Lib.hid hd
  obtain ⟨hb1, Ra, Rb, Rr⟩ := bx3 w #[.bool (sg a.num), .slice aA (nl (mg a.num)) ac, .slice aB (nl a.den) ad] 41 #[.bool (sg b.num), .slice bA (nl (mg b.num)) bc, .slice bB (nl b.den) bd] 41 #[.bool false, .slice none 0 0, .slice none 0 0] 41
  replace ha := ha.below hb1
  replace ga := ga.below hb1
  replace hb := hb.below hb1
  replace gb := gb.below hb1
  have HBT := hb1
  clear hb1
  have qa0 := Ra.c (i := 0) rfl
  have qa1 := Ra.c (i := 1) rfl
  have qa2 := Ra.c (i := 2) rfl
  have qb0 := Rb.c (i := 0) rfl
  have qb1 := Rb.c (i := 1) rfl
  have qb2 := Rb.c (i := 2) rfl
  have qr0 := Rr.c (i := 0) rfl
  have qr1 := Rr.c (i := 1) rfl
  have qr2 := Rr.c (i := 2) rfl
  go_enter Tryz.func74, Tryz.ntmps74
  go_wp2_with (fail)
  have hd2 := drb ((((w.alloc (.cells #[.bool (sg a.num), .slice aA (nl (mg a.num)) ac, .slice aB (nl a.den) ad] 41)).alloc (.cells #[.bool (sg b.num), .slice bA (nl (mg b.num)) bc, .slice bB (nl b.den) bd] 41)).alloc (.cells #[.bool false, .slice none 0 0, .slice none 0 0] 41)))
  replace ha := ha.below hd2
  replace ga := ga.below hd2
  replace hb := hb.below hd2
  replace gb := gb.below hd2
  replace Ra := Ra.below hd2
  replace qa0 := cbl hd2 qa0
  replace qa1 := cbl hd2 qa1
  replace qa2 := cbl hd2 qa2
  replace Rb := Rb.below hd2
  replace qb0 := cbl hd2 qb0
  replace qb1 := cbl hd2 qb1
  replace qb2 := cbl hd2 qb2
  replace Rr := Rr.below hd2
  replace qr0 := cbl hd2 qr0
  replace qr1 := cbl hd2 qr1
  replace qr2 := cbl hd2 qr2
  replace HBT := Below.cons HBT hd2
  clear hd2
  obtain ⟨v, Ev⟩ : ∃ zq : Int, zq = (b.den : Int) := ⟨_, rfl⟩
  have Nv : nl (mg v) ≤ 262144 := by rw [Ev, mg_nat]; exact mb
  have C2_0 := fun (W : World) (h1 : NatV W bB bd b.den) => r9nat_c bB bd b.den W h1
  simp only [← Ev] at C2_0
  replace Ev := Lib.hid Ev
  replace C2_0 := Lib.hid C2_0
  obtain ⟨n1, En1⟩ : ∃ zq : Int, zq = a.num * v := ⟨_, rfl⟩
  have Nn1 : nl (mg n1) ≤ 524288 := by rw [En1, mg_mul]; have := nl_mul (mg a.num) (mg v); omega
  have C2_1 := fun (W : World) (A : Option Addr) (c : Nat) (h1 : NatV W aA ac (mg a.num)) (h2 : NatV W A c (mg v)) => zmul_c aA ac a.num A c v W h1 h2 (by omega) (by omega)
  simp only [← En1] at C2_1
  replace En1 := Lib.hid En1
  replace C2_1 := Lib.hid C2_1
  obtain ⟨u, Eu⟩ : ∃ zq : Int, zq = (a.den : Int) := ⟨_, rfl⟩
  have Nu : nl (mg u) ≤ 262144 := by rw [Eu, mg_nat]; exact ma
  have C2_2 := fun (W : World) (h1 : NatV W aB ad a.den) => r9nat_c aB ad a.den W h1
  simp only [← Eu] at C2_2
  replace Eu := Lib.hid Eu
  replace C2_2 := Lib.hid C2_2
  obtain ⟨n2, En2⟩ : ∃ zq : Int, zq = b.num * u := ⟨_, rfl⟩
  have Nn2 : nl (mg n2) ≤ 524288 := by rw [En2, mg_mul]; have := nl_mul (mg b.num) (mg u); omega
  have C2_3 := fun (W : World) (A : Option Addr) (c : Nat) (h1 : NatV W bA bc (mg b.num)) (h2 : NatV W A c (mg u)) => zmul_c bA bc b.num A c u W h1 h2 (by omega) (by omega)
  simp only [← En2] at C2_3
  replace En2 := Lib.hid En2
  replace C2_3 := Lib.hid C2_3
  obtain ⟨n, En⟩ : ∃ zq : Int, zq = n1 + n2 := ⟨_, rfl⟩
  have Nn : nl (mg n) ≤ 524289 := by rw [En]; exact add_nl Nn1 Nn2
  have C2_4 := fun (W : World) (A : Option Addr) (c : Nat) (B : Option Addr) (d : Nat) (h1 : NatV W A c (mg n1)) (h2 : NatV W B d (mg n2)) => zadd_c A c n1 B d n2 W h1 h2 (by omega) (by omega)
  simp only [← En] at C2_4
  replace En := Lib.hid En
  replace C2_4 := Lib.hid C2_4
  obtain ⟨u2, Eu2⟩ : ∃ zq : Int, zq = (a.den : Int) := ⟨_, rfl⟩
  have Nu2 : nl (mg u2) ≤ 262144 := by rw [Eu2, mg_nat]; exact ma
  have C2_5 := fun (W : World) (h1 : NatV W aB ad a.den) => r9nat_c aB ad a.den W h1
  simp only [← Eu2] at C2_5
  replace Eu2 := Lib.hid Eu2
  replace C2_5 := Lib.hid C2_5
  obtain ⟨v2, Ev2⟩ : ∃ zq : Int, zq = (b.den : Int) := ⟨_, rfl⟩
  have Nv2 : nl (mg v2) ≤ 262144 := by rw [Ev2, mg_nat]; exact mb
  have C2_6 := fun (W : World) (h1 : NatV W bB bd b.den) => r9nat_c bB bd b.den W h1
  simp only [← Ev2] at C2_6
  replace Ev2 := Lib.hid Ev2
  replace C2_6 := Lib.hid C2_6
  obtain ⟨p, Ep⟩ : ∃ zq : Int, zq = u2 * v2 := ⟨_, rfl⟩
  have Np : nl (mg p) ≤ 524288 := by rw [Ep, mg_mul]; have := nl_mul (mg u2) (mg v2); omega
  have P0 : 0 < p := by rw [Ep, Eu2.out, Ev2.out]; have := a.den_nz; have := b.den_nz; exact Int.mul_pos (by omega) (by omega)
  have C2_7 := fun (W : World) (A : Option Addr) (c : Nat) (B : Option Addr) (d : Nat) (h1 : NatV W A c (mg u2)) (h2 : NatV W B d (mg v2)) => zmul_c A c u2 B d v2 W h1 h2 (by omega) (by omega)
  simp only [← Ep] at C2_7
  replace Ep := Lib.hid Ep
  replace C2_7 := Lib.hid C2_7
  obtain ⟨q, Eq⟩ : ∃ zq : Rat, zq = Rat.divInt n p := ⟨_, rfl⟩
  have C2_8 := fun (W : World) (A : Option Addr) (c : Nat) (B : Option Addr) (d : Nat) (h1 : NatV W A c (mg n)) (h2 : NatV W B d (mg p)) => r9over_c A c n B d p W h1 h2 (by omega) (by omega) P0
  simp only [← Eq] at C2_8
  replace Eq := Lib.hid Eq
  replace C2_8 := Lib.hid C2_8
  go_region_held3 (fun W => W.cell? ⟨w.heap.size, 0, none⟩ = some (.bool (sg a.num)) ∧ W.cell? ⟨w.heap.size, 1, none⟩ = some (.slice aA (nl (mg a.num)) ac) ∧ W.cell? ⟨w.heap.size, 2, none⟩ = some (.slice aB (nl a.den) ad) ∧ W.cell? ⟨(w.heap.size + 1), 0, none⟩ = some (.bool (sg b.num)) ∧ W.cell? ⟨(w.heap.size + 1), 1, none⟩ = some (.slice bA (nl (mg b.num)) bc) ∧ W.cell? ⟨(w.heap.size + 1), 2, none⟩ = some (.slice bB (nl b.den) bd))
    (first
      | exact ⟨qa0, qa1, qa2, qb0, qb1, qb2⟩
      | exact ⟨qa0_3, qa1_3, qa2_3, qb0_3, qb1_3, qb2_3⟩
      | exact ⟨qa0_4, qa1_4, qa2_4, qb0_4, qb1_4, qb2_4⟩
      | exact ⟨qa0_5, qa1_5, qa2_5, qb0_5, qb1_5, qb2_5⟩
      | exact ⟨qa0_6, qa1_6, qa2_6, qb0_6, qb1_6, qb2_6⟩
      | exact ⟨qa0_7, qa1_7, qa2_7, qb0_7, qb1_7, qb2_7⟩
      | exact ⟨qa0_8, qa1_8, qa2_8, qb0_8, qb1_8, qb2_8⟩
      | exact ⟨qa0_9, qa1_9, qa2_9, qb0_9, qb1_9, qb2_9⟩
      | exact ⟨qa0_10, qa1_10, qa2_10, qb0_10, qb1_10, qb2_10⟩
      | exact ⟨qa0_11, qa1_11, qa2_11, qb0_11, qb1_11, qb2_11⟩
      | exact ⟨((Ra_11.other3 (by simp <;> omega)).c (i := 0) rfl), ((Ra_11.other3 (by simp <;> omega)).c (i := 1) rfl), ((Ra_11.other3 (by simp <;> omega)).c (i := 2) rfl), ((Rb_11.other3 (by simp <;> omega)).c (i := 0) rfl), ((Rb_11.other3 (by simp <;> omega)).c (i := 1) rfl), ((Rb_11.other3 (by simp <;> omega)).c (i := 2) rfl)⟩
      | go_keep)
    (first
      | (go_at_call 122; (with_reducible refine (C2_0.out _ gb).mono ?_); rintro e W3 ⟨Xv, cv, rfl, hv, hb3⟩; have ha_3 := ha.below hb3; have ga_3 := ga.below hb3; have hb_3 := hb.below hb3; have gb_3 := gb.below hb3; have Ra_3 := Ra.below hb3; have qa0_3 := cbl hb3 qa0; have qa1_3 := cbl hb3 qa1; have qa2_3 := cbl hb3 qa2; have Rb_3 := Rb.below hb3; have qb0_3 := cbl hb3 qb0; have qb1_3 := cbl hb3 qb1; have qb2_3 := cbl hb3 qb2; have Rr_3 := Rr.below hb3; have qr0_3 := cbl hb3 qr0; have qr1_3 := cbl hb3 qr1; have qr2_3 := cbl hb3 qr2; have HBT_3 := Below.cons HBT hb3)
      | (go_at_call 121; (with_reducible refine (C2_1.out _ _ _ ha_3 hv).mono ?_); rintro e W4 ⟨Xn1, cn1, rfl, hn1, hb4⟩; have ha_4 := ha_3.below hb4; have ga_4 := ga_3.below hb4; have hb_4 := hb_3.below hb4; have gb_4 := gb_3.below hb4; have Ra_4 := Ra_3.below hb4; have qa0_4 := cbl hb4 qa0_3; have qa1_4 := cbl hb4 qa1_3; have qa2_4 := cbl hb4 qa2_3; have Rb_4 := Rb_3.below hb4; have qb0_4 := cbl hb4 qb0_3; have qb1_4 := cbl hb4 qb1_3; have qb2_4 := cbl hb4 qb2_3; have Rr_4 := Rr_3.below hb4; have qr0_4 := cbl hb4 qr0_3; have qr1_4 := cbl hb4 qr1_3; have qr2_4 := cbl hb4 qr2_3; have hv_4 := hv.below hb4; have HBT_4 := Below.cons HBT_3 hb4)
      | (go_at_call 122; (with_reducible refine (C2_2.out _ ga_4).mono ?_); rintro e W5 ⟨Xu, cu, rfl, hu, hb5⟩; have ha_5 := ha_4.below hb5; have ga_5 := ga_4.below hb5; have hb_5 := hb_4.below hb5; have gb_5 := gb_4.below hb5; have Ra_5 := Ra_4.below hb5; have qa0_5 := cbl hb5 qa0_4; have qa1_5 := cbl hb5 qa1_4; have qa2_5 := cbl hb5 qa2_4; have Rb_5 := Rb_4.below hb5; have qb0_5 := cbl hb5 qb0_4; have qb1_5 := cbl hb5 qb1_4; have qb2_5 := cbl hb5 qb2_4; have Rr_5 := Rr_4.below hb5; have qr0_5 := cbl hb5 qr0_4; have qr1_5 := cbl hb5 qr1_4; have qr2_5 := cbl hb5 qr2_4; have hv_5 := hv_4.below hb5; have hn1_5 := hn1.below hb5; have HBT_5 := Below.cons HBT_4 hb5)
      | (go_at_call 121; (with_reducible refine (C2_3.out _ _ _ hb_5 hu).mono ?_); rintro e W6 ⟨Xn2, cn2, rfl, hn2, hb6⟩; have ha_6 := ha_5.below hb6; have ga_6 := ga_5.below hb6; have hb_6 := hb_5.below hb6; have gb_6 := gb_5.below hb6; have Ra_6 := Ra_5.below hb6; have qa0_6 := cbl hb6 qa0_5; have qa1_6 := cbl hb6 qa1_5; have qa2_6 := cbl hb6 qa2_5; have Rb_6 := Rb_5.below hb6; have qb0_6 := cbl hb6 qb0_5; have qb1_6 := cbl hb6 qb1_5; have qb2_6 := cbl hb6 qb2_5; have Rr_6 := Rr_5.below hb6; have qr0_6 := cbl hb6 qr0_5; have qr1_6 := cbl hb6 qr1_5; have qr2_6 := cbl hb6 qr2_5; have hv_6 := hv_5.below hb6; have hn1_6 := hn1_5.below hb6; have hu_6 := hu.below hb6; have HBT_6 := Below.cons HBT_5 hb6)
      | (go_at_call 125; (with_reducible refine (C2_4.out _ _ _ _ _ hn1_6 hn2).mono ?_); rintro e W7 ⟨Xn, cn, rfl, hn, hb7⟩; have ha_7 := ha_6.below hb7; have ga_7 := ga_6.below hb7; have hb_7 := hb_6.below hb7; have gb_7 := gb_6.below hb7; have Ra_7 := Ra_6.below hb7; have qa0_7 := cbl hb7 qa0_6; have qa1_7 := cbl hb7 qa1_6; have qa2_7 := cbl hb7 qa2_6; have Rb_7 := Rb_6.below hb7; have qb0_7 := cbl hb7 qb0_6; have qb1_7 := cbl hb7 qb1_6; have qb2_7 := cbl hb7 qb2_6; have Rr_7 := Rr_6.below hb7; have qr0_7 := cbl hb7 qr0_6; have qr1_7 := cbl hb7 qr1_6; have qr2_7 := cbl hb7 qr2_6; have hv_7 := hv_6.below hb7; have hn1_7 := hn1_6.below hb7; have hu_7 := hu_6.below hb7; have hn2_7 := hn2.below hb7; have HBT_7 := Below.cons HBT_6 hb7)
      | (go_at_call 122; (with_reducible refine (C2_5.out _ ga_7).mono ?_); rintro e W8 ⟨Xu2, cu2, rfl, hu2, hb8⟩; have ha_8 := ha_7.below hb8; have ga_8 := ga_7.below hb8; have hb_8 := hb_7.below hb8; have gb_8 := gb_7.below hb8; have Ra_8 := Ra_7.below hb8; have qa0_8 := cbl hb8 qa0_7; have qa1_8 := cbl hb8 qa1_7; have qa2_8 := cbl hb8 qa2_7; have Rb_8 := Rb_7.below hb8; have qb0_8 := cbl hb8 qb0_7; have qb1_8 := cbl hb8 qb1_7; have qb2_8 := cbl hb8 qb2_7; have Rr_8 := Rr_7.below hb8; have qr0_8 := cbl hb8 qr0_7; have qr1_8 := cbl hb8 qr1_7; have qr2_8 := cbl hb8 qr2_7; have hv_8 := hv_7.below hb8; have hn1_8 := hn1_7.below hb8; have hu_8 := hu_7.below hb8; have hn2_8 := hn2_7.below hb8; have hn_8 := hn.below hb8; have HBT_8 := Below.cons HBT_7 hb8)
      | (go_at_call 122; (with_reducible refine (C2_6.out _ gb_8).mono ?_); rintro e W9 ⟨Xv2, cv2, rfl, hv2, hb9⟩; have ha_9 := ha_8.below hb9; have ga_9 := ga_8.below hb9; have hb_9 := hb_8.below hb9; have gb_9 := gb_8.below hb9; have Ra_9 := Ra_8.below hb9; have qa0_9 := cbl hb9 qa0_8; have qa1_9 := cbl hb9 qa1_8; have qa2_9 := cbl hb9 qa2_8; have Rb_9 := Rb_8.below hb9; have qb0_9 := cbl hb9 qb0_8; have qb1_9 := cbl hb9 qb1_8; have qb2_9 := cbl hb9 qb2_8; have Rr_9 := Rr_8.below hb9; have qr0_9 := cbl hb9 qr0_8; have qr1_9 := cbl hb9 qr1_8; have qr2_9 := cbl hb9 qr2_8; have hv_9 := hv_8.below hb9; have hn1_9 := hn1_8.below hb9; have hu_9 := hu_8.below hb9; have hn2_9 := hn2_8.below hb9; have hn_9 := hn_8.below hb9; have hu2_9 := hu2.below hb9; have HBT_9 := Below.cons HBT_8 hb9)
      | (go_at_call 121; (with_reducible refine (C2_7.out _ _ _ _ _ hu2_9 hv2).mono ?_); rintro e W10 ⟨Xp, cp, rfl, hp, hb10⟩; have ha_10 := ha_9.below hb10; have ga_10 := ga_9.below hb10; have hb_10 := hb_9.below hb10; have gb_10 := gb_9.below hb10; have Ra_10 := Ra_9.below hb10; have qa0_10 := cbl hb10 qa0_9; have qa1_10 := cbl hb10 qa1_9; have qa2_10 := cbl hb10 qa2_9; have Rb_10 := Rb_9.below hb10; have qb0_10 := cbl hb10 qb0_9; have qb1_10 := cbl hb10 qb1_9; have qb2_10 := cbl hb10 qb2_9; have Rr_10 := Rr_9.below hb10; have qr0_10 := cbl hb10 qr0_9; have qr1_10 := cbl hb10 qr1_9; have qr2_10 := cbl hb10 qr2_9; have hv_10 := hv_9.below hb10; have hn1_10 := hn1_9.below hb10; have hu_10 := hu_9.below hb10; have hn2_10 := hn2_9.below hb10; have hn_10 := hn_9.below hb10; have hu2_10 := hu2_9.below hb10; have hv2_10 := hv2.below hb10; have HBT_10 := Below.cons HBT_9 hb10)
      | (go_at_call 124; (with_reducible refine (C2_8.out _ _ _ _ _ hn_10 hp).mono ?_); rintro e W11 ⟨Xq, cq, Yq, dq, rfl, hq, gq, hb11⟩; have ha_11 := ha_10.below hb11; have ga_11 := ga_10.below hb11; have hb_11 := hb_10.below hb11; have gb_11 := gb_10.below hb11; have Ra_11 := Ra_10.below hb11; have qa0_11 := cbl hb11 qa0_10; have qa1_11 := cbl hb11 qa1_10; have qa2_11 := cbl hb11 qa2_10; have Rb_11 := Rb_10.below hb11; have qb0_11 := cbl hb11 qb0_10; have qb1_11 := cbl hb11 qb1_10; have qb2_11 := cbl hb11 qb2_10; have Rr_11 := Rr_10.below hb11; have qr0_11 := cbl hb11 qr0_10; have qr1_11 := cbl hb11 qr1_10; have qr2_11 := cbl hb11 qr2_10; have hv_11 := hv_10.below hb11; have hn1_11 := hn1_10.below hb11; have hu_11 := hu_10.below hb11; have hn2_11 := hn2_10.below hb11; have hn_11 := hn_10.below hb11; have hu2_11 := hu2_10.below hb11; have hv2_11 := hv2_10.below hb11; have hp_11 := hp.below hb11; have HBT_11 := Below.cons HBT_10 hb11; have fz0 := Rr_11.f (i := 0); have fz1 := Rr_11.f (i := 1); have fz2 := Rr_11.f (i := 2)))
  all_goals (try go_wp2_with (fail))
  have hzq : q = a + b := by rw [Eq.out, En.out, En1.out, En2.out, Ep.out, Eu.out, Ev.out, Eu2.out, Ev2.out]; exact hd.out
  subst hzq
  have RS := Rr_11.store3 (.bool (sg ((a + b)).num)) (.slice Xq (nl (mg ((a + b)).num)) cq) (.slice Yq (nl ((a + b)).den) dq)
  have e0 := RS.c (i := 0) rfl
  have e1 := RS.c (i := 1) rfl
  have e2 := RS.c (i := 2) rfl
  refine bodyPost_ret (v := .agg #[.bool (sg ((a + b)).num), .slice Xq (nl (mg ((a + b)).num)) cq, .slice Yq (nl ((a + b)).den) dq]) (by simp [results, Tryz.results74, go_sem, e0, e1, e2]) rfl ?_
  exact ⟨Xq, cq, Yq, dq, rfl, (Rr_11.keep3 (nuB rfl) hq), (Rr_11.keep3 (nuB rfl) gq), (Below.store3 HBT_11 (by first | exact Nat.le_refl _ | omega))⟩
theorem r9cmp_c (aA : Option Addr) (ac : Nat) (aB : Option Addr) (ad : Nat) (a : Rat) (bA : Option Addr) (bc : Nat) (bB : Option Addr) (bd : Nat) (b : Rat) (w : World) (ha : NatV w aA ac (mg a.num)) (ga : NatV w aB ad a.den) (hb : NatV w bA bc (mg b.num)) (gb : NatV w bB bd b.den) (la : nl (mg a.num) ≤ 262144) (ma : nl a.den ≤ 262144) (lb : nl (mg b.num) ≤ 262144) (mb : nl b.den ≤ 262144) :
    Calls Tryz.prog 65 #[.agg #[.bool (sg a.num), .slice aA (nl (mg a.num)) ac, .slice aB (nl a.den) ad], .agg #[.bool (sg b.num), .slice bA (nl (mg b.num)) bc, .slice bB (nl b.den) bd]] w (fun e w' => e = .returned (.int .i64 (rcmp a b)) ∧ Below w.heap.size w w') := by
  have hd := rcmp_icmp a b
  replace hd := Lib.hid hd
  obtain ⟨hb1, Ra, Rb⟩ := bx2 w #[.bool (sg a.num), .slice aA (nl (mg a.num)) ac, .slice aB (nl a.den) ad] 41 #[.bool (sg b.num), .slice bA (nl (mg b.num)) bc, .slice bB (nl b.den) bd] 41
  replace ha := ha.below hb1
  replace ga := ga.below hb1
  replace hb := hb.below hb1
  replace gb := gb.below hb1
  have HBT := hb1
  clear hb1
  have qa0 := Ra.c (i := 0) rfl
  have qa1 := Ra.c (i := 1) rfl
  have qa2 := Ra.c (i := 2) rfl
  have qb0 := Rb.c (i := 0) rfl
  have qb1 := Rb.c (i := 1) rfl
  have qb2 := Rb.c (i := 2) rfl
  go_enter Tryz.func65, Tryz.ntmps65
  go_wp2_with (fail)
  have hd2 := drb (((w.alloc (.cells #[.bool (sg a.num), .slice aA (nl (mg a.num)) ac, .slice aB (nl a.den) ad] 41)).alloc (.cells #[.bool (sg b.num), .slice bA (nl (mg b.num)) bc, .slice bB (nl b.den) bd] 41)))
  replace ha := ha.below hd2
  replace ga := ga.below hd2
  replace hb := hb.below hd2
  replace gb := gb.below hd2
  replace Ra := Ra.below hd2
  replace qa0 := cbl hd2 qa0
  replace qa1 := cbl hd2 qa1
  replace qa2 := cbl hd2 qa2
  replace Rb := Rb.below hd2
  replace qb0 := cbl hd2 qb0
  replace qb1 := cbl hd2 qb1
  replace qb2 := cbl hd2 qb2
  replace HBT := Below.cons HBT hd2
  clear hd2
  obtain ⟨v, Ev⟩ : ∃ zq : Int, zq = (b.den : Int) := ⟨_, rfl⟩
  have Nv : nl (mg v) ≤ 262144 := by rw [Ev, mg_nat]; exact mb
  have C2_0 := fun (W : World) (h1 : NatV W bB bd b.den) => r9nat_c bB bd b.den W h1
  simp only [← Ev] at C2_0
  replace Ev := Lib.hid Ev
  replace C2_0 := Lib.hid C2_0
  obtain ⟨n1, En1⟩ : ∃ zq : Int, zq = a.num * v := ⟨_, rfl⟩
  have Nn1 : nl (mg n1) ≤ 524288 := by rw [En1, mg_mul]; have := nl_mul (mg a.num) (mg v); omega
  have C2_1 := fun (W : World) (A : Option Addr) (c : Nat) (h1 : NatV W aA ac (mg a.num)) (h2 : NatV W A c (mg v)) => zmul_c aA ac a.num A c v W h1 h2 (by omega) (by omega)
  simp only [← En1] at C2_1
  replace En1 := Lib.hid En1
  replace C2_1 := Lib.hid C2_1
  obtain ⟨u, Eu⟩ : ∃ zq : Int, zq = (a.den : Int) := ⟨_, rfl⟩
  have Nu : nl (mg u) ≤ 262144 := by rw [Eu, mg_nat]; exact ma
  have C2_2 := fun (W : World) (h1 : NatV W aB ad a.den) => r9nat_c aB ad a.den W h1
  simp only [← Eu] at C2_2
  replace Eu := Lib.hid Eu
  replace C2_2 := Lib.hid C2_2
  obtain ⟨n2, En2⟩ : ∃ zq : Int, zq = b.num * u := ⟨_, rfl⟩
  have Nn2 : nl (mg n2) ≤ 524288 := by rw [En2, mg_mul]; have := nl_mul (mg b.num) (mg u); omega
  have C2_3 := fun (W : World) (A : Option Addr) (c : Nat) (h1 : NatV W bA bc (mg b.num)) (h2 : NatV W A c (mg u)) => zmul_c bA bc b.num A c u W h1 h2 (by omega) (by omega)
  simp only [← En2] at C2_3
  replace En2 := Lib.hid En2
  replace C2_3 := Lib.hid C2_3
  have C2_4 := fun (W : World) (A : Option Addr) (c : Nat) (B : Option Addr) (d : Nat) (h1 : NatV W A c (mg n1)) (h2 : NatV W B d (mg n2)) => zcmp_c A c n1 B d n2 W h1 h2 (by omega) (by omega)
  replace C2_4 := Lib.hid C2_4
  go_region_held3 (fun W => W.cell? ⟨w.heap.size, 0, none⟩ = some (.bool (sg a.num)) ∧ W.cell? ⟨w.heap.size, 1, none⟩ = some (.slice aA (nl (mg a.num)) ac) ∧ W.cell? ⟨w.heap.size, 2, none⟩ = some (.slice aB (nl a.den) ad) ∧ W.cell? ⟨(w.heap.size + 1), 0, none⟩ = some (.bool (sg b.num)) ∧ W.cell? ⟨(w.heap.size + 1), 1, none⟩ = some (.slice bA (nl (mg b.num)) bc) ∧ W.cell? ⟨(w.heap.size + 1), 2, none⟩ = some (.slice bB (nl b.den) bd))
    (first
      | exact ⟨qa0, qa1, qa2, qb0, qb1, qb2⟩
      | exact ⟨qa0_3, qa1_3, qa2_3, qb0_3, qb1_3, qb2_3⟩
      | exact ⟨qa0_4, qa1_4, qa2_4, qb0_4, qb1_4, qb2_4⟩
      | exact ⟨qa0_5, qa1_5, qa2_5, qb0_5, qb1_5, qb2_5⟩
      | exact ⟨qa0_6, qa1_6, qa2_6, qb0_6, qb1_6, qb2_6⟩
      | exact ⟨qa0_7, qa1_7, qa2_7, qb0_7, qb1_7, qb2_7⟩
      | go_keep)
    (first
      | (go_at_call 122; (with_reducible refine (C2_0.out _ gb).mono ?_); rintro e W3 ⟨Xv, cv, rfl, hv, hb3⟩; have ha_3 := ha.below hb3; have ga_3 := ga.below hb3; have hb_3 := hb.below hb3; have gb_3 := gb.below hb3; have Ra_3 := Ra.below hb3; have qa0_3 := cbl hb3 qa0; have qa1_3 := cbl hb3 qa1; have qa2_3 := cbl hb3 qa2; have Rb_3 := Rb.below hb3; have qb0_3 := cbl hb3 qb0; have qb1_3 := cbl hb3 qb1; have qb2_3 := cbl hb3 qb2; have HBT_3 := Below.cons HBT hb3)
      | (go_at_call 121; (with_reducible refine (C2_1.out _ _ _ ha_3 hv).mono ?_); rintro e W4 ⟨Xn1, cn1, rfl, hn1, hb4⟩; have ha_4 := ha_3.below hb4; have ga_4 := ga_3.below hb4; have hb_4 := hb_3.below hb4; have gb_4 := gb_3.below hb4; have Ra_4 := Ra_3.below hb4; have qa0_4 := cbl hb4 qa0_3; have qa1_4 := cbl hb4 qa1_3; have qa2_4 := cbl hb4 qa2_3; have Rb_4 := Rb_3.below hb4; have qb0_4 := cbl hb4 qb0_3; have qb1_4 := cbl hb4 qb1_3; have qb2_4 := cbl hb4 qb2_3; have hv_4 := hv.below hb4; have HBT_4 := Below.cons HBT_3 hb4)
      | (go_at_call 122; (with_reducible refine (C2_2.out _ ga_4).mono ?_); rintro e W5 ⟨Xu, cu, rfl, hu, hb5⟩; have ha_5 := ha_4.below hb5; have ga_5 := ga_4.below hb5; have hb_5 := hb_4.below hb5; have gb_5 := gb_4.below hb5; have Ra_5 := Ra_4.below hb5; have qa0_5 := cbl hb5 qa0_4; have qa1_5 := cbl hb5 qa1_4; have qa2_5 := cbl hb5 qa2_4; have Rb_5 := Rb_4.below hb5; have qb0_5 := cbl hb5 qb0_4; have qb1_5 := cbl hb5 qb1_4; have qb2_5 := cbl hb5 qb2_4; have hv_5 := hv_4.below hb5; have hn1_5 := hn1.below hb5; have HBT_5 := Below.cons HBT_4 hb5)
      | (go_at_call 121; (with_reducible refine (C2_3.out _ _ _ hb_5 hu).mono ?_); rintro e W6 ⟨Xn2, cn2, rfl, hn2, hb6⟩; have ha_6 := ha_5.below hb6; have ga_6 := ga_5.below hb6; have hb_6 := hb_5.below hb6; have gb_6 := gb_5.below hb6; have Ra_6 := Ra_5.below hb6; have qa0_6 := cbl hb6 qa0_5; have qa1_6 := cbl hb6 qa1_5; have qa2_6 := cbl hb6 qa2_5; have Rb_6 := Rb_5.below hb6; have qb0_6 := cbl hb6 qb0_5; have qb1_6 := cbl hb6 qb1_5; have qb2_6 := cbl hb6 qb2_5; have hv_6 := hv_5.below hb6; have hn1_6 := hn1_5.below hb6; have hu_6 := hu.below hb6; have HBT_6 := Below.cons HBT_5 hb6)
      | (go_at_call 97; (with_reducible refine (C2_4.out _ _ _ _ _ hn1_6 hn2).mono ?_); rintro e W7 ⟨rfl, hb7⟩; have ha_7 := ha_6.below hb7; have ga_7 := ga_6.below hb7; have hb_7 := hb_6.below hb7; have gb_7 := gb_6.below hb7; have Ra_7 := Ra_6.below hb7; have qa0_7 := cbl hb7 qa0_6; have qa1_7 := cbl hb7 qa1_6; have qa2_7 := cbl hb7 qa2_6; have Rb_7 := Rb_6.below hb7; have qb0_7 := cbl hb7 qb0_6; have qb1_7 := cbl hb7 qb1_6; have qb2_7 := cbl hb7 qb2_6; have hv_7 := hv_6.below hb7; have hn1_7 := hn1_6.below hb7; have hu_7 := hu_6.below hb7; have hn2_7 := hn2.below hb7; have HBT_7 := Below.cons HBT_6 hb7))
  all_goals (try go_wp2_with (fail))
  go_ret
  exact ⟨by rw [En1.out, En2.out, Eu.out, Ev.out, hd.out]; rfl, HBT_7⟩
theorem r9sub_c (aA : Option Addr) (ac : Nat) (aB : Option Addr) (ad : Nat) (a : Rat) (bA : Option Addr) (bc : Nat) (bB : Option Addr) (bd : Nat) (b : Rat) (w : World) (ha : NatV w aA ac (mg a.num)) (ga : NatV w aB ad a.den) (hb : NatV w bA bc (mg b.num)) (gb : NatV w bB bd b.den) (la : nl (mg a.num) ≤ 262144) (ma : nl a.den ≤ 262144) (lb : nl (mg b.num) ≤ 262144) (mb : nl b.den ≤ 262144) :
    Calls Tryz.prog 75 #[.agg #[.bool (sg a.num), .slice aA (nl (mg a.num)) ac, .slice aB (nl a.den) ad], .agg #[.bool (sg b.num), .slice bA (nl (mg b.num)) bc, .slice bB (nl b.den) bd]] w (RetR w (a - b)) := by
  have e1 : nl (mg (-b).num) ≤ 262144 := by rw [Rat.neg_num, mg_neg]; exact lb
  have e2 : nl (-b).den ≤ 262144 := by rw [Rat.neg_den]; exact mb
  obtain ⟨hb1, Ra, Rb, Rr⟩ := bx3 w #[.bool (sg a.num), .slice aA (nl (mg a.num)) ac, .slice aB (nl a.den) ad] 41 #[.bool (sg b.num), .slice bA (nl (mg b.num)) bc, .slice bB (nl b.den) bd] 41 #[.bool false, .slice none 0 0, .slice none 0 0] 41
  replace ha := ha.below hb1
  replace ga := ga.below hb1
  replace hb := hb.below hb1
  replace gb := gb.below hb1
  have HBT := hb1
  clear hb1
  have qa0 := Ra.c (i := 0) rfl
  have qa1 := Ra.c (i := 1) rfl
  have qa2 := Ra.c (i := 2) rfl
  have qb0 := Rb.c (i := 0) rfl
  have qb1 := Rb.c (i := 1) rfl
  have qb2 := Rb.c (i := 2) rfl
  have qr0 := Rr.c (i := 0) rfl
  have qr1 := Rr.c (i := 1) rfl
  have qr2 := Rr.c (i := 2) rfl
  go_enter Tryz.func75, Tryz.ntmps75
  go_wp2_with (fail)
  have hd2 := drb ((((w.alloc (.cells #[.bool (sg a.num), .slice aA (nl (mg a.num)) ac, .slice aB (nl a.den) ad] 41)).alloc (.cells #[.bool (sg b.num), .slice bA (nl (mg b.num)) bc, .slice bB (nl b.den) bd] 41)).alloc (.cells #[.bool false, .slice none 0 0, .slice none 0 0] 41)))
  replace ha := ha.below hd2
  replace ga := ga.below hd2
  replace hb := hb.below hd2
  replace gb := gb.below hd2
  replace Ra := Ra.below hd2
  replace qa0 := cbl hd2 qa0
  replace qa1 := cbl hd2 qa1
  replace qa2 := cbl hd2 qa2
  replace Rb := Rb.below hd2
  replace qb0 := cbl hd2 qb0
  replace qb1 := cbl hd2 qb1
  replace qb2 := cbl hd2 qb2
  replace Rr := Rr.below hd2
  replace qr0 := cbl hd2 qr0
  replace qr1 := cbl hd2 qr1
  replace qr2 := cbl hd2 qr2
  replace HBT := Below.cons HBT hd2
  clear hd2
  obtain ⟨m, Em⟩ : ∃ zq : Rat, zq = -b := ⟨_, rfl⟩
  rw [← Em] at e1 e2
  have C2_0 := fun (W : World) (h1 : NatV W bA bc (mg b.num)) (h2 : NatV W bB bd b.den) => r9neg_c bA bc bB bd b W h1 h2 (by omega)
  simp only [← Em] at C2_0
  replace Em := Lib.hid Em
  replace C2_0 := Lib.hid C2_0
  obtain ⟨q, Eq⟩ : ∃ zq : Rat, zq = a + m := ⟨_, rfl⟩
  have C2_1 := fun (W : World) (A : Option Addr) (c : Nat) (B : Option Addr) (d : Nat) (h1 : NatV W aA ac (mg a.num)) (h2 : NatV W aB ad a.den) (h3 : NatV W A c (mg m.num)) (h4 : NatV W B d m.den) => r9add_c aA ac aB ad a A c B d m W h1 h2 h3 h4 la ma e1 e2
  simp only [← Eq] at C2_1
  replace Eq := Lib.hid Eq
  replace C2_1 := Lib.hid C2_1
  go_region_held3 (fun W => W.cell? ⟨w.heap.size, 0, none⟩ = some (.bool (sg a.num)) ∧ W.cell? ⟨w.heap.size, 1, none⟩ = some (.slice aA (nl (mg a.num)) ac) ∧ W.cell? ⟨w.heap.size, 2, none⟩ = some (.slice aB (nl a.den) ad) ∧ W.cell? ⟨(w.heap.size + 1), 0, none⟩ = some (.bool (sg b.num)) ∧ W.cell? ⟨(w.heap.size + 1), 1, none⟩ = some (.slice bA (nl (mg b.num)) bc) ∧ W.cell? ⟨(w.heap.size + 1), 2, none⟩ = some (.slice bB (nl b.den) bd))
    (first
      | exact ⟨qa0, qa1, qa2, qb0, qb1, qb2⟩
      | exact ⟨qa0_3, qa1_3, qa2_3, qb0_3, qb1_3, qb2_3⟩
      | exact ⟨qa0_4, qa1_4, qa2_4, qb0_4, qb1_4, qb2_4⟩
      | exact ⟨((Ra_4.other3 (by simp <;> omega)).c (i := 0) rfl), ((Ra_4.other3 (by simp <;> omega)).c (i := 1) rfl), ((Ra_4.other3 (by simp <;> omega)).c (i := 2) rfl), ((Rb_4.other3 (by simp <;> omega)).c (i := 0) rfl), ((Rb_4.other3 (by simp <;> omega)).c (i := 1) rfl), ((Rb_4.other3 (by simp <;> omega)).c (i := 2) rfl)⟩
      | go_keep)
    (first
      | (go_at_call 126; (with_reducible refine (C2_0.out _ hb gb).mono ?_); rintro e W3 ⟨Xm, cm, Ym, dm, rfl, hm, gm, hb3⟩; have ha_3 := ha.below hb3; have ga_3 := ga.below hb3; have hb_3 := hb.below hb3; have gb_3 := gb.below hb3; have Ra_3 := Ra.below hb3; have qa0_3 := cbl hb3 qa0; have qa1_3 := cbl hb3 qa1; have qa2_3 := cbl hb3 qa2; have Rb_3 := Rb.below hb3; have qb0_3 := cbl hb3 qb0; have qb1_3 := cbl hb3 qb1; have qb2_3 := cbl hb3 qb2; have Rr_3 := Rr.below hb3; have qr0_3 := cbl hb3 qr0; have qr1_3 := cbl hb3 qr1; have qr2_3 := cbl hb3 qr2; have HBT_3 := Below.cons HBT hb3)
      | (go_at_call 74; (with_reducible refine (C2_1.out _ _ _ _ _ ha_3 ga_3 hm gm).mono ?_); rintro e W4 ⟨Xq, cq, Yq, dq, rfl, hq, gq, hb4⟩; have ha_4 := ha_3.below hb4; have ga_4 := ga_3.below hb4; have hb_4 := hb_3.below hb4; have gb_4 := gb_3.below hb4; have Ra_4 := Ra_3.below hb4; have qa0_4 := cbl hb4 qa0_3; have qa1_4 := cbl hb4 qa1_3; have qa2_4 := cbl hb4 qa2_3; have Rb_4 := Rb_3.below hb4; have qb0_4 := cbl hb4 qb0_3; have qb1_4 := cbl hb4 qb1_3; have qb2_4 := cbl hb4 qb2_3; have Rr_4 := Rr_3.below hb4; have qr0_4 := cbl hb4 qr0_3; have qr1_4 := cbl hb4 qr1_3; have qr2_4 := cbl hb4 qr2_3; have hm_4 := hm.below hb4; have gm_4 := gm.below hb4; have HBT_4 := Below.cons HBT_3 hb4; have fz0 := Rr_4.f (i := 0); have fz1 := Rr_4.f (i := 1); have fz2 := Rr_4.f (i := 2)))
  all_goals (try go_wp2_with (fail))
  have hzq : q = a - b := by rw [Eq.out, Em.out, Rat.sub_eq_add_neg]
  subst hzq
  have RS := Rr_4.store3 (.bool (sg ((a - b)).num)) (.slice Xq (nl (mg ((a - b)).num)) cq) (.slice Yq (nl ((a - b)).den) dq)
  have e0 := RS.c (i := 0) rfl
  have e1 := RS.c (i := 1) rfl
  have e2 := RS.c (i := 2) rfl
  refine bodyPost_ret (v := .agg #[.bool (sg ((a - b)).num), .slice Xq (nl (mg ((a - b)).num)) cq, .slice Yq (nl ((a - b)).den) dq]) (by simp [results, Tryz.results75, go_sem, e0, e1, e2]) rfl ?_
  exact ⟨Xq, cq, Yq, dq, rfl, (Rr_4.keep3 (nuB rfl) hq), (Rr_4.keep3 (nuB rfl) gq), (Below.store3 HBT_4 (by first | exact Nat.le_refl _ | omega))⟩
theorem rat_same {a b : Rat} (h : a.num = b.num) : (a = b) ↔ a.den = b.den := ⟨fun e => by rw [e], fun e => Rat.ext h e⟩
theorem r9same_y (aA : Option Addr) (ac : Nat) (aB : Option Addr) (ad : Nat) (a : Rat) (bA : Option Addr) (bc : Nat) (bB : Option Addr) (bd : Nat) (b : Rat) (w : World) (ha : NatV w aA ac (mg a.num)) (ga : NatV w aB ad a.den) (hb : NatV w bA bc (mg b.num)) (gb : NatV w bB bd b.den) (la : nl (mg a.num) ≤ 1073741824) (ma : nl a.den ≤ 1073741824) (lb : nl (mg b.num) ≤ 1073741824) (mb : nl b.den ≤ 1073741824) (h0 : a.num = b.num) :
    Calls Tryz.prog 28 #[.agg #[.bool (sg a.num), .slice aA (nl (mg a.num)) ac, .slice aB (nl a.den) ad], .agg #[.bool (sg b.num), .slice bA (nl (mg b.num)) bc, .slice bB (nl b.den) bd]] w (fun e w' => e = .returned (.bool (decide (a.den = b.den))) ∧ Below w.heap.size w w') := by
  have ds : decide (a.num = b.num) = true := by simp; exact h0
  replace h0 := Lib.hid h0
  have kk : cmpN a.den b.den = 0 ↔ a.den = b.den := by unfold cmpN; split <;> (try split) <;> omega
  have eb : ((cmpN a.den b.den) == 0) = decide (a.den = b.den) := by rw [Bool.eq_iff_iff]; simp [kk]
  clear kk
  obtain ⟨cc, Ecc⟩ : ∃ z, z = cmpN a.den b.den := ⟨_, rfl⟩
  rw [← Ecc] at eb
  obtain ⟨hb1, Ra, Rb⟩ := bx2 w #[.bool (sg a.num), .slice aA (nl (mg a.num)) ac, .slice aB (nl a.den) ad] 41 #[.bool (sg b.num), .slice bA (nl (mg b.num)) bc, .slice bB (nl b.den) bd] 41
  replace ha := ha.below hb1
  replace ga := ga.below hb1
  replace hb := hb.below hb1
  replace gb := gb.below hb1
  have HBT := hb1
  clear hb1
  have qa0 := Ra.c (i := 0) rfl
  have qa1 := Ra.c (i := 1) rfl
  have qa2 := Ra.c (i := 2) rfl
  have qb0 := Rb.c (i := 0) rfl
  have qb1 := Rb.c (i := 1) rfl
  have qb2 := Rb.c (i := 2) rfl
  have CS := fun (W : World) (h1 : NatV W aA ac (mg a.num)) (h2 : NatV W bA bc (mg b.num)) => zsame_c aA ac a.num bA bc b.num W h1 h2 la lb
  rw [ds] at CS
  replace CS := Lib.hid CS
  have CC := fun (W : World) (h1 : NatV W aB ad a.den) (h2 : NatV W bB bd b.den) => rcmp_c aB ad a.den bB bd b.den W h1 h2 ma mb
  rw [← Ecc] at CC
  replace CC := Lib.hid CC
  replace Ecc := Lib.hid Ecc
  go_enter Tryz.func28, Tryz.ntmps28
  go_wp2_with (fail)
  refine (Calls.mono (CS.out _ ha hb) ?_)
  rintro e W2 ⟨rfl, hb2⟩
  replace ha := ha.below hb2
  replace ga := ga.below hb2
  replace hb := hb.below hb2
  replace gb := gb.below hb2
  replace Ra := Ra.below hb2
  replace qa0 := cbl hb2 qa0
  replace qa1 := cbl hb2 qa1
  replace qa2 := cbl hb2 qa2
  replace Rb := Rb.below hb2
  replace qb0 := cbl hb2 qb0
  replace qb1 := cbl hb2 qb1
  replace qb2 := cbl hb2 qb2
  replace HBT := Below.cons HBT hb2
  clear hb2
  go_wp2_with (fail)
  refine (Calls.mono (CC.out _ ga gb) ?_)
  rintro e w' ⟨rfl, hw⟩
  subst hw
  go_wp2_with (fail)
  go_ret
  exact ⟨rfl, HBT⟩
theorem r9same_n (aA : Option Addr) (ac : Nat) (aB : Option Addr) (ad : Nat) (a : Rat) (bA : Option Addr) (bc : Nat) (bB : Option Addr) (bd : Nat) (b : Rat) (w : World) (ha : NatV w aA ac (mg a.num)) (ga : NatV w aB ad a.den) (hb : NatV w bA bc (mg b.num)) (gb : NatV w bB bd b.den) (la : nl (mg a.num) ≤ 1073741824) (ma : nl a.den ≤ 1073741824) (lb : nl (mg b.num) ≤ 1073741824) (mb : nl b.den ≤ 1073741824) (h0 : a.num ≠ b.num) :
    Calls Tryz.prog 28 #[.agg #[.bool (sg a.num), .slice aA (nl (mg a.num)) ac, .slice aB (nl a.den) ad], .agg #[.bool (sg b.num), .slice bA (nl (mg b.num)) bc, .slice bB (nl b.den) bd]] w (fun e w' => e = .returned (.bool false) ∧ Below w.heap.size w w') := by
  have ds : decide (a.num = b.num) = false := by simp; exact h0
  replace h0 := Lib.hid h0
  obtain ⟨hb1, Ra, Rb⟩ := bx2 w #[.bool (sg a.num), .slice aA (nl (mg a.num)) ac, .slice aB (nl a.den) ad] 41 #[.bool (sg b.num), .slice bA (nl (mg b.num)) bc, .slice bB (nl b.den) bd] 41
  replace ha := ha.below hb1
  replace ga := ga.below hb1
  replace hb := hb.below hb1
  replace gb := gb.below hb1
  have HBT := hb1
  clear hb1
  have qa0 := Ra.c (i := 0) rfl
  have qa1 := Ra.c (i := 1) rfl
  have qa2 := Ra.c (i := 2) rfl
  have qb0 := Rb.c (i := 0) rfl
  have qb1 := Rb.c (i := 1) rfl
  have qb2 := Rb.c (i := 2) rfl
  have CS := fun (W : World) (h1 : NatV W aA ac (mg a.num)) (h2 : NatV W bA bc (mg b.num)) => zsame_c aA ac a.num bA bc b.num W h1 h2 la lb
  rw [ds] at CS
  replace CS := Lib.hid CS
  go_enter Tryz.func28, Tryz.ntmps28
  go_wp2_with (fail)
  refine (Calls.mono (CS.out _ ha hb) ?_)
  rintro e W2 ⟨rfl, hb2⟩
  replace ha := ha.below hb2
  replace ga := ga.below hb2
  replace hb := hb.below hb2
  replace gb := gb.below hb2
  replace Ra := Ra.below hb2
  replace qa0 := cbl hb2 qa0
  replace qa1 := cbl hb2 qa1
  replace qa2 := cbl hb2 qa2
  replace Rb := Rb.below hb2
  replace qb0 := cbl hb2 qb0
  replace qb1 := cbl hb2 qb1
  replace qb2 := cbl hb2 qb2
  replace HBT := Below.cons HBT hb2
  clear hb2
  go_wp2_with (fail)
  go_ret
  exact ⟨rfl, HBT⟩
theorem r9same_c (aA : Option Addr) (ac : Nat) (aB : Option Addr) (ad : Nat) (a : Rat) (bA : Option Addr) (bc : Nat) (bB : Option Addr) (bd : Nat) (b : Rat) (w : World) (ha : NatV w aA ac (mg a.num)) (ga : NatV w aB ad a.den) (hb : NatV w bA bc (mg b.num)) (gb : NatV w bB bd b.den) (la : nl (mg a.num) ≤ 1073741824) (ma : nl a.den ≤ 1073741824) (lb : nl (mg b.num) ≤ 1073741824) (mb : nl b.den ≤ 1073741824) :
    Calls Tryz.prog 28 #[.agg #[.bool (sg a.num), .slice aA (nl (mg a.num)) ac, .slice aB (nl a.den) ad], .agg #[.bool (sg b.num), .slice bA (nl (mg b.num)) bc, .slice bB (nl b.den) bd]] w fun e w' => e = .returned (.bool (decide (a = b))) ∧ Below w.heap.size w w' := by
  by_cases h : a.num = b.num
  · rw [show decide (a = b) = decide (a.den = b.den) by rw [decide_eq_decide]; exact rat_same h]; exact r9same_y aA ac aB ad a bA bc bB bd b w ha ga hb gb la ma lb mb h
  · rw [decide_eq_false (fun e => h (by rw [e]))]; exact r9same_n aA ac aB ad a bA bc bB bd b w ha ga hb gb la ma lb mb h
theorem iof1_c (w : World) : Calls Tryz.prog 82 #[.int .i64 1] w (RetI w 1) := iof_c 1 w (by decide)
theorem shf_one (k : Nat) : shf 1 (k : Int) = ((2 ^ k : Nat) : Int) := by
  unfold shf; rw [if_pos (Int.natCast_nonneg k), Int.toNat_natCast, Int.one_mul, Int.natCast_pow]; rfl
theorem rat_up {a : Rat} (h : Dyd a) (h0 : 0 ≤ dex a) : ((shf (dmn a) (dex a) : Int) : Rat) = a := by
  have h1 := lev h (E := 0) h0
  rw [Int.sub_zero] at h1
  unfold dval at h1
  rw [Rat.zpow_zero, Rat.mul_one] at h1
  exact h1
theorem rat_down {a : Rat} {k : Nat} (h : Dyd a) (hk : dex a = -(k : Int)) : Rat.divInt (dmn a) ((2 ^ k : Nat) : Int) = a := by
  have h1 := dval_q h
  rw [hk, dval_den] at h1
  rw [Rat.divInt_ofNat]; exact h1
theorem drat_up (aA : Option Addr) (ac : Nat) (a : Rat) (w : World) (ha : NatV w aA ac (mg (dmn a))) (oa : DOk a) (h0 : 0 ≤ dex a) :
    Calls Tryz.prog 29 #[.agg #[.bool (sg (dmn a)), .slice aA (nl (mg (dmn a))) ac, .int .i64 (dex a)]] w (RetR w a) := by
  have hl := oa.l
  have he := oa.e
  have hv := rat_up oa.d h0
  have t1 : decide (0 ≤ dex a) = true := by simp; exact h0
  have hr : -16777216 ≤ dex a ∧ dex a ≤ 16777216 := by omega
  replace hv := Lib.hid hv
  replace oa := Lib.hid oa
  replace h0 := Lib.hid h0
  replace he := Lib.hid he
  obtain ⟨hb1, Ra, Rr⟩ := bx2 w #[.bool (sg (dmn a)), .slice aA (nl (mg (dmn a))) ac, .int .i64 (dex a)] 26 #[.bool false, .slice none 0 0, .slice none 0 0] 41
  replace ha := ha.below hb1
  have HBT := hb1
  clear hb1
  have qa0 := Ra.c (i := 0) rfl
  have qa1 := Ra.c (i := 1) rfl
  have qa2 := Ra.c (i := 2) rfl
  have qr0 := Rr.c (i := 0) rfl
  have qr1 := Rr.c (i := 1) rfl
  have qr2 := Rr.c (i := 2) rfl
  go_enter Tryz.func29, Tryz.ntmps29
  go_wp2_with (fail)
  obtain ⟨z, Ez⟩ : ∃ zq : Int, zq = shf (dmn a) (dex a) := ⟨_, rfl⟩
  refine (Calls.mono (R := RetI ((w.alloc (.cells #[.bool (sg (dmn a)), .slice aA (nl (mg (dmn a))) ac, .int .i64 (dex a)] 26)).alloc (.cells #[.bool false, .slice none 0 0, .slice none 0 0] 41)) z) (by rw [Ez]; with_reducible exact (ishift_c aA ac (dmn a) (dex a) _ ha (by omega) hr)) ?_)
  replace Ez := Lib.hid Ez
  rintro e W2 ⟨Xz, cz, rfl, hz, hb2⟩
  replace ha := ha.below hb2
  replace Ra := Ra.below hb2
  replace qa0 := cbl hb2 qa0
  replace qa1 := cbl hb2 qa1
  replace qa2 := cbl hb2 qa2
  replace Rr := Rr.below hb2
  replace qr0 := cbl hb2 qr0
  replace qr1 := cbl hb2 qr1
  replace qr2 := cbl hb2 qr2
  replace HBT := Below.cons HBT hb2
  clear hb2
  go_wp2_with (fail)
  obtain ⟨q, Eq⟩ : ∃ zq : Rat, zq = (z : Rat) := ⟨_, rfl⟩
  refine (Calls.mono (R := RetR W2 q) (by rw [Eq]; with_reducible exact (rwhole_c Xz cz z _ hz)) ?_)
  replace Eq := Lib.hid Eq
  rintro e W3 ⟨Xq, cq, Yq, dq, rfl, hq, gq, hb3⟩
  replace ha := ha.below hb3
  replace Ra := Ra.below hb3
  replace qa0 := cbl hb3 qa0
  replace qa1 := cbl hb3 qa1
  replace qa2 := cbl hb3 qa2
  replace Rr := Rr.below hb3
  replace qr0 := cbl hb3 qr0
  replace qr1 := cbl hb3 qr1
  replace qr2 := cbl hb3 qr2
  replace hz := hz.below hb3
  replace HBT := Below.cons HBT hb3
  clear hb3
  have fzr0 := Rr.f (i := 0)
  have fzr1 := Rr.f (i := 1)
  have fzr2 := Rr.f (i := 2)
  go_wp2_with (fail)
  have hzq : q = a := by rw [Eq.out, Ez.out]; exact hv.out
  subst hzq
  have RS := Rr.store3 (.bool (sg q.num)) (.slice Xq (nl (mg q.num)) cq) (.slice Yq (nl q.den) dq)
  have e0 := RS.c (i := 0) rfl
  have e1 := RS.c (i := 1) rfl
  have e2 := RS.c (i := 2) rfl
  refine bodyPost_ret (v := .agg #[.bool (sg q.num), .slice Xq (nl (mg q.num)) cq, .slice Yq (nl q.den) dq]) (by simp [results, Tryz.results29, go_sem, e0, e1, e2]) rfl ?_
  exact ⟨Xq, cq, Yq, dq, rfl, (Rr.keep3 (nuB rfl) hq), (Rr.keep3 (nuB rfl) gq), (Below.store3 HBT (by first | exact Nat.le_refl _ | omega))⟩
theorem ways_c (w : World) :
    Calls Tryz.prog 108 #[] w fun e w' => e = .returned (.agg #[.func (.func 150) #[] #[], .func (.func 151) #[] #[], .func (.func 152) #[] #[], .func (.func 153) #[] #[], .func (.func 154) #[] #[]]) ∧ Below w.heap.size w w' := by
  go_enter Tryz.func108, Tryz.ntmps108
  go_wp2_with (fail)
  have hb : Below w.heap.size w (w.alloc (.cells #[.func (.func 150) #[] #[], .func (.func 151) #[] #[], .func (.func 152) #[] #[], .func (.func 153) #[] #[], .func (.func 154) #[] #[]] 116)) := (Below.refl _ _).alloc (Nat.le_refl _) _
  have RS : BoxA (w.alloc (.cells #[.func (.func 150) #[] #[], .func (.func 151) #[] #[], .func (.func 152) #[] #[], .func (.func 153) #[] #[], .func (.func 154) #[] #[]] 116)) w.heap.size 116 _ := ⟨at_new rfl⟩
  have e0 := RS.c (i := 0) rfl
  have e1 := RS.c (i := 1) rfl
  have e2 := RS.c (i := 2) rfl
  have e3 := RS.c (i := 3) rfl
  have e4 := RS.c (i := 4) rfl
  exact bodyPost_ret (v := .agg #[.func (.func 150) #[] #[], .func (.func 151) #[] #[], .func (.func 152) #[] #[], .func (.func 153) #[] #[], .func (.func 154) #[] #[]]) (by simp [results, Tryz.results108, go_sem, e0, e1, e2, e3, e4]) rfl ⟨rfl, hb⟩
theorem drat_down (aA : Option Addr) (ac : Nat) (a : Rat) (w : World) (ha : NatV w aA ac (mg (dmn a))) (oa : DOk a) (h0 : dex a < 0) :
    Calls Tryz.prog 29 #[.agg #[.bool (sg (dmn a)), .slice aA (nl (mg (dmn a))) ac, .int .i64 (dex a)]] w (RetR w a) := by
  have hl := oa.l
  have he := oa.e
  obtain ⟨k, hk⟩ := Int.eq_ofNat_of_zero_le (show 0 ≤ -dex a by omega)
  have hv := rat_down (k := k) oa.d (by omega)
  have t1 : decide (0 ≤ dex a) = false := by simp; exact h0
  have lk : k ≤ 1000000 := by omega
  have Wk : IntKind.i64.wrap (k : Int) = (k : Int) := IntWalk.i64_in _ (by omega)
  replace hv := Lib.hid hv
  replace oa := Lib.hid oa
  replace h0 := Lib.hid h0
  replace he := Lib.hid he
  obtain ⟨p, Ep⟩ : ∃ zq : Int, zq = shf 1 (k : Int) := ⟨_, rfl⟩
  have Vp : p = ((2 ^ k : Nat) : Int) := by rw [Ep]; exact shf_one k
  have Pp : 0 < p := by rw [Vp]; have := Nat.two_pow_pos k; omega
  have Np : nl (mg p) ≤ 262144 := by rw [Vp, mg_nat, nl_two_pow]; omega
  have N1 : nl (mg 1) ≤ 1 := Nat.le_of_eq nl_one
  have CS := fun (W : World) (A : Option Addr) (c : Nat) (h1 : NatV W A c (mg 1)) => ishift_c A c 1 (k : Int) W h1 (by omega) (by omega)
  rw [← Ep] at CS
  obtain ⟨q, Eq⟩ : ∃ zq : Rat, zq = Rat.divInt (dmn a) p := ⟨_, rfl⟩
  have CM := fun (W : World) (A : Option Addr) (c : Nat) (h1 : NatV W aA ac (mg (dmn a))) (h2 : NatV W A c (mg p)) => rmake_q aA ac (dmn a) A c p W h1 h2 (by omega) Np Pp
  rw [← Eq] at CM
  have eqq : q = a := by rw [Eq, Vp]; exact hv.out
  replace Ep := Lib.hid Ep
  replace Vp := Lib.hid Vp
  replace Eq := Lib.hid Eq
  replace eqq := Lib.hid eqq
  replace CS := Lib.hid CS
  replace CM := Lib.hid CM
  obtain ⟨hb1, Ra, Rr⟩ := bx2 w #[.bool (sg (dmn a)), .slice aA (nl (mg (dmn a))) ac, .int .i64 (dex a)] 26 #[.bool false, .slice none 0 0, .slice none 0 0] 41
  replace ha := ha.below hb1
  have HBT := hb1
  clear hb1
  have qa0 := Ra.c (i := 0) rfl
  have qa1 := Ra.c (i := 1) rfl
  have qa2 := Ra.c (i := 2) rfl
  have qr0 := Rr.c (i := 0) rfl
  have qr1 := Rr.c (i := 1) rfl
  have qr2 := Rr.c (i := 2) rfl
  go_enter Tryz.func29, Tryz.ntmps29
  go_wp2_with (fail)
  generalize hW0 : ((w.alloc (.cells #[.bool (sg (dmn a)), .slice aA (nl (mg (dmn a))) ac, .int .i64 (dex a)] 26)).alloc (.cells #[.bool false, .slice none 0 0, .slice none 0 0] 41)) = W0 at *
  replace hW0 := Lib.hid hW0
  refine wp_region_inv (fun E a' w' => ∃ (u15 u16 u17 u18 u19 u20 u21 u22 u14 u23 u24 u3 u4 : Value),
    a' = { tmps := #[.agg #[.bool (sg (dmn a)), .slice aA (nl (mg (dmn a))) ac, .int .i64 (dex a)], .pointer (some ⟨w.heap.size, 0, none⟩), .pointer (some ⟨w.heap.size + 1, 0, none⟩), u3, u4, .pointer (some ⟨w.heap.size, 2, none⟩), .int .i64 (dex a), .bool false, undef, undef, undef, undef, undef, undef, u14, u15, u16, u17, u18, u19, u20, u21, u22, u23, u24, undef], defers := [] } ∧
    (E 0 = true → u15 = .pointer (some ⟨w.heap.size, 0, none⟩)) ∧
    (E 1 = true → u16 = .agg #[.bool (sg (dmn a)), .slice aA (nl (mg (dmn a))) ac]) ∧
    (E 2 = true → PI u17 1 w') ∧
    (E 3 = true → u18 = .pointer (some ⟨w.heap.size, 2, none⟩)) ∧
    (E 4 = true → u19 = .int .i64 (dex a)) ∧
    (E 5 = true → u20 = .int .i64 k) ∧
    (E 6 = true → PI u21 p w') ∧
    (E 7 = true → PRt u22 q w') ∧
    (E 8 = true → PRt u14 q w') ∧
    (E 9 = true → PR u23 q w') ∧
    (E 10 = true → u24 = .int .i64 0) ∧
    (E 11 = true → PB3 41 W0.heap.size u3 w') ∧
    (E 12 = true → PBR W0.heap.size u3 q w') ∧
    (E 13 = true → u4 = .int .i64 0) ∧
    (E 12 = true → E 11 = true) ∧
    Below W0.heap.size W0 w') (by kernel_rfl) (by kernel_rfl) ?init ?fin ?step
  case init => exact ⟨_, _, _, _, _, _, _, _, _, _, _, _, _, rfl, by simp, by simp, by simp, by simp, by simp, by simp, by simp, by simp, by simp, by simp, by simp, by simp, by simp, by simp, by simp, (Below.refl _ _).drew⟩
  case step =>
    rintro E a' w' i ⟨u15, u16, u17, u18, u19, u20, u21, u22, u14, u23, u24, u3, u4, rfl, h0, h1, h2, h3, h4, h5, h6, h7, h8, h9, h10, h11, h12, h13, hD12, hB⟩ hi hEi hdep
    have qa0 := cbl hB qa0
    have qa1 := cbl hB qa1
    have qa2 := cbl hB qa2
    obtain rfl | rfl | rfl | rfl | rfl | rfl | rfl | rfl | rfl | rfl | rfl | rfl | rfl | rfl : i = 0 ∨ i = 1 ∨ i = 2 ∨ i = 3 ∨ i = 4 ∨ i = 5 ∨ i = 6 ∨ i = 7 ∨ i = 8 ∨ i = 9 ∨ i = 10 ∨ i = 11 ∨ i = 12 ∨ i = 13 := by simp at hi; omega
    · skip
      refine wpOp_step rfl (fun K' hK' => ?_)
      go_simp
      refine hK' _ _ ?_
      exact ⟨_, _, _, _, _, _, _, _, _, _, _, _, _, rfl, fun _ => rfl, kd h1, kd h2, kd h3, kd h4, kd h5, kd h6, kd h7, kd h8, kd h9, kd h10, kd h11, kd h12, kd h13, (fun h => by have := hD12 (by simpa using h); simpa using this), hB⟩
    · skip
      have d0 := hdep _ rfl ⟨0, .data⟩ (by simp) rfl
      obtain rfl := h0 d0
      refine wpOp_step rfl (fun K' hK' => ?_)
      go_simp
      refine hK' _ _ ?_
      exact ⟨_, _, _, _, _, _, _, _, _, _, _, _, _, rfl, kd h0, fun _ => rfl, kd h2, kd h3, kd h4, kd h5, kd h6, kd h7, kd h8, kd h9, kd h10, kd h11, kd h12, kd h13, (fun h => by have := hD12 (by simpa using h); simpa using this), hB⟩
    · skip
      refine wpOp_step rfl (fun K' hK' => ?_)
      go_simp
      refine (Calls.mono (iof1_c w') ?_)
      rintro e W1 ⟨Xr, cr, rfl, kr, kb⟩
      refine hK' _ _ ?_
      exact ⟨_, _, _, _, _, _, _, _, _, _, _, _, _, rfl, kd h0, kd h1, fun _ => ⟨Xr, cr, rfl, kr⟩, kd h3, kd h4, kd h5, kp h6 (fun h => h.below kb), kp h7 (fun h => h.below kb), kp h8 (fun h => h.below kb), kp h9 (fun h => h.below kb), kd h10, kp h11 (fun h => h.below kb), kp h12 (fun h => h.below kb), kd h13, (fun h => by have := hD12 (by simpa using h); simpa using this), Below.cons hB kb⟩
    · skip
      refine wpOp_step rfl (fun K' hK' => ?_)
      go_simp
      refine hK' _ _ ?_
      exact ⟨_, _, _, _, _, _, _, _, _, _, _, _, _, rfl, kd h0, kd h1, kd h2, fun _ => rfl, kd h4, kd h5, kd h6, kd h7, kd h8, kd h9, kd h10, kd h11, kd h12, kd h13, (fun h => by have := hD12 (by simpa using h); simpa using this), hB⟩
    · skip
      have d3 := hdep _ rfl ⟨3, .data⟩ (by simp) rfl
      obtain rfl := h3 d3
      refine wpOp_step rfl (fun K' hK' => ?_)
      go_simp
      refine hK' _ _ ?_
      exact ⟨_, _, _, _, _, _, _, _, _, _, _, _, _, rfl, kd h0, kd h1, kd h2, kd h3, fun _ => rfl, kd h5, kd h6, kd h7, kd h8, kd h9, kd h10, kd h11, kd h12, kd h13, (fun h => by have := hD12 (by simpa using h); simpa using this), hB⟩
    · skip
      have d4 := hdep _ rfl ⟨4, .data⟩ (by simp) rfl
      obtain rfl := h4 d4
      refine wpOp_step rfl (fun K' hK' => ?_)
      go_simp
      refine hK' _ _ ?_
      exact ⟨_, _, _, _, _, _, _, _, _, _, _, _, _, rfl, kd h0, kd h1, kd h2, kd h3, kd h4, fun _ => rfl, kd h6, kd h7, kd h8, kd h9, kd h10, kd h11, kd h12, kd h13, (fun h => by have := hD12 (by simpa using h); simpa using this), hB⟩
    · skip
      have d2 := hdep _ rfl ⟨2, .data⟩ (by simp) rfl
      obtain ⟨X_2, c_2, rfl, k_2⟩ := h2 d2
      have d5 := hdep _ rfl ⟨5, .data⟩ (by simp) rfl
      obtain rfl := h5 d5
      refine wpOp_step rfl (fun K' hK' => ?_)
      go_simp
      refine (Calls.mono (CS.out w' _ _ k_2) ?_)
      rintro e W1 ⟨Xr, cr, rfl, kr, kb⟩
      refine hK' _ _ ?_
      exact ⟨_, _, _, _, _, _, _, _, _, _, _, _, _, rfl, kd h0, kd h1, kp h2 (fun h => h.below kb), kd h3, kd h4, kd h5, fun _ => ⟨Xr, cr, rfl, kr⟩, kp h7 (fun h => h.below kb), kp h8 (fun h => h.below kb), kp h9 (fun h => h.below kb), kd h10, kp h11 (fun h => h.below kb), kp h12 (fun h => h.below kb), kd h13, (fun h => by have := hD12 (by simpa using h); simpa using this), Below.cons hB kb⟩
    · skip
      have d1 := hdep _ rfl ⟨1, .data⟩ (by simp) rfl
      obtain rfl := h1 d1
      have d6 := hdep _ rfl ⟨6, .data⟩ (by simp) rfl
      obtain ⟨X_6, c_6, rfl, k_6⟩ := h6 d6
      refine wpOp_step rfl (fun K' hK' => ?_)
      go_simp
      refine (Calls.mono (CM.out w' _ _ (ha.below hB) k_6) ?_)
      rintro e W1 ⟨Xr, cr, Yr, dr, rfl, kr, lr, kb⟩
      refine hK' _ _ ?_
      exact ⟨_, _, _, _, _, _, _, _, _, _, _, _, _, rfl, kd h0, kd h1, kp h2 (fun h => h.below kb), kd h3, kd h4, kd h5, kp h6 (fun h => h.below kb), fun _ => ⟨Xr, cr, Yr, dr, rfl, kr, lr⟩, kp h8 (fun h => h.below kb), kp h9 (fun h => h.below kb), kd h10, kp h11 (fun h => h.below kb), kp h12 (fun h => h.below kb), kd h13, (fun h => by have := hD12 (by simpa using h); simpa using this), Below.cons hB kb⟩
    · skip
      have d7 := hdep _ rfl ⟨7, .data⟩ (by simp) rfl
      obtain ⟨X_7, c_7, Y_7, d_7, rfl, k_7, l_7⟩ := h7 d7
      refine wpOp_step rfl (fun K' hK' => ?_)
      go_simp
      refine hK' _ _ ?_
      exact ⟨_, _, _, _, _, _, _, _, _, _, _, _, _, rfl, kd h0, kd h1, kd h2, kd h3, kd h4, kd h5, kd h6, kd h7, fun _ => ⟨X_7, c_7, Y_7, d_7, rfl, k_7, l_7⟩, kd h9, kd h10, kd h11, kd h12, kd h13, (fun h => by have := hD12 (by simpa using h); simpa using this), hB⟩
    · skip
      have d8 := hdep _ rfl ⟨8, .data⟩ (by simp) rfl
      obtain ⟨X_8, c_8, Y_8, d_8, rfl, k_8, l_8⟩ := h8 d8
      refine wpOp_step rfl (fun K' hK' => ?_)
      go_simp
      refine hK' _ _ ?_
      exact ⟨_, _, _, _, _, _, _, _, _, _, _, _, _, rfl, kd h0, kd h1, kd h2, kd h3, kd h4, kd h5, kd h6, kd h7, kd h8, fun _ => ⟨X_8, c_8, Y_8, d_8, rfl, k_8, l_8⟩, kd h10, kd h11, kd h12, kd h13, (fun h => by have := hD12 (by simpa using h); simpa using this), hB⟩
    · skip
      have d8 := hdep _ rfl ⟨8, .data⟩ (by simp) rfl
      obtain ⟨X_8, c_8, Y_8, d_8, rfl, k_8, l_8⟩ := h8 d8
      refine wpOp_step rfl (fun K' hK' => ?_)
      go_simp
      refine hK' _ _ ?_
      exact ⟨_, _, _, _, _, _, _, _, _, _, _, _, _, rfl, kd h0, kd h1, kd h2, kd h3, kd h4, kd h5, kd h6, kd h7, kd h8, kd h9, fun _ => rfl, kd h11, kd h12, kd h13, (fun h => by have := hD12 (by simpa using h); simpa using this), hB⟩
    · skip
      have kb : Below w'.heap.size w' (w'.alloc (.cells #[.bool false, .slice none 0 0, .slice none 0 0] 41)) := (Below.refl _ _).alloc (Nat.le_refl _) _
      refine wpOp_step rfl (fun K' hK' => ?_)
      go_simp
      refine hK' _ _ ?_
      exact ⟨_, _, _, _, _, _, _, _, _, _, _, _, _, rfl, kd h0, kd h1, kp h2 (fun h => h.below kb), kd h3, kd h4, kd h5, kp h6 (fun h => h.below kb), kp h7 (fun h => h.below kb), kp h8 (fun h => h.below kb), kp h9 (fun h => h.below kb), kd h10, fun _ => ⟨_, _, _, _, rfl, hB.size, ⟨at_new rfl⟩, notU_bool _, notU_slice _ _ _, notU_slice _ _ _⟩, (fun h => by have h2 := hD12 (by simpa using h); rw [hEi] at h2; cases h2), kd h13, (fun _ => by simp), Below.cons hB kb⟩
    · skip
      have d11 := hdep _ rfl ⟨11, .data⟩ (by simp) rfl
      obtain ⟨nb, z0, z1, z2, rfl, hn, hb, nz0, nz1, nz2⟩ := h11 d11
      have d9 := hdep _ rfl ⟨9, .data⟩ (by simp) rfl
      obtain ⟨X_9, c_9, Y_9, d_9, rfl, k_9, l_9⟩ := h9 d9
      have fz0 := hb.f (i := 0)
      have cz0 := hb.c (i := 0) rfl
      have fz1 := hb.f (i := 1)
      have cz1 := hb.c (i := 1) rfl
      have fz2 := hb.f (i := 2)
      have cz2 := hb.c (i := 2) rfl
      have hp := hb.put3 (notU3 nz0 nz1 nz2) (.bool (sg q.num)) (.slice X_9 (nl (mg q.num)) c_9) (.slice Y_9 (nl q.den) d_9)
      have hs := hb.store3 (.bool (sg q.num)) (.slice X_9 (nl (mg q.num)) c_9) (.slice Y_9 (nl q.den) d_9)
      refine wpOp_step rfl (fun K' hK' => ?_)
      go_simp
      refine hK' _ _ ?_
      exact ⟨_, _, _, _, _, _, _, _, _, _, _, _, _, rfl, kd h0, kd h1, kp h2 (fun h => h.put hp), kd h3, kd h4, kd h5, kp h6 (fun h => h.put hp), kp h7 (fun h => h.put hp), kp h8 (fun h => h.put hp), kp h9 (fun h => h.put hp), kd h10, (fun _ => ⟨nb, _, _, _, rfl, hn, hs, notU_bool _, notU_slice _ _ _, notU_slice _ _ _⟩), fun _ => ⟨nb, X_9, c_9, Y_9, d_9, rfl, hn, hs, hp.nat k_9, hp.nat l_9⟩, kd h13, (fun _ => by simp [d11]), Below.store3 hB hn⟩
    · skip
      have d10 := hdep _ rfl ⟨10, .data⟩ (by simp) rfl
      obtain rfl := h10 d10
      refine wpOp_step rfl (fun K' hK' => ?_)
      go_simp
      refine hK' _ _ ?_
      exact ⟨_, _, _, _, _, _, _, _, _, _, _, _, _, rfl, kd h0, kd h1, kd h2, kd h3, kd h4, kd h5, kd h6, kd h7, kd h8, kd h9, kd h10, kd h11, kd h12, fun _ => rfl, (fun h => by have := hD12 (by simpa using h); simpa using this), hB⟩
  case fin =>
    rintro E a' w' ⟨u15, u16, u17, u18, u19, u20, u21, u22, u14, u23, u24, u3, u4, rfl, h0, h1, h2, h3, h4, h5, h6, h7, h8, h9, h10, h11, h12, h13, hD12, hB⟩ hall
    obtain ⟨nbq, Xq, cq, Yq, dq, rfl, hnq, Rq, hq, gq⟩ := h12 (hall 12 (by simp))
    replace ha := ha.below hB
    replace Ra := Ra.below hB
    replace qa0 := cbl hB qa0
    replace qa1 := cbl hB qa1
    replace qa2 := cbl hB qa2
    replace Rr := Rr.below hB
    replace qr0 := cbl hB qr0
    replace qr1 := cbl hB qr1
    replace qr2 := cbl hB qr2
    replace HBT := Below.cons HBT hB
    clear hall
    have kvq := hnq
    have qq0 := Rq.c (i := 0) rfl
    have qq1 := Rq.c (i := 1) rfl
    have qq2 := Rq.c (i := 2) rfl
    have hz : w.heap.size + 2 = W0.heap.size := by rw [← hW0.out]; simp
    have fzr0 := Rr.f (i := 0)
    have fzr1 := Rr.f (i := 1)
    have fzr2 := Rr.f (i := 2)
    go_wp2_with (fail)
    have hzq : q = a := by exact eqq.out
    subst hzq
    have RS := Rr.store3 (.bool (sg q.num)) (.slice Xq (nl (mg q.num)) cq) (.slice Yq (nl q.den) dq)
    have e0 := RS.c (i := 0) rfl
    have e1 := RS.c (i := 1) rfl
    have e2 := RS.c (i := 2) rfl
    refine bodyPost_ret (v := .agg #[.bool (sg q.num), .slice Xq (nl (mg q.num)) cq, .slice Yq (nl q.den) dq]) (by simp [results, Tryz.results29, go_sem, e0, e1, e2]) rfl ?_
    exact ⟨Xq, cq, Yq, dq, rfl, (Rr.keep3 (nuB rfl) hq), (Rr.keep3 (nuB rfl) gq), (Below.store3 HBT (by first | exact Nat.le_refl _ | omega))⟩
theorem drat_c (aA : Option Addr) (ac : Nat) (a : Rat) (w : World) (ha : NatV w aA ac (mg (dmn a))) (oa : DOk a) :
    Calls Tryz.prog 29 #[.agg #[.bool (sg (dmn a)), .slice aA (nl (mg (dmn a))) ac, .int .i64 (dex a)]] w (RetR w a) := by
  by_cases h : 0 ≤ dex a
  · exact drat_up aA ac a w ha oa h
  · exact drat_down aA ac a w ha oa (by omega)
theorem way1_c (neg odd : Bool) (h b : Int) (w : World) :
    Calls Tryz.prog 150 #[.bool neg, .bool odd, .int .i64 (icmp h b)] w fun e w' => e = .returned (.bool (upw neg odd (h - b) 0)) ∧ Below w.heap.size w w' := by
  have hu : upw neg odd (h - b) 0 = (false) := rfl
  rw [hu]
  go_enter Tryz.func150, Tryz.ntmps150
  go_wp2_with (fail)
  go_ret
  exact ⟨rfl, Below.refl _ _⟩
theorem way2_c (neg odd : Bool) (h b : Int) (w : World) :
    Calls Tryz.prog 151 #[.bool neg, .bool odd, .int .i64 (icmp h b)] w fun e w' => e = .returned (.bool (upw neg odd (h - b) 1)) ∧ Below w.heap.size w w' := by
  have hu : upw neg odd (h - b) 1 = (true) := rfl
  rw [hu]
  go_enter Tryz.func151, Tryz.ntmps151
  go_wp2_with (fail)
  go_ret
  exact ⟨rfl, Below.refl _ _⟩
theorem way3_c (neg odd : Bool) (h b : Int) (w : World) :
    Calls Tryz.prog 152 #[.bool neg, .bool odd, .int .i64 (icmp h b)] w fun e w' => e = .returned (.bool (upw neg odd (h - b) 2)) ∧ Below w.heap.size w w' := by
  have hu : upw neg odd (h - b) 2 = (neg) := rfl
  rw [hu]
  go_enter Tryz.func152, Tryz.ntmps152
  go_wp2_with (fail)
  go_ret
  exact ⟨rfl, Below.refl _ _⟩
theorem way4_c (neg odd : Bool) (h b : Int) (w : World) :
    Calls Tryz.prog 153 #[.bool neg, .bool odd, .int .i64 (icmp h b)] w fun e w' => e = .returned (.bool (upw neg odd (h - b) 3)) ∧ Below w.heap.size w w' := by
  have hu : upw neg odd (h - b) 3 = (!neg) := rfl
  rw [hu]
  go_enter Tryz.func153, Tryz.ntmps153
  go_wp2_with (fail)
  go_ret
  exact ⟨rfl, Below.refl _ _⟩
theorem icmp_lt {h b : Int} (k : h < b) : icmp h b = -1 := by unfold icmp; rw [if_pos k]
theorem icmp_gt {h b : Int} (k : b < h) : icmp h b = 1 := by unfold icmp; rw [if_neg (by omega), if_pos k]
theorem icmp_eq {h b : Int} (k : h = b) : icmp h b = 0 := by unfold icmp; rw [if_neg (by omega), if_neg (by omega)]
theorem way5_c (neg odd : Bool) (h b : Int) (w : World) :
    Calls Tryz.prog 154 #[.bool neg, .bool odd, .int .i64 (icmp h b)] w fun e w' => e = .returned (.bool (upw neg odd (h - b) 4)) ∧ Below w.heap.size w w' := by
  have hu : upw neg odd (h - b) 4 = (decide (0 < h - b) || (decide (h - b = 0) && odd)) := rfl
  rw [hu]
  rcases Int.lt_trichotomy h b with k | k | k
  · have e1 : (decide (0 < h - b) || (decide (h - b = 0) && odd)) = false := by simp; omega
    rw [icmp_lt k, e1]
    go_enter Tryz.func154, Tryz.ntmps154
    go_wp2_with (fail)
    go_ret
    exact ⟨rfl, Below.refl _ _⟩
  · have e1 : (decide (0 < h - b) || (decide (h - b = 0) && odd)) = odd := by
      rw [decide_eq_false (by omega), decide_eq_true (by omega)]; simp
    rw [icmp_eq k, e1]
    go_enter Tryz.func154, Tryz.ntmps154
    go_wp2_with (fail)
    go_ret
    exact ⟨rfl, Below.refl _ _⟩
  · have e1 : (decide (0 < h - b) || (decide (h - b = 0) && odd)) = true := by
      rw [decide_eq_true (by omega)]; simp
    rw [icmp_gt k, e1]
    go_enter Tryz.func154, Tryz.ntmps154
    go_wp2_with (fail)
    go_ret
    exact ⟨rfl, Below.refl _ _⟩
theorem rest_le {a b : Int} (hb : 0 < b) : nl (mg (a % b)) ≤ nl (mg b) := by
  have h1 := Int.emod_nonneg a (show b ≠ 0 by omega)
  have h2 := Int.emod_lt_of_pos a hb
  exact nl_mono (by unfold mg; omega)
theorem quo_le (a b : Int) : nl (mg (a / b)) ≤ nl (mg a) := nl_mono (Int.natAbs_ediv_le_natAbs a b)
theorem shf_twice (r : Int) : shf r 1 = 2 * r := by unfold shf; rw [if_pos (by decide), Int.mul_comm]; rfl
theorem dbl_le {r : Int} : nl (mg (2 * r)) ≤ nl (mg r) + 1 := by
  rw [nl_le, mg_mul, Nat.pow_succ, Nat.mul_comm]
  have := nl_lt (mg r)
  exact Nat.mul_lt_mul_of_lt_of_le this (by decide) (by decide)
theorem odd_limb {q : Int} {x : Nat} (hx : x = mg q / 4294967296 ^ 0 % 4294967296) : decide (q % 2 = 1) = decide (x % 2 = 1) := by
  rw [Nat.pow_zero, Nat.div_one] at hx
  rw [decide_eq_decide]
  unfold mg at hx; omega
theorem and_one_u32 (x : Nat) (hx : x < 4294967296) : bits .and .u32 (x : Int) 1 = ((x % 2 : Nat) : Int) := by
  have := u32_and_nat x 1 hx (by decide)
  rw [Nat.and_one_is_mod] at this
  exact this
theorem way_idx0 (W : World) : (Instr.index 116 (.agg #[.func (.func 150) #[] #[], .func (.func 151) #[] #[], .func (.func 152) #[] #[], .func (.func 153) #[] #[], .func (.func 154) #[] #[]]) (.int .i64 0)).run Tryz.prog W = .ok (.agg #[.func (.func 150) #[] #[]]) W := by rfl
theorem way_fld0 (W : World) : (Instr.field 115 (.agg #[.func (.func 150) #[] #[]]) 0).run Tryz.prog W = .ok (.func (.func 150) #[] #[]) W := by rfl
theorem way_idx1 (W : World) : (Instr.index 116 (.agg #[.func (.func 150) #[] #[], .func (.func 151) #[] #[], .func (.func 152) #[] #[], .func (.func 153) #[] #[], .func (.func 154) #[] #[]]) (.int .i64 1)).run Tryz.prog W = .ok (.agg #[.func (.func 151) #[] #[]]) W := by rfl
theorem way_fld1 (W : World) : (Instr.field 115 (.agg #[.func (.func 151) #[] #[]]) 0).run Tryz.prog W = .ok (.func (.func 151) #[] #[]) W := by rfl
theorem way_idx2 (W : World) : (Instr.index 116 (.agg #[.func (.func 150) #[] #[], .func (.func 151) #[] #[], .func (.func 152) #[] #[], .func (.func 153) #[] #[], .func (.func 154) #[] #[]]) (.int .i64 2)).run Tryz.prog W = .ok (.agg #[.func (.func 152) #[] #[]]) W := by rfl
theorem way_fld2 (W : World) : (Instr.field 115 (.agg #[.func (.func 152) #[] #[]]) 0).run Tryz.prog W = .ok (.func (.func 152) #[] #[]) W := by rfl
theorem way_idx3 (W : World) : (Instr.index 116 (.agg #[.func (.func 150) #[] #[], .func (.func 151) #[] #[], .func (.func 152) #[] #[], .func (.func 153) #[] #[], .func (.func 154) #[] #[]]) (.int .i64 3)).run Tryz.prog W = .ok (.agg #[.func (.func 153) #[] #[]]) W := by rfl
theorem way_fld3 (W : World) : (Instr.field 115 (.agg #[.func (.func 153) #[] #[]]) 0).run Tryz.prog W = .ok (.func (.func 153) #[] #[]) W := by rfl
theorem way_idx4 (W : World) : (Instr.index 116 (.agg #[.func (.func 150) #[] #[], .func (.func 151) #[] #[], .func (.func 152) #[] #[], .func (.func 153) #[] #[], .func (.func 154) #[] #[]]) (.int .i64 4)).run Tryz.prog W = .ok (.agg #[.func (.func 154) #[] #[]]) W := by rfl
theorem way_fld4 (W : World) : (Instr.field 115 (.agg #[.func (.func 154) #[] #[]]) 0).run Tryz.prog W = .ok (.func (.func 154) #[] #[]) W := by rfl
theorem way_at (dr : Int) (h0 : 0 ≤ dr) (h4 : dr ≤ 4) : ∃ fn : Nat, (fn = 150 ∨ fn = 151 ∨ fn = 152 ∨ fn = 153 ∨ fn = 154) ∧ (∀ W : World, (Instr.index 116 (.agg #[.func (.func 150) #[] #[], .func (.func 151) #[] #[], .func (.func 152) #[] #[], .func (.func 153) #[] #[], .func (.func 154) #[] #[]]) (.int .i64 dr)).run Tryz.prog W = .ok (.agg #[.func (.func fn) #[] #[]]) W) ∧
    (∀ W : World, (Instr.field 115 (.agg #[.func (.func fn) #[] #[]]) 0).run Tryz.prog W = .ok (.func (.func fn) #[] #[]) W) ∧
    (∀ (neg odd : Bool) (h b : Int) (w : World), Calls Tryz.prog fn #[.bool neg, .bool odd, .int .i64 (icmp h b)] w fun e w' => e = .returned (.bool (upw neg odd (h - b) dr)) ∧ Below w.heap.size w w') := by
  obtain rfl | rfl | rfl | rfl | rfl : dr = 0 ∨ dr = 1 ∨ dr = 2 ∨ dr = 3 ∨ dr = 4 := by omega
  · exact ⟨150, Or.inl rfl, way_idx0, way_fld0, way1_c⟩
  · exact ⟨151, Or.inr (Or.inl rfl), way_idx1, way_fld1, way2_c⟩
  · exact ⟨152, Or.inr (Or.inr (Or.inl rfl)), way_idx2, way_fld2, way3_c⟩
  · exact ⟨153, Or.inr (Or.inr (Or.inr (Or.inl rfl))), way_idx3, way_fld3, way4_c⟩
  · exact ⟨154, Or.inr (Or.inr (Or.inr (Or.inr rfl))), way_idx4, way_fld4, way5_c⟩
theorem over_z (aA : Option Addr) (ac : Nat) (a : Int) (bA : Option Addr) (bc : Nat) (b : Int) (dr : Int) (w : World) (ha : NatV w aA ac (mg a)) (hb : NatV w bA bc (mg b))  (d0 : 0 ≤ dr) (d4 : dr ≤ 4) (la : nl (mg a) ≤ 1000000) (lb : nl (mg b) ≤ 1000000) (hb0 : 0 < b) (h0 : a % b = 0) :
    Calls Tryz.prog 109 #[.agg #[.bool (sg a), .slice aA (nl (mg a)) ac], .agg #[.bool (sg b), .slice bA (nl (mg b)) bc], .int .i64 dr] w (RetI w (ovr a b dr)) := by
  have lr0 := rest_le (a := a) hb0
  have lq0 := quo_le a b
  have ld0 := dbl_le (r := a % b)
  have hov : ovr a b dr = a / b := by unfold ovr; rw [if_pos h0]
  replace hov := Lib.hid hov
  replace h0 := Lib.hid h0
  obtain ⟨hb1, Ra, Rb, Rr⟩ := bx3 w #[.bool (sg a), .slice aA (nl (mg a)) ac] 24 #[.bool (sg b), .slice bA (nl (mg b)) bc] 24 #[.bool false, .slice none 0 0] 24
  replace ha := ha.below hb1
  replace hb := hb.below hb1
  have HBT := hb1
  clear hb1
  have qa0 := Ra.c (i := 0) rfl
  have qa1 := Ra.c (i := 1) rfl
  have qb0 := Rb.c (i := 0) rfl
  have qb1 := Rb.c (i := 1) rfl
  have qr0 := Rr.c (i := 0) rfl
  have qr1 := Rr.c (i := 1) rfl
  go_enter Tryz.func109, Tryz.ntmps109
  go_wp2_with (fail)
  obtain ⟨q, Eq⟩ : ∃ zq : Int, zq = a / b := ⟨_, rfl⟩
  have lq : nl (mg q) ≤ 1000000 := by rw [Eq]; omega
  obtain ⟨m, Em⟩ : ∃ zq : Int, zq = a % b := ⟨_, rfl⟩
  have lm : nl (mg m) ≤ 1000000 := by rw [Em]; omega
  have dm2 : nl (mg (2 * m)) ≤ 1000001 := by rw [Em]; omega
  have CT2 := (idiv_c aA ac a bA bc b _ ha hb (by omega) (by omega) (by omega))
  rw [← Eq, ← Em] at CT2
  replace Eq := Lib.hid Eq
  replace Em := Lib.hid Em
  replace CT2 := Lib.hid CT2
  refine (Calls.mono CT2.out ?_)
  clear CT2
  rintro e W2 ⟨Xq, cq, Xm, cm, rfl, hq, hm, hb2⟩
  replace ha := ha.below hb2
  replace hb := hb.below hb2
  replace Ra := Ra.below hb2
  replace qa0 := cbl hb2 qa0
  replace qa1 := cbl hb2 qa1
  replace Rb := Rb.below hb2
  replace qb0 := cbl hb2 qb0
  replace qb1 := cbl hb2 qb1
  replace Rr := Rr.below hb2
  replace qr0 := cbl hb2 qr0
  replace qr1 := cbl hb2 qr1
  replace HBT := Below.cons HBT hb2
  clear hb2
  clear lr0 lq0 ld0
  have szr := Rr.lt
  go_wp2_with (fail)
  obtain ⟨hb3, Rq, Rm⟩ := bx2 W2 #[.bool (sg q), .slice Xq (nl (mg q)) cq] 24 #[.bool (sg m), .slice Xm (nl (mg m)) cm] 24
  replace ha := ha.below hb3
  replace hb := hb.below hb3
  replace Ra := Ra.below hb3
  replace qa0 := cbl hb3 qa0
  replace qa1 := cbl hb3 qa1
  replace Rb := Rb.below hb3
  replace qb0 := cbl hb3 qb0
  replace qb1 := cbl hb3 qb1
  replace Rr := Rr.below hb3
  replace qr0 := cbl hb3 qr0
  replace qr1 := cbl hb3 qr1
  replace hq := hq.below hb3
  replace hm := hm.below hb3
  replace HBT := Below.cons HBT hb3
  clear hb3
  have qq0 := Rq.c (i := 0) rfl
  have qq1 := Rq.c (i := 1) rfl
  have qm0 := Rm.c (i := 0) rfl
  have qm1 := Rm.c (i := 1) rfl
  have hsg : m.sign = 0 := by rw [Em.out, h0.out]; rfl
  have CG := isign_c Xm cm m ((W2.alloc (.cells #[.bool (sg q), .slice Xq (nl (mg q)) cq] 24)).alloc (.cells #[.bool (sg m), .slice Xm (nl (mg m)) cm] 24))
  rw [hsg] at CG
  replace hsg := Lib.hid hsg
  refine (Calls.mono (CG) ?_)
  rintro e W4 ⟨rfl, hb4⟩
  replace ha := ha.below hb4
  replace hb := hb.below hb4
  replace Ra := Ra.below hb4
  replace qa0 := cbl hb4 qa0
  replace qa1 := cbl hb4 qa1
  replace Rb := Rb.below hb4
  replace qb0 := cbl hb4 qb0
  replace qb1 := cbl hb4 qb1
  replace Rr := Rr.below hb4
  replace qr0 := cbl hb4 qr0
  replace qr1 := cbl hb4 qr1
  replace hq := hq.below hb4
  replace hm := hm.below hb4
  replace Rq := Rq.below hb4
  replace qq0 := cbl hb4 qq0
  replace qq1 := cbl hb4 qq1
  replace Rm := Rm.below hb4
  replace qm0 := cbl hb4 qm0
  replace qm1 := cbl hb4 qm1
  replace HBT := Below.cons HBT hb4
  clear hb4
  have fzr0 := Rr.f (i := 0)
  have fzr1 := Rr.f (i := 1)
  go_wp2_with (fail)
  have hzq : q = ovr a b dr := by rw [Eq.out, hov.out]
  subst hzq
  have RS := Rr.store2 (.bool (sg ((ovr a b dr)))) (.slice Xq (nl (mg ((ovr a b dr)))) cq)
  have e0 := RS.c (i := 0) rfl
  have e1 := RS.c (i := 1) rfl
  refine bodyPost_ret (v := .agg #[.bool (sg ((ovr a b dr))), .slice Xq (nl (mg ((ovr a b dr)))) cq]) (by simp [results, Tryz.results109, go_sem, e0, e1]) rfl ?_
  exact ⟨Xq, cq, rfl, (Rr.keep2 (nuB rfl) hq), (Below.store2 HBT (by first | exact Nat.le_refl _ | omega))⟩
theorem over_q (aA : Option Addr) (ac : Nat) (a : Int) (bA : Option Addr) (bc : Nat) (b : Int) (dr : Int) (w : World) (ha : NatV w aA ac (mg a)) (hb : NatV w bA bc (mg b))  (d0 : 0 ≤ dr) (d4 : dr ≤ 4) (la : nl (mg a) ≤ 1000000) (lb : nl (mg b) ≤ 1000000) (hb0 : 0 < b) (h0 : a % b ≠ 0) (h1 : a / b = 0) :
    Calls Tryz.prog 109 #[.agg #[.bool (sg a), .slice aA (nl (mg a)) ac], .agg #[.bool (sg b), .slice bA (nl (mg b)) bc], .int .i64 dr] w (RetI w (ovr a b dr)) := by
  have lr0 := rest_le (a := a) hb0
  have lq0 := quo_le a b
  have ld0 := dbl_le (r := a % b)
  have hov : ovr a b dr = if upw (sg a) (decide (a / b % 2 = 1)) (2 * (a % b) - b) dr then a / b + 1 else a / b := by unfold ovr; rw [if_neg h0]
  replace hov := Lib.hid hov
  replace h0 := Lib.hid h0
  replace h1 := Lib.hid h1
  obtain ⟨hb1, Ra, Rb, Rr⟩ := bx3 w #[.bool (sg a), .slice aA (nl (mg a)) ac] 24 #[.bool (sg b), .slice bA (nl (mg b)) bc] 24 #[.bool false, .slice none 0 0] 24
  replace ha := ha.below hb1
  replace hb := hb.below hb1
  have HBT := hb1
  clear hb1
  have qa0 := Ra.c (i := 0) rfl
  have qa1 := Ra.c (i := 1) rfl
  have qb0 := Rb.c (i := 0) rfl
  have qb1 := Rb.c (i := 1) rfl
  have qr0 := Rr.c (i := 0) rfl
  have qr1 := Rr.c (i := 1) rfl
  go_enter Tryz.func109, Tryz.ntmps109
  go_wp2_with (fail)
  obtain ⟨q, Eq⟩ : ∃ zq : Int, zq = a / b := ⟨_, rfl⟩
  have lq : nl (mg q) ≤ 1000000 := by rw [Eq]; omega
  obtain ⟨m, Em⟩ : ∃ zq : Int, zq = a % b := ⟨_, rfl⟩
  have lm : nl (mg m) ≤ 1000000 := by rw [Em]; omega
  have dm2 : nl (mg (2 * m)) ≤ 1000001 := by rw [Em]; omega
  have CT2 := (idiv_c aA ac a bA bc b _ ha hb (by omega) (by omega) (by omega))
  rw [← Eq, ← Em] at CT2
  replace Eq := Lib.hid Eq
  replace Em := Lib.hid Em
  replace CT2 := Lib.hid CT2
  refine (Calls.mono CT2.out ?_)
  clear CT2
  rintro e W2 ⟨Xq, cq, Xm, cm, rfl, hq, hm, hb2⟩
  replace ha := ha.below hb2
  replace hb := hb.below hb2
  replace Ra := Ra.below hb2
  replace qa0 := cbl hb2 qa0
  replace qa1 := cbl hb2 qa1
  replace Rb := Rb.below hb2
  replace qb0 := cbl hb2 qb0
  replace qb1 := cbl hb2 qb1
  replace Rr := Rr.below hb2
  replace qr0 := cbl hb2 qr0
  replace qr1 := cbl hb2 qr1
  replace HBT := Below.cons HBT hb2
  clear hb2
  clear lr0 lq0 ld0
  have szr := Rr.lt
  go_wp2_with (fail)
  obtain ⟨hb3, Rq, Rm⟩ := bx2 W2 #[.bool (sg q), .slice Xq (nl (mg q)) cq] 24 #[.bool (sg m), .slice Xm (nl (mg m)) cm] 24
  replace ha := ha.below hb3
  replace hb := hb.below hb3
  replace Ra := Ra.below hb3
  replace qa0 := cbl hb3 qa0
  replace qa1 := cbl hb3 qa1
  replace Rb := Rb.below hb3
  replace qb0 := cbl hb3 qb0
  replace qb1 := cbl hb3 qb1
  replace Rr := Rr.below hb3
  replace qr0 := cbl hb3 qr0
  replace qr1 := cbl hb3 qr1
  replace hq := hq.below hb3
  replace hm := hm.below hb3
  replace HBT := Below.cons HBT hb3
  clear hb3
  have qq0 := Rq.c (i := 0) rfl
  have qq1 := Rq.c (i := 1) rfl
  have qm0 := Rm.c (i := 0) rfl
  have qm1 := Rm.c (i := 1) rfl
  have hsg : (m.sign == 0) = false := by have := h0.out; rw [← Em.out] at this; simp; exact this
  obtain ⟨sn, Esn⟩ : ∃ sn, sn = m.sign := ⟨_, rfl⟩
  have CG := isign_c Xm cm m ((W2.alloc (.cells #[.bool (sg q), .slice Xq (nl (mg q)) cq] 24)).alloc (.cells #[.bool (sg m), .slice Xm (nl (mg m)) cm] 24))
  rw [← Esn] at CG hsg
  replace Esn := Lib.hid Esn
  have t1 : decide (0 < ((nl (mg q) : Nat) : Int)) = false := by rw [Eq.out, h1.out, mg0, nl_zero]; rfl
  have t2 : decide (0 < nl (mg q)) = false := by rw [Eq.out, h1.out, mg0, nl_zero]; rfl
  refine (Calls.mono (CG) ?_)
  rintro e W4 ⟨rfl, hb4⟩
  replace ha := ha.below hb4
  replace hb := hb.below hb4
  replace Ra := Ra.below hb4
  replace qa0 := cbl hb4 qa0
  replace qa1 := cbl hb4 qa1
  replace Rb := Rb.below hb4
  replace qb0 := cbl hb4 qb0
  replace qb1 := cbl hb4 qb1
  replace Rr := Rr.below hb4
  replace qr0 := cbl hb4 qr0
  replace qr1 := cbl hb4 qr1
  replace hq := hq.below hb4
  replace hm := hm.below hb4
  replace Rq := Rq.below hb4
  replace qq0 := cbl hb4 qq0
  replace qq1 := cbl hb4 qq1
  replace Rm := Rm.below hb4
  replace qm0 := cbl hb4 qm0
  replace qm1 := cbl hb4 qm1
  replace HBT := Below.cons HBT hb4
  clear hb4
  go_wp2_with (fail)
  have eod : decide (q % 2 = 1) = false := by rw [Eq.out, h1.out]; rfl
  obtain ⟨m2, Em2⟩ : ∃ z, z = 2 * m := ⟨_, rfl⟩
  rw [← Em2] at dm2
  have CS := fun (W : World) (h1 : NatV W Xm cm (mg m)) => ishift_c Xm cm m 1 W h1 (by omega) (by omega)
  simp only [shf_twice, ← Em2] at CS
  obtain ⟨fn, hfn, wi, wf, CW0⟩ := way_at dr d0 d4
  replace hfn := Lib.hid hfn
  obtain ⟨up, Eup⟩ : ∃ z, z = upw (sg a) false (m2 - b) dr := ⟨_, rfl⟩
  have CW := CW0 (sg a) false m2 b
  rw [← Eup] at CW
  clear CW0
  have hov2 : ovr a b dr = if up = true then q + 1 else q := by rw [hov.out, Eup, Em2, ← Eq.out, ← Em.out, eod]
  replace CS := Lib.hid CS
  replace CW := Lib.hid CW
  replace Em2 := Lib.hid Em2
  replace Eup := Lib.hid Eup
  replace hov2 := Lib.hid hov2
  refine wp_region_inv (fun E a' w' => ∃ (u34 u35 u36 u37 u38 u39 u40 u41 u42 u43 u44 u45 : Value),
    a' = { tmps := #[.agg #[.bool (sg a), .slice aA (nl (mg a)) ac], .agg #[.bool (sg b), .slice bA (nl (mg b)) bc], .int .i64 dr, .pointer (some ⟨w.heap.size, 0, none⟩), .pointer (some ⟨(w.heap.size + 1), 0, none⟩), undef, .pointer (some ⟨(w.heap.size + 1 + 1), 0, none⟩), .pointer (some ⟨W2.heap.size, 0, none⟩), .pointer (some ⟨(W2.heap.size + 1), 0, none⟩), .int .i64 0, .bool false, .tuple #[.agg #[.bool (sg q), .slice Xq (nl (mg q)) cq], .agg #[.bool (sg m), .slice Xm (nl (mg m)) cm], .int .i64 0], .agg #[.bool (sg a), .slice aA (nl (mg a)) ac], .agg #[.bool (sg b), .slice bA (nl (mg b)) bc], .tuple #[.agg #[.bool (sg q), .slice Xq (nl (mg q)) cq], .agg #[.bool (sg m), .slice Xm (nl (mg m)) cm], .int .i64 0], .agg #[.bool (sg q), .slice Xq (nl (mg q)) cq], .agg #[.bool (sg m), .slice Xm (nl (mg m)) cm], .int .i64 0, .agg #[.bool (sg m), .slice Xm (nl (mg m)) cm], .int .i64 sn, .bool false, undef, .pointer (some ⟨W2.heap.size, 1, none⟩), .slice Xq (nl (mg q)) cq, .int .i64 (nl (mg q)), .bool false, .bool false, undef, undef, undef, undef, undef, undef, .bool false, u34, u35, u36, u37, u38, u39, u40, u41, u42, u43, u44, u45, undef, undef, undef, undef], defers := [] } ∧
    (E 0 = true → u34 = (.agg #[.func (.func 150) #[] #[], .func (.func 151) #[] #[], .func (.func 152) #[] #[], .func (.func 153) #[] #[], .func (.func 154) #[] #[]])) ∧
    (E 1 = true → u35 = .int .i64 dr) ∧
    (E 2 = true → u36 = .agg #[.func (.func fn) #[] #[]]) ∧
    (E 3 = true → u37 = .func (.func fn) #[] #[]) ∧
    (E 4 = true → u38 = .pointer (some ⟨w.heap.size, 0, none⟩)) ∧
    (E 5 = true → u39 = .bool (sg a)) ∧
    (E 6 = true → u40 = .bool false) ∧
    (E 7 = true → u41 = .agg #[.bool (sg m), .slice Xm (nl (mg m)) cm]) ∧
    (E 8 = true → PI u42 m2 w') ∧
    (E 9 = true → u43 = .agg #[.bool (sg b), .slice bA (nl (mg b)) bc]) ∧
    (E 10 = true → u44 = .int .i64 (icmp m2 b)) ∧
    (E 11 = true → u45 = .bool up) ∧
    Below W4.heap.size W4 w') (by kernel_rfl) (by kernel_rfl) ?init ?fin ?step
  case init => exact ⟨_, _, _, _, _, _, _, _, _, _, _, _, rfl, by simp, by simp, by simp, by simp, by simp, by simp, by simp, by simp, by simp, by simp, by simp, by simp, (Below.refl _ _).drew⟩
  case step =>
    rintro E a' w' i ⟨u34, u35, u36, u37, u38, u39, u40, u41, u42, u43, u44, u45, rfl, h0, h1, h2, h3, h4, h5, h6, h7, h8, h9, h10, h11, hB⟩ hi hEi hdep
    have qa0 := cbl hB qa0
    have qa1 := cbl hB qa1
    have qb0 := cbl hB qb0
    have qb1 := cbl hB qb1
    have qm0 := cbl hB qm0
    have qm1 := cbl hB qm1
    obtain rfl | rfl | rfl | rfl | rfl | rfl | rfl | rfl | rfl | rfl | rfl | rfl : i = 0 ∨ i = 1 ∨ i = 2 ∨ i = 3 ∨ i = 4 ∨ i = 5 ∨ i = 6 ∨ i = 7 ∨ i = 8 ∨ i = 9 ∨ i = 10 ∨ i = 11 := by simp at hi; omega
    · skip
      refine wpOp_step rfl (fun K' hK' => ?_)
      go_simp
      refine (Calls.mono (ways_c w') ?_)
      rintro e W1 ⟨rfl, kb⟩
      refine hK' _ _ ?_
      exact ⟨_, _, _, _, _, _, _, _, _, _, _, _, rfl, fun _ => rfl, kd h1, kd h2, kd h3, kd h4, kd h5, kd h6, kd h7, kp h8 (fun h => h.below kb), kd h9, kd h10, kd h11, Below.cons hB kb⟩
    · skip
      refine wpOp_step rfl (fun K' hK' => ?_)
      go_simp
      refine hK' _ _ ?_
      exact ⟨_, _, _, _, _, _, _, _, _, _, _, _, rfl, kd h0, fun _ => rfl, kd h2, kd h3, kd h4, kd h5, kd h6, kd h7, kd h8, kd h9, kd h10, kd h11, hB⟩
    · skip
      have d0 := hdep _ rfl ⟨0, .data⟩ (by simp) rfl
      obtain rfl := h0 d0
      have d1 := hdep _ rfl ⟨1, .data⟩ (by simp) rfl
      obtain rfl := h1 d1
      refine wpOp_step rfl (fun K' hK' => ?_)
      go_simp
      refine hK' _ _ ?_
      exact ⟨_, _, _, _, _, _, _, _, _, _, _, _, rfl, kd h0, kd h1, fun _ => rfl, kd h3, kd h4, kd h5, kd h6, kd h7, kd h8, kd h9, kd h10, kd h11, hB⟩
    · skip
      have d2 := hdep _ rfl ⟨2, .data⟩ (by simp) rfl
      obtain rfl := h2 d2
      refine wpOp_step rfl (fun K' hK' => ?_)
      go_simp
      refine hK' _ _ ?_
      exact ⟨_, _, _, _, _, _, _, _, _, _, _, _, rfl, kd h0, kd h1, kd h2, fun _ => rfl, kd h4, kd h5, kd h6, kd h7, kd h8, kd h9, kd h10, kd h11, hB⟩
    · skip
      refine wpOp_step rfl (fun K' hK' => ?_)
      go_simp
      refine hK' _ _ ?_
      exact ⟨_, _, _, _, _, _, _, _, _, _, _, _, rfl, kd h0, kd h1, kd h2, kd h3, fun _ => rfl, kd h5, kd h6, kd h7, kd h8, kd h9, kd h10, kd h11, hB⟩
    · skip
      have d4 := hdep _ rfl ⟨4, .data⟩ (by simp) rfl
      obtain rfl := h4 d4
      refine wpOp_step rfl (fun K' hK' => ?_)
      go_simp
      refine hK' _ _ ?_
      exact ⟨_, _, _, _, _, _, _, _, _, _, _, _, rfl, kd h0, kd h1, kd h2, kd h3, kd h4, fun _ => rfl, kd h6, kd h7, kd h8, kd h9, kd h10, kd h11, hB⟩
    · skip
      refine wpOp_step rfl (fun K' hK' => ?_)
      go_simp
      refine hK' _ _ ?_
      exact ⟨_, _, _, _, _, _, _, _, _, _, _, _, rfl, kd h0, kd h1, kd h2, kd h3, kd h4, kd h5, fun _ => rfl, kd h7, kd h8, kd h9, kd h10, kd h11, hB⟩
    · skip
      refine wpOp_step rfl (fun K' hK' => ?_)
      go_simp
      refine hK' _ _ ?_
      exact ⟨_, _, _, _, _, _, _, _, _, _, _, _, rfl, kd h0, kd h1, kd h2, kd h3, kd h4, kd h5, kd h6, fun _ => rfl, kd h8, kd h9, kd h10, kd h11, hB⟩
    · skip
      have d7 := hdep _ rfl ⟨7, .data⟩ (by simp) rfl
      obtain rfl := h7 d7
      refine wpOp_step rfl (fun K' hK' => ?_)
      go_simp
      refine (Calls.mono (CS.out w' (hm.below hB)) ?_)
      rintro e W1 ⟨Xr, cr, rfl, kr, kb⟩
      refine hK' _ _ ?_
      exact ⟨_, _, _, _, _, _, _, _, _, _, _, _, rfl, kd h0, kd h1, kd h2, kd h3, kd h4, kd h5, kd h6, kd h7, fun _ => ⟨Xr, cr, rfl, kr⟩, kd h9, kd h10, kd h11, Below.cons hB kb⟩
    · skip
      refine wpOp_step rfl (fun K' hK' => ?_)
      go_simp
      refine hK' _ _ ?_
      exact ⟨_, _, _, _, _, _, _, _, _, _, _, _, rfl, kd h0, kd h1, kd h2, kd h3, kd h4, kd h5, kd h6, kd h7, kd h8, fun _ => rfl, kd h10, kd h11, hB⟩
    · skip
      have d8 := hdep _ rfl ⟨8, .data⟩ (by simp) rfl
      obtain ⟨X_8, c_8, rfl, k_8⟩ := h8 d8
      have d9 := hdep _ rfl ⟨9, .data⟩ (by simp) rfl
      obtain rfl := h9 d9
      refine wpOp_step rfl (fun K' hK' => ?_)
      go_simp
      refine (Calls.mono (icmp_c X_8 c_8 m2 bA bc b w' k_8 (hb.below hB) (by omega) (by omega)) ?_)
      rintro e W1 ⟨rfl, kb⟩
      refine hK' _ _ ?_
      exact ⟨_, _, _, _, _, _, _, _, _, _, _, _, rfl, kd h0, kd h1, kd h2, kd h3, kd h4, kd h5, kd h6, kd h7, kp h8 (fun h => h.below kb), kd h9, fun _ => rfl, kd h11, Below.cons hB kb⟩
    · skip
      have d3 := hdep _ rfl ⟨3, .data⟩ (by simp) rfl
      obtain rfl := h3 d3
      have d5 := hdep _ rfl ⟨5, .data⟩ (by simp) rfl
      obtain rfl := h5 d5
      have d6 := hdep _ rfl ⟨6, .data⟩ (by simp) rfl
      obtain rfl := h6 d6
      have d10 := hdep _ rfl ⟨10, .data⟩ (by simp) rfl
      obtain rfl := h10 d10
      rcases hfn.out with rfl | rfl | rfl | rfl | rfl
      all_goals refine wpOp_step rfl (fun K' hK' => ?_)
      all_goals go_simp
      all_goals refine (Calls.mono (CW.out w') ?_)
      all_goals rintro e W1 ⟨rfl, kb⟩
      all_goals refine hK' _ _ ?_
      all_goals exact ⟨_, _, _, _, _, _, _, _, _, _, _, _, rfl, kd h0, kd h1, kd h2, kd h3, kd h4, kd h5, kd h6, kd h7, kp h8 (fun h => h.below kb), kd h9, kd h10, fun _ => rfl, Below.cons hB kb⟩
  case fin =>
    rintro E a' w' ⟨u34, u35, u36, u37, u38, u39, u40, u41, u42, u43, u44, u45, rfl, h0, h1, h2, h3, h4, h5, h6, h7, h8, h9, h10, h11, hB⟩ hall
    replace ha := ha.below hB
    replace hb := hb.below hB
    replace Ra := Ra.below hB
    replace qa0 := cbl hB qa0
    replace qa1 := cbl hB qa1
    replace Rb := Rb.below hB
    replace qb0 := cbl hB qb0
    replace qb1 := cbl hB qb1
    replace Rr := Rr.below hB
    replace qr0 := cbl hB qr0
    replace qr1 := cbl hB qr1
    replace hq := hq.below hB
    replace hm := hm.below hB
    replace Rq := Rq.below hB
    replace qq0 := cbl hB qq0
    replace qq1 := cbl hB qq1
    replace Rm := Rm.below hB
    replace qm0 := cbl hB qm0
    replace qm1 := cbl hB qm1
    replace HBT := Below.cons HBT hB
    obtain rfl := h11 (hall 11 (by simp))
    clear hall
    cases up
    case false =>
      have fzr0 := Rr.f (i := 0)
      have fzr1 := Rr.f (i := 1)
      go_wp2_with (fail)
      have hzq : q = ovr a b dr := by have := hov2.out; simpa using this.symm
      subst hzq
      have RS := Rr.store2 (.bool (sg ((ovr a b dr)))) (.slice Xq (nl (mg ((ovr a b dr)))) cq)
      have e0 := RS.c (i := 0) rfl
      have e1 := RS.c (i := 1) rfl
      refine bodyPost_ret (v := .agg #[.bool (sg ((ovr a b dr))), .slice Xq (nl (mg ((ovr a b dr)))) cq]) (by simp [results, Tryz.results109, go_sem, e0, e1]) rfl ?_
      exact ⟨Xq, cq, rfl, (Rr.keep2 (nuB rfl) hq), (Below.store2 HBT (by first | exact Nat.le_refl _ | omega))⟩
    case true =>
      go_wp2_with (fail)
      have hd5 := drb (w')
      replace ha := ha.below hd5
      replace hb := hb.below hd5
      replace Ra := Ra.below hd5
      replace qa0 := cbl hd5 qa0
      replace qa1 := cbl hd5 qa1
      replace Rb := Rb.below hd5
      replace qb0 := cbl hd5 qb0
      replace qb1 := cbl hd5 qb1
      replace Rr := Rr.below hd5
      replace qr0 := cbl hd5 qr0
      replace qr1 := cbl hd5 qr1
      replace hq := hq.below hd5
      replace hm := hm.below hd5
      replace Rq := Rq.below hd5
      replace qq0 := cbl hd5 qq0
      replace qq1 := cbl hd5 qq1
      replace Rm := Rm.below hd5
      replace qm0 := cbl hd5 qm0
      replace qm1 := cbl hd5 qm1
      replace HBT := Below.cons HBT hd5
      clear hd5
      obtain ⟨o1, Eo1⟩ : ∃ zq : Int, zq = (1 : Int) := ⟨_, rfl⟩
      have No1 : nl (mg o1) ≤ 1 := by rw [Eo1]; exact Nat.le_of_eq nl_one
      have C5_0 := fun (W : World) => (show Calls Tryz.prog 82 #[.int .i64 1] W (RetI W o1) by rw [Eo1]; exact iof1_c W)
      replace Eo1 := Lib.hid Eo1
      replace C5_0 := Lib.hid C5_0
      obtain ⟨y, Ey⟩ : ∃ zq : Int, zq = q + o1 := ⟨_, rfl⟩
      have C5_1 := fun (W : World) (A : Option Addr) (c : Nat) (h1 : NatV W Xq cq (mg q)) (h2 : NatV W A c (mg o1)) => iadd_c Xq cq q A c o1 W h1 h2 (by omega) (by omega)
      simp only [← Ey] at C5_1
      replace Ey := Lib.hid Ey
      replace C5_1 := Lib.hid C5_1
      go_region_held3 (fun W => W.cell? ⟨W2.heap.size, 0, none⟩ = some (.bool (sg q)) ∧ W.cell? ⟨W2.heap.size, 1, none⟩ = some (.slice Xq (nl (mg q)) cq))
        (first
          | exact ⟨qq0, qq1⟩
          | exact ⟨qq0_6, qq1_6⟩
          | exact ⟨qq0_7, qq1_7⟩
          | exact ⟨((Rq_7.other2 (by simp <;> omega)).c (i := 0) rfl), ((Rq_7.other2 (by simp <;> omega)).c (i := 1) rfl)⟩
          | go_keep)
        (first
          | (go_at_call 82; (with_reducible refine (C5_0.out _).mono ?_); rintro e W6 ⟨Xo1, co1, rfl, ho1, hb6⟩; have ha_6 := ha.below hb6; have hb_6 := hb.below hb6; have Ra_6 := Ra.below hb6; have qa0_6 := cbl hb6 qa0; have qa1_6 := cbl hb6 qa1; have Rb_6 := Rb.below hb6; have qb0_6 := cbl hb6 qb0; have qb1_6 := cbl hb6 qb1; have Rr_6 := Rr.below hb6; have qr0_6 := cbl hb6 qr0; have qr1_6 := cbl hb6 qr1; have hq_6 := hq.below hb6; have hm_6 := hm.below hb6; have Rq_6 := Rq.below hb6; have qq0_6 := cbl hb6 qq0; have qq1_6 := cbl hb6 qq1; have Rm_6 := Rm.below hb6; have qm0_6 := cbl hb6 qm0; have qm1_6 := cbl hb6 qm1; have HBT_6 := Below.cons HBT hb6)
          | (go_at_call 72; (with_reducible refine (C5_1.out _ _ _ hq_6 ho1).mono ?_); rintro e W7 ⟨Xy, cy, rfl, hy, hb7⟩; have ha_7 := ha_6.below hb7; have hb_7 := hb_6.below hb7; have Ra_7 := Ra_6.below hb7; have qa0_7 := cbl hb7 qa0_6; have qa1_7 := cbl hb7 qa1_6; have Rb_7 := Rb_6.below hb7; have qb0_7 := cbl hb7 qb0_6; have qb1_7 := cbl hb7 qb1_6; have Rr_7 := Rr_6.below hb7; have qr0_7 := cbl hb7 qr0_6; have qr1_7 := cbl hb7 qr1_6; have hq_7 := hq_6.below hb7; have hm_7 := hm_6.below hb7; have Rq_7 := Rq_6.below hb7; have qq0_7 := cbl hb7 qq0_6; have qq1_7 := cbl hb7 qq1_6; have Rm_7 := Rm_6.below hb7; have qm0_7 := cbl hb7 qm0_6; have qm1_7 := cbl hb7 qm1_6; have ho1_7 := ho1.below hb7; have HBT_7 := Below.cons HBT_6 hb7; have fz0 := Rr_7.f (i := 0); have fz1 := Rr_7.f (i := 1)))
      all_goals (try go_wp2_with (fail))
      have hzy : y = ovr a b dr := by rw [Ey.out, Eo1.out]; have := hov2.out; simpa using this.symm
      subst hzy
      have RS := Rr_7.store2 (.bool (sg ((ovr a b dr)))) (.slice Xy (nl (mg ((ovr a b dr)))) cy)
      have e0 := RS.c (i := 0) rfl
      have e1 := RS.c (i := 1) rfl
      refine bodyPost_ret (v := .agg #[.bool (sg ((ovr a b dr))), .slice Xy (nl (mg ((ovr a b dr)))) cy]) (by simp [results, Tryz.results109, go_sem, e0, e1]) rfl ?_
      exact ⟨Xy, cy, rfl, (Rr_7.keep2 (nuB rfl) hy), (Below.store2 HBT_7 (by first | exact Nat.le_refl _ | omega))⟩
theorem over_n (aA : Option Addr) (ac : Nat) (a : Int) (bA : Option Addr) (bc : Nat) (b : Int) (dr : Int) (w : World) (ha : NatV w aA ac (mg a)) (hb : NatV w bA bc (mg b))  (d0 : 0 ≤ dr) (d4 : dr ≤ 4) (la : nl (mg a) ≤ 1000000) (lb : nl (mg b) ≤ 1000000) (hb0 : 0 < b) (h0 : a % b ≠ 0) (h1 : a / b ≠ 0) :
    Calls Tryz.prog 109 #[.agg #[.bool (sg a), .slice aA (nl (mg a)) ac], .agg #[.bool (sg b), .slice bA (nl (mg b)) bc], .int .i64 dr] w (RetI w (ovr a b dr)) := by
  have lr0 := rest_le (a := a) hb0
  have lq0 := quo_le a b
  have ld0 := dbl_le (r := a % b)
  have hov : ovr a b dr = if upw (sg a) (decide (a / b % 2 = 1)) (2 * (a % b) - b) dr then a / b + 1 else a / b := by unfold ovr; rw [if_neg h0]
  replace hov := Lib.hid hov
  replace h0 := Lib.hid h0
  replace h1 := Lib.hid h1
  obtain ⟨hb1, Ra, Rb, Rr⟩ := bx3 w #[.bool (sg a), .slice aA (nl (mg a)) ac] 24 #[.bool (sg b), .slice bA (nl (mg b)) bc] 24 #[.bool false, .slice none 0 0] 24
  replace ha := ha.below hb1
  replace hb := hb.below hb1
  have HBT := hb1
  clear hb1
  have qa0 := Ra.c (i := 0) rfl
  have qa1 := Ra.c (i := 1) rfl
  have qb0 := Rb.c (i := 0) rfl
  have qb1 := Rb.c (i := 1) rfl
  have qr0 := Rr.c (i := 0) rfl
  have qr1 := Rr.c (i := 1) rfl
  go_enter Tryz.func109, Tryz.ntmps109
  go_wp2_with (fail)
  obtain ⟨q, Eq⟩ : ∃ zq : Int, zq = a / b := ⟨_, rfl⟩
  have lq : nl (mg q) ≤ 1000000 := by rw [Eq]; omega
  obtain ⟨m, Em⟩ : ∃ zq : Int, zq = a % b := ⟨_, rfl⟩
  have lm : nl (mg m) ≤ 1000000 := by rw [Em]; omega
  have dm2 : nl (mg (2 * m)) ≤ 1000001 := by rw [Em]; omega
  have CT2 := (idiv_c aA ac a bA bc b _ ha hb (by omega) (by omega) (by omega))
  rw [← Eq, ← Em] at CT2
  replace Eq := Lib.hid Eq
  replace Em := Lib.hid Em
  replace CT2 := Lib.hid CT2
  refine (Calls.mono CT2.out ?_)
  clear CT2
  rintro e W2 ⟨Xq, cq, Xm, cm, rfl, hq, hm, hb2⟩
  replace ha := ha.below hb2
  replace hb := hb.below hb2
  replace Ra := Ra.below hb2
  replace qa0 := cbl hb2 qa0
  replace qa1 := cbl hb2 qa1
  replace Rb := Rb.below hb2
  replace qb0 := cbl hb2 qb0
  replace qb1 := cbl hb2 qb1
  replace Rr := Rr.below hb2
  replace qr0 := cbl hb2 qr0
  replace qr1 := cbl hb2 qr1
  replace HBT := Below.cons HBT hb2
  clear hb2
  clear lr0 lq0 ld0
  have szr := Rr.lt
  go_wp2_with (fail)
  obtain ⟨hb3, Rq, Rm⟩ := bx2 W2 #[.bool (sg q), .slice Xq (nl (mg q)) cq] 24 #[.bool (sg m), .slice Xm (nl (mg m)) cm] 24
  replace ha := ha.below hb3
  replace hb := hb.below hb3
  replace Ra := Ra.below hb3
  replace qa0 := cbl hb3 qa0
  replace qa1 := cbl hb3 qa1
  replace Rb := Rb.below hb3
  replace qb0 := cbl hb3 qb0
  replace qb1 := cbl hb3 qb1
  replace Rr := Rr.below hb3
  replace qr0 := cbl hb3 qr0
  replace qr1 := cbl hb3 qr1
  replace hq := hq.below hb3
  replace hm := hm.below hb3
  replace HBT := Below.cons HBT hb3
  clear hb3
  have qq0 := Rq.c (i := 0) rfl
  have qq1 := Rq.c (i := 1) rfl
  have qm0 := Rm.c (i := 0) rfl
  have qm1 := Rm.c (i := 1) rfl
  have hsg : (m.sign == 0) = false := by have := h0.out; rw [← Em.out] at this; simp; exact this
  obtain ⟨sn, Esn⟩ : ∃ sn, sn = m.sign := ⟨_, rfl⟩
  have CG := isign_c Xm cm m ((W2.alloc (.cells #[.bool (sg q), .slice Xq (nl (mg q)) cq] 24)).alloc (.cells #[.bool (sg m), .slice Xm (nl (mg m)) cm] 24))
  rw [← Esn] at CG hsg
  replace Esn := Lib.hid Esn
  refine (Calls.mono (CG) ?_)
  rintro e W4 ⟨rfl, hb4⟩
  replace ha := ha.below hb4
  replace hb := hb.below hb4
  replace Ra := Ra.below hb4
  replace qa0 := cbl hb4 qa0
  replace qa1 := cbl hb4 qa1
  replace Rb := Rb.below hb4
  replace qb0 := cbl hb4 qb0
  replace qb1 := cbl hb4 qb1
  replace Rr := Rr.below hb4
  replace qr0 := cbl hb4 qr0
  replace qr1 := cbl hb4 qr1
  replace hq := hq.below hb4
  replace hm := hm.below hb4
  replace Rq := Rq.below hb4
  replace qq0 := cbl hb4 qq0
  replace qq1 := cbl hb4 qq1
  replace Rm := Rm.below hb4
  replace qm0 := cbl hb4 qm0
  replace qm1 := cbl hb4 qm1
  replace HBT := Below.cons HBT hb4
  clear hb4
  have qn : mg q ≠ 0 := fun e => h1.out (Eq.out ▸ mg_zero.1 e)
  have t1 : decide (0 < (nl (mg q) : Int)) = true := by have := nl_pos.2 qn; simp; omega
  have t2 : decide (0 < nl (mg q)) = true := by have := nl_pos.2 qn; simp; omega
  have t9 := nl_pos.2 qn
  replace qn := Lib.hid qn
  obtain ⟨ad, eX, hc0⟩ := hq.rd.get 0 t9
  obtain ⟨x, Ex⟩ : ∃ x, x = gl (limbs (mg q)) 0 := ⟨_, rfl⟩
  have hxl : x < 4294967296 := by rw [Ex]; exact (lim_limbs _).gl 0
  have hxv : x = mg q / 4294967296 ^ 0 % 4294967296 := by rw [Ex, limbs_gl]
  rw [← Ex, show ad.add 0 = ad by cases ad; simp [Addr.add]; try (split <;> simp)] at hc0
  have hod := odd_limb hxv
  have hand := and_one_u32 x hxl
  obtain ⟨z, Ez⟩ : ∃ z, z = x % 2 := ⟨_, rfl⟩
  rw [← Ez] at hand hod
  have hoz : ((z : Int) == 1) = decide (q % 2 = 1) := by rw [hod]; by_cases k : z = 1 <;> simp [k] <;> omega
  obtain ⟨od, Eod⟩ : ∃ od, od = decide (q % 2 = 1) := ⟨_, rfl⟩
  rw [← Eod] at hoz
  replace Ex := Lib.hid Ex
  replace hxv := Lib.hid hxv
  replace hod := Lib.hid hod
  replace Ez := Lib.hid Ez
  replace Eod := Lib.hid Eod
  subst eX
  go_wp2_with (fail)
  obtain ⟨m2, Em2⟩ : ∃ z, z = 2 * m := ⟨_, rfl⟩
  rw [← Em2] at dm2
  have CS := fun (W : World) (h1 : NatV W Xm cm (mg m)) => ishift_c Xm cm m 1 W h1 (by omega) (by omega)
  simp only [shf_twice, ← Em2] at CS
  obtain ⟨fn, hfn, wi, wf, CW0⟩ := way_at dr d0 d4
  replace hfn := Lib.hid hfn
  obtain ⟨up, Eup⟩ : ∃ z, z = upw (sg a) od (m2 - b) dr := ⟨_, rfl⟩
  have CW := CW0 (sg a) od m2 b
  rw [← Eup] at CW
  clear CW0
  have hov2 : ovr a b dr = if up = true then q + 1 else q := by rw [hov.out, Eup, Em2, ← Eq.out, ← Em.out, Eod.out]
  replace CS := Lib.hid CS
  replace CW := Lib.hid CW
  replace Em2 := Lib.hid Em2
  replace Eup := Lib.hid Eup
  replace hov2 := Lib.hid hov2
  refine wp_region_inv (fun E a' w' => ∃ (u34 u35 u36 u37 u38 u39 u40 u41 u42 u43 u44 u45 : Value),
    a' = { tmps := #[.agg #[.bool (sg a), .slice aA (nl (mg a)) ac], .agg #[.bool (sg b), .slice bA (nl (mg b)) bc], .int .i64 dr, .pointer (some ⟨w.heap.size, 0, none⟩), .pointer (some ⟨(w.heap.size + 1), 0, none⟩), undef, .pointer (some ⟨(w.heap.size + 1 + 1), 0, none⟩), .pointer (some ⟨W2.heap.size, 0, none⟩), .pointer (some ⟨(W2.heap.size + 1), 0, none⟩), .int .i64 0, .bool od, .tuple #[.agg #[.bool (sg q), .slice (some ad) (nl (mg q)) cq], .agg #[.bool (sg m), .slice Xm (nl (mg m)) cm], .int .i64 0], .agg #[.bool (sg a), .slice aA (nl (mg a)) ac], .agg #[.bool (sg b), .slice bA (nl (mg b)) bc], .tuple #[.agg #[.bool (sg q), .slice (some ad) (nl (mg q)) cq], .agg #[.bool (sg m), .slice Xm (nl (mg m)) cm], .int .i64 0], .agg #[.bool (sg q), .slice (some ad) (nl (mg q)) cq], .agg #[.bool (sg m), .slice Xm (nl (mg m)) cm], .int .i64 0, .agg #[.bool (sg m), .slice Xm (nl (mg m)) cm], .int .i64 sn, .bool false, undef, .pointer (some ⟨W2.heap.size, 1, none⟩), .slice (some ad) (nl (mg q)) cq, .int .i64 (nl (mg q)), .bool true, .bool true, .pointer (some ⟨W2.heap.size, 1, none⟩), .slice (some ad) (nl (mg q)) cq, .pointer (some ad), .int .u32 x, .int .u32 z, .bool od, .bool od, u34, u35, u36, u37, u38, u39, u40, u41, u42, u43, u44, u45, undef, undef, undef, undef], defers := [] } ∧
    (E 0 = true → u34 = (.agg #[.func (.func 150) #[] #[], .func (.func 151) #[] #[], .func (.func 152) #[] #[], .func (.func 153) #[] #[], .func (.func 154) #[] #[]])) ∧
    (E 1 = true → u35 = .int .i64 dr) ∧
    (E 2 = true → u36 = .agg #[.func (.func fn) #[] #[]]) ∧
    (E 3 = true → u37 = .func (.func fn) #[] #[]) ∧
    (E 4 = true → u38 = .pointer (some ⟨w.heap.size, 0, none⟩)) ∧
    (E 5 = true → u39 = .bool (sg a)) ∧
    (E 6 = true → u40 = .bool od) ∧
    (E 7 = true → u41 = .agg #[.bool (sg m), .slice Xm (nl (mg m)) cm]) ∧
    (E 8 = true → PI u42 m2 w') ∧
    (E 9 = true → u43 = .agg #[.bool (sg b), .slice bA (nl (mg b)) bc]) ∧
    (E 10 = true → u44 = .int .i64 (icmp m2 b)) ∧
    (E 11 = true → u45 = .bool up) ∧
    Below W4.heap.size W4 w') (by kernel_rfl) (by kernel_rfl) ?init ?fin ?step
  case init => exact ⟨_, _, _, _, _, _, _, _, _, _, _, _, rfl, by simp, by simp, by simp, by simp, by simp, by simp, by simp, by simp, by simp, by simp, by simp, by simp, (Below.refl _ _).drew⟩
  case step =>
    rintro E a' w' i ⟨u34, u35, u36, u37, u38, u39, u40, u41, u42, u43, u44, u45, rfl, h0, h1, h2, h3, h4, h5, h6, h7, h8, h9, h10, h11, hB⟩ hi hEi hdep
    have qa0 := cbl hB qa0
    have qa1 := cbl hB qa1
    have qb0 := cbl hB qb0
    have qb1 := cbl hB qb1
    have qm0 := cbl hB qm0
    have qm1 := cbl hB qm1
    obtain rfl | rfl | rfl | rfl | rfl | rfl | rfl | rfl | rfl | rfl | rfl | rfl : i = 0 ∨ i = 1 ∨ i = 2 ∨ i = 3 ∨ i = 4 ∨ i = 5 ∨ i = 6 ∨ i = 7 ∨ i = 8 ∨ i = 9 ∨ i = 10 ∨ i = 11 := by simp at hi; omega
    · skip
      refine wpOp_step rfl (fun K' hK' => ?_)
      go_simp
      refine (Calls.mono (ways_c w') ?_)
      rintro e W1 ⟨rfl, kb⟩
      refine hK' _ _ ?_
      exact ⟨_, _, _, _, _, _, _, _, _, _, _, _, rfl, fun _ => rfl, kd h1, kd h2, kd h3, kd h4, kd h5, kd h6, kd h7, kp h8 (fun h => h.below kb), kd h9, kd h10, kd h11, Below.cons hB kb⟩
    · skip
      refine wpOp_step rfl (fun K' hK' => ?_)
      go_simp
      refine hK' _ _ ?_
      exact ⟨_, _, _, _, _, _, _, _, _, _, _, _, rfl, kd h0, fun _ => rfl, kd h2, kd h3, kd h4, kd h5, kd h6, kd h7, kd h8, kd h9, kd h10, kd h11, hB⟩
    · skip
      have d0 := hdep _ rfl ⟨0, .data⟩ (by simp) rfl
      obtain rfl := h0 d0
      have d1 := hdep _ rfl ⟨1, .data⟩ (by simp) rfl
      obtain rfl := h1 d1
      refine wpOp_step rfl (fun K' hK' => ?_)
      go_simp
      refine hK' _ _ ?_
      exact ⟨_, _, _, _, _, _, _, _, _, _, _, _, rfl, kd h0, kd h1, fun _ => rfl, kd h3, kd h4, kd h5, kd h6, kd h7, kd h8, kd h9, kd h10, kd h11, hB⟩
    · skip
      have d2 := hdep _ rfl ⟨2, .data⟩ (by simp) rfl
      obtain rfl := h2 d2
      refine wpOp_step rfl (fun K' hK' => ?_)
      go_simp
      refine hK' _ _ ?_
      exact ⟨_, _, _, _, _, _, _, _, _, _, _, _, rfl, kd h0, kd h1, kd h2, fun _ => rfl, kd h4, kd h5, kd h6, kd h7, kd h8, kd h9, kd h10, kd h11, hB⟩
    · skip
      refine wpOp_step rfl (fun K' hK' => ?_)
      go_simp
      refine hK' _ _ ?_
      exact ⟨_, _, _, _, _, _, _, _, _, _, _, _, rfl, kd h0, kd h1, kd h2, kd h3, fun _ => rfl, kd h5, kd h6, kd h7, kd h8, kd h9, kd h10, kd h11, hB⟩
    · skip
      have d4 := hdep _ rfl ⟨4, .data⟩ (by simp) rfl
      obtain rfl := h4 d4
      refine wpOp_step rfl (fun K' hK' => ?_)
      go_simp
      refine hK' _ _ ?_
      exact ⟨_, _, _, _, _, _, _, _, _, _, _, _, rfl, kd h0, kd h1, kd h2, kd h3, kd h4, fun _ => rfl, kd h6, kd h7, kd h8, kd h9, kd h10, kd h11, hB⟩
    · skip
      refine wpOp_step rfl (fun K' hK' => ?_)
      go_simp
      refine hK' _ _ ?_
      exact ⟨_, _, _, _, _, _, _, _, _, _, _, _, rfl, kd h0, kd h1, kd h2, kd h3, kd h4, kd h5, fun _ => rfl, kd h7, kd h8, kd h9, kd h10, kd h11, hB⟩
    · skip
      refine wpOp_step rfl (fun K' hK' => ?_)
      go_simp
      refine hK' _ _ ?_
      exact ⟨_, _, _, _, _, _, _, _, _, _, _, _, rfl, kd h0, kd h1, kd h2, kd h3, kd h4, kd h5, kd h6, fun _ => rfl, kd h8, kd h9, kd h10, kd h11, hB⟩
    · skip
      have d7 := hdep _ rfl ⟨7, .data⟩ (by simp) rfl
      obtain rfl := h7 d7
      refine wpOp_step rfl (fun K' hK' => ?_)
      go_simp
      refine (Calls.mono (CS.out w' (hm.below hB)) ?_)
      rintro e W1 ⟨Xr, cr, rfl, kr, kb⟩
      refine hK' _ _ ?_
      exact ⟨_, _, _, _, _, _, _, _, _, _, _, _, rfl, kd h0, kd h1, kd h2, kd h3, kd h4, kd h5, kd h6, kd h7, fun _ => ⟨Xr, cr, rfl, kr⟩, kd h9, kd h10, kd h11, Below.cons hB kb⟩
    · skip
      refine wpOp_step rfl (fun K' hK' => ?_)
      go_simp
      refine hK' _ _ ?_
      exact ⟨_, _, _, _, _, _, _, _, _, _, _, _, rfl, kd h0, kd h1, kd h2, kd h3, kd h4, kd h5, kd h6, kd h7, kd h8, fun _ => rfl, kd h10, kd h11, hB⟩
    · skip
      have d8 := hdep _ rfl ⟨8, .data⟩ (by simp) rfl
      obtain ⟨X_8, c_8, rfl, k_8⟩ := h8 d8
      have d9 := hdep _ rfl ⟨9, .data⟩ (by simp) rfl
      obtain rfl := h9 d9
      refine wpOp_step rfl (fun K' hK' => ?_)
      go_simp
      refine (Calls.mono (icmp_c X_8 c_8 m2 bA bc b w' k_8 (hb.below hB) (by omega) (by omega)) ?_)
      rintro e W1 ⟨rfl, kb⟩
      refine hK' _ _ ?_
      exact ⟨_, _, _, _, _, _, _, _, _, _, _, _, rfl, kd h0, kd h1, kd h2, kd h3, kd h4, kd h5, kd h6, kd h7, kp h8 (fun h => h.below kb), kd h9, fun _ => rfl, kd h11, Below.cons hB kb⟩
    · skip
      have d3 := hdep _ rfl ⟨3, .data⟩ (by simp) rfl
      obtain rfl := h3 d3
      have d5 := hdep _ rfl ⟨5, .data⟩ (by simp) rfl
      obtain rfl := h5 d5
      have d6 := hdep _ rfl ⟨6, .data⟩ (by simp) rfl
      obtain rfl := h6 d6
      have d10 := hdep _ rfl ⟨10, .data⟩ (by simp) rfl
      obtain rfl := h10 d10
      rcases hfn.out with rfl | rfl | rfl | rfl | rfl
      all_goals refine wpOp_step rfl (fun K' hK' => ?_)
      all_goals go_simp
      all_goals refine (Calls.mono (CW.out w') ?_)
      all_goals rintro e W1 ⟨rfl, kb⟩
      all_goals refine hK' _ _ ?_
      all_goals exact ⟨_, _, _, _, _, _, _, _, _, _, _, _, rfl, kd h0, kd h1, kd h2, kd h3, kd h4, kd h5, kd h6, kd h7, kp h8 (fun h => h.below kb), kd h9, kd h10, fun _ => rfl, Below.cons hB kb⟩
  case fin =>
    rintro E a' w' ⟨u34, u35, u36, u37, u38, u39, u40, u41, u42, u43, u44, u45, rfl, h0, h1, h2, h3, h4, h5, h6, h7, h8, h9, h10, h11, hB⟩ hall
    replace ha := ha.below hB
    replace hb := hb.below hB
    replace Ra := Ra.below hB
    replace qa0 := cbl hB qa0
    replace qa1 := cbl hB qa1
    replace Rb := Rb.below hB
    replace qb0 := cbl hB qb0
    replace qb1 := cbl hB qb1
    replace Rr := Rr.below hB
    replace qr0 := cbl hB qr0
    replace qr1 := cbl hB qr1
    replace hq := hq.below hB
    replace hm := hm.below hB
    replace Rq := Rq.below hB
    replace qq0 := cbl hB qq0
    replace qq1 := cbl hB qq1
    replace Rm := Rm.below hB
    replace qm0 := cbl hB qm0
    replace qm1 := cbl hB qm1
    replace hc0 := cbl hB hc0
    replace HBT := Below.cons HBT hB
    obtain rfl := h11 (hall 11 (by simp))
    clear hall
    cases up
    case false =>
      have fzr0 := Rr.f (i := 0)
      have fzr1 := Rr.f (i := 1)
      go_wp2_with (fail)
      have hzq : q = ovr a b dr := by have := hov2.out; simpa using this.symm
      subst hzq
      have RS := Rr.store2 (.bool (sg ((ovr a b dr)))) (.slice (some ad) (nl (mg ((ovr a b dr)))) cq)
      have e0 := RS.c (i := 0) rfl
      have e1 := RS.c (i := 1) rfl
      refine bodyPost_ret (v := .agg #[.bool (sg ((ovr a b dr))), .slice (some ad) (nl (mg ((ovr a b dr)))) cq]) (by simp [results, Tryz.results109, go_sem, e0, e1]) rfl ?_
      exact ⟨(some ad), cq, rfl, (Rr.keep2 (nuB rfl) hq), (Below.store2 HBT (by first | exact Nat.le_refl _ | omega))⟩
    case true =>
      go_wp2_with (fail)
      have hd5 := drb (w')
      replace ha := ha.below hd5
      replace hb := hb.below hd5
      replace Ra := Ra.below hd5
      replace qa0 := cbl hd5 qa0
      replace qa1 := cbl hd5 qa1
      replace Rb := Rb.below hd5
      replace qb0 := cbl hd5 qb0
      replace qb1 := cbl hd5 qb1
      replace Rr := Rr.below hd5
      replace qr0 := cbl hd5 qr0
      replace qr1 := cbl hd5 qr1
      replace hq := hq.below hd5
      replace hm := hm.below hd5
      replace Rq := Rq.below hd5
      replace qq0 := cbl hd5 qq0
      replace qq1 := cbl hd5 qq1
      replace Rm := Rm.below hd5
      replace qm0 := cbl hd5 qm0
      replace qm1 := cbl hd5 qm1
      replace hc0 := cbl hd5 hc0
      replace HBT := Below.cons HBT hd5
      clear hd5
      obtain ⟨o1, Eo1⟩ : ∃ zq : Int, zq = (1 : Int) := ⟨_, rfl⟩
      have No1 : nl (mg o1) ≤ 1 := by rw [Eo1]; exact Nat.le_of_eq nl_one
      have C5_0 := fun (W : World) => (show Calls Tryz.prog 82 #[.int .i64 1] W (RetI W o1) by rw [Eo1]; exact iof1_c W)
      replace Eo1 := Lib.hid Eo1
      replace C5_0 := Lib.hid C5_0
      obtain ⟨y, Ey⟩ : ∃ zq : Int, zq = q + o1 := ⟨_, rfl⟩
      have C5_1 := fun (W : World) (A : Option Addr) (c : Nat) (h1 : NatV W (some ad) cq (mg q)) (h2 : NatV W A c (mg o1)) => iadd_c (some ad) cq q A c o1 W h1 h2 (by omega) (by omega)
      simp only [← Ey] at C5_1
      replace Ey := Lib.hid Ey
      replace C5_1 := Lib.hid C5_1
      go_region_held3 (fun W => W.cell? ⟨W2.heap.size, 0, none⟩ = some (.bool (sg q)) ∧ W.cell? ⟨W2.heap.size, 1, none⟩ = some (.slice (some ad) (nl (mg q)) cq))
        (first
          | exact ⟨qq0, qq1⟩
          | exact ⟨qq0_6, qq1_6⟩
          | exact ⟨qq0_7, qq1_7⟩
          | exact ⟨((Rq_7.other2 (by simp <;> omega)).c (i := 0) rfl), ((Rq_7.other2 (by simp <;> omega)).c (i := 1) rfl)⟩
          | go_keep)
        (first
          | (go_at_call 82; (with_reducible refine (C5_0.out _).mono ?_); rintro e W6 ⟨Xo1, co1, rfl, ho1, hb6⟩; have ha_6 := ha.below hb6; have hb_6 := hb.below hb6; have Ra_6 := Ra.below hb6; have qa0_6 := cbl hb6 qa0; have qa1_6 := cbl hb6 qa1; have Rb_6 := Rb.below hb6; have qb0_6 := cbl hb6 qb0; have qb1_6 := cbl hb6 qb1; have Rr_6 := Rr.below hb6; have qr0_6 := cbl hb6 qr0; have qr1_6 := cbl hb6 qr1; have hq_6 := hq.below hb6; have hm_6 := hm.below hb6; have Rq_6 := Rq.below hb6; have qq0_6 := cbl hb6 qq0; have qq1_6 := cbl hb6 qq1; have Rm_6 := Rm.below hb6; have qm0_6 := cbl hb6 qm0; have qm1_6 := cbl hb6 qm1; have hc0_6 := cbl hb6 hc0; have HBT_6 := Below.cons HBT hb6)
          | (go_at_call 72; (with_reducible refine (C5_1.out _ _ _ hq_6 ho1).mono ?_); rintro e W7 ⟨Xy, cy, rfl, hy, hb7⟩; have ha_7 := ha_6.below hb7; have hb_7 := hb_6.below hb7; have Ra_7 := Ra_6.below hb7; have qa0_7 := cbl hb7 qa0_6; have qa1_7 := cbl hb7 qa1_6; have Rb_7 := Rb_6.below hb7; have qb0_7 := cbl hb7 qb0_6; have qb1_7 := cbl hb7 qb1_6; have Rr_7 := Rr_6.below hb7; have qr0_7 := cbl hb7 qr0_6; have qr1_7 := cbl hb7 qr1_6; have hq_7 := hq_6.below hb7; have hm_7 := hm_6.below hb7; have Rq_7 := Rq_6.below hb7; have qq0_7 := cbl hb7 qq0_6; have qq1_7 := cbl hb7 qq1_6; have Rm_7 := Rm_6.below hb7; have qm0_7 := cbl hb7 qm0_6; have qm1_7 := cbl hb7 qm1_6; have hc0_7 := cbl hb7 hc0_6; have ho1_7 := ho1.below hb7; have HBT_7 := Below.cons HBT_6 hb7; have fz0 := Rr_7.f (i := 0); have fz1 := Rr_7.f (i := 1)))
      all_goals (try go_wp2_with (fail))
      have hzy : y = ovr a b dr := by rw [Ey.out, Eo1.out]; have := hov2.out; simpa using this.symm
      subst hzy
      have RS := Rr_7.store2 (.bool (sg ((ovr a b dr)))) (.slice Xy (nl (mg ((ovr a b dr)))) cy)
      have e0 := RS.c (i := 0) rfl
      have e1 := RS.c (i := 1) rfl
      refine bodyPost_ret (v := .agg #[.bool (sg ((ovr a b dr))), .slice Xy (nl (mg ((ovr a b dr)))) cy]) (by simp [results, Tryz.results109, go_sem, e0, e1]) rfl ?_
      exact ⟨Xy, cy, rfl, (Rr_7.keep2 (nuB rfl) hy), (Below.store2 HBT_7 (by first | exact Nat.le_refl _ | omega))⟩
theorem over_c (aA : Option Addr) (ac : Nat) (a : Int) (bA : Option Addr) (bc : Nat) (b : Int) (dr : Int) (w : World) (ha : NatV w aA ac (mg a)) (hb : NatV w bA bc (mg b)) (la : nl (mg a) ≤ 1000000) (lb : nl (mg b) ≤ 1000000) (hb0 : 0 < b) (h0 : 0 ≤ dr) (h4 : dr ≤ 4) :
    Calls Tryz.prog 109 #[.agg #[.bool (sg a), .slice aA (nl (mg a)) ac], .agg #[.bool (sg b), .slice bA (nl (mg b)) bc], .int .i64 dr] w (RetI w (ovr a b dr)) := by
  by_cases k : a % b = 0
  · exact over_z aA ac a bA bc b dr w ha hb h0 h4 la lb hb0 k
  · by_cases k2 : a / b = 0
    · exact over_q aA ac a bA bc b dr w ha hb h0 h4 la lb hb0 k k2
    · exact over_n aA ac a bA bc b dr w ha hb h0 h4 la lb hb0 k k2
def RetDe (w : World) (q : Rat) (x : Int) (e : Ending) (w' : World) : Prop := ∃ A c, e = .returned (.tuple #[.agg #[.bool (sg (dmn q)), .slice A (nl (mg (dmn q))) c, .int .i64 (dex q)], .int .i64 x]) ∧ NatV w' A c (mg (dmn q)) ∧ Below w.heap.size w w'
theorem nat_none (W : World) : NatV W none 0 (mg (dmn 0)) := by rw [dmn_zero, mg0]; exact ⟨.inl (by simp [vals, limbs_zero]), by rw [nl_zero]; exact Nat.le_refl _, by decide⟩
theorem ovr_nl (a : Int) {b : Int} (dr : Int) (hb : 0 < b) : nl (mg (ovr a b dr)) ≤ nl (mg a) + 1 := by
  have h1 : mg (a / b) ≤ mg a := Int.natAbs_ediv_le_natAbs a b
  have h2 : mg (ovr a b dr) ≤ mg a + 1 := by
    have e : ovr a b dr = a / b ∨ ovr a b dr = a / b + 1 := by unfold ovr; split; exact .inl rfl; split; exact .inr rfl; exact .inl rfl
    rcases e with e | e <;> rw [e]
    · omega
    · unfold mg at *; omega
  have h3 := nl_lt (mg a)
  rw [nl_le, Nat.pow_succ]
  have : 0 < 4294967296 ^ nl (mg a) := Nat.pow_pos (by decide)
  omega
theorem shf_pos {z d : Int} (hz : 0 < z) (h0 : 0 ≤ d) : 0 < shf z d := by
  unfold shf; rw [if_pos h0]; exact Int.mul_pos hz (Int.pow_pos (by decide))
theorem cut_quo (q : Rat) (n : Int) : ((shf q.num (max n 0) : Int) : Rat) / ((shf (q.den : Int) (max (-n) 0) : Int) : Rat) = q * (2 : Rat) ^ n := by
  have hd : ((q.den : Int) : Rat) ≠ 0 := by
    intro e; have := Rat.intCast_eq_zero_iff.1 e; have := q.den_nz; omega
  have hq : q * ((q.den : Int) : Rat) = ((q.num : Int) : Rat) := by
    have e : q = ((q.num : Int) : Rat) / ((q.den : Int) : Rat) := by
      conv => lhs; rw [← Rat.mkRat_self q, Rat.mkRat_eq_div]
      rfl
    conv => lhs; lhs; rw [e]
    exact Rat.div_mul_cancel hd
  have hp : ∀ k : Nat, ((2 ^ k : Int) : Rat) ≠ 0 := by
    intro k e
    have := Rat.intCast_eq_zero_iff.1 e
    have := Int.pow_pos (n := 2) (m := k) (by decide); omega
  rcases Int.lt_or_le n 0 with hn | hn
  · obtain ⟨k, rfl⟩ := Int.exists_eq_neg_ofNat (show n ≤ 0 by omega)
    have e1 : max (-(k : Int)) 0 = 0 := by omega
    have e2 : max (-(-(k : Int))) 0 = (k : Int) := by omega
    rw [e1, e2]
    have s1 : shf q.num 0 = q.num := by unfold shf; rw [if_pos (by decide)]; exact Int.mul_one _
    have s2 : shf (q.den : Int) (k : Int) = q.den * 2 ^ k := by unfold shf; rw [if_pos (Int.natCast_nonneg k), Int.toNat_natCast]
    rw [s1, s2, Rat.zpow_neg, zp_int, Rat.intCast_mul, ← hq]
    have := hp k
    generalize ((q.den : Int) : Rat) = x at *
    generalize ((2 ^ k : Int) : Rat) = p at *
    grind
  · obtain ⟨k, rfl⟩ := Int.eq_ofNat_of_zero_le hn
    have e1 : max (k : Int) 0 = k := by omega
    have e2 : max (-(k : Int)) 0 = 0 := by omega
    rw [e1, e2]
    have s1 : shf q.num (k : Int) = q.num * 2 ^ k := by unfold shf; rw [if_pos (Int.natCast_nonneg k), Int.toNat_natCast]
    have s2 : shf (q.den : Int) 0 = q.den := by unfold shf; rw [if_pos (by decide)]; exact Int.mul_one _
    rw [s1, s2, zp_int, Rat.intCast_mul, ← hq]
    generalize ((q.den : Int) : Rat) = x at *
    generalize ((2 ^ k : Int) : Rat) = p at *
    grind
theorem cut_ovr (q : Rat) (n dr : Int) (h0 : 0 ≤ dr) (h4 : dr ≤ 4) : ovr (shf q.num (max n 0)) (shf (q.den : Int) (max (-n) 0)) dr = rnd dr (q * (2 : Rat) ^ n) := by
  rw [ovr_rnd (shf_pos (by have := q.den_nz; omega) (by omega)) h0 h4, cut_quo]
theorem cut_big (qA : Option Addr) (qc : Nat) (qB : Option Addr) (qd : Nat) (q : Rat) (n : Int) (dr : Int) (w : World) (hq : NatV w qA qc (mg q.num)) (gq : NatV w qB qd q.den)   (h0 : 5 ≤ dr) :
    Calls Tryz.prog 47 #[.agg #[.bool (sg q.num), .slice qA (nl (mg q.num)) qc, .slice qB (nl q.den) qd], .int .i64 n, .int .i64 dr] w (RetDe w 0 1) := by
  have t1 : decide (dr < 0) = false := decide_eq_false (by omega)
  have t2 : decide (5 ≤ dr) = true := decide_eq_true h0
  obtain ⟨hb1, Rq, Rr⟩ := bx2 w #[.bool (sg q.num), .slice qA (nl (mg q.num)) qc, .slice qB (nl q.den) qd] 41 #[.bool false, .slice none 0 0, .int .i64 0] 26
  replace hq := hq.below hb1
  replace gq := gq.below hb1
  have HBT := hb1
  clear hb1
  have qq0 := Rq.c (i := 0) rfl
  have qq1 := Rq.c (i := 1) rfl
  have qq2 := Rq.c (i := 2) rfl
  have qr0 := Rr.c (i := 0) rfl
  have qr1 := Rr.c (i := 1) rfl
  have qr2 := Rr.c (i := 2) rfl
  go_enter Tryz.func47, Tryz.ntmps47
  go_wp2_with (fail)
  refine (Calls.mono (ways_c _) ?_)
  rintro e W2 ⟨rfl, hb2⟩
  replace hq := hq.below hb2
  replace gq := gq.below hb2
  replace Rq := Rq.below hb2
  replace qq0 := cbl hb2 qq0
  replace qq1 := cbl hb2 qq1
  replace qq2 := cbl hb2 qq2
  replace Rr := Rr.below hb2
  replace qr0 := cbl hb2 qr0
  replace qr1 := cbl hb2 qr1
  replace qr2 := cbl hb2 qr2
  replace HBT := Below.cons HBT hb2
  clear hb2
  have fzr0 := Rr.f (i := 0)
  have fzr1 := Rr.f (i := 1)
  have fzr2 := Rr.f (i := 2)
  go_wp2_with (fail)
  have RS := Rr.store3 (.bool false) (.slice none 0 0) (.int .i64 0)
  have e0 := RS.c (i := 0) rfl
  have e1 := RS.c (i := 1) rfl
  have e2 := RS.c (i := 2) rfl
  refine bodyPost_ret (v := .tuple #[.agg #[.bool false, .slice none 0 0, .int .i64 0], .int .i64 1]) (by simp [results, Tryz.results47, go_sem, e0, e1, e2]) rfl ?_
  exact ⟨none, 0, by rw [dmn_zero, dex_zero, mg0, sg0, nl_zero], nat_none _, Below.store3 HBT (by first | exact Nat.le_refl _ | omega)⟩
theorem cut_in (qA : Option Addr) (qc : Nat) (qB : Option Addr) (qd : Nat) (q : Rat) (n : Int) (dr : Int) (w : World) (hq : NatV w qA qc (mg q.num)) (gq : NatV w qB qd q.den)   (hT : Tab w) (lq : nl (mg q.num) ≤ 100000) (ld : nl q.den ≤ 100000) (d0 : 0 ≤ dr) (d4 : dr ≤ 4) (ln : -1000000 ≤ n ∧ n ≤ 1000000) :
    Calls Tryz.prog 47 #[.agg #[.bool (sg q.num), .slice qA (nl (mg q.num)) qc, .slice qB (nl q.den) qd], .int .i64 n, .int .i64 dr] w (RetDe w (dval (rnd dr (q * (2 : Rat) ^ n)) (-n)) 0) := by
  have t1 : decide (dr < 0) = false := decide_eq_false (by omega)
  have t2 : decide (5 ≤ dr) = false := decide_eq_false (by omega)
  have hov := cut_ovr q n dr d0 d4
  obtain ⟨n1, En1⟩ : ∃ z, z = max n 0 := ⟨_, rfl⟩
  obtain ⟨n2, En2⟩ : ∃ z, z = max (-n) 0 := ⟨_, rfl⟩
  have b1 : 0 ≤ n1 ∧ n1 ≤ 1000000 := by omega
  have b2 : 0 ≤ n2 ∧ n2 ≤ 1000000 := by omega
  have Wn : IntKind.i64.wrap (-n) = -n := IntWalk.i64_in _ (by omega)
  rw [← En1, ← En2] at hov
  obtain ⟨u, Eu⟩ : ∃ z, z = shf q.num n1 := ⟨_, rfl⟩
  have lu : nl (mg u) ≤ 162502 := by rw [Eu]; exact nl_shf (K := 0) lq b1.1 (by omega)
  obtain ⟨dz, Edz⟩ : ∃ z, z = ival false q.den := ⟨_, rfl⟩
  have dz0 : 0 < dz := by rw [Edz, ival_false]; have := q.den_nz; omega
  have ldz : nl (mg dz) ≤ 100000 := by rw [Edz, mg_ival]; exact ld
  obtain ⟨v, Ev⟩ : ∃ z, z = shf dz n2 := ⟨_, rfl⟩
  have lv : nl (mg v) ≤ 162502 := by rw [Ev]; exact nl_shf (K := 0) ldz b2.1 (by omega)
  have v0 : 0 < v := by rw [Ev]; exact shf_pos dz0 b2.1
  have lo := ovr_nl u dr v0
  rw [← Eu, ← ival_false, ← Edz, ← Ev] at hov
  have C1 := fun (W : World) (h1 : NatV W qA qc (mg q.num)) => ishift_c qA qc q.num n1 W h1 (by omega) (by omega)
  rw [← Eu] at C1
  have C2 := fun (W : World) (h1 : NatV W qB qd q.den) => imake_c false qB qd q.den W h1 (by omega)
  rw [← Edz] at C2
  have C3 := fun (W : World) (A : Option Addr) (c : Nat) (h1 : NatV W A c (mg dz)) => ishift_c A c dz n2 W h1 (by omega) (by omega)
  rw [← Ev] at C3
  replace En1 := En1.symm
  replace En2 := En2.symm
  replace hov := Lib.hid hov
  replace Eu := Lib.hid Eu
  replace Edz := Lib.hid Edz
  replace Ev := Lib.hid Ev
  replace C1 := Lib.hid C1
  replace C2 := Lib.hid C2
  replace C3 := Lib.hid C3
  replace b1 := Lib.hid b1
  replace b2 := Lib.hid b2
  replace v0 := Lib.hid v0
  obtain ⟨hb1, Rq, Rr⟩ := bx2 w #[.bool (sg q.num), .slice qA (nl (mg q.num)) qc, .slice qB (nl q.den) qd] 41 #[.bool false, .slice none 0 0, .int .i64 0] 26
  replace hq := hq.below hb1
  replace gq := gq.below hb1
  replace hT := hT.below hb1
  have HBT := hb1
  clear hb1
  have qq0 := Rq.c (i := 0) rfl
  have qq1 := Rq.c (i := 1) rfl
  have qq2 := Rq.c (i := 2) rfl
  have qr0 := Rr.c (i := 0) rfl
  have qr1 := Rr.c (i := 1) rfl
  have qr2 := Rr.c (i := 2) rfl
  go_enter Tryz.func47, Tryz.ntmps47
  go_wp2_with (fail)
  refine (Calls.mono (ways_c _) ?_)
  rintro e W2 ⟨rfl, hb2⟩
  replace hq := hq.below hb2
  replace gq := gq.below hb2
  replace hT := hT.below hb2
  replace Rq := Rq.below hb2
  replace qq0 := cbl hb2 qq0
  replace qq1 := cbl hb2 qq1
  replace qq2 := cbl hb2 qq2
  replace Rr := Rr.below hb2
  replace qr0 := cbl hb2 qr0
  replace qr1 := cbl hb2 qr1
  replace qr2 := cbl hb2 qr2
  replace HBT := Below.cons HBT hb2
  clear hb2
  go_wp2_with (fail)
  refine wp_region_inv (fun E a' w' => ∃ (u19 u20 u21 u22 u23 u24 u25 u26 u27 u28 u29 u30 u8 u9 : Value),
    a' = { tmps := #[.agg #[.bool (sg q.num), .slice qA (nl (mg q.num)) qc, .slice qB (nl q.den) qd], .int .i64 n, .int .i64 dr, .pointer (some ⟨w.heap.size, 0, none⟩), undef, undef, .pointer (some ⟨(w.heap.size + 1), 0, none⟩), .int .i64 0, u8, u9, .int .i64 dr, .bool false, .bool false, .int .i64 dr, (.agg #[.func (.func 150) #[] #[], .func (.func 151) #[] #[], .func (.func 152) #[] #[], .func (.func 153) #[] #[], .func (.func 154) #[] #[]]), .int .i64 5, .bool false, .bool false, undef, u19, u20, u21, u22, u23, u24, u25, u26, u27, u28, u29, u30, undef, undef, undef, undef, undef, undef, undef], defers := [] } ∧
    (E 0 = true → u19 = .pointer (some ⟨w.heap.size, 0, none⟩)) ∧
    (E 1 = true → u20 = .agg #[.bool (sg q.num), .slice qA (nl (mg q.num)) qc]) ∧
    (E 2 = true → u21 = .int .i64 n) ∧
    (E 3 = true → u22 = .int .i64 n1) ∧
    (E 4 = true → PI u23 u w') ∧
    (E 5 = true → u24 = .pointer (some ⟨w.heap.size, 2, none⟩)) ∧
    (E 6 = true → u25 = .slice qB (nl q.den) qd) ∧
    (E 7 = true → PI u26 dz w') ∧
    (E 8 = true → u27 = .int .i64 n) ∧
    (E 9 = true → u28 = .int .i64 (-n)) ∧
    (E 10 = true → u29 = .int .i64 n2) ∧
    (E 11 = true → PI u30 v w') ∧
    (E 12 = true → PB2 24 W2.heap.size u8 w') ∧
    (E 13 = true → PB2 24 W2.heap.size u9 w') ∧
    (E 14 = true → PBI W2.heap.size u8 u w') ∧
    (E 15 = true → PBI W2.heap.size u9 v w') ∧
    (E 14 = true → E 12 = true) ∧
    (E 15 = true → E 13 = true) ∧
    (E 12 = true → E 13 = true → u8 ≠ u9) ∧
    Below W2.heap.size W2 w') (by kernel_rfl) (by kernel_rfl) ?init ?fin ?step
  case init => exact ⟨_, _, _, _, _, _, _, _, _, _, _, _, _, _, rfl, by simp, by simp, by simp, by simp, by simp, by simp, by simp, by simp, by simp, by simp, by simp, by simp, by simp, by simp, by simp, by simp, by simp, by simp, by simp, (Below.refl _ _).drew⟩
  case step =>
    rintro E a' w' i ⟨u19, u20, u21, u22, u23, u24, u25, u26, u27, u28, u29, u30, u8, u9, rfl, h0, h1, h2, h3, h4, h5, h6, h7, h8, h9, h10, h11, h12, h13, h14, h15, hD14, hD15, hN12_13, hB⟩ hi hEi hdep
    have qq0 := cbl hB qq0
    have qq1 := cbl hB qq1
    have qq2 := cbl hB qq2
    obtain rfl | rfl | rfl | rfl | rfl | rfl | rfl | rfl | rfl | rfl | rfl | rfl | rfl | rfl | rfl | rfl : i = 0 ∨ i = 1 ∨ i = 2 ∨ i = 3 ∨ i = 4 ∨ i = 5 ∨ i = 6 ∨ i = 7 ∨ i = 8 ∨ i = 9 ∨ i = 10 ∨ i = 11 ∨ i = 12 ∨ i = 13 ∨ i = 14 ∨ i = 15 := by simp at hi; omega
    · skip
      refine wpOp_step rfl (fun K' hK' => ?_)
      go_simp
      refine hK' _ _ ?_
      exact ⟨_, _, _, _, _, _, _, _, _, _, _, _, _, _, rfl, fun _ => rfl, kd h1, kd h2, kd h3, kd h4, kd h5, kd h6, kd h7, kd h8, kd h9, kd h10, kd h11, kd h12, kd h13, kd h14, kd h15, (fun h => by have := hD14 (by simpa using h); simpa using this), (fun h => by have := hD15 (by simpa using h); simpa using this), (fun h k => hN12_13 (by simpa using h) (by simpa using k)), hB⟩
    · skip
      have d0 := hdep _ rfl ⟨0, .data⟩ (by simp) rfl
      obtain rfl := h0 d0
      refine wpOp_step rfl (fun K' hK' => ?_)
      go_simp
      refine hK' _ _ ?_
      exact ⟨_, _, _, _, _, _, _, _, _, _, _, _, _, _, rfl, kd h0, fun _ => rfl, kd h2, kd h3, kd h4, kd h5, kd h6, kd h7, kd h8, kd h9, kd h10, kd h11, kd h12, kd h13, kd h14, kd h15, (fun h => by have := hD14 (by simpa using h); simpa using this), (fun h => by have := hD15 (by simpa using h); simpa using this), (fun h k => hN12_13 (by simpa using h) (by simpa using k)), hB⟩
    · skip
      refine wpOp_step rfl (fun K' hK' => ?_)
      go_simp
      refine hK' _ _ ?_
      exact ⟨_, _, _, _, _, _, _, _, _, _, _, _, _, _, rfl, kd h0, kd h1, fun _ => rfl, kd h3, kd h4, kd h5, kd h6, kd h7, kd h8, kd h9, kd h10, kd h11, kd h12, kd h13, kd h14, kd h15, (fun h => by have := hD14 (by simpa using h); simpa using this), (fun h => by have := hD15 (by simpa using h); simpa using this), (fun h k => hN12_13 (by simpa using h) (by simpa using k)), hB⟩
    · skip
      have d2 := hdep _ rfl ⟨2, .data⟩ (by simp) rfl
      obtain rfl := h2 d2
      refine wpOp_step rfl (fun K' hK' => ?_)
      go_simp
      refine hK' _ _ ?_
      exact ⟨_, _, _, _, _, _, _, _, _, _, _, _, _, _, rfl, kd h0, kd h1, kd h2, fun _ => rfl, kd h4, kd h5, kd h6, kd h7, kd h8, kd h9, kd h10, kd h11, kd h12, kd h13, kd h14, kd h15, (fun h => by have := hD14 (by simpa using h); simpa using this), (fun h => by have := hD15 (by simpa using h); simpa using this), (fun h k => hN12_13 (by simpa using h) (by simpa using k)), hB⟩
    · skip
      have d1 := hdep _ rfl ⟨1, .data⟩ (by simp) rfl
      obtain rfl := h1 d1
      have d3 := hdep _ rfl ⟨3, .data⟩ (by simp) rfl
      obtain rfl := h3 d3
      refine wpOp_step rfl (fun K' hK' => ?_)
      go_simp
      refine (Calls.mono (C1.out w' (hq.below hB)) ?_)
      rintro e W1 ⟨Xr, cr, rfl, kr, kb⟩
      refine hK' _ _ ?_
      exact ⟨_, _, _, _, _, _, _, _, _, _, _, _, _, _, rfl, kd h0, kd h1, kd h2, kd h3, fun _ => ⟨Xr, cr, rfl, kr⟩, kd h5, kd h6, kp h7 (fun h => h.below kb), kd h8, kd h9, kd h10, kp h11 (fun h => h.below kb), kp h12 (fun h => h.below kb), kp h13 (fun h => h.below kb), kp h14 (fun h => h.below kb), kp h15 (fun h => h.below kb), (fun h => by have := hD14 (by simpa using h); simpa using this), (fun h => by have := hD15 (by simpa using h); simpa using this), (fun h k => hN12_13 (by simpa using h) (by simpa using k)), Below.cons hB kb⟩
    · skip
      refine wpOp_step rfl (fun K' hK' => ?_)
      go_simp
      refine hK' _ _ ?_
      exact ⟨_, _, _, _, _, _, _, _, _, _, _, _, _, _, rfl, kd h0, kd h1, kd h2, kd h3, kd h4, fun _ => rfl, kd h6, kd h7, kd h8, kd h9, kd h10, kd h11, kd h12, kd h13, kd h14, kd h15, (fun h => by have := hD14 (by simpa using h); simpa using this), (fun h => by have := hD15 (by simpa using h); simpa using this), (fun h k => hN12_13 (by simpa using h) (by simpa using k)), hB⟩
    · skip
      have d5 := hdep _ rfl ⟨5, .data⟩ (by simp) rfl
      obtain rfl := h5 d5
      refine wpOp_step rfl (fun K' hK' => ?_)
      go_simp
      refine hK' _ _ ?_
      exact ⟨_, _, _, _, _, _, _, _, _, _, _, _, _, _, rfl, kd h0, kd h1, kd h2, kd h3, kd h4, kd h5, fun _ => rfl, kd h7, kd h8, kd h9, kd h10, kd h11, kd h12, kd h13, kd h14, kd h15, (fun h => by have := hD14 (by simpa using h); simpa using this), (fun h => by have := hD15 (by simpa using h); simpa using this), (fun h k => hN12_13 (by simpa using h) (by simpa using k)), hB⟩
    · skip
      have d6 := hdep _ rfl ⟨6, .data⟩ (by simp) rfl
      obtain rfl := h6 d6
      refine wpOp_step rfl (fun K' hK' => ?_)
      go_simp
      refine (Calls.mono (C2.out w' (gq.below hB)) ?_)
      rintro e W1 ⟨Xr, cr, rfl, kr, kb⟩
      refine hK' _ _ ?_
      exact ⟨_, _, _, _, _, _, _, _, _, _, _, _, _, _, rfl, kd h0, kd h1, kd h2, kd h3, kp h4 (fun h => h.below kb), kd h5, kd h6, fun _ => ⟨Xr, cr, rfl, kr⟩, kd h8, kd h9, kd h10, kp h11 (fun h => h.below kb), kp h12 (fun h => h.below kb), kp h13 (fun h => h.below kb), kp h14 (fun h => h.below kb), kp h15 (fun h => h.below kb), (fun h => by have := hD14 (by simpa using h); simpa using this), (fun h => by have := hD15 (by simpa using h); simpa using this), (fun h k => hN12_13 (by simpa using h) (by simpa using k)), Below.cons hB kb⟩
    · skip
      refine wpOp_step rfl (fun K' hK' => ?_)
      go_simp
      refine hK' _ _ ?_
      exact ⟨_, _, _, _, _, _, _, _, _, _, _, _, _, _, rfl, kd h0, kd h1, kd h2, kd h3, kd h4, kd h5, kd h6, kd h7, fun _ => rfl, kd h9, kd h10, kd h11, kd h12, kd h13, kd h14, kd h15, (fun h => by have := hD14 (by simpa using h); simpa using this), (fun h => by have := hD15 (by simpa using h); simpa using this), (fun h k => hN12_13 (by simpa using h) (by simpa using k)), hB⟩
    · skip
      have d8 := hdep _ rfl ⟨8, .data⟩ (by simp) rfl
      obtain rfl := h8 d8
      refine wpOp_step rfl (fun K' hK' => ?_)
      go_simp
      refine hK' _ _ ?_
      exact ⟨_, _, _, _, _, _, _, _, _, _, _, _, _, _, rfl, kd h0, kd h1, kd h2, kd h3, kd h4, kd h5, kd h6, kd h7, kd h8, fun _ => rfl, kd h10, kd h11, kd h12, kd h13, kd h14, kd h15, (fun h => by have := hD14 (by simpa using h); simpa using this), (fun h => by have := hD15 (by simpa using h); simpa using this), (fun h k => hN12_13 (by simpa using h) (by simpa using k)), hB⟩
    · skip
      have d9 := hdep _ rfl ⟨9, .data⟩ (by simp) rfl
      obtain rfl := h9 d9
      refine wpOp_step rfl (fun K' hK' => ?_)
      go_simp
      refine hK' _ _ ?_
      exact ⟨_, _, _, _, _, _, _, _, _, _, _, _, _, _, rfl, kd h0, kd h1, kd h2, kd h3, kd h4, kd h5, kd h6, kd h7, kd h8, kd h9, fun _ => rfl, kd h11, kd h12, kd h13, kd h14, kd h15, (fun h => by have := hD14 (by simpa using h); simpa using this), (fun h => by have := hD15 (by simpa using h); simpa using this), (fun h k => hN12_13 (by simpa using h) (by simpa using k)), hB⟩
    · skip
      have d7 := hdep _ rfl ⟨7, .data⟩ (by simp) rfl
      obtain ⟨X_7, c_7, rfl, k_7⟩ := h7 d7
      have d10 := hdep _ rfl ⟨10, .data⟩ (by simp) rfl
      obtain rfl := h10 d10
      refine wpOp_step rfl (fun K' hK' => ?_)
      go_simp
      refine (Calls.mono (C3.out w' X_7 c_7 k_7) ?_)
      rintro e W1 ⟨Xr, cr, rfl, kr, kb⟩
      refine hK' _ _ ?_
      exact ⟨_, _, _, _, _, _, _, _, _, _, _, _, _, _, rfl, kd h0, kd h1, kd h2, kd h3, kp h4 (fun h => h.below kb), kd h5, kd h6, kp h7 (fun h => h.below kb), kd h8, kd h9, kd h10, fun _ => ⟨Xr, cr, rfl, kr⟩, kp h12 (fun h => h.below kb), kp h13 (fun h => h.below kb), kp h14 (fun h => h.below kb), kp h15 (fun h => h.below kb), (fun h => by have := hD14 (by simpa using h); simpa using this), (fun h => by have := hD15 (by simpa using h); simpa using this), (fun h k => hN12_13 (by simpa using h) (by simpa using k)), Below.cons hB kb⟩
    · skip
      have kb : Below w'.heap.size w' (w'.alloc (.cells #[.bool false, .slice none 0 0] 24)) := (Below.refl _ _).alloc (Nat.le_refl _) _
      refine wpOp_step rfl (fun K' hK' => ?_)
      go_simp
      refine hK' _ _ ?_
      exact ⟨_, _, _, _, _, _, _, _, _, _, _, _, _, _, rfl, kd h0, kd h1, kd h2, kd h3, kp h4 (fun h => h.below kb), kd h5, kd h6, kp h7 (fun h => h.below kb), kd h8, kd h9, kd h10, kp h11 (fun h => h.below kb), fun _ => ⟨_, _, _, rfl, hB.size, ⟨at_new rfl⟩, notU_bool _, notU_slice _ _ _⟩, kp h13 (fun h => h.below kb), (fun h => by have h2 := hD14 (by simpa using h); rw [hEi] at h2; cases h2), kp h15 (fun h => h.below kb), (fun _ => by simp), (fun h => by have := hD15 (by simpa using h); simpa using this), (fun _ h => by obtain ⟨n2, e2, l2⟩ := (h13 (by simpa using h)).lt; rw [e2]; intro e3; simp at e3 <;> omega), Below.cons hB kb⟩
    · skip
      have kb : Below w'.heap.size w' (w'.alloc (.cells #[.bool false, .slice none 0 0] 24)) := (Below.refl _ _).alloc (Nat.le_refl _) _
      refine wpOp_step rfl (fun K' hK' => ?_)
      go_simp
      refine hK' _ _ ?_
      exact ⟨_, _, _, _, _, _, _, _, _, _, _, _, _, _, rfl, kd h0, kd h1, kd h2, kd h3, kp h4 (fun h => h.below kb), kd h5, kd h6, kp h7 (fun h => h.below kb), kd h8, kd h9, kd h10, kp h11 (fun h => h.below kb), kp h12 (fun h => h.below kb), fun _ => ⟨_, _, _, rfl, hB.size, ⟨at_new rfl⟩, notU_bool _, notU_slice _ _ _⟩, kp h14 (fun h => h.below kb), (fun h => by have h2 := hD15 (by simpa using h); rw [hEi] at h2; cases h2), (fun h => by have := hD14 (by simpa using h); simpa using this), (fun _ => by simp), (fun h _ => by obtain ⟨n2, e2, l2⟩ := (h12 (by simpa using h)).lt; rw [e2]; intro e3; simp at e3 <;> omega), Below.cons hB kb⟩
    · skip
      have d12 := hdep _ rfl ⟨12, .data⟩ (by simp) rfl
      obtain ⟨nb, z0, z1, rfl, hn, hb, nz0, nz1⟩ := h12 d12
      have d4 := hdep _ rfl ⟨4, .data⟩ (by simp) rfl
      obtain ⟨X_4, c_4, rfl, k_4⟩ := h4 d4
      have fz0 := hb.f (i := 0)
      have cz0 := hb.c (i := 0) rfl
      have fz1 := hb.f (i := 1)
      have cz1 := hb.c (i := 1) rfl
      have hp := hb.put2 (notU2 nz0 nz1) (.bool (sg u)) (.slice X_4 (nl (mg u)) c_4)
      have hs := hb.store2 (.bool (sg u)) (.slice X_4 (nl (mg u)) c_4)
      refine wpOp_step rfl (fun K' hK' => ?_)
      go_simp
      refine hK' _ _ ?_
      exact ⟨_, _, _, _, _, _, _, _, _, _, _, _, _, _, rfl, kd h0, kd h1, kd h2, kd h3, kp h4 (fun h => h.put hp), kd h5, kd h6, kp h7 (fun h => h.put hp), kd h8, kd h9, kd h10, kp h11 (fun h => h.put hp), (fun _ => ⟨nb, _, _, rfl, hn, hs, notU_bool _, notU_slice _ _ _⟩), keepP' (by decide) h13 (fun e h => h.put hp (fun e3 => hN12_13 d12 (by simpa using e) e3.symm)), fun _ => ⟨nb, X_4, c_4, rfl, hn, hs, hp.nat k_4⟩, keepP' (by decide) h15 (fun e h => h.put hp (fun e3 => hN12_13 d12 (hD15 (by simpa using e)) e3.symm)), (fun _ => by simp [d12]), (fun h => by have := hD15 (by simpa using h); simpa using this), (fun h k => hN12_13 (by simpa using h) (by simpa using k)), Below.store2 hB hn⟩
    · skip
      have d13 := hdep _ rfl ⟨13, .data⟩ (by simp) rfl
      obtain ⟨nb, z0, z1, rfl, hn, hb, nz0, nz1⟩ := h13 d13
      have d11 := hdep _ rfl ⟨11, .data⟩ (by simp) rfl
      obtain ⟨X_11, c_11, rfl, k_11⟩ := h11 d11
      have fz0 := hb.f (i := 0)
      have cz0 := hb.c (i := 0) rfl
      have fz1 := hb.f (i := 1)
      have cz1 := hb.c (i := 1) rfl
      have hp := hb.put2 (notU2 nz0 nz1) (.bool (sg v)) (.slice X_11 (nl (mg v)) c_11)
      have hs := hb.store2 (.bool (sg v)) (.slice X_11 (nl (mg v)) c_11)
      refine wpOp_step rfl (fun K' hK' => ?_)
      go_simp
      refine hK' _ _ ?_
      exact ⟨_, _, _, _, _, _, _, _, _, _, _, _, _, _, rfl, kd h0, kd h1, kd h2, kd h3, kp h4 (fun h => h.put hp), kd h5, kd h6, kp h7 (fun h => h.put hp), kd h8, kd h9, kd h10, kp h11 (fun h => h.put hp), keepP' (by decide) h12 (fun e h => h.put hp (hN12_13 (by simpa using e) d13)), (fun _ => ⟨nb, _, _, rfl, hn, hs, notU_bool _, notU_slice _ _ _⟩), keepP' (by decide) h14 (fun e h => h.put hp (hN12_13 (hD14 (by simpa using e)) d13)), fun _ => ⟨nb, X_11, c_11, rfl, hn, hs, hp.nat k_11⟩, (fun h => by have := hD14 (by simpa using h); simpa using this), (fun _ => by simp [d13]), (fun h k => hN12_13 (by simpa using h) (by simpa using k)), Below.store2 hB hn⟩
  case fin =>
    rintro E a' w' ⟨u19, u20, u21, u22, u23, u24, u25, u26, u27, u28, u29, u30, u8, u9, rfl, h0, h1, h2, h3, h4, h5, h6, h7, h8, h9, h10, h11, h12, h13, h14, h15, hD14, hD15, hN12_13, hB⟩ hall
    obtain ⟨nbu, Xu, cu, rfl, hnu, Ru, hu⟩ := h14 (hall 14 (by simp))
    obtain ⟨nbv, Xv, cv, rfl, hnv, Rv, hv⟩ := h15 (hall 15 (by simp))
    replace hq := hq.below hB
    replace gq := gq.below hB
    replace hT := hT.below hB
    replace Rq := Rq.below hB
    replace qq0 := cbl hB qq0
    replace qq1 := cbl hB qq1
    replace qq2 := cbl hB qq2
    replace Rr := Rr.below hB
    replace qr0 := cbl hB qr0
    replace qr1 := cbl hB qr1
    replace qr2 := cbl hB qr2
    replace HBT := Below.cons HBT hB
    have kvu := hnu
    have qu0 := Ru.c (i := 0) rfl
    have qu1 := Ru.c (i := 1) rfl
    have kvv := hnv
    have qv0 := Rv.c (i := 0) rfl
    have qv1 := Rv.c (i := 1) rfl
    clear hall
    go_wp2_with (fail)
    have lo2 := lo
    obtain ⟨y, Ey⟩ : ∃ zq : Int, zq = ovr u v dr := ⟨_, rfl⟩
    rw [← Ey] at lo
    refine (Calls.mono (R := RetI w' y) (by rw [Ey]; with_reducible exact over_c Xu cu u Xv cv v dr _ hu hv (by omega) (by omega) v0.out d0 d4) ?_)
    replace Ey := Lib.hid Ey
    rintro e W3 ⟨Xy, cy, rfl, hy, hb3⟩
    replace hq := hq.below hb3
    replace gq := gq.below hb3
    replace hT := hT.below hb3
    replace Rq := Rq.below hb3
    replace qq0 := cbl hb3 qq0
    replace qq1 := cbl hb3 qq1
    replace qq2 := cbl hb3 qq2
    replace Rr := Rr.below hb3
    replace qr0 := cbl hb3 qr0
    replace qr1 := cbl hb3 qr1
    replace qr2 := cbl hb3 qr2
    replace hu := hu.below hb3
    replace Ru := Ru.below hb3
    replace qu0 := cbl hb3 qu0
    replace qu1 := cbl hb3 qu1
    replace hv := hv.below hb3
    replace Rv := Rv.below hb3
    replace qv0 := cbl hb3 qv0
    replace qv1 := cbl hb3 qv1
    replace HBT := Below.cons HBT hb3
    clear hb3
    go_wp2_with (fail)
    obtain ⟨x, Ex⟩ : ∃ zq : Rat, zq = dval y (-n) := ⟨_, rfl⟩
    refine (Calls.mono (R := RetD W3 x) (by rw [Ex]; with_reducible exact dmake_c Xy cy y (-n) _ hy hT (by omega) (by omega)) ?_)
    replace Ex := Lib.hid Ex
    rintro e W4 ⟨Xx, cx, rfl, hx, hb4⟩
    replace hq := hq.below hb4
    replace gq := gq.below hb4
    replace hT := hT.below hb4
    replace Rq := Rq.below hb4
    replace qq0 := cbl hb4 qq0
    replace qq1 := cbl hb4 qq1
    replace qq2 := cbl hb4 qq2
    replace Rr := Rr.below hb4
    replace qr0 := cbl hb4 qr0
    replace qr1 := cbl hb4 qr1
    replace qr2 := cbl hb4 qr2
    replace hu := hu.below hb4
    replace Ru := Ru.below hb4
    replace qu0 := cbl hb4 qu0
    replace qu1 := cbl hb4 qu1
    replace hv := hv.below hb4
    replace Rv := Rv.below hb4
    replace qv0 := cbl hb4 qv0
    replace qv1 := cbl hb4 qv1
    replace hy := hy.below hb4
    replace HBT := Below.cons HBT hb4
    clear hb4
    have fzr0 := Rr.f (i := 0)
    have fzr1 := Rr.f (i := 1)
    have fzr2 := Rr.f (i := 2)
    go_wp2_with (fail)
    have eqx : x = dval (rnd dr (q * (2 : Rat) ^ n)) (-n) := by rw [Ex.out, Ey.out, hov.out]
    have RS := Rr.store3 (.bool (sg (dmn x))) (.slice Xx (nl (mg (dmn x))) cx) (.int .i64 (dex x))
    have e0 := RS.c (i := 0) rfl
    have e1 := RS.c (i := 1) rfl
    have e2 := RS.c (i := 2) rfl
    refine bodyPost_ret (v := .tuple #[.agg #[.bool (sg (dmn x)), .slice Xx (nl (mg (dmn x))) cx, .int .i64 (dex x)], .int .i64 0]) (by simp [results, Tryz.results47, go_sem, e0, e1, e2]) rfl ?_
    rw [← eqx]
    exact ⟨Xx, cx, rfl, Rr.keep3 (nuB rfl) hx, Below.store3 HBT (by omega)⟩
theorem dval_back {z n : Int} {a : Rat} (h : dval z (-n) = a) : a * (2 : Rat) ^ n = (z : Rat) := by
  rw [← h]; unfold dval
  rw [Rat.mul_assoc, ← zp_add, Int.add_left_neg, Rat.zpow_zero, Rat.mul_one]
theorem rnd_int (dr z : Int) : rnd dr (z : Rat) = z := by
  unfold rnd
  rw [Rat.floor_intCast, Rat.ceil_intCast]
  split
  · rfl
  · split
    · rfl
    · split <;> rfl
theorem round_same {a : Rat} {n : Int} (dr : Int) (h : Dyd a) (hn : -n ≤ dex a) : dval (rnd dr (a * (2 : Rat) ^ n)) (-n) = a := by
  have h1 := lev h hn
  rw [dval_back h1, rnd_int, h1]
theorem round_ovr {a : Rat} {n : Int} {k : Nat} (dr : Int) (h : Dyd a) (hk : -n - dex a = k) (h0 : 0 ≤ dr) (h4 : dr ≤ 4) : ovr (dmn a) ((2 ^ k : Nat) : Int) dr = rnd dr (a * (2 : Rat) ^ n) := by
  have e : a * (2 : Rat) ^ n = ((dmn a : Int) : Rat) / ((2 ^ k : Int) : Rat) := by
    conv => lhs; lhs; rw [← dval_q h]
    unfold dval
    rw [Rat.mul_assoc, ← zp_add, show dex a + n = -(k : Int) by omega, zp_neg, zp_int, Rat.div_def]
  rw [e, Int.natCast_pow]
  exact ovr_rnd (Int.pow_pos (by decide)) h0 h4
theorem round_neg (aA : Option Addr) (ac : Nat) (a : Rat) (n : Int) (dr : Int) (w : World) (ha : NatV w aA ac (mg (dmn a)))   (h0 : dr < 0) :
    Calls Tryz.prog 49 #[.agg #[.bool (sg (dmn a)), .slice aA (nl (mg (dmn a))) ac, .int .i64 (dex a)], .int .i64 n, .int .i64 dr] w (RetDe w 0 1) := by
  have t1 : decide (dr < 0) = true := decide_eq_true h0
  obtain ⟨hb1, Ra, Rr⟩ := bx2 w #[.bool (sg (dmn a)), .slice aA (nl (mg (dmn a))) ac, .int .i64 (dex a)] 26 #[.bool false, .slice none 0 0, .int .i64 0] 26
  replace ha := ha.below hb1
  have HBT := hb1
  clear hb1
  have qa0 := Ra.c (i := 0) rfl
  have qa1 := Ra.c (i := 1) rfl
  have qa2 := Ra.c (i := 2) rfl
  have qr0 := Rr.c (i := 0) rfl
  have qr1 := Rr.c (i := 1) rfl
  have qr2 := Rr.c (i := 2) rfl
  have fzr0 := Rr.f (i := 0)
  have fzr1 := Rr.f (i := 1)
  have fzr2 := Rr.f (i := 2)
  go_enter Tryz.func49, Tryz.ntmps49
  go_wp2_with (fail)
  have RS := Rr
  have e0 := RS.c (i := 0) rfl
  have e1 := RS.c (i := 1) rfl
  have e2 := RS.c (i := 2) rfl
  refine bodyPost_ret (v := .tuple #[.agg #[.bool false, .slice none 0 0, .int .i64 0], .int .i64 1]) (by simp [results, Tryz.results49, go_sem, e0, e1, e2]) rfl ?_
  exact ⟨none, 0, by rw [dmn_zero, dex_zero, mg0, sg0, nl_zero], nat_none _, HBT⟩
theorem round_same_c (aA : Option Addr) (ac : Nat) (a : Rat) (n : Int) (dr : Int) (w : World) (ha : NatV w aA ac (mg (dmn a)))   (oa : DOk a) (d0 : 0 ≤ dr) (d4 : dr ≤ 4) (ln : -1000000 ≤ n ∧ n ≤ 1000000) (hn : -n ≤ dex a) :
    Calls Tryz.prog 49 #[.agg #[.bool (sg (dmn a)), .slice aA (nl (mg (dmn a))) ac, .int .i64 (dex a)], .int .i64 n, .int .i64 dr] w (RetDe w (dval (rnd dr (a * (2 : Rat) ^ n)) (-n)) 0) := by
  have t1 : decide (dr < 0) = false := decide_eq_false (by omega)
  have t2 : decide (5 ≤ dr) = false := decide_eq_false (by omega)
  have Wn : IntKind.i64.wrap (-n) = -n := IntWalk.i64_in _ (by omega)
  have hl := oa.l
  have he := oa.e
  have t3 : decide (-n ≤ dex a) = true := decide_eq_true hn
  have hv := round_same dr oa.d hn
  replace hv := Lib.hid hv
  replace oa := Lib.hid oa
  replace he := Lib.hid he
  obtain ⟨hb1, Ra, Rr⟩ := bx2 w #[.bool (sg (dmn a)), .slice aA (nl (mg (dmn a))) ac, .int .i64 (dex a)] 26 #[.bool false, .slice none 0 0, .int .i64 0] 26
  replace ha := ha.below hb1
  have HBT := hb1
  clear hb1
  have qa0 := Ra.c (i := 0) rfl
  have qa1 := Ra.c (i := 1) rfl
  have qa2 := Ra.c (i := 2) rfl
  have qr0 := Rr.c (i := 0) rfl
  have qr1 := Rr.c (i := 1) rfl
  have qr2 := Rr.c (i := 2) rfl
  go_enter Tryz.func49, Tryz.ntmps49
  go_wp2_with (fail)
  refine (Calls.mono (ways_c _) ?_)
  rintro e W2 ⟨rfl, hb2⟩
  replace ha := ha.below hb2
  replace Ra := Ra.below hb2
  replace qa0 := cbl hb2 qa0
  replace qa1 := cbl hb2 qa1
  replace qa2 := cbl hb2 qa2
  replace Rr := Rr.below hb2
  replace qr0 := cbl hb2 qr0
  replace qr1 := cbl hb2 qr1
  replace qr2 := cbl hb2 qr2
  replace HBT := Below.cons HBT hb2
  clear hb2
  have fzr0 := Rr.f (i := 0)
  have fzr1 := Rr.f (i := 1)
  have fzr2 := Rr.f (i := 2)
  go_wp2_with (fail)
  have RS := Rr.store3 (.bool (sg (dmn a))) (.slice aA (nl (mg (dmn a))) ac) (.int .i64 (dex a))
  have e0 := RS.c (i := 0) rfl
  have e1 := RS.c (i := 1) rfl
  have e2 := RS.c (i := 2) rfl
  refine bodyPost_ret (v := .tuple #[.agg #[.bool (sg (dmn a)), .slice aA (nl (mg (dmn a))) ac, .int .i64 (dex a)], .int .i64 0]) (by simp [results, Tryz.results49, go_sem, e0, e1, e2]) rfl ?_
  rw [hv.out]
  exact ⟨aA, ac, rfl, Rr.keep3 (nuB rfl) ha, Below.store3 HBT (by omega)⟩
theorem round_cut_c (aA : Option Addr) (ac : Nat) (a : Rat) (n : Int) (dr : Int) (w : World) (ha : NatV w aA ac (mg (dmn a)))   (oa : DOk a) (d0 : 0 ≤ dr) (d4 : dr ≤ 4) (ln : -1000000 ≤ n ∧ n ≤ 1000000) (hT : Tab w) (hn : dex a < -n) :
    Calls Tryz.prog 49 #[.agg #[.bool (sg (dmn a)), .slice aA (nl (mg (dmn a))) ac, .int .i64 (dex a)], .int .i64 n, .int .i64 dr] w (RetDe w (dval (rnd dr (a * (2 : Rat) ^ n)) (-n)) 0) := by
  have t1 : decide (dr < 0) = false := decide_eq_false (by omega)
  have t2 : decide (5 ≤ dr) = false := decide_eq_false (by omega)
  have Wn : IntKind.i64.wrap (-n) = -n := IntWalk.i64_in _ (by omega)
  have hl := oa.l
  have he := oa.e
  have t3 : decide (-n ≤ dex a) = false := decide_eq_false (by omega)
  obtain ⟨k, hk⟩ := Int.eq_ofNat_of_zero_le (show 0 ≤ -n - dex a by omega)
  have hv := round_ovr dr oa.d hk d0 d4
  have Wk : IntKind.i64.wrap (-n - dex a) = (k : Int) := by rw [hk]; exact IntWalk.i64_in _ (by omega)
  have lk : k ≤ 2000000 := by omega
  have Wk2 : IntKind.i64.wrap (k : Int) = (k : Int) := IntWalk.i64_in _ (by omega)
  replace oa := Lib.hid oa
  replace he := Lib.hid he
  obtain ⟨hb1, Ra, Rr⟩ := bx2 w #[.bool (sg (dmn a)), .slice aA (nl (mg (dmn a))) ac, .int .i64 (dex a)] 26 #[.bool false, .slice none 0 0, .int .i64 0] 26
  replace ha := ha.below hb1
  replace hT := hT.below hb1
  have HBT := hb1
  clear hb1
  have qa0 := Ra.c (i := 0) rfl
  have qa1 := Ra.c (i := 1) rfl
  have qa2 := Ra.c (i := 2) rfl
  have qr0 := Rr.c (i := 0) rfl
  have qr1 := Rr.c (i := 1) rfl
  have qr2 := Rr.c (i := 2) rfl
  go_enter Tryz.func49, Tryz.ntmps49
  go_wp2_with (fail)
  refine (Calls.mono (ways_c _) ?_)
  rintro e W2 ⟨rfl, hb2⟩
  replace ha := ha.below hb2
  replace hT := hT.below hb2
  replace Ra := Ra.below hb2
  replace qa0 := cbl hb2 qa0
  replace qa1 := cbl hb2 qa1
  replace qa2 := cbl hb2 qa2
  replace Rr := Rr.below hb2
  replace qr0 := cbl hb2 qr0
  replace qr1 := cbl hb2 qr1
  replace qr2 := cbl hb2 qr2
  replace HBT := Below.cons HBT hb2
  clear hb2
  go_wp2_with (fail)
  have hd3 := drb (W2)
  replace ha := ha.below hd3
  replace hT := hT.below hd3
  replace Ra := Ra.below hd3
  replace qa0 := cbl hd3 qa0
  replace qa1 := cbl hd3 qa1
  replace qa2 := cbl hd3 qa2
  replace Rr := Rr.below hd3
  replace qr0 := cbl hd3 qr0
  replace qr1 := cbl hd3 qr1
  replace qr2 := cbl hd3 qr2
  replace HBT := Below.cons HBT hd3
  clear hd3
  obtain ⟨o, Eo⟩ : ∃ zq : Int, zq = (1 : Int) := ⟨_, rfl⟩
  have No : nl (mg o) ≤ 1 := by rw [Eo]; exact Nat.le_of_eq nl_one
  have C3_0 := fun (W : World) => (show Calls Tryz.prog 82 #[.int .i64 1] W (RetI W o) by rw [Eo]; exact iof1_c W)
  replace Eo := Lib.hid Eo
  replace C3_0 := Lib.hid C3_0
  obtain ⟨p, Ep⟩ : ∃ zq : Int, zq = shf o (k : Int) := ⟨_, rfl⟩
  have Vp : p = ((2 ^ k : Nat) : Int) := by rw [Ep, Eo.out]; exact shf_one k
  have Pp : 0 < p := by rw [Vp]; have := Nat.two_pow_pos k; omega
  have Np : nl (mg p) ≤ 162502 := by rw [Vp, mg_nat, nl_two_pow]; omega
  have lo := ovr_nl (dmn a) dr Pp
  rw [← Vp] at hv
  replace hv := Lib.hid hv
  replace Vp := Lib.hid Vp
  have C3_1 := fun (W : World) (A : Option Addr) (c : Nat) (h1 : NatV W A c (mg o)) => ishift_c A c o (k : Int) W h1 (by omega) (by omega)
  simp only [← Ep] at C3_1
  replace Ep := Lib.hid Ep
  replace C3_1 := Lib.hid C3_1
  obtain ⟨y, Ey⟩ : ∃ zq : Int, zq = ovr (dmn a) p dr := ⟨_, rfl⟩
  rw [← Ey] at lo
  have C3_2 := fun (W : World) (A : Option Addr) (c : Nat) (h1 : NatV W aA ac (mg (dmn a))) (h2 : NatV W A c (mg p)) => over_c aA ac (dmn a) A c p dr W h1 h2 (by omega) (by omega) Pp d0 d4
  simp only [← Ey] at C3_2
  replace Ey := Lib.hid Ey
  replace C3_2 := Lib.hid C3_2
  obtain ⟨x, Ex⟩ : ∃ zq : Rat, zq = dval y (-n) := ⟨_, rfl⟩
  have C3_3 := fun (W : World) (A : Option Addr) (c : Nat) (h1 : NatV W A c (mg y)) (h2 : Tab W) => dmake_c A c y (-n) W h1 h2 (by omega) (by omega)
  simp only [← Ex] at C3_3
  replace Ex := Lib.hid Ex
  replace C3_3 := Lib.hid C3_3
  go_region_held3 (fun W => W.cell? ⟨w.heap.size, 0, none⟩ = some (.bool (sg (dmn a))) ∧ W.cell? ⟨w.heap.size, 1, none⟩ = some (.slice aA (nl (mg (dmn a))) ac) ∧ W.cell? ⟨w.heap.size, 2, none⟩ = some (.int .i64 (dex a)))
    (first
      | exact ⟨qa0, qa1, qa2⟩
      | exact ⟨qa0_4, qa1_4, qa2_4⟩
      | exact ⟨qa0_5, qa1_5, qa2_5⟩
      | exact ⟨qa0_6, qa1_6, qa2_6⟩
      | exact ⟨qa0_7, qa1_7, qa2_7⟩
      | exact ⟨((Ra_7.other3 (by simp <;> omega)).c (i := 0) rfl), ((Ra_7.other3 (by simp <;> omega)).c (i := 1) rfl), ((Ra_7.other3 (by simp <;> omega)).c (i := 2) rfl)⟩
      | go_keep)
    (first
      | (go_at_call 82; (with_reducible refine (C3_0.out _).mono ?_); rintro e W4 ⟨Xo, co, rfl, ho, hb4⟩; have ha_4 := ha.below hb4; have hT_4 := hT.below hb4; have Ra_4 := Ra.below hb4; have qa0_4 := cbl hb4 qa0; have qa1_4 := cbl hb4 qa1; have qa2_4 := cbl hb4 qa2; have Rr_4 := Rr.below hb4; have qr0_4 := cbl hb4 qr0; have qr1_4 := cbl hb4 qr1; have qr2_4 := cbl hb4 qr2; have HBT_4 := Below.cons HBT hb4)
      | (go_at_call 59; (with_reducible refine (C3_1.out _ _ _ ho).mono ?_); rintro e W5 ⟨Xp, cp, rfl, hp, hb5⟩; have ha_5 := ha_4.below hb5; have hT_5 := hT_4.below hb5; have Ra_5 := Ra_4.below hb5; have qa0_5 := cbl hb5 qa0_4; have qa1_5 := cbl hb5 qa1_4; have qa2_5 := cbl hb5 qa2_4; have Rr_5 := Rr_4.below hb5; have qr0_5 := cbl hb5 qr0_4; have qr1_5 := cbl hb5 qr1_4; have qr2_5 := cbl hb5 qr2_4; have ho_5 := ho.below hb5; have HBT_5 := Below.cons HBT_4 hb5)
      | (go_at_call 109; (with_reducible refine (C3_2.out _ _ _ ha_5 hp).mono ?_); rintro e W6 ⟨Xy, cy, rfl, hy, hb6⟩; have ha_6 := ha_5.below hb6; have hT_6 := hT_5.below hb6; have Ra_6 := Ra_5.below hb6; have qa0_6 := cbl hb6 qa0_5; have qa1_6 := cbl hb6 qa1_5; have qa2_6 := cbl hb6 qa2_5; have Rr_6 := Rr_5.below hb6; have qr0_6 := cbl hb6 qr0_5; have qr1_6 := cbl hb6 qr1_5; have qr2_6 := cbl hb6 qr2_5; have ho_6 := ho_5.below hb6; have hp_6 := hp.below hb6; have HBT_6 := Below.cons HBT_5 hb6)
      | (go_at_call 12; (with_reducible refine (C3_3.out _ _ _ hy hT_6).mono ?_); rintro e W7 ⟨Xx, cx, rfl, hx, hb7⟩; have ha_7 := ha_6.below hb7; have hT_7 := hT_6.below hb7; have Ra_7 := Ra_6.below hb7; have qa0_7 := cbl hb7 qa0_6; have qa1_7 := cbl hb7 qa1_6; have qa2_7 := cbl hb7 qa2_6; have Rr_7 := Rr_6.below hb7; have qr0_7 := cbl hb7 qr0_6; have qr1_7 := cbl hb7 qr1_6; have qr2_7 := cbl hb7 qr2_6; have ho_7 := ho_6.below hb7; have hp_7 := hp_6.below hb7; have hy_7 := hy.below hb7; have HBT_7 := Below.cons HBT_6 hb7; have fz0 := Rr_7.f (i := 0); have fz1 := Rr_7.f (i := 1); have fz2 := Rr_7.f (i := 2)))
  all_goals (try go_wp2_with (fail))
  have eqx : x = dval (rnd dr (a * (2 : Rat) ^ n)) (-n) := by rw [Ex.out, Ey.out, hv.out]
  have RS := Rr_7.store3 (.bool (sg (dmn x))) (.slice Xx (nl (mg (dmn x))) cx) (.int .i64 (dex x))
  have e0 := RS.c (i := 0) rfl
  have e1 := RS.c (i := 1) rfl
  have e2 := RS.c (i := 2) rfl
  refine bodyPost_ret (v := .tuple #[.agg #[.bool (sg (dmn x)), .slice Xx (nl (mg (dmn x))) cx, .int .i64 (dex x)], .int .i64 0]) (by simp [results, Tryz.results49, go_sem, e0, e1, e2]) rfl ?_
  rw [← eqx]
  exact ⟨Xx, cx, rfl, Rr_7.keep3 (nuB rfl) hx, Below.store3 HBT_7 (by omega)⟩
theorem dround_c (aA : Option Addr) (ac : Nat) (a : Rat) (n dr : Int) (w : World) (ha : NatV w aA ac (mg (dmn a))) (hT : Tab w) (oa : DOk a) (d0 : 0 ≤ dr) (d4 : dr ≤ 4) (ln : -1000000 ≤ n ∧ n ≤ 1000000) :
    Calls Tryz.prog 49 #[.agg #[.bool (sg (dmn a)), .slice aA (nl (mg (dmn a))) ac, .int .i64 (dex a)], .int .i64 n, .int .i64 dr] w (RetDe w (dval (rnd dr (a * (2 : Rat) ^ n)) (-n)) 0) := by
  by_cases h : -n ≤ dex a
  · exact round_same_c aA ac a n dr w ha oa d0 d4 ln h
  · exact round_cut_c aA ac a n dr w ha oa d0 d4 ln hT (by omega)
theorem bit_low {a k : Nat} (h0 : a ≠ 0) (hk : k < v2 a) : a / 2 ^ k % 2 = 0 := by
  obtain ⟨b, h1, h2⟩ := v2_spec h0
  obtain ⟨j, hj⟩ : ∃ j, v2 a = k + (j + 1) := ⟨v2 a - k - 1, by omega⟩
  have e : a / 2 ^ k = 2 * (2 ^ j * b) := by
    have : a = 2 ^ k * (2 * (2 ^ j * b)) := by
      conv => lhs; rw [h1, hj, Nat.pow_add, Nat.pow_succ]
      rw [Nat.mul_assoc, Nat.mul_comm (2 ^ j) 2, Nat.mul_assoc]
    conv => lhs; rw [this]
    exact Nat.mul_div_cancel_left _ (Nat.two_pow_pos k)
  rw [e]; exact Nat.mul_mod_right _ _
theorem bit_odd {a : Nat} (h0 : a ≠ 0) : a / 2 ^ v2 a % 2 = 1 := by
  obtain ⟨b, h1, h2⟩ := v2_spec h0
  have e : a / 2 ^ v2 a = b := by
    conv => lhs; lhs; rw [h1]
    exact Nat.mul_div_cancel_left _ (Nat.two_pow_pos _)
  rw [e]; exact h2
theorem tmake_0 (aA : Option Addr) (ac : Nat) (a : Int) (e : Int) (w : World) (ha : NatV w aA ac (mg a))  (h0 : a = 0) :
    Calls Tryz.prog 13 #[.agg #[.bool (sg a), .slice aA (nl (mg a)) ac], .int .i64 e] w (RetD w (dval a e)) := by
  have t1 : ((nl (mg a) : Int) == 0) = true := ieqT (by rw [h0, mg0, nl_zero]; rfl)
  have t2 : (nl (mg a) == 0) = true := by rw [h0, mg0, nl_zero]; rfl
  have hq : dval a e = 0 := by rw [h0]; exact dval_zero e
  replace h0 := Lib.hid h0
  replace hq := Lib.hid hq
  obtain ⟨hb1, Ra, Rr⟩ := bx2 w #[.bool (sg a), .slice aA (nl (mg a)) ac] 24 #[.bool false, .slice none 0 0, .int .i64 0] 26
  replace ha := ha.below hb1
  have HBT := hb1
  clear hb1
  have qa0 := Ra.c (i := 0) rfl
  have qa1 := Ra.c (i := 1) rfl
  have qr0 := Rr.c (i := 0) rfl
  have qr1 := Rr.c (i := 1) rfl
  have qr2 := Rr.c (i := 2) rfl
  have fzr0 := Rr.f (i := 0)
  have fzr1 := Rr.f (i := 1)
  have fzr2 := Rr.f (i := 2)
  go_enter Tryz.func13, Tryz.ntmps13
  go_wp2_with (fail)
  have e0 := Rr.c (i := 0) rfl
  have e1 := Rr.c (i := 1) rfl
  have e2 := Rr.c (i := 2) rfl
  refine bodyPost_ret (v := .agg #[.bool false, .slice none 0 0, .int .i64 0]) (by simp [results, Tryz.results13, go_sem, e0, e1, e2]) rfl ?_
  rw [hq.out]
  exact ⟨none, 0, by rw [dmn_zero, dex_zero, mg0, sg0, nl_zero], by rw [dmn_zero, mg0]; exact ⟨.inl (by simp [vals, limbs_zero]), by rw [nl_zero]; exact Nat.le_refl _, by decide⟩, HBT⟩
theorem tmake_n (aA : Option Addr) (ac : Nat) (a : Int) (e : Int) (w : World) (ha : NatV w aA ac (mg a))  (la : nl (mg a) ≤ 1048576) (le : -1073741824 ≤ e ∧ e ≤ 1073741824) (h0 : a ≠ 0) :
    Calls Tryz.prog 13 #[.agg #[.bool (sg a), .slice aA (nl (mg a)) ac], .int .i64 e] w (RetD w (dval a e)) := by
  have m0 : mg a ≠ 0 := fun k => h0 (mg_zero.1 k)
  have t1 : ((nl (mg a) : Int) == 0) = false := ieqF (by have := nl_pos.2 m0; omega)
  have t2 : (nl (mg a) == 0) = false := by have := nl_pos.2 m0; simp; omega
  have hf := make_form a e
  have hd := dm_v2 a
  have hvl := v2_le (mg a)
  have hlow := fun k (h : k < v2 (mg a)) => bit_low m0 h
  have hodd := bit_odd m0
  obtain ⟨n, En⟩ : ∃ n, n = v2 (mg a) := ⟨_, rfl⟩
  have he : de a e = e + n := by unfold de; rw [if_neg h0, En]
  rw [← En] at hd hvl hlow hodd
  obtain ⟨x, Ex⟩ : ∃ x, x = e + (n : Int) := ⟨_, rfl⟩
  have Ix : e + (n : Int) = x := Ex.symm
  have Wx : IntKind.i64.wrap x = x := IntWalk.i64_in _ (by omega)
  rw [he, ← Ex] at hf
  have ln : n ≤ 33554432 := by omega
  replace hd := Lib.hid hd
  replace he := Lib.hid he
  replace hf := Lib.hid hf
  replace Ex := Lib.hid Ex
  replace En := Lib.hid En
  replace hlow := Lib.hid hlow
  replace hodd := Lib.hid hodd
  replace m0 := Lib.hid m0
  obtain ⟨hb1, Ra, Rr⟩ := bx2 w #[.bool (sg a), .slice aA (nl (mg a)) ac] 24 #[.bool false, .slice none 0 0, .int .i64 0] 26
  replace ha := ha.below hb1
  have HBT := hb1
  clear hb1
  have qa0 := Ra.c (i := 0) rfl
  have qa1 := Ra.c (i := 1) rfl
  have qr0 := Rr.c (i := 0) rfl
  have qr1 := Rr.c (i := 1) rfl
  have qr2 := Rr.c (i := 2) rfl
  go_enter Tryz.func13, Tryz.ntmps13
  go_wp2_with (fail)
  go_loop [5] (fun v => ∃ k : Nat, v = .int .i64 (k : Nat) ∧ k ≤ n) (fun v => n - (intOf v).toNat)
  case atStart => exact ⟨0, rfl, Nat.zero_le _⟩
  case round =>
    obtain ⟨k, rfl, hk⟩ := hrel
    by_cases hkn : k < n
    · have CB := rbit_c aA ac (mg a) k _ ha (by omega) (by omega)
      rw [hlow.out k hkn] at CB
      replace CB := Lib.hid CB
      go_wp2_with (fail)
      refine (Calls.mono CB.out ?_)
      rintro e1 w' ⟨rfl, hw⟩
      subst hw
      go_wp2_with (fail)
      go_round
      case rel => exact ⟨k + 1, by go_num, by omega⟩
      case measure => simp [intOf] <;> omega
    · obtain rfl : k = n := by omega
      have CB := rbit_c aA ac (mg a) k _ ha (by omega) (by omega)
      rw [hodd.out] at CB
      replace CB := Lib.hid CB
      go_wp2_with (fail)
      refine (Calls.mono CB.out ?_)
      rintro e1 w' ⟨rfl, hw⟩
      subst hw
      go_wp2_with (fail)
      have hd2 := drb (((w.alloc (.cells #[.bool (sg a), .slice aA (nl (mg a)) ac] 24)).alloc (.cells #[.bool false, .slice none 0 0, .int .i64 0] 26)))
      replace ha := ha.below hd2
      replace Ra := Ra.below hd2
      replace qa0 := cbl hd2 qa0
      replace qa1 := cbl hd2 qa1
      replace Rr := Rr.below hd2
      replace qr0 := cbl hd2 qr0
      replace qr1 := cbl hd2 qr1
      replace qr2 := cbl hd2 qr2
      replace HBT := Below.cons HBT hd2
      clear hd2
      obtain ⟨m, Em⟩ : ∃ zq : Nat, zq = mg a / 2 ^ k := ⟨_, rfl⟩
      have Bm : nl m ≤ 1048576 := by rw [Em]; have := nl_div (mg a) (2 ^ k); omega
      have C2_0 := fun (W : World) (h1 : NatV W aA ac (mg a)) => rshr_c aA ac (mg a) k W h1 (by omega) (by omega)
      simp only [← Em] at C2_0
      replace Em := Lib.hid Em
      replace C2_0 := Lib.hid C2_0
      obtain ⟨z, Ez⟩ : ∃ zq : Int, zq = ival (sg a) m := ⟨_, rfl⟩
      have C2_1 := fun (W : World) (A : Option Addr) (c : Nat) (h1 : NatV W A c m) => rz_c (sg a) A c m W h1 (by omega)
      simp only [← Ez] at C2_1
      replace Ez := Lib.hid Ez
      replace C2_1 := Lib.hid C2_1
      go_region_held3 (fun W => W.cell? ⟨w.heap.size, 0, none⟩ = some (.bool (sg a)) ∧ W.cell? ⟨w.heap.size, 1, none⟩ = some (.slice aA (nl (mg a)) ac))
        (first
          | exact ⟨qa0, qa1⟩
          | exact ⟨qa0_3, qa1_3⟩
          | exact ⟨qa0_4, qa1_4⟩
          | exact ⟨((Ra_4.other3 (by simp <;> omega)).c (i := 0) rfl), ((Ra_4.other3 (by simp <;> omega)).c (i := 1) rfl)⟩
          | go_keep)
        (first
          | (go_at_call 61; (with_reducible refine (C2_0.out _ ha).mono ?_); rintro e W3 ⟨Xm, cm, rfl, hm, hb3⟩; have ha_3 := ha.below hb3; have Ra_3 := Ra.below hb3; have qa0_3 := cbl hb3 qa0; have qa1_3 := cbl hb3 qa1; have Rr_3 := Rr.below hb3; have qr0_3 := cbl hb3 qr0; have qr1_3 := cbl hb3 qr1; have qr2_3 := cbl hb3 qr2; have HBT_3 := Below.cons HBT hb3)
          | (go_at_call 56; (with_reducible refine (C2_1.out _ _ _ hm).mono ?_); rintro e W4 ⟨Xz, cz, rfl, hz, hb4⟩; have ha_4 := ha_3.below hb4; have Ra_4 := Ra_3.below hb4; have qa0_4 := cbl hb4 qa0_3; have qa1_4 := cbl hb4 qa1_3; have Rr_4 := Rr_3.below hb4; have qr0_4 := cbl hb4 qr0_3; have qr1_4 := cbl hb4 qr1_3; have qr2_4 := cbl hb4 qr2_3; have hm_4 := hm.below hb4; have HBT_4 := Below.cons HBT_3 hb4; have fz0 := Rr_4.f (i := 0); have fz1 := Rr_4.f (i := 1); have fz2 := Rr_4.f (i := 2)))
      all_goals (try go_wp2_with (fail))
      have eqz : z = dmn (dval a e) := by rw [Ez.out, Em.out, hd.out, hf.out.1]
      have eqx : x = dex (dval a e) := hf.out.2
      have RS := Rr_4.store3 (.bool (sg z)) (.slice Xz (nl (mg z)) cz) (.int .i64 x)
      have e0 := RS.c (i := 0) rfl
      have e1 := RS.c (i := 1) rfl
      have e2 := RS.c (i := 2) rfl
      refine bodyPost_ret (v := .agg #[.bool (sg z), .slice Xz (nl (mg z)) cz, .int .i64 x]) (by simp [results, Tryz.results13, go_sem, e0, e1, e2]) rfl ?_
      exact ⟨Xz, cz, (by rw [eqz, eqx]), by rw [← eqz]; exact (Rr_4.keep3 (nuB rfl) hz), (Below.store3 HBT_4 (by first | exact Nat.le_refl _ | omega))⟩
theorem tmake_c (aA : Option Addr) (ac : Nat) (a : Int) (e : Int) (w : World) (ha : NatV w aA ac (mg a)) (la : nl (mg a) ≤ 1048576) (le : -1073741824 ≤ e ∧ e ≤ 1073741824) :
    Calls Tryz.prog 13 #[.agg #[.bool (sg a), .slice aA (nl (mg a)) ac], .int .i64 e] w (RetD w (dval a e)) := by
  by_cases h0 : a = 0
  · exact tmake_0 aA ac a e w ha h0
  · exact tmake_n aA ac a e w ha la le h0
theorem zof1_c (w : World) : Calls Tryz.prog 51 #[.int .i64 1] w (RetI w 1) := zof_c 1 w (by decide) (by decide)
theorem pow_up (k : Nat) : ((shf 1 (k : Int) : Int) : Rat) = (2 : Rat) ^ (k : Int) := by
  rw [shf_one, zp_int, Int.natCast_pow]; rfl
theorem pow_mk (k : Nat) : mkRat 1 (2 ^ k) = (2 : Rat) ^ (-(k : Int)) := by
  rw [← dval_den]; unfold dval; simp
theorem pow_dn (k : Nat) : Rat.divInt 1 (shf 1 (k : Int)) = (2 : Rat) ^ (-(k : Int)) := by
  rw [shf_one, Rat.divInt_ofNat, pow_mk]
theorem pow_sz (n : Int) (h : -1000000 ≤ n ∧ n ≤ 1000000) : nl (mg ((2 : Rat) ^ n).num) ≤ 31251 ∧ nl ((2 : Rat) ^ n).den ≤ 31251 := by
  rcases Int.lt_or_le n 0 with hn | hn
  · obtain ⟨k, rfl⟩ := Int.exists_eq_neg_ofNat (show n ≤ 0 by omega)
    rw [← pow_mk]
    have h0 : (2 ^ k : Nat) ≠ 0 := Nat.pos_iff_ne_zero.1 (Nat.two_pow_pos k)
    rw [Rat.num_mkRat, Rat.den_mkRat, if_neg h0, if_neg h0]
    have hd := nl_div (2 ^ k) (Nat.gcd (2 ^ k) (Int.natAbs 1))
    have hp := nl_two_pow k
    have hm : mg (1 / ((Nat.gcd (2 ^ k) (Int.natAbs 1) : Nat) : Int)) ≤ 1 := Int.natAbs_ediv_le_natAbs 1 _
    have h1 := nl_mono hm
    rw [nl_one] at h1
    constructor
    · omega
    · omega
  · obtain ⟨k, rfl⟩ := Int.eq_ofNat_of_zero_le hn
    rw [← pow_up, Rat.num_intCast, Rat.den_intCast, shf_one, mg_nat, nl_two_pow, nl_one]
    constructor <;> omega
theorem dval_eq (a : Rat) (h : Dyd a) : ((dmn a : Int) : Rat) * (2 : Rat) ^ dex a = a := dval_q h
theorem tpow_u (n : Int) (w : World)  (n0 : 0 ≤ n) (n1 : n ≤ 1000000) :
    Calls Tryz.prog 78 #[.int .i64 n] w (RetR w ((2 : Rat) ^ n)) := by
  obtain ⟨k, rfl⟩ := Int.eq_ofNat_of_zero_le n0
  have t1 : decide (0 ≤ (k : Int)) = true := by simp
  have hv := pow_up k
  have hk : k ≤ 1000000 := by omega
  replace hv := Lib.hid hv
  obtain ⟨hb1, Rr⟩ := bx1 w #[.bool false, .slice none 0 0, .slice none 0 0] 41
  have HBT := hb1
  clear hb1
  have qr0 := Rr.c (i := 0) rfl
  have qr1 := Rr.c (i := 1) rfl
  have qr2 := Rr.c (i := 2) rfl
  go_enter Tryz.func78, Tryz.ntmps78
  go_wp2_with (fail)
  obtain ⟨o, Eo⟩ : ∃ zq : Int, zq = 1 := ⟨_, rfl⟩
  have No : nl (mg o) ≤ 1 := by rw [Eo]; exact Nat.le_of_eq nl_one
  refine (Calls.mono (R := RetI (w.alloc (.cells #[.bool false, .slice none 0 0, .slice none 0 0] 41)) o) (by rw [Eo]; with_reducible exact (zof1_c _)) ?_)
  replace Eo := Lib.hid Eo
  rintro e W2 ⟨Xo, co, rfl, ho, hb2⟩
  replace Rr := Rr.below hb2
  replace qr0 := cbl hb2 qr0
  replace qr1 := cbl hb2 qr1
  replace qr2 := cbl hb2 qr2
  replace HBT := Below.cons HBT hb2
  clear hb2
  go_wp2_with (fail)
  obtain ⟨p, Ep⟩ : ∃ zq : Int, zq = shf o (k : Int) := ⟨_, rfl⟩
  refine (Calls.mono (R := RetI W2 p) (by rw [Ep]; with_reducible exact (zshift_c Xo co o (k : Int) _ ho (by omega) (by omega))) ?_)
  replace Ep := Lib.hid Ep
  rintro e W3 ⟨Xp, cp, rfl, hp, hb3⟩
  replace Rr := Rr.below hb3
  replace qr0 := cbl hb3 qr0
  replace qr1 := cbl hb3 qr1
  replace qr2 := cbl hb3 qr2
  replace ho := ho.below hb3
  replace HBT := Below.cons HBT hb3
  clear hb3
  go_wp2_with (fail)
  obtain ⟨q, Eq⟩ : ∃ zq : Rat, zq = (p : Rat) := ⟨_, rfl⟩
  refine (Calls.mono (R := RetR W3 q) (by rw [Eq]; with_reducible exact (r9whole_c Xp cp p _ hp)) ?_)
  replace Eq := Lib.hid Eq
  rintro e W4 ⟨Xq, cq, Yq, dq, rfl, hq, gq, hb4⟩
  replace Rr := Rr.below hb4
  replace qr0 := cbl hb4 qr0
  replace qr1 := cbl hb4 qr1
  replace qr2 := cbl hb4 qr2
  replace ho := ho.below hb4
  replace hp := hp.below hb4
  replace HBT := Below.cons HBT hb4
  clear hb4
  have fzr0 := Rr.f (i := 0)
  have fzr1 := Rr.f (i := 1)
  have fzr2 := Rr.f (i := 2)
  go_wp2_with (fail)
  have hzq : q = ((2 : Rat) ^ (k : Int)) := by rw [Eq.out, Ep.out, Eo.out]; exact hv.out
  subst hzq
  have RS := Rr.store3 (.bool (sg ((((2 : Rat) ^ (k : Int)))).num)) (.slice Xq (nl (mg ((((2 : Rat) ^ (k : Int)))).num)) cq) (.slice Yq (nl ((((2 : Rat) ^ (k : Int)))).den) dq)
  have e0 := RS.c (i := 0) rfl
  have e1 := RS.c (i := 1) rfl
  have e2 := RS.c (i := 2) rfl
  refine bodyPost_ret (v := .agg #[.bool (sg ((((2 : Rat) ^ (k : Int)))).num), .slice Xq (nl (mg ((((2 : Rat) ^ (k : Int)))).num)) cq, .slice Yq (nl ((((2 : Rat) ^ (k : Int)))).den) dq]) (by simp [results, Tryz.results78, go_sem, e0, e1, e2]) rfl ?_
  exact ⟨Xq, cq, Yq, dq, rfl, (Rr.keep3 (nuB rfl) hq), (Rr.keep3 (nuB rfl) gq), (Below.store3 HBT (by first | exact Nat.le_refl _ | omega))⟩
theorem tpow_d (n : Int) (w : World)  (n0 : n < 0) (n1 : -1000000 ≤ n) :
    Calls Tryz.prog 78 #[.int .i64 n] w (RetR w ((2 : Rat) ^ n)) := by
  obtain ⟨k, hk⟩ := Int.eq_ofNat_of_zero_le (show 0 ≤ -n by omega)
  have t1 : decide (0 ≤ n) = false := by simp; exact n0
  have lk : k ≤ 1000000 := by omega
  have Wk : IntKind.i64.wrap (k : Int) = (k : Int) := IntWalk.i64_in _ (by omega)
  have hv := pow_dn k
  rw [show -(k : Int) = n by omega] at hv
  replace hv := Lib.hid hv
  obtain ⟨hb1, Rr⟩ := bx1 w #[.bool false, .slice none 0 0, .slice none 0 0] 41
  have HBT := hb1
  clear hb1
  have qr0 := Rr.c (i := 0) rfl
  have qr1 := Rr.c (i := 1) rfl
  have qr2 := Rr.c (i := 2) rfl
  go_enter Tryz.func78, Tryz.ntmps78
  go_wp2_with (fail)
  obtain ⟨o, Eo⟩ : ∃ zq : Int, zq = 1 := ⟨_, rfl⟩
  have No : nl (mg o) ≤ 1 := by rw [Eo]; exact Nat.le_of_eq nl_one
  refine (Calls.mono (R := RetI (w.alloc (.cells #[.bool false, .slice none 0 0, .slice none 0 0] 41)) o) (by rw [Eo]; with_reducible exact (zof1_c _)) ?_)
  replace Eo := Lib.hid Eo
  rintro e W2 ⟨Xo, co, rfl, ho, hb2⟩
  replace Rr := Rr.below hb2
  replace qr0 := cbl hb2 qr0
  replace qr1 := cbl hb2 qr1
  replace qr2 := cbl hb2 qr2
  replace HBT := Below.cons HBT hb2
  clear hb2
  go_wp2_with (fail)
  obtain ⟨o2, Eo2⟩ : ∃ zq : Int, zq = 1 := ⟨_, rfl⟩
  have No2 : nl (mg o2) ≤ 1 := by rw [Eo2]; exact Nat.le_of_eq nl_one
  refine (Calls.mono (R := RetI W2 o2) (by rw [Eo2]; with_reducible exact (zof1_c _)) ?_)
  replace Eo2 := Lib.hid Eo2
  rintro e W3 ⟨Xo2, co2, rfl, ho2, hb3⟩
  replace Rr := Rr.below hb3
  replace qr0 := cbl hb3 qr0
  replace qr1 := cbl hb3 qr1
  replace qr2 := cbl hb3 qr2
  replace ho := ho.below hb3
  replace HBT := Below.cons HBT hb3
  clear hb3
  go_wp2_with (fail)
  obtain ⟨p, Ep⟩ : ∃ zq : Int, zq = shf o2 (k : Int) := ⟨_, rfl⟩
  have Vp : p = ((2 ^ k : Nat) : Int) := by rw [Ep, Eo2.out]; exact shf_one k
  have Pp : 0 < p := by rw [Vp]; have := Nat.two_pow_pos k; omega
  have Np : nl (mg p) ≤ 1048576 := by rw [Vp, mg_nat, nl_two_pow]; omega
  replace Vp := Lib.hid Vp
  refine (Calls.mono (R := RetI W3 p) (by rw [Ep]; with_reducible exact (zshift_c Xo2 co2 o2 (k : Int) _ ho2 (by omega) (by omega))) ?_)
  replace Ep := Lib.hid Ep
  rintro e W4 ⟨Xp, cp, rfl, hp, hb4⟩
  replace Rr := Rr.below hb4
  replace qr0 := cbl hb4 qr0
  replace qr1 := cbl hb4 qr1
  replace qr2 := cbl hb4 qr2
  replace ho := ho.below hb4
  replace ho2 := ho2.below hb4
  replace HBT := Below.cons HBT hb4
  clear hb4
  go_wp2_with (fail)
  obtain ⟨q, Eq⟩ : ∃ z : Rat, z = Rat.divInt o p := ⟨_, rfl⟩
  have CM := r9make_c Xo co o Xp cp p W4 ho hp (by omega) (by omega) Pp
  rw [← Eq] at CM
  replace CM := Lib.hid CM
  replace Eq := Lib.hid Eq
  refine (Calls.mono CM.out ?_)
  clear CM
  rintro e W5 ⟨Xq, cq, Yq, dq, rfl, hq, gq, hb5⟩
  replace Rr := Rr.below hb5
  replace qr0 := cbl hb5 qr0
  replace qr1 := cbl hb5 qr1
  replace qr2 := cbl hb5 qr2
  replace ho := ho.below hb5
  replace ho2 := ho2.below hb5
  replace hp := hp.below hb5
  replace HBT := Below.cons HBT hb5
  clear hb5
  obtain ⟨hb6, Rq⟩ := bx1 W5 #[.bool (sg q.num), .slice Xq (nl (mg q.num)) cq, .slice Yq (nl q.den) dq] 41
  replace Rr := Rr.below hb6
  replace qr0 := cbl hb6 qr0
  replace qr1 := cbl hb6 qr1
  replace qr2 := cbl hb6 qr2
  replace ho := ho.below hb6
  replace ho2 := ho2.below hb6
  replace hp := hp.below hb6
  replace hq := hq.below hb6
  replace gq := gq.below hb6
  replace HBT := Below.cons HBT hb6
  clear hb6
  have qq0 := Rq.c (i := 0) rfl
  have qq1 := Rq.c (i := 1) rfl
  have qq2 := Rq.c (i := 2) rfl
  have fzr0 := Rr.f (i := 0)
  have fzr1 := Rr.f (i := 1)
  have fzr2 := Rr.f (i := 2)
  go_wp2_with (fail)
  have hzq : q = ((2 : Rat) ^ n) := by rw [Eq.out, Ep.out, Eo.out, Eo2.out]; exact hv.out
  subst hzq
  have RS := Rr.store3 (.bool (sg ((((2 : Rat) ^ n))).num)) (.slice Xq (nl (mg ((((2 : Rat) ^ n))).num)) cq) (.slice Yq (nl ((((2 : Rat) ^ n))).den) dq)
  have e0 := RS.c (i := 0) rfl
  have e1 := RS.c (i := 1) rfl
  have e2 := RS.c (i := 2) rfl
  refine bodyPost_ret (v := .agg #[.bool (sg ((((2 : Rat) ^ n))).num), .slice Xq (nl (mg ((((2 : Rat) ^ n))).num)) cq, .slice Yq (nl ((((2 : Rat) ^ n))).den) dq]) (by simp [results, Tryz.results78, go_sem, e0, e1, e2]) rfl ?_
  exact ⟨Xq, cq, Yq, dq, rfl, (Rr.keep3 (nuB rfl) hq), (Rr.keep3 (nuB rfl) gq), (Below.store3 HBT (by first | exact Nat.le_refl _ | omega))⟩
theorem tpow_c (n : Int) (w : World) (ln : -1000000 ≤ n ∧ n ≤ 1000000) :
    Calls Tryz.prog 78 #[.int .i64 n] w (RetR w ((2 : Rat) ^ n)) := by
  by_cases h : 0 ≤ n
  · exact tpow_u n w h ln.2
  · exact tpow_d n w (by omega) ln.1
theorem trat_c (aA : Option Addr) (ac : Nat) (a : Rat) (w : World) (ha : NatV w aA ac (mg (dmn a))) (oa : DOk a) :
    Calls Tryz.prog 30 #[.agg #[.bool (sg (dmn a)), .slice aA (nl (mg (dmn a))) ac, .int .i64 (dex a)]] w (RetR w a) := by
  have hl := oa.l
  have he := oa.e
  have eqv := dval_eq a oa.d
  have hp := pow_sz (dex a) he
  replace eqv := Lib.hid eqv
  replace oa := Lib.hid oa
  obtain ⟨hb1, Ra, Rr⟩ := bx2 w #[.bool (sg (dmn a)), .slice aA (nl (mg (dmn a))) ac, .int .i64 (dex a)] 26 #[.bool false, .slice none 0 0, .slice none 0 0] 41
  replace ha := ha.below hb1
  have HBT := hb1
  clear hb1
  have qa0 := Ra.c (i := 0) rfl
  have qa1 := Ra.c (i := 1) rfl
  have qa2 := Ra.c (i := 2) rfl
  have qr0 := Rr.c (i := 0) rfl
  have qr1 := Rr.c (i := 1) rfl
  have qr2 := Rr.c (i := 2) rfl
  go_enter Tryz.func30, Tryz.ntmps30
  go_wp2_with (fail)
  have hd2 := drb (((w.alloc (.cells #[.bool (sg (dmn a)), .slice aA (nl (mg (dmn a))) ac, .int .i64 (dex a)] 26)).alloc (.cells #[.bool false, .slice none 0 0, .slice none 0 0] 41)))
  replace ha := ha.below hd2
  replace Ra := Ra.below hd2
  replace qa0 := cbl hd2 qa0
  replace qa1 := cbl hd2 qa1
  replace qa2 := cbl hd2 qa2
  replace Rr := Rr.below hd2
  replace qr0 := cbl hd2 qr0
  replace qr1 := cbl hd2 qr1
  replace qr2 := cbl hd2 qr2
  replace HBT := Below.cons HBT hd2
  clear hd2
  obtain ⟨u, Eu⟩ : ∃ zq : Rat, zq = ((dmn a : Int) : Rat) := ⟨_, rfl⟩
  have Nu : nl (mg u.num) ≤ 262144 := by rw [Eu, Rat.num_intCast]; omega
  have Mu : nl u.den ≤ 262144 := by rw [Eu, Rat.den_intCast, nl_one]; decide
  have C2_0 := fun (W : World) (h1 : NatV W aA ac (mg (dmn a))) => r9whole_c aA ac (dmn a) W h1
  simp only [← Eu] at C2_0
  replace Eu := Lib.hid Eu
  replace C2_0 := Lib.hid C2_0
  obtain ⟨v, Ev⟩ : ∃ zq : Rat, zq = (2 : Rat) ^ dex a := ⟨_, rfl⟩
  have Nv : nl (mg v.num) ≤ 262144 := by rw [Ev]; omega
  have Mv : nl v.den ≤ 262144 := by rw [Ev]; omega
  have C2_1 := fun (W : World) => tpow_c (dex a) W he
  simp only [← Ev] at C2_1
  replace Ev := Lib.hid Ev
  replace C2_1 := Lib.hid C2_1
  obtain ⟨q, Eq⟩ : ∃ zq : Rat, zq = u * v := ⟨_, rfl⟩
  have C2_2 := fun (W : World) (A : Option Addr) (c : Nat) (B : Option Addr) (d : Nat) (A2 : Option Addr) (c2 : Nat) (B2 : Option Addr) (d2 : Nat) (h1 : NatV W A c (mg u.num)) (h2 : NatV W B d u.den) (h3 : NatV W A2 c2 (mg v.num)) (h4 : NatV W B2 d2 v.den) => r9mul_c A c B d u A2 c2 B2 d2 v W h1 h2 h3 h4 Nu Mu Nv Mv
  simp only [← Eq] at C2_2
  replace Eq := Lib.hid Eq
  replace C2_2 := Lib.hid C2_2
  go_region_held3 (fun W => W.cell? ⟨w.heap.size, 0, none⟩ = some (.bool (sg (dmn a))) ∧ W.cell? ⟨w.heap.size, 1, none⟩ = some (.slice aA (nl (mg (dmn a))) ac) ∧ W.cell? ⟨w.heap.size, 2, none⟩ = some (.int .i64 (dex a)))
    (first
      | exact ⟨qa0, qa1, qa2⟩
      | exact ⟨qa0_3, qa1_3, qa2_3⟩
      | exact ⟨qa0_4, qa1_4, qa2_4⟩
      | exact ⟨qa0_5, qa1_5, qa2_5⟩
      | exact ⟨((Ra_5.other3 (by simp <;> omega)).c (i := 0) rfl), ((Ra_5.other3 (by simp <;> omega)).c (i := 1) rfl), ((Ra_5.other3 (by simp <;> omega)).c (i := 2) rfl)⟩
      | go_keep)
    (first
      | (go_at_call 83; (with_reducible refine (C2_0.out _ ha).mono ?_); rintro e W3 ⟨Xu, cu, Yu, du, rfl, hu, gu, hb3⟩; have ha_3 := ha.below hb3; have Ra_3 := Ra.below hb3; have qa0_3 := cbl hb3 qa0; have qa1_3 := cbl hb3 qa1; have qa2_3 := cbl hb3 qa2; have Rr_3 := Rr.below hb3; have qr0_3 := cbl hb3 qr0; have qr1_3 := cbl hb3 qr1; have qr2_3 := cbl hb3 qr2; have HBT_3 := Below.cons HBT hb3)
      | (go_at_call 78; (with_reducible refine (C2_1.out _).mono ?_); rintro e W4 ⟨Xv, cv, Yv, dv, rfl, hv, gv, hb4⟩; have ha_4 := ha_3.below hb4; have Ra_4 := Ra_3.below hb4; have qa0_4 := cbl hb4 qa0_3; have qa1_4 := cbl hb4 qa1_3; have qa2_4 := cbl hb4 qa2_3; have Rr_4 := Rr_3.below hb4; have qr0_4 := cbl hb4 qr0_3; have qr1_4 := cbl hb4 qr1_3; have qr2_4 := cbl hb4 qr2_3; have hu_4 := hu.below hb4; have gu_4 := gu.below hb4; have HBT_4 := Below.cons HBT_3 hb4)
      | (go_at_call 77; (with_reducible refine (C2_2.out _ _ _ _ _ _ _ _ _ hu_4 gu_4 hv gv).mono ?_); rintro e W5 ⟨Xq, cq, Yq, dq, rfl, hq, gq, hb5⟩; have ha_5 := ha_4.below hb5; have Ra_5 := Ra_4.below hb5; have qa0_5 := cbl hb5 qa0_4; have qa1_5 := cbl hb5 qa1_4; have qa2_5 := cbl hb5 qa2_4; have Rr_5 := Rr_4.below hb5; have qr0_5 := cbl hb5 qr0_4; have qr1_5 := cbl hb5 qr1_4; have qr2_5 := cbl hb5 qr2_4; have hu_5 := hu_4.below hb5; have gu_5 := gu_4.below hb5; have hv_5 := hv.below hb5; have gv_5 := gv.below hb5; have HBT_5 := Below.cons HBT_4 hb5; have fz0 := Rr_5.f (i := 0); have fz1 := Rr_5.f (i := 1); have fz2 := Rr_5.f (i := 2)))
  all_goals (try go_wp2_with (fail))
  have hzq : q = a := by rw [Eq.out, Eu.out, Ev.out]; exact eqv.out
  subst hzq
  have RS := Rr_5.store3 (.bool (sg q.num)) (.slice Xq (nl (mg q.num)) cq) (.slice Yq (nl q.den) dq)
  have e0 := RS.c (i := 0) rfl
  have e1 := RS.c (i := 1) rfl
  have e2 := RS.c (i := 2) rfl
  refine bodyPost_ret (v := .agg #[.bool (sg q.num), .slice Xq (nl (mg q.num)) cq, .slice Yq (nl q.den) dq]) (by simp [results, Tryz.results30, go_sem, e0, e1, e2]) rfl ?_
  exact ⟨Xq, cq, Yq, dq, rfl, (Rr_5.keep3 (nuB rfl) hq), (Rr_5.keep3 (nuB rfl) gq), (Below.store3 HBT_5 (by first | exact Nat.le_refl _ | omega))⟩
theorem mul_sz (a b : Rat) : nl (mg (a * b).num) ≤ nl (mg a.num) + nl (mg b.num) ∧ nl (a * b).den ≤ nl a.den + nl b.den := by
  have h0 : a.den * b.den ≠ 0 := Nat.mul_ne_zero a.den_nz b.den_nz
  rw [Rat.mul_def', Rat.num_mkRat, Rat.den_mkRat, if_neg h0, if_neg h0]
  constructor
  · refine Nat.le_trans (nl_mono (Int.natAbs_ediv_le_natAbs _ _)) ?_
    have := nl_mul (mg a.num) (mg b.num)
    rw [← mg_mul] at this; exact this
  · exact Nat.le_trans (nl_div _ _) (nl_mul _ _)
theorem dyd_eq {a b : Rat} (ha : Dyd a) (hb : Dyd b) (h : dex a = dex b) : (a = b) ↔ dmn a = dmn b := by
  constructor
  · intro e; rw [e]
  · intro e; rw [← dval_q ha, ← dval_q hb, h, e]
theorem tsame_y (aA : Option Addr) (ac : Nat) (a : Rat) (bA : Option Addr) (bc : Nat) (b : Rat) (w : World) (ha : NatV w aA ac (mg (dmn a))) (hb : NatV w bA bc (mg (dmn b))) (da : Dyd a) (db : Dyd b) (la : nl (mg (dmn a)) ≤ 1073741824) (lb : nl (mg (dmn b)) ≤ 1073741824) (h0 : dex a = dex b) :
    Calls Tryz.prog 11 #[.agg #[.bool (sg (dmn a)), .slice aA (nl (mg (dmn a))) ac, .int .i64 (dex a)], .agg #[.bool (sg (dmn b)), .slice bA (nl (mg (dmn b))) bc, .int .i64 (dex b)]] w (fun e w' => e = .returned (.bool (decide (dmn a = dmn b))) ∧ Below w.heap.size w w') := by
  have t1 : (dex a == dex b) = true := by simp; exact h0
  replace h0 := Lib.hid h0
  replace da := Lib.hid da
  replace db := Lib.hid db
  obtain ⟨xa, Exa⟩ : ∃ z, z = dex a := ⟨_, rfl⟩
  obtain ⟨xb, Exb⟩ : ∃ z, z = dex b := ⟨_, rfl⟩
  rw [← Exa, ← Exb] at t1
  rw [← Exa, ← Exb]
  replace Exa := Lib.hid Exa
  replace Exb := Lib.hid Exb
  obtain ⟨hb1, Ra, Rb⟩ := bx2 w #[.bool (sg (dmn a)), .slice aA (nl (mg (dmn a))) ac, .int .i64 xa] 26 #[.bool (sg (dmn b)), .slice bA (nl (mg (dmn b))) bc, .int .i64 xb] 26
  replace ha := ha.below hb1
  replace hb := hb.below hb1
  have HBT := hb1
  clear hb1
  have qa0 := Ra.c (i := 0) rfl
  have qa1 := Ra.c (i := 1) rfl
  have qa2 := Ra.c (i := 2) rfl
  have qb0 := Rb.c (i := 0) rfl
  have qb1 := Rb.c (i := 1) rfl
  have qb2 := Rb.c (i := 2) rfl
  go_enter Tryz.func11, Tryz.ntmps11
  go_wp2_with (fail)
  refine (Calls.mono (zsame_c aA ac (dmn a) bA bc (dmn b) _ ha hb la lb) ?_)
  rintro e W2 ⟨rfl, hb2⟩
  replace ha := ha.below hb2
  replace hb := hb.below hb2
  replace Ra := Ra.below hb2
  replace qa0 := cbl hb2 qa0
  replace qa1 := cbl hb2 qa1
  replace qa2 := cbl hb2 qa2
  replace Rb := Rb.below hb2
  replace qb0 := cbl hb2 qb0
  replace qb1 := cbl hb2 qb1
  replace qb2 := cbl hb2 qb2
  replace HBT := Below.cons HBT hb2
  clear hb2
  go_wp2_with (fail)
  go_ret
  exact ⟨rfl, HBT⟩
theorem tsame_n (aA : Option Addr) (ac : Nat) (a : Rat) (bA : Option Addr) (bc : Nat) (b : Rat) (w : World) (ha : NatV w aA ac (mg (dmn a))) (hb : NatV w bA bc (mg (dmn b))) (da : Dyd a) (db : Dyd b) (la : nl (mg (dmn a)) ≤ 1073741824) (lb : nl (mg (dmn b)) ≤ 1073741824) (h0 : dex a ≠ dex b) :
    Calls Tryz.prog 11 #[.agg #[.bool (sg (dmn a)), .slice aA (nl (mg (dmn a))) ac, .int .i64 (dex a)], .agg #[.bool (sg (dmn b)), .slice bA (nl (mg (dmn b))) bc, .int .i64 (dex b)]] w (fun e w' => e = .returned (.bool false) ∧ Below w.heap.size w w') := by
  have t1 : (dex a == dex b) = false := by simp; exact h0
  replace h0 := Lib.hid h0
  replace da := Lib.hid da
  replace db := Lib.hid db
  obtain ⟨xa, Exa⟩ : ∃ z, z = dex a := ⟨_, rfl⟩
  obtain ⟨xb, Exb⟩ : ∃ z, z = dex b := ⟨_, rfl⟩
  rw [← Exa, ← Exb] at t1
  rw [← Exa, ← Exb]
  replace Exa := Lib.hid Exa
  replace Exb := Lib.hid Exb
  obtain ⟨hb1, Ra, Rb⟩ := bx2 w #[.bool (sg (dmn a)), .slice aA (nl (mg (dmn a))) ac, .int .i64 xa] 26 #[.bool (sg (dmn b)), .slice bA (nl (mg (dmn b))) bc, .int .i64 xb] 26
  replace ha := ha.below hb1
  replace hb := hb.below hb1
  have HBT := hb1
  clear hb1
  have qa0 := Ra.c (i := 0) rfl
  have qa1 := Ra.c (i := 1) rfl
  have qa2 := Ra.c (i := 2) rfl
  have qb0 := Rb.c (i := 0) rfl
  have qb1 := Rb.c (i := 1) rfl
  have qb2 := Rb.c (i := 2) rfl
  go_enter Tryz.func11, Tryz.ntmps11
  go_wp2_with (fail)
  go_ret
  exact ⟨rfl, HBT⟩
theorem tsame_c (aA : Option Addr) (ac : Nat) (a : Rat) (bA : Option Addr) (bc : Nat) (b : Rat) (w : World) (ha : NatV w aA ac (mg (dmn a))) (hb : NatV w bA bc (mg (dmn b))) (da : Dyd a) (db : Dyd b) (la : nl (mg (dmn a)) ≤ 1073741824) (lb : nl (mg (dmn b)) ≤ 1073741824) :
    Calls Tryz.prog 11 #[.agg #[.bool (sg (dmn a)), .slice aA (nl (mg (dmn a))) ac, .int .i64 (dex a)], .agg #[.bool (sg (dmn b)), .slice bA (nl (mg (dmn b))) bc, .int .i64 (dex b)]] w fun e w' => e = .returned (.bool (decide (a = b))) ∧ Below w.heap.size w w' := by
  by_cases h : dex a = dex b
  · rw [show decide (a = b) = decide (dmn a = dmn b) by rw [decide_eq_decide]; exact dyd_eq da db h]; exact tsame_y aA ac a bA bc b w ha hb da db la lb h
  · rw [decide_eq_false (fun e => h (by rw [e]))]; exact tsame_n aA ac a bA bc b w ha hb da db la lb h
theorem tsign_c (aA : Option Addr) (ac : Nat) (a : Rat) (w : World) (ha : NatV w aA ac (mg (dmn a))) (la : nl (mg (dmn a)) ≤ 1073741824) :
    Calls Tryz.prog 17 #[.agg #[.bool (sg (dmn a)), .slice aA (nl (mg (dmn a))) ac, .int .i64 (dex a)]] w (fun e w' => e = .returned (.int .i64 (dmn a).sign) ∧ Below w.heap.size w w') := by
  obtain ⟨hb1, Ra⟩ := bx1 w #[.bool (sg (dmn a)), .slice aA (nl (mg (dmn a))) ac, .int .i64 (dex a)] 26
  replace ha := ha.below hb1
  have HBT := hb1
  clear hb1
  have qa0 := Ra.c (i := 0) rfl
  have qa1 := Ra.c (i := 1) rfl
  have qa2 := Ra.c (i := 2) rfl
  go_enter Tryz.func17, Tryz.ntmps17
  go_wp2_with (fail)
  refine (Calls.mono (zsign_c aA ac (dmn a) _ ha la) ?_)
  rintro e W2 ⟨rfl, hb2⟩
  replace ha := ha.below hb2
  replace Ra := Ra.below hb2
  replace qa0 := cbl hb2 qa0
  replace qa1 := cbl hb2 qa1
  replace qa2 := cbl hb2 qa2
  replace HBT := Below.cons HBT hb2
  clear hb2
  go_wp2_with (fail)
  go_ret
  exact ⟨rfl, HBT⟩
theorem tcmp_c (aA : Option Addr) (ac : Nat) (a : Rat) (bA : Option Addr) (bc : Nat) (b : Rat) (w : World) (ha : NatV w aA ac (mg (dmn a))) (hb : NatV w bA bc (mg (dmn b))) (oa : DOk a) (ob : DOk b) (la : nl (mg a.num) ≤ 200000) (ma : nl a.den ≤ 200000) (lb : nl (mg b.num) ≤ 200000) (mb : nl b.den ≤ 200000) :
    Calls Tryz.prog 15 #[.agg #[.bool (sg (dmn a)), .slice aA (nl (mg (dmn a))) ac, .int .i64 (dex a)], .agg #[.bool (sg (dmn b)), .slice bA (nl (mg (dmn b))) bc, .int .i64 (dex b)]] w (fun e w' => e = .returned (.int .i64 (rcmp a b)) ∧ Below w.heap.size w w') := by
  obtain ⟨hb1, Ra, Rb⟩ := bx2 w #[.bool (sg (dmn a)), .slice aA (nl (mg (dmn a))) ac, .int .i64 (dex a)] 26 #[.bool (sg (dmn b)), .slice bA (nl (mg (dmn b))) bc, .int .i64 (dex b)] 26
  replace ha := ha.below hb1
  replace hb := hb.below hb1
  have HBT := hb1
  clear hb1
  have qa0 := Ra.c (i := 0) rfl
  have qa1 := Ra.c (i := 1) rfl
  have qa2 := Ra.c (i := 2) rfl
  have qb0 := Rb.c (i := 0) rfl
  have qb1 := Rb.c (i := 1) rfl
  have qb2 := Rb.c (i := 2) rfl
  go_enter Tryz.func15, Tryz.ntmps15
  go_wp2_with (fail)
  have hd2 := drb (((w.alloc (.cells #[.bool (sg (dmn a)), .slice aA (nl (mg (dmn a))) ac, .int .i64 (dex a)] 26)).alloc (.cells #[.bool (sg (dmn b)), .slice bA (nl (mg (dmn b))) bc, .int .i64 (dex b)] 26)))
  replace ha := ha.below hd2
  replace hb := hb.below hd2
  replace Ra := Ra.below hd2
  replace qa0 := cbl hd2 qa0
  replace qa1 := cbl hd2 qa1
  replace qa2 := cbl hd2 qa2
  replace Rb := Rb.below hd2
  replace qb0 := cbl hd2 qb0
  replace qb1 := cbl hd2 qb1
  replace qb2 := cbl hd2 qb2
  replace HBT := Below.cons HBT hd2
  clear hd2
  obtain ⟨x, Ex⟩ : ∃ zq : Rat, zq = a := ⟨_, rfl⟩
  have Nx : nl (mg x.num) ≤ 200000 ∧ nl x.den ≤ 200000 := by rw [Ex]; exact ⟨la, ma⟩
  have C2_0 := fun (W : World) (h1 : NatV W aA ac (mg (dmn a))) => (show Calls Tryz.prog 30 #[.agg #[.bool (sg (dmn a)), .slice aA (nl (mg (dmn a))) ac, .int .i64 (dex a)]] W (RetR W x) by rw [Ex]; exact trat_c aA ac a W h1 oa)
  replace Ex := Lib.hid Ex
  replace C2_0 := Lib.hid C2_0
  obtain ⟨y, Ey⟩ : ∃ zq : Rat, zq = b := ⟨_, rfl⟩
  have Ny : nl (mg y.num) ≤ 200000 ∧ nl y.den ≤ 200000 := by rw [Ey]; exact ⟨lb, mb⟩
  have C2_1 := fun (W : World) (h1 : NatV W bA bc (mg (dmn b))) => (show Calls Tryz.prog 30 #[.agg #[.bool (sg (dmn b)), .slice bA (nl (mg (dmn b))) bc, .int .i64 (dex b)]] W (RetR W y) by rw [Ey]; exact trat_c bA bc b W h1 ob)
  replace Ey := Lib.hid Ey
  replace C2_1 := Lib.hid C2_1
  have C2_2 := fun (W : World) (A : Option Addr) (c : Nat) (B : Option Addr) (d : Nat) (A2 : Option Addr) (c2 : Nat) (B2 : Option Addr) (d2 : Nat) (h1 : NatV W A c (mg x.num)) (h2 : NatV W B d x.den) (h3 : NatV W A2 c2 (mg y.num)) (h4 : NatV W B2 d2 y.den) => r9cmp_c A c B d x A2 c2 B2 d2 y W h1 h2 h3 h4 (by omega) (by omega) (by omega) (by omega)
  replace C2_2 := Lib.hid C2_2
  go_region_held3 (fun W => W.cell? ⟨w.heap.size, 0, none⟩ = some (.bool (sg (dmn a))) ∧ W.cell? ⟨w.heap.size, 1, none⟩ = some (.slice aA (nl (mg (dmn a))) ac) ∧ W.cell? ⟨w.heap.size, 2, none⟩ = some (.int .i64 (dex a)) ∧ W.cell? ⟨(w.heap.size + 1), 0, none⟩ = some (.bool (sg (dmn b))) ∧ W.cell? ⟨(w.heap.size + 1), 1, none⟩ = some (.slice bA (nl (mg (dmn b))) bc) ∧ W.cell? ⟨(w.heap.size + 1), 2, none⟩ = some (.int .i64 (dex b)))
    (first
      | exact ⟨qa0, qa1, qa2, qb0, qb1, qb2⟩
      | exact ⟨qa0_3, qa1_3, qa2_3, qb0_3, qb1_3, qb2_3⟩
      | exact ⟨qa0_4, qa1_4, qa2_4, qb0_4, qb1_4, qb2_4⟩
      | exact ⟨qa0_5, qa1_5, qa2_5, qb0_5, qb1_5, qb2_5⟩
      | go_keep)
    (first
      | (go_at_call 30; (with_reducible refine (C2_0.out _ ha).mono ?_); rintro e W3 ⟨Xx, cx, Yx, dx, rfl, hx, gx, hb3⟩; have ha_3 := ha.below hb3; have hb_3 := hb.below hb3; have Ra_3 := Ra.below hb3; have qa0_3 := cbl hb3 qa0; have qa1_3 := cbl hb3 qa1; have qa2_3 := cbl hb3 qa2; have Rb_3 := Rb.below hb3; have qb0_3 := cbl hb3 qb0; have qb1_3 := cbl hb3 qb1; have qb2_3 := cbl hb3 qb2; have HBT_3 := Below.cons HBT hb3)
      | (go_at_call 30; (with_reducible refine (C2_1.out _ hb_3).mono ?_); rintro e W4 ⟨Xy, cy, Yy, dy, rfl, hy, gy, hb4⟩; have ha_4 := ha_3.below hb4; have hb_4 := hb_3.below hb4; have Ra_4 := Ra_3.below hb4; have qa0_4 := cbl hb4 qa0_3; have qa1_4 := cbl hb4 qa1_3; have qa2_4 := cbl hb4 qa2_3; have Rb_4 := Rb_3.below hb4; have qb0_4 := cbl hb4 qb0_3; have qb1_4 := cbl hb4 qb1_3; have qb2_4 := cbl hb4 qb2_3; have hx_4 := hx.below hb4; have gx_4 := gx.below hb4; have HBT_4 := Below.cons HBT_3 hb4)
      | (go_at_call 65; (with_reducible refine (C2_2.out _ _ _ _ _ _ _ _ _ hx_4 gx_4 hy gy).mono ?_); rintro e W5 ⟨rfl, hb5⟩; have ha_5 := ha_4.below hb5; have hb_5 := hb_4.below hb5; have Ra_5 := Ra_4.below hb5; have qa0_5 := cbl hb5 qa0_4; have qa1_5 := cbl hb5 qa1_4; have qa2_5 := cbl hb5 qa2_4; have Rb_5 := Rb_4.below hb5; have qb0_5 := cbl hb5 qb0_4; have qb1_5 := cbl hb5 qb1_4; have qb2_5 := cbl hb5 qb2_4; have hx_5 := hx_4.below hb5; have gx_5 := gx_4.below hb5; have hy_5 := hy.below hb5; have gy_5 := gy.below hb5; have HBT_5 := Below.cons HBT_4 hb5))
  all_goals (try go_wp2_with (fail))
  go_ret
  exact ⟨by rw [Ex.out, Ey.out]; rfl, HBT_5⟩
theorem tof_c (aA : Option Addr) (ac : Nat) (aB : Option Addr) (ad : Nat) (a : Rat) (w : World) (ha : NatV w aA ac (mg a.num)) (ga : NatV w aB ad a.den) (hx : dval a.num (1 - (bl a.den : Int)) = a) (la : nl (mg a.num) ≤ 1048576) (ma : nl a.den ≤ 1048576) (lb : bl a.den ≤ 1000000000) :
    Calls Tryz.prog 73 #[.agg #[.bool (sg a.num), .slice aA (nl (mg a.num)) ac, .slice aB (nl a.den) ad]] w (RetD w a) := by
  obtain ⟨x, Ex⟩ : ∃ z : Int, z = 1 - (bl a.den : Int) := ⟨_, rfl⟩
  rw [← Ex] at hx
  have xr : -1073741824 ≤ x ∧ x ≤ 1073741824 := by omega
  have Ix : 1 - (bl a.den : Int) = x := Ex.symm
  have Wx : IntKind.i64.wrap x = x := IntWalk.i64_in _ (by omega)
  replace hx := Lib.hid hx
  replace Ex := Lib.hid Ex
  obtain ⟨hb1, Ra, Rr⟩ := bx2 w #[.bool (sg a.num), .slice aA (nl (mg a.num)) ac, .slice aB (nl a.den) ad] 41 #[.bool false, .slice none 0 0, .int .i64 0] 26
  replace ha := ha.below hb1
  replace ga := ga.below hb1
  have HBT := hb1
  clear hb1
  have qa0 := Ra.c (i := 0) rfl
  have qa1 := Ra.c (i := 1) rfl
  have qa2 := Ra.c (i := 2) rfl
  have qr0 := Rr.c (i := 0) rfl
  have qr1 := Rr.c (i := 1) rfl
  have qr2 := Rr.c (i := 2) rfl
  go_enter Tryz.func73, Tryz.ntmps73
  go_wp2_with (fail)
  have hd2 := drb (((w.alloc (.cells #[.bool (sg a.num), .slice aA (nl (mg a.num)) ac, .slice aB (nl a.den) ad] 41)).alloc (.cells #[.bool false, .slice none 0 0, .int .i64 0] 26)))
  replace ha := ha.below hd2
  replace ga := ga.below hd2
  replace Ra := Ra.below hd2
  replace qa0 := cbl hd2 qa0
  replace qa1 := cbl hd2 qa1
  replace qa2 := cbl hd2 qa2
  replace Rr := Rr.below hd2
  replace qr0 := cbl hd2 qr0
  replace qr1 := cbl hd2 qr1
  replace qr2 := cbl hd2 qr2
  replace HBT := Below.cons HBT hd2
  clear hd2
  have C2_0 := fun (W : World) (h1 : NatV W aB ad a.den) => rbits_c aB ad a.den W h1 (by omega)
  replace C2_0 := Lib.hid C2_0
  obtain ⟨q, Eq⟩ : ∃ zq : Rat, zq = dval a.num x := ⟨_, rfl⟩
  have C2_1 := fun (W : World) (h1 : NatV W aA ac (mg a.num)) => tmake_c aA ac a.num x W h1 la xr
  simp only [← Eq] at C2_1
  replace Eq := Lib.hid Eq
  replace C2_1 := Lib.hid C2_1
  go_region_held3 (fun W => W.cell? ⟨w.heap.size, 0, none⟩ = some (.bool (sg a.num)) ∧ W.cell? ⟨w.heap.size, 1, none⟩ = some (.slice aA (nl (mg a.num)) ac) ∧ W.cell? ⟨w.heap.size, 2, none⟩ = some (.slice aB (nl a.den) ad))
    (first
      | exact ⟨qa0, qa1, qa2⟩
      | exact ⟨qa0_3, qa1_3, qa2_3⟩
      | exact ⟨qa0_4, qa1_4, qa2_4⟩
      | exact ⟨((Ra_4.other3 (by simp <;> omega)).c (i := 0) rfl), ((Ra_4.other3 (by simp <;> omega)).c (i := 1) rfl), ((Ra_4.other3 (by simp <;> omega)).c (i := 2) rfl)⟩
      | go_keep)
    (first
      | (go_at_call 106; (with_reducible refine (C2_0.out _ ga).mono ?_); rintro e W3 ⟨rfl, hb3⟩; have ha_3 := ha.below hb3; have ga_3 := ga.below hb3; have Ra_3 := Ra.below hb3; have qa0_3 := cbl hb3 qa0; have qa1_3 := cbl hb3 qa1; have qa2_3 := cbl hb3 qa2; have Rr_3 := Rr.below hb3; have qr0_3 := cbl hb3 qr0; have qr1_3 := cbl hb3 qr1; have qr2_3 := cbl hb3 qr2; have HBT_3 := Below.cons HBT hb3)
      | (go_at_call 13; (with_reducible refine (C2_1.out _ ha_3).mono ?_); rintro e W4 ⟨Xq, cq, rfl, hq, hb4⟩; have ha_4 := ha_3.below hb4; have ga_4 := ga_3.below hb4; have Ra_4 := Ra_3.below hb4; have qa0_4 := cbl hb4 qa0_3; have qa1_4 := cbl hb4 qa1_3; have qa2_4 := cbl hb4 qa2_3; have Rr_4 := Rr_3.below hb4; have qr0_4 := cbl hb4 qr0_3; have qr1_4 := cbl hb4 qr1_3; have qr2_4 := cbl hb4 qr2_3; have HBT_4 := Below.cons HBT_3 hb4; have fz0 := Rr_4.f (i := 0); have fz1 := Rr_4.f (i := 1); have fz2 := Rr_4.f (i := 2)))
  all_goals (try go_wp2_with (fail))
  have hzq : q = a := by rw [Eq.out]; exact hx.out
  subst hzq
  have RS := Rr_4.store3 (.bool (sg (dmn q))) (.slice Xq (nl (mg (dmn q))) cq) (.int .i64 (dex q))
  have e0 := RS.c (i := 0) rfl
  have e1 := RS.c (i := 1) rfl
  have e2 := RS.c (i := 2) rfl
  refine bodyPost_ret (v := .agg #[.bool (sg (dmn q)), .slice Xq (nl (mg (dmn q))) cq, .int .i64 (dex q)]) (by simp [results, Tryz.results73, go_sem, e0, e1, e2]) rfl ?_
  exact ⟨Xq, cq, rfl, (Rr_4.keep3 (nuB rfl) hq), (Below.store3 HBT_4 (by first | exact Nat.le_refl _ | omega))⟩
theorem tneg_c (aA : Option Addr) (ac : Nat) (a : Rat) (w : World) (ha : NatV w aA ac (mg (dmn a))) (da : Dyd a) (la : nl (mg (dmn a)) ≤ 1073741824) :
    Calls Tryz.prog 19 #[.agg #[.bool (sg (dmn a)), .slice aA (nl (mg (dmn a))) ac, .int .i64 (dex a)]] w (RetD w (-a)) := by
  have q1 : dmn (-a) = -dmn a := by first | exact (form_neg da).1 | exact (form_neg da).1.symm
  have q2 : dex (-a) = dex a := by first | exact (form_neg da).2 | exact (form_neg da).2.symm
  replace q1 := Lib.hid q1
  replace q2 := Lib.hid q2
  replace da := Lib.hid da
  obtain ⟨hb1, Ra, Rr⟩ := bx2 w #[.bool (sg (dmn a)), .slice aA (nl (mg (dmn a))) ac, .int .i64 (dex a)] 26 #[.bool false, .slice none 0 0, .int .i64 0] 26
  replace ha := ha.below hb1
  have HBT := hb1
  clear hb1
  have qa0 := Ra.c (i := 0) rfl
  have qa1 := Ra.c (i := 1) rfl
  have qa2 := Ra.c (i := 2) rfl
  have qr0 := Rr.c (i := 0) rfl
  have qr1 := Rr.c (i := 1) rfl
  have qr2 := Rr.c (i := 2) rfl
  go_enter Tryz.func19, Tryz.ntmps19
  go_wp2_with (fail)
  have hd2 := drb (((w.alloc (.cells #[.bool (sg (dmn a)), .slice aA (nl (mg (dmn a))) ac, .int .i64 (dex a)] 26)).alloc (.cells #[.bool false, .slice none 0 0, .int .i64 0] 26)))
  replace ha := ha.below hd2
  replace Ra := Ra.below hd2
  replace qa0 := cbl hd2 qa0
  replace qa1 := cbl hd2 qa1
  replace qa2 := cbl hd2 qa2
  replace Rr := Rr.below hd2
  replace qr0 := cbl hd2 qr0
  replace qr1 := cbl hd2 qr1
  replace qr2 := cbl hd2 qr2
  replace HBT := Below.cons HBT hd2
  clear hd2
  obtain ⟨z, Ez⟩ : ∃ zq : Int, zq = -dmn a := ⟨_, rfl⟩
  have C2_0 := fun (W : World) (h1 : NatV W aA ac (mg (dmn a))) => zneg_c aA ac (dmn a) W h1 la
  simp only [← Ez] at C2_0
  replace Ez := Lib.hid Ez
  replace C2_0 := Lib.hid C2_0
  go_region_held3 (fun W => W.cell? ⟨w.heap.size, 0, none⟩ = some (.bool (sg (dmn a))) ∧ W.cell? ⟨w.heap.size, 1, none⟩ = some (.slice aA (nl (mg (dmn a))) ac) ∧ W.cell? ⟨w.heap.size, 2, none⟩ = some (.int .i64 (dex a)))
    (first
      | exact ⟨qa0, qa1, qa2⟩
      | exact ⟨qa0_3, qa1_3, qa2_3⟩
      | exact ⟨((Ra_3.other3 (by simp <;> omega)).c (i := 0) rfl), ((Ra_3.other3 (by simp <;> omega)).c (i := 1) rfl), ((Ra_3.other3 (by simp <;> omega)).c (i := 2) rfl)⟩
      | go_keep)
    (first
      | (go_at_call 69; (with_reducible refine (C2_0.out _ ha).mono ?_); rintro e W3 ⟨Xz, cz, rfl, hz, hb3⟩; have ha_3 := ha.below hb3; have Ra_3 := Ra.below hb3; have qa0_3 := cbl hb3 qa0; have qa1_3 := cbl hb3 qa1; have qa2_3 := cbl hb3 qa2; have Rr_3 := Rr.below hb3; have qr0_3 := cbl hb3 qr0; have qr1_3 := cbl hb3 qr1; have qr2_3 := cbl hb3 qr2; have HBT_3 := Below.cons HBT hb3; have fz0 := Rr_3.f (i := 0); have fz1 := Rr_3.f (i := 1); have fz2 := Rr_3.f (i := 2)))
  all_goals (try go_wp2_with (fail))
  have ez : z = dmn (-a) := by rw [Ez.out, q1.out]
  have RS := Rr_3.store3 (.bool (sg z)) (.slice Xz (nl (mg z)) cz) (.int .i64 (dex a))
  have e0 := RS.c (i := 0) rfl
  have e1 := RS.c (i := 1) rfl
  have e2 := RS.c (i := 2) rfl
  refine bodyPost_ret (v := .agg #[.bool (sg z), .slice Xz (nl (mg z)) cz, .int .i64 (dex a)]) (by simp [results, Tryz.results19, go_sem, e0, e1, e2]) rfl ?_
  exact ⟨Xz, cz, (by rw [← ez, q2.out]), by rw [← ez]; exact (Rr_3.keep3 (nuB rfl) hz), (Below.store3 HBT_3 (by first | exact Nat.le_refl _ | omega))⟩
theorem of_dyd {q : Rat} (h : Dyd q) : dval q.num (1 - (bl q.den : Int)) = q := by
  have h1 := dyd_den h
  generalize v2 q.den = v at h1
  have h2 : bl q.den = v + 1 := by
    rw [h1]
    exact bl_uniq (by rw [Nat.pow_succ]; have := Nat.two_pow_pos v; omega) (by rw [Nat.pow_succ]; omega)
  rw [h2, show (1 - ((v + 1 : Nat) : Int)) = -(v : Int) by omega, dval_den, ← h1, Rat.mkRat_self]
theorem add_sz (a b : Rat) (la : nl (mg a.num) ≤ 200000) (ma : nl a.den ≤ 200000) (lb : nl (mg b.num) ≤ 200000) (mb : nl b.den ≤ 200000) : nl (mg (a + b).num) ≤ 524289 ∧ nl (a + b).den ≤ 400000 := by
  have h0 : a.den * b.den ≠ 0 := Nat.mul_ne_zero a.den_nz b.den_nz
  rw [Rat.add_def', Rat.num_mkRat, Rat.den_mkRat, if_neg h0, if_neg h0]
  constructor
  · refine Nat.le_trans (nl_mono (Int.natAbs_ediv_le_natAbs _ _)) ?_
    refine add_nl ?_ ?_
    · rw [mg_mul, mg_nat]; have := nl_mul (mg a.num) b.den; omega
    · rw [mg_mul, mg_nat]; have := nl_mul (mg b.num) a.den; omega
  · refine Nat.le_trans (nl_div _ _) ?_
    have := nl_mul a.den b.den; omega
theorem dyd_add {a b : Rat} (oa : DOk a) (ob : DOk b) : Dyd (a + b) := by
  obtain ⟨z, E, hs, _⟩ := sum_bd oa ob
  rw [hs]; exact dyd_val z E
theorem tadd_c (aA : Option Addr) (ac : Nat) (a : Rat) (bA : Option Addr) (bc : Nat) (b : Rat) (w : World) (ha : NatV w aA ac (mg (dmn a))) (hb : NatV w bA bc (mg (dmn b))) (oa : DOk a) (ob : DOk b) (la : nl (mg a.num) ≤ 200000) (ma : nl a.den ≤ 200000) (lb : nl (mg b.num) ≤ 200000) (mb : nl b.den ≤ 200000) :
    Calls Tryz.prog 21 #[.agg #[.bool (sg (dmn a)), .slice aA (nl (mg (dmn a))) ac, .int .i64 (dex a)], .agg #[.bool (sg (dmn b)), .slice bA (nl (mg (dmn b))) bc, .int .i64 (dex b)]] w (RetD w (a + b)) := by
  have sz := add_sz a b la ma lb mb
  have hd := of_dyd (dyd_add oa ob)
  have hbl := bl_le (a + b).den
  obtain ⟨m, Em⟩ : ∃ z : Rat, z = a + b := ⟨_, rfl⟩
  rw [← Em] at sz hd hbl ⊢
  replace hd := Lib.hid hd
  replace oa := Lib.hid oa
  replace ob := Lib.hid ob
  replace Em := Lib.hid Em
  obtain ⟨hb1, Ra, Rb, Rr⟩ := bx3 w #[.bool (sg (dmn a)), .slice aA (nl (mg (dmn a))) ac, .int .i64 (dex a)] 26 #[.bool (sg (dmn b)), .slice bA (nl (mg (dmn b))) bc, .int .i64 (dex b)] 26 #[.bool false, .slice none 0 0, .int .i64 0] 26
  replace ha := ha.below hb1
  replace hb := hb.below hb1
  have HBT := hb1
  clear hb1
  have qa0 := Ra.c (i := 0) rfl
  have qa1 := Ra.c (i := 1) rfl
  have qa2 := Ra.c (i := 2) rfl
  have qb0 := Rb.c (i := 0) rfl
  have qb1 := Rb.c (i := 1) rfl
  have qb2 := Rb.c (i := 2) rfl
  have qr0 := Rr.c (i := 0) rfl
  have qr1 := Rr.c (i := 1) rfl
  have qr2 := Rr.c (i := 2) rfl
  go_enter Tryz.func21, Tryz.ntmps21
  go_wp2_with (fail)
  have hd2 := drb ((((w.alloc (.cells #[.bool (sg (dmn a)), .slice aA (nl (mg (dmn a))) ac, .int .i64 (dex a)] 26)).alloc (.cells #[.bool (sg (dmn b)), .slice bA (nl (mg (dmn b))) bc, .int .i64 (dex b)] 26)).alloc (.cells #[.bool false, .slice none 0 0, .int .i64 0] 26)))
  replace ha := ha.below hd2
  replace hb := hb.below hd2
  replace Ra := Ra.below hd2
  replace qa0 := cbl hd2 qa0
  replace qa1 := cbl hd2 qa1
  replace qa2 := cbl hd2 qa2
  replace Rb := Rb.below hd2
  replace qb0 := cbl hd2 qb0
  replace qb1 := cbl hd2 qb1
  replace qb2 := cbl hd2 qb2
  replace Rr := Rr.below hd2
  replace qr0 := cbl hd2 qr0
  replace qr1 := cbl hd2 qr1
  replace qr2 := cbl hd2 qr2
  replace HBT := Below.cons HBT hd2
  clear hd2
  obtain ⟨x, Ex⟩ : ∃ zq : Rat, zq = a := ⟨_, rfl⟩
  have Nx : nl (mg x.num) ≤ 200000 ∧ nl x.den ≤ 200000 := by rw [Ex]; exact ⟨la, ma⟩
  have C2_0 := fun (W : World) (h1 : NatV W aA ac (mg (dmn a))) => (show Calls Tryz.prog 30 #[.agg #[.bool (sg (dmn a)), .slice aA (nl (mg (dmn a))) ac, .int .i64 (dex a)]] W (RetR W x) by rw [Ex]; exact trat_c aA ac a W h1 oa.out)
  replace Ex := Lib.hid Ex
  replace C2_0 := Lib.hid C2_0
  obtain ⟨y, Ey⟩ : ∃ zq : Rat, zq = b := ⟨_, rfl⟩
  have Ny : nl (mg y.num) ≤ 200000 ∧ nl y.den ≤ 200000 := by rw [Ey]; exact ⟨lb, mb⟩
  have C2_1 := fun (W : World) (h1 : NatV W bA bc (mg (dmn b))) => (show Calls Tryz.prog 30 #[.agg #[.bool (sg (dmn b)), .slice bA (nl (mg (dmn b))) bc, .int .i64 (dex b)]] W (RetR W y) by rw [Ey]; exact trat_c bA bc b W h1 ob.out)
  replace Ey := Lib.hid Ey
  replace C2_1 := Lib.hid C2_1
  obtain ⟨u, Eu⟩ : ∃ zq : Rat, zq = m := ⟨_, rfl⟩
  have Nu : nl (mg u.num) ≤ 1048576 ∧ nl u.den ≤ 1048576 ∧ bl u.den ≤ 1000000000 := by rw [Eu]; omega
  have hu2 : Hid (dval u.num (1 - (bl u.den : Int)) = u) := by rw [Eu]; exact hd
  have C2_2 := fun (W : World) (A : Option Addr) (c : Nat) (B : Option Addr) (d : Nat) (A2 : Option Addr) (c2 : Nat) (B2 : Option Addr) (d2 : Nat) (h1 : NatV W A c (mg x.num)) (h2 : NatV W B d x.den) (h3 : NatV W A2 c2 (mg y.num)) (h4 : NatV W B2 d2 y.den) => (show Calls Tryz.prog 74 #[.agg #[.bool (sg x.num), .slice A (nl (mg x.num)) c, .slice B (nl x.den) d], .agg #[.bool (sg y.num), .slice A2 (nl (mg y.num)) c2, .slice B2 (nl y.den) d2]] W (RetR W u) by rw [Eu, Em.out, ← Ex.out, ← Ey.out]; exact r9add_c A c B d x A2 c2 B2 d2 y W h1 h2 h3 h4 (by omega) (by omega) (by omega) (by omega))
  replace Eu := Lib.hid Eu
  replace C2_2 := Lib.hid C2_2
  obtain ⟨q, Eq⟩ : ∃ zq : Rat, zq = u := ⟨_, rfl⟩
  have C2_3 := fun (W : World) (A : Option Addr) (c : Nat) (B : Option Addr) (d : Nat) (h1 : NatV W A c (mg u.num)) (h2 : NatV W B d u.den) => (show Calls Tryz.prog 73 #[.agg #[.bool (sg u.num), .slice A (nl (mg u.num)) c, .slice B (nl u.den) d]] W (RetD W q) by rw [Eq]; exact tof_c A c B d u W h1 h2 hu2.out Nu.1 Nu.2.1 Nu.2.2)
  replace Eq := Lib.hid Eq
  replace C2_3 := Lib.hid C2_3
  go_region_held3 (fun W => W.cell? ⟨w.heap.size, 0, none⟩ = some (.bool (sg (dmn a))) ∧ W.cell? ⟨w.heap.size, 1, none⟩ = some (.slice aA (nl (mg (dmn a))) ac) ∧ W.cell? ⟨w.heap.size, 2, none⟩ = some (.int .i64 (dex a)) ∧ W.cell? ⟨(w.heap.size + 1), 0, none⟩ = some (.bool (sg (dmn b))) ∧ W.cell? ⟨(w.heap.size + 1), 1, none⟩ = some (.slice bA (nl (mg (dmn b))) bc) ∧ W.cell? ⟨(w.heap.size + 1), 2, none⟩ = some (.int .i64 (dex b)))
    (first
      | exact ⟨qa0, qa1, qa2, qb0, qb1, qb2⟩
      | exact ⟨qa0_3, qa1_3, qa2_3, qb0_3, qb1_3, qb2_3⟩
      | exact ⟨qa0_4, qa1_4, qa2_4, qb0_4, qb1_4, qb2_4⟩
      | exact ⟨qa0_5, qa1_5, qa2_5, qb0_5, qb1_5, qb2_5⟩
      | exact ⟨qa0_6, qa1_6, qa2_6, qb0_6, qb1_6, qb2_6⟩
      | exact ⟨((Ra_6.other3 (by simp <;> omega)).c (i := 0) rfl), ((Ra_6.other3 (by simp <;> omega)).c (i := 1) rfl), ((Ra_6.other3 (by simp <;> omega)).c (i := 2) rfl), ((Rb_6.other3 (by simp <;> omega)).c (i := 0) rfl), ((Rb_6.other3 (by simp <;> omega)).c (i := 1) rfl), ((Rb_6.other3 (by simp <;> omega)).c (i := 2) rfl)⟩
      | go_keep)
    (first
      | (go_at_call 30; (with_reducible refine (C2_0.out _ ha).mono ?_); rintro e W3 ⟨Xx, cx, Yx, dx, rfl, hx, gx, hb3⟩; have ha_3 := ha.below hb3; have hb_3 := hb.below hb3; have Ra_3 := Ra.below hb3; have qa0_3 := cbl hb3 qa0; have qa1_3 := cbl hb3 qa1; have qa2_3 := cbl hb3 qa2; have Rb_3 := Rb.below hb3; have qb0_3 := cbl hb3 qb0; have qb1_3 := cbl hb3 qb1; have qb2_3 := cbl hb3 qb2; have Rr_3 := Rr.below hb3; have qr0_3 := cbl hb3 qr0; have qr1_3 := cbl hb3 qr1; have qr2_3 := cbl hb3 qr2; have HBT_3 := Below.cons HBT hb3)
      | (go_at_call 30; (with_reducible refine (C2_1.out _ hb_3).mono ?_); rintro e W4 ⟨Xy, cy, Yy, dy, rfl, hy, gy, hb4⟩; have ha_4 := ha_3.below hb4; have hb_4 := hb_3.below hb4; have Ra_4 := Ra_3.below hb4; have qa0_4 := cbl hb4 qa0_3; have qa1_4 := cbl hb4 qa1_3; have qa2_4 := cbl hb4 qa2_3; have Rb_4 := Rb_3.below hb4; have qb0_4 := cbl hb4 qb0_3; have qb1_4 := cbl hb4 qb1_3; have qb2_4 := cbl hb4 qb2_3; have Rr_4 := Rr_3.below hb4; have qr0_4 := cbl hb4 qr0_3; have qr1_4 := cbl hb4 qr1_3; have qr2_4 := cbl hb4 qr2_3; have hx_4 := hx.below hb4; have gx_4 := gx.below hb4; have HBT_4 := Below.cons HBT_3 hb4)
      | (go_at_call 74; (with_reducible refine (C2_2.out _ _ _ _ _ _ _ _ _ hx_4 gx_4 hy gy).mono ?_); rintro e W5 ⟨Xu, cu, Yu, du, rfl, hu, gu, hb5⟩; have ha_5 := ha_4.below hb5; have hb_5 := hb_4.below hb5; have Ra_5 := Ra_4.below hb5; have qa0_5 := cbl hb5 qa0_4; have qa1_5 := cbl hb5 qa1_4; have qa2_5 := cbl hb5 qa2_4; have Rb_5 := Rb_4.below hb5; have qb0_5 := cbl hb5 qb0_4; have qb1_5 := cbl hb5 qb1_4; have qb2_5 := cbl hb5 qb2_4; have Rr_5 := Rr_4.below hb5; have qr0_5 := cbl hb5 qr0_4; have qr1_5 := cbl hb5 qr1_4; have qr2_5 := cbl hb5 qr2_4; have hx_5 := hx_4.below hb5; have gx_5 := gx_4.below hb5; have hy_5 := hy.below hb5; have gy_5 := gy.below hb5; have HBT_5 := Below.cons HBT_4 hb5)
      | (go_at_call 73; (with_reducible refine (C2_3.out _ _ _ _ _ hu gu).mono ?_); rintro e W6 ⟨Xq, cq, rfl, hq, hb6⟩; have ha_6 := ha_5.below hb6; have hb_6 := hb_5.below hb6; have Ra_6 := Ra_5.below hb6; have qa0_6 := cbl hb6 qa0_5; have qa1_6 := cbl hb6 qa1_5; have qa2_6 := cbl hb6 qa2_5; have Rb_6 := Rb_5.below hb6; have qb0_6 := cbl hb6 qb0_5; have qb1_6 := cbl hb6 qb1_5; have qb2_6 := cbl hb6 qb2_5; have Rr_6 := Rr_5.below hb6; have qr0_6 := cbl hb6 qr0_5; have qr1_6 := cbl hb6 qr1_5; have qr2_6 := cbl hb6 qr2_5; have hx_6 := hx_5.below hb6; have gx_6 := gx_5.below hb6; have hy_6 := hy_5.below hb6; have gy_6 := gy_5.below hb6; have hu_6 := hu.below hb6; have gu_6 := gu.below hb6; have HBT_6 := Below.cons HBT_5 hb6; have fz0 := Rr_6.f (i := 0); have fz1 := Rr_6.f (i := 1); have fz2 := Rr_6.f (i := 2)))
  all_goals (try go_wp2_with (fail))
  have hzq : q = m := by rw [Eq.out, Eu.out]
  have RS := Rr_6.store3 (.bool (sg (dmn q))) (.slice Xq (nl (mg (dmn q))) cq) (.int .i64 (dex q))
  have e0 := RS.c (i := 0) rfl
  have e1 := RS.c (i := 1) rfl
  have e2 := RS.c (i := 2) rfl
  refine bodyPost_ret (v := .agg #[.bool (sg (dmn q)), .slice Xq (nl (mg (dmn q))) cq, .int .i64 (dex q)]) (by simp [results, Tryz.results21, go_sem, e0, e1, e2]) rfl ?_
  rw [← hzq]
  exact ⟨Xq, cq, rfl, (Rr_6.keep3 (nuB rfl) hq), (Below.store3 HBT_6 (by first | exact Nat.le_refl _ | omega))⟩
theorem tsub_c (aA : Option Addr) (ac : Nat) (a : Rat) (bA : Option Addr) (bc : Nat) (b : Rat) (w : World) (ha : NatV w aA ac (mg (dmn a))) (hb : NatV w bA bc (mg (dmn b))) (oa : DOk a) (ob : DOk b) (la : nl (mg a.num) ≤ 200000) (ma : nl a.den ≤ 200000) (lb : nl (mg b.num) ≤ 200000) (mb : nl b.den ≤ 200000) :
    Calls Tryz.prog 23 #[.agg #[.bool (sg (dmn a)), .slice aA (nl (mg (dmn a))) ac, .int .i64 (dex a)], .agg #[.bool (sg (dmn b)), .slice bA (nl (mg (dmn b))) bc, .int .i64 (dex b)]] w (RetD w (a - b)) := by
  have sz := add_sz a (-b) la ma (by rw [Rat.neg_num, mg_neg]; exact lb) (by rw [Rat.neg_den]; exact mb)
  rw [← Rat.sub_eq_add_neg] at sz
  have hd := of_dyd (dyd_add oa (dok_neg ob))
  rw [← Rat.sub_eq_add_neg] at hd
  have hbl := bl_le (a - b).den
  obtain ⟨m, Em⟩ : ∃ z : Rat, z = a - b := ⟨_, rfl⟩
  rw [← Em] at sz hd hbl ⊢
  replace hd := Lib.hid hd
  replace oa := Lib.hid oa
  replace ob := Lib.hid ob
  replace Em := Lib.hid Em
  obtain ⟨hb1, Ra, Rb, Rr⟩ := bx3 w #[.bool (sg (dmn a)), .slice aA (nl (mg (dmn a))) ac, .int .i64 (dex a)] 26 #[.bool (sg (dmn b)), .slice bA (nl (mg (dmn b))) bc, .int .i64 (dex b)] 26 #[.bool false, .slice none 0 0, .int .i64 0] 26
  replace ha := ha.below hb1
  replace hb := hb.below hb1
  have HBT := hb1
  clear hb1
  have qa0 := Ra.c (i := 0) rfl
  have qa1 := Ra.c (i := 1) rfl
  have qa2 := Ra.c (i := 2) rfl
  have qb0 := Rb.c (i := 0) rfl
  have qb1 := Rb.c (i := 1) rfl
  have qb2 := Rb.c (i := 2) rfl
  have qr0 := Rr.c (i := 0) rfl
  have qr1 := Rr.c (i := 1) rfl
  have qr2 := Rr.c (i := 2) rfl
  go_enter Tryz.func23, Tryz.ntmps23
  go_wp2_with (fail)
  have hd2 := drb ((((w.alloc (.cells #[.bool (sg (dmn a)), .slice aA (nl (mg (dmn a))) ac, .int .i64 (dex a)] 26)).alloc (.cells #[.bool (sg (dmn b)), .slice bA (nl (mg (dmn b))) bc, .int .i64 (dex b)] 26)).alloc (.cells #[.bool false, .slice none 0 0, .int .i64 0] 26)))
  replace ha := ha.below hd2
  replace hb := hb.below hd2
  replace Ra := Ra.below hd2
  replace qa0 := cbl hd2 qa0
  replace qa1 := cbl hd2 qa1
  replace qa2 := cbl hd2 qa2
  replace Rb := Rb.below hd2
  replace qb0 := cbl hd2 qb0
  replace qb1 := cbl hd2 qb1
  replace qb2 := cbl hd2 qb2
  replace Rr := Rr.below hd2
  replace qr0 := cbl hd2 qr0
  replace qr1 := cbl hd2 qr1
  replace qr2 := cbl hd2 qr2
  replace HBT := Below.cons HBT hd2
  clear hd2
  obtain ⟨x, Ex⟩ : ∃ zq : Rat, zq = a := ⟨_, rfl⟩
  have Nx : nl (mg x.num) ≤ 200000 ∧ nl x.den ≤ 200000 := by rw [Ex]; exact ⟨la, ma⟩
  have C2_0 := fun (W : World) (h1 : NatV W aA ac (mg (dmn a))) => (show Calls Tryz.prog 30 #[.agg #[.bool (sg (dmn a)), .slice aA (nl (mg (dmn a))) ac, .int .i64 (dex a)]] W (RetR W x) by rw [Ex]; exact trat_c aA ac a W h1 oa.out)
  replace Ex := Lib.hid Ex
  replace C2_0 := Lib.hid C2_0
  obtain ⟨y, Ey⟩ : ∃ zq : Rat, zq = b := ⟨_, rfl⟩
  have Ny : nl (mg y.num) ≤ 200000 ∧ nl y.den ≤ 200000 := by rw [Ey]; exact ⟨lb, mb⟩
  have C2_1 := fun (W : World) (h1 : NatV W bA bc (mg (dmn b))) => (show Calls Tryz.prog 30 #[.agg #[.bool (sg (dmn b)), .slice bA (nl (mg (dmn b))) bc, .int .i64 (dex b)]] W (RetR W y) by rw [Ey]; exact trat_c bA bc b W h1 ob.out)
  replace Ey := Lib.hid Ey
  replace C2_1 := Lib.hid C2_1
  obtain ⟨u, Eu⟩ : ∃ zq : Rat, zq = m := ⟨_, rfl⟩
  have Nu : nl (mg u.num) ≤ 1048576 ∧ nl u.den ≤ 1048576 ∧ bl u.den ≤ 1000000000 := by rw [Eu]; omega
  have hu2 : Hid (dval u.num (1 - (bl u.den : Int)) = u) := by rw [Eu]; exact hd
  have C2_2 := fun (W : World) (A : Option Addr) (c : Nat) (B : Option Addr) (d : Nat) (A2 : Option Addr) (c2 : Nat) (B2 : Option Addr) (d2 : Nat) (h1 : NatV W A c (mg x.num)) (h2 : NatV W B d x.den) (h3 : NatV W A2 c2 (mg y.num)) (h4 : NatV W B2 d2 y.den) => (show Calls Tryz.prog 75 #[.agg #[.bool (sg x.num), .slice A (nl (mg x.num)) c, .slice B (nl x.den) d], .agg #[.bool (sg y.num), .slice A2 (nl (mg y.num)) c2, .slice B2 (nl y.den) d2]] W (RetR W u) by rw [Eu, Em.out, ← Ex.out, ← Ey.out]; exact r9sub_c A c B d x A2 c2 B2 d2 y W h1 h2 h3 h4 (by omega) (by omega) (by omega) (by omega))
  replace Eu := Lib.hid Eu
  replace C2_2 := Lib.hid C2_2
  obtain ⟨q, Eq⟩ : ∃ zq : Rat, zq = u := ⟨_, rfl⟩
  have C2_3 := fun (W : World) (A : Option Addr) (c : Nat) (B : Option Addr) (d : Nat) (h1 : NatV W A c (mg u.num)) (h2 : NatV W B d u.den) => (show Calls Tryz.prog 73 #[.agg #[.bool (sg u.num), .slice A (nl (mg u.num)) c, .slice B (nl u.den) d]] W (RetD W q) by rw [Eq]; exact tof_c A c B d u W h1 h2 hu2.out Nu.1 Nu.2.1 Nu.2.2)
  replace Eq := Lib.hid Eq
  replace C2_3 := Lib.hid C2_3
  go_region_held3 (fun W => W.cell? ⟨w.heap.size, 0, none⟩ = some (.bool (sg (dmn a))) ∧ W.cell? ⟨w.heap.size, 1, none⟩ = some (.slice aA (nl (mg (dmn a))) ac) ∧ W.cell? ⟨w.heap.size, 2, none⟩ = some (.int .i64 (dex a)) ∧ W.cell? ⟨(w.heap.size + 1), 0, none⟩ = some (.bool (sg (dmn b))) ∧ W.cell? ⟨(w.heap.size + 1), 1, none⟩ = some (.slice bA (nl (mg (dmn b))) bc) ∧ W.cell? ⟨(w.heap.size + 1), 2, none⟩ = some (.int .i64 (dex b)))
    (first
      | exact ⟨qa0, qa1, qa2, qb0, qb1, qb2⟩
      | exact ⟨qa0_3, qa1_3, qa2_3, qb0_3, qb1_3, qb2_3⟩
      | exact ⟨qa0_4, qa1_4, qa2_4, qb0_4, qb1_4, qb2_4⟩
      | exact ⟨qa0_5, qa1_5, qa2_5, qb0_5, qb1_5, qb2_5⟩
      | exact ⟨qa0_6, qa1_6, qa2_6, qb0_6, qb1_6, qb2_6⟩
      | exact ⟨((Ra_6.other3 (by simp <;> omega)).c (i := 0) rfl), ((Ra_6.other3 (by simp <;> omega)).c (i := 1) rfl), ((Ra_6.other3 (by simp <;> omega)).c (i := 2) rfl), ((Rb_6.other3 (by simp <;> omega)).c (i := 0) rfl), ((Rb_6.other3 (by simp <;> omega)).c (i := 1) rfl), ((Rb_6.other3 (by simp <;> omega)).c (i := 2) rfl)⟩
      | go_keep)
    (first
      | (go_at_call 30; (with_reducible refine (C2_0.out _ ha).mono ?_); rintro e W3 ⟨Xx, cx, Yx, dx, rfl, hx, gx, hb3⟩; have ha_3 := ha.below hb3; have hb_3 := hb.below hb3; have Ra_3 := Ra.below hb3; have qa0_3 := cbl hb3 qa0; have qa1_3 := cbl hb3 qa1; have qa2_3 := cbl hb3 qa2; have Rb_3 := Rb.below hb3; have qb0_3 := cbl hb3 qb0; have qb1_3 := cbl hb3 qb1; have qb2_3 := cbl hb3 qb2; have Rr_3 := Rr.below hb3; have qr0_3 := cbl hb3 qr0; have qr1_3 := cbl hb3 qr1; have qr2_3 := cbl hb3 qr2; have HBT_3 := Below.cons HBT hb3)
      | (go_at_call 30; (with_reducible refine (C2_1.out _ hb_3).mono ?_); rintro e W4 ⟨Xy, cy, Yy, dy, rfl, hy, gy, hb4⟩; have ha_4 := ha_3.below hb4; have hb_4 := hb_3.below hb4; have Ra_4 := Ra_3.below hb4; have qa0_4 := cbl hb4 qa0_3; have qa1_4 := cbl hb4 qa1_3; have qa2_4 := cbl hb4 qa2_3; have Rb_4 := Rb_3.below hb4; have qb0_4 := cbl hb4 qb0_3; have qb1_4 := cbl hb4 qb1_3; have qb2_4 := cbl hb4 qb2_3; have Rr_4 := Rr_3.below hb4; have qr0_4 := cbl hb4 qr0_3; have qr1_4 := cbl hb4 qr1_3; have qr2_4 := cbl hb4 qr2_3; have hx_4 := hx.below hb4; have gx_4 := gx.below hb4; have HBT_4 := Below.cons HBT_3 hb4)
      | (go_at_call 75; (with_reducible refine (C2_2.out _ _ _ _ _ _ _ _ _ hx_4 gx_4 hy gy).mono ?_); rintro e W5 ⟨Xu, cu, Yu, du, rfl, hu, gu, hb5⟩; have ha_5 := ha_4.below hb5; have hb_5 := hb_4.below hb5; have Ra_5 := Ra_4.below hb5; have qa0_5 := cbl hb5 qa0_4; have qa1_5 := cbl hb5 qa1_4; have qa2_5 := cbl hb5 qa2_4; have Rb_5 := Rb_4.below hb5; have qb0_5 := cbl hb5 qb0_4; have qb1_5 := cbl hb5 qb1_4; have qb2_5 := cbl hb5 qb2_4; have Rr_5 := Rr_4.below hb5; have qr0_5 := cbl hb5 qr0_4; have qr1_5 := cbl hb5 qr1_4; have qr2_5 := cbl hb5 qr2_4; have hx_5 := hx_4.below hb5; have gx_5 := gx_4.below hb5; have hy_5 := hy.below hb5; have gy_5 := gy.below hb5; have HBT_5 := Below.cons HBT_4 hb5)
      | (go_at_call 73; (with_reducible refine (C2_3.out _ _ _ _ _ hu gu).mono ?_); rintro e W6 ⟨Xq, cq, rfl, hq, hb6⟩; have ha_6 := ha_5.below hb6; have hb_6 := hb_5.below hb6; have Ra_6 := Ra_5.below hb6; have qa0_6 := cbl hb6 qa0_5; have qa1_6 := cbl hb6 qa1_5; have qa2_6 := cbl hb6 qa2_5; have Rb_6 := Rb_5.below hb6; have qb0_6 := cbl hb6 qb0_5; have qb1_6 := cbl hb6 qb1_5; have qb2_6 := cbl hb6 qb2_5; have Rr_6 := Rr_5.below hb6; have qr0_6 := cbl hb6 qr0_5; have qr1_6 := cbl hb6 qr1_5; have qr2_6 := cbl hb6 qr2_5; have hx_6 := hx_5.below hb6; have gx_6 := gx_5.below hb6; have hy_6 := hy_5.below hb6; have gy_6 := gy_5.below hb6; have hu_6 := hu.below hb6; have gu_6 := gu.below hb6; have HBT_6 := Below.cons HBT_5 hb6; have fz0 := Rr_6.f (i := 0); have fz1 := Rr_6.f (i := 1); have fz2 := Rr_6.f (i := 2)))
  all_goals (try go_wp2_with (fail))
  have hzq : q = m := by rw [Eq.out, Eu.out]
  have RS := Rr_6.store3 (.bool (sg (dmn q))) (.slice Xq (nl (mg (dmn q))) cq) (.int .i64 (dex q))
  have e0 := RS.c (i := 0) rfl
  have e1 := RS.c (i := 1) rfl
  have e2 := RS.c (i := 2) rfl
  refine bodyPost_ret (v := .agg #[.bool (sg (dmn q)), .slice Xq (nl (mg (dmn q))) cq, .int .i64 (dex q)]) (by simp [results, Tryz.results23, go_sem, e0, e1, e2]) rfl ?_
  rw [← hzq]
  exact ⟨Xq, cq, rfl, (Rr_6.keep3 (nuB rfl) hq), (Below.store3 HBT_6 (by first | exact Nat.le_refl _ | omega))⟩
end Go.Proofs.YthcmoimlnhghcaaGreatDoor
