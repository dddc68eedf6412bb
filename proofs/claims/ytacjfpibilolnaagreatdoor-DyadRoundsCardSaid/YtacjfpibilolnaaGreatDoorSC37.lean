/- Dyadic numbers, walked: Rat; directions. -/
import Derived.Test.YtacjfpibilolnaaGreatDoorSC30
import Derived.Test.YtacjfpibilolnaaGreatDoorSC31
set_option maxRecDepth 100000
set_option maxHeartbeats 4000000
set_option linter.unusedVariables false
set_option linter.unusedSimpArgs false
namespace Go.Proofs.YtacjfpibilolnaaGreatDoor
open Go.RowKit Go.Shelf
attribute [local go_sem] max2_i min2_i max_two min_two

theorem iof1_c (w : World) : Calls Tryz.prog 68 #[.int .i64 1] w (RetI w 1) := iof_c 1 w (by decide)
theorem shf_one (k : Nat) : shf 1 (k : Int) = ((2 ^ k : Nat) : Int) := by
  unfold shf; rw [if_pos (Int.natCast_nonneg k), Int.toNat_natCast, Int.one_mul, Int.natCast_pow]; rfl
theorem rat_up {a : Rat} (h : Dyd a) (h0 : 0 ≤ dex a) : ((shf (dmn a) (dex a) : Int) : Rat) = a := by
  have h1 := lev h (E := 0) h0
  rw [Int.sub_zero] at h1
  unfold dval at h1
  rw [Rat.zpow_zero, Rat.mul_one] at h1
  exact h1
theorem rat_down {a : Rat} {k : Nat} (h : Dyd a) (hk : dex a = -(k : Int)) : Rat.divInt (dmn a) ((2 ^ k : Nat) : Int) = a := by
  have h1 := dval_q h
  rw [hk, dval_den] at h1
  rw [Rat.divInt_ofNat]; exact h1
theorem drat_up (aA : Option Addr) (ac : Nat) (a : Rat) (w : World) (ha : NatV w aA ac (mg (dmn a))) (oa : DOk a) (h0 : 0 ≤ dex a) :
    Calls Tryz.prog 55 #[.agg #[.bool (sg (dmn a)), .slice aA (nl (mg (dmn a))) ac, .int .i64 (dex a)]] w (RetR w a) := by
  have hl := oa.l
  have he := oa.e
  have hv := rat_up oa.d h0
  have t1 : decide (0 ≤ dex a) = true := by simp; exact h0
  have hr : -16777216 ≤ dex a ∧ dex a ≤ 16777216 := by omega
  replace hv := Lib.hid hv
  replace oa := Lib.hid oa
  replace h0 := Lib.hid h0
  replace he := Lib.hid he
  obtain ⟨hb1, Ra, Rr⟩ := bx2 w #[.bool (sg (dmn a)), .slice aA (nl (mg (dmn a))) ac, .int .i64 (dex a)] 28 #[.bool false, .slice none 0 0, .slice none 0 0] 26
  replace ha := ha.below hb1
  have HBT := hb1
  clear hb1
  have qa0 := Ra.c (i := 0) rfl
  have qa1 := Ra.c (i := 1) rfl
  have qa2 := Ra.c (i := 2) rfl
  have qr0 := Rr.c (i := 0) rfl
  have qr1 := Rr.c (i := 1) rfl
  have qr2 := Rr.c (i := 2) rfl
  go_enter Tryz.func55, Tryz.ntmps55
  go_wp2_with (fail)
  obtain ⟨z, Ez⟩ : ∃ zq : Int, zq = shf (dmn a) (dex a) := ⟨_, rfl⟩
  refine (Calls.mono (R := RetI ((w.alloc (.cells #[.bool (sg (dmn a)), .slice aA (nl (mg (dmn a))) ac, .int .i64 (dex a)] 28)).alloc (.cells #[.bool false, .slice none 0 0, .slice none 0 0] 26)) z) (by rw [Ez]; with_reducible exact (ishift_c aA ac (dmn a) (dex a) _ ha (by omega) hr)) ?_)
  replace Ez := Lib.hid Ez
  rintro e W2 ⟨Xz, cz, rfl, hz, hb2⟩
  replace ha := ha.below hb2
  replace Ra := Ra.below hb2
  replace qa0 := cbl hb2 qa0
  replace qa1 := cbl hb2 qa1
  replace qa2 := cbl hb2 qa2
  replace Rr := Rr.below hb2
  replace qr0 := cbl hb2 qr0
  replace qr1 := cbl hb2 qr1
  replace qr2 := cbl hb2 qr2
  replace HBT := Below.cons HBT hb2
  clear hb2
  go_wp2_with (fail)
  obtain ⟨q, Eq⟩ : ∃ zq : Rat, zq = (z : Rat) := ⟨_, rfl⟩
  refine (Calls.mono (R := RetR W2 q) (by rw [Eq]; with_reducible exact (rwhole_c Xz cz z _ hz)) ?_)
  replace Eq := Lib.hid Eq
  rintro e W3 ⟨Xq, cq, Yq, dq, rfl, hq, gq, hb3⟩
  replace ha := ha.below hb3
  replace Ra := Ra.below hb3
  replace qa0 := cbl hb3 qa0
  replace qa1 := cbl hb3 qa1
  replace qa2 := cbl hb3 qa2
  replace Rr := Rr.below hb3
  replace qr0 := cbl hb3 qr0
  replace qr1 := cbl hb3 qr1
  replace qr2 := cbl hb3 qr2
  replace hz := hz.below hb3
  replace HBT := Below.cons HBT hb3
  clear hb3
  have fzr0 := Rr.f (i := 0)
  have fzr1 := Rr.f (i := 1)
  have fzr2 := Rr.f (i := 2)
  go_wp2_with (fail)
  have hzq : q = a := by rw [Eq.out, Ez.out]; exact hv.out
  subst hzq
  have RS := Rr.store3 (.bool (sg q.num)) (.slice Xq (nl (mg q.num)) cq) (.slice Yq (nl q.den) dq)
  have e0 := RS.c (i := 0) rfl
  have e1 := RS.c (i := 1) rfl
  have e2 := RS.c (i := 2) rfl
  refine bodyPost_ret (v := .agg #[.bool (sg q.num), .slice Xq (nl (mg q.num)) cq, .slice Yq (nl q.den) dq]) (by simp [results, Tryz.results55, go_sem, e0, e1, e2]) rfl ?_
  exact ⟨Xq, cq, Yq, dq, rfl, (Rr.keep3 (nuB rfl) hq), (Rr.keep3 (nuB rfl) gq), (Below.store3 HBT (by first | exact Nat.le_refl _ | omega))⟩
theorem ways_c (w : World) :
    Calls Tryz.prog 62 #[] w fun e w' => e = .returned (.agg #[.func (.func 99) #[] #[], .func (.func 100) #[] #[], .func (.func 101) #[] #[], .func (.func 102) #[] #[], .func (.func 103) #[] #[]]) ∧ Below w.heap.size w w' := by
  go_enter Tryz.func62, Tryz.ntmps62
  go_wp2_with (fail)
  have hb : Below w.heap.size w (w.alloc (.cells #[.func (.func 99) #[] #[], .func (.func 100) #[] #[], .func (.func 101) #[] #[], .func (.func 102) #[] #[], .func (.func 103) #[] #[]] 81)) := (Below.refl _ _).alloc (Nat.le_refl _) _
  have RS : BoxA (w.alloc (.cells #[.func (.func 99) #[] #[], .func (.func 100) #[] #[], .func (.func 101) #[] #[], .func (.func 102) #[] #[], .func (.func 103) #[] #[]] 81)) w.heap.size 81 _ := ⟨at_new rfl⟩
  have e0 := RS.c (i := 0) rfl
  have e1 := RS.c (i := 1) rfl
  have e2 := RS.c (i := 2) rfl
  have e3 := RS.c (i := 3) rfl
  have e4 := RS.c (i := 4) rfl
  exact bodyPost_ret (v := .agg #[.func (.func 99) #[] #[], .func (.func 100) #[] #[], .func (.func 101) #[] #[], .func (.func 102) #[] #[], .func (.func 103) #[] #[]]) (by simp [results, Tryz.results62, go_sem, e0, e1, e2, e3, e4]) rfl ⟨rfl, hb⟩
end Go.Proofs.YtacjfpibilolnaaGreatDoor

/- Dyadic numbers, walked: Rat, down. -/
set_option linter.unusedVariables false
set_option linter.unusedSimpArgs false
namespace Go.Proofs.YtacjfpibilolnaaGreatDoor
open Go.RowKit Go.Shelf
attribute [local go_sem] max2_i min2_i max_two min_two
theorem drat_down (aA : Option Addr) (ac : Nat) (a : Rat) (w : World) (ha : NatV w aA ac (mg (dmn a))) (oa : DOk a) (h0 : dex a < 0) :
    Calls Tryz.prog 55 #[.agg #[.bool (sg (dmn a)), .slice aA (nl (mg (dmn a))) ac, .int .i64 (dex a)]] w (RetR w a) := by
  have hl := oa.l
  have he := oa.e
  obtain ⟨k, hk⟩ := Int.eq_ofNat_of_zero_le (show 0 ≤ -dex a by omega)
  have hv := rat_down (k := k) oa.d (by omega)
  have t1 : decide (0 ≤ dex a) = false := by simp; exact h0
  have lk : k ≤ 1000000 := by omega
  have Wk : IntKind.i64.wrap (k : Int) = (k : Int) := IntWalk.i64_in _ (by omega)
  replace hv := Lib.hid hv
  replace oa := Lib.hid oa
  replace h0 := Lib.hid h0
  replace he := Lib.hid he
  obtain ⟨p, Ep⟩ : ∃ zq : Int, zq = shf 1 (k : Int) := ⟨_, rfl⟩
  have Vp : p = ((2 ^ k : Nat) : Int) := by rw [Ep]; exact shf_one k
  have Pp : 0 < p := by rw [Vp]; have := Nat.two_pow_pos k; omega
  have Np : nl (mg p) ≤ 262144 := by rw [Vp, mg_nat, nl_two_pow]; omega
  have N1 : nl (mg 1) ≤ 1 := Nat.le_of_eq nl_one
  have CS := fun (W : World) (A : Option Addr) (c : Nat) (h1 : NatV W A c (mg 1)) => ishift_c A c 1 (k : Int) W h1 (by omega) (by omega)
  rw [← Ep] at CS
  obtain ⟨q, Eq⟩ : ∃ zq : Rat, zq = Rat.divInt (dmn a) p := ⟨_, rfl⟩
  have CM := fun (W : World) (A : Option Addr) (c : Nat) (h1 : NatV W aA ac (mg (dmn a))) (h2 : NatV W A c (mg p)) => rmake_q aA ac (dmn a) A c p W h1 h2 (by omega) Np Pp
  rw [← Eq] at CM
  have eqq : q = a := by rw [Eq, Vp]; exact hv.out
  replace Ep := Lib.hid Ep
  replace Vp := Lib.hid Vp
  replace Eq := Lib.hid Eq
  replace eqq := Lib.hid eqq
  replace CS := Lib.hid CS
  replace CM := Lib.hid CM
  obtain ⟨hb1, Ra, Rr⟩ := bx2 w #[.bool (sg (dmn a)), .slice aA (nl (mg (dmn a))) ac, .int .i64 (dex a)] 28 #[.bool false, .slice none 0 0, .slice none 0 0] 26
  replace ha := ha.below hb1
  have HBT := hb1
  clear hb1
  have qa0 := Ra.c (i := 0) rfl
  have qa1 := Ra.c (i := 1) rfl
  have qa2 := Ra.c (i := 2) rfl
  have qr0 := Rr.c (i := 0) rfl
  have qr1 := Rr.c (i := 1) rfl
  have qr2 := Rr.c (i := 2) rfl
  go_enter Tryz.func55, Tryz.ntmps55
  go_wp2_with (fail)
  generalize hW0 : ((w.alloc (.cells #[.bool (sg (dmn a)), .slice aA (nl (mg (dmn a))) ac, .int .i64 (dex a)] 28)).alloc (.cells #[.bool false, .slice none 0 0, .slice none 0 0] 26)) = W0 at *
  replace hW0 := Lib.hid hW0
  refine wp_region_inv (fun E a' w' => ∃ (u15 u16 u17 u18 u19 u20 u21 u22 u14 u23 u24 u3 u4 : Value),
    a' = { tmps := #[.agg #[.bool (sg (dmn a)), .slice aA (nl (mg (dmn a))) ac, .int .i64 (dex a)], .pointer (some ⟨w.heap.size, 0, none⟩), .pointer (some ⟨w.heap.size + 1, 0, none⟩), u3, u4, .pointer (some ⟨w.heap.size, 2, none⟩), .int .i64 (dex a), .bool false, undef, undef, undef, undef, undef, undef, u14, u15, u16, u17, u18, u19, u20, u21, u22, u23, u24, undef], defers := [] } ∧
    (E 0 = true → u15 = .pointer (some ⟨w.heap.size, 0, none⟩)) ∧
    (E 1 = true → u16 = .agg #[.bool (sg (dmn a)), .slice aA (nl (mg (dmn a))) ac]) ∧
    (E 2 = true → PI u17 1 w') ∧
    (E 3 = true → u18 = .pointer (some ⟨w.heap.size, 2, none⟩)) ∧
    (E 4 = true → u19 = .int .i64 (dex a)) ∧
    (E 5 = true → u20 = .int .i64 k) ∧
    (E 6 = true → PI u21 p w') ∧
    (E 7 = true → PRt u22 q w') ∧
    (E 8 = true → PRt u14 q w') ∧
    (E 9 = true → PR u23 q w') ∧
    (E 10 = true → u24 = .int .i64 0) ∧
    (E 11 = true → PB3 26 W0.heap.size u3 w') ∧
    (E 12 = true → PBR W0.heap.size u3 q w') ∧
    (E 13 = true → u4 = .int .i64 0) ∧
    (E 12 = true → E 11 = true) ∧
    Below W0.heap.size W0 w') (by kernel_rfl) (by kernel_rfl) ?init ?fin ?step
  case init => exact ⟨_, _, _, _, _, _, _, _, _, _, _, _, _, rfl, by simp, by simp, by simp, by simp, by simp, by simp, by simp, by simp, by simp, by simp, by simp, by simp, by simp, by simp, by simp, (Below.refl _ _).drew⟩
  case step =>
    rintro E a' w' i ⟨u15, u16, u17, u18, u19, u20, u21, u22, u14, u23, u24, u3, u4, rfl, h0, h1, h2, h3, h4, h5, h6, h7, h8, h9, h10, h11, h12, h13, hD12, hB⟩ hi hEi hdep
    have qa0 := cbl hB qa0
    have qa1 := cbl hB qa1
    have qa2 := cbl hB qa2
    obtain rfl | rfl | rfl | rfl | rfl | rfl | rfl | rfl | rfl | rfl | rfl | rfl | rfl | rfl : i = 0 ∨ i = 1 ∨ i = 2 ∨ i = 3 ∨ i = 4 ∨ i = 5 ∨ i = 6 ∨ i = 7 ∨ i = 8 ∨ i = 9 ∨ i = 10 ∨ i = 11 ∨ i = 12 ∨ i = 13 := by simp at hi; omega
    · skip
      refine wpOp_step rfl (fun K' hK' => ?_)
      go_simp
      refine hK' _ _ ?_
      exact ⟨_, _, _, _, _, _, _, _, _, _, _, _, _, rfl, fun _ => rfl, keepD (by decide) h1, keepD (by decide) h2, keepD (by decide) h3, keepD (by decide) h4, keepD (by decide) h5, keepD (by decide) h6, keepD (by decide) h7, keepD (by decide) h8, keepD (by decide) h9, keepD (by decide) h10, keepD (by decide) h11, keepD (by decide) h12, keepD (by decide) h13, (fun h => by have := hD12 (by simpa using h); simpa using this), hB⟩
    · skip
      have d0 := hdep _ rfl ⟨0, .data⟩ (by simp) rfl
      obtain rfl := h0 d0
      refine wpOp_step rfl (fun K' hK' => ?_)
      go_simp
      refine hK' _ _ ?_
      exact ⟨_, _, _, _, _, _, _, _, _, _, _, _, _, rfl, keepD (by decide) h0, fun _ => rfl, keepD (by decide) h2, keepD (by decide) h3, keepD (by decide) h4, keepD (by decide) h5, keepD (by decide) h6, keepD (by decide) h7, keepD (by decide) h8, keepD (by decide) h9, keepD (by decide) h10, keepD (by decide) h11, keepD (by decide) h12, keepD (by decide) h13, (fun h => by have := hD12 (by simpa using h); simpa using this), hB⟩
    · skip
      refine wpOp_step rfl (fun K' hK' => ?_)
      go_simp
      refine (Calls.mono (iof1_c w') ?_)
      rintro e W1 ⟨Xr, cr, rfl, kr, kb⟩
      refine hK' _ _ ?_
      exact ⟨_, _, _, _, _, _, _, _, _, _, _, _, _, rfl, keepD (by decide) h0, keepD (by decide) h1, fun _ => ⟨Xr, cr, rfl, kr⟩, keepD (by decide) h3, keepD (by decide) h4, keepD (by decide) h5, keepP (by decide) h6 (fun h => h.below kb), keepP (by decide) h7 (fun h => h.below kb), keepP (by decide) h8 (fun h => h.below kb), keepP (by decide) h9 (fun h => h.below kb), keepD (by decide) h10, keepP (by decide) h11 (fun h => h.below kb), keepP (by decide) h12 (fun h => h.below kb), keepD (by decide) h13, (fun h => by have := hD12 (by simpa using h); simpa using this), Below.cons hB kb⟩
    · skip
      refine wpOp_step rfl (fun K' hK' => ?_)
      go_simp
      refine hK' _ _ ?_
      exact ⟨_, _, _, _, _, _, _, _, _, _, _, _, _, rfl, keepD (by decide) h0, keepD (by decide) h1, keepD (by decide) h2, fun _ => rfl, keepD (by decide) h4, keepD (by decide) h5, keepD (by decide) h6, keepD (by decide) h7, keepD (by decide) h8, keepD (by decide) h9, keepD (by decide) h10, keepD (by decide) h11, keepD (by decide) h12, keepD (by decide) h13, (fun h => by have := hD12 (by simpa using h); simpa using this), hB⟩
    · skip
      have d3 := hdep _ rfl ⟨3, .data⟩ (by simp) rfl
      obtain rfl := h3 d3
      refine wpOp_step rfl (fun K' hK' => ?_)
      go_simp
      refine hK' _ _ ?_
      exact ⟨_, _, _, _, _, _, _, _, _, _, _, _, _, rfl, keepD (by decide) h0, keepD (by decide) h1, keepD (by decide) h2, keepD (by decide) h3, fun _ => rfl, keepD (by decide) h5, keepD (by decide) h6, keepD (by decide) h7, keepD (by decide) h8, keepD (by decide) h9, keepD (by decide) h10, keepD (by decide) h11, keepD (by decide) h12, keepD (by decide) h13, (fun h => by have := hD12 (by simpa using h); simpa using this), hB⟩
    · skip
      have d4 := hdep _ rfl ⟨4, .data⟩ (by simp) rfl
      obtain rfl := h4 d4
      refine wpOp_step rfl (fun K' hK' => ?_)
      go_simp
      refine hK' _ _ ?_
      exact ⟨_, _, _, _, _, _, _, _, _, _, _, _, _, rfl, keepD (by decide) h0, keepD (by decide) h1, keepD (by decide) h2, keepD (by decide) h3, keepD (by decide) h4, fun _ => rfl, keepD (by decide) h6, keepD (by decide) h7, keepD (by decide) h8, keepD (by decide) h9, keepD (by decide) h10, keepD (by decide) h11, keepD (by decide) h12, keepD (by decide) h13, (fun h => by have := hD12 (by simpa using h); simpa using this), hB⟩
    · skip
      have d2 := hdep _ rfl ⟨2, .data⟩ (by simp) rfl
      obtain ⟨X_2, c_2, rfl, k_2⟩ := h2 d2
      have d5 := hdep _ rfl ⟨5, .data⟩ (by simp) rfl
      obtain rfl := h5 d5
      refine wpOp_step rfl (fun K' hK' => ?_)
      go_simp
      refine (Calls.mono (CS.out w' _ _ k_2) ?_)
      rintro e W1 ⟨Xr, cr, rfl, kr, kb⟩
      refine hK' _ _ ?_
      exact ⟨_, _, _, _, _, _, _, _, _, _, _, _, _, rfl, keepD (by decide) h0, keepD (by decide) h1, keepP (by decide) h2 (fun h => h.below kb), keepD (by decide) h3, keepD (by decide) h4, keepD (by decide) h5, fun _ => ⟨Xr, cr, rfl, kr⟩, keepP (by decide) h7 (fun h => h.below kb), keepP (by decide) h8 (fun h => h.below kb), keepP (by decide) h9 (fun h => h.below kb), keepD (by decide) h10, keepP (by decide) h11 (fun h => h.below kb), keepP (by decide) h12 (fun h => h.below kb), keepD (by decide) h13, (fun h => by have := hD12 (by simpa using h); simpa using this), Below.cons hB kb⟩
    · skip
      have d1 := hdep _ rfl ⟨1, .data⟩ (by simp) rfl
      obtain rfl := h1 d1
      have d6 := hdep _ rfl ⟨6, .data⟩ (by simp) rfl
      obtain ⟨X_6, c_6, rfl, k_6⟩ := h6 d6
      refine wpOp_step rfl (fun K' hK' => ?_)
      go_simp
      refine (Calls.mono (CM.out w' _ _ (ha.below hB) k_6) ?_)
      rintro e W1 ⟨Xr, cr, Yr, dr, rfl, kr, lr, kb⟩
      refine hK' _ _ ?_
      exact ⟨_, _, _, _, _, _, _, _, _, _, _, _, _, rfl, keepD (by decide) h0, keepD (by decide) h1, keepP (by decide) h2 (fun h => h.below kb), keepD (by decide) h3, keepD (by decide) h4, keepD (by decide) h5, keepP (by decide) h6 (fun h => h.below kb), fun _ => ⟨Xr, cr, Yr, dr, rfl, kr, lr⟩, keepP (by decide) h8 (fun h => h.below kb), keepP (by decide) h9 (fun h => h.below kb), keepD (by decide) h10, keepP (by decide) h11 (fun h => h.below kb), keepP (by decide) h12 (fun h => h.below kb), keepD (by decide) h13, (fun h => by have := hD12 (by simpa using h); simpa using this), Below.cons hB kb⟩
    · skip
      have d7 := hdep _ rfl ⟨7, .data⟩ (by simp) rfl
      obtain ⟨X_7, c_7, Y_7, d_7, rfl, k_7, l_7⟩ := h7 d7
      refine wpOp_step rfl (fun K' hK' => ?_)
      go_simp
      refine hK' _ _ ?_
      exact ⟨_, _, _, _, _, _, _, _, _, _, _, _, _, rfl, keepD (by decide) h0, keepD (by decide) h1, keepD (by decide) h2, keepD (by decide) h3, keepD (by decide) h4, keepD (by decide) h5, keepD (by decide) h6, keepD (by decide) h7, fun _ => ⟨X_7, c_7, Y_7, d_7, rfl, k_7, l_7⟩, keepD (by decide) h9, keepD (by decide) h10, keepD (by decide) h11, keepD (by decide) h12, keepD (by decide) h13, (fun h => by have := hD12 (by simpa using h); simpa using this), hB⟩
    · skip
      have d8 := hdep _ rfl ⟨8, .data⟩ (by simp) rfl
      obtain ⟨X_8, c_8, Y_8, d_8, rfl, k_8, l_8⟩ := h8 d8
      refine wpOp_step rfl (fun K' hK' => ?_)
      go_simp
      refine hK' _ _ ?_
      exact ⟨_, _, _, _, _, _, _, _, _, _, _, _, _, rfl, keepD (by decide) h0, keepD (by decide) h1, keepD (by decide) h2, keepD (by decide) h3, keepD (by decide) h4, keepD (by decide) h5, keepD (by decide) h6, keepD (by decide) h7, keepD (by decide) h8, fun _ => ⟨X_8, c_8, Y_8, d_8, rfl, k_8, l_8⟩, keepD (by decide) h10, keepD (by decide) h11, keepD (by decide) h12, keepD (by decide) h13, (fun h => by have := hD12 (by simpa using h); simpa using this), hB⟩
    · skip
      have d8 := hdep _ rfl ⟨8, .data⟩ (by simp) rfl
      obtain ⟨X_8, c_8, Y_8, d_8, rfl, k_8, l_8⟩ := h8 d8
      refine wpOp_step rfl (fun K' hK' => ?_)
      go_simp
      refine hK' _ _ ?_
      exact ⟨_, _, _, _, _, _, _, _, _, _, _, _, _, rfl, keepD (by decide) h0, keepD (by decide) h1, keepD (by decide) h2, keepD (by decide) h3, keepD (by decide) h4, keepD (by decide) h5, keepD (by decide) h6, keepD (by decide) h7, keepD (by decide) h8, keepD (by decide) h9, fun _ => rfl, keepD (by decide) h11, keepD (by decide) h12, keepD (by decide) h13, (fun h => by have := hD12 (by simpa using h); simpa using this), hB⟩
    · skip
      have kb : Below w'.heap.size w' (w'.alloc (.cells #[.bool false, .slice none 0 0, .slice none 0 0] 26)) := (Below.refl _ _).alloc (Nat.le_refl _) _
      refine wpOp_step rfl (fun K' hK' => ?_)
      go_simp
      refine hK' _ _ ?_
      exact ⟨_, _, _, _, _, _, _, _, _, _, _, _, _, rfl, keepD (by decide) h0, keepD (by decide) h1, keepP (by decide) h2 (fun h => h.below kb), keepD (by decide) h3, keepD (by decide) h4, keepD (by decide) h5, keepP (by decide) h6 (fun h => h.below kb), keepP (by decide) h7 (fun h => h.below kb), keepP (by decide) h8 (fun h => h.below kb), keepP (by decide) h9 (fun h => h.below kb), keepD (by decide) h10, fun _ => ⟨_, _, _, _, rfl, hB.size, ⟨at_new rfl⟩, notU_bool _, notU_slice _ _ _, notU_slice _ _ _⟩, (fun h => by have h2 := hD12 (by simpa using h); rw [hEi] at h2; cases h2), keepD (by decide) h13, (fun _ => by simp), Below.cons hB kb⟩
    · skip
      have d11 := hdep _ rfl ⟨11, .data⟩ (by simp) rfl
      obtain ⟨nb, z0, z1, z2, rfl, hn, hb, nz0, nz1, nz2⟩ := h11 d11
      have d9 := hdep _ rfl ⟨9, .data⟩ (by simp) rfl
      obtain ⟨X_9, c_9, Y_9, d_9, rfl, k_9, l_9⟩ := h9 d9
      have fz0 := hb.f (i := 0)
      have cz0 := hb.c (i := 0) rfl
      have fz1 := hb.f (i := 1)
      have cz1 := hb.c (i := 1) rfl
      have fz2 := hb.f (i := 2)
      have cz2 := hb.c (i := 2) rfl
      have hp := hb.put3 (notU3 nz0 nz1 nz2) (.bool (sg q.num)) (.slice X_9 (nl (mg q.num)) c_9) (.slice Y_9 (nl q.den) d_9)
      have hs := hb.store3 (.bool (sg q.num)) (.slice X_9 (nl (mg q.num)) c_9) (.slice Y_9 (nl q.den) d_9)
      refine wpOp_step rfl (fun K' hK' => ?_)
      go_simp
      refine hK' _ _ ?_
      exact ⟨_, _, _, _, _, _, _, _, _, _, _, _, _, rfl, keepD (by decide) h0, keepD (by decide) h1, keepP (by decide) h2 (fun h => h.put hp), keepD (by decide) h3, keepD (by decide) h4, keepD (by decide) h5, keepP (by decide) h6 (fun h => h.put hp), keepP (by decide) h7 (fun h => h.put hp), keepP (by decide) h8 (fun h => h.put hp), keepP (by decide) h9 (fun h => h.put hp), keepD (by decide) h10, (fun _ => ⟨nb, _, _, _, rfl, hn, hs, notU_bool _, notU_slice _ _ _, notU_slice _ _ _⟩), fun _ => ⟨nb, X_9, c_9, Y_9, d_9, rfl, hn, hs, hp.nat k_9, hp.nat l_9⟩, keepD (by decide) h13, (fun _ => by simp [d11]), Below.store3 hB hn⟩
    · skip
      have d10 := hdep _ rfl ⟨10, .data⟩ (by simp) rfl
      obtain rfl := h10 d10
      refine wpOp_step rfl (fun K' hK' => ?_)
      go_simp
      refine hK' _ _ ?_
      exact ⟨_, _, _, _, _, _, _, _, _, _, _, _, _, rfl, keepD (by decide) h0, keepD (by decide) h1, keepD (by decide) h2, keepD (by decide) h3, keepD (by decide) h4, keepD (by decide) h5, keepD (by decide) h6, keepD (by decide) h7, keepD (by decide) h8, keepD (by decide) h9, keepD (by decide) h10, keepD (by decide) h11, keepD (by decide) h12, fun _ => rfl, (fun h => by have := hD12 (by simpa using h); simpa using this), hB⟩
  case fin =>
    rintro E a' w' ⟨u15, u16, u17, u18, u19, u20, u21, u22, u14, u23, u24, u3, u4, rfl, h0, h1, h2, h3, h4, h5, h6, h7, h8, h9, h10, h11, h12, h13, hD12, hB⟩ hall
    obtain ⟨nbq, Xq, cq, Yq, dq, rfl, hnq, Rq, hq, gq⟩ := h12 (hall 12 (by simp))
    replace ha := ha.below hB
    replace Ra := Ra.below hB
    replace qa0 := cbl hB qa0
    replace qa1 := cbl hB qa1
    replace qa2 := cbl hB qa2
    replace Rr := Rr.below hB
    replace qr0 := cbl hB qr0
    replace qr1 := cbl hB qr1
    replace qr2 := cbl hB qr2
    replace HBT := Below.cons HBT hB
    clear hall
    have kvq := hnq
    have qq0 := Rq.c (i := 0) rfl
    have qq1 := Rq.c (i := 1) rfl
    have qq2 := Rq.c (i := 2) rfl
    have hz : w.heap.size + 2 = W0.heap.size := by rw [← hW0.out]; simp
    have fzr0 := Rr.f (i := 0)
    have fzr1 := Rr.f (i := 1)
    have fzr2 := Rr.f (i := 2)
    go_wp2_with (fail)
    have hzq : q = a := by exact eqq.out
    subst hzq
    have RS := Rr.store3 (.bool (sg q.num)) (.slice Xq (nl (mg q.num)) cq) (.slice Yq (nl q.den) dq)
    have e0 := RS.c (i := 0) rfl
    have e1 := RS.c (i := 1) rfl
    have e2 := RS.c (i := 2) rfl
    refine bodyPost_ret (v := .agg #[.bool (sg q.num), .slice Xq (nl (mg q.num)) cq, .slice Yq (nl q.den) dq]) (by simp [results, Tryz.results55, go_sem, e0, e1, e2]) rfl ?_
    exact ⟨Xq, cq, Yq, dq, rfl, (Rr.keep3 (nuB rfl) hq), (Rr.keep3 (nuB rfl) gq), (Below.store3 HBT (by first | exact Nat.le_refl _ | omega))⟩
theorem drat_c (aA : Option Addr) (ac : Nat) (a : Rat) (w : World) (ha : NatV w aA ac (mg (dmn a))) (oa : DOk a) :
    Calls Tryz.prog 55 #[.agg #[.bool (sg (dmn a)), .slice aA (nl (mg (dmn a))) ac, .int .i64 (dex a)]] w (RetR w a) := by
  by_cases h : 0 ≤ dex a
  · exact drat_up aA ac a w ha oa h
  · exact drat_down aA ac a w ha oa (by omega)
end Go.Proofs.YtacjfpibilolnaaGreatDoor

/- Directions, walked. -/
set_option linter.unusedVariables false
set_option linter.unusedSimpArgs false
namespace Go.Proofs.YtacjfpibilolnaaGreatDoor
open Go.RowKit Go.Shelf
attribute [local go_sem] max2_i min2_i max_two min_two

theorem way1_c (neg odd : Bool) (h b : Int) (w : World) :
    Calls Tryz.prog 99 #[.bool neg, .bool odd, .int .i64 (icmp h b)] w fun e w' => e = .returned (.bool (upw neg odd (h - b) 0)) ∧ Below w.heap.size w w' := by
  have hu : upw neg odd (h - b) 0 = (false) := rfl
  rw [hu]
  go_enter Tryz.func99, Tryz.ntmps99
  go_wp2_with (fail)
  go_ret
  exact ⟨rfl, Below.refl _ _⟩
theorem way2_c (neg odd : Bool) (h b : Int) (w : World) :
    Calls Tryz.prog 100 #[.bool neg, .bool odd, .int .i64 (icmp h b)] w fun e w' => e = .returned (.bool (upw neg odd (h - b) 1)) ∧ Below w.heap.size w w' := by
  have hu : upw neg odd (h - b) 1 = (true) := rfl
  rw [hu]
  go_enter Tryz.func100, Tryz.ntmps100
  go_wp2_with (fail)
  go_ret
  exact ⟨rfl, Below.refl _ _⟩
theorem way3_c (neg odd : Bool) (h b : Int) (w : World) :
    Calls Tryz.prog 101 #[.bool neg, .bool odd, .int .i64 (icmp h b)] w fun e w' => e = .returned (.bool (upw neg odd (h - b) 2)) ∧ Below w.heap.size w w' := by
  have hu : upw neg odd (h - b) 2 = (neg) := rfl
  rw [hu]
  go_enter Tryz.func101, Tryz.ntmps101
  go_wp2_with (fail)
  go_ret
  exact ⟨rfl, Below.refl _ _⟩
theorem way4_c (neg odd : Bool) (h b : Int) (w : World) :
    Calls Tryz.prog 102 #[.bool neg, .bool odd, .int .i64 (icmp h b)] w fun e w' => e = .returned (.bool (upw neg odd (h - b) 3)) ∧ Below w.heap.size w w' := by
  have hu : upw neg odd (h - b) 3 = (!neg) := rfl
  rw [hu]
  go_enter Tryz.func102, Tryz.ntmps102
  go_wp2_with (fail)
  go_ret
  exact ⟨rfl, Below.refl _ _⟩
theorem icmp_lt {h b : Int} (k : h < b) : icmp h b = -1 := by unfold icmp; rw [if_pos k]
theorem icmp_gt {h b : Int} (k : b < h) : icmp h b = 1 := by unfold icmp; rw [if_neg (by omega), if_pos k]
theorem icmp_eq {h b : Int} (k : h = b) : icmp h b = 0 := by unfold icmp; rw [if_neg (by omega), if_neg (by omega)]
theorem way5_c (neg odd : Bool) (h b : Int) (w : World) :
    Calls Tryz.prog 103 #[.bool neg, .bool odd, .int .i64 (icmp h b)] w fun e w' => e = .returned (.bool (upw neg odd (h - b) 4)) ∧ Below w.heap.size w w' := by
  have hu : upw neg odd (h - b) 4 = (decide (0 < h - b) || (decide (h - b = 0) && odd)) := rfl
  rw [hu]
  rcases Int.lt_trichotomy h b with k | k | k
  · have e1 : (decide (0 < h - b) || (decide (h - b = 0) && odd)) = false := by simp; omega
    rw [icmp_lt k, e1]
    go_enter Tryz.func103, Tryz.ntmps103
    go_wp2_with (fail)
    go_ret
    exact ⟨rfl, Below.refl _ _⟩
  · have e1 : (decide (0 < h - b) || (decide (h - b = 0) && odd)) = odd := by
      rw [decide_eq_false (by omega), decide_eq_true (by omega)]; simp
    rw [icmp_eq k, e1]
    go_enter Tryz.func103, Tryz.ntmps103
    go_wp2_with (fail)
    go_ret
    exact ⟨rfl, Below.refl _ _⟩
  · have e1 : (decide (0 < h - b) || (decide (h - b = 0) && odd)) = true := by
      rw [decide_eq_true (by omega)]; simp
    rw [icmp_gt k, e1]
    go_enter Tryz.func103, Tryz.ntmps103
    go_wp2_with (fail)
    go_ret
    exact ⟨rfl, Below.refl _ _⟩
theorem rest_le {a b : Int} (hb : 0 < b) : nl (mg (a % b)) ≤ nl (mg b) := by
  have h1 := Int.emod_nonneg a (show b ≠ 0 by omega)
  have h2 := Int.emod_lt_of_pos a hb
  exact nl_mono (by unfold mg; omega)
theorem quo_le (a b : Int) : nl (mg (a / b)) ≤ nl (mg a) := nl_mono (Int.natAbs_ediv_le_natAbs a b)
theorem shf_twice (r : Int) : shf r 1 = 2 * r := by unfold shf; rw [if_pos (by decide), Int.mul_comm]; rfl
theorem dbl_le {r : Int} : nl (mg (2 * r)) ≤ nl (mg r) + 1 := by
  rw [nl_le, mg_mul, Nat.pow_succ, Nat.mul_comm]
  have := nl_lt (mg r)
  exact Nat.mul_lt_mul_of_lt_of_le this (by decide) (by decide)
theorem odd_limb {q : Int} {x : Nat} (hx : x = mg q / 4294967296 ^ 0 % 4294967296) : decide (q % 2 = 1) = decide (x % 2 = 1) := by
  rw [Nat.pow_zero, Nat.div_one] at hx
  rw [decide_eq_decide]
  unfold mg at hx; omega
theorem and_one_u32 (x : Nat) (hx : x < 4294967296) : bits .and .u32 (x : Int) 1 = ((x % 2 : Nat) : Int) := by
  have := u32_and_nat x 1 hx (by decide)
  rw [Nat.and_one_is_mod] at this
  exact this
end Go.Proofs.YtacjfpibilolnaaGreatDoor
