/- Dyadic numbers, walked: Cut. -/
import Derived.Test.YtpaffggdeedopaaGreatDoorD03
import Derived.Test.YtpaffggdeedopaaGreatDoorD01
import Derived.Test.YtpaffggdeedopaaGreatDoorRows
import Derived.Deep.Strs
import Derived.ProofKit
import Derived.LaidMore
import Derived.OpenShut
import Derived.Stop.Joined
import Derived.Deep.Slices
import Derived.Below
import Derived.Carry
import Derived.Deep.RegionHeld3
set_option maxRecDepth 100000
set_option maxHeartbeats 4000000
set_option linter.unusedVariables false
set_option linter.unusedSimpArgs false
namespace Go.Proofs.YtpaffggdeedopaaGreatDoor
open Go.RowKit Go.Shelf
attribute [local go_sem] max2_i min2_i max_two min_two

/-- A dyadic number, and what has gone wrong. -/
def RetDe (w : World) (q : Rat) (x : Int) (e : Ending) (w' : World) : Prop := ∃ A c, e = .returned (.tuple #[.agg #[.bool (sg (dmn q)), .slice A (nl (mg (dmn q))) c, .int .i64 (dex q)], .int .i64 x]) ∧ NatV w' A c (mg (dmn q)) ∧ Below w.heap.size w w'
theorem nat_none (W : World) : NatV W none 0 (mg (dmn 0)) := by rw [dmn_zero, mg0]; exact ⟨.inl (by simp [vals, limbs_zero]), by rw [nl_zero]; exact Nat.le_refl _, by decide⟩
theorem ovr_nl (a : Int) {b : Int} (dr : Int) (hb : 0 < b) : nl (mg (ovr a b dr)) ≤ nl (mg a) + 1 := by
  have h1 : mg (a / b) ≤ mg a := Int.natAbs_ediv_le_natAbs a b
  have h2 : mg (ovr a b dr) ≤ mg a + 1 := by
    have e : ovr a b dr = a / b ∨ ovr a b dr = a / b + 1 := by unfold ovr; split; exact .inl rfl; split; exact .inr rfl; exact .inl rfl
    rcases e with e | e <;> rw [e]
    · omega
    · unfold mg at *; omega
  have h3 := nl_lt (mg a)
  rw [nl_le, Nat.pow_succ]
  have : 0 < 4294967296 ^ nl (mg a) := Nat.pow_pos (by decide)
  omega
theorem shf_pos {z d : Int} (hz : 0 < z) (h0 : 0 ≤ d) : 0 < shf z d := by
  unfold shf; rw [if_pos h0]; exact Int.mul_pos hz (Int.pow_pos (by decide))
theorem cut_quo (q : Rat) (n : Int) : ((shf q.num (max n 0) : Int) : Rat) / ((shf (q.den : Int) (max (-n) 0) : Int) : Rat) = q * (2 : Rat) ^ n := by
  have hd : ((q.den : Int) : Rat) ≠ 0 := by
    intro e; have := Rat.intCast_eq_zero_iff.1 e; have := q.den_nz; omega
  have hq : q * ((q.den : Int) : Rat) = ((q.num : Int) : Rat) := by
    have e : q = ((q.num : Int) : Rat) / ((q.den : Int) : Rat) := by
      conv => lhs; rw [← Rat.mkRat_self q, Rat.mkRat_eq_div]
      rfl
    conv => lhs; lhs; rw [e]
    exact Rat.div_mul_cancel hd
  have hp : ∀ k : Nat, ((2 ^ k : Int) : Rat) ≠ 0 := by
    intro k e
    have := Rat.intCast_eq_zero_iff.1 e
    have := Int.pow_pos (n := 2) (m := k) (by decide); omega
  rcases Int.lt_or_le n 0 with hn | hn
  · obtain ⟨k, rfl⟩ := Int.exists_eq_neg_ofNat (show n ≤ 0 by omega)
    have e1 : max (-(k : Int)) 0 = 0 := by omega
    have e2 : max (-(-(k : Int))) 0 = (k : Int) := by omega
    rw [e1, e2]
    have s1 : shf q.num 0 = q.num := by unfold shf; rw [if_pos (by decide)]; exact Int.mul_one _
    have s2 : shf (q.den : Int) (k : Int) = q.den * 2 ^ k := by unfold shf; rw [if_pos (Int.natCast_nonneg k), Int.toNat_natCast]
    rw [s1, s2, Rat.zpow_neg, zp_int, Rat.intCast_mul, ← hq]
    have := hp k
    generalize ((q.den : Int) : Rat) = x at *
    generalize ((2 ^ k : Int) : Rat) = p at *
    grind
  · obtain ⟨k, rfl⟩ := Int.eq_ofNat_of_zero_le hn
    have e1 : max (k : Int) 0 = k := by omega
    have e2 : max (-(k : Int)) 0 = 0 := by omega
    rw [e1, e2]
    have s1 : shf q.num (k : Int) = q.num * 2 ^ k := by unfold shf; rw [if_pos (Int.natCast_nonneg k), Int.toNat_natCast]
    have s2 : shf (q.den : Int) 0 = q.den := by unfold shf; rw [if_pos (by decide)]; exact Int.mul_one _
    rw [s1, s2, zp_int, Rat.intCast_mul, ← hq]
    generalize ((q.den : Int) : Rat) = x at *
    generalize ((2 ^ k : Int) : Rat) = p at *
    grind
theorem cut_ovr (q : Rat) (n dr : Int) (h0 : 0 ≤ dr) (h4 : dr ≤ 4) : ovr (shf q.num (max n 0)) (shf (q.den : Int) (max (-n) 0)) dr = rnd dr (q * (2 : Rat) ^ n) := by
  rw [ovr_rnd (shf_pos (by have := q.den_nz; omega) (by omega)) h0 h4, cut_quo]
theorem cut_big (qA : Option Addr) (qc : Nat) (qB : Option Addr) (qd : Nat) (q : Rat) (n : Int) (dr : Int) (w : World) (hq : NatV w qA qc (mg q.num)) (gq : NatV w qB qd q.den)   (h0 : 5 ≤ dr) :
    Calls Tryz.prog 15 #[.agg #[.bool (sg q.num), .slice qA (nl (mg q.num)) qc, .slice qB (nl q.den) qd], .int .i64 n, .int .i64 dr] w (RetDe w 0 1) := by
  have t1 : decide (dr < 0) = false := decide_eq_false (by omega)
  have t2 : decide (5 ≤ dr) = true := decide_eq_true h0
  obtain ⟨hb1, Rq, Rr⟩ := bx2 w #[.bool (sg q.num), .slice qA (nl (mg q.num)) qc, .slice qB (nl q.den) qd] 26 #[.bool false, .slice none 0 0, .int .i64 0] 31
  replace hq := hq.below hb1
  replace gq := gq.below hb1
  have HBT := hb1
  clear hb1
  have qq0 := Rq.c (i := 0) rfl
  have qq1 := Rq.c (i := 1) rfl
  have qq2 := Rq.c (i := 2) rfl
  have qr0 := Rr.c (i := 0) rfl
  have qr1 := Rr.c (i := 1) rfl
  have qr2 := Rr.c (i := 2) rfl
  go_enter Tryz.func15, Tryz.ntmps15
  go_wp2_with (fail)
  refine (Calls.mono (ways_c _) ?_)
  rintro e W2 ⟨rfl, hb2⟩
  replace hq := hq.below hb2
  replace gq := gq.below hb2
  replace Rq := Rq.below hb2
  replace qq0 := cbl hb2 qq0
  replace qq1 := cbl hb2 qq1
  replace qq2 := cbl hb2 qq2
  replace Rr := Rr.below hb2
  replace qr0 := cbl hb2 qr0
  replace qr1 := cbl hb2 qr1
  replace qr2 := cbl hb2 qr2
  replace HBT := Below.cons HBT hb2
  clear hb2
  have fzr0 := Rr.f (i := 0)
  have fzr1 := Rr.f (i := 1)
  have fzr2 := Rr.f (i := 2)
  go_wp2_with (fail)
  have RS := Rr.store3 (.bool false) (.slice none 0 0) (.int .i64 0)
  have e0 := RS.c (i := 0) rfl
  have e1 := RS.c (i := 1) rfl
  have e2 := RS.c (i := 2) rfl
  refine bodyPost_ret (v := .tuple #[.agg #[.bool false, .slice none 0 0, .int .i64 0], .int .i64 1]) (by simp [results, Tryz.results15, go_sem, e0, e1, e2]) rfl ?_
  exact ⟨none, 0, by rw [dmn_zero, dex_zero, mg0, sg0, nl_zero], nat_none _, Below.store3 HBT (by first | exact Nat.le_refl _ | omega)⟩
theorem cut_in (qA : Option Addr) (qc : Nat) (qB : Option Addr) (qd : Nat) (q : Rat) (n : Int) (dr : Int) (w : World) (hq : NatV w qA qc (mg q.num)) (gq : NatV w qB qd q.den)   (hT : Tab w) (lq : nl (mg q.num) ≤ 100000) (ld : nl q.den ≤ 100000) (d0 : 0 ≤ dr) (d4 : dr ≤ 4) (ln : -1000000 ≤ n ∧ n ≤ 1000000) :
    Calls Tryz.prog 15 #[.agg #[.bool (sg q.num), .slice qA (nl (mg q.num)) qc, .slice qB (nl q.den) qd], .int .i64 n, .int .i64 dr] w (RetDe w (dval (rnd dr (q * (2 : Rat) ^ n)) (-n)) 0) := by
  have t1 : decide (dr < 0) = false := decide_eq_false (by omega)
  have t2 : decide (5 ≤ dr) = false := decide_eq_false (by omega)
  have hov := cut_ovr q n dr d0 d4
  obtain ⟨n1, En1⟩ : ∃ z, z = max n 0 := ⟨_, rfl⟩
  obtain ⟨n2, En2⟩ : ∃ z, z = max (-n) 0 := ⟨_, rfl⟩
  have b1 : 0 ≤ n1 ∧ n1 ≤ 1000000 := by omega
  have b2 : 0 ≤ n2 ∧ n2 ≤ 1000000 := by omega
  have Wn : IntKind.i64.wrap (-n) = -n := IntWalk.i64_in _ (by omega)
  rw [← En1, ← En2] at hov
  obtain ⟨u, Eu⟩ : ∃ z, z = shf q.num n1 := ⟨_, rfl⟩
  have lu : nl (mg u) ≤ 162502 := by rw [Eu]; exact nl_shf (K := 0) lq b1.1 (by omega)
  obtain ⟨dz, Edz⟩ : ∃ z, z = ival false q.den := ⟨_, rfl⟩
  have dz0 : 0 < dz := by rw [Edz, ival_false]; have := q.den_nz; omega
  have ldz : nl (mg dz) ≤ 100000 := by rw [Edz, mg_ival]; exact ld
  obtain ⟨v, Ev⟩ : ∃ z, z = shf dz n2 := ⟨_, rfl⟩
  have lv : nl (mg v) ≤ 162502 := by rw [Ev]; exact nl_shf (K := 0) ldz b2.1 (by omega)
  have v0 : 0 < v := by rw [Ev]; exact shf_pos dz0 b2.1
  have lo := ovr_nl u dr v0
  rw [← Eu, ← ival_false, ← Edz, ← Ev] at hov
  have C1 := fun (W : World) (h1 : NatV W qA qc (mg q.num)) => ishift_c qA qc q.num n1 W h1 (by omega) (by omega)
  rw [← Eu] at C1
  have C2 := fun (W : World) (h1 : NatV W qB qd q.den) => imake_c false qB qd q.den W h1 (by omega)
  rw [← Edz] at C2
  have C3 := fun (W : World) (A : Option Addr) (c : Nat) (h1 : NatV W A c (mg dz)) => ishift_c A c dz n2 W h1 (by omega) (by omega)
  rw [← Ev] at C3
  replace En1 := En1.symm
  replace En2 := En2.symm
  replace hov := Lib.hid hov
  replace Eu := Lib.hid Eu
  replace Edz := Lib.hid Edz
  replace Ev := Lib.hid Ev
  replace C1 := Lib.hid C1
  replace C2 := Lib.hid C2
  replace C3 := Lib.hid C3
  replace b1 := Lib.hid b1
  replace b2 := Lib.hid b2
  replace v0 := Lib.hid v0
  obtain ⟨hb1, Rq, Rr⟩ := bx2 w #[.bool (sg q.num), .slice qA (nl (mg q.num)) qc, .slice qB (nl q.den) qd] 26 #[.bool false, .slice none 0 0, .int .i64 0] 31
  replace hq := hq.below hb1
  replace gq := gq.below hb1
  replace hT := hT.below hb1
  have HBT := hb1
  clear hb1
  have qq0 := Rq.c (i := 0) rfl
  have qq1 := Rq.c (i := 1) rfl
  have qq2 := Rq.c (i := 2) rfl
  have qr0 := Rr.c (i := 0) rfl
  have qr1 := Rr.c (i := 1) rfl
  have qr2 := Rr.c (i := 2) rfl
  go_enter Tryz.func15, Tryz.ntmps15
  go_wp2_with (fail)
  refine (Calls.mono (ways_c _) ?_)
  rintro e W2 ⟨rfl, hb2⟩
  replace hq := hq.below hb2
  replace gq := gq.below hb2
  replace hT := hT.below hb2
  replace Rq := Rq.below hb2
  replace qq0 := cbl hb2 qq0
  replace qq1 := cbl hb2 qq1
  replace qq2 := cbl hb2 qq2
  replace Rr := Rr.below hb2
  replace qr0 := cbl hb2 qr0
  replace qr1 := cbl hb2 qr1
  replace qr2 := cbl hb2 qr2
  replace HBT := Below.cons HBT hb2
  clear hb2
  go_wp2_with (fail)
  refine wp_region_inv (fun E a' w' => ∃ (u19 u20 u21 u22 u23 u24 u25 u26 u27 u28 u29 u30 u8 u9 : Value),
    a' = { tmps := #[.agg #[.bool (sg q.num), .slice qA (nl (mg q.num)) qc, .slice qB (nl q.den) qd], .int .i64 n, .int .i64 dr, .pointer (some ⟨w.heap.size, 0, none⟩), undef, undef, .pointer (some ⟨(w.heap.size + 1), 0, none⟩), .int .i64 0, u8, u9, .int .i64 dr, .bool false, .bool false, .int .i64 dr, (.agg #[.func (.func 133) #[] #[], .func (.func 134) #[] #[], .func (.func 135) #[] #[], .func (.func 136) #[] #[], .func (.func 137) #[] #[]]), .int .i64 5, .bool false, .bool false, undef, u19, u20, u21, u22, u23, u24, u25, u26, u27, u28, u29, u30, undef, undef, undef, undef, undef, undef, undef], defers := [] } ∧
    (E 0 = true → u19 = .pointer (some ⟨w.heap.size, 0, none⟩)) ∧
    (E 1 = true → u20 = .agg #[.bool (sg q.num), .slice qA (nl (mg q.num)) qc]) ∧
    (E 2 = true → u21 = .int .i64 n) ∧
    (E 3 = true → u22 = .int .i64 n1) ∧
    (E 4 = true → PI u23 u w') ∧
    (E 5 = true → u24 = .pointer (some ⟨w.heap.size, 2, none⟩)) ∧
    (E 6 = true → u25 = .slice qB (nl q.den) qd) ∧
    (E 7 = true → PI u26 dz w') ∧
    (E 8 = true → u27 = .int .i64 n) ∧
    (E 9 = true → u28 = .int .i64 (-n)) ∧
    (E 10 = true → u29 = .int .i64 n2) ∧
    (E 11 = true → PI u30 v w') ∧
    (E 12 = true → PB2 24 W2.heap.size u8 w') ∧
    (E 13 = true → PB2 24 W2.heap.size u9 w') ∧
    (E 14 = true → PBI W2.heap.size u8 u w') ∧
    (E 15 = true → PBI W2.heap.size u9 v w') ∧
    (E 14 = true → E 12 = true) ∧
    (E 15 = true → E 13 = true) ∧
    (E 12 = true → E 13 = true → u8 ≠ u9) ∧
    Below W2.heap.size W2 w') (by kernel_rfl) (by kernel_rfl) ?init ?fin ?step
  case init => exact ⟨_, _, _, _, _, _, _, _, _, _, _, _, _, _, rfl, by simp, by simp, by simp, by simp, by simp, by simp, by simp, by simp, by simp, by simp, by simp, by simp, by simp, by simp, by simp, by simp, by simp, by simp, by simp, (Below.refl _ _).drew⟩
  case step =>
    rintro E a' w' i ⟨u19, u20, u21, u22, u23, u24, u25, u26, u27, u28, u29, u30, u8, u9, rfl, h0, h1, h2, h3, h4, h5, h6, h7, h8, h9, h10, h11, h12, h13, h14, h15, hD14, hD15, hN12_13, hB⟩ hi hEi hdep
    have qq0 := cbl hB qq0
    have qq1 := cbl hB qq1
    have qq2 := cbl hB qq2
    obtain rfl | rfl | rfl | rfl | rfl | rfl | rfl | rfl | rfl | rfl | rfl | rfl | rfl | rfl | rfl | rfl : i = 0 ∨ i = 1 ∨ i = 2 ∨ i = 3 ∨ i = 4 ∨ i = 5 ∨ i = 6 ∨ i = 7 ∨ i = 8 ∨ i = 9 ∨ i = 10 ∨ i = 11 ∨ i = 12 ∨ i = 13 ∨ i = 14 ∨ i = 15 := by simp at hi; omega
    · skip
      refine wpOp_step rfl (fun K' hK' => ?_)
      go_simp
      refine hK' _ _ ?_
      exact ⟨_, _, _, _, _, _, _, _, _, _, _, _, _, _, rfl, fun _ => rfl, keepD (by decide) h1, keepD (by decide) h2, keepD (by decide) h3, keepD (by decide) h4, keepD (by decide) h5, keepD (by decide) h6, keepD (by decide) h7, keepD (by decide) h8, keepD (by decide) h9, keepD (by decide) h10, keepD (by decide) h11, keepD (by decide) h12, keepD (by decide) h13, keepD (by decide) h14, keepD (by decide) h15, (fun h => by have := hD14 (by simpa using h); simpa using this), (fun h => by have := hD15 (by simpa using h); simpa using this), (fun h k => hN12_13 (by simpa using h) (by simpa using k)), hB⟩
    · skip
      have d0 := hdep _ rfl ⟨0, .data⟩ (by simp) rfl
      obtain rfl := h0 d0
      refine wpOp_step rfl (fun K' hK' => ?_)
      go_simp
      refine hK' _ _ ?_
      exact ⟨_, _, _, _, _, _, _, _, _, _, _, _, _, _, rfl, keepD (by decide) h0, fun _ => rfl, keepD (by decide) h2, keepD (by decide) h3, keepD (by decide) h4, keepD (by decide) h5, keepD (by decide) h6, keepD (by decide) h7, keepD (by decide) h8, keepD (by decide) h9, keepD (by decide) h10, keepD (by decide) h11, keepD (by decide) h12, keepD (by decide) h13, keepD (by decide) h14, keepD (by decide) h15, (fun h => by have := hD14 (by simpa using h); simpa using this), (fun h => by have := hD15 (by simpa using h); simpa using this), (fun h k => hN12_13 (by simpa using h) (by simpa using k)), hB⟩
    · skip
      refine wpOp_step rfl (fun K' hK' => ?_)
      go_simp
      refine hK' _ _ ?_
      exact ⟨_, _, _, _, _, _, _, _, _, _, _, _, _, _, rfl, keepD (by decide) h0, keepD (by decide) h1, fun _ => rfl, keepD (by decide) h3, keepD (by decide) h4, keepD (by decide) h5, keepD (by decide) h6, keepD (by decide) h7, keepD (by decide) h8, keepD (by decide) h9, keepD (by decide) h10, keepD (by decide) h11, keepD (by decide) h12, keepD (by decide) h13, keepD (by decide) h14, keepD (by decide) h15, (fun h => by have := hD14 (by simpa using h); simpa using this), (fun h => by have := hD15 (by simpa using h); simpa using this), (fun h k => hN12_13 (by simpa using h) (by simpa using k)), hB⟩
    · skip
      have d2 := hdep _ rfl ⟨2, .data⟩ (by simp) rfl
      obtain rfl := h2 d2
      refine wpOp_step rfl (fun K' hK' => ?_)
      go_simp
      refine hK' _ _ ?_
      exact ⟨_, _, _, _, _, _, _, _, _, _, _, _, _, _, rfl, keepD (by decide) h0, keepD (by decide) h1, keepD (by decide) h2, fun _ => rfl, keepD (by decide) h4, keepD (by decide) h5, keepD (by decide) h6, keepD (by decide) h7, keepD (by decide) h8, keepD (by decide) h9, keepD (by decide) h10, keepD (by decide) h11, keepD (by decide) h12, keepD (by decide) h13, keepD (by decide) h14, keepD (by decide) h15, (fun h => by have := hD14 (by simpa using h); simpa using this), (fun h => by have := hD15 (by simpa using h); simpa using this), (fun h k => hN12_13 (by simpa using h) (by simpa using k)), hB⟩
    · skip
      have d1 := hdep _ rfl ⟨1, .data⟩ (by simp) rfl
      obtain rfl := h1 d1
      have d3 := hdep _ rfl ⟨3, .data⟩ (by simp) rfl
      obtain rfl := h3 d3
      refine wpOp_step rfl (fun K' hK' => ?_)
      go_simp
      refine (Calls.mono (C1.out w' (hq.below hB)) ?_)
      rintro e W1 ⟨Xr, cr, rfl, kr, kb⟩
      refine hK' _ _ ?_
      exact ⟨_, _, _, _, _, _, _, _, _, _, _, _, _, _, rfl, keepD (by decide) h0, keepD (by decide) h1, keepD (by decide) h2, keepD (by decide) h3, fun _ => ⟨Xr, cr, rfl, kr⟩, keepD (by decide) h5, keepD (by decide) h6, keepP (by decide) h7 (fun h => h.below kb), keepD (by decide) h8, keepD (by decide) h9, keepD (by decide) h10, keepP (by decide) h11 (fun h => h.below kb), keepP (by decide) h12 (fun h => h.below kb), keepP (by decide) h13 (fun h => h.below kb), keepP (by decide) h14 (fun h => h.below kb), keepP (by decide) h15 (fun h => h.below kb), (fun h => by have := hD14 (by simpa using h); simpa using this), (fun h => by have := hD15 (by simpa using h); simpa using this), (fun h k => hN12_13 (by simpa using h) (by simpa using k)), Below.cons hB kb⟩
    · skip
      refine wpOp_step rfl (fun K' hK' => ?_)
      go_simp
      refine hK' _ _ ?_
      exact ⟨_, _, _, _, _, _, _, _, _, _, _, _, _, _, rfl, keepD (by decide) h0, keepD (by decide) h1, keepD (by decide) h2, keepD (by decide) h3, keepD (by decide) h4, fun _ => rfl, keepD (by decide) h6, keepD (by decide) h7, keepD (by decide) h8, keepD (by decide) h9, keepD (by decide) h10, keepD (by decide) h11, keepD (by decide) h12, keepD (by decide) h13, keepD (by decide) h14, keepD (by decide) h15, (fun h => by have := hD14 (by simpa using h); simpa using this), (fun h => by have := hD15 (by simpa using h); simpa using this), (fun h k => hN12_13 (by simpa using h) (by simpa using k)), hB⟩
    · skip
      have d5 := hdep _ rfl ⟨5, .data⟩ (by simp) rfl
      obtain rfl := h5 d5
      refine wpOp_step rfl (fun K' hK' => ?_)
      go_simp
      refine hK' _ _ ?_
      exact ⟨_, _, _, _, _, _, _, _, _, _, _, _, _, _, rfl, keepD (by decide) h0, keepD (by decide) h1, keepD (by decide) h2, keepD (by decide) h3, keepD (by decide) h4, keepD (by decide) h5, fun _ => rfl, keepD (by decide) h7, keepD (by decide) h8, keepD (by decide) h9, keepD (by decide) h10, keepD (by decide) h11, keepD (by decide) h12, keepD (by decide) h13, keepD (by decide) h14, keepD (by decide) h15, (fun h => by have := hD14 (by simpa using h); simpa using this), (fun h => by have := hD15 (by simpa using h); simpa using this), (fun h k => hN12_13 (by simpa using h) (by simpa using k)), hB⟩
    · skip
      have d6 := hdep _ rfl ⟨6, .data⟩ (by simp) rfl
      obtain rfl := h6 d6
      refine wpOp_step rfl (fun K' hK' => ?_)
      go_simp
      refine (Calls.mono (C2.out w' (gq.below hB)) ?_)
      rintro e W1 ⟨Xr, cr, rfl, kr, kb⟩
      refine hK' _ _ ?_
      exact ⟨_, _, _, _, _, _, _, _, _, _, _, _, _, _, rfl, keepD (by decide) h0, keepD (by decide) h1, keepD (by decide) h2, keepD (by decide) h3, keepP (by decide) h4 (fun h => h.below kb), keepD (by decide) h5, keepD (by decide) h6, fun _ => ⟨Xr, cr, rfl, kr⟩, keepD (by decide) h8, keepD (by decide) h9, keepD (by decide) h10, keepP (by decide) h11 (fun h => h.below kb), keepP (by decide) h12 (fun h => h.below kb), keepP (by decide) h13 (fun h => h.below kb), keepP (by decide) h14 (fun h => h.below kb), keepP (by decide) h15 (fun h => h.below kb), (fun h => by have := hD14 (by simpa using h); simpa using this), (fun h => by have := hD15 (by simpa using h); simpa using this), (fun h k => hN12_13 (by simpa using h) (by simpa using k)), Below.cons hB kb⟩
    · skip
      refine wpOp_step rfl (fun K' hK' => ?_)
      go_simp
      refine hK' _ _ ?_
      exact ⟨_, _, _, _, _, _, _, _, _, _, _, _, _, _, rfl, keepD (by decide) h0, keepD (by decide) h1, keepD (by decide) h2, keepD (by decide) h3, keepD (by decide) h4, keepD (by decide) h5, keepD (by decide) h6, keepD (by decide) h7, fun _ => rfl, keepD (by decide) h9, keepD (by decide) h10, keepD (by decide) h11, keepD (by decide) h12, keepD (by decide) h13, keepD (by decide) h14, keepD (by decide) h15, (fun h => by have := hD14 (by simpa using h); simpa using this), (fun h => by have := hD15 (by simpa using h); simpa using this), (fun h k => hN12_13 (by simpa using h) (by simpa using k)), hB⟩
    · skip
      have d8 := hdep _ rfl ⟨8, .data⟩ (by simp) rfl
      obtain rfl := h8 d8
      refine wpOp_step rfl (fun K' hK' => ?_)
      go_simp
      refine hK' _ _ ?_
      exact ⟨_, _, _, _, _, _, _, _, _, _, _, _, _, _, rfl, keepD (by decide) h0, keepD (by decide) h1, keepD (by decide) h2, keepD (by decide) h3, keepD (by decide) h4, keepD (by decide) h5, keepD (by decide) h6, keepD (by decide) h7, keepD (by decide) h8, fun _ => rfl, keepD (by decide) h10, keepD (by decide) h11, keepD (by decide) h12, keepD (by decide) h13, keepD (by decide) h14, keepD (by decide) h15, (fun h => by have := hD14 (by simpa using h); simpa using this), (fun h => by have := hD15 (by simpa using h); simpa using this), (fun h k => hN12_13 (by simpa using h) (by simpa using k)), hB⟩
    · skip
      have d9 := hdep _ rfl ⟨9, .data⟩ (by simp) rfl
      obtain rfl := h9 d9
      refine wpOp_step rfl (fun K' hK' => ?_)
      go_simp
      refine hK' _ _ ?_
      exact ⟨_, _, _, _, _, _, _, _, _, _, _, _, _, _, rfl, keepD (by decide) h0, keepD (by decide) h1, keepD (by decide) h2, keepD (by decide) h3, keepD (by decide) h4, keepD (by decide) h5, keepD (by decide) h6, keepD (by decide) h7, keepD (by decide) h8, keepD (by decide) h9, fun _ => rfl, keepD (by decide) h11, keepD (by decide) h12, keepD (by decide) h13, keepD (by decide) h14, keepD (by decide) h15, (fun h => by have := hD14 (by simpa using h); simpa using this), (fun h => by have := hD15 (by simpa using h); simpa using this), (fun h k => hN12_13 (by simpa using h) (by simpa using k)), hB⟩
    · skip
      have d7 := hdep _ rfl ⟨7, .data⟩ (by simp) rfl
      obtain ⟨X_7, c_7, rfl, k_7⟩ := h7 d7
      have d10 := hdep _ rfl ⟨10, .data⟩ (by simp) rfl
      obtain rfl := h10 d10
      refine wpOp_step rfl (fun K' hK' => ?_)
      go_simp
      refine (Calls.mono (C3.out w' X_7 c_7 k_7) ?_)
      rintro e W1 ⟨Xr, cr, rfl, kr, kb⟩
      refine hK' _ _ ?_
      exact ⟨_, _, _, _, _, _, _, _, _, _, _, _, _, _, rfl, keepD (by decide) h0, keepD (by decide) h1, keepD (by decide) h2, keepD (by decide) h3, keepP (by decide) h4 (fun h => h.below kb), keepD (by decide) h5, keepD (by decide) h6, keepP (by decide) h7 (fun h => h.below kb), keepD (by decide) h8, keepD (by decide) h9, keepD (by decide) h10, fun _ => ⟨Xr, cr, rfl, kr⟩, keepP (by decide) h12 (fun h => h.below kb), keepP (by decide) h13 (fun h => h.below kb), keepP (by decide) h14 (fun h => h.below kb), keepP (by decide) h15 (fun h => h.below kb), (fun h => by have := hD14 (by simpa using h); simpa using this), (fun h => by have := hD15 (by simpa using h); simpa using this), (fun h k => hN12_13 (by simpa using h) (by simpa using k)), Below.cons hB kb⟩
    · skip
      have kb : Below w'.heap.size w' (w'.alloc (.cells #[.bool false, .slice none 0 0] 24)) := (Below.refl _ _).alloc (Nat.le_refl _) _
      refine wpOp_step rfl (fun K' hK' => ?_)
      go_simp
      refine hK' _ _ ?_
      exact ⟨_, _, _, _, _, _, _, _, _, _, _, _, _, _, rfl, keepD (by decide) h0, keepD (by decide) h1, keepD (by decide) h2, keepD (by decide) h3, keepP (by decide) h4 (fun h => h.below kb), keepD (by decide) h5, keepD (by decide) h6, keepP (by decide) h7 (fun h => h.below kb), keepD (by decide) h8, keepD (by decide) h9, keepD (by decide) h10, keepP (by decide) h11 (fun h => h.below kb), fun _ => ⟨_, _, _, rfl, hB.size, ⟨at_new rfl⟩, notU_bool _, notU_slice _ _ _⟩, keepP (by decide) h13 (fun h => h.below kb), (fun h => by have h2 := hD14 (by simpa using h); rw [hEi] at h2; cases h2), keepP (by decide) h15 (fun h => h.below kb), (fun _ => by simp), (fun h => by have := hD15 (by simpa using h); simpa using this), (fun _ h => by obtain ⟨n2, e2, l2⟩ := (h13 (by simpa using h)).lt; rw [e2]; intro e3; simp at e3 <;> omega), Below.cons hB kb⟩
    · skip
      have kb : Below w'.heap.size w' (w'.alloc (.cells #[.bool false, .slice none 0 0] 24)) := (Below.refl _ _).alloc (Nat.le_refl _) _
      refine wpOp_step rfl (fun K' hK' => ?_)
      go_simp
      refine hK' _ _ ?_
      exact ⟨_, _, _, _, _, _, _, _, _, _, _, _, _, _, rfl, keepD (by decide) h0, keepD (by decide) h1, keepD (by decide) h2, keepD (by decide) h3, keepP (by decide) h4 (fun h => h.below kb), keepD (by decide) h5, keepD (by decide) h6, keepP (by decide) h7 (fun h => h.below kb), keepD (by decide) h8, keepD (by decide) h9, keepD (by decide) h10, keepP (by decide) h11 (fun h => h.below kb), keepP (by decide) h12 (fun h => h.below kb), fun _ => ⟨_, _, _, rfl, hB.size, ⟨at_new rfl⟩, notU_bool _, notU_slice _ _ _⟩, keepP (by decide) h14 (fun h => h.below kb), (fun h => by have h2 := hD15 (by simpa using h); rw [hEi] at h2; cases h2), (fun h => by have := hD14 (by simpa using h); simpa using this), (fun _ => by simp), (fun h _ => by obtain ⟨n2, e2, l2⟩ := (h12 (by simpa using h)).lt; rw [e2]; intro e3; simp at e3 <;> omega), Below.cons hB kb⟩
    · skip
      have d12 := hdep _ rfl ⟨12, .data⟩ (by simp) rfl
      obtain ⟨nb, z0, z1, rfl, hn, hb, nz0, nz1⟩ := h12 d12
      have d4 := hdep _ rfl ⟨4, .data⟩ (by simp) rfl
      obtain ⟨X_4, c_4, rfl, k_4⟩ := h4 d4
      have fz0 := hb.f (i := 0)
      have cz0 := hb.c (i := 0) rfl
      have fz1 := hb.f (i := 1)
      have cz1 := hb.c (i := 1) rfl
      have hp := hb.put2 (notU2 nz0 nz1) (.bool (sg u)) (.slice X_4 (nl (mg u)) c_4)
      have hs := hb.store2 (.bool (sg u)) (.slice X_4 (nl (mg u)) c_4)
      refine wpOp_step rfl (fun K' hK' => ?_)
      go_simp
      refine hK' _ _ ?_
      exact ⟨_, _, _, _, _, _, _, _, _, _, _, _, _, _, rfl, keepD (by decide) h0, keepD (by decide) h1, keepD (by decide) h2, keepD (by decide) h3, keepP (by decide) h4 (fun h => h.put hp), keepD (by decide) h5, keepD (by decide) h6, keepP (by decide) h7 (fun h => h.put hp), keepD (by decide) h8, keepD (by decide) h9, keepD (by decide) h10, keepP (by decide) h11 (fun h => h.put hp), (fun _ => ⟨nb, _, _, rfl, hn, hs, notU_bool _, notU_slice _ _ _⟩), keepP' (by decide) h13 (fun e h => h.put hp (fun e3 => hN12_13 d12 (by simpa using e) e3.symm)), fun _ => ⟨nb, X_4, c_4, rfl, hn, hs, hp.nat k_4⟩, keepP' (by decide) h15 (fun e h => h.put hp (fun e3 => hN12_13 d12 (hD15 (by simpa using e)) e3.symm)), (fun _ => by simp [d12]), (fun h => by have := hD15 (by simpa using h); simpa using this), (fun h k => hN12_13 (by simpa using h) (by simpa using k)), Below.store2 hB hn⟩
    · skip
      have d13 := hdep _ rfl ⟨13, .data⟩ (by simp) rfl
      obtain ⟨nb, z0, z1, rfl, hn, hb, nz0, nz1⟩ := h13 d13
      have d11 := hdep _ rfl ⟨11, .data⟩ (by simp) rfl
      obtain ⟨X_11, c_11, rfl, k_11⟩ := h11 d11
      have fz0 := hb.f (i := 0)
      have cz0 := hb.c (i := 0) rfl
      have fz1 := hb.f (i := 1)
      have cz1 := hb.c (i := 1) rfl
      have hp := hb.put2 (notU2 nz0 nz1) (.bool (sg v)) (.slice X_11 (nl (mg v)) c_11)
      have hs := hb.store2 (.bool (sg v)) (.slice X_11 (nl (mg v)) c_11)
      refine wpOp_step rfl (fun K' hK' => ?_)
      go_simp
      refine hK' _ _ ?_
      exact ⟨_, _, _, _, _, _, _, _, _, _, _, _, _, _, rfl, keepD (by decide) h0, keepD (by decide) h1, keepD (by decide) h2, keepD (by decide) h3, keepP (by decide) h4 (fun h => h.put hp), keepD (by decide) h5, keepD (by decide) h6, keepP (by decide) h7 (fun h => h.put hp), keepD (by decide) h8, keepD (by decide) h9, keepD (by decide) h10, keepP (by decide) h11 (fun h => h.put hp), keepP' (by decide) h12 (fun e h => h.put hp (hN12_13 (by simpa using e) d13)), (fun _ => ⟨nb, _, _, rfl, hn, hs, notU_bool _, notU_slice _ _ _⟩), keepP' (by decide) h14 (fun e h => h.put hp (hN12_13 (hD14 (by simpa using e)) d13)), fun _ => ⟨nb, X_11, c_11, rfl, hn, hs, hp.nat k_11⟩, (fun h => by have := hD14 (by simpa using h); simpa using this), (fun _ => by simp [d13]), (fun h k => hN12_13 (by simpa using h) (by simpa using k)), Below.store2 hB hn⟩
  case fin =>
    rintro E a' w' ⟨u19, u20, u21, u22, u23, u24, u25, u26, u27, u28, u29, u30, u8, u9, rfl, h0, h1, h2, h3, h4, h5, h6, h7, h8, h9, h10, h11, h12, h13, h14, h15, hD14, hD15, hN12_13, hB⟩ hall
    obtain ⟨nbu, Xu, cu, rfl, hnu, Ru, hu⟩ := h14 (hall 14 (by simp))
    obtain ⟨nbv, Xv, cv, rfl, hnv, Rv, hv⟩ := h15 (hall 15 (by simp))
    replace hq := hq.below hB
    replace gq := gq.below hB
    replace hT := hT.below hB
    replace Rq := Rq.below hB
    replace qq0 := cbl hB qq0
    replace qq1 := cbl hB qq1
    replace qq2 := cbl hB qq2
    replace Rr := Rr.below hB
    replace qr0 := cbl hB qr0
    replace qr1 := cbl hB qr1
    replace qr2 := cbl hB qr2
    replace HBT := Below.cons HBT hB
    have kvu := hnu
    have qu0 := Ru.c (i := 0) rfl
    have qu1 := Ru.c (i := 1) rfl
    have kvv := hnv
    have qv0 := Rv.c (i := 0) rfl
    have qv1 := Rv.c (i := 1) rfl
    clear hall
    go_wp2_with (fail)
    have lo2 := lo
    obtain ⟨y, Ey⟩ : ∃ zq : Int, zq = ovr u v dr := ⟨_, rfl⟩
    rw [← Ey] at lo
    refine (Calls.mono (R := RetI w' y) (by rw [Ey]; with_reducible exact over_c Xu cu u Xv cv v dr _ hu hv (by omega) (by omega) v0.out d0 d4) ?_)
    replace Ey := Lib.hid Ey
    rintro e W3 ⟨Xy, cy, rfl, hy, hb3⟩
    replace hq := hq.below hb3
    replace gq := gq.below hb3
    replace hT := hT.below hb3
    replace Rq := Rq.below hb3
    replace qq0 := cbl hb3 qq0
    replace qq1 := cbl hb3 qq1
    replace qq2 := cbl hb3 qq2
    replace Rr := Rr.below hb3
    replace qr0 := cbl hb3 qr0
    replace qr1 := cbl hb3 qr1
    replace qr2 := cbl hb3 qr2
    replace hu := hu.below hb3
    replace Ru := Ru.below hb3
    replace qu0 := cbl hb3 qu0
    replace qu1 := cbl hb3 qu1
    replace hv := hv.below hb3
    replace Rv := Rv.below hb3
    replace qv0 := cbl hb3 qv0
    replace qv1 := cbl hb3 qv1
    replace HBT := Below.cons HBT hb3
    clear hb3
    go_wp2_with (fail)
    obtain ⟨x, Ex⟩ : ∃ zq : Rat, zq = dval y (-n) := ⟨_, rfl⟩
    refine (Calls.mono (R := RetD W3 x) (by rw [Ex]; with_reducible exact dmake_c Xy cy y (-n) _ hy hT (by omega) (by omega)) ?_)
    replace Ex := Lib.hid Ex
    rintro e W4 ⟨Xx, cx, rfl, hx, hb4⟩
    replace hq := hq.below hb4
    replace gq := gq.below hb4
    replace hT := hT.below hb4
    replace Rq := Rq.below hb4
    replace qq0 := cbl hb4 qq0
    replace qq1 := cbl hb4 qq1
    replace qq2 := cbl hb4 qq2
    replace Rr := Rr.below hb4
    replace qr0 := cbl hb4 qr0
    replace qr1 := cbl hb4 qr1
    replace qr2 := cbl hb4 qr2
    replace hu := hu.below hb4
    replace Ru := Ru.below hb4
    replace qu0 := cbl hb4 qu0
    replace qu1 := cbl hb4 qu1
    replace hv := hv.below hb4
    replace Rv := Rv.below hb4
    replace qv0 := cbl hb4 qv0
    replace qv1 := cbl hb4 qv1
    replace hy := hy.below hb4
    replace HBT := Below.cons HBT hb4
    clear hb4
    have fzr0 := Rr.f (i := 0)
    have fzr1 := Rr.f (i := 1)
    have fzr2 := Rr.f (i := 2)
    go_wp2_with (fail)
    have eqx : x = dval (rnd dr (q * (2 : Rat) ^ n)) (-n) := by rw [Ex.out, Ey.out, hov.out]
    have RS := Rr.store3 (.bool (sg (dmn x))) (.slice Xx (nl (mg (dmn x))) cx) (.int .i64 (dex x))
    have e0 := RS.c (i := 0) rfl
    have e1 := RS.c (i := 1) rfl
    have e2 := RS.c (i := 2) rfl
    refine bodyPost_ret (v := .tuple #[.agg #[.bool (sg (dmn x)), .slice Xx (nl (mg (dmn x))) cx, .int .i64 (dex x)], .int .i64 0]) (by simp [results, Tryz.results15, go_sem, e0, e1, e2]) rfl ?_
    rw [← eqx]
    exact ⟨Xx, cx, rfl, Rr.keep3 (nuB rfl) hx, Below.store3 HBT (by omega)⟩
end Go.Proofs.YtpaffggdeedopaaGreatDoor

/- Dyadic numbers, walked: Round. -/
set_option linter.unusedVariables false
set_option linter.unusedSimpArgs false
namespace Go.Proofs.YtpaffggdeedopaaGreatDoor
open Go.RowKit Go.Shelf
attribute [local go_sem] max2_i min2_i max_two min_two

theorem dval_back {z n : Int} {a : Rat} (h : dval z (-n) = a) : a * (2 : Rat) ^ n = (z : Rat) := by
  rw [← h]; unfold dval
  rw [Rat.mul_assoc, ← zp_add, Int.add_left_neg, Rat.zpow_zero, Rat.mul_one]
theorem rnd_int (dr z : Int) : rnd dr (z : Rat) = z := by
  unfold rnd
  rw [Rat.floor_intCast, Rat.ceil_intCast]
  split
  · rfl
  · split
    · rfl
    · split <;> rfl
theorem round_same {a : Rat} {n : Int} (dr : Int) (h : Dyd a) (hn : -n ≤ dex a) : dval (rnd dr (a * (2 : Rat) ^ n)) (-n) = a := by
  have h1 := lev h hn
  rw [dval_back h1, rnd_int, h1]
theorem round_ovr {a : Rat} {n : Int} {k : Nat} (dr : Int) (h : Dyd a) (hk : -n - dex a = k) (h0 : 0 ≤ dr) (h4 : dr ≤ 4) : ovr (dmn a) ((2 ^ k : Nat) : Int) dr = rnd dr (a * (2 : Rat) ^ n) := by
  have e : a * (2 : Rat) ^ n = ((dmn a : Int) : Rat) / ((2 ^ k : Int) : Rat) := by
    conv => lhs; lhs; rw [← dval_q h]
    unfold dval
    rw [Rat.mul_assoc, ← zp_add, show dex a + n = -(k : Int) by omega, zp_neg, zp_int, Rat.div_def]
  rw [e, Int.natCast_pow]
  exact ovr_rnd (Int.pow_pos (by decide)) h0 h4
theorem round_neg (aA : Option Addr) (ac : Nat) (a : Rat) (n : Int) (dr : Int) (w : World) (ha : NatV w aA ac (mg (dmn a)))   (h0 : dr < 0) :
    Calls Tryz.prog 75 #[.agg #[.bool (sg (dmn a)), .slice aA (nl (mg (dmn a))) ac, .int .i64 (dex a)], .int .i64 n, .int .i64 dr] w (RetDe w 0 1) := by
  have t1 : decide (dr < 0) = true := decide_eq_true h0
  obtain ⟨hb1, Ra, Rr⟩ := bx2 w #[.bool (sg (dmn a)), .slice aA (nl (mg (dmn a))) ac, .int .i64 (dex a)] 31 #[.bool false, .slice none 0 0, .int .i64 0] 31
  replace ha := ha.below hb1
  have HBT := hb1
  clear hb1
  have qa0 := Ra.c (i := 0) rfl
  have qa1 := Ra.c (i := 1) rfl
  have qa2 := Ra.c (i := 2) rfl
  have qr0 := Rr.c (i := 0) rfl
  have qr1 := Rr.c (i := 1) rfl
  have qr2 := Rr.c (i := 2) rfl
  have fzr0 := Rr.f (i := 0)
  have fzr1 := Rr.f (i := 1)
  have fzr2 := Rr.f (i := 2)
  go_enter Tryz.func75, Tryz.ntmps75
  go_wp2_with (fail)
  have RS := Rr
  have e0 := RS.c (i := 0) rfl
  have e1 := RS.c (i := 1) rfl
  have e2 := RS.c (i := 2) rfl
  refine bodyPost_ret (v := .tuple #[.agg #[.bool false, .slice none 0 0, .int .i64 0], .int .i64 1]) (by simp [results, Tryz.results75, go_sem, e0, e1, e2]) rfl ?_
  exact ⟨none, 0, by rw [dmn_zero, dex_zero, mg0, sg0, nl_zero], nat_none _, HBT⟩
theorem round_same_c (aA : Option Addr) (ac : Nat) (a : Rat) (n : Int) (dr : Int) (w : World) (ha : NatV w aA ac (mg (dmn a)))   (oa : DOk a) (d0 : 0 ≤ dr) (d4 : dr ≤ 4) (ln : -1000000 ≤ n ∧ n ≤ 1000000) (hn : -n ≤ dex a) :
    Calls Tryz.prog 75 #[.agg #[.bool (sg (dmn a)), .slice aA (nl (mg (dmn a))) ac, .int .i64 (dex a)], .int .i64 n, .int .i64 dr] w (RetDe w (dval (rnd dr (a * (2 : Rat) ^ n)) (-n)) 0) := by
  have t1 : decide (dr < 0) = false := decide_eq_false (by omega)
  have t2 : decide (5 ≤ dr) = false := decide_eq_false (by omega)
  have Wn : IntKind.i64.wrap (-n) = -n := IntWalk.i64_in _ (by omega)
  have hl := oa.l
  have he := oa.e
  have t3 : decide (-n ≤ dex a) = true := decide_eq_true hn
  have hv := round_same dr oa.d hn
  replace hv := Lib.hid hv
  replace oa := Lib.hid oa
  replace he := Lib.hid he
  obtain ⟨hb1, Ra, Rr⟩ := bx2 w #[.bool (sg (dmn a)), .slice aA (nl (mg (dmn a))) ac, .int .i64 (dex a)] 31 #[.bool false, .slice none 0 0, .int .i64 0] 31
  replace ha := ha.below hb1
  have HBT := hb1
  clear hb1
  have qa0 := Ra.c (i := 0) rfl
  have qa1 := Ra.c (i := 1) rfl
  have qa2 := Ra.c (i := 2) rfl
  have qr0 := Rr.c (i := 0) rfl
  have qr1 := Rr.c (i := 1) rfl
  have qr2 := Rr.c (i := 2) rfl
  go_enter Tryz.func75, Tryz.ntmps75
  go_wp2_with (fail)
  refine (Calls.mono (ways_c _) ?_)
  rintro e W2 ⟨rfl, hb2⟩
  replace ha := ha.below hb2
  replace Ra := Ra.below hb2
  replace qa0 := cbl hb2 qa0
  replace qa1 := cbl hb2 qa1
  replace qa2 := cbl hb2 qa2
  replace Rr := Rr.below hb2
  replace qr0 := cbl hb2 qr0
  replace qr1 := cbl hb2 qr1
  replace qr2 := cbl hb2 qr2
  replace HBT := Below.cons HBT hb2
  clear hb2
  have fzr0 := Rr.f (i := 0)
  have fzr1 := Rr.f (i := 1)
  have fzr2 := Rr.f (i := 2)
  go_wp2_with (fail)
  have RS := Rr.store3 (.bool (sg (dmn a))) (.slice aA (nl (mg (dmn a))) ac) (.int .i64 (dex a))
  have e0 := RS.c (i := 0) rfl
  have e1 := RS.c (i := 1) rfl
  have e2 := RS.c (i := 2) rfl
  refine bodyPost_ret (v := .tuple #[.agg #[.bool (sg (dmn a)), .slice aA (nl (mg (dmn a))) ac, .int .i64 (dex a)], .int .i64 0]) (by simp [results, Tryz.results75, go_sem, e0, e1, e2]) rfl ?_
  rw [hv.out]
  exact ⟨aA, ac, rfl, Rr.keep3 (nuB rfl) ha, Below.store3 HBT (by omega)⟩
theorem round_cut_c (aA : Option Addr) (ac : Nat) (a : Rat) (n : Int) (dr : Int) (w : World) (ha : NatV w aA ac (mg (dmn a)))   (oa : DOk a) (d0 : 0 ≤ dr) (d4 : dr ≤ 4) (ln : -1000000 ≤ n ∧ n ≤ 1000000) (hT : Tab w) (hn : dex a < -n) :
    Calls Tryz.prog 75 #[.agg #[.bool (sg (dmn a)), .slice aA (nl (mg (dmn a))) ac, .int .i64 (dex a)], .int .i64 n, .int .i64 dr] w (RetDe w (dval (rnd dr (a * (2 : Rat) ^ n)) (-n)) 0) := by
  have t1 : decide (dr < 0) = false := decide_eq_false (by omega)
  have t2 : decide (5 ≤ dr) = false := decide_eq_false (by omega)
  have Wn : IntKind.i64.wrap (-n) = -n := IntWalk.i64_in _ (by omega)
  have hl := oa.l
  have he := oa.e
  have t3 : decide (-n ≤ dex a) = false := decide_eq_false (by omega)
  obtain ⟨k, hk⟩ := Int.eq_ofNat_of_zero_le (show 0 ≤ -n - dex a by omega)
  have hv := round_ovr dr oa.d hk d0 d4
  have Wk : IntKind.i64.wrap (-n - dex a) = (k : Int) := by rw [hk]; exact IntWalk.i64_in _ (by omega)
  have lk : k ≤ 2000000 := by omega
  have Wk2 : IntKind.i64.wrap (k : Int) = (k : Int) := IntWalk.i64_in _ (by omega)
  replace oa := Lib.hid oa
  replace he := Lib.hid he
  obtain ⟨hb1, Ra, Rr⟩ := bx2 w #[.bool (sg (dmn a)), .slice aA (nl (mg (dmn a))) ac, .int .i64 (dex a)] 31 #[.bool false, .slice none 0 0, .int .i64 0] 31
  replace ha := ha.below hb1
  replace hT := hT.below hb1
  have HBT := hb1
  clear hb1
  have qa0 := Ra.c (i := 0) rfl
  have qa1 := Ra.c (i := 1) rfl
  have qa2 := Ra.c (i := 2) rfl
  have qr0 := Rr.c (i := 0) rfl
  have qr1 := Rr.c (i := 1) rfl
  have qr2 := Rr.c (i := 2) rfl
  go_enter Tryz.func75, Tryz.ntmps75
  go_wp2_with (fail)
  refine (Calls.mono (ways_c _) ?_)
  rintro e W2 ⟨rfl, hb2⟩
  replace ha := ha.below hb2
  replace hT := hT.below hb2
  replace Ra := Ra.below hb2
  replace qa0 := cbl hb2 qa0
  replace qa1 := cbl hb2 qa1
  replace qa2 := cbl hb2 qa2
  replace Rr := Rr.below hb2
  replace qr0 := cbl hb2 qr0
  replace qr1 := cbl hb2 qr1
  replace qr2 := cbl hb2 qr2
  replace HBT := Below.cons HBT hb2
  clear hb2
  go_wp2_with (fail)
  have hd3 := drb (W2)
  replace ha := ha.below hd3
  replace hT := hT.below hd3
  replace Ra := Ra.below hd3
  replace qa0 := cbl hd3 qa0
  replace qa1 := cbl hd3 qa1
  replace qa2 := cbl hd3 qa2
  replace Rr := Rr.below hd3
  replace qr0 := cbl hd3 qr0
  replace qr1 := cbl hd3 qr1
  replace qr2 := cbl hd3 qr2
  replace HBT := Below.cons HBT hd3
  clear hd3
  obtain ⟨o, Eo⟩ : ∃ zq : Int, zq = (1 : Int) := ⟨_, rfl⟩
  have No : nl (mg o) ≤ 1 := by rw [Eo]; exact Nat.le_of_eq nl_one
  have C3_0 := fun (W : World) => (show Calls Tryz.prog 108 #[.int .i64 1] W (RetI W o) by rw [Eo]; exact iof1_c W)
  replace Eo := Lib.hid Eo
  replace C3_0 := Lib.hid C3_0
  obtain ⟨p, Ep⟩ : ∃ zq : Int, zq = shf o (k : Int) := ⟨_, rfl⟩
  have Vp : p = ((2 ^ k : Nat) : Int) := by rw [Ep, Eo.out]; exact shf_one k
  have Pp : 0 < p := by rw [Vp]; have := Nat.two_pow_pos k; omega
  have Np : nl (mg p) ≤ 162502 := by rw [Vp, mg_nat, nl_two_pow]; omega
  have lo := ovr_nl (dmn a) dr Pp
  rw [← Vp] at hv
  replace hv := Lib.hid hv
  replace Vp := Lib.hid Vp
  have C3_1 := fun (W : World) (A : Option Addr) (c : Nat) (h1 : NatV W A c (mg o)) => ishift_c A c o (k : Int) W h1 (by omega) (by omega)
  simp only [← Ep] at C3_1
  replace Ep := Lib.hid Ep
  replace C3_1 := Lib.hid C3_1
  obtain ⟨y, Ey⟩ : ∃ zq : Int, zq = ovr (dmn a) p dr := ⟨_, rfl⟩
  rw [← Ey] at lo
  have C3_2 := fun (W : World) (A : Option Addr) (c : Nat) (h1 : NatV W aA ac (mg (dmn a))) (h2 : NatV W A c (mg p)) => over_c aA ac (dmn a) A c p dr W h1 h2 (by omega) (by omega) Pp d0 d4
  simp only [← Ey] at C3_2
  replace Ey := Lib.hid Ey
  replace C3_2 := Lib.hid C3_2
  obtain ⟨x, Ex⟩ : ∃ zq : Rat, zq = dval y (-n) := ⟨_, rfl⟩
  have C3_3 := fun (W : World) (A : Option Addr) (c : Nat) (h1 : NatV W A c (mg y)) (h2 : Tab W) => dmake_c A c y (-n) W h1 h2 (by omega) (by omega)
  simp only [← Ex] at C3_3
  replace Ex := Lib.hid Ex
  replace C3_3 := Lib.hid C3_3
  go_region_held3 (fun W => W.cell? ⟨w.heap.size, 0, none⟩ = some (.bool (sg (dmn a))) ∧ W.cell? ⟨w.heap.size, 1, none⟩ = some (.slice aA (nl (mg (dmn a))) ac) ∧ W.cell? ⟨w.heap.size, 2, none⟩ = some (.int .i64 (dex a)))
    (first
      | exact ⟨qa0, qa1, qa2⟩
      | exact ⟨qa0_4, qa1_4, qa2_4⟩
      | exact ⟨qa0_5, qa1_5, qa2_5⟩
      | exact ⟨qa0_6, qa1_6, qa2_6⟩
      | exact ⟨qa0_7, qa1_7, qa2_7⟩
      | exact ⟨((Ra_7.other3 (by simp <;> omega)).c (i := 0) rfl), ((Ra_7.other3 (by simp <;> omega)).c (i := 1) rfl), ((Ra_7.other3 (by simp <;> omega)).c (i := 2) rfl)⟩
      | go_keep)
    (first
      | (go_at_call 108; (with_reducible refine (C3_0.out _).mono ?_); rintro e W4 ⟨Xo, co, rfl, ho, hb4⟩; have ha_4 := ha.below hb4; have hT_4 := hT.below hb4; have Ra_4 := Ra.below hb4; have qa0_4 := cbl hb4 qa0; have qa1_4 := cbl hb4 qa1; have qa2_4 := cbl hb4 qa2; have Rr_4 := Rr.below hb4; have qr0_4 := cbl hb4 qr0; have qr1_4 := cbl hb4 qr1; have qr2_4 := cbl hb4 qr2; have HBT_4 := Below.cons HBT hb4)
      | (go_at_call 81; (with_reducible refine (C3_1.out _ _ _ ho).mono ?_); rintro e W5 ⟨Xp, cp, rfl, hp, hb5⟩; have ha_5 := ha_4.below hb5; have hT_5 := hT_4.below hb5; have Ra_5 := Ra_4.below hb5; have qa0_5 := cbl hb5 qa0_4; have qa1_5 := cbl hb5 qa1_4; have qa2_5 := cbl hb5 qa2_4; have Rr_5 := Rr_4.below hb5; have qr0_5 := cbl hb5 qr0_4; have qr1_5 := cbl hb5 qr1_4; have qr2_5 := cbl hb5 qr2_4; have ho_5 := ho.below hb5; have HBT_5 := Below.cons HBT_4 hb5)
      | (go_at_call 83; (with_reducible refine (C3_2.out _ _ _ ha_5 hp).mono ?_); rintro e W6 ⟨Xy, cy, rfl, hy, hb6⟩; have ha_6 := ha_5.below hb6; have hT_6 := hT_5.below hb6; have Ra_6 := Ra_5.below hb6; have qa0_6 := cbl hb6 qa0_5; have qa1_6 := cbl hb6 qa1_5; have qa2_6 := cbl hb6 qa2_5; have Rr_6 := Rr_5.below hb6; have qr0_6 := cbl hb6 qr0_5; have qr1_6 := cbl hb6 qr1_5; have qr2_6 := cbl hb6 qr2_5; have ho_6 := ho_5.below hb6; have hp_6 := hp.below hb6; have HBT_6 := Below.cons HBT_5 hb6)
      | (go_at_call 28; (with_reducible refine (C3_3.out _ _ _ hy hT_6).mono ?_); rintro e W7 ⟨Xx, cx, rfl, hx, hb7⟩; have ha_7 := ha_6.below hb7; have hT_7 := hT_6.below hb7; have Ra_7 := Ra_6.below hb7; have qa0_7 := cbl hb7 qa0_6; have qa1_7 := cbl hb7 qa1_6; have qa2_7 := cbl hb7 qa2_6; have Rr_7 := Rr_6.below hb7; have qr0_7 := cbl hb7 qr0_6; have qr1_7 := cbl hb7 qr1_6; have qr2_7 := cbl hb7 qr2_6; have ho_7 := ho_6.below hb7; have hp_7 := hp_6.below hb7; have hy_7 := hy.below hb7; have HBT_7 := Below.cons HBT_6 hb7; have fz0 := Rr_7.f (i := 0); have fz1 := Rr_7.f (i := 1); have fz2 := Rr_7.f (i := 2)))
  all_goals (try go_wp2_with (fail))
  have eqx : x = dval (rnd dr (a * (2 : Rat) ^ n)) (-n) := by rw [Ex.out, Ey.out, hv.out]
  have RS := Rr_7.store3 (.bool (sg (dmn x))) (.slice Xx (nl (mg (dmn x))) cx) (.int .i64 (dex x))
  have e0 := RS.c (i := 0) rfl
  have e1 := RS.c (i := 1) rfl
  have e2 := RS.c (i := 2) rfl
  refine bodyPost_ret (v := .tuple #[.agg #[.bool (sg (dmn x)), .slice Xx (nl (mg (dmn x))) cx, .int .i64 (dex x)], .int .i64 0]) (by simp [results, Tryz.results75, go_sem, e0, e1, e2]) rfl ?_
  rw [← eqx]
  exact ⟨Xx, cx, rfl, Rr_7.keep3 (nuB rfl) hx, Below.store3 HBT_7 (by omega)⟩
theorem dround_c (aA : Option Addr) (ac : Nat) (a : Rat) (n dr : Int) (w : World) (ha : NatV w aA ac (mg (dmn a))) (hT : Tab w) (oa : DOk a) (d0 : 0 ≤ dr) (d4 : dr ≤ 4) (ln : -1000000 ≤ n ∧ n ≤ 1000000) :
    Calls Tryz.prog 75 #[.agg #[.bool (sg (dmn a)), .slice aA (nl (mg (dmn a))) ac, .int .i64 (dex a)], .int .i64 n, .int .i64 dr] w (RetDe w (dval (rnd dr (a * (2 : Rat) ^ n)) (-n)) 0) := by
  by_cases h : -n ≤ dex a
  · exact round_same_c aA ac a n dr w ha oa d0 d4 ln h
  · exact round_cut_c aA ac a n dr w ha oa d0 d4 ln hT (by omega)
end Go.Proofs.YtpaffggdeedopaaGreatDoor

/- The document's dyadic numbers, walked: Make. -/
set_option linter.unusedVariables false
set_option linter.unusedSimpArgs false
namespace Go.Proofs.YtpaffggdeedopaaGreatDoor
open Go.RowKit Go.Shelf
attribute [local go_sem] max2_i min2_i max_two min_two

end Go.Proofs.YtpaffggdeedopaaGreatDoor

/- The document's dyadic numbers, walked: power, Rat. -/
set_option linter.unusedVariables false
set_option linter.unusedSimpArgs false
namespace Go.Proofs.YtpaffggdeedopaaGreatDoor
open Go.RowKit Go.Shelf
attribute [local go_sem] max2_i min2_i max_two min_two

theorem zof1_c (w : World) : Calls Tryz.prog 18 #[.int .i64 1] w (RetI w 1) := zof_c 1 w (by decide) (by decide)
theorem pow_up (k : Nat) : ((shf 1 (k : Int) : Int) : Rat) = (2 : Rat) ^ (k : Int) := by
  rw [shf_one, zp_int, Int.natCast_pow]; rfl
theorem pow_mk (k : Nat) : mkRat 1 (2 ^ k) = (2 : Rat) ^ (-(k : Int)) := by
  rw [← dval_den]; unfold dval; simp
theorem pow_dn (k : Nat) : Rat.divInt 1 (shf 1 (k : Int)) = (2 : Rat) ^ (-(k : Int)) := by
  rw [shf_one, Rat.divInt_ofNat, pow_mk]
theorem pow_sz (n : Int) (h : -1000000 ≤ n ∧ n ≤ 1000000) : nl (mg ((2 : Rat) ^ n).num) ≤ 31251 ∧ nl ((2 : Rat) ^ n).den ≤ 31251 := by
  rcases Int.lt_or_le n 0 with hn | hn
  · obtain ⟨k, rfl⟩ := Int.exists_eq_neg_ofNat (show n ≤ 0 by omega)
    rw [← pow_mk]
    have h0 : (2 ^ k : Nat) ≠ 0 := Nat.pos_iff_ne_zero.1 (Nat.two_pow_pos k)
    rw [Rat.num_mkRat, Rat.den_mkRat, if_neg h0, if_neg h0]
    have hd := nl_div (2 ^ k) (Nat.gcd (2 ^ k) (Int.natAbs 1))
    have hp := nl_two_pow k
    have hm : mg (1 / ((Nat.gcd (2 ^ k) (Int.natAbs 1) : Nat) : Int)) ≤ 1 := Int.natAbs_ediv_le_natAbs 1 _
    have h1 := nl_mono hm
    rw [nl_one] at h1
    constructor
    · omega
    · omega
  · obtain ⟨k, rfl⟩ := Int.eq_ofNat_of_zero_le hn
    rw [← pow_up, Rat.num_intCast, Rat.den_intCast, shf_one, mg_nat, nl_two_pow, nl_one]
    constructor <;> omega
theorem dval_eq (a : Rat) (h : Dyd a) : ((dmn a : Int) : Rat) * (2 : Rat) ^ dex a = a := dval_q h
theorem tpow_u (n : Int) (w : World)  (n0 : 0 ≤ n) (n1 : n ≤ 1000000) :
    Calls Tryz.prog 86 #[.int .i64 n] w (RetR w ((2 : Rat) ^ n)) := by
  obtain ⟨k, rfl⟩ := Int.eq_ofNat_of_zero_le n0
  have t1 : decide (0 ≤ (k : Int)) = true := by simp
  have hv := pow_up k
  have hk : k ≤ 1000000 := by omega
  replace hv := Lib.hid hv
  obtain ⟨hb1, Rr⟩ := bx1 w #[.bool false, .slice none 0 0, .slice none 0 0] 26
  have HBT := hb1
  clear hb1
  have qr0 := Rr.c (i := 0) rfl
  have qr1 := Rr.c (i := 1) rfl
  have qr2 := Rr.c (i := 2) rfl
  go_enter Tryz.func86, Tryz.ntmps86
  go_wp2_with (fail)
  obtain ⟨o, Eo⟩ : ∃ zq : Int, zq = 1 := ⟨_, rfl⟩
  have No : nl (mg o) ≤ 1 := by rw [Eo]; exact Nat.le_of_eq nl_one
  refine (Calls.mono (R := RetI (w.alloc (.cells #[.bool false, .slice none 0 0, .slice none 0 0] 26)) o) (by rw [Eo]; with_reducible exact (zof1_c _)) ?_)
  replace Eo := Lib.hid Eo
  rintro e W2 ⟨Xo, co, rfl, ho, hb2⟩
  replace Rr := Rr.below hb2
  replace qr0 := cbl hb2 qr0
  replace qr1 := cbl hb2 qr1
  replace qr2 := cbl hb2 qr2
  replace HBT := Below.cons HBT hb2
  clear hb2
  go_wp2_with (fail)
  obtain ⟨p, Ep⟩ : ∃ zq : Int, zq = shf o (k : Int) := ⟨_, rfl⟩
  refine (Calls.mono (R := RetI W2 p) (by rw [Ep]; with_reducible exact (zshift_c Xo co o (k : Int) _ ho (by omega) (by omega))) ?_)
  replace Ep := Lib.hid Ep
  rintro e W3 ⟨Xp, cp, rfl, hp, hb3⟩
  replace Rr := Rr.below hb3
  replace qr0 := cbl hb3 qr0
  replace qr1 := cbl hb3 qr1
  replace qr2 := cbl hb3 qr2
  replace ho := ho.below hb3
  replace HBT := Below.cons HBT hb3
  clear hb3
  go_wp2_with (fail)
  obtain ⟨q, Eq⟩ : ∃ zq : Rat, zq = (p : Rat) := ⟨_, rfl⟩
  refine (Calls.mono (R := RetR W3 q) (by rw [Eq]; with_reducible exact (r9whole_c Xp cp p _ hp)) ?_)
  replace Eq := Lib.hid Eq
  rintro e W4 ⟨Xq, cq, Yq, dq, rfl, hq, gq, hb4⟩
  replace Rr := Rr.below hb4
  replace qr0 := cbl hb4 qr0
  replace qr1 := cbl hb4 qr1
  replace qr2 := cbl hb4 qr2
  replace ho := ho.below hb4
  replace hp := hp.below hb4
  replace HBT := Below.cons HBT hb4
  clear hb4
  have fzr0 := Rr.f (i := 0)
  have fzr1 := Rr.f (i := 1)
  have fzr2 := Rr.f (i := 2)
  go_wp2_with (fail)
  have hzq : q = ((2 : Rat) ^ (k : Int)) := by rw [Eq.out, Ep.out, Eo.out]; exact hv.out
  subst hzq
  have RS := Rr.store3 (.bool (sg ((((2 : Rat) ^ (k : Int)))).num)) (.slice Xq (nl (mg ((((2 : Rat) ^ (k : Int)))).num)) cq) (.slice Yq (nl ((((2 : Rat) ^ (k : Int)))).den) dq)
  have e0 := RS.c (i := 0) rfl
  have e1 := RS.c (i := 1) rfl
  have e2 := RS.c (i := 2) rfl
  refine bodyPost_ret (v := .agg #[.bool (sg ((((2 : Rat) ^ (k : Int)))).num), .slice Xq (nl (mg ((((2 : Rat) ^ (k : Int)))).num)) cq, .slice Yq (nl ((((2 : Rat) ^ (k : Int)))).den) dq]) (by simp [results, Tryz.results86, go_sem, e0, e1, e2]) rfl ?_
  exact ⟨Xq, cq, Yq, dq, rfl, (Rr.keep3 (nuB rfl) hq), (Rr.keep3 (nuB rfl) gq), (Below.store3 HBT (by first | exact Nat.le_refl _ | omega))⟩
theorem tpow_d (n : Int) (w : World)  (n0 : n < 0) (n1 : -1000000 ≤ n) :
    Calls Tryz.prog 86 #[.int .i64 n] w (RetR w ((2 : Rat) ^ n)) := by
  obtain ⟨k, hk⟩ := Int.eq_ofNat_of_zero_le (show 0 ≤ -n by omega)
  have t1 : decide (0 ≤ n) = false := by simp; exact n0
  have lk : k ≤ 1000000 := by omega
  have Wk : IntKind.i64.wrap (k : Int) = (k : Int) := IntWalk.i64_in _ (by omega)
  have hv := pow_dn k
  rw [show -(k : Int) = n by omega] at hv
  replace hv := Lib.hid hv
  obtain ⟨hb1, Rr⟩ := bx1 w #[.bool false, .slice none 0 0, .slice none 0 0] 26
  have HBT := hb1
  clear hb1
  have qr0 := Rr.c (i := 0) rfl
  have qr1 := Rr.c (i := 1) rfl
  have qr2 := Rr.c (i := 2) rfl
  go_enter Tryz.func86, Tryz.ntmps86
  go_wp2_with (fail)
  obtain ⟨o, Eo⟩ : ∃ zq : Int, zq = 1 := ⟨_, rfl⟩
  have No : nl (mg o) ≤ 1 := by rw [Eo]; exact Nat.le_of_eq nl_one
  refine (Calls.mono (R := RetI (w.alloc (.cells #[.bool false, .slice none 0 0, .slice none 0 0] 26)) o) (by rw [Eo]; with_reducible exact (zof1_c _)) ?_)
  replace Eo := Lib.hid Eo
  rintro e W2 ⟨Xo, co, rfl, ho, hb2⟩
  replace Rr := Rr.below hb2
  replace qr0 := cbl hb2 qr0
  replace qr1 := cbl hb2 qr1
  replace qr2 := cbl hb2 qr2
  replace HBT := Below.cons HBT hb2
  clear hb2
  go_wp2_with (fail)
  obtain ⟨o2, Eo2⟩ : ∃ zq : Int, zq = 1 := ⟨_, rfl⟩
  have No2 : nl (mg o2) ≤ 1 := by rw [Eo2]; exact Nat.le_of_eq nl_one
  refine (Calls.mono (R := RetI W2 o2) (by rw [Eo2]; with_reducible exact (zof1_c _)) ?_)
  replace Eo2 := Lib.hid Eo2
  rintro e W3 ⟨Xo2, co2, rfl, ho2, hb3⟩
  replace Rr := Rr.below hb3
  replace qr0 := cbl hb3 qr0
  replace qr1 := cbl hb3 qr1
  replace qr2 := cbl hb3 qr2
  replace ho := ho.below hb3
  replace HBT := Below.cons HBT hb3
  clear hb3
  go_wp2_with (fail)
  obtain ⟨p, Ep⟩ : ∃ zq : Int, zq = shf o2 (k : Int) := ⟨_, rfl⟩
  have Vp : p = ((2 ^ k : Nat) : Int) := by rw [Ep, Eo2.out]; exact shf_one k
  have Pp : 0 < p := by rw [Vp]; have := Nat.two_pow_pos k; omega
  have Np : nl (mg p) ≤ 1048576 := by rw [Vp, mg_nat, nl_two_pow]; omega
  replace Vp := Lib.hid Vp
  refine (Calls.mono (R := RetI W3 p) (by rw [Ep]; with_reducible exact (zshift_c Xo2 co2 o2 (k : Int) _ ho2 (by omega) (by omega))) ?_)
  replace Ep := Lib.hid Ep
  rintro e W4 ⟨Xp, cp, rfl, hp, hb4⟩
  replace Rr := Rr.below hb4
  replace qr0 := cbl hb4 qr0
  replace qr1 := cbl hb4 qr1
  replace qr2 := cbl hb4 qr2
  replace ho := ho.below hb4
  replace ho2 := ho2.below hb4
  replace HBT := Below.cons HBT hb4
  clear hb4
  go_wp2_with (fail)
  obtain ⟨q, Eq⟩ : ∃ z : Rat, z = Rat.divInt o p := ⟨_, rfl⟩
  have CM := r9make_c Xo co o Xp cp p W4 ho hp (by omega) (by omega) Pp
  rw [← Eq] at CM
  replace CM := Lib.hid CM
  replace Eq := Lib.hid Eq
  refine (Calls.mono CM.out ?_)
  clear CM
  rintro e W5 ⟨Xq, cq, Yq, dq, rfl, hq, gq, hb5⟩
  replace Rr := Rr.below hb5
  replace qr0 := cbl hb5 qr0
  replace qr1 := cbl hb5 qr1
  replace qr2 := cbl hb5 qr2
  replace ho := ho.below hb5
  replace ho2 := ho2.below hb5
  replace hp := hp.below hb5
  replace HBT := Below.cons HBT hb5
  clear hb5
  obtain ⟨hb6, Rq⟩ := bx1 W5 #[.bool (sg q.num), .slice Xq (nl (mg q.num)) cq, .slice Yq (nl q.den) dq] 26
  replace Rr := Rr.below hb6
  replace qr0 := cbl hb6 qr0
  replace qr1 := cbl hb6 qr1
  replace qr2 := cbl hb6 qr2
  replace ho := ho.below hb6
  replace ho2 := ho2.below hb6
  replace hp := hp.below hb6
  replace hq := hq.below hb6
  replace gq := gq.below hb6
  replace HBT := Below.cons HBT hb6
  clear hb6
  have qq0 := Rq.c (i := 0) rfl
  have qq1 := Rq.c (i := 1) rfl
  have qq2 := Rq.c (i := 2) rfl
  have fzr0 := Rr.f (i := 0)
  have fzr1 := Rr.f (i := 1)
  have fzr2 := Rr.f (i := 2)
  go_wp2_with (fail)
  have hzq : q = ((2 : Rat) ^ n) := by rw [Eq.out, Ep.out, Eo.out, Eo2.out]; exact hv.out
  subst hzq
  have RS := Rr.store3 (.bool (sg ((((2 : Rat) ^ n))).num)) (.slice Xq (nl (mg ((((2 : Rat) ^ n))).num)) cq) (.slice Yq (nl ((((2 : Rat) ^ n))).den) dq)
  have e0 := RS.c (i := 0) rfl
  have e1 := RS.c (i := 1) rfl
  have e2 := RS.c (i := 2) rfl
  refine bodyPost_ret (v := .agg #[.bool (sg ((((2 : Rat) ^ n))).num), .slice Xq (nl (mg ((((2 : Rat) ^ n))).num)) cq, .slice Yq (nl ((((2 : Rat) ^ n))).den) dq]) (by simp [results, Tryz.results86, go_sem, e0, e1, e2]) rfl ?_
  exact ⟨Xq, cq, Yq, dq, rfl, (Rr.keep3 (nuB rfl) hq), (Rr.keep3 (nuB rfl) gq), (Below.store3 HBT (by first | exact Nat.le_refl _ | omega))⟩
theorem tpow_c (n : Int) (w : World) (ln : -1000000 ≤ n ∧ n ≤ 1000000) :
    Calls Tryz.prog 86 #[.int .i64 n] w (RetR w ((2 : Rat) ^ n)) := by
  by_cases h : 0 ≤ n
  · exact tpow_u n w h ln.2
  · exact tpow_d n w (by omega) ln.1
theorem trat_c (aA : Option Addr) (ac : Nat) (a : Rat) (w : World) (ha : NatV w aA ac (mg (dmn a))) (oa : DOk a) :
    Calls Tryz.prog 17 #[.agg #[.bool (sg (dmn a)), .slice aA (nl (mg (dmn a))) ac, .int .i64 (dex a)]] w (RetR w a) := by
  have hl := oa.l
  have he := oa.e
  have eqv := dval_eq a oa.d
  have hp := pow_sz (dex a) he
  replace eqv := Lib.hid eqv
  replace oa := Lib.hid oa
  obtain ⟨hb1, Ra, Rr⟩ := bx2 w #[.bool (sg (dmn a)), .slice aA (nl (mg (dmn a))) ac, .int .i64 (dex a)] 31 #[.bool false, .slice none 0 0, .slice none 0 0] 26
  replace ha := ha.below hb1
  have HBT := hb1
  clear hb1
  have qa0 := Ra.c (i := 0) rfl
  have qa1 := Ra.c (i := 1) rfl
  have qa2 := Ra.c (i := 2) rfl
  have qr0 := Rr.c (i := 0) rfl
  have qr1 := Rr.c (i := 1) rfl
  have qr2 := Rr.c (i := 2) rfl
  go_enter Tryz.func17, Tryz.ntmps17
  go_wp2_with (fail)
  have hd2 := drb (((w.alloc (.cells #[.bool (sg (dmn a)), .slice aA (nl (mg (dmn a))) ac, .int .i64 (dex a)] 31)).alloc (.cells #[.bool false, .slice none 0 0, .slice none 0 0] 26)))
  replace ha := ha.below hd2
  replace Ra := Ra.below hd2
  replace qa0 := cbl hd2 qa0
  replace qa1 := cbl hd2 qa1
  replace qa2 := cbl hd2 qa2
  replace Rr := Rr.below hd2
  replace qr0 := cbl hd2 qr0
  replace qr1 := cbl hd2 qr1
  replace qr2 := cbl hd2 qr2
  replace HBT := Below.cons HBT hd2
  clear hd2
  obtain ⟨u, Eu⟩ : ∃ zq : Rat, zq = ((dmn a : Int) : Rat) := ⟨_, rfl⟩
  have Nu : nl (mg u.num) ≤ 262144 := by rw [Eu, Rat.num_intCast]; omega
  have Mu : nl u.den ≤ 262144 := by rw [Eu, Rat.den_intCast, nl_one]; decide
  have C2_0 := fun (W : World) (h1 : NatV W aA ac (mg (dmn a))) => r9whole_c aA ac (dmn a) W h1
  simp only [← Eu] at C2_0
  replace Eu := Lib.hid Eu
  replace C2_0 := Lib.hid C2_0
  obtain ⟨v, Ev⟩ : ∃ zq : Rat, zq = (2 : Rat) ^ dex a := ⟨_, rfl⟩
  have Nv : nl (mg v.num) ≤ 262144 := by rw [Ev]; omega
  have Mv : nl v.den ≤ 262144 := by rw [Ev]; omega
  have C2_1 := fun (W : World) => tpow_c (dex a) W he
  simp only [← Ev] at C2_1
  replace Ev := Lib.hid Ev
  replace C2_1 := Lib.hid C2_1
  obtain ⟨q, Eq⟩ : ∃ zq : Rat, zq = u * v := ⟨_, rfl⟩
  have C2_2 := fun (W : World) (A : Option Addr) (c : Nat) (B : Option Addr) (d : Nat) (A2 : Option Addr) (c2 : Nat) (B2 : Option Addr) (d2 : Nat) (h1 : NatV W A c (mg u.num)) (h2 : NatV W B d u.den) (h3 : NatV W A2 c2 (mg v.num)) (h4 : NatV W B2 d2 v.den) => r9mul_c A c B d u A2 c2 B2 d2 v W h1 h2 h3 h4 Nu Mu Nv Mv
  simp only [← Eq] at C2_2
  replace Eq := Lib.hid Eq
  replace C2_2 := Lib.hid C2_2
  go_region_held3 (fun W => W.cell? ⟨w.heap.size, 0, none⟩ = some (.bool (sg (dmn a))) ∧ W.cell? ⟨w.heap.size, 1, none⟩ = some (.slice aA (nl (mg (dmn a))) ac) ∧ W.cell? ⟨w.heap.size, 2, none⟩ = some (.int .i64 (dex a)))
    (first
      | exact ⟨qa0, qa1, qa2⟩
      | exact ⟨qa0_3, qa1_3, qa2_3⟩
      | exact ⟨qa0_4, qa1_4, qa2_4⟩
      | exact ⟨qa0_5, qa1_5, qa2_5⟩
      | exact ⟨((Ra_5.other3 (by simp <;> omega)).c (i := 0) rfl), ((Ra_5.other3 (by simp <;> omega)).c (i := 1) rfl), ((Ra_5.other3 (by simp <;> omega)).c (i := 2) rfl)⟩
      | go_keep)
    (first
      | (go_at_call 85; (with_reducible refine (C2_0.out _ ha).mono ?_); rintro e W3 ⟨Xu, cu, Yu, du, rfl, hu, gu, hb3⟩; have ha_3 := ha.below hb3; have Ra_3 := Ra.below hb3; have qa0_3 := cbl hb3 qa0; have qa1_3 := cbl hb3 qa1; have qa2_3 := cbl hb3 qa2; have Rr_3 := Rr.below hb3; have qr0_3 := cbl hb3 qr0; have qr1_3 := cbl hb3 qr1; have qr2_3 := cbl hb3 qr2; have HBT_3 := Below.cons HBT hb3)
      | (go_at_call 86; (with_reducible refine (C2_1.out _).mono ?_); rintro e W4 ⟨Xv, cv, Yv, dv, rfl, hv, gv, hb4⟩; have ha_4 := ha_3.below hb4; have Ra_4 := Ra_3.below hb4; have qa0_4 := cbl hb4 qa0_3; have qa1_4 := cbl hb4 qa1_3; have qa2_4 := cbl hb4 qa2_3; have Rr_4 := Rr_3.below hb4; have qr0_4 := cbl hb4 qr0_3; have qr1_4 := cbl hb4 qr1_3; have qr2_4 := cbl hb4 qr2_3; have hu_4 := hu.below hb4; have gu_4 := gu.below hb4; have HBT_4 := Below.cons HBT_3 hb4)
      | (go_at_call 84; (with_reducible refine (C2_2.out _ _ _ _ _ _ _ _ _ hu_4 gu_4 hv gv).mono ?_); rintro e W5 ⟨Xq, cq, Yq, dq, rfl, hq, gq, hb5⟩; have ha_5 := ha_4.below hb5; have Ra_5 := Ra_4.below hb5; have qa0_5 := cbl hb5 qa0_4; have qa1_5 := cbl hb5 qa1_4; have qa2_5 := cbl hb5 qa2_4; have Rr_5 := Rr_4.below hb5; have qr0_5 := cbl hb5 qr0_4; have qr1_5 := cbl hb5 qr1_4; have qr2_5 := cbl hb5 qr2_4; have hu_5 := hu_4.below hb5; have gu_5 := gu_4.below hb5; have hv_5 := hv.below hb5; have gv_5 := gv.below hb5; have HBT_5 := Below.cons HBT_4 hb5; have fz0 := Rr_5.f (i := 0); have fz1 := Rr_5.f (i := 1); have fz2 := Rr_5.f (i := 2)))
  all_goals (try go_wp2_with (fail))
  have hzq : q = a := by rw [Eq.out, Eu.out, Ev.out]; exact eqv.out
  subst hzq
  have RS := Rr_5.store3 (.bool (sg q.num)) (.slice Xq (nl (mg q.num)) cq) (.slice Yq (nl q.den) dq)
  have e0 := RS.c (i := 0) rfl
  have e1 := RS.c (i := 1) rfl
  have e2 := RS.c (i := 2) rfl
  refine bodyPost_ret (v := .agg #[.bool (sg q.num), .slice Xq (nl (mg q.num)) cq, .slice Yq (nl q.den) dq]) (by simp [results, Tryz.results17, go_sem, e0, e1, e2]) rfl ?_
  exact ⟨Xq, cq, Yq, dq, rfl, (Rr_5.keep3 (nuB rfl) hq), (Rr_5.keep3 (nuB rfl) gq), (Below.store3 HBT_5 (by first | exact Nat.le_refl _ | omega))⟩
end Go.Proofs.YtpaffggdeedopaaGreatDoor

/- The document's dyadic numbers, walked: Same, Sign, Scaled, Cmp. -/
set_option linter.unusedVariables false
set_option linter.unusedSimpArgs false
namespace Go.Proofs.YtpaffggdeedopaaGreatDoor
open Go.RowKit Go.Shelf
attribute [local go_sem] max2_i min2_i max_two min_two

theorem mul_sz (a b : Rat) : nl (mg (a * b).num) ≤ nl (mg a.num) + nl (mg b.num) ∧ nl (a * b).den ≤ nl a.den + nl b.den := by
  have h0 : a.den * b.den ≠ 0 := Nat.mul_ne_zero a.den_nz b.den_nz
  rw [Rat.mul_def', Rat.num_mkRat, Rat.den_mkRat, if_neg h0, if_neg h0]
  constructor
  · refine Nat.le_trans (nl_mono (Int.natAbs_ediv_le_natAbs _ _)) ?_
    have := nl_mul (mg a.num) (mg b.num)
    rw [← mg_mul] at this; exact this
  · exact Nat.le_trans (nl_div _ _) (nl_mul _ _)
theorem dyd_eq {a b : Rat} (ha : Dyd a) (hb : Dyd b) (h : dex a = dex b) : (a = b) ↔ dmn a = dmn b := by
  constructor
  · intro e; rw [e]
  · intro e; rw [← dval_q ha, ← dval_q hb, h, e]
theorem tsame_y (aA : Option Addr) (ac : Nat) (a : Rat) (bA : Option Addr) (bc : Nat) (b : Rat) (w : World) (ha : NatV w aA ac (mg (dmn a))) (hb : NatV w bA bc (mg (dmn b))) (da : Dyd a) (db : Dyd b) (la : nl (mg (dmn a)) ≤ 1073741824) (lb : nl (mg (dmn b)) ≤ 1073741824) (h0 : dex a = dex b) :
    Calls Tryz.prog 24 #[.agg #[.bool (sg (dmn a)), .slice aA (nl (mg (dmn a))) ac, .int .i64 (dex a)], .agg #[.bool (sg (dmn b)), .slice bA (nl (mg (dmn b))) bc, .int .i64 (dex b)]] w (fun e w' => e = .returned (.bool (decide (dmn a = dmn b))) ∧ Below w.heap.size w w') := by
  have t1 : (dex a == dex b) = true := by simp; exact h0
  replace h0 := Lib.hid h0
  replace da := Lib.hid da
  replace db := Lib.hid db
  obtain ⟨xa, Exa⟩ : ∃ z, z = dex a := ⟨_, rfl⟩
  obtain ⟨xb, Exb⟩ : ∃ z, z = dex b := ⟨_, rfl⟩
  rw [← Exa, ← Exb] at t1
  rw [← Exa, ← Exb]
  replace Exa := Lib.hid Exa
  replace Exb := Lib.hid Exb
  obtain ⟨hb1, Ra, Rb⟩ := bx2 w #[.bool (sg (dmn a)), .slice aA (nl (mg (dmn a))) ac, .int .i64 xa] 31 #[.bool (sg (dmn b)), .slice bA (nl (mg (dmn b))) bc, .int .i64 xb] 31
  replace ha := ha.below hb1
  replace hb := hb.below hb1
  have HBT := hb1
  clear hb1
  have qa0 := Ra.c (i := 0) rfl
  have qa1 := Ra.c (i := 1) rfl
  have qa2 := Ra.c (i := 2) rfl
  have qb0 := Rb.c (i := 0) rfl
  have qb1 := Rb.c (i := 1) rfl
  have qb2 := Rb.c (i := 2) rfl
  go_enter Tryz.func24, Tryz.ntmps24
  go_wp2_with (fail)
  refine (Calls.mono (zsame_c aA ac (dmn a) bA bc (dmn b) _ ha hb la lb) ?_)
  rintro e W2 ⟨rfl, hb2⟩
  replace ha := ha.below hb2
  replace hb := hb.below hb2
  replace Ra := Ra.below hb2
  replace qa0 := cbl hb2 qa0
  replace qa1 := cbl hb2 qa1
  replace qa2 := cbl hb2 qa2
  replace Rb := Rb.below hb2
  replace qb0 := cbl hb2 qb0
  replace qb1 := cbl hb2 qb1
  replace qb2 := cbl hb2 qb2
  replace HBT := Below.cons HBT hb2
  clear hb2
  go_wp2_with (fail)
  go_ret
  exact ⟨rfl, HBT⟩
theorem tsame_n (aA : Option Addr) (ac : Nat) (a : Rat) (bA : Option Addr) (bc : Nat) (b : Rat) (w : World) (ha : NatV w aA ac (mg (dmn a))) (hb : NatV w bA bc (mg (dmn b))) (da : Dyd a) (db : Dyd b) (la : nl (mg (dmn a)) ≤ 1073741824) (lb : nl (mg (dmn b)) ≤ 1073741824) (h0 : dex a ≠ dex b) :
    Calls Tryz.prog 24 #[.agg #[.bool (sg (dmn a)), .slice aA (nl (mg (dmn a))) ac, .int .i64 (dex a)], .agg #[.bool (sg (dmn b)), .slice bA (nl (mg (dmn b))) bc, .int .i64 (dex b)]] w (fun e w' => e = .returned (.bool false) ∧ Below w.heap.size w w') := by
  have t1 : (dex a == dex b) = false := by simp; exact h0
  replace h0 := Lib.hid h0
  replace da := Lib.hid da
  replace db := Lib.hid db
  obtain ⟨xa, Exa⟩ : ∃ z, z = dex a := ⟨_, rfl⟩
  obtain ⟨xb, Exb⟩ : ∃ z, z = dex b := ⟨_, rfl⟩
  rw [← Exa, ← Exb] at t1
  rw [← Exa, ← Exb]
  replace Exa := Lib.hid Exa
  replace Exb := Lib.hid Exb
  obtain ⟨hb1, Ra, Rb⟩ := bx2 w #[.bool (sg (dmn a)), .slice aA (nl (mg (dmn a))) ac, .int .i64 xa] 31 #[.bool (sg (dmn b)), .slice bA (nl (mg (dmn b))) bc, .int .i64 xb] 31
  replace ha := ha.below hb1
  replace hb := hb.below hb1
  have HBT := hb1
  clear hb1
  have qa0 := Ra.c (i := 0) rfl
  have qa1 := Ra.c (i := 1) rfl
  have qa2 := Ra.c (i := 2) rfl
  have qb0 := Rb.c (i := 0) rfl
  have qb1 := Rb.c (i := 1) rfl
  have qb2 := Rb.c (i := 2) rfl
  go_enter Tryz.func24, Tryz.ntmps24
  go_wp2_with (fail)
  go_ret
  exact ⟨rfl, HBT⟩
theorem tsame_c (aA : Option Addr) (ac : Nat) (a : Rat) (bA : Option Addr) (bc : Nat) (b : Rat) (w : World) (ha : NatV w aA ac (mg (dmn a))) (hb : NatV w bA bc (mg (dmn b))) (da : Dyd a) (db : Dyd b) (la : nl (mg (dmn a)) ≤ 1073741824) (lb : nl (mg (dmn b)) ≤ 1073741824) :
    Calls Tryz.prog 24 #[.agg #[.bool (sg (dmn a)), .slice aA (nl (mg (dmn a))) ac, .int .i64 (dex a)], .agg #[.bool (sg (dmn b)), .slice bA (nl (mg (dmn b))) bc, .int .i64 (dex b)]] w fun e w' => e = .returned (.bool (decide (a = b))) ∧ Below w.heap.size w w' := by
  by_cases h : dex a = dex b
  · rw [show decide (a = b) = decide (dmn a = dmn b) by rw [decide_eq_decide]; exact dyd_eq da db h]; exact tsame_y aA ac a bA bc b w ha hb da db la lb h
  · rw [decide_eq_false (fun e => h (by rw [e]))]; exact tsame_n aA ac a bA bc b w ha hb da db la lb h
end Go.Proofs.YtpaffggdeedopaaGreatDoor

/- The document's dyadic numbers, walked: Of, Neg. -/
set_option linter.unusedVariables false
set_option linter.unusedSimpArgs false
namespace Go.Proofs.YtpaffggdeedopaaGreatDoor
open Go.RowKit Go.Shelf
attribute [local go_sem] max2_i min2_i max_two min_two

end Go.Proofs.YtpaffggdeedopaaGreatDoor

/- The document's dyadic numbers, walked: Add, Sub. -/
set_option linter.unusedVariables false
set_option linter.unusedSimpArgs false
namespace Go.Proofs.YtpaffggdeedopaaGreatDoor
open Go.RowKit Go.Shelf
attribute [local go_sem] max2_i min2_i max_two min_two

end Go.Proofs.YtpaffggdeedopaaGreatDoor

/- The document's dyadic numbers, walked: Mul. -/
set_option linter.unusedVariables false
set_option linter.unusedSimpArgs false
namespace Go.Proofs.YtpaffggdeedopaaGreatDoor
open Go.RowKit Go.Shelf
attribute [local go_sem] max2_i min2_i max_two min_two

end Go.Proofs.YtpaffggdeedopaaGreatDoor

/- The document's dyadic numbers, walked: Made. -/
set_option linter.unusedVariables false
set_option linter.unusedSimpArgs false
namespace Go.Proofs.YtpaffggdeedopaaGreatDoor
open Go.RowKit Go.Shelf
attribute [local go_sem] max2_i min2_i max_two min_two

end Go.Proofs.YtpaffggdeedopaaGreatDoor

/- The document's dyadic numbers, walked: Mid. -/
set_option linter.unusedVariables false
set_option linter.unusedSimpArgs false
namespace Go.Proofs.YtpaffggdeedopaaGreatDoor
open Go.RowKit Go.Shelf
attribute [local go_sem] max2_i min2_i max_two min_two

end Go.Proofs.YtpaffggdeedopaaGreatDoor

/- Whether a natural, a whole number is right. -/
set_option linter.unusedVariables false
set_option linter.unusedSimpArgs false
namespace Go.Proofs.YtpaffggdeedopaaGreatDoor
open Go.RowKit Go.Shelf
attribute [local go_sem] max2_i min2_i max_two min_two

theorem right_c (A : Option Addr) (c a : Nat) (w : World) (hA : NatV w A c a) (ha : nl a ≤ 65536) :
    Calls Tryz.prog 144 #[.slice A (nl a) c] w fun e w' => e = .returned (.bool true) ∧ w' = w := by
  by_cases h : nl a = 0
  · rw [h]
    go_enter Tryz.func144, Tryz.ntmps144
    go_wp2_with (fail)
    go_ret
    exact ⟨rfl, rfl⟩
  · obtain ⟨k, hk⟩ : ∃ k, nl a = k + 1 := ⟨nl a - 1, by omega⟩
    obtain ⟨ad, rfl, hcx⟩ := hA.rd.get k (by show k < nl a; omega)
    have hne : gl (limbs a) k ≠ 0 := by
      have h2 := limbs_last a (fun e => h (by rw [e, nl_zero]))
      rwa [hk, Nat.add_sub_cancel] at h2
    obtain ⟨x, hx⟩ : ∃ x, x = gl (limbs a) k := ⟨_, rfl⟩
    rw [← hx] at hcx hne
    have h1 : ((nl a : Int) == 0) = false := ieqF (by omega)
    have hkI : (nl a : Int) - 1 = (k : Int) := by omega
    have hkl : k < nl a := by omega
    have h2 : ((x : Int) != 0) = true := ineT (by omega)
    have h3 : decide ((nl a : Int) ≤ 65536) = true := by simp; omega
    replace hx := Lib.hid hx
    clear hne h hk
    go_enter Tryz.func144, Tryz.ntmps144
    go_wp2_with (fail)
    go_ret
    exact ⟨rfl, rfl⟩

theorem iright_n (aA : Option Addr) (ac : Nat) (a : Int) (w : World) (ha : NatV w aA ac (mg a)) (la : nl (mg a) ≤ 65536) (h0 : a < 0) :
    Calls Tryz.prog 91 #[.agg #[.bool (sg a), .slice aA (nl (mg a)) ac]] w (fun e w' => e = .returned (.bool true) ∧ Below w.heap.size w w') := by
  have ts : sg a = true := sg_t h0
  have m0 : mg a ≠ 0 := fun k => by have := mg_zero.1 k; omega
  have t1 : ((nl (mg a) : Int) == 0) = false := ieqF (by have := nl_pos.2 m0; omega)
  have t2 : (nl (mg a) == 0) = false := by have := nl_pos.2 m0; simp; omega
  replace h0 := Lib.hid h0
  obtain ⟨hb1, Ra⟩ := bx1 w #[.bool true, .slice aA (nl (mg a)) ac] 24
  replace ha := ha.below hb1
  have HBT := hb1
  clear hb1
  have qa0 := Ra.c (i := 0) rfl
  have qa1 := Ra.c (i := 1) rfl
  go_enter Tryz.func91, Tryz.ntmps91
  go_wp2_with (fail)
  refine (Calls.mono (right_c aA ac (mg a) _ ha la) ?_)
  rintro e w' ⟨rfl, hw⟩
  subst hw
  go_wp2_with (fail)
  go_ret
  exact ⟨rfl, HBT⟩
theorem iright_z (aA : Option Addr) (ac : Nat) (a : Int) (w : World) (ha : NatV w aA ac (mg a)) (la : nl (mg a) ≤ 65536) (h0 : a = 0) :
    Calls Tryz.prog 91 #[.agg #[.bool (sg a), .slice aA (nl (mg a)) ac]] w (fun e w' => e = .returned (.bool true) ∧ Below w.heap.size w w') := by
  have ts : sg a = false := sg_f (by omega)
  replace h0 := Lib.hid h0
  obtain ⟨hb1, Ra⟩ := bx1 w #[.bool false, .slice aA (nl (mg a)) ac] 24
  replace ha := ha.below hb1
  have HBT := hb1
  clear hb1
  have qa0 := Ra.c (i := 0) rfl
  have qa1 := Ra.c (i := 1) rfl
  go_enter Tryz.func91, Tryz.ntmps91
  go_wp2_with (fail)
  refine (Calls.mono (right_c aA ac (mg a) _ ha la) ?_)
  rintro e w' ⟨rfl, hw⟩
  subst hw
  go_wp2_with (fail)
  go_ret
  exact ⟨rfl, HBT⟩
theorem iright_p (aA : Option Addr) (ac : Nat) (a : Int) (w : World) (ha : NatV w aA ac (mg a)) (la : nl (mg a) ≤ 65536) (h0 : 0 < a) :
    Calls Tryz.prog 91 #[.agg #[.bool (sg a), .slice aA (nl (mg a)) ac]] w (fun e w' => e = .returned (.bool true) ∧ Below w.heap.size w w') := by
  have ts : sg a = false := sg_f (by omega)
  replace h0 := Lib.hid h0
  obtain ⟨hb1, Ra⟩ := bx1 w #[.bool false, .slice aA (nl (mg a)) ac] 24
  replace ha := ha.below hb1
  have HBT := hb1
  clear hb1
  have qa0 := Ra.c (i := 0) rfl
  have qa1 := Ra.c (i := 1) rfl
  go_enter Tryz.func91, Tryz.ntmps91
  go_wp2_with (fail)
  refine (Calls.mono (right_c aA ac (mg a) _ ha la) ?_)
  rintro e w' ⟨rfl, hw⟩
  subst hw
  go_wp2_with (fail)
  go_ret
  exact ⟨rfl, HBT⟩
theorem iright_c (aA : Option Addr) (ac : Nat) (a : Int) (w : World) (ha : NatV w aA ac (mg a)) (la : nl (mg a) ≤ 65536) :
    Calls Tryz.prog 91 #[.agg #[.bool (sg a), .slice aA (nl (mg a)) ac]] w fun e w' => e = .returned (.bool true) ∧ Below w.heap.size w w' := by
  obtain h | h | h : a < 0 ∨ a = 0 ∨ 0 < a := by omega
  · exact iright_n aA ac a w ha la h
  · exact iright_z aA ac a w ha la h
  · exact iright_p aA ac a w ha la h
end Go.Proofs.YtpaffggdeedopaaGreatDoor

/- Whether a dyadic number is right. -/
set_option linter.unusedVariables false
set_option linter.unusedSimpArgs false
namespace Go.Proofs.YtpaffggdeedopaaGreatDoor
open Go.RowKit Go.Shelf
attribute [local go_sem] max2_i min2_i max_two min_two

/-- Whether a whole number times a power of 2 is of the one form. -/
def rightD (z e : Int) : Bool := if z = 0 then e == 0 else decide (z % 2 = 1) && (decide (-100000 ≤ e) && decide (e ≤ 100000))
theorem dright_z (aA : Option Addr) (ac : Nat) (a x : Int) (w : World) (ha : NatV w aA ac (mg a)) (la : nl (mg a) ≤ 65536) (h0 : a = 0) :
    Calls Tryz.prog 25 #[.agg #[.bool (sg a), .slice aA (nl (mg a)) ac, .int .i64 x]] w (fun e w' => e = .returned (.bool (rightD a x)) ∧ Below w.heap.size w w') := by
  have hr : rightD a x = (x == 0) := by unfold rightD; rw [if_pos h0]
  have t1 : decide (0 < (nl (mg a) : Int)) = false := by rw [h0, mg0, nl_zero]; rfl
  have t2 : decide (0 < nl (mg a)) = false := by rw [h0, mg0, nl_zero]; rfl
  have t3 : ((nl (mg a) : Int) == 0) = true := ieqT (by rw [h0, mg0, nl_zero]; rfl)
  have t4 : (nl (mg a) == 0) = true := by rw [h0, mg0, nl_zero]; rfl
  rw [hr]
  clear hr
  replace h0 := Lib.hid h0
  obtain ⟨hb1, Ra⟩ := bx1 w #[.bool (sg a), .slice aA (nl (mg a)) ac, .int .i64 x] 31
  replace ha := ha.below hb1
  have HBT := hb1
  clear hb1
  have qa0 := Ra.c (i := 0) rfl
  have qa1 := Ra.c (i := 1) rfl
  have qa2 := Ra.c (i := 2) rfl
  go_enter Tryz.func25, Tryz.ntmps25
  go_wp2_with (fail)
  refine (Calls.mono (iright_c aA ac a _ ha la) ?_)
  rintro e W1 ⟨rfl, hb1⟩
  replace ha := ha.below hb1
  replace Ra := Ra.below hb1
  replace qa0 := cbl hb1 qa0
  replace qa1 := cbl hb1 qa1
  replace qa2 := cbl hb1 qa2
  replace HBT := Below.cons HBT hb1
  clear hb1
  go_wp2_with (fail)
  go_ret
  exact ⟨rfl, HBT⟩
theorem dright_e (aA : Option Addr) (ac : Nat) (a x : Int) (w : World) (ha : NatV w aA ac (mg a)) (la : nl (mg a) ≤ 65536) (h0 : a ≠ 0) (h1 : a % 2 = 0) :
    Calls Tryz.prog 25 #[.agg #[.bool (sg a), .slice aA (nl (mg a)) ac, .int .i64 x]] w (fun e w' => e = .returned (.bool (rightD a x)) ∧ Below w.heap.size w w') := by
  have m0 : mg a ≠ 0 := fun k => h0 (mg_zero.1 k)
  have t1 : decide (0 < (nl (mg a) : Int)) = true := by have := nl_pos.2 m0; simp; omega
  have t2 : decide (0 < nl (mg a)) = true := by have := nl_pos.2 m0; simp; omega
  have t3 : ((nl (mg a) : Int) == 0) = false := ieqF (by have := nl_pos.2 m0; omega)
  have t4 : (nl (mg a) == 0) = false := by have := nl_pos.2 m0; simp; omega
  have t9 := nl_pos.2 m0
  replace m0 := Lib.hid m0
  have hr : rightD a x = false := by unfold rightD; rw [if_neg h0, decide_eq_false (by omega)]; rfl
  rw [hr]
  clear hr
  replace h0 := Lib.hid h0
  obtain ⟨hb1, Ra⟩ := bx1 w #[.bool (sg a), .slice aA (nl (mg a)) ac, .int .i64 x] 31
  replace ha := ha.below hb1
  have HBT := hb1
  clear hb1
  have qa0 := Ra.c (i := 0) rfl
  have qa1 := Ra.c (i := 1) rfl
  have qa2 := Ra.c (i := 2) rfl
  go_enter Tryz.func25, Tryz.ntmps25
  go_wp2_with (fail)
  refine (Calls.mono (iright_c aA ac a _ ha la) ?_)
  rintro e W1 ⟨rfl, hb1⟩
  replace ha := ha.below hb1
  replace Ra := Ra.below hb1
  replace qa0 := cbl hb1 qa0
  replace qa1 := cbl hb1 qa1
  replace qa2 := cbl hb1 qa2
  replace HBT := Below.cons HBT hb1
  clear hb1
  obtain ⟨ad, eX, hc0⟩ := ha.rd.get 0 (by exact t9)
  obtain ⟨y, Ey⟩ : ∃ x, x = gl (limbs (mg a)) 0 := ⟨_, rfl⟩
  have hxl : y < 4294967296 := by rw [Ey]; exact (lim_limbs _).gl 0
  have hxv : y = mg a / 4294967296 ^ 0 % 4294967296 := by rw [Ey, limbs_gl]
  rw [← Ey, show ad.add 0 = ad by cases ad; simp [Addr.add]; try (split <;> simp)] at hc0
  have hod := odd_limb hxv
  have hand := and_one_u32 y hxl
  have hy : y % 2 = 0 := by simp only [decide_eq_decide] at hod; omega
  rw [hy] at hand
  replace Ey := Lib.hid Ey
  replace hxv := Lib.hid hxv
  replace hod := Lib.hid hod
  replace hy := Lib.hid hy
  replace h1 := Lib.hid h1
  subst eX
  go_wp2_with (fail)
  go_ret
  exact ⟨rfl, HBT⟩
theorem dright_o (aA : Option Addr) (ac : Nat) (a x : Int) (w : World) (ha : NatV w aA ac (mg a)) (la : nl (mg a) ≤ 65536) (h0 : a ≠ 0) (h1 : a % 2 = 1) (h2 : -100000 ≤ x) :
    Calls Tryz.prog 25 #[.agg #[.bool (sg a), .slice aA (nl (mg a)) ac, .int .i64 x]] w (fun e w' => e = .returned (.bool (rightD a x)) ∧ Below w.heap.size w w') := by
  have m0 : mg a ≠ 0 := fun k => h0 (mg_zero.1 k)
  have t1 : decide (0 < (nl (mg a) : Int)) = true := by have := nl_pos.2 m0; simp; omega
  have t2 : decide (0 < nl (mg a)) = true := by have := nl_pos.2 m0; simp; omega
  have t3 : ((nl (mg a) : Int) == 0) = false := ieqF (by have := nl_pos.2 m0; omega)
  have t4 : (nl (mg a) == 0) = false := by have := nl_pos.2 m0; simp; omega
  have t9 := nl_pos.2 m0
  replace m0 := Lib.hid m0
  have t5 : decide (-100000 ≤ x) = true := decide_eq_true h2
  have hr : rightD a x = decide (x ≤ 100000) := by unfold rightD; rw [if_neg h0, decide_eq_true h1, t5]; rfl
  rw [hr]
  clear hr
  replace h0 := Lib.hid h0
  obtain ⟨hb1, Ra⟩ := bx1 w #[.bool (sg a), .slice aA (nl (mg a)) ac, .int .i64 x] 31
  replace ha := ha.below hb1
  have HBT := hb1
  clear hb1
  have qa0 := Ra.c (i := 0) rfl
  have qa1 := Ra.c (i := 1) rfl
  have qa2 := Ra.c (i := 2) rfl
  go_enter Tryz.func25, Tryz.ntmps25
  go_wp2_with (fail)
  refine (Calls.mono (iright_c aA ac a _ ha la) ?_)
  rintro e W1 ⟨rfl, hb1⟩
  replace ha := ha.below hb1
  replace Ra := Ra.below hb1
  replace qa0 := cbl hb1 qa0
  replace qa1 := cbl hb1 qa1
  replace qa2 := cbl hb1 qa2
  replace HBT := Below.cons HBT hb1
  clear hb1
  obtain ⟨ad, eX, hc0⟩ := ha.rd.get 0 (by exact t9)
  obtain ⟨y, Ey⟩ : ∃ x, x = gl (limbs (mg a)) 0 := ⟨_, rfl⟩
  have hxl : y < 4294967296 := by rw [Ey]; exact (lim_limbs _).gl 0
  have hxv : y = mg a / 4294967296 ^ 0 % 4294967296 := by rw [Ey, limbs_gl]
  rw [← Ey, show ad.add 0 = ad by cases ad; simp [Addr.add]; try (split <;> simp)] at hc0
  have hod := odd_limb hxv
  have hand := and_one_u32 y hxl
  have hy : y % 2 = 1 := by simp only [decide_eq_decide] at hod; omega
  rw [hy] at hand
  replace Ey := Lib.hid Ey
  replace hxv := Lib.hid hxv
  replace hod := Lib.hid hod
  replace hy := Lib.hid hy
  replace h1 := Lib.hid h1
  subst eX
  go_wp2_with (fail)
  go_ret
  exact ⟨rfl, HBT⟩
theorem dright_l (aA : Option Addr) (ac : Nat) (a x : Int) (w : World) (ha : NatV w aA ac (mg a)) (la : nl (mg a) ≤ 65536) (h0 : a ≠ 0) (h1 : a % 2 = 1) (h2 : x < -100000) :
    Calls Tryz.prog 25 #[.agg #[.bool (sg a), .slice aA (nl (mg a)) ac, .int .i64 x]] w (fun e w' => e = .returned (.bool (rightD a x)) ∧ Below w.heap.size w w') := by
  have m0 : mg a ≠ 0 := fun k => h0 (mg_zero.1 k)
  have t1 : decide (0 < (nl (mg a) : Int)) = true := by have := nl_pos.2 m0; simp; omega
  have t2 : decide (0 < nl (mg a)) = true := by have := nl_pos.2 m0; simp; omega
  have t3 : ((nl (mg a) : Int) == 0) = false := ieqF (by have := nl_pos.2 m0; omega)
  have t4 : (nl (mg a) == 0) = false := by have := nl_pos.2 m0; simp; omega
  have t9 := nl_pos.2 m0
  replace m0 := Lib.hid m0
  have t5 : decide (-100000 ≤ x) = false := decide_eq_false (by omega)
  have hr : rightD a x = false := by unfold rightD; rw [if_neg h0, decide_eq_true h1, t5]; rfl
  rw [hr]
  clear hr
  replace h0 := Lib.hid h0
  obtain ⟨hb1, Ra⟩ := bx1 w #[.bool (sg a), .slice aA (nl (mg a)) ac, .int .i64 x] 31
  replace ha := ha.below hb1
  have HBT := hb1
  clear hb1
  have qa0 := Ra.c (i := 0) rfl
  have qa1 := Ra.c (i := 1) rfl
  have qa2 := Ra.c (i := 2) rfl
  go_enter Tryz.func25, Tryz.ntmps25
  go_wp2_with (fail)
  refine (Calls.mono (iright_c aA ac a _ ha la) ?_)
  rintro e W1 ⟨rfl, hb1⟩
  replace ha := ha.below hb1
  replace Ra := Ra.below hb1
  replace qa0 := cbl hb1 qa0
  replace qa1 := cbl hb1 qa1
  replace qa2 := cbl hb1 qa2
  replace HBT := Below.cons HBT hb1
  clear hb1
  obtain ⟨ad, eX, hc0⟩ := ha.rd.get 0 (by exact t9)
  obtain ⟨y, Ey⟩ : ∃ x, x = gl (limbs (mg a)) 0 := ⟨_, rfl⟩
  have hxl : y < 4294967296 := by rw [Ey]; exact (lim_limbs _).gl 0
  have hxv : y = mg a / 4294967296 ^ 0 % 4294967296 := by rw [Ey, limbs_gl]
  rw [← Ey, show ad.add 0 = ad by cases ad; simp [Addr.add]; try (split <;> simp)] at hc0
  have hod := odd_limb hxv
  have hand := and_one_u32 y hxl
  have hy : y % 2 = 1 := by simp only [decide_eq_decide] at hod; omega
  rw [hy] at hand
  replace Ey := Lib.hid Ey
  replace hxv := Lib.hid hxv
  replace hod := Lib.hid hod
  replace hy := Lib.hid hy
  replace h1 := Lib.hid h1
  subst eX
  go_wp2_with (fail)
  go_ret
  exact ⟨rfl, HBT⟩
theorem dright_c (aA : Option Addr) (ac : Nat) (a x : Int) (w : World) (ha : NatV w aA ac (mg a)) (la : nl (mg a) ≤ 65536) :
    Calls Tryz.prog 25 #[.agg #[.bool (sg a), .slice aA (nl (mg a)) ac, .int .i64 x]] w (fun e w' => e = .returned (.bool (rightD a x)) ∧ Below w.heap.size w w') := by
  by_cases h0 : a = 0
  · exact dright_z aA ac a x w ha la h0
  · by_cases h1 : a % 2 = 0
    · exact dright_e aA ac a x w ha la h0 h1
    · by_cases h2 : -100000 ≤ x
      · exact dright_o aA ac a x w ha la h0 (by omega) h2
      · exact dright_l aA ac a x w ha la h0 (by omega) (by omega)
end Go.Proofs.YtpaffggdeedopaaGreatDoor

/- Whether a number is right, the document's way. -/
set_option linter.unusedVariables false
set_option linter.unusedSimpArgs false
namespace Go.Proofs.YtpaffggdeedopaaGreatDoor
open Go.RowKit Go.Shelf
attribute [local go_sem] max2_i min2_i max_two min_two

theorem zright_n (aA : Option Addr) (ac : Nat) (a : Int) (w : World) (ha : NatV w aA ac (mg a)) (la : nl (mg a) ≤ 65536) (h0 : a < 0) :
    Calls Tryz.prog 68 #[.agg #[.bool (sg a), .slice aA (nl (mg a)) ac]] w (fun e w' => e = .returned (.bool true) ∧ Below w.heap.size w w') := by
  have ts : sg a = true := sg_t h0
  have m0 : mg a ≠ 0 := fun k => by have := mg_zero.1 k; omega
  have t1 : ((nl (mg a) : Int) == 0) = false := ieqF (by have := nl_pos.2 m0; omega)
  have t2 : (nl (mg a) == 0) = false := by have := nl_pos.2 m0; simp; omega
  have t5 : decide (0 < (nl (mg a) : Int)) = true := by have := nl_pos.2 m0; simp; omega
  have t6 : decide (0 < nl (mg a)) = true := by have := nl_pos.2 m0; simp; omega
  replace h0 := Lib.hid h0
  obtain ⟨hb1, Ra⟩ := bx1 w #[.bool true, .slice aA (nl (mg a)) ac] 24
  replace ha := ha.below hb1
  have HBT := hb1
  clear hb1
  have qa0 := Ra.c (i := 0) rfl
  have qa1 := Ra.c (i := 1) rfl
  go_enter Tryz.func68, Tryz.ntmps68
  go_wp2_with (fail)
  refine (Calls.mono (rright_c aA ac (mg a) _ ha la) ?_)
  rintro e w' ⟨rfl, hw⟩
  subst hw
  go_wp2_with (fail)
  go_ret
  exact ⟨rfl, HBT⟩
theorem zright_z (aA : Option Addr) (ac : Nat) (a : Int) (w : World) (ha : NatV w aA ac (mg a)) (la : nl (mg a) ≤ 65536) (h0 : a = 0) :
    Calls Tryz.prog 68 #[.agg #[.bool (sg a), .slice aA (nl (mg a)) ac]] w (fun e w' => e = .returned (.bool true) ∧ Below w.heap.size w w') := by
  have ts : sg a = false := sg_f (by omega)
  replace h0 := Lib.hid h0
  obtain ⟨hb1, Ra⟩ := bx1 w #[.bool false, .slice aA (nl (mg a)) ac] 24
  replace ha := ha.below hb1
  have HBT := hb1
  clear hb1
  have qa0 := Ra.c (i := 0) rfl
  have qa1 := Ra.c (i := 1) rfl
  go_enter Tryz.func68, Tryz.ntmps68
  go_wp2_with (fail)
  refine (Calls.mono (rright_c aA ac (mg a) _ ha la) ?_)
  rintro e w' ⟨rfl, hw⟩
  subst hw
  go_wp2_with (fail)
  go_ret
  exact ⟨rfl, HBT⟩
theorem zright_p (aA : Option Addr) (ac : Nat) (a : Int) (w : World) (ha : NatV w aA ac (mg a)) (la : nl (mg a) ≤ 65536) (h0 : 0 < a) :
    Calls Tryz.prog 68 #[.agg #[.bool (sg a), .slice aA (nl (mg a)) ac]] w (fun e w' => e = .returned (.bool true) ∧ Below w.heap.size w w') := by
  have ts : sg a = false := sg_f (by omega)
  replace h0 := Lib.hid h0
  obtain ⟨hb1, Ra⟩ := bx1 w #[.bool false, .slice aA (nl (mg a)) ac] 24
  replace ha := ha.below hb1
  have HBT := hb1
  clear hb1
  have qa0 := Ra.c (i := 0) rfl
  have qa1 := Ra.c (i := 1) rfl
  go_enter Tryz.func68, Tryz.ntmps68
  go_wp2_with (fail)
  refine (Calls.mono (rright_c aA ac (mg a) _ ha la) ?_)
  rintro e w' ⟨rfl, hw⟩
  subst hw
  go_wp2_with (fail)
  go_ret
  exact ⟨rfl, HBT⟩
theorem zright_c (aA : Option Addr) (ac : Nat) (a : Int) (w : World) (ha : NatV w aA ac (mg a)) (la : nl (mg a) ≤ 65536) :
    Calls Tryz.prog 68 #[.agg #[.bool (sg a), .slice aA (nl (mg a)) ac]] w fun e w' => e = .returned (.bool true) ∧ Below w.heap.size w w' := by
  obtain h | h | h : a < 0 ∨ a = 0 ∨ 0 < a := by omega
  · exact zright_n aA ac a w ha la h
  · exact zright_z aA ac a w ha la h
  · exact zright_p aA ac a w ha la h
theorem tright_z (aA : Option Addr) (ac : Nat) (a x : Int) (w : World) (ha : NatV w aA ac (mg a)) (la : nl (mg a) ≤ 65536) (h0 : a = 0) :
    Calls Tryz.prog 16 #[.agg #[.bool (sg a), .slice aA (nl (mg a)) ac, .int .i64 x]] w (fun e w' => e = .returned (.bool (rightD a x)) ∧ Below w.heap.size w w') := by
  have hr : rightD a x = (x == 0) := by unfold rightD; rw [if_pos h0]
  have t1 : decide (0 < (nl (mg a) : Int)) = false := by rw [h0, mg0, nl_zero]; rfl
  have t2 : decide (0 < nl (mg a)) = false := by rw [h0, mg0, nl_zero]; rfl
  have t3 : ((nl (mg a) : Int) == 0) = true := ieqT (by rw [h0, mg0, nl_zero]; rfl)
  have t4 : (nl (mg a) == 0) = true := by rw [h0, mg0, nl_zero]; rfl
  rw [hr]
  clear hr
  replace h0 := Lib.hid h0
  obtain ⟨hb1, Ra⟩ := bx1 w #[.bool (sg a), .slice aA (nl (mg a)) ac, .int .i64 x] 31
  replace ha := ha.below hb1
  have HBT := hb1
  clear hb1
  have qa0 := Ra.c (i := 0) rfl
  have qa1 := Ra.c (i := 1) rfl
  have qa2 := Ra.c (i := 2) rfl
  go_enter Tryz.func16, Tryz.ntmps16
  go_wp2_with (fail)
  refine (Calls.mono (zright_c aA ac a _ ha la) ?_)
  rintro e W1 ⟨rfl, hb1⟩
  replace ha := ha.below hb1
  replace Ra := Ra.below hb1
  replace qa0 := cbl hb1 qa0
  replace qa1 := cbl hb1 qa1
  replace qa2 := cbl hb1 qa2
  replace HBT := Below.cons HBT hb1
  clear hb1
  go_wp2_with (fail)
  go_ret
  exact ⟨rfl, HBT⟩
theorem tright_e (aA : Option Addr) (ac : Nat) (a x : Int) (w : World) (ha : NatV w aA ac (mg a)) (la : nl (mg a) ≤ 65536) (h0 : a ≠ 0) (h1 : a % 2 = 0) :
    Calls Tryz.prog 16 #[.agg #[.bool (sg a), .slice aA (nl (mg a)) ac, .int .i64 x]] w (fun e w' => e = .returned (.bool (rightD a x)) ∧ Below w.heap.size w w') := by
  have m0 : mg a ≠ 0 := fun k => h0 (mg_zero.1 k)
  have t1 : decide (0 < (nl (mg a) : Int)) = true := by have := nl_pos.2 m0; simp; omega
  have t2 : decide (0 < nl (mg a)) = true := by have := nl_pos.2 m0; simp; omega
  have t3 : ((nl (mg a) : Int) == 0) = false := ieqF (by have := nl_pos.2 m0; omega)
  have t4 : (nl (mg a) == 0) = false := by have := nl_pos.2 m0; simp; omega
  have t9 := nl_pos.2 m0
  replace m0 := Lib.hid m0
  have hr : rightD a x = false := by unfold rightD; rw [if_neg h0, decide_eq_false (by omega)]; rfl
  rw [hr]
  clear hr
  replace h0 := Lib.hid h0
  obtain ⟨hb1, Ra⟩ := bx1 w #[.bool (sg a), .slice aA (nl (mg a)) ac, .int .i64 x] 31
  replace ha := ha.below hb1
  have HBT := hb1
  clear hb1
  have qa0 := Ra.c (i := 0) rfl
  have qa1 := Ra.c (i := 1) rfl
  have qa2 := Ra.c (i := 2) rfl
  go_enter Tryz.func16, Tryz.ntmps16
  go_wp2_with (fail)
  refine (Calls.mono (zright_c aA ac a _ ha la) ?_)
  rintro e W1 ⟨rfl, hb1⟩
  replace ha := ha.below hb1
  replace Ra := Ra.below hb1
  replace qa0 := cbl hb1 qa0
  replace qa1 := cbl hb1 qa1
  replace qa2 := cbl hb1 qa2
  replace HBT := Below.cons HBT hb1
  clear hb1
  obtain ⟨ad, eX, hc0⟩ := ha.rd.get 0 (by exact t9)
  obtain ⟨y, Ey⟩ : ∃ x, x = gl (limbs (mg a)) 0 := ⟨_, rfl⟩
  have hxl : y < 4294967296 := by rw [Ey]; exact (lim_limbs _).gl 0
  have hxv : y = mg a / 4294967296 ^ 0 % 4294967296 := by rw [Ey, limbs_gl]
  rw [← Ey, show ad.add 0 = ad by cases ad; simp [Addr.add]; try (split <;> simp)] at hc0
  have hod := odd_limb hxv
  have hand := and_one_u32 y hxl
  have hy : y % 2 = 0 := by simp only [decide_eq_decide] at hod; omega
  have hm : (y : Int) % 2 = 0 := by omega
  have hm2 : Int.tmod (y : Int) 2 = 0 := by rw [Int.tmod_eq_emod_of_nonneg (Int.natCast_nonneg y)]; exact hm
  clear hand
  replace Ey := Lib.hid Ey
  replace hxv := Lib.hid hxv
  replace hod := Lib.hid hod
  replace hy := Lib.hid hy
  replace h1 := Lib.hid h1
  subst eX
  go_wp2_with (fail)
  go_ret
  exact ⟨rfl, HBT⟩
theorem tright_o (aA : Option Addr) (ac : Nat) (a x : Int) (w : World) (ha : NatV w aA ac (mg a)) (la : nl (mg a) ≤ 65536) (h0 : a ≠ 0) (h1 : a % 2 = 1) (h2 : -100000 ≤ x) :
    Calls Tryz.prog 16 #[.agg #[.bool (sg a), .slice aA (nl (mg a)) ac, .int .i64 x]] w (fun e w' => e = .returned (.bool (rightD a x)) ∧ Below w.heap.size w w') := by
  have m0 : mg a ≠ 0 := fun k => h0 (mg_zero.1 k)
  have t1 : decide (0 < (nl (mg a) : Int)) = true := by have := nl_pos.2 m0; simp; omega
  have t2 : decide (0 < nl (mg a)) = true := by have := nl_pos.2 m0; simp; omega
  have t3 : ((nl (mg a) : Int) == 0) = false := ieqF (by have := nl_pos.2 m0; omega)
  have t4 : (nl (mg a) == 0) = false := by have := nl_pos.2 m0; simp; omega
  have t9 := nl_pos.2 m0
  replace m0 := Lib.hid m0
  have t5 : decide (-100000 ≤ x) = true := decide_eq_true h2
  have hr : rightD a x = decide (x ≤ 100000) := by unfold rightD; rw [if_neg h0, decide_eq_true h1, t5]; rfl
  rw [hr]
  clear hr
  replace h0 := Lib.hid h0
  obtain ⟨hb1, Ra⟩ := bx1 w #[.bool (sg a), .slice aA (nl (mg a)) ac, .int .i64 x] 31
  replace ha := ha.below hb1
  have HBT := hb1
  clear hb1
  have qa0 := Ra.c (i := 0) rfl
  have qa1 := Ra.c (i := 1) rfl
  have qa2 := Ra.c (i := 2) rfl
  go_enter Tryz.func16, Tryz.ntmps16
  go_wp2_with (fail)
  refine (Calls.mono (zright_c aA ac a _ ha la) ?_)
  rintro e W1 ⟨rfl, hb1⟩
  replace ha := ha.below hb1
  replace Ra := Ra.below hb1
  replace qa0 := cbl hb1 qa0
  replace qa1 := cbl hb1 qa1
  replace qa2 := cbl hb1 qa2
  replace HBT := Below.cons HBT hb1
  clear hb1
  obtain ⟨ad, eX, hc0⟩ := ha.rd.get 0 (by exact t9)
  obtain ⟨y, Ey⟩ : ∃ x, x = gl (limbs (mg a)) 0 := ⟨_, rfl⟩
  have hxl : y < 4294967296 := by rw [Ey]; exact (lim_limbs _).gl 0
  have hxv : y = mg a / 4294967296 ^ 0 % 4294967296 := by rw [Ey, limbs_gl]
  rw [← Ey, show ad.add 0 = ad by cases ad; simp [Addr.add]; try (split <;> simp)] at hc0
  have hod := odd_limb hxv
  have hand := and_one_u32 y hxl
  have hy : y % 2 = 1 := by simp only [decide_eq_decide] at hod; omega
  have hm : (y : Int) % 2 = 1 := by omega
  have hm2 : Int.tmod (y : Int) 2 = 1 := by rw [Int.tmod_eq_emod_of_nonneg (Int.natCast_nonneg y)]; exact hm
  clear hand
  replace Ey := Lib.hid Ey
  replace hxv := Lib.hid hxv
  replace hod := Lib.hid hod
  replace hy := Lib.hid hy
  replace h1 := Lib.hid h1
  subst eX
  go_wp2_with (fail)
  go_ret
  exact ⟨rfl, HBT⟩
theorem tright_l (aA : Option Addr) (ac : Nat) (a x : Int) (w : World) (ha : NatV w aA ac (mg a)) (la : nl (mg a) ≤ 65536) (h0 : a ≠ 0) (h1 : a % 2 = 1) (h2 : x < -100000) :
    Calls Tryz.prog 16 #[.agg #[.bool (sg a), .slice aA (nl (mg a)) ac, .int .i64 x]] w (fun e w' => e = .returned (.bool (rightD a x)) ∧ Below w.heap.size w w') := by
  have m0 : mg a ≠ 0 := fun k => h0 (mg_zero.1 k)
  have t1 : decide (0 < (nl (mg a) : Int)) = true := by have := nl_pos.2 m0; simp; omega
  have t2 : decide (0 < nl (mg a)) = true := by have := nl_pos.2 m0; simp; omega
  have t3 : ((nl (mg a) : Int) == 0) = false := ieqF (by have := nl_pos.2 m0; omega)
  have t4 : (nl (mg a) == 0) = false := by have := nl_pos.2 m0; simp; omega
  have t9 := nl_pos.2 m0
  replace m0 := Lib.hid m0
  have t5 : decide (-100000 ≤ x) = false := decide_eq_false (by omega)
  have hr : rightD a x = false := by unfold rightD; rw [if_neg h0, decide_eq_true h1, t5]; rfl
  rw [hr]
  clear hr
  replace h0 := Lib.hid h0
  obtain ⟨hb1, Ra⟩ := bx1 w #[.bool (sg a), .slice aA (nl (mg a)) ac, .int .i64 x] 31
  replace ha := ha.below hb1
  have HBT := hb1
  clear hb1
  have qa0 := Ra.c (i := 0) rfl
  have qa1 := Ra.c (i := 1) rfl
  have qa2 := Ra.c (i := 2) rfl
  go_enter Tryz.func16, Tryz.ntmps16
  go_wp2_with (fail)
  refine (Calls.mono (zright_c aA ac a _ ha la) ?_)
  rintro e W1 ⟨rfl, hb1⟩
  replace ha := ha.below hb1
  replace Ra := Ra.below hb1
  replace qa0 := cbl hb1 qa0
  replace qa1 := cbl hb1 qa1
  replace qa2 := cbl hb1 qa2
  replace HBT := Below.cons HBT hb1
  clear hb1
  obtain ⟨ad, eX, hc0⟩ := ha.rd.get 0 (by exact t9)
  obtain ⟨y, Ey⟩ : ∃ x, x = gl (limbs (mg a)) 0 := ⟨_, rfl⟩
  have hxl : y < 4294967296 := by rw [Ey]; exact (lim_limbs _).gl 0
  have hxv : y = mg a / 4294967296 ^ 0 % 4294967296 := by rw [Ey, limbs_gl]
  rw [← Ey, show ad.add 0 = ad by cases ad; simp [Addr.add]; try (split <;> simp)] at hc0
  have hod := odd_limb hxv
  have hand := and_one_u32 y hxl
  have hy : y % 2 = 1 := by simp only [decide_eq_decide] at hod; omega
  have hm : (y : Int) % 2 = 1 := by omega
  have hm2 : Int.tmod (y : Int) 2 = 1 := by rw [Int.tmod_eq_emod_of_nonneg (Int.natCast_nonneg y)]; exact hm
  clear hand
  replace Ey := Lib.hid Ey
  replace hxv := Lib.hid hxv
  replace hod := Lib.hid hod
  replace hy := Lib.hid hy
  replace h1 := Lib.hid h1
  subst eX
  go_wp2_with (fail)
  go_ret
  exact ⟨rfl, HBT⟩
theorem tright_c (aA : Option Addr) (ac : Nat) (a x : Int) (w : World) (ha : NatV w aA ac (mg a)) (la : nl (mg a) ≤ 65536) :
    Calls Tryz.prog 16 #[.agg #[.bool (sg a), .slice aA (nl (mg a)) ac, .int .i64 x]] w (fun e w' => e = .returned (.bool (rightD a x)) ∧ Below w.heap.size w w') := by
  by_cases h0 : a = 0
  · exact tright_z aA ac a x w ha la h0
  · by_cases h1 : a % 2 = 0
    · exact tright_e aA ac a x w ha la h0 h1
    · by_cases h2 : -100000 ≤ x
      · exact tright_o aA ac a x w ha la h0 (by omega) h2
      · exact tright_l aA ac a x w ha la h0 (by omega) (by omega)
end Go.Proofs.YtpaffggdeedopaaGreatDoor

/- How long the parts of a dyadic number's rational are. -/
set_option linter.unusedVariables false
namespace Go.Proofs.YtpaffggdeedopaaGreatDoor

end Go.Proofs.YtpaffggdeedopaaGreatDoor

/- The document's rationals, walked: Made; the laws' own small numbers. -/
set_option linter.unusedVariables false
set_option linter.unusedSimpArgs false
namespace Go.Proofs.YtpaffggdeedopaaGreatDoor
open Go.RowKit Go.Shelf
attribute [local go_sem] max2_i min2_i max_two min_two

/-- The rational that is made of any sign and two naturals. -/
def ratM (s : Bool) (n d : Nat) : Rat := Rat.divInt (ival s n) ((if d = 0 then 1 else d : Nat) : Int)
theorem r9made_z (sa : Bool) (A : Option Addr) (c : Nat) (l : List Nat) (B : Option Addr) (d : Nat) (k : List Nat) (m : Nat) (w : World) (hl : Rd w A l) (Ll : Lim l) (Ql : l.length ≤ maxLen) (Cl : l.length ≤ c) (Zl : A = none → c = 0) (hk : Rd w B k) (Lk : Lim k) (Qk : k.length ≤ maxLen) (Ck : k.length ≤ d) (Zk : B = none → d = 0) (hm : m ≤ 65536) (h0 : val (k.take m) = 0) :
    Calls Tryz.prog 14 #[.agg #[.bool sa, .slice A l.length c, .slice B k.length d], .int .i64 (m : Nat)] w (RetR w (ratM sa (val (l.take m)) (val (k.take m)))) := by
  replace Zl := Lib.hid Zl
  replace Zk := Lib.hid Zk
  have Bl : nl (val (l.take m)) ≤ 65536 := Nat.le_trans (made_nl l Ll m) hm
  have Bk : nl (val (k.take m)) ≤ 65536 := Nat.le_trans (made_nl k Lk m) hm
  unfold ratM
  rw [if_pos h0]
  obtain ⟨u, Eu⟩ : ∃ z, z = val (l.take m) := ⟨_, rfl⟩
  obtain ⟨v, Ev⟩ : ∃ z, z = val (k.take m) := ⟨_, rfl⟩
  rw [← Eu] at Bl
  rw [← Ev] at Bk h0
  rw [← Eu]
  have hd := fun (W : World) (h : Rd W B k) => made_n_c B d m k W h Lk Qk Ck Zk.out (by omega)
  rw [← Ev] at hd
  have hn := fun (W : World) (h : Rd W A l) => zmade_c sa A c m l W h Ll Ql Cl Zl.out (by omega)
  rw [← Eu] at hn
  have t1 : ((nl v : Int) == 0) = true := ieqT (by rw [h0, nl_zero]; rfl)
  have t2 : (nl v == 0) = true := by rw [h0, nl_zero]; rfl
  obtain ⟨y, Ey⟩ : ∃ z : Rat, z = Rat.divInt (ival sa u) ((1 : Nat) : Int) := ⟨_, rfl⟩
  rw [← Ey]
  replace hd := Lib.hid hd
  replace hn := Lib.hid hn
  replace h0 := Lib.hid h0
  replace Eu := Lib.hid Eu
  replace Ev := Lib.hid Ev
  replace Ey := Lib.hid Ey
  obtain ⟨hb1, Ra, Rr⟩ := bx2 w #[.bool sa, .slice A l.length c, .slice B k.length d] 26 #[.bool false, .slice none 0 0, .slice none 0 0] 26
  replace hl := hl.below hb1
  replace hk := hk.below hb1
  have HBT := hb1
  clear hb1
  have qa0 := Ra.c (i := 0) rfl
  have qa1 := Ra.c (i := 1) rfl
  have qa2 := Ra.c (i := 2) rfl
  have qr0 := Rr.c (i := 0) rfl
  have qr1 := Rr.c (i := 1) rfl
  have qr2 := Rr.c (i := 2) rfl
  go_enter Tryz.func14, Tryz.ntmps14
  go_wp2_with (fail)
  obtain ⟨dn, Edn⟩ : ∃ zq : Nat, zq = v := ⟨_, rfl⟩
  refine (Calls.mono (R := RetN ((w.alloc (.cells #[.bool sa, .slice A l.length c, .slice B k.length d] 26)).alloc (.cells #[.bool false, .slice none 0 0, .slice none 0 0] 26)) dn) (by rw [Edn]; with_reducible exact (hd.out _ hk)) ?_)
  replace Edn := Lib.hid Edn
  rintro e W2 ⟨Xdn, cdn, rfl, hdn, hb2⟩
  replace hl := hl.below hb2
  replace hk := hk.below hb2
  replace Ra := Ra.below hb2
  replace qa0 := cbl hb2 qa0
  replace qa1 := cbl hb2 qa1
  replace qa2 := cbl hb2 qa2
  replace Rr := Rr.below hb2
  replace qr0 := cbl hb2 qr0
  replace qr1 := cbl hb2 qr1
  replace qr2 := cbl hb2 qr2
  replace HBT := Below.cons HBT hb2
  clear hb2
  have hzd : dn = v := Edn.out
  subst hzd
  obtain ⟨hb3, Rl⟩ := bx1 W2 #[.int .u32 1] 72
  replace hl := hl.below hb3
  replace hk := hk.below hb3
  replace Ra := Ra.below hb3
  replace qa0 := cbl hb3 qa0
  replace qa1 := cbl hb3 qa1
  replace qa2 := cbl hb3 qa2
  replace Rr := Rr.below hb3
  replace qr0 := cbl hb3 qr0
  replace qr1 := cbl hb3 qr1
  replace qr2 := cbl hb3 qr2
  replace hdn := hdn.below hb3
  replace HBT := Below.cons HBT hb3
  clear hb3
  have ql0 := Rl.c (i := 0) rfl
  have hone := nat_one _ _ Rl.at_
  go_wp2_with (fail)
  obtain ⟨nu, Enu⟩ : ∃ zq : Int, zq = ival sa u := ⟨_, rfl⟩
  have Nnu : nl (mg nu) ≤ 65536 := by rw [Enu, mg_ival]; exact Bl
  refine (Calls.mono (R := RetI (W2.alloc (.cells #[.int .u32 1] 72)) nu) (by rw [Enu]; with_reducible exact (hn.out _ hl)) ?_)
  replace Enu := Lib.hid Enu
  rintro e W4 ⟨Xnu, cnu, rfl, hnu, hb4⟩
  replace hl := hl.below hb4
  replace hk := hk.below hb4
  replace Ra := Ra.below hb4
  replace qa0 := cbl hb4 qa0
  replace qa1 := cbl hb4 qa1
  replace qa2 := cbl hb4 qa2
  replace Rr := Rr.below hb4
  replace qr0 := cbl hb4 qr0
  replace qr1 := cbl hb4 qr1
  replace qr2 := cbl hb4 qr2
  replace hdn := hdn.below hb4
  replace Rl := Rl.below hb4
  replace ql0 := cbl hb4 ql0
  replace hone := hone.below hb4
  replace HBT := Below.cons HBT hb4
  clear hb4
  go_wp2_with (fail)
  have CN := r9nat_c _ _ 1 _ hone
  rw [nl_one] at CN
  replace CN := Lib.hid CN
  obtain ⟨dv, Edv⟩ : ∃ zq : Int, zq = ((1 : Nat) : Int) := ⟨_, rfl⟩
  have Ndv : nl (mg dv) ≤ 65536 := by rw [Edv, mg_nat, nl_one]; omega
  have pdv : 0 < dv := by rw [Edv]; decide
  refine (Calls.mono (R := RetI W4 dv) (by rw [Edv]; with_reducible exact CN.out) ?_)
  replace Edv := Lib.hid Edv
  rintro e W5 ⟨Xdv, cdv, rfl, hdv, hb5⟩
  replace hl := hl.below hb5
  replace hk := hk.below hb5
  replace Ra := Ra.below hb5
  replace qa0 := cbl hb5 qa0
  replace qa1 := cbl hb5 qa1
  replace qa2 := cbl hb5 qa2
  replace Rr := Rr.below hb5
  replace qr0 := cbl hb5 qr0
  replace qr1 := cbl hb5 qr1
  replace qr2 := cbl hb5 qr2
  replace hdn := hdn.below hb5
  replace Rl := Rl.below hb5
  replace ql0 := cbl hb5 ql0
  replace hone := hone.below hb5
  replace hnu := hnu.below hb5
  replace HBT := Below.cons HBT hb5
  clear hb5
  go_wp2_with (fail)
  obtain ⟨q, Eq⟩ : ∃ zq : Rat, zq = Rat.divInt nu dv := ⟨_, rfl⟩
  refine (Calls.mono (R := RetR W5 q) (by rw [Eq]; with_reducible exact (r9over_c Xnu cnu nu Xdv cdv dv _ hnu hdv (by omega) (by omega) pdv)) ?_)
  replace Eq := Lib.hid Eq
  rintro e W6 ⟨Xq, cq, Yq, dq, rfl, hq, gq, hb6⟩
  replace hl := hl.below hb6
  replace hk := hk.below hb6
  replace Ra := Ra.below hb6
  replace qa0 := cbl hb6 qa0
  replace qa1 := cbl hb6 qa1
  replace qa2 := cbl hb6 qa2
  replace Rr := Rr.below hb6
  replace qr0 := cbl hb6 qr0
  replace qr1 := cbl hb6 qr1
  replace qr2 := cbl hb6 qr2
  replace hdn := hdn.below hb6
  replace Rl := Rl.below hb6
  replace ql0 := cbl hb6 ql0
  replace hone := hone.below hb6
  replace hnu := hnu.below hb6
  replace hdv := hdv.below hb6
  replace HBT := Below.cons HBT hb6
  clear hb6
  have fzr0 := Rr.f (i := 0)
  have fzr1 := Rr.f (i := 1)
  have fzr2 := Rr.f (i := 2)
  go_wp2_with (fail)
  have hzq : q = y := by rw [Eq.out, Enu.out, Edv.out, Ey.out]
  subst hzq
  have RS := Rr.store3 (.bool (sg q.num)) (.slice Xq (nl (mg q.num)) cq) (.slice Yq (nl q.den) dq)
  have e0 := RS.c (i := 0) rfl
  have e1 := RS.c (i := 1) rfl
  have e2 := RS.c (i := 2) rfl
  refine bodyPost_ret (v := .agg #[.bool (sg q.num), .slice Xq (nl (mg q.num)) cq, .slice Yq (nl q.den) dq]) (by simp [results, Tryz.results14, go_sem, e0, e1, e2]) rfl ?_
  exact ⟨Xq, cq, Yq, dq, rfl, (Rr.keep3 (nuB rfl) hq), (Rr.keep3 (nuB rfl) gq), (Below.store3 HBT (by first | exact Nat.le_refl _ | omega))⟩
theorem r9made_n (sa : Bool) (A : Option Addr) (c : Nat) (l : List Nat) (B : Option Addr) (d : Nat) (k : List Nat) (m : Nat) (w : World) (hl : Rd w A l) (Ll : Lim l) (Ql : l.length ≤ maxLen) (Cl : l.length ≤ c) (Zl : A = none → c = 0) (hk : Rd w B k) (Lk : Lim k) (Qk : k.length ≤ maxLen) (Ck : k.length ≤ d) (Zk : B = none → d = 0) (hm : m ≤ 65536) (h0 : val (k.take m) ≠ 0) :
    Calls Tryz.prog 14 #[.agg #[.bool sa, .slice A l.length c, .slice B k.length d], .int .i64 (m : Nat)] w (RetR w (ratM sa (val (l.take m)) (val (k.take m)))) := by
  replace Zl := Lib.hid Zl
  replace Zk := Lib.hid Zk
  have Bl : nl (val (l.take m)) ≤ 65536 := Nat.le_trans (made_nl l Ll m) hm
  have Bk : nl (val (k.take m)) ≤ 65536 := Nat.le_trans (made_nl k Lk m) hm
  unfold ratM
  rw [if_neg h0]
  obtain ⟨u, Eu⟩ : ∃ z, z = val (l.take m) := ⟨_, rfl⟩
  obtain ⟨v, Ev⟩ : ∃ z, z = val (k.take m) := ⟨_, rfl⟩
  rw [← Eu] at Bl
  rw [← Ev] at Bk h0
  rw [← Eu, ← Ev]
  have hd := fun (W : World) (h : Rd W B k) => made_n_c B d m k W h Lk Qk Ck Zk.out (by omega)
  rw [← Ev] at hd
  have hn := fun (W : World) (h : Rd W A l) => zmade_c sa A c m l W h Ll Ql Cl Zl.out (by omega)
  rw [← Eu] at hn
  have pv := nl_pos.2 h0
  have t1 : ((nl v : Int) == 0) = false := ieqF (by omega)
  have t2 : (nl v == 0) = false := by simp; omega
  have p0 : (0 : Int) < (v : Int) := by omega
  obtain ⟨y, Ey⟩ : ∃ z : Rat, z = Rat.divInt (ival sa u) ((v : Nat) : Int) := ⟨_, rfl⟩
  rw [← Ey]
  replace hd := Lib.hid hd
  replace hn := Lib.hid hn
  replace h0 := Lib.hid h0
  replace Eu := Lib.hid Eu
  replace Ev := Lib.hid Ev
  replace Ey := Lib.hid Ey
  obtain ⟨hb1, Ra, Rr⟩ := bx2 w #[.bool sa, .slice A l.length c, .slice B k.length d] 26 #[.bool false, .slice none 0 0, .slice none 0 0] 26
  replace hl := hl.below hb1
  replace hk := hk.below hb1
  have HBT := hb1
  clear hb1
  have qa0 := Ra.c (i := 0) rfl
  have qa1 := Ra.c (i := 1) rfl
  have qa2 := Ra.c (i := 2) rfl
  have qr0 := Rr.c (i := 0) rfl
  have qr1 := Rr.c (i := 1) rfl
  have qr2 := Rr.c (i := 2) rfl
  go_enter Tryz.func14, Tryz.ntmps14
  go_wp2_with (fail)
  obtain ⟨dn, Edn⟩ : ∃ zq : Nat, zq = v := ⟨_, rfl⟩
  refine (Calls.mono (R := RetN ((w.alloc (.cells #[.bool sa, .slice A l.length c, .slice B k.length d] 26)).alloc (.cells #[.bool false, .slice none 0 0, .slice none 0 0] 26)) dn) (by rw [Edn]; with_reducible exact (hd.out _ hk)) ?_)
  replace Edn := Lib.hid Edn
  rintro e W2 ⟨Xdn, cdn, rfl, hdn, hb2⟩
  replace hl := hl.below hb2
  replace hk := hk.below hb2
  replace Ra := Ra.below hb2
  replace qa0 := cbl hb2 qa0
  replace qa1 := cbl hb2 qa1
  replace qa2 := cbl hb2 qa2
  replace Rr := Rr.below hb2
  replace qr0 := cbl hb2 qr0
  replace qr1 := cbl hb2 qr1
  replace qr2 := cbl hb2 qr2
  replace HBT := Below.cons HBT hb2
  clear hb2
  have hzd : dn = v := Edn.out
  subst hzd
  go_wp2_with (fail)
  obtain ⟨nu, Enu⟩ : ∃ zq : Int, zq = ival sa u := ⟨_, rfl⟩
  have Nnu : nl (mg nu) ≤ 65536 := by rw [Enu, mg_ival]; exact Bl
  refine (Calls.mono (R := RetI W2 nu) (by rw [Enu]; with_reducible exact (hn.out _ hl)) ?_)
  replace Enu := Lib.hid Enu
  rintro e W3 ⟨Xnu, cnu, rfl, hnu, hb3⟩
  replace hl := hl.below hb3
  replace hk := hk.below hb3
  replace Ra := Ra.below hb3
  replace qa0 := cbl hb3 qa0
  replace qa1 := cbl hb3 qa1
  replace qa2 := cbl hb3 qa2
  replace Rr := Rr.below hb3
  replace qr0 := cbl hb3 qr0
  replace qr1 := cbl hb3 qr1
  replace qr2 := cbl hb3 qr2
  replace hdn := hdn.below hb3
  replace HBT := Below.cons HBT hb3
  clear hb3
  go_wp2_with (fail)
  obtain ⟨dv, Edv⟩ : ∃ zq : Int, zq = (dn : Int) := ⟨_, rfl⟩
  have Ndv : nl (mg dv) ≤ 65536 := by rw [Edv, mg_nat]; exact Bk
  have pdv : 0 < dv := by rw [Edv]; exact p0
  refine (Calls.mono (R := RetI W3 dv) (by rw [Edv]; with_reducible exact (r9nat_c _ _ dn _ hdn)) ?_)
  replace Edv := Lib.hid Edv
  rintro e W4 ⟨Xdv, cdv, rfl, hdv, hb4⟩
  replace hl := hl.below hb4
  replace hk := hk.below hb4
  replace Ra := Ra.below hb4
  replace qa0 := cbl hb4 qa0
  replace qa1 := cbl hb4 qa1
  replace qa2 := cbl hb4 qa2
  replace Rr := Rr.below hb4
  replace qr0 := cbl hb4 qr0
  replace qr1 := cbl hb4 qr1
  replace qr2 := cbl hb4 qr2
  replace hdn := hdn.below hb4
  replace hnu := hnu.below hb4
  replace HBT := Below.cons HBT hb4
  clear hb4
  go_wp2_with (fail)
  obtain ⟨q, Eq⟩ : ∃ zq : Rat, zq = Rat.divInt nu dv := ⟨_, rfl⟩
  refine (Calls.mono (R := RetR W4 q) (by rw [Eq]; with_reducible exact (r9over_c Xnu cnu nu Xdv cdv dv _ hnu hdv (by omega) (by omega) pdv)) ?_)
  replace Eq := Lib.hid Eq
  rintro e W5 ⟨Xq, cq, Yq, dq, rfl, hq, gq, hb5⟩
  replace hl := hl.below hb5
  replace hk := hk.below hb5
  replace Ra := Ra.below hb5
  replace qa0 := cbl hb5 qa0
  replace qa1 := cbl hb5 qa1
  replace qa2 := cbl hb5 qa2
  replace Rr := Rr.below hb5
  replace qr0 := cbl hb5 qr0
  replace qr1 := cbl hb5 qr1
  replace qr2 := cbl hb5 qr2
  replace hdn := hdn.below hb5
  replace hnu := hnu.below hb5
  replace hdv := hdv.below hb5
  replace HBT := Below.cons HBT hb5
  clear hb5
  have fzr0 := Rr.f (i := 0)
  have fzr1 := Rr.f (i := 1)
  have fzr2 := Rr.f (i := 2)
  go_wp2_with (fail)
  have hzq : q = y := by rw [Eq.out, Enu.out, Edv.out, Ey.out]
  subst hzq
  have RS := Rr.store3 (.bool (sg q.num)) (.slice Xq (nl (mg q.num)) cq) (.slice Yq (nl q.den) dq)
  have e0 := RS.c (i := 0) rfl
  have e1 := RS.c (i := 1) rfl
  have e2 := RS.c (i := 2) rfl
  refine bodyPost_ret (v := .agg #[.bool (sg q.num), .slice Xq (nl (mg q.num)) cq, .slice Yq (nl q.den) dq]) (by simp [results, Tryz.results14, go_sem, e0, e1, e2]) rfl ?_
  exact ⟨Xq, cq, Yq, dq, rfl, (Rr.keep3 (nuB rfl) hq), (Rr.keep3 (nuB rfl) gq), (Below.store3 HBT (by first | exact Nat.le_refl _ | omega))⟩
theorem r9made_c (sa : Bool) (A : Option Addr) (c : Nat) (l : List Nat) (B : Option Addr) (d : Nat) (k : List Nat) (m : Nat) (w : World) (hl : Rd w A l) (Ll : Lim l) (Ql : l.length ≤ maxLen) (Cl : l.length ≤ c) (Zl : A = none → c = 0) (hk : Rd w B k) (Lk : Lim k) (Qk : k.length ≤ maxLen) (Ck : k.length ≤ d) (Zk : B = none → d = 0) (hm : m ≤ 65536) :
    Calls Tryz.prog 14 #[.agg #[.bool sa, .slice A l.length c, .slice B k.length d], .int .i64 (m : Nat)] w (RetR w (ratM sa (val (l.take m)) (val (k.take m)))) := by
  by_cases h0 : val (k.take m) = 0
  · exact r9made_z sa A c l B d k m w hl Ll Ql Cl Zl hk Lk Qk Ck Zk hm h0
  · exact r9made_n sa A c l B d k m w hl Ll Ql Cl Zl hk Lk Qk Ck Zk hm h0
/-- A whole number and a power, as they are given. -/
def RetDr (w : World) (z x : Int) (e : Ending) (w' : World) : Prop := ∃ A c, e = .returned (.agg #[.bool (sg z), .slice A (nl (mg z)) c, .int .i64 x]) ∧ NatV w' A c (mg z) ∧ Below w.heap.size w w'
theorem retDr_nz {w w' : World} {z x : Int} {e : Ending} (h : RetDr w z x e w') (hn : Nz z x) : RetD w (dval z x) e w' := by
  obtain ⟨A, c, h1, h2, h3⟩ := h
  obtain ⟨k1, k2⟩ := form_of_nz hn
  exact ⟨A, c, by rw [k1, k2]; exact h1, by rw [k1]; exact h2, h3⟩
theorem ld_c (z x : Int) (w : World) (h0 : -9223372036854775808 ≤ z) (h1 : z < 9223372036854775808) :
    Calls Tryz.prog 76 #[.int .i64 z, .int .i64 x] w (RetDr w z x) := by
  obtain ⟨hb1, Rr⟩ := bx1 w #[.bool false, .slice none 0 0, .int .i64 0] 31
  have HBT := hb1
  clear hb1
  have qr0 := Rr.c (i := 0) rfl
  have qr1 := Rr.c (i := 1) rfl
  have qr2 := Rr.c (i := 2) rfl
  go_enter Tryz.func76, Tryz.ntmps76
  go_wp2_with (fail)
  obtain ⟨v, Ev⟩ : ∃ zq : Int, zq = z := ⟨_, rfl⟩
  refine (Calls.mono (R := RetI (w.alloc (.cells #[.bool false, .slice none 0 0, .int .i64 0] 31)) v) (by rw [Ev]; with_reducible exact (zof_c z _ h0 h1)) ?_)
  replace Ev := Lib.hid Ev
  rintro e W2 ⟨Xv, cv, rfl, hv, hb2⟩
  replace Rr := Rr.below hb2
  replace qr0 := cbl hb2 qr0
  replace qr1 := cbl hb2 qr1
  replace qr2 := cbl hb2 qr2
  replace HBT := Below.cons HBT hb2
  clear hb2
  have fzr0 := Rr.f (i := 0)
  have fzr1 := Rr.f (i := 1)
  have fzr2 := Rr.f (i := 2)
  go_wp2_with (fail)
  have hzv : v = z := by exact Ev.out
  subst hzv
  have RS := Rr.store3 (.bool (sg v)) (.slice Xv (nl (mg v)) cv) (.int .i64 x)
  have e0 := RS.c (i := 0) rfl
  have e1 := RS.c (i := 1) rfl
  have e2 := RS.c (i := 2) rfl
  refine bodyPost_ret (v := .agg #[.bool (sg v), .slice Xv (nl (mg v)) cv, .int .i64 x]) (by simp [results, Tryz.results76, go_sem, e0, e1, e2]) rfl ?_
  exact ⟨Xv, cv, rfl, (Rr.keep3 (nuB rfl) hv), (Below.store3 HBT (by first | exact Nat.le_refl _ | omega))⟩
theorem lq_c (n m : Int) (w : World) (n0 : -1000000 ≤ n) (n1 : n ≤ 1000000) (m0 : 0 < m) (m1 : m ≤ 1000000) :
    Calls Tryz.prog 74 #[.int .i64 n, .int .i64 m] w (RetR w (Rat.divInt n m)) := by
  obtain ⟨y, Ey⟩ : ∃ z : Rat, z = Rat.divInt n m := ⟨_, rfl⟩
  rw [← Ey]
  replace Ey := Lib.hid Ey
  obtain ⟨hb1, Rr⟩ := bx1 w #[.bool false, .slice none 0 0, .slice none 0 0] 26
  have HBT := hb1
  clear hb1
  have qr0 := Rr.c (i := 0) rfl
  have qr1 := Rr.c (i := 1) rfl
  have qr2 := Rr.c (i := 2) rfl
  go_enter Tryz.func74, Tryz.ntmps74
  go_wp2_with (fail)
  obtain ⟨u, Eu⟩ : ∃ zq : Int, zq = n := ⟨_, rfl⟩
  have Nu : nl (mg u) ≤ 1 := by rw [Eu]; exact nl_le.2 (by unfold mg; omega)
  refine (Calls.mono (R := RetI (w.alloc (.cells #[.bool false, .slice none 0 0, .slice none 0 0] 26)) u) (by rw [Eu]; with_reducible exact (zof_c n _ (by omega) (by omega))) ?_)
  replace Eu := Lib.hid Eu
  rintro e W2 ⟨Xu, cu, rfl, hu, hb2⟩
  replace Rr := Rr.below hb2
  replace qr0 := cbl hb2 qr0
  replace qr1 := cbl hb2 qr1
  replace qr2 := cbl hb2 qr2
  replace HBT := Below.cons HBT hb2
  clear hb2
  go_wp2_with (fail)
  obtain ⟨v, Ev⟩ : ∃ zq : Int, zq = m := ⟨_, rfl⟩
  have Nv : nl (mg v) ≤ 1 := by rw [Ev]; exact nl_le.2 (by unfold mg; omega)
  have pv : 0 < v := by omega
  refine (Calls.mono (R := RetI W2 v) (by rw [Ev]; with_reducible exact (zof_c m _ (by omega) (by omega))) ?_)
  replace Ev := Lib.hid Ev
  rintro e W3 ⟨Xv, cv, rfl, hv, hb3⟩
  replace Rr := Rr.below hb3
  replace qr0 := cbl hb3 qr0
  replace qr1 := cbl hb3 qr1
  replace qr2 := cbl hb3 qr2
  replace hu := hu.below hb3
  replace HBT := Below.cons HBT hb3
  clear hb3
  go_wp2_with (fail)
  obtain ⟨q, Eq⟩ : ∃ zq : Rat, zq = Rat.divInt u v := ⟨_, rfl⟩
  have CT4 := (r9make_c Xu cu u Xv cv v _ hu hv (by omega) (by omega) pv)
  rw [← Eq] at CT4
  replace Eq := Lib.hid Eq
  replace CT4 := Lib.hid CT4
  refine (Calls.mono CT4.out ?_)
  clear CT4
  rintro e W4 ⟨Xq, cq, Yq, dq, rfl, hq, gq, hb4⟩
  replace Rr := Rr.below hb4
  replace qr0 := cbl hb4 qr0
  replace qr1 := cbl hb4 qr1
  replace qr2 := cbl hb4 qr2
  replace hu := hu.below hb4
  replace hv := hv.below hb4
  replace HBT := Below.cons HBT hb4
  clear hb4
  obtain ⟨hb5, Rq⟩ := bx1 W4 #[.bool (sg q.num), .slice Xq (nl (mg q.num)) cq, .slice Yq (nl q.den) dq] 26
  replace Rr := Rr.below hb5
  replace qr0 := cbl hb5 qr0
  replace qr1 := cbl hb5 qr1
  replace qr2 := cbl hb5 qr2
  replace hu := hu.below hb5
  replace hv := hv.below hb5
  replace hq := hq.below hb5
  replace gq := gq.below hb5
  replace HBT := Below.cons HBT hb5
  clear hb5
  have qq0 := Rq.c (i := 0) rfl
  have qq1 := Rq.c (i := 1) rfl
  have qq2 := Rq.c (i := 2) rfl
  have fzr0 := Rr.f (i := 0)
  have fzr1 := Rr.f (i := 1)
  have fzr2 := Rr.f (i := 2)
  go_wp2_with (fail)
  have hzq : q = y := by rw [Eq.out, Eu.out, Ev.out, Ey.out]
  subst hzq
  have RS := Rr.store3 (.bool (sg q.num)) (.slice Xq (nl (mg q.num)) cq) (.slice Yq (nl q.den) dq)
  have e0 := RS.c (i := 0) rfl
  have e1 := RS.c (i := 1) rfl
  have e2 := RS.c (i := 2) rfl
  refine bodyPost_ret (v := .agg #[.bool (sg q.num), .slice Xq (nl (mg q.num)) cq, .slice Yq (nl q.den) dq]) (by simp [results, Tryz.results74, go_sem, e0, e1, e2]) rfl ?_
  exact ⟨Xq, cq, Yq, dq, rfl, (Rr.keep3 (nuB rfl) hq), (Rr.keep3 (nuB rfl) gq), (Below.store3 HBT (by first | exact Nat.le_refl _ | omega))⟩
end Go.Proofs.YtpaffggdeedopaaGreatDoor

/- Rounding in five directions: what the laws say of it. No Go in it. -/
set_option linter.unusedVariables false
set_option linter.unusedSimpArgs false
namespace Go.Proofs.YtpaffggdeedopaaGreatDoor

theorem zp_self (n : Int) : (2 : Rat) ^ n * (2 : Rat) ^ (-n) = 1 := by
  rw [← zp_add, Int.add_right_neg, Rat.zpow_zero]
theorem up_down (v : Rat) (n : Int) : v * (2 : Rat) ^ n * (2 : Rat) ^ (-n) = v := by
  rw [Rat.mul_assoc, zp_self, Rat.mul_one]
theorem dval_le_iff {z n : Int} {v : Rat} : dval z (-n) ≤ v ↔ (z : Rat) ≤ v * (2 : Rat) ^ n := by
  have hp := zp_pos n
  have hq := zp_pos (-n)
  have h1 := zp_self n
  unfold dval
  constructor
  · intro h
    have h2 := Rat.mul_le_mul_of_nonneg_right h (Rat.le_of_lt hp)
    rw [Rat.mul_assoc, Rat.mul_comm ((2 : Rat) ^ (-n)), h1, Rat.mul_one] at h2
    exact h2
  · intro h
    have h2 := Rat.mul_le_mul_of_nonneg_right h (Rat.le_of_lt hq)
    rw [up_down] at h2
    exact h2
theorem le_dval_iff {z n : Int} {v : Rat} : v ≤ dval z (-n) ↔ v * (2 : Rat) ^ n ≤ (z : Rat) := by
  have hp := zp_pos n
  have hq := zp_pos (-n)
  have h1 := zp_self n
  unfold dval
  constructor
  · intro h
    have h2 := Rat.mul_le_mul_of_nonneg_right h (Rat.le_of_lt hp)
    rw [Rat.mul_assoc (z : Rat), Rat.mul_comm ((2 : Rat) ^ (-n)), h1, Rat.mul_one] at h2
    exact h2
  · intro h
    have h2 := Rat.mul_le_mul_of_nonneg_right h (Rat.le_of_lt hq)
    rw [up_down] at h2
    exact h2
theorem floor_le (x : Rat) : (x.floor : Rat) ≤ x := Rat.le_floor_iff.1 (Int.le_refl _)
theorem lt_floor (x : Rat) : x < ((x.floor + 1 : Int) : Rat) := Rat.floor_lt_iff.1 (by omega)
theorem le_ceil (x : Rat) : x ≤ (x.ceil : Rat) := Rat.ceil_le_iff.1 (Int.le_refl _)
theorem ceil_lt (x : Rat) : ((x.ceil - 1 : Int) : Rat) < x := Rat.lt_ceil_iff.1 (by omega)
/-- The sign of a number times a power of 2. -/
theorem mul_zp_neg {v : Rat} (n : Int) : v * (2 : Rat) ^ n < 0 ↔ v < 0 := by
  have hp := zp_pos n
  have h := Rat.mul_lt_mul_right (a := v) (b := 0) hp
  rw [Rat.zero_mul] at h
  exact h
theorem rcast_add1 (z : Int) : ((z + 1 : Int) : Rat) = (z : Rat) + 1 := by rw [Rat.intCast_add]; rfl
theorem rcast_sub1 (z : Int) : ((z - 1 : Int) : Rat) = (z : Rat) - 1 := by rw [Rat.intCast_sub]; rfl
/-- Down and up. -/
theorem side_low (v : Rat) (n : Int) : dval (v * (2 : Rat) ^ n).floor (-n) ≤ v := dval_le_iff.2 (floor_le _)
theorem side_high (v : Rat) (n : Int) : v ≤ dval (v * (2 : Rat) ^ n).ceil (-n) := le_dval_iff.2 (le_ceil _)
theorem dval_add1 (z n : Int) : dval z (-n) + dval 1 (-n) = dval (z + 1) (-n) := by
  unfold dval; rw [rcast_add1, Rat.add_mul]; rfl
theorem dval_sub1 (z n : Int) : dval z (-n) - dval 1 (-n) = dval (z - 1) (-n) := by
  unfold dval; rw [rcast_sub1, Rat.sub_eq_add_neg, Rat.sub_eq_add_neg, Rat.add_mul, Rat.neg_mul]; rfl
theorem side_low1 (v : Rat) (n : Int) : v < dval (v * (2 : Rat) ^ n).floor (-n) + dval 1 (-n) := by
  rw [dval_add1, ← Rat.not_le, dval_le_iff, Rat.not_le]
  exact lt_floor _
theorem side_high1 (v : Rat) (n : Int) : dval (v * (2 : Rat) ^ n).ceil (-n) - dval 1 (-n) < v := by
  rw [dval_sub1, ← Rat.not_le, le_dval_iff, Rat.not_le]
  exact ceil_lt _
theorem rnd_2 (v : Rat) (n : Int) : rnd 2 (v * (2 : Rat) ^ n) = if v < 0 then (v * (2 : Rat) ^ n).ceil else (v * (2 : Rat) ^ n).floor := by
  unfold rnd
  by_cases h : v < 0
  · have h2 := (mul_zp_neg n).2 h
    simp [h, h2]
  · have h2 : ¬ v * (2 : Rat) ^ n < 0 := fun k => h ((mul_zp_neg n).1 k)
    simp [h, h2]
theorem rnd_3 (v : Rat) (n : Int) : rnd 3 (v * (2 : Rat) ^ n) = if v < 0 then (v * (2 : Rat) ^ n).floor else (v * (2 : Rat) ^ n).ceil := by
  unfold rnd
  by_cases h : v < 0
  · have h2 := (mul_zp_neg n).2 h
    simp [h, h2]
  · have h2 : ¬ v * (2 : Rat) ^ n < 0 := fun k => h ((mul_zp_neg n).1 k)
    simp [h, h2]
theorem rnd_0 (x : Rat) : rnd 0 x = x.floor := by unfold rnd; simp
theorem rnd_1 (x : Rat) : rnd 1 x = x.ceil := by unfold rnd; simp
theorem rnd_4 (x : Rat) : rnd 4 x = if x - x.floor < x.ceil - x ∨ x - x.floor = x.ceil - x ∧ x.floor % 2 = 0 then x.floor else x.ceil := by
  unfold rnd; simp
theorem rnd_near (x : Rat) : rnd 4 x = x.floor ∨ rnd 4 x = x.ceil := by
  rw [rnd_4]; split
  · exact .inl rfl
  · exact .inr rfl
theorem ceil_floor (x : Rat) : x.ceil = x.floor ∨ x.ceil = x.floor + 1 := by
  have h1 := floor_le x
  have h2 := lt_floor x
  have h3 := le_ceil x
  have h4 := ceil_lt x
  have h5 : x.floor ≤ x.ceil := Rat.intCast_le_intCast.1 (Rat.le_trans h1 h3)
  have h7 : ((x.ceil - 1 : Int) : Rat) < ((x.floor + 1 : Int) : Rat) := by
    generalize ((x.ceil - 1 : Int) : Rat) = p at *
    generalize ((x.floor + 1 : Int) : Rat) = q at *
    grind
  have h6 : x.ceil - 1 < x.floor + 1 := Rat.intCast_lt_intCast.1 h7
  omega
/-- The nearest is at most half a step away. -/
theorem near_half (x : Rat) : 2 * (x - (rnd 4 x : Rat)) ≤ 1 ∧ 2 * ((rnd 4 x : Rat) - x) ≤ 1 := by
  have h1 := floor_le x
  have h3 := le_ceil x
  have h2 := lt_floor x
  rw [rcast_add1] at h2
  have h6 : (x.ceil : Rat) = x.floor ∨ (x.ceil : Rat) = x.floor + 1 := by
    rcases ceil_floor x with h | h
    · rw [h]; exact .inl rfl
    · rw [h, rcast_add1]; exact .inr rfl
  rw [rnd_4]
  split
  · rename_i h
    constructor <;> grind
  · rename_i h
    rw [not_or] at h
    have h7 := h.1
    rw [Rat.not_lt] at h7
    constructor <;> grind
theorem dval_diff (v : Rat) (z n : Int) : v - dval z (-n) = (v * (2 : Rat) ^ n - z) * (2 : Rat) ^ (-n) := by
  rw [Rat.sub_eq_add_neg, Rat.sub_eq_add_neg, Rat.add_mul, up_down, Rat.neg_mul]; rfl
def rabs (x : Rat) : Rat := if x < 0 then -x else x
theorem side_far (v : Rat) (n : Int) : rabs (v - dval (rnd 4 (v * (2 : Rat) ^ n)) (-n)) + rabs (v - dval (rnd 4 (v * (2 : Rat) ^ n)) (-n)) ≤ dval 1 (-n) := by
  obtain ⟨h1, h2⟩ := near_half (v * (2 : Rat) ^ n)
  have hq := zp_pos (-n)
  rw [dval_diff]
  have e1 : dval 1 (-n) = 1 * (2 : Rat) ^ (-n) := rfl
  rw [e1]
  generalize v * (2 : Rat) ^ n = x at *
  generalize (rnd 4 x : Rat) = r at *
  generalize (2 : Rat) ^ (-n) = p at *
  have h3 := Rat.mul_le_mul_of_nonneg_right h1 (Rat.le_of_lt hq)
  have h4 := Rat.mul_le_mul_of_nonneg_right h2 (Rat.le_of_lt hq)
  unfold rabs
  split <;> grind
/-- The power of a number that is not nothing. -/
theorem dval_exp {z n : Int} (h : dmn (dval z n) ≠ 0) : n ≤ dex (dval z n) := by
  obtain ⟨h1, h2⟩ := make_form z n
  rw [← h1] at h
  have hz : z ≠ 0 := fun e => h (by rw [e]; rfl)
  rw [← h2]
  unfold de
  rw [if_neg hz]
  omega
end Go.Proofs.YtpaffggdeedopaaGreatDoor

/- A rational rounded to a whole number, the document's way. -/
set_option linter.unusedVariables false
set_option linter.unusedSimpArgs false
namespace Go.Proofs.YtpaffggdeedopaaGreatDoor
open Go.RowKit Go.Shelf
attribute [local go_sem] max2_i min2_i max_two min_two

theorem floor_abs (x : Rat) : mg x.floor ≤ mg x.num := by
  rw [Rat.floor_def]
  exact Int.natAbs_ediv_le_natAbs _ _
theorem ceil_abs (x : Rat) : mg x.ceil ≤ mg x.num := by
  rw [Rat.ceil_eq_neg_floor_neg, mg_neg]
  refine Nat.le_trans (floor_abs _) ?_
  rw [Rat.neg_num, mg_neg]; exact Nat.le_refl _
theorem rnd_abs (dr : Int) (x : Rat) : mg (rnd dr x) ≤ mg x.num := by
  unfold rnd
  split
  · exact floor_abs x
  · split
    · exact ceil_abs x
    · split
      · exact floor_abs x
      · exact ceil_abs x
theorem PBR.put {W W' : World} {u : Value} {q : Rat} {n0 k : Nat} (h : PBR n0 u q W) (hp : Put W W' k) (hne : u ≠ .pointer (some ⟨k, 0, none⟩)) : PBR n0 u q W' := by
  obtain ⟨nb, X, c, Y, d, h1, h2, h3, h4, h5⟩ := h
  exact ⟨nb, X, c, Y, d, h1, h2, ⟨(hp.far nb (fun e => hne (by rw [h1, e]))).trans h3.at_⟩, hp.nat h4, hp.nat h5⟩
theorem num_neg {a : Rat} : a < 0 ↔ a.num < 0 := by rw [← Rat.not_le, ← Rat.num_nonneg]; omega
end Go.Proofs.YtpaffggdeedopaaGreatDoor

/- A rational, a dyadic number, rounded, the document's way: Cut, Round. -/
set_option linter.unusedVariables false
set_option linter.unusedSimpArgs false
namespace Go.Proofs.YtpaffggdeedopaaGreatDoor
open Go.RowKit Go.Shelf
attribute [local go_sem] max2_i min2_i max_two min_two

end Go.Proofs.YtpaffggdeedopaaGreatDoor

/- What the laws of dyadic numbers share: cutting in any direction, sizes, what is alike. -/
set_option linter.unusedVariables false
set_option linter.unusedSimpArgs false
namespace Go.Proofs.YtpaffggdeedopaaGreatDoor
open Go.RowKit Go.Shelf

/-- How long a dyadic number is, and how far its power lies from 0. -/
structure DB (q : Rat) (l E : Nat) : Prop where
  d : Dyd q
  l : nl (mg (dmn q)) ≤ l
  e : -(E : Int) ≤ dex q ∧ dex q ≤ E
theorem DB.ok {q : Rat} {l E : Nat} (h : DB q l E) (hl : l ≤ 100000) (hE : E ≤ 1000000) : DOk q := ⟨h.d, by have := h.l; omega, by have := h.e; omega⟩
theorem DB.mono {q : Rat} {l E l2 E2 : Nat} (h : DB q l E) (hl : l ≤ l2) (hE : E ≤ E2) : DB q l2 E2 := ⟨h.d, by have := h.l; omega, by have := h.e; omega⟩
theorem db_val {z e : Int} {l E : Nat} (hl : nl (mg z) ≤ l) (he : -(E : Int) ≤ e ∧ e ≤ E) : DB (dval z e) l (E + 32 * l) := by
  obtain ⟨h1, h2⟩ := form_bd z e
  refine ⟨dyd_val z e, by omega, ?_⟩
  omega
theorem pow_szb (n : Int) {E : Nat} (h : -(E : Int) ≤ n ∧ n ≤ E) : nl (mg ((2 : Rat) ^ n).num) ≤ E / 32 + 1 ∧ nl ((2 : Rat) ^ n).den ≤ E / 32 + 1 := by
  rcases Int.lt_or_le n 0 with hn | hn
  · obtain ⟨k, rfl⟩ := Int.exists_eq_neg_ofNat (show n ≤ 0 by omega)
    rw [← pow_mk]
    have h0 : (2 ^ k : Nat) ≠ 0 := Nat.pos_iff_ne_zero.1 (Nat.two_pow_pos k)
    rw [Rat.num_mkRat, Rat.den_mkRat, if_neg h0, if_neg h0]
    have hd := nl_div (2 ^ k) (Nat.gcd (2 ^ k) (Int.natAbs 1))
    have hp := nl_two_pow k
    have hm : mg (1 / ((Nat.gcd (2 ^ k) (Int.natAbs 1) : Nat) : Int)) ≤ 1 := Int.natAbs_ediv_le_natAbs 1 _
    have h1 := nl_mono hm
    rw [nl_one] at h1
    have h3 : k / 32 ≤ E / 32 := Nat.div_le_div_right (by omega)
    constructor
    · omega
    · omega
  · obtain ⟨k, rfl⟩ := Int.eq_ofNat_of_zero_le hn
    rw [← pow_up, Rat.num_intCast, Rat.den_intCast, shf_one, mg_nat, nl_two_pow, nl_one]
    have h3 : k / 32 ≤ E / 32 := Nat.div_le_div_right (by omega)
    constructor <;> omega
theorem right_form {q : Rat} (h : -100000 ≤ dex q ∧ dex q ≤ 100000) : rightD (dmn q) (dex q) = true := by
  unfold rightD
  rcases nz_q q with k | ⟨k1, k2⟩
  · rw [if_neg (by omega), decide_eq_true k, decide_eq_true h.1, decide_eq_true h.2]; rfl
  · rw [if_pos k1, k2]; rfl
def PD (u : Value) (q : Rat) (W : World) : Prop := ∃ X c, u = .agg #[.bool (sg (dmn q)), .slice X (nl (mg (dmn q))) c, .int .i64 (dex q)] ∧ NatV W X c (mg (dmn q))
def PBD (n0 : Nat) (u : Value) (q : Rat) (W : World) : Prop := ∃ nb X c, u = .pointer (some ⟨nb, 0, none⟩) ∧ n0 ≤ nb ∧ BoxA W nb 31 #[.bool (sg (dmn q)), .slice X (nl (mg (dmn q))) c, .int .i64 (dex q)] ∧ NatV W X c (mg (dmn q))
theorem PD.below {W W' : World} {u : Value} {q : Rat} (h : PD u q W) (hb : Below W.heap.size W W') : PD u q W' := by
  obtain ⟨X, c, h1, h2⟩ := h; exact ⟨X, c, h1, h2.below hb⟩
theorem PD.put {W W' : World} {u : Value} {q : Rat} {k : Nat} (h : PD u q W) (hp : Put W W' k) : PD u q W' := by
  obtain ⟨X, c, h1, h2⟩ := h; exact ⟨X, c, h1, hp.nat h2⟩
theorem PBD.below {W W' : World} {u : Value} {q : Rat} {n0 : Nat} (h : PBD n0 u q W) (hb : Below W.heap.size W W') : PBD n0 u q W' := by
  obtain ⟨nb, X, c, h1, h2, h3, h4⟩ := h; exact ⟨nb, X, c, h1, h2, h3.below hb, h4.below hb⟩
theorem PBD.put {W W' : World} {u : Value} {q : Rat} {n0 k : Nat} (h : PBD n0 u q W) (hp : Put W W' k) (hne : u ≠ .pointer (some ⟨k, 0, none⟩)) : PBD n0 u q W' := by
  obtain ⟨nb, X, c, h1, h2, h3, h4⟩ := h
  exact ⟨nb, X, c, h1, h2, ⟨(hp.far nb (fun e => hne (by rw [h1, e]))).trans h3.at_⟩, hp.nat h4⟩
theorem tsameT_c (aA : Option Addr) (ac : Nat) (a : Rat) (bA : Option Addr) (bc : Nat) (b : Rat) (w : World) (ha : NatV w aA ac (mg (dmn a))) (hb : NatV w bA bc (mg (dmn b))) (oa : DOk a) (h : a = b) :
    Calls Tryz.prog 24 #[.agg #[.bool (sg (dmn a)), .slice aA (nl (mg (dmn a))) ac, .int .i64 (dex a)], .agg #[.bool (sg (dmn b)), .slice bA (nl (mg (dmn b))) bc, .int .i64 (dex b)]] w (fun e w' => e = .returned (.bool true) ∧ Below w.heap.size w w') := by
  subst h
  have l := oa.l
  refine (tsame_c aA ac a bA bc a w ha hb oa.d oa.d (by omega) (by omega)).mono ?_
  rintro e w1 ⟨rfl, h1⟩
  exact ⟨by rw [decide_eq_true rfl], h1⟩
theorem r9sameT_c (aA : Option Addr) (ac : Nat) (aB : Option Addr) (ad : Nat) (a : Rat) (bA : Option Addr) (bc : Nat) (bB : Option Addr) (bd : Nat) (b : Rat) (w : World) (ha : NatV w aA ac (mg a.num)) (ga : NatV w aB ad a.den) (hb : NatV w bA bc (mg b.num)) (gb : NatV w bB bd b.den) (la : nl (mg a.num) ≤ 1073741824) (ma : nl a.den ≤ 1073741824) (h : a = b) :
    Calls Tryz.prog 44 #[.agg #[.bool (sg a.num), .slice aA (nl (mg a.num)) ac, .slice aB (nl a.den) ad], .agg #[.bool (sg b.num), .slice bA (nl (mg b.num)) bc, .slice bB (nl b.den) bd]] w (fun e w' => e = .returned (.bool true) ∧ Below w.heap.size w w') := by
  subst h
  refine (r9same_c aA ac aB ad a bA bc bB bd a w ha ga hb gb la ma la ma).mono ?_
  rintro e w1 ⟨rfl, h1⟩
  exact ⟨by rw [decide_eq_true rfl], h1⟩
theorem zsameT_c (aA : Option Addr) (ac : Nat) (a : Int) (bA : Option Addr) (bc : Nat) (b : Int) (w : World) (ha : NatV w aA ac (mg a)) (hb : NatV w bA bc (mg b)) (la : nl (mg a) ≤ 1073741824) (h : a = b) :
    Calls Tryz.prog 57 #[.agg #[.bool (sg a), .slice aA (nl (mg a)) ac], .agg #[.bool (sg b), .slice bA (nl (mg b)) bc]] w (fun e w' => e = .returned (.bool true) ∧ Below w.heap.size w w') := by
  subst h
  refine (zsame_c aA ac a bA bc a w ha hb la la).mono ?_
  rintro e w1 ⟨rfl, h1⟩
  exact ⟨by rw [decide_eq_true rfl], h1⟩
theorem drightT_c (aA : Option Addr) (ac : Nat) (a : Rat) (w : World) (ha : NatV w aA ac (mg (dmn a))) (l : nl (mg (dmn a)) ≤ 65536) (h : -100000 ≤ dex a ∧ dex a ≤ 100000) :
    Calls Tryz.prog 25 #[.agg #[.bool (sg (dmn a)), .slice aA (nl (mg (dmn a))) ac, .int .i64 (dex a)]] w (fun e w' => e = .returned (.bool true) ∧ Below w.heap.size w w') := by
  refine (dright_c aA ac (dmn a) (dex a) w ha l).mono ?_
  rintro e w1 ⟨rfl, h1⟩
  exact ⟨by rw [right_form h], h1⟩
theorem trightT_c (aA : Option Addr) (ac : Nat) (a : Rat) (w : World) (ha : NatV w aA ac (mg (dmn a))) (l : nl (mg (dmn a)) ≤ 65536) (h : -100000 ≤ dex a ∧ dex a ≤ 100000) :
    Calls Tryz.prog 16 #[.agg #[.bool (sg (dmn a)), .slice aA (nl (mg (dmn a))) ac, .int .i64 (dex a)]] w (fun e w' => e = .returned (.bool true) ∧ Below w.heap.size w w') := by
  refine (tright_c aA ac (dmn a) (dex a) w ha l).mono ?_
  rintro e w1 ⟨rfl, h1⟩
  exact ⟨by rw [right_form h], h1⟩
end Go.Proofs.YtpaffggdeedopaaGreatDoor

/- What the laws of dyadic numbers share: what is made of raw numbers. -/
set_option linter.unusedVariables false
set_option linter.unusedSimpArgs false
namespace Go.Proofs.YtpaffggdeedopaaGreatDoor
open Go.RowKit Go.Shelf

theorem r9madeI_c (sa : Bool) (A : Option Addr) (c : Nat) (l : List Nat) (B : Option Addr) (d : Nat) (k : List Nat) (m : Nat) (i : Int) (w : World) (hl : Rd w A l) (Ll : Lim l) (Ql : l.length ≤ maxLen) (Cl : l.length ≤ c) (Zl : A = none → c = 0) (hk : Rd w B k) (Lk : Lim k) (Qk : k.length ≤ maxLen) (Ck : k.length ≤ d) (Zk : B = none → d = 0) (hm : m ≤ 65536) (hi : (m : Int) = i) :
    Calls Tryz.prog 14 #[.agg #[.bool sa, .slice A l.length c, .slice B k.length d], .int .i64 i] w (RetR w (ratM sa (val (l.take m)) (val (k.take m)))) := by
  subst hi; exact r9made_c sa A c l B d k m w hl Ll Ql Cl Zl hk Lk Qk Ck Zk hm
theorem db_sz {a : Rat} {l E : Nat} (h : DB a l E) : nl (mg a.num) ≤ l + (E / 32 + 1) ∧ nl a.den ≤ 1 + (E / 32 + 1) := by
  have h1 := mul_sz ((dmn a : Int) : Rat) ((2 : Rat) ^ dex a)
  have h2 := pow_szb (dex a) h.e
  have h3 := h.l
  rw [dval_eq a h.d, Rat.num_intCast, Rat.den_intCast, nl_one] at h1
  omega
theorem db_rnd {q : Rat} {n dr : Int} {l E : Nat} (hl : nl (mg (q * (2 : Rat) ^ n).num) ≤ l) (hE : -(E : Int) ≤ n ∧ n ≤ E) : DB (dval (rnd dr (q * (2 : Rat) ^ n)) (-n)) l (E + 32 * l) :=
  db_val (Nat.le_trans (nl_mono (rnd_abs _ _)) hl) (by omega)
theorem ratM_sz {s : Bool} {n d m : Nat} (hn : nl n ≤ m) (hd : nl d ≤ m) (hm : 1 ≤ m) : nl (mg (ratM s n d).num) ≤ m ∧ nl (ratM s n d).den ≤ m := by
  unfold ratM
  have hp : (0 : Int) < ((if d = 0 then 1 else d : Nat) : Int) := by split <;> omega
  obtain ⟨_, _, _, h1, h2, h3, _⟩ := gcd_parts (n := ival s n) hp
  rw [h1, h3]
  refine ⟨Nat.le_trans (nl_mono (Int.natAbs_ediv_le_natAbs _ _)) (by rw [show (ival s n).natAbs = n from mg_ival s n]; exact hn), Nat.le_trans (nl_mono (Int.natAbs_ediv_le_natAbs _ _)) ?_⟩
  rw [Int.natAbs_natCast]
  split
  · rw [nl_one]; exact hm
  · exact hd
end Go.Proofs.YtpaffggdeedopaaGreatDoor

/- What an input gives a walk: whole numbers, rationals, dyadic numbers, pairs; the library's table as it was laid. -/
set_option linter.unusedVariables false
set_option linter.unusedSimpArgs false
namespace Go.Proofs.YtpaffggdeedopaaGreatDoor
open Go.RowKit Go.ChangeShapes Go.WideShapes Go.ChangeAt

theorem row_own : ownKnob Tryz.prog.godebug = none := by kernel_rfl
theorem row_out : laidOutB Tryz.prog = true := by kernel_rfl
theorem row_globD : Tryz.prog.globalNamed "math/bits.deBruijn32tab" = some 0 := by kernel_rfl
theorem row_globDT : (Tryz.prog.globals[0]?).map (·.type) = some 151 := by kernel_rfl
theorem row_cellsB : Tryz.prog.cellsOf 4 = 1 := by kernel_rfl
theorem row_cells8 : Tryz.prog.cellsOf 5 = 1 := by kernel_rfl
theorem row_cellsZ : Tryz.prog.cellsOf 24 = 2 := by kernel_rfl
theorem row_cells32 : Tryz.prog.cellsOf 72 = 1 := by kernel_rfl
theorem row_cellsS : Tryz.prog.cellsOf 22 = 1 := by kernel_rfl

section
variable {H : Type} {enc : TypeId × Value → H} {W : World} {base : Nat} {sp : Nat → Bool} {held : Bool}

/-- What the laws' walks ask of a slice of limbs. -/
def IsL (W : World) (A : Option Addr) (c : Nat) (l : List Nat) : Prop := Rd W A l ∧ Lim l ∧ l.length ≤ maxLen ∧ l.length ≤ c ∧ (A = none → c = 0)
theorem open_nat {fuel : Nat} {cs : List Value} {x : DataW H × List MemPlace} (h : DataW.trod enc Tryz.prog W base sp held fuel 22 cs = some x) :
    ∃ A c l, cs = [.slice A l.length c] ∧ IsL W A c l := by
  rcases open_ints Tryz.underlying22 Tryz.underlying72 row_cells32 h with ⟨rfl, _⟩ | ⟨a, len, cap, zs, rfl, _, hl, hm, hz, _, hcell, hwf⟩
  · exact ⟨none, 0, [], rfl, Rd.nil, Lim.nil, by decide, Nat.le_refl _, fun _ => rfl⟩
  · have hlz : len ≤ zs.length := by rw [hz]; split <;> omega
    have hlen : ((zs.take len).map Int.toNat).length = len := by rw [List.length_map, List.length_take]; omega
    refine ⟨some a, cap, (zs.take len).map Int.toNat, by rw [hlen], ?_, ?_, by rw [hlen]; omega, by rw [hlen]; exact hl, fun e => by cases e⟩
    · refine .inr ⟨a, rfl, fun i u hu => ?_⟩
      have hi : i < len := by
        have := (List.getElem?_eq_some_iff.1 hu).1
        rw [vals_length, hlen] at this; exact this
      have hi2 : i < zs.length := by omega
      rw [hcell i hi2]
      have h0 := bounds_u32 (hwf _ (List.getElem_mem hi2))
      simp only [vals, List.map_map, List.getElem?_map, List.getElem?_take_of_lt hi, List.getElem?_eq_getElem hi2, Option.map_some] at hu
      rw [← Option.some.inj hu]
      simp only [Function.comp, List.getD_eq_getElem?_getD, List.getElem?_eq_getElem hi2, Option.getD_some]
      rw [Int.toNat_of_nonneg h0.1]
    · intro y hy
      obtain ⟨z, hz2, rfl⟩ := List.mem_map.1 hy
      have := bounds_u32 (hwf _ (List.mem_of_mem_take hz2))
      omega

theorem open_mag {fuel : Nat} {cs : List Value} {x : DataW H × List MemPlace} (h : DataW.trod enc Tryz.prog W base sp held fuel 24 cs = some x) :
    ∃ b A c l, cs = [.bool b, .slice A l.length c] ∧ IsL W A c l := by
  obtain ⟨y0, y1, n, _, hl, h0, h1⟩ := trod_struct2 Tryz.underlying24 h
  rw [row_cellsZ] at hl
  match cs, hl with
  | [c0, c1], _ =>
    have e0 : DataW.trod enc Tryz.prog W base sp held n 4 (([c0, c1].drop 0).take (Tryz.prog.cellsOf 4)) = some y0 := h0
    have e1 : DataW.trod enc Tryz.prog W base sp held n 22 (([c0, c1].drop 1).take (Tryz.prog.cellsOf 22)) = some y1 := h1
    rw [row_cellsB] at e0
    rw [row_cellsS] at e1
    obtain ⟨b, kb, _⟩ := DataW.trod_bool Tryz.underlying4 (show DataW.trod enc Tryz.prog W base sp held n 4 [c0] = some y0 from e0)
    obtain ⟨A, c, l, k1, i1⟩ := open_nat (show DataW.trod enc Tryz.prog W base sp held n 22 [c1] = some y1 from e1)
    simp only [List.cons.injEq, and_true] at kb k1
    subst kb k1
    exact ⟨b, A, c, l, rfl, i1⟩
theorem okw_rat {r : Reach} {b0 : Nat} {v : Value} (hv : Value.okWide Tryz.prog W r b0 26 v) : ∃ cs : Array Value, v = .agg cs ∧ cs.size = 3 := by
  simp only [Value.okWide, Tryz.underlying26] at hv
  obtain ⟨cs, rfl, hcs, _⟩ := hv
  exact ⟨cs, rfl, by rw [hcs]; kernel_rfl⟩
theorem open_ra {r : Reach} {b0 : Nat} {v : Value} {d : DataW H} {ps : List MemPlace} (hv : Value.okWide Tryz.prog W r b0 26 v) (h : DataW.Trod enc Tryz.prog W base sp held 26 v d ps) :
    ∃ b A c l B f k, v = .agg #[.bool b, .slice A l.length c, .slice B k.length f] ∧ IsL W A c l ∧ IsL W B f k := by
  obtain ⟨⟨cl⟩, rfl, hs⟩ := okw_rat hv
  obtain ⟨fuel, hf⟩ := h
  obtain ⟨y0, y1, n, _, hl, h0, h1⟩ := trod_struct2 Tryz.underlying26 hf
  simp only [Value.cells] at h0 h1
  match cl, hs with
  | [c0, c1, c2], _ =>
    have e0 : DataW.trod enc Tryz.prog W base sp held n 24 (([c0, c1, c2].drop 0).take (Tryz.prog.cellsOf 24)) = some y0 := h0
    have e1 : DataW.trod enc Tryz.prog W base sp held n 22 (([c0, c1, c2].drop 2).take (Tryz.prog.cellsOf 22)) = some y1 := h1
    rw [row_cellsZ] at e0
    rw [row_cellsS] at e1
    obtain ⟨b, A, c, l, k0, i⟩ := open_mag (show DataW.trod enc Tryz.prog W base sp held n 24 [c0, c1] = some y0 from e0)
    obtain ⟨B, f, k, k1, i1⟩ := open_nat (show DataW.trod enc Tryz.prog W base sp held n 22 [c2] = some y1 from e1)
    simp only [List.cons.injEq, and_true] at k0 k1
    obtain ⟨rfl, rfl⟩ := k0
    subst k1
    exact ⟨b, A, c, l, B, f, k, rfl, i, i1⟩
end
/-- The library's table, as it was laid, gives the cells that the walks read. -/
theorem tab_core {W : World} {g0 : Nat} {t0 : TypeId} {cs0 : List Value} {xs : List (DataW Unit × List MemPlace)} {n : Nat} (hxs : xs.length = 32) (hl : cs0.length = 32)
    (hx : xs.map Prod.fst = Lib.deBruijn32tab.map (fun k => (DataW.lit (.int .u8 (k : Nat)) : DataW Unit)))
    (he : ∀ i, i < 32 → DataW.trod (fun _ => ()) Tryz.prog W 0 (fun _ => true) false n 5 ((cs0.drop i).take 1) = xs[i]?)
    (cell : ∀ i, W.cell? ⟨g0, i, none⟩ = cs0[i]?) : TabAt g0 Lib.deBruijn32tab W := by
  intro j hj
  have hj32 : j < 32 := hj
  have e := he j hj32
  rw [List.getElem?_eq_getElem (by omega : j < xs.length)] at e
  obtain ⟨z, hz, hd, _⟩ := DataW.trod_int Tryz.underlying5 e
  have h1 : (xs.map Prod.fst)[j]? = (Lib.deBruijn32tab.map (fun k => (DataW.lit (.int .u8 (k : Nat)) : DataW Unit)))[j]? := by rw [hx]
  rw [List.getElem?_map, List.getElem?_map, List.getElem?_eq_getElem (by omega : j < xs.length), hd, List.getElem?_eq_getElem hj] at h1
  simp only [Option.map_some, Option.some.injEq, DataW.lit.injEq, Lit.int.injEq, true_and] at h1
  rw [cell j]
  have h2 := congrArg (fun l => l[0]?) hz
  simp only [List.getElem?_take_of_lt Nat.zero_lt_one, List.getElem?_drop, Nat.add_zero, List.getElem?_cons_zero] at h2
  rw [h2, h1, List.getD_eq_getElem?_getD, List.getElem?_eq_getElem hj]; rfl
theorem tab_of_laid {W : World} (h : laidMetH Tryz.prog [("math/bits.deBruijn32tab", Rows.laid_math_bits_deBruijn32tab)] W) : Tab W := by
  rw [MakeChecks.laidMetH_plain _ _ _ (by kernel_rfl)] at h
  obtain ⟨ps, ⟨g0, t0, cs0, f0, p0, q0, hg0, ht0, hv0, hd0, _, _⟩, _⟩ := h
  obtain rfl := Option.some.inj (row_globD.symm.trans hg0)
  obtain rfl := Option.some.inj (row_globDT.symm.trans ht0)
  obtain ⟨xs, n, _, hx, hl, hxs, he⟩ := DataW.trod_array Tryz.underlying151 hd0
  have h3 : Tryz.prog.cellsOf 151 = 32 := by kernel_rfl
  have cell := fun i => World.var?_cell hg0 hv0 i
  obtain ⟨cl⟩ := cs0
  simp only [row_cells8, Nat.mul_one] at he
  refine tab_core (t0 := 0) hxs (by rw [← h3]; exact hl) ?_ he (fun i => by simpa using cell i)
  simp only [Rows.laid_math_bits_deBruijn32tab, Prod.mk.injEq, DataW.agg.injEq] at hx
  exact hx.1.symm
theorem door_met (os : Os) (args : Array Value) : laidMetH Tryz.prog [("math/bits.deBruijn32tab", Rows.laid_math_bits_deBruijn32tab)] ((World.doorLaid Tryz.prog 400 os).forCall (fun _ _ => 0) ⟨#[], args, []⟩).memory :=
  laidMetH_of_parts3 (fuel := 8) (laidMet_of_run' 8 (by kernel_rfl) (by kernel_rfl)) (by kernel_rfl) (by kernel_rfl)
end Go.Proofs.YtpaffggdeedopaaGreatDoor

/- A region that draws its order, whose calls come up in one order alone and whose other operations yield the same at whatever time: it is run one behind the other. -/
set_option linter.unusedVariables false
set_option linter.unusedSimpArgs false
namespace Go.Proofs.YtpaffggdeedopaaGreatDoor
open Go.RowKit

/-- One behind the other, by a list of operations; 'true': it yields the same in every world that meets S. -/
def SeqP (P : Program) (ops : Array Oper) (Q : Exit → Act → World → Prop) (S : World → Prop) : List (Nat × Bool) → Act → World → Prop
  | [], a, w => Q .normal a w
  | (i, true) :: p, a, w => ∃ o v, ops[i]? = some o ∧ (∀ c a w, Q (.panic c) (a.put o.dst v) w → Q (.panic c) a w) ∧ YieldsIf P ops S o v a ∧ SeqP P ops Q S p (a.put o.dst v) w
  | (i, false) :: p, a, w => wpOp P ops Q i (fun a' w' => S w' ∧ (S w' → SeqP P ops Q S p a' w')) a w
/-- What the order hangs on: number, kind, what it comes behind, what it writes, what it reads. -/
structure Info where
  i : Nat
  t : Bool
  deps : List Nat
  dst : Option Nat
  looks : List Nat
def infoOf (ops : Array Oper) (x : Nat × Bool) : Info :=
  match ops[x.1]? with
  | none => ⟨x.1, x.2, [], none, []⟩
  | some o => ⟨x.1, x.2, (o.after.toList.filter (Region.binds .any)).map (fun e => e.on), o.dst, Oper.looksAt ops o⟩
def apartB (x y : Info) : Bool :=
  (match x.dst with | some d => !y.looks.contains d && y.dst != some d | none => true) && (match y.dst with | some d => !x.looks.contains d | none => true)
def chkTake : List Info → Bool
  | [] => true
  | x :: r => (!x.t || r.all (fun y => y.deps.contains x.i || apartB x y)) && chkTake r
def chkOrder : List Nat → List Info → Bool
  | _, [] => true
  | d, x :: r => !d.contains x.i && x.deps.all (fun k => d.contains k) && chkOrder (x.i :: d) r
def chkCall : Option (List Nat) → List Info → Bool
  | _, [] => true
  | none, x :: r => chkCall (if x.t then none else some [x.i]) r
  | some W, x :: r => x.deps.any (fun k => W.contains k) && chkCall (if x.t then some (x.i :: W) else some [x.i]) r
def chkAll (ops : Array Oper) (p : List (Nat × Bool)) : Bool :=
  let l := p.map (infoOf ops)
  chkTake l && chkOrder [] l && chkCall none l && (List.range ops.size).all (fun k => (p.map (fun x => x.1)).contains k) && p.all (fun x => decide (x.1 < ops.size)) && Region.noSelect ops
/-- The operations behind a call each come behind something from that call on. -/
theorem chkCall_spec : ∀ (l : List Info) (W : List Nat), chkCall (some W) l = true → ∀ x ∈ l, ∃ k ∈ x.deps, k ∈ W ∨ ∃ y ∈ l, y.i = k
  | [], W, h, x, hx => by cases hx
  | y :: r, W, h, x, hx => by
    simp only [chkCall, Bool.and_eq_true] at h
    obtain ⟨h1, h2⟩ := h
    rcases List.mem_cons.1 hx with rfl | hx
    · obtain ⟨k, hk, hc⟩ := List.any_eq_true.1 h1
      exact ⟨k, hk, .inl (by simpa using hc)⟩
    · have h3 : ∃ W', chkCall (some W') r = true ∧ ∀ k ∈ W', k ∈ W ∨ k = y.i := by
        cases ht : y.t with
        | true => rw [ht] at h2; exact ⟨y.i :: W, h2, fun k hk => by rcases List.mem_cons.1 hk with rfl | hk; exact .inr rfl; exact .inl hk⟩
        | false => rw [ht] at h2; exact ⟨[y.i], h2, fun k hk => .inr (by simpa using hk)⟩
      obtain ⟨W', hW, hsub⟩ := h3
      obtain ⟨k, hk, hc⟩ := chkCall_spec r W' hW x hx
      refine ⟨k, hk, ?_⟩
      rcases hc with hc | ⟨z, hz, he⟩
      · rcases hsub k hc with h | h
        · exact .inl h
        · exact .inr ⟨y, List.mem_cons_self .., h.symm⟩
      · exact .inr ⟨z, List.mem_cons_of_mem _ hz, he⟩
theorem infoOf_some {ops : Array Oper} {x : Nat × Bool} {o : Oper} (h : ops[x.1]? = some o) : infoOf ops x = ⟨x.1, x.2, (o.after.toList.filter (Region.binds .any)).map (fun e => e.on), o.dst, Oper.looksAt ops o⟩ := by
  unfold infoOf; rw [h]
theorem infoOf_i (ops : Array Oper) (x : Nat × Bool) : (infoOf ops x).i = x.1 := by unfold infoOf; split <;> rfl
theorem infoOf_t (ops : Array Oper) (x : Nat × Bool) : (infoOf ops x).t = x.2 := by unfold infoOf; split <;> rfl
theorem dep_mem {ops : Array Oper} {x : Nat × Bool} {o : Oper} (h : ops[x.1]? = some o) {k : Nat} : k ∈ (infoOf ops x).deps ↔ ∃ e ∈ o.after, Region.binds .any e = true ∧ e.on = k := by
  rw [infoOf_some h]
  simp only [List.mem_map, List.mem_filter, Array.mem_toList_iff]
  constructor
  · rintro ⟨e, ⟨h1, h2⟩, h3⟩; exact ⟨e, h1, h2, h3⟩
  · rintro ⟨e, h1, h2, h3⟩; exact ⟨e, ⟨h1, h2⟩, h3⟩
theorem apartB_spec {ops : Array Oper} {x y : Nat × Bool} {o o' : Oper} (hx : ops[x.1]? = some o) (hy : ops[y.1]? = some o') (h : apartB (infoOf ops x) (infoOf ops y) = true) : Oper.apart ops o o' = true := by
  rw [infoOf_some hx, infoOf_some hy] at h
  exact h
/-- The region's own walk, from any point of the list on. -/
theorem seq_held {P : Program} {ops : Array Oper} {Q : Exit → Act → World → Prop} {S : World → Prop} (hns : Region.noSelect ops = true) :
    ∀ (p : List (Nat × Bool)) (d : List Nat) (c : Option (List Nat)) (L : Array Bool) (a : Act) (w : World),
      chkTake (p.map (infoOf ops)) = true → chkOrder d (p.map (infoOf ops)) = true → chkCall c (p.map (infoOf ops)) = true →
      (∀ k, k < ops.size → k ∈ d ∨ ∃ x ∈ p, x.1 = k) → (∀ x ∈ p, x.1 < ops.size) →
      (∀ k ∈ d, k < ops.size) → L.size = ops.size → (∀ k, k < ops.size → (L.getD k false = true ↔ k ∈ d)) → S w → SeqP P ops Q S p a w → wpAnyH P .any ops Q S p.length L a w
  | [], d, c, L, a, w, _, _, _, hall, _, _, hs, hL, hS, h => by
    refine ⟨?_, h⟩
    rw [List.eq_nil_iff_forall_not_mem]
    intro j hj
    obtain ⟨h1, o, ho, _⟩ := mem_ready.1 hj
    have hjn : j < ops.size := (Array.getElem?_eq_some_iff.1 ho).1
    have h2 : j ∈ d := by
      rcases hall j hjn with h | ⟨x, hx, _⟩
      · exact h
      · cases hx
    have h3 := (hL j hjn).2 h2
    have hl : j < L.size := by omega
    simp [Array.getD, hl] at h1 h3
    rw [h1] at h3; cases h3
  | (i, b) :: p, d, c, L, a, w, ht, ho, hc, hall, hlt, hdl, hs, hL, hS, h => by
    have hi : i < ops.size := hlt (i, b) (List.mem_cons_self ..)
    obtain ⟨oi, hoi⟩ : ∃ o, ops[i]? = some o := ⟨ops[i], Array.getElem?_eq_getElem hi⟩
    simp only [List.map_cons, chkTake, chkOrder, Bool.and_eq_true, infoOf_i, infoOf_t] at ht ho
    obtain ⟨ht1, ht2⟩ := ht
    obtain ⟨⟨ho0, ho1⟩, ho2⟩ := ho
    have hid : i ∉ d := by simpa using ho0
    have hbit : ∀ k, k < ops.size → ((L.setIfInBounds i true).getD k false = true ↔ k ∈ i :: d) := by
      intro k hk
      rw [bit_set (by omega)]
      by_cases e : k = i
      · rw [if_pos e]; simp [e]
      · rw [if_neg e, hL k hk]; simp [e]
    have hunl : ∀ k, k < ops.size → (L.getD k true = false ↔ k ∉ d) := by
      intro k hk
      have := hL k hk
      have hl : k < L.size := by omega
      simp only [Array.getD, hl, dite_true] at this ⊢
      rw [← this, Bool.not_eq_true]
    have hready : i ∈ Region.ready .any ops L := by
      refine mem_ready.2 ⟨(hunl i hi).2 hid, oi, hoi, fun e he hb => ?_⟩
      have hk : e.on ∈ (infoOf ops (i, b)).deps := (dep_mem (x := (i, b)) hoi).2 ⟨e, he, hb, rfl⟩
      have hd : e.on ∈ d := by have := List.all_eq_true.1 ho1 _ hk; simpa using this
      exact (hL _ (hdl _ hd)).2 hd
    have hcall : ∃ c', chkCall c' (p.map (infoOf ops)) = true ∧ (b = false → ∃ W, c' = some W ∧ W = [i]) := by
      cases c with
      | none =>
        simp only [List.map_cons, chkCall, infoOf_i, infoOf_t] at hc
        cases b with
        | true => exact ⟨_, hc, fun e => by cases e⟩
        | false => exact ⟨_, hc, fun _ => ⟨[i], rfl, rfl⟩⟩
      | some W =>
        simp only [List.map_cons, chkCall, infoOf_i, infoOf_t, Bool.and_eq_true] at hc
        cases b with
        | true => exact ⟨_, hc.2, fun e => by cases e⟩
        | false => exact ⟨_, hc.2, fun _ => ⟨[i], rfl, rfl⟩⟩
    obtain ⟨c', hc', hcW⟩ := hcall
    have hall' : ∀ k, k < ops.size → k ∈ i :: d ∨ ∃ x ∈ p, x.1 = k := by
      intro k hk
      rcases hall k hk with h | ⟨x, hx, e⟩
      · exact .inl (List.mem_cons_of_mem _ h)
      · rcases List.mem_cons.1 hx with rfl | hx
        · exact .inl (by rw [← e]; exact List.mem_cons_self ..)
        · exact .inr ⟨x, hx, e⟩
    have hlt' : ∀ x ∈ p, x.1 < ops.size := fun x hx => hlt x (List.mem_cons_of_mem _ hx)
    have IH := fun a' w' (hS' : S w') (h' : SeqP P ops Q S p a' w') => seq_held hns p (i :: d) c' (L.setIfInBounds i true) a' w' ht2 ho2 hc' hall' hlt' (fun k hk => by rcases List.mem_cons.1 hk with rfl | hk; exact hi; exact hdl k hk) (by simpa using hs) hbit hS' h'
    cases b with
    | true =>
      obtain ⟨o, v, ho', hQ, hy, hrest⟩ := h
      rw [hoi] at ho'; cases ho'
      refine wpAnyH_first hoi ?_ hQ _ _ _ _ ?_ hready hy hS (IH _ _ hS hrest)
      · intro j o cs bl hj e
        have := Array.all_eq_true_iff_forall_mem.1 hns o (Array.mem_of_getElem? hj)
        rw [e] at this; cases this
      · intro j oj hj hne hu hno
        have hjn : j < ops.size := (Array.getElem?_eq_some_iff.1 hj).1
        have hjd : j ∉ d := (hunl j hjn).1 hu
        rcases hall j hjn with h | ⟨x, hx, e⟩
        · exact absurd h hjd
        · rcases List.mem_cons.1 hx with rfl | hx
          · exact absurd e.symm hne
          · subst e
            simp only [Bool.not_true, Bool.false_or] at ht1
            have h1 := List.all_eq_true.1 ht1 _ (List.mem_map_of_mem (f := infoOf ops) hx)
            rcases Bool.or_eq_true_iff.1 h1 with h2 | h2
            · exfalso
              have h3 : i ∈ (infoOf ops x).deps := by simpa using h2
              obtain ⟨e, he, hb, hon⟩ := (dep_mem hj).1 h3
              exact hno e he hb hon
            · exact apartB_spec (x := (i, true)) hoi hj h2
    | false =>
      refine ⟨fun e => (by rw [e] at hready; exact (nomatch hready)), fun j hj => ?_⟩
      have hji : j = i := by
        obtain ⟨h1, oj, hoj, hdep⟩ := mem_ready.1 hj
        have hjn : j < ops.size := (Array.getElem?_eq_some_iff.1 hoj).1
        have hjd : j ∉ d := (hunl j hjn).1 h1
        rcases hall j hjn with h | ⟨x, hx, e⟩
        · exact absurd h hjd
        · rcases List.mem_cons.1 hx with rfl | hx
          · exact e.symm
          · exfalso
            subst e
            obtain ⟨W, rfl, rfl⟩ := hcW rfl
            obtain ⟨k, hk, hW⟩ := chkCall_spec _ _ hc' _ (List.mem_map_of_mem (f := infoOf ops) hx)
            obtain ⟨e, he, hb, hon⟩ := (dep_mem hoj).1 hk
            have hlk := hdep e he hb
            rw [hon] at hlk
            have hkn : k < ops.size := by
              rcases hW with hW | ⟨y, hy, ey⟩
              · simp at hW; omega
              · obtain ⟨z, hz, rfl⟩ := List.mem_map.1 hy
                rw [infoOf_i] at ey; rw [← ey]; exact hlt' z hz
            have hkd := (hL k hkn).1 hlk
            have hnot : ∀ (q : List (Nat × Bool)) (d' : List Nat), chkOrder d' (q.map (infoOf ops)) = true → ∀ z ∈ q, z.1 ∉ d' := by
              intro q
              induction q with
              | nil => intro d' _ z hz; cases hz
              | cons y r ih =>
                intro d' h z hz
                simp only [List.map_cons, chkOrder, Bool.and_eq_true, infoOf_i] at h
                rcases List.mem_cons.1 hz with rfl | hz
                · simpa using h.1.1
                · exact fun hm => ih _ h.2 z hz (List.mem_cons_of_mem _ hm)
            rcases hW with hW | ⟨y, hy, ey⟩
            · simp at hW; subst hW; exact hid hkd
            · obtain ⟨z, hz, rfl⟩ := List.mem_map.1 hy
              rw [infoOf_i] at ey; subst ey
              exact hnot p (i :: d) ho2 z hz (List.mem_cons_of_mem _ hkd)
      subst hji
      exact wpOp_mono (fun a' w' h' => ⟨h'.1, IH a' w' h'.1 (h'.2 h'.1)⟩) h
theorem wp_region_seq {P : Program} {ops : Array Oper} {Q : Exit → Act → World → Prop} {id : Nat} {a : Act} {w : World} (S : World → Prop) (p : List (Nat × Bool)) (hm : P.follows .mixedOrders = true)
    (hc : chkAll ops p = true) (hn : p.length = ops.size) (hS : S w.drew) (h : S w.drew → SeqP P ops Q S p a w.drew) : (Code.region id ops true).wp P Q a w := by
  refine wp_region_held_drew (S := S) hm hS (fun hS => ?_)
  unfold chkAll at hc
  simp only [Bool.and_eq_true] at hc
  obtain ⟨⟨⟨⟨⟨h1, h2⟩, h3⟩, h4⟩, h5⟩, h6⟩ := hc
  have := seq_held (P := P) (Q := Q) (S := S) h6 p [] none (Array.replicate ops.size false) a w.drew h1 h2 h3 ?_ ?_ (fun k hk => nomatch hk) (by simp) ?_ hS (h hS)
  · rw [hn] at this; exact this
  · intro k hk
    have := List.all_eq_true.1 h4 k (List.mem_range.2 hk)
    right
    simp only [List.contains_iff_mem, List.mem_map] at this
    obtain ⟨x, hx, e⟩ := this
    exact ⟨x, hx, e⟩
  · intro x hx
    simpa using List.all_eq_true.1 h5 x hx
  · intro k hk
    simp [Array.getD, hk]
section
variable {P : Program} {ops : Array Oper} {Q : Exit → Act → World → Prop} {S : World → Prop} {p : List (Nat × Bool)} {a : Act} {w : World} {i : Nat} {o : Oper}
theorem SeqP.take {v : Value} (ho : ops.toList[i]? = some o) (hQ : ∀ c a w, Q (.panic c) (a.put o.dst v) w → Q (.panic c) a w) (hy : YieldsIf P ops S o v a) (h : SeqP P ops Q S p (a.put o.dst v) w) : SeqP P ops Q S ((i, true) :: p) a w :=
  ⟨o, v, by rw [← Array.getElem?_toList]; exact ho, hQ, hy, h⟩
theorem SeqP.call (ho : ops.toList[i]? = some o) (hw : Region.wanted o (yielded ops a.tmps) = true) (h : ∀ K : Act → World → Prop, Shut (∀ a w, S w → (S w → SeqP P ops Q S p a w) → K a w) → Oper.wp P o a w K Q) : SeqP P ops Q S ((i, false) :: p) a w := by
  show wpOp P ops Q i _ a w
  unfold wpOp
  rw [show ops[i]? = some o by rw [← Array.getElem?_toList]; exact ho]
  simp only [hw, if_true]
  exact .inl (h _ (fun a w hS h => ⟨hS, h⟩))
theorem SeqP.done (h : Q .normal a w) : SeqP P ops Q S [] a w := h
end
end Go.Proofs.YtpaffggdeedopaaGreatDoor

/- Live questions, whose answers are fixed (head of the laws of dyadic numbers). -/
set_option linter.unusedVariables false
set_option linter.unusedSimpArgs false
namespace Go.Proofs.YtpaffggdeedopaaGreatDoor
open Go.RowKit Go.Shelf
attribute [local go_sem] max2_i min2_i max_two min_two

theorem ld_nz (z x : Int) (w : World) (h0 : -9223372036854775808 ≤ z) (h1 : z < 9223372036854775808) (hn : Nz z x) :
    Calls Tryz.prog 76 #[.int .i64 z, .int .i64 x] w (RetD w (dval z x)) :=
  (ld_c z x w h0 h1).mono fun _ _ h => retDr_nz h hn
theorem tsame0_c (aA : Option Addr) (ac : Nat) (a : Rat) (w : World) (ha : NatV w aA ac (mg (dmn a))) (oa : DOk a) (h : a = 0) :
    Calls Tryz.prog 24 #[.agg #[.bool (sg (dmn a)), .slice aA (nl (mg (dmn a))) ac, .int .i64 (dex a)], .agg #[.bool false, .slice none 0 0, .int .i64 0]] w fun e w' => e = .returned (.bool true) ∧ Below w.heap.size w w' := by
  have h1 := tsameT_c aA ac a none 0 0 w ha (nat_none w) oa h
  rw [dmn_zero, dex_zero, mg0, sg0, nl_zero] at h1
  exact h1
def hq1_3 : Rat := Rat.divInt 1 3
theorem Nhq1_3 : nl (mg hq1_3.num) ≤ 1 ∧ nl hq1_3.den ≤ 1 := ⟨nl_le.2 (by unfold hq1_3; decide +kernel), nl_le.2 (by unfold hq1_3; decide +kernel)⟩
theorem cohq1_3 (W : World)   : Calls Tryz.prog 74 #[.int .i64 1, .int .i64 3] W (RetR W hq1_3) := by
  unfold hq1_3; exact lq_c 1 3 W (by decide) (by decide) (by decide) (by decide)
def ka : Rat := dval 1 (-2)
theorem Oka : DB ka 1 100 := ⟨by unfold ka; exact dyd_val _ _, by unfold ka; decide +kernel, by unfold ka; decide +kernel⟩
theorem hc1 (W : World) (Ahq1_3 : Option Addr) (chq1_3 : Nat) (Bhq1_3 : Option Addr) (dhq1_3 : Nat) (hhq1_3 : NatV W Ahq1_3 chq1_3 (mg hq1_3.num)) (ghq1_3 : NatV W Bhq1_3 dhq1_3 hq1_3.den) (hT : Tab W) : Calls Tryz.prog 15 #[.agg #[.bool (sg hq1_3.num), .slice Ahq1_3 (nl (mg hq1_3.num)) chq1_3, .slice Bhq1_3 (nl hq1_3.den) dhq1_3], .int .i64 2, .int .i64 0] W (RetDe W ka 0) := by
  rw [show ka = dval (rnd 0 (hq1_3 * (2 : Rat) ^ (2 : Int))) (-(2)) by unfold ka hq1_3; decide +kernel]
  exact cut_in Ahq1_3 chq1_3 Bhq1_3 dhq1_3 hq1_3 2 0 W hhq1_3 ghq1_3 hT (Nat.le_trans Nhq1_3.1 (by decide)) (Nat.le_trans Nhq1_3.2 (by decide)) (by decide) (by decide) (by decide)
def kb : Rat := dval 1 (-1)
theorem Okb : DB kb 1 100 := ⟨by unfold kb; exact dyd_val _ _, by unfold kb; decide +kernel, by unfold kb; decide +kernel⟩
theorem hc2 (W : World) (Ahq1_3 : Option Addr) (chq1_3 : Nat) (Bhq1_3 : Option Addr) (dhq1_3 : Nat) (hhq1_3 : NatV W Ahq1_3 chq1_3 (mg hq1_3.num)) (ghq1_3 : NatV W Bhq1_3 dhq1_3 hq1_3.den) (hT : Tab W) : Calls Tryz.prog 15 #[.agg #[.bool (sg hq1_3.num), .slice Ahq1_3 (nl (mg hq1_3.num)) chq1_3, .slice Bhq1_3 (nl hq1_3.den) dhq1_3], .int .i64 2, .int .i64 1] W (RetDe W kb 0) := by
  rw [show kb = dval (rnd 1 (hq1_3 * (2 : Rat) ^ (2 : Int))) (-(2)) by unfold kb hq1_3; decide +kernel]
  exact cut_in Ahq1_3 chq1_3 Bhq1_3 dhq1_3 hq1_3 2 1 W hhq1_3 ghq1_3 hT (Nat.le_trans Nhq1_3.1 (by decide)) (Nat.le_trans Nhq1_3.2 (by decide)) (by decide) (by decide) (by decide)
def kc : Rat := dval 1 (-2)
theorem Okc : DB kc 1 100 := ⟨by unfold kc; exact dyd_val _ _, by unfold kc; decide +kernel, by unfold kc; decide +kernel⟩
theorem hc3 (W : World) (Ahq1_3 : Option Addr) (chq1_3 : Nat) (Bhq1_3 : Option Addr) (dhq1_3 : Nat) (hhq1_3 : NatV W Ahq1_3 chq1_3 (mg hq1_3.num)) (ghq1_3 : NatV W Bhq1_3 dhq1_3 hq1_3.den) (hT : Tab W) : Calls Tryz.prog 15 #[.agg #[.bool (sg hq1_3.num), .slice Ahq1_3 (nl (mg hq1_3.num)) chq1_3, .slice Bhq1_3 (nl hq1_3.den) dhq1_3], .int .i64 2, .int .i64 4] W (RetDe W kc 0) := by
  rw [show kc = dval (rnd 4 (hq1_3 * (2 : Rat) ^ (2 : Int))) (-(2)) by unfold kc hq1_3; decide +kernel]
  exact cut_in Ahq1_3 chq1_3 Bhq1_3 dhq1_3 hq1_3 2 4 W hhq1_3 ghq1_3 hT (Nat.le_trans Nhq1_3.1 (by decide)) (Nat.le_trans Nhq1_3.2 (by decide)) (by decide) (by decide) (by decide)
def hq3_8 : Rat := Rat.divInt 3 8
theorem Nhq3_8 : nl (mg hq3_8.num) ≤ 1 ∧ nl hq3_8.den ≤ 1 := ⟨nl_le.2 (by unfold hq3_8; decide +kernel), nl_le.2 (by unfold hq3_8; decide +kernel)⟩
theorem cohq3_8 (W : World)   : Calls Tryz.prog 74 #[.int .i64 3, .int .i64 8] W (RetR W hq3_8) := by
  unfold hq3_8; exact lq_c 3 8 W (by decide) (by decide) (by decide) (by decide)
def kf : Rat := dval 1 (-1)
theorem Okf : DB kf 1 100 := ⟨by unfold kf; exact dyd_val _ _, by unfold kf; decide +kernel, by unfold kf; decide +kernel⟩
theorem hc4 (W : World) (Ahq3_8 : Option Addr) (chq3_8 : Nat) (Bhq3_8 : Option Addr) (dhq3_8 : Nat) (hhq3_8 : NatV W Ahq3_8 chq3_8 (mg hq3_8.num)) (ghq3_8 : NatV W Bhq3_8 dhq3_8 hq3_8.den) (hT : Tab W) : Calls Tryz.prog 15 #[.agg #[.bool (sg hq3_8.num), .slice Ahq3_8 (nl (mg hq3_8.num)) chq3_8, .slice Bhq3_8 (nl hq3_8.den) dhq3_8], .int .i64 2, .int .i64 4] W (RetDe W kf 0) := by
  rw [show kf = dval (rnd 4 (hq3_8 * (2 : Rat) ^ (2 : Int))) (-(2)) by unfold kf hq3_8; decide +kernel]
  exact cut_in Ahq3_8 chq3_8 Bhq3_8 dhq3_8 hq3_8 2 4 W hhq3_8 ghq3_8 hT (Nat.le_trans Nhq3_8.1 (by decide)) (Nat.le_trans Nhq3_8.2 (by decide)) (by decide) (by decide) (by decide)
def hq5_8 : Rat := Rat.divInt 5 8
theorem Nhq5_8 : nl (mg hq5_8.num) ≤ 1 ∧ nl hq5_8.den ≤ 1 := ⟨nl_le.2 (by unfold hq5_8; decide +kernel), nl_le.2 (by unfold hq5_8; decide +kernel)⟩
theorem cohq5_8 (W : World)   : Calls Tryz.prog 74 #[.int .i64 5, .int .i64 8] W (RetR W hq5_8) := by
  unfold hq5_8; exact lq_c 5 8 W (by decide) (by decide) (by decide) (by decide)
def kg : Rat := dval 1 (-1)
theorem Okg : DB kg 1 100 := ⟨by unfold kg; exact dyd_val _ _, by unfold kg; decide +kernel, by unfold kg; decide +kernel⟩
theorem hc5 (W : World) (Ahq5_8 : Option Addr) (chq5_8 : Nat) (Bhq5_8 : Option Addr) (dhq5_8 : Nat) (hhq5_8 : NatV W Ahq5_8 chq5_8 (mg hq5_8.num)) (ghq5_8 : NatV W Bhq5_8 dhq5_8 hq5_8.den) (hT : Tab W) : Calls Tryz.prog 15 #[.agg #[.bool (sg hq5_8.num), .slice Ahq5_8 (nl (mg hq5_8.num)) chq5_8, .slice Bhq5_8 (nl hq5_8.den) dhq5_8], .int .i64 2, .int .i64 4] W (RetDe W kg 0) := by
  rw [show kg = dval (rnd 4 (hq5_8 * (2 : Rat) ^ (2 : Int))) (-(2)) by unfold kg hq5_8; decide +kernel]
  exact cut_in Ahq5_8 chq5_8 Bhq5_8 dhq5_8 hq5_8 2 4 W hhq5_8 ghq5_8 hT (Nat.le_trans Nhq5_8.1 (by decide)) (Nat.le_trans Nhq5_8.2 (by decide)) (by decide) (by decide) (by decide)
def hqn1_3 : Rat := Rat.divInt (-1) 3
theorem Nhqn1_3 : nl (mg hqn1_3.num) ≤ 1 ∧ nl hqn1_3.den ≤ 1 := ⟨nl_le.2 (by unfold hqn1_3; decide +kernel), nl_le.2 (by unfold hqn1_3; decide +kernel)⟩
theorem cohqn1_3 (W : World)   : Calls Tryz.prog 74 #[.int .i64 (-1), .int .i64 3] W (RetR W hqn1_3) := by
  unfold hqn1_3; exact lq_c (-1) 3 W (by decide) (by decide) (by decide) (by decide)
def kh : Rat := dval (-1) (-2)
theorem Okh : DB kh 1 100 := ⟨by unfold kh; exact dyd_val _ _, by unfold kh; decide +kernel, by unfold kh; decide +kernel⟩
theorem hc6 (W : World) (Ahqn1_3 : Option Addr) (chqn1_3 : Nat) (Bhqn1_3 : Option Addr) (dhqn1_3 : Nat) (hhqn1_3 : NatV W Ahqn1_3 chqn1_3 (mg hqn1_3.num)) (ghqn1_3 : NatV W Bhqn1_3 dhqn1_3 hqn1_3.den) (hT : Tab W) : Calls Tryz.prog 15 #[.agg #[.bool (sg hqn1_3.num), .slice Ahqn1_3 (nl (mg hqn1_3.num)) chqn1_3, .slice Bhqn1_3 (nl hqn1_3.den) dhqn1_3], .int .i64 2, .int .i64 2] W (RetDe W kh 0) := by
  rw [show kh = dval (rnd 2 (hqn1_3 * (2 : Rat) ^ (2 : Int))) (-(2)) by unfold kh hqn1_3; decide +kernel]
  exact cut_in Ahqn1_3 chqn1_3 Bhqn1_3 dhqn1_3 hqn1_3 2 2 W hhqn1_3 ghqn1_3 hT (Nat.le_trans Nhqn1_3.1 (by decide)) (Nat.le_trans Nhqn1_3.2 (by decide)) (by decide) (by decide) (by decide)
def ki : Rat := dval (-1) (-1)
theorem Oki : DB ki 1 100 := ⟨by unfold ki; exact dyd_val _ _, by unfold ki; decide +kernel, by unfold ki; decide +kernel⟩
theorem hc7 (W : World) (Ahqn1_3 : Option Addr) (chqn1_3 : Nat) (Bhqn1_3 : Option Addr) (dhqn1_3 : Nat) (hhqn1_3 : NatV W Ahqn1_3 chqn1_3 (mg hqn1_3.num)) (ghqn1_3 : NatV W Bhqn1_3 dhqn1_3 hqn1_3.den) (hT : Tab W) : Calls Tryz.prog 15 #[.agg #[.bool (sg hqn1_3.num), .slice Ahqn1_3 (nl (mg hqn1_3.num)) chqn1_3, .slice Bhqn1_3 (nl hqn1_3.den) dhqn1_3], .int .i64 2, .int .i64 3] W (RetDe W ki 0) := by
  rw [show ki = dval (rnd 3 (hqn1_3 * (2 : Rat) ^ (2 : Int))) (-(2)) by unfold ki hqn1_3; decide +kernel]
  exact cut_in Ahqn1_3 chqn1_3 Bhqn1_3 dhqn1_3 hqn1_3 2 3 W hhqn1_3 ghqn1_3 hT (Nat.le_trans Nhqn1_3.1 (by decide)) (Nat.le_trans Nhqn1_3.2 (by decide)) (by decide) (by decide) (by decide)
def hd7_n3 : Rat := dval 7 (-3)
theorem Ohd7_n3 : DB hd7_n3 1 100 := ⟨by unfold hd7_n3; exact dyd_val _ _, by unfold hd7_n3; decide +kernel, by unfold hd7_n3; decide +kernel⟩
theorem cohd7_n3 (W : World)   : Calls Tryz.prog 76 #[.int .i64 7, .int .i64 (-3)] W (RetD W hd7_n3) := by
  have hn : Nz 7 (-3) := Or.inl (by decide)
  unfold hd7_n3; exact ld_nz 7 (-3) W (by decide) (by decide) hn
def kl : Rat := dval 1 (-1)
theorem Okl : DB kl 1 100 := ⟨by unfold kl; exact dyd_val _ _, by unfold kl; decide +kernel, by unfold kl; decide +kernel⟩
theorem hc8 (W : World) (Ahd7_n3 : Option Addr) (chd7_n3 : Nat) (hhd7_n3 : NatV W Ahd7_n3 chd7_n3 (mg (dmn hd7_n3))) (hT : Tab W) : Calls Tryz.prog 75 #[.agg #[.bool (sg (dmn hd7_n3)), .slice Ahd7_n3 (nl (mg (dmn hd7_n3))) chd7_n3, .int .i64 (dex hd7_n3)], .int .i64 1, .int .i64 0] W (RetDe W kl 0) := by
  rw [show kl = dval (rnd 0 (hd7_n3 * (2 : Rat) ^ (1 : Int))) (-(1)) by unfold kl hd7_n3; decide +kernel]
  exact dround_c Ahd7_n3 chd7_n3 hd7_n3 1 0 W hhd7_n3 hT (Ohd7_n3.ok (by decide) (by decide)) (by decide) (by decide) (by decide)
def hz12 : Int := 12
theorem Nhz12 : nl (mg hz12) ≤ 1 := nl_le.2 (by unfold hz12; decide +kernel)
theorem cohz12 (W : World)   : Calls Tryz.prog 18 #[.int .i64 12] W (RetI W hz12) := by
  unfold hz12; exact zof_c 12 W (by decide) (by decide)
def hmhz12 : Rat := dval 3 1
theorem Ohmhz12 : DB hmhz12 1 100 := ⟨by unfold hmhz12; exact dyd_val _ _, by unfold hmhz12; decide +kernel, by unfold hmhz12; decide +kernel⟩
theorem hc9 (W : World) (Ahz12 : Option Addr) (chz12 : Nat) (hhz12 : NatV W Ahz12 chz12 (mg hz12)) (hT : Tab W) : Calls Tryz.prog 28 #[.agg #[.bool (sg hz12), .slice Ahz12 (nl (mg hz12)) chz12], .int .i64 (-1)] W (RetD W hmhz12) := by
  rw [show hmhz12 = dval hz12 (-1) by unfold hmhz12 hz12; decide +kernel]
  exact dmake_c Ahz12 chz12 hz12 (-1) W hhz12 hT (Nat.le_trans Nhz12 (by decide)) (by decide)
def hd3_1 : Rat := dval 3 1
theorem Ohd3_1 : DB hd3_1 1 100 := ⟨by unfold hd3_1; exact dyd_val _ _, by unfold hd3_1; decide +kernel, by unfold hd3_1; decide +kernel⟩
theorem cohd3_1 (W : World)   : Calls Tryz.prog 76 #[.int .i64 3, .int .i64 1] W (RetD W hd3_1) := by
  have hn : Nz 3 1 := Or.inl (by decide)
  unfold hd3_1; exact ld_nz 3 1 W (by decide) (by decide) hn
theorem hc10 (W : World) (Ahmhz12 : Option Addr) (chmhz12 : Nat) (Ahd3_1 : Option Addr) (chd3_1 : Nat) (hhmhz12 : NatV W Ahmhz12 chmhz12 (mg (dmn hmhz12))) (hhd3_1 : NatV W Ahd3_1 chd3_1 (mg (dmn hd3_1))) : Calls Tryz.prog 24 #[.agg #[.bool (sg (dmn hmhz12)), .slice Ahmhz12 (nl (mg (dmn hmhz12))) chmhz12, .int .i64 (dex hmhz12)], .agg #[.bool (sg (dmn hd3_1)), .slice Ahd3_1 (nl (mg (dmn hd3_1))) chd3_1, .int .i64 (dex hd3_1)]] W (fun e w' => e = .returned (.bool true) ∧ Below W.heap.size W w') := by
  exact tsameT_c Ahmhz12 chmhz12 hmhz12 Ahd3_1 chd3_1 hd3_1 W hhmhz12 hhd3_1 (Ohmhz12.ok (by decide) (by decide)) (by unfold hmhz12 hd3_1; decide +kernel)
def hz0 : Int := 0
theorem Nhz0 : nl (mg hz0) ≤ 1 := nl_le.2 (by unfold hz0; decide +kernel)
theorem cohz0 (W : World)   : Calls Tryz.prog 18 #[.int .i64 0] W (RetI W hz0) := by
  unfold hz0; exact zof_c 0 W (by decide) (by decide)
def hmhz0 : Rat := (0 : Rat)
theorem Ohmhz0 : DB hmhz0 1 100 := ⟨by unfold hmhz0; exact by rw [← dval_zero 0]; exact dyd_val 0 0, by unfold hmhz0; decide +kernel, by unfold hmhz0; decide +kernel⟩
theorem hc11 (W : World) (Ahz0 : Option Addr) (chz0 : Nat) (hhz0 : NatV W Ahz0 chz0 (mg hz0)) (hT : Tab W) : Calls Tryz.prog 28 #[.agg #[.bool (sg hz0), .slice Ahz0 (nl (mg hz0)) chz0], .int .i64 7] W (RetD W hmhz0) := by
  rw [show hmhz0 = dval hz0 7 by unfold hmhz0 hz0; decide +kernel]
  exact dmake_c Ahz0 chz0 hz0 7 W hhz0 hT (Nat.le_trans Nhz0 (by decide)) (by decide)
theorem hc12 (W : World) (Ahmhz0 : Option Addr) (chmhz0 : Nat) (hhmhz0 : NatV W Ahmhz0 chmhz0 (mg (dmn hmhz0))) : Calls Tryz.prog 24 #[.agg #[.bool (sg (dmn hmhz0)), .slice Ahmhz0 (nl (mg (dmn hmhz0))) chmhz0, .int .i64 (dex hmhz0)], .agg #[.bool false, .slice none 0 0, .int .i64 0]] W (fun e w' => e = .returned (.bool true) ∧ Below W.heap.size W w') := by
  exact tsame0_c Ahmhz0 chmhz0 hmhz0 W hhmhz0 (Ohmhz0.ok (by decide) (by decide)) rfl
theorem hc13 (W : World) (Ahd3_1 : Option Addr) (chd3_1 : Nat) (hhd3_1 : NatV W Ahd3_1 chd3_1 (mg (dmn hd3_1))) : Calls Tryz.prog 25 #[.agg #[.bool (sg (dmn hd3_1)), .slice Ahd3_1 (nl (mg (dmn hd3_1))) chd3_1, .int .i64 (dex hd3_1)]] W (fun e w' => e = .returned (.bool true) ∧ Below W.heap.size W w') := by
  exact drightT_c Ahd3_1 chd3_1 hd3_1 W hhd3_1 (Nat.le_trans Ohd3_1.l (by decide)) (by have := Ohd3_1.e; omega)
def hr2_0 : Int := 2
theorem Nhr2_0 : nl (mg hr2_0) ≤ 1 := nl_le.2 (by unfold hr2_0; decide +kernel)
theorem cohr2_0 (W : World)   : Calls Tryz.prog 76 #[.int .i64 2, .int .i64 0] W (RetDr W hr2_0 0) := by
  unfold hr2_0; exact ld_c 2 0 W (by decide) (by decide)
theorem hc14 (W : World) (Ahr2_0 : Option Addr) (chr2_0 : Nat) (hhr2_0 : NatV W Ahr2_0 chr2_0 (mg hr2_0)) : Calls Tryz.prog 25 #[.agg #[.bool (sg hr2_0), .slice Ahr2_0 (nl (mg hr2_0)) chr2_0, .int .i64 0]] W (fun e w' => e = .returned (.bool false) ∧ Below W.heap.size W w') := by
  have CR := dright_c Ahr2_0 chr2_0 hr2_0 0 W hhr2_0 (Nat.le_trans Nhr2_0 (by decide))
  rw [show rightD hr2_0 0 = false by unfold hr2_0; decide +kernel] at CR
  exact CR
def hr0_1 : Int := 0
theorem Nhr0_1 : nl (mg hr0_1) ≤ 1 := nl_le.2 (by unfold hr0_1; decide +kernel)
theorem cohr0_1 (W : World)   : Calls Tryz.prog 76 #[.int .i64 0, .int .i64 1] W (RetDr W hr0_1 1) := by
  unfold hr0_1; exact ld_c 0 1 W (by decide) (by decide)
theorem hc15 (W : World) (Ahr0_1 : Option Addr) (chr0_1 : Nat) (hhr0_1 : NatV W Ahr0_1 chr0_1 (mg hr0_1)) : Calls Tryz.prog 25 #[.agg #[.bool (sg hr0_1), .slice Ahr0_1 (nl (mg hr0_1)) chr0_1, .int .i64 1]] W (fun e w' => e = .returned (.bool false) ∧ Below W.heap.size W w') := by
  have CR := dright_c Ahr0_1 chr0_1 hr0_1 1 W hhr0_1 (Nat.le_trans Nhr0_1 (by decide))
  rw [show rightD hr0_1 1 = false by unfold hr0_1; decide +kernel] at CR
  exact CR
def hr1_100001 : Int := 1
theorem Nhr1_100001 : nl (mg hr1_100001) ≤ 1 := nl_le.2 (by unfold hr1_100001; decide +kernel)
theorem cohr1_100001 (W : World)   : Calls Tryz.prog 76 #[.int .i64 1, .int .i64 100001] W (RetDr W hr1_100001 100001) := by
  unfold hr1_100001; exact ld_c 1 100001 W (by decide) (by decide)
theorem hc16 (W : World) (Ahr1_100001 : Option Addr) (chr1_100001 : Nat) (hhr1_100001 : NatV W Ahr1_100001 chr1_100001 (mg hr1_100001)) : Calls Tryz.prog 25 #[.agg #[.bool (sg hr1_100001), .slice Ahr1_100001 (nl (mg hr1_100001)) chr1_100001, .int .i64 100001]] W (fun e w' => e = .returned (.bool false) ∧ Below W.heap.size W w') := by
  have CR := dright_c Ahr1_100001 chr1_100001 hr1_100001 100001 W hhr1_100001 (Nat.le_trans Nhr1_100001 (by decide))
  rw [show rightD hr1_100001 100001 = false by unfold hr1_100001; decide +kernel] at CR
  exact CR
def hd1_n2 : Rat := dval 1 (-2)
theorem Ohd1_n2 : DB hd1_n2 1 100 := ⟨by unfold hd1_n2; exact dyd_val _ _, by unfold hd1_n2; decide +kernel, by unfold hd1_n2; decide +kernel⟩
theorem cohd1_n2 (W : World)   : Calls Tryz.prog 76 #[.int .i64 1, .int .i64 (-2)] W (RetD W hd1_n2) := by
  have hn : Nz 1 (-2) := Or.inl (by decide)
  unfold hd1_n2; exact ld_nz 1 (-2) W (by decide) (by decide) hn
theorem hc17 (W : World) (Aka : Option Addr) (cka : Nat) (Ahd1_n2 : Option Addr) (chd1_n2 : Nat) (hka : NatV W Aka cka (mg (dmn ka))) (hhd1_n2 : NatV W Ahd1_n2 chd1_n2 (mg (dmn hd1_n2))) : Calls Tryz.prog 24 #[.agg #[.bool (sg (dmn ka)), .slice Aka (nl (mg (dmn ka))) cka, .int .i64 (dex ka)], .agg #[.bool (sg (dmn hd1_n2)), .slice Ahd1_n2 (nl (mg (dmn hd1_n2))) chd1_n2, .int .i64 (dex hd1_n2)]] W (fun e w' => e = .returned (.bool true) ∧ Below W.heap.size W w') := by
  exact tsameT_c Aka cka ka Ahd1_n2 chd1_n2 hd1_n2 W hka hhd1_n2 (Oka.ok (by decide) (by decide)) (by unfold ka hd1_n2; decide +kernel)
def hd1_n1 : Rat := dval 1 (-1)
theorem Ohd1_n1 : DB hd1_n1 1 100 := ⟨by unfold hd1_n1; exact dyd_val _ _, by unfold hd1_n1; decide +kernel, by unfold hd1_n1; decide +kernel⟩
theorem cohd1_n1 (W : World)   : Calls Tryz.prog 76 #[.int .i64 1, .int .i64 (-1)] W (RetD W hd1_n1) := by
  have hn : Nz 1 (-1) := Or.inl (by decide)
  unfold hd1_n1; exact ld_nz 1 (-1) W (by decide) (by decide) hn
theorem hc18 (W : World) (Akb : Option Addr) (ckb : Nat) (Ahd1_n1 : Option Addr) (chd1_n1 : Nat) (hkb : NatV W Akb ckb (mg (dmn kb))) (hhd1_n1 : NatV W Ahd1_n1 chd1_n1 (mg (dmn hd1_n1))) : Calls Tryz.prog 24 #[.agg #[.bool (sg (dmn kb)), .slice Akb (nl (mg (dmn kb))) ckb, .int .i64 (dex kb)], .agg #[.bool (sg (dmn hd1_n1)), .slice Ahd1_n1 (nl (mg (dmn hd1_n1))) chd1_n1, .int .i64 (dex hd1_n1)]] W (fun e w' => e = .returned (.bool true) ∧ Below W.heap.size W w') := by
  exact tsameT_c Akb ckb kb Ahd1_n1 chd1_n1 hd1_n1 W hkb hhd1_n1 (Okb.ok (by decide) (by decide)) (by unfold kb hd1_n1; decide +kernel)
theorem hc19 (W : World) (Akc : Option Addr) (ckc : Nat) (Ahd1_n2 : Option Addr) (chd1_n2 : Nat) (hkc : NatV W Akc ckc (mg (dmn kc))) (hhd1_n2 : NatV W Ahd1_n2 chd1_n2 (mg (dmn hd1_n2))) : Calls Tryz.prog 24 #[.agg #[.bool (sg (dmn kc)), .slice Akc (nl (mg (dmn kc))) ckc, .int .i64 (dex kc)], .agg #[.bool (sg (dmn hd1_n2)), .slice Ahd1_n2 (nl (mg (dmn hd1_n2))) chd1_n2, .int .i64 (dex hd1_n2)]] W (fun e w' => e = .returned (.bool true) ∧ Below W.heap.size W w') := by
  exact tsameT_c Akc ckc kc Ahd1_n2 chd1_n2 hd1_n2 W hkc hhd1_n2 (Okc.ok (by decide) (by decide)) (by unfold kc hd1_n2; decide +kernel)
theorem hc20 (W : World) (Akf : Option Addr) (ckf : Nat) (Ahd1_n1 : Option Addr) (chd1_n1 : Nat) (hkf : NatV W Akf ckf (mg (dmn kf))) (hhd1_n1 : NatV W Ahd1_n1 chd1_n1 (mg (dmn hd1_n1))) : Calls Tryz.prog 24 #[.agg #[.bool (sg (dmn kf)), .slice Akf (nl (mg (dmn kf))) ckf, .int .i64 (dex kf)], .agg #[.bool (sg (dmn hd1_n1)), .slice Ahd1_n1 (nl (mg (dmn hd1_n1))) chd1_n1, .int .i64 (dex hd1_n1)]] W (fun e w' => e = .returned (.bool true) ∧ Below W.heap.size W w') := by
  exact tsameT_c Akf ckf kf Ahd1_n1 chd1_n1 hd1_n1 W hkf hhd1_n1 (Okf.ok (by decide) (by decide)) (by unfold kf hd1_n1; decide +kernel)
theorem hc21 (W : World) (Akg : Option Addr) (ckg : Nat) (Ahd1_n1 : Option Addr) (chd1_n1 : Nat) (hkg : NatV W Akg ckg (mg (dmn kg))) (hhd1_n1 : NatV W Ahd1_n1 chd1_n1 (mg (dmn hd1_n1))) : Calls Tryz.prog 24 #[.agg #[.bool (sg (dmn kg)), .slice Akg (nl (mg (dmn kg))) ckg, .int .i64 (dex kg)], .agg #[.bool (sg (dmn hd1_n1)), .slice Ahd1_n1 (nl (mg (dmn hd1_n1))) chd1_n1, .int .i64 (dex hd1_n1)]] W (fun e w' => e = .returned (.bool true) ∧ Below W.heap.size W w') := by
  exact tsameT_c Akg ckg kg Ahd1_n1 chd1_n1 hd1_n1 W hkg hhd1_n1 (Okg.ok (by decide) (by decide)) (by unfold kg hd1_n1; decide +kernel)
def hdn1_n2 : Rat := dval (-1) (-2)
theorem cohdn1_n2 (W : World)   : Calls Tryz.prog 76 #[.int .i64 (-1), .int .i64 (-2)] W (RetD W hdn1_n2) := by
  have hn : Nz (-1) (-2) := Or.inl (by decide)
  unfold hdn1_n2; exact ld_nz (-1) (-2) W (by decide) (by decide) hn
theorem hc22 (W : World) (Akh : Option Addr) (ckh : Nat) (Ahdn1_n2 : Option Addr) (chdn1_n2 : Nat) (hkh : NatV W Akh ckh (mg (dmn kh))) (hhdn1_n2 : NatV W Ahdn1_n2 chdn1_n2 (mg (dmn hdn1_n2))) : Calls Tryz.prog 24 #[.agg #[.bool (sg (dmn kh)), .slice Akh (nl (mg (dmn kh))) ckh, .int .i64 (dex kh)], .agg #[.bool (sg (dmn hdn1_n2)), .slice Ahdn1_n2 (nl (mg (dmn hdn1_n2))) chdn1_n2, .int .i64 (dex hdn1_n2)]] W (fun e w' => e = .returned (.bool true) ∧ Below W.heap.size W w') := by
  exact tsameT_c Akh ckh kh Ahdn1_n2 chdn1_n2 hdn1_n2 W hkh hhdn1_n2 (Okh.ok (by decide) (by decide)) (by unfold kh hdn1_n2; decide +kernel)
def hdn1_n1 : Rat := dval (-1) (-1)
theorem cohdn1_n1 (W : World)   : Calls Tryz.prog 76 #[.int .i64 (-1), .int .i64 (-1)] W (RetD W hdn1_n1) := by
  have hn : Nz (-1) (-1) := Or.inl (by decide)
  unfold hdn1_n1; exact ld_nz (-1) (-1) W (by decide) (by decide) hn
theorem hc23 (W : World) (Aki : Option Addr) (cki : Nat) (Ahdn1_n1 : Option Addr) (chdn1_n1 : Nat) (hki : NatV W Aki cki (mg (dmn ki))) (hhdn1_n1 : NatV W Ahdn1_n1 chdn1_n1 (mg (dmn hdn1_n1))) : Calls Tryz.prog 24 #[.agg #[.bool (sg (dmn ki)), .slice Aki (nl (mg (dmn ki))) cki, .int .i64 (dex ki)], .agg #[.bool (sg (dmn hdn1_n1)), .slice Ahdn1_n1 (nl (mg (dmn hdn1_n1))) chdn1_n1, .int .i64 (dex hdn1_n1)]] W (fun e w' => e = .returned (.bool true) ∧ Below W.heap.size W w') := by
  exact tsameT_c Aki cki ki Ahdn1_n1 chdn1_n1 hdn1_n1 W hki hhdn1_n1 (Oki.ok (by decide) (by decide)) (by unfold ki hdn1_n1; decide +kernel)
theorem hc24 (W : World) (Akl : Option Addr) (ckl : Nat) (Ahd1_n1 : Option Addr) (chd1_n1 : Nat) (hkl : NatV W Akl ckl (mg (dmn kl))) (hhd1_n1 : NatV W Ahd1_n1 chd1_n1 (mg (dmn hd1_n1))) : Calls Tryz.prog 24 #[.agg #[.bool (sg (dmn kl)), .slice Akl (nl (mg (dmn kl))) ckl, .int .i64 (dex kl)], .agg #[.bool (sg (dmn hd1_n1)), .slice Ahd1_n1 (nl (mg (dmn hd1_n1))) chd1_n1, .int .i64 (dex hd1_n1)]] W (fun e w' => e = .returned (.bool true) ∧ Below W.heap.size W w') := by
  exact tsameT_c Akl ckl kl Ahd1_n1 chd1_n1 hd1_n1 W hkl hhd1_n1 (Okl.ok (by decide) (by decide)) (by unfold kl hd1_n1; decide +kernel)
def hdn3_n1 : Rat := dval (-3) (-1)
theorem Ohdn3_n1 : DB hdn3_n1 1 100 := ⟨by unfold hdn3_n1; exact dyd_val _ _, by unfold hdn3_n1; decide +kernel, by unfold hdn3_n1; decide +kernel⟩
theorem cohdn3_n1 (W : World)   : Calls Tryz.prog 76 #[.int .i64 (-3), .int .i64 (-1)] W (RetD W hdn3_n1) := by
  have hn : Nz (-3) (-1) := Or.inl (by decide)
  unfold hdn3_n1; exact ld_nz (-3) (-1) W (by decide) (by decide) hn
def hs2 : Int := -2
theorem Nhs2 : nl (mg hs2) ≤ 1 := nl_le.2 (by unfold hs2; decide +kernel)
theorem hc25 (W : World) (Ahdn3_n1 : Option Addr) (chdn3_n1 : Nat) (hhdn3_n1 : NatV W Ahdn3_n1 chdn3_n1 (mg (dmn hdn3_n1))) : Calls Tryz.prog 77 #[.agg #[.bool (sg (dmn hdn3_n1)), .slice Ahdn3_n1 (nl (mg (dmn hdn3_n1))) chdn3_n1, .int .i64 (dex hdn3_n1)], .int .i64 0] W (RetI W hs2) := by
  rw [show hs2 = shf (dmn hdn3_n1) (dex hdn3_n1 + 0) by unfold hs2 hdn3_n1; decide +kernel]
  exact dscaled_c Ahdn3_n1 chdn3_n1 hdn3_n1 0 W hhdn3_n1 (Ohdn3_n1.ok (by decide) (by decide)) (by decide)
def hzn2 : Int := -2
theorem cohzn2 (W : World)   : Calls Tryz.prog 18 #[.int .i64 (-2)] W (RetI W hzn2) := by
  unfold hzn2; exact zof_c (-2) W (by decide) (by decide)
theorem hc26 (W : World) (Ahs2 : Option Addr) (chs2 : Nat) (Ahzn2 : Option Addr) (chzn2 : Nat) (hhs2 : NatV W Ahs2 chs2 (mg hs2)) (hhzn2 : NatV W Ahzn2 chzn2 (mg hzn2)) : Calls Tryz.prog 57 #[.agg #[.bool (sg hs2), .slice Ahs2 (nl (mg hs2)) chs2], .agg #[.bool (sg hzn2), .slice Ahzn2 (nl (mg hzn2)) chzn2]] W (fun e w' => e = .returned (.bool true) ∧ Below W.heap.size W w') := by
  exact zsameT_c Ahs2 chs2 hs2 Ahzn2 chzn2 hzn2 W hhs2 hhzn2 (Nat.le_trans Nhs2 (by decide)) rfl
def hd1_n1b : Rat := hd1_n1
theorem Ohd1_n1b : DB hd1_n1b 1 100 := Ohd1_n1
theorem cohd1_n1b (W : World)   : Calls Tryz.prog 76 #[.int .i64 1, .int .i64 (-1)] W (RetD W hd1_n1b) := by
  exact cohd1_n1 W
def hadd : Rat := dval 1 0
theorem Ohadd : DB hadd 1 100 := ⟨by unfold hadd; exact dyd_val _ _, by unfold hadd; decide +kernel, by unfold hadd; decide +kernel⟩
theorem hc27 (W : World) (Ahd1_n1 : Option Addr) (chd1_n1 : Nat) (Ahd1_n1b : Option Addr) (chd1_n1b : Nat) (hhd1_n1 : NatV W Ahd1_n1 chd1_n1 (mg (dmn hd1_n1))) (hhd1_n1b : NatV W Ahd1_n1b chd1_n1b (mg (dmn hd1_n1b))) (hT : Tab W) : Calls Tryz.prog 36 #[.agg #[.bool (sg (dmn hd1_n1)), .slice Ahd1_n1 (nl (mg (dmn hd1_n1))) chd1_n1, .int .i64 (dex hd1_n1)], .agg #[.bool (sg (dmn hd1_n1b)), .slice Ahd1_n1b (nl (mg (dmn hd1_n1b))) chd1_n1b, .int .i64 (dex hd1_n1b)]] W (RetD W hadd) := by
  rw [show hadd = hd1_n1 + hd1_n1b by unfold hadd hd1_n1 hd1_n1b hd1_n1; decide +kernel]
  exact dadd_c Ahd1_n1 chd1_n1 hd1_n1 Ahd1_n1b chd1_n1b hd1_n1b W hhd1_n1 hhd1_n1b (Ohd1_n1.ok (by decide) (by decide)) (Ohd1_n1b.ok (by decide) (by decide)) hT
def hd1_0 : Rat := dval 1 0
theorem Ohd1_0 : DB hd1_0 1 100 := ⟨by unfold hd1_0; exact dyd_val _ _, by unfold hd1_0; decide +kernel, by unfold hd1_0; decide +kernel⟩
theorem cohd1_0 (W : World)   : Calls Tryz.prog 76 #[.int .i64 1, .int .i64 0] W (RetD W hd1_0) := by
  have hn : Nz 1 0 := Or.inl (by decide)
  unfold hd1_0; exact ld_nz 1 0 W (by decide) (by decide) hn
theorem hc28 (W : World) (Ahadd : Option Addr) (chadd : Nat) (Ahd1_0 : Option Addr) (chd1_0 : Nat) (hhadd : NatV W Ahadd chadd (mg (dmn hadd))) (hhd1_0 : NatV W Ahd1_0 chd1_0 (mg (dmn hd1_0))) : Calls Tryz.prog 24 #[.agg #[.bool (sg (dmn hadd)), .slice Ahadd (nl (mg (dmn hadd))) chadd, .int .i64 (dex hadd)], .agg #[.bool (sg (dmn hd1_0)), .slice Ahd1_0 (nl (mg (dmn hd1_0))) chd1_0, .int .i64 (dex hd1_0)]] W (fun e w' => e = .returned (.bool true) ∧ Below W.heap.size W w') := by
  exact tsameT_c Ahadd chadd hadd Ahd1_0 chd1_0 hd1_0 W hhadd hhd1_0 (Ohadd.ok (by decide) (by decide)) (by unfold hadd hd1_0; decide +kernel)
def hd3_0 : Rat := dval 3 0
theorem Ohd3_0 : DB hd3_0 1 100 := ⟨by unfold hd3_0; exact dyd_val _ _, by unfold hd3_0; decide +kernel, by unfold hd3_0; decide +kernel⟩
theorem cohd3_0 (W : World)   : Calls Tryz.prog 76 #[.int .i64 3, .int .i64 0] W (RetD W hd3_0) := by
  have hn : Nz 3 0 := Or.inl (by decide)
  unfold hd3_0; exact ld_nz 3 0 W (by decide) (by decide) hn
def hmid : Rat := dval 1 1
theorem Ohmid : DB hmid 1 100 := ⟨by unfold hmid; exact dyd_val _ _, by unfold hmid; decide +kernel, by unfold hmid; decide +kernel⟩
theorem hc29 (W : World) (Ahd1_0 : Option Addr) (chd1_0 : Nat) (Ahd3_0 : Option Addr) (chd3_0 : Nat) (hhd1_0 : NatV W Ahd1_0 chd1_0 (mg (dmn hd1_0))) (hhd3_0 : NatV W Ahd3_0 chd3_0 (mg (dmn hd3_0))) (hT : Tab W) : Calls Tryz.prog 42 #[.agg #[.bool (sg (dmn hd1_0)), .slice Ahd1_0 (nl (mg (dmn hd1_0))) chd1_0, .int .i64 (dex hd1_0)], .agg #[.bool (sg (dmn hd3_0)), .slice Ahd3_0 (nl (mg (dmn hd3_0))) chd3_0, .int .i64 (dex hd3_0)]] W (RetD W hmid) := by
  rw [show hmid = (hd1_0 + hd3_0) * (1 / 2) by unfold hmid hd1_0 hd3_0; decide +kernel]
  exact dmid_c Ahd1_0 chd1_0 hd1_0 Ahd3_0 chd3_0 hd3_0 W hhd1_0 hhd3_0 (Ohd1_0.ok (by decide) (by decide)) (Ohd3_0.ok (by decide) (by decide)) hT
def hd1_1 : Rat := dval 1 1
theorem cohd1_1 (W : World)   : Calls Tryz.prog 76 #[.int .i64 1, .int .i64 1] W (RetD W hd1_1) := by
  have hn : Nz 1 1 := Or.inl (by decide)
  unfold hd1_1; exact ld_nz 1 1 W (by decide) (by decide) hn
theorem hc30 (W : World) (Ahmid : Option Addr) (chmid : Nat) (Ahd1_1 : Option Addr) (chd1_1 : Nat) (hhmid : NatV W Ahmid chmid (mg (dmn hmid))) (hhd1_1 : NatV W Ahd1_1 chd1_1 (mg (dmn hd1_1))) : Calls Tryz.prog 24 #[.agg #[.bool (sg (dmn hmid)), .slice Ahmid (nl (mg (dmn hmid))) chmid, .int .i64 (dex hmid)], .agg #[.bool (sg (dmn hd1_1)), .slice Ahd1_1 (nl (mg (dmn hd1_1))) chd1_1, .int .i64 (dex hd1_1)]] W (fun e w' => e = .returned (.bool true) ∧ Below W.heap.size W w') := by
  exact tsameT_c Ahmid chmid hmid Ahd1_1 chd1_1 hd1_1 W hhmid hhd1_1 (Ohmid.ok (by decide) (by decide)) (by unfold hmid hd1_1; decide +kernel)
theorem hc31 (W : World) (Ahd1_n1 : Option Addr) (chd1_n1 : Nat) (Ahd1_n2 : Option Addr) (chd1_n2 : Nat) (hhd1_n1 : NatV W Ahd1_n1 chd1_n1 (mg (dmn hd1_n1))) (hhd1_n2 : NatV W Ahd1_n2 chd1_n2 (mg (dmn hd1_n2))) : Calls Tryz.prog 30 #[.agg #[.bool (sg (dmn hd1_n1)), .slice Ahd1_n1 (nl (mg (dmn hd1_n1))) chd1_n1, .int .i64 (dex hd1_n1)], .agg #[.bool (sg (dmn hd1_n2)), .slice Ahd1_n2 (nl (mg (dmn hd1_n2))) chd1_n2, .int .i64 (dex hd1_n2)]] W (fun e w' => e = .returned (.int .i64 1) ∧ Below W.heap.size W w') := by
  have CR := dcmp_c Ahd1_n1 chd1_n1 hd1_n1 Ahd1_n2 chd1_n2 hd1_n2 W hhd1_n1 hhd1_n2 (Ohd1_n1.ok (by decide) (by decide)) (Ohd1_n2.ok (by decide) (by decide))
  rw [show rcmp hd1_n1 hd1_n2 = 1 by unfold hd1_n1 hd1_n2; decide +kernel] at CR
  exact CR
def hdn3_n2 : Rat := dval (-3) (-2)
theorem Ohdn3_n2 : DB hdn3_n2 1 100 := ⟨by unfold hdn3_n2; exact dyd_val _ _, by unfold hdn3_n2; decide +kernel, by unfold hdn3_n2; decide +kernel⟩
theorem cohdn3_n2 (W : World)   : Calls Tryz.prog 76 #[.int .i64 (-3), .int .i64 (-2)] W (RetD W hdn3_n2) := by
  have hn : Nz (-3) (-2) := Or.inl (by decide)
  unfold hdn3_n2; exact ld_nz (-3) (-2) W (by decide) (by decide) hn
def hrat : Rat := hdn3_n2
theorem Nhrat : nl (mg hrat.num) ≤ 1 ∧ nl hrat.den ≤ 1 := ⟨nl_le.2 (by unfold hrat; decide +kernel), nl_le.2 (by unfold hrat; decide +kernel)⟩
theorem hc32 (W : World) (Ahdn3_n2 : Option Addr) (chdn3_n2 : Nat) (hhdn3_n2 : NatV W Ahdn3_n2 chdn3_n2 (mg (dmn hdn3_n2))) : Calls Tryz.prog 45 #[.agg #[.bool (sg (dmn hdn3_n2)), .slice Ahdn3_n2 (nl (mg (dmn hdn3_n2))) chdn3_n2, .int .i64 (dex hdn3_n2)]] W (RetR W hrat) := by
  exact drat_c Ahdn3_n2 chdn3_n2 hdn3_n2 W hhdn3_n2 (Ohdn3_n2.ok (by decide) (by decide))
def hqn3_4 : Rat := Rat.divInt (-3) 4
theorem cohqn3_4 (W : World)   : Calls Tryz.prog 74 #[.int .i64 (-3), .int .i64 4] W (RetR W hqn3_4) := by
  unfold hqn3_4; exact lq_c (-3) 4 W (by decide) (by decide) (by decide) (by decide)
theorem hc33 (W : World) (Ahrat : Option Addr) (chrat : Nat) (Bhrat : Option Addr) (dhrat : Nat) (Ahqn3_4 : Option Addr) (chqn3_4 : Nat) (Bhqn3_4 : Option Addr) (dhqn3_4 : Nat) (hhrat : NatV W Ahrat chrat (mg hrat.num)) (ghrat : NatV W Bhrat dhrat hrat.den) (hhqn3_4 : NatV W Ahqn3_4 chqn3_4 (mg hqn3_4.num)) (ghqn3_4 : NatV W Bhqn3_4 dhqn3_4 hqn3_4.den) : Calls Tryz.prog 44 #[.agg #[.bool (sg hrat.num), .slice Ahrat (nl (mg hrat.num)) chrat, .slice Bhrat (nl hrat.den) dhrat], .agg #[.bool (sg hqn3_4.num), .slice Ahqn3_4 (nl (mg hqn3_4.num)) chqn3_4, .slice Bhqn3_4 (nl hqn3_4.den) dhqn3_4]] W (fun e w' => e = .returned (.bool true) ∧ Below W.heap.size W w') := by
  exact r9sameT_c Ahrat chrat Bhrat dhrat hrat Ahqn3_4 chqn3_4 Bhqn3_4 dhqn3_4 hqn3_4 W hhrat ghrat hhqn3_4 ghqn3_4 (Nat.le_trans Nhrat.1 (by decide)) (Nat.le_trans Nhrat.2 (by decide)) (by unfold hrat hdn3_n2 hqn3_4; decide +kernel)
def hdn1_5 : Rat := dval (-1) 5
theorem cohdn1_5 (W : World)   : Calls Tryz.prog 76 #[.int .i64 (-1), .int .i64 5] W (RetD W hdn1_5) := by
  have hn : Nz (-1) 5 := Or.inl (by decide)
  unfold hdn1_5; exact ld_nz (-1) 5 W (by decide) (by decide) hn
theorem hc34 (W : World) (Ahdn1_5 : Option Addr) (chdn1_5 : Nat) (hhdn1_5 : NatV W Ahdn1_5 chdn1_5 (mg (dmn hdn1_5))) : Calls Tryz.prog 32 #[.agg #[.bool (sg (dmn hdn1_5)), .slice Ahdn1_5 (nl (mg (dmn hdn1_5))) chdn1_5, .int .i64 (dex hdn1_5)]] W (fun e w' => e = .returned (.int .i64 (-1)) ∧ Below W.heap.size W w') := by
  have CR := dsign_c Ahdn1_5 chdn1_5 hdn1_5 W hhdn1_5
  rw [show (dmn hdn1_5).sign = -1 by unfold hdn1_5; decide +kernel] at CR
  exact CR
theorem dhead_c (w : World) (hT : Tab w) :
    Calls Tryz.prog 13 #[] w fun e w' => e = .returned (.bool true) ∧ Below w.heap.size w w' := by
  go_enter Tryz.func13, Tryz.ntmps13
  go_wp2_with (fail)
  refine (Calls.mono (cohq1_3 _  ) ?_)
  rintro e W1 ⟨Xhq1_3, chq1_3, Yhq1_3, dhq1_3, rfl, hhq1_3, ghq1_3, hb1⟩
  replace hT := hT.below hb1
  have HBT := hb1
  clear hb1
  go_wp2_with (fail)
  refine (Calls.mono (hc1 _ Xhq1_3 chq1_3 Yhq1_3 dhq1_3 hhq1_3 ghq1_3 hT) ?_)
  rintro e W2 ⟨Xka, cka, rfl, hka, hb2⟩
  replace hT := hT.below hb2
  replace hhq1_3 := hhq1_3.below hb2
  replace ghq1_3 := ghq1_3.below hb2
  replace HBT := Below.cons HBT hb2
  clear hb2
  clear hhq1_3 ghq1_3
  obtain ⟨hb3, Rka⟩ := bx1 W2 #[.bool (sg (dmn ka)), .slice Xka (nl (mg (dmn ka))) cka, .int .i64 (dex ka)] 31
  replace hT := hT.below hb3
  replace hka := hka.below hb3
  replace HBT := Below.cons HBT hb3
  clear hb3
  go_wp2_with (fail)
  refine (Calls.mono (cohq1_3 _  ) ?_)
  rintro e W4 ⟨Xhq1_3, chq1_3, Yhq1_3, dhq1_3, rfl, hhq1_3, ghq1_3, hb4⟩
  replace hT := hT.below hb4
  replace hka := hka.below hb4
  replace Rka := Rka.below hb4
  replace HBT := Below.cons HBT hb4
  clear hb4
  go_wp2_with (fail)
  refine (Calls.mono (hc2 _ Xhq1_3 chq1_3 Yhq1_3 dhq1_3 hhq1_3 ghq1_3 hT) ?_)
  rintro e W5 ⟨Xkb, ckb, rfl, hkb, hb5⟩
  replace hT := hT.below hb5
  replace hka := hka.below hb5
  replace Rka := Rka.below hb5
  replace hhq1_3 := hhq1_3.below hb5
  replace ghq1_3 := ghq1_3.below hb5
  replace HBT := Below.cons HBT hb5
  clear hb5
  clear hhq1_3 ghq1_3
  obtain ⟨hb6, Rkb⟩ := bx1 W5 #[.bool (sg (dmn kb)), .slice Xkb (nl (mg (dmn kb))) ckb, .int .i64 (dex kb)] 31
  replace hT := hT.below hb6
  replace hka := hka.below hb6
  replace Rka := Rka.below hb6
  replace hkb := hkb.below hb6
  replace HBT := Below.cons HBT hb6
  clear hb6
  go_wp2_with (fail)
  refine (Calls.mono (cohq1_3 _  ) ?_)
  rintro e W7 ⟨Xhq1_3, chq1_3, Yhq1_3, dhq1_3, rfl, hhq1_3, ghq1_3, hb7⟩
  replace hT := hT.below hb7
  replace hka := hka.below hb7
  replace Rka := Rka.below hb7
  replace hkb := hkb.below hb7
  replace Rkb := Rkb.below hb7
  replace HBT := Below.cons HBT hb7
  clear hb7
  go_wp2_with (fail)
  refine (Calls.mono (hc3 _ Xhq1_3 chq1_3 Yhq1_3 dhq1_3 hhq1_3 ghq1_3 hT) ?_)
  rintro e W8 ⟨Xkc, ckc, rfl, hkc, hb8⟩
  replace hT := hT.below hb8
  replace hka := hka.below hb8
  replace Rka := Rka.below hb8
  replace hkb := hkb.below hb8
  replace Rkb := Rkb.below hb8
  replace hhq1_3 := hhq1_3.below hb8
  replace ghq1_3 := ghq1_3.below hb8
  replace HBT := Below.cons HBT hb8
  clear hb8
  clear hhq1_3 ghq1_3
  obtain ⟨hb9, Rkc⟩ := bx1 W8 #[.bool (sg (dmn kc)), .slice Xkc (nl (mg (dmn kc))) ckc, .int .i64 (dex kc)] 31
  replace hT := hT.below hb9
  replace hka := hka.below hb9
  replace Rka := Rka.below hb9
  replace hkb := hkb.below hb9
  replace Rkb := Rkb.below hb9
  replace hkc := hkc.below hb9
  replace HBT := Below.cons HBT hb9
  clear hb9
  go_wp2_with (fail)
  refine (Calls.mono (cohq3_8 _  ) ?_)
  rintro e W10 ⟨Xhq3_8, chq3_8, Yhq3_8, dhq3_8, rfl, hhq3_8, ghq3_8, hb10⟩
  replace hT := hT.below hb10
  replace hka := hka.below hb10
  replace Rka := Rka.below hb10
  replace hkb := hkb.below hb10
  replace Rkb := Rkb.below hb10
  replace hkc := hkc.below hb10
  replace Rkc := Rkc.below hb10
  replace HBT := Below.cons HBT hb10
  clear hb10
  go_wp2_with (fail)
  refine (Calls.mono (hc4 _ Xhq3_8 chq3_8 Yhq3_8 dhq3_8 hhq3_8 ghq3_8 hT) ?_)
  rintro e W11 ⟨Xkf, ckf, rfl, hkf, hb11⟩
  replace hT := hT.below hb11
  replace hka := hka.below hb11
  replace Rka := Rka.below hb11
  replace hkb := hkb.below hb11
  replace Rkb := Rkb.below hb11
  replace hkc := hkc.below hb11
  replace Rkc := Rkc.below hb11
  replace hhq3_8 := hhq3_8.below hb11
  replace ghq3_8 := ghq3_8.below hb11
  replace HBT := Below.cons HBT hb11
  clear hb11
  clear hhq3_8 ghq3_8
  obtain ⟨hb12, Rkf⟩ := bx1 W11 #[.bool (sg (dmn kf)), .slice Xkf (nl (mg (dmn kf))) ckf, .int .i64 (dex kf)] 31
  replace hT := hT.below hb12
  replace hka := hka.below hb12
  replace Rka := Rka.below hb12
  replace hkb := hkb.below hb12
  replace Rkb := Rkb.below hb12
  replace hkc := hkc.below hb12
  replace Rkc := Rkc.below hb12
  replace hkf := hkf.below hb12
  replace HBT := Below.cons HBT hb12
  clear hb12
  go_wp2_with (fail)
  refine (Calls.mono (cohq5_8 _  ) ?_)
  rintro e W13 ⟨Xhq5_8, chq5_8, Yhq5_8, dhq5_8, rfl, hhq5_8, ghq5_8, hb13⟩
  replace hT := hT.below hb13
  replace hka := hka.below hb13
  replace Rka := Rka.below hb13
  replace hkb := hkb.below hb13
  replace Rkb := Rkb.below hb13
  replace hkc := hkc.below hb13
  replace Rkc := Rkc.below hb13
  replace hkf := hkf.below hb13
  replace Rkf := Rkf.below hb13
  replace HBT := Below.cons HBT hb13
  clear hb13
  go_wp2_with (fail)
  refine (Calls.mono (hc5 _ Xhq5_8 chq5_8 Yhq5_8 dhq5_8 hhq5_8 ghq5_8 hT) ?_)
  rintro e W14 ⟨Xkg, ckg, rfl, hkg, hb14⟩
  replace hT := hT.below hb14
  replace hka := hka.below hb14
  replace Rka := Rka.below hb14
  replace hkb := hkb.below hb14
  replace Rkb := Rkb.below hb14
  replace hkc := hkc.below hb14
  replace Rkc := Rkc.below hb14
  replace hkf := hkf.below hb14
  replace Rkf := Rkf.below hb14
  replace hhq5_8 := hhq5_8.below hb14
  replace ghq5_8 := ghq5_8.below hb14
  replace HBT := Below.cons HBT hb14
  clear hb14
  clear hhq5_8 ghq5_8
  obtain ⟨hb15, Rkg⟩ := bx1 W14 #[.bool (sg (dmn kg)), .slice Xkg (nl (mg (dmn kg))) ckg, .int .i64 (dex kg)] 31
  replace hT := hT.below hb15
  replace hka := hka.below hb15
  replace Rka := Rka.below hb15
  replace hkb := hkb.below hb15
  replace Rkb := Rkb.below hb15
  replace hkc := hkc.below hb15
  replace Rkc := Rkc.below hb15
  replace hkf := hkf.below hb15
  replace Rkf := Rkf.below hb15
  replace hkg := hkg.below hb15
  replace HBT := Below.cons HBT hb15
  clear hb15
  go_wp2_with (fail)
  refine (Calls.mono (cohqn1_3 _  ) ?_)
  rintro e W16 ⟨Xhqn1_3, chqn1_3, Yhqn1_3, dhqn1_3, rfl, hhqn1_3, ghqn1_3, hb16⟩
  replace hT := hT.below hb16
  replace hka := hka.below hb16
  replace Rka := Rka.below hb16
  replace hkb := hkb.below hb16
  replace Rkb := Rkb.below hb16
  replace hkc := hkc.below hb16
  replace Rkc := Rkc.below hb16
  replace hkf := hkf.below hb16
  replace Rkf := Rkf.below hb16
  replace hkg := hkg.below hb16
  replace Rkg := Rkg.below hb16
  replace HBT := Below.cons HBT hb16
  clear hb16
  go_wp2_with (fail)
  refine (Calls.mono (hc6 _ Xhqn1_3 chqn1_3 Yhqn1_3 dhqn1_3 hhqn1_3 ghqn1_3 hT) ?_)
  rintro e W17 ⟨Xkh, ckh, rfl, hkh, hb17⟩
  replace hT := hT.below hb17
  replace hka := hka.below hb17
  replace Rka := Rka.below hb17
  replace hkb := hkb.below hb17
  replace Rkb := Rkb.below hb17
  replace hkc := hkc.below hb17
  replace Rkc := Rkc.below hb17
  replace hkf := hkf.below hb17
  replace Rkf := Rkf.below hb17
  replace hkg := hkg.below hb17
  replace Rkg := Rkg.below hb17
  replace hhqn1_3 := hhqn1_3.below hb17
  replace ghqn1_3 := ghqn1_3.below hb17
  replace HBT := Below.cons HBT hb17
  clear hb17
  clear hhqn1_3 ghqn1_3
  obtain ⟨hb18, Rkh⟩ := bx1 W17 #[.bool (sg (dmn kh)), .slice Xkh (nl (mg (dmn kh))) ckh, .int .i64 (dex kh)] 31
  replace hT := hT.below hb18
  replace hka := hka.below hb18
  replace Rka := Rka.below hb18
  replace hkb := hkb.below hb18
  replace Rkb := Rkb.below hb18
  replace hkc := hkc.below hb18
  replace Rkc := Rkc.below hb18
  replace hkf := hkf.below hb18
  replace Rkf := Rkf.below hb18
  replace hkg := hkg.below hb18
  replace Rkg := Rkg.below hb18
  replace hkh := hkh.below hb18
  replace HBT := Below.cons HBT hb18
  clear hb18
  go_wp2_with (fail)
  refine (Calls.mono (cohqn1_3 _  ) ?_)
  rintro e W19 ⟨Xhqn1_3, chqn1_3, Yhqn1_3, dhqn1_3, rfl, hhqn1_3, ghqn1_3, hb19⟩
  replace hT := hT.below hb19
  replace hka := hka.below hb19
  replace Rka := Rka.below hb19
  replace hkb := hkb.below hb19
  replace Rkb := Rkb.below hb19
  replace hkc := hkc.below hb19
  replace Rkc := Rkc.below hb19
  replace hkf := hkf.below hb19
  replace Rkf := Rkf.below hb19
  replace hkg := hkg.below hb19
  replace Rkg := Rkg.below hb19
  replace hkh := hkh.below hb19
  replace Rkh := Rkh.below hb19
  replace HBT := Below.cons HBT hb19
  clear hb19
  go_wp2_with (fail)
  refine (Calls.mono (hc7 _ Xhqn1_3 chqn1_3 Yhqn1_3 dhqn1_3 hhqn1_3 ghqn1_3 hT) ?_)
  rintro e W20 ⟨Xki, cki, rfl, hki, hb20⟩
  replace hT := hT.below hb20
  replace hka := hka.below hb20
  replace Rka := Rka.below hb20
  replace hkb := hkb.below hb20
  replace Rkb := Rkb.below hb20
  replace hkc := hkc.below hb20
  replace Rkc := Rkc.below hb20
  replace hkf := hkf.below hb20
  replace Rkf := Rkf.below hb20
  replace hkg := hkg.below hb20
  replace Rkg := Rkg.below hb20
  replace hkh := hkh.below hb20
  replace Rkh := Rkh.below hb20
  replace hhqn1_3 := hhqn1_3.below hb20
  replace ghqn1_3 := ghqn1_3.below hb20
  replace HBT := Below.cons HBT hb20
  clear hb20
  clear hhqn1_3 ghqn1_3
  obtain ⟨hb21, Rki⟩ := bx1 W20 #[.bool (sg (dmn ki)), .slice Xki (nl (mg (dmn ki))) cki, .int .i64 (dex ki)] 31
  replace hT := hT.below hb21
  replace hka := hka.below hb21
  replace Rka := Rka.below hb21
  replace hkb := hkb.below hb21
  replace Rkb := Rkb.below hb21
  replace hkc := hkc.below hb21
  replace Rkc := Rkc.below hb21
  replace hkf := hkf.below hb21
  replace Rkf := Rkf.below hb21
  replace hkg := hkg.below hb21
  replace Rkg := Rkg.below hb21
  replace hkh := hkh.below hb21
  replace Rkh := Rkh.below hb21
  replace hki := hki.below hb21
  replace HBT := Below.cons HBT hb21
  clear hb21
  go_wp2_with (fail)
  refine (Calls.mono (cohq1_3 _  ) ?_)
  rintro e W22 ⟨Xhq1_3, chq1_3, Yhq1_3, dhq1_3, rfl, hhq1_3, ghq1_3, hb22⟩
  replace hT := hT.below hb22
  replace hka := hka.below hb22
  replace Rka := Rka.below hb22
  replace hkb := hkb.below hb22
  replace Rkb := Rkb.below hb22
  replace hkc := hkc.below hb22
  replace Rkc := Rkc.below hb22
  replace hkf := hkf.below hb22
  replace Rkf := Rkf.below hb22
  replace hkg := hkg.below hb22
  replace Rkg := Rkg.below hb22
  replace hkh := hkh.below hb22
  replace Rkh := Rkh.below hb22
  replace hki := hki.below hb22
  replace Rki := Rki.below hb22
  replace HBT := Below.cons HBT hb22
  clear hb22
  go_wp2_with (fail)
  refine (Calls.mono (cut_big Xhq1_3 chq1_3 Yhq1_3 dhq1_3 hq1_3 2 5 _ hhq1_3 ghq1_3 (by decide)) ?_)
  rintro e W23 ⟨Xkk, ckk, rfl, hkk, hb23⟩
  replace hT := hT.below hb23
  replace hka := hka.below hb23
  replace Rka := Rka.below hb23
  replace hkb := hkb.below hb23
  replace Rkb := Rkb.below hb23
  replace hkc := hkc.below hb23
  replace Rkc := Rkc.below hb23
  replace hkf := hkf.below hb23
  replace Rkf := Rkf.below hb23
  replace hkg := hkg.below hb23
  replace Rkg := Rkg.below hb23
  replace hkh := hkh.below hb23
  replace Rkh := Rkh.below hb23
  replace hki := hki.below hb23
  replace Rki := Rki.below hb23
  replace hhq1_3 := hhq1_3.below hb23
  replace ghq1_3 := ghq1_3.below hb23
  replace HBT := Below.cons HBT hb23
  clear hb23
  clear hhq1_3 ghq1_3
  obtain ⟨hb24, Rkk⟩ := bx1 W23 #[.bool (sg (dmn 0)), .slice Xkk (nl (mg (dmn 0))) ckk, .int .i64 (dex 0)] 31
  replace hT := hT.below hb24
  replace hka := hka.below hb24
  replace Rka := Rka.below hb24
  replace hkb := hkb.below hb24
  replace Rkb := Rkb.below hb24
  replace hkc := hkc.below hb24
  replace Rkc := Rkc.below hb24
  replace hkf := hkf.below hb24
  replace Rkf := Rkf.below hb24
  replace hkg := hkg.below hb24
  replace Rkg := Rkg.below hb24
  replace hkh := hkh.below hb24
  replace Rkh := Rkh.below hb24
  replace hki := hki.below hb24
  replace Rki := Rki.below hb24
  replace hkk := hkk.below hb24
  replace HBT := Below.cons HBT hb24
  clear hb24
  go_wp2_with (fail)
  clear hkk
  clear Rkk
  refine (Calls.mono (cohd7_n3 _  ) ?_)
  rintro e W25 ⟨Xhd7_n3, chd7_n3, rfl, hhd7_n3, hb25⟩
  replace hT := hT.below hb25
  replace hka := hka.below hb25
  replace Rka := Rka.below hb25
  replace hkb := hkb.below hb25
  replace Rkb := Rkb.below hb25
  replace hkc := hkc.below hb25
  replace Rkc := Rkc.below hb25
  replace hkf := hkf.below hb25
  replace Rkf := Rkf.below hb25
  replace hkg := hkg.below hb25
  replace Rkg := Rkg.below hb25
  replace hkh := hkh.below hb25
  replace Rkh := Rkh.below hb25
  replace hki := hki.below hb25
  replace Rki := Rki.below hb25
  replace HBT := Below.cons HBT hb25
  clear hb25
  go_wp2_with (fail)
  refine (Calls.mono (hc8 _ Xhd7_n3 chd7_n3 hhd7_n3 hT) ?_)
  rintro e W26 ⟨Xkl, ckl, rfl, hkl, hb26⟩
  replace hT := hT.below hb26
  replace hka := hka.below hb26
  replace Rka := Rka.below hb26
  replace hkb := hkb.below hb26
  replace Rkb := Rkb.below hb26
  replace hkc := hkc.below hb26
  replace Rkc := Rkc.below hb26
  replace hkf := hkf.below hb26
  replace Rkf := Rkf.below hb26
  replace hkg := hkg.below hb26
  replace Rkg := Rkg.below hb26
  replace hkh := hkh.below hb26
  replace Rkh := Rkh.below hb26
  replace hki := hki.below hb26
  replace Rki := Rki.below hb26
  replace hhd7_n3 := hhd7_n3.below hb26
  replace HBT := Below.cons HBT hb26
  clear hb26
  clear hhd7_n3
  obtain ⟨hb27, Rkl⟩ := bx1 W26 #[.bool (sg (dmn kl)), .slice Xkl (nl (mg (dmn kl))) ckl, .int .i64 (dex kl)] 31
  replace hT := hT.below hb27
  replace hka := hka.below hb27
  replace Rka := Rka.below hb27
  replace hkb := hkb.below hb27
  replace Rkb := Rkb.below hb27
  replace hkc := hkc.below hb27
  replace Rkc := Rkc.below hb27
  replace hkf := hkf.below hb27
  replace Rkf := Rkf.below hb27
  replace hkg := hkg.below hb27
  replace Rkg := Rkg.below hb27
  replace hkh := hkh.below hb27
  replace Rkh := Rkh.below hb27
  replace hki := hki.below hb27
  replace Rki := Rki.below hb27
  replace hkl := hkl.below hb27
  replace HBT := Below.cons HBT hb27
  clear hb27
  go_wp2_with (fail)
  refine (Calls.mono (cohd7_n3 _  ) ?_)
  rintro e W28 ⟨Xhd7_n3, chd7_n3, rfl, hhd7_n3, hb28⟩
  replace hT := hT.below hb28
  replace hka := hka.below hb28
  replace Rka := Rka.below hb28
  replace hkb := hkb.below hb28
  replace Rkb := Rkb.below hb28
  replace hkc := hkc.below hb28
  replace Rkc := Rkc.below hb28
  replace hkf := hkf.below hb28
  replace Rkf := Rkf.below hb28
  replace hkg := hkg.below hb28
  replace Rkg := Rkg.below hb28
  replace hkh := hkh.below hb28
  replace Rkh := Rkh.below hb28
  replace hki := hki.below hb28
  replace Rki := Rki.below hb28
  replace hkl := hkl.below hb28
  replace Rkl := Rkl.below hb28
  replace HBT := Below.cons HBT hb28
  clear hb28
  go_wp2_with (fail)
  refine (Calls.mono (round_neg Xhd7_n3 chd7_n3 hd7_n3 1 (-1) _ hhd7_n3 (by decide)) ?_)
  rintro e W29 ⟨Xn0, cn0, rfl, hn0, hb29⟩
  replace hT := hT.below hb29
  replace hka := hka.below hb29
  replace Rka := Rka.below hb29
  replace hkb := hkb.below hb29
  replace Rkb := Rkb.below hb29
  replace hkc := hkc.below hb29
  replace Rkc := Rkc.below hb29
  replace hkf := hkf.below hb29
  replace Rkf := Rkf.below hb29
  replace hkg := hkg.below hb29
  replace Rkg := Rkg.below hb29
  replace hkh := hkh.below hb29
  replace Rkh := Rkh.below hb29
  replace hki := hki.below hb29
  replace Rki := Rki.below hb29
  replace hkl := hkl.below hb29
  replace Rkl := Rkl.below hb29
  replace hhd7_n3 := hhd7_n3.below hb29
  replace HBT := Below.cons HBT hb29
  clear hb29
  clear hhd7_n3
  obtain ⟨hb30, Rn0⟩ := bx1 W29 #[.bool (sg (dmn 0)), .slice Xn0 (nl (mg (dmn 0))) cn0, .int .i64 (dex 0)] 31
  replace hT := hT.below hb30
  replace hka := hka.below hb30
  replace Rka := Rka.below hb30
  replace hkb := hkb.below hb30
  replace Rkb := Rkb.below hb30
  replace hkc := hkc.below hb30
  replace Rkc := Rkc.below hb30
  replace hkf := hkf.below hb30
  replace Rkf := Rkf.below hb30
  replace hkg := hkg.below hb30
  replace Rkg := Rkg.below hb30
  replace hkh := hkh.below hb30
  replace Rkh := Rkh.below hb30
  replace hki := hki.below hb30
  replace Rki := Rki.below hb30
  replace hkl := hkl.below hb30
  replace Rkl := Rkl.below hb30
  replace hn0 := hn0.below hb30
  replace HBT := Below.cons HBT hb30
  clear hb30
  clear hn0
  clear Rn0
  go_wp2_with (fail)
  have hd31 := drb ((W29.alloc (.cells #[.bool (sg (dmn 0)), .slice Xn0 (nl (mg (dmn 0))) cn0, .int .i64 (dex 0)] 31)))
  replace hT := hT.below hd31
  replace hka := hka.below hd31
  replace Rka := Rka.below hd31
  replace hkb := hkb.below hd31
  replace Rkb := Rkb.below hd31
  replace hkc := hkc.below hd31
  replace Rkc := Rkc.below hd31
  replace hkf := hkf.below hd31
  replace Rkf := Rkf.below hd31
  replace hkg := hkg.below hd31
  replace Rkg := Rkg.below hd31
  replace hkh := hkh.below hd31
  replace Rkh := Rkh.below hd31
  replace hki := hki.below hd31
  replace Rki := Rki.below hd31
  replace hkl := hkl.below hd31
  replace Rkl := Rkl.below hd31
  replace HBT := Below.cons HBT hd31
  clear hd31
  simp only [List.append]
  obtain ⟨S, hS⟩ : ∃ S : World → Prop, S = fun W => W.cell? ⟨W2.heap.size, 0, none⟩ = some (.bool (sg (dmn ka))) ∧ W.cell? ⟨W2.heap.size, 1, none⟩ = some (.slice Xka (nl (mg (dmn ka))) cka) ∧ W.cell? ⟨W2.heap.size, 2, none⟩ = some (.int .i64 (dex ka)) ∧ W.cell? ⟨W5.heap.size, 0, none⟩ = some (.bool (sg (dmn kb))) ∧ W.cell? ⟨W5.heap.size, 1, none⟩ = some (.slice Xkb (nl (mg (dmn kb))) ckb) ∧ W.cell? ⟨W5.heap.size, 2, none⟩ = some (.int .i64 (dex kb)) ∧ W.cell? ⟨W8.heap.size, 0, none⟩ = some (.bool (sg (dmn kc))) ∧ W.cell? ⟨W8.heap.size, 1, none⟩ = some (.slice Xkc (nl (mg (dmn kc))) ckc) ∧ W.cell? ⟨W8.heap.size, 2, none⟩ = some (.int .i64 (dex kc)) ∧ W.cell? ⟨W11.heap.size, 0, none⟩ = some (.bool (sg (dmn kf))) ∧ W.cell? ⟨W11.heap.size, 1, none⟩ = some (.slice Xkf (nl (mg (dmn kf))) ckf) ∧ W.cell? ⟨W11.heap.size, 2, none⟩ = some (.int .i64 (dex kf)) ∧ W.cell? ⟨W14.heap.size, 0, none⟩ = some (.bool (sg (dmn kg))) ∧ W.cell? ⟨W14.heap.size, 1, none⟩ = some (.slice Xkg (nl (mg (dmn kg))) ckg) ∧ W.cell? ⟨W14.heap.size, 2, none⟩ = some (.int .i64 (dex kg)) ∧ W.cell? ⟨W17.heap.size, 0, none⟩ = some (.bool (sg (dmn kh))) ∧ W.cell? ⟨W17.heap.size, 1, none⟩ = some (.slice Xkh (nl (mg (dmn kh))) ckh) ∧ W.cell? ⟨W17.heap.size, 2, none⟩ = some (.int .i64 (dex kh)) ∧ W.cell? ⟨W20.heap.size, 0, none⟩ = some (.bool (sg (dmn ki))) ∧ W.cell? ⟨W20.heap.size, 1, none⟩ = some (.slice Xki (nl (mg (dmn ki))) cki) ∧ W.cell? ⟨W20.heap.size, 2, none⟩ = some (.int .i64 (dex ki)) ∧ W.cell? ⟨W26.heap.size, 0, none⟩ = some (.bool (sg (dmn kl))) ∧ W.cell? ⟨W26.heap.size, 1, none⟩ = some (.slice Xkl (nl (mg (dmn kl))) ckl) ∧ W.cell? ⟨W26.heap.size, 2, none⟩ = some (.int .i64 (dex kl)) := ⟨_, rfl⟩
  have HSq : S ((W29.alloc (.cells #[.bool (sg (dmn 0)), .slice Xn0 (nl (mg (dmn 0))) cn0, .int .i64 (dex 0)] 31))).drew := by rw [hS]; exact ⟨(Rka.c (i := 0) rfl), (Rka.c (i := 1) rfl), (Rka.c (i := 2) rfl), (Rkb.c (i := 0) rfl), (Rkb.c (i := 1) rfl), (Rkb.c (i := 2) rfl), (Rkc.c (i := 0) rfl), (Rkc.c (i := 1) rfl), (Rkc.c (i := 2) rfl), (Rkf.c (i := 0) rfl), (Rkf.c (i := 1) rfl), (Rkf.c (i := 2) rfl), (Rkg.c (i := 0) rfl), (Rkg.c (i := 1) rfl), (Rkg.c (i := 2) rfl), (Rkh.c (i := 0) rfl), (Rkh.c (i := 1) rfl), (Rkh.c (i := 2) rfl), (Rki.c (i := 0) rfl), (Rki.c (i := 1) rfl), (Rki.c (i := 2) rfl), (Rkl.c (i := 0) rfl), (Rkl.c (i := 1) rfl), (Rkl.c (i := 2) rfl)⟩
  have hSb : ∀ W W' : World, Below W.heap.size W W' → S W → S W' := by rw [hS]; exact fun W W' hb h => ⟨cell_below hb h.1, cell_below hb h.2.1, cell_below hb h.2.2.1, cell_below hb h.2.2.2.1, cell_below hb h.2.2.2.2.1, cell_below hb h.2.2.2.2.2.1, cell_below hb h.2.2.2.2.2.2.1, cell_below hb h.2.2.2.2.2.2.2.1, cell_below hb h.2.2.2.2.2.2.2.2.1, cell_below hb h.2.2.2.2.2.2.2.2.2.1, cell_below hb h.2.2.2.2.2.2.2.2.2.2.1, cell_below hb h.2.2.2.2.2.2.2.2.2.2.2.1, cell_below hb h.2.2.2.2.2.2.2.2.2.2.2.2.1, cell_below hb h.2.2.2.2.2.2.2.2.2.2.2.2.2.1, cell_below hb h.2.2.2.2.2.2.2.2.2.2.2.2.2.2.1, cell_below hb h.2.2.2.2.2.2.2.2.2.2.2.2.2.2.2.1, cell_below hb h.2.2.2.2.2.2.2.2.2.2.2.2.2.2.2.2.1, cell_below hb h.2.2.2.2.2.2.2.2.2.2.2.2.2.2.2.2.2.1, cell_below hb h.2.2.2.2.2.2.2.2.2.2.2.2.2.2.2.2.2.2.1, cell_below hb h.2.2.2.2.2.2.2.2.2.2.2.2.2.2.2.2.2.2.2.1, cell_below hb h.2.2.2.2.2.2.2.2.2.2.2.2.2.2.2.2.2.2.2.2.1, cell_below hb h.2.2.2.2.2.2.2.2.2.2.2.2.2.2.2.2.2.2.2.2.2.1, cell_below hb h.2.2.2.2.2.2.2.2.2.2.2.2.2.2.2.2.2.2.2.2.2.2.1, cell_below hb h.2.2.2.2.2.2.2.2.2.2.2.2.2.2.2.2.2.2.2.2.2.2.2⟩
  replace hSb := Lib.hid hSb
  replace hS := Lib.hid hS
  refine wp_region_seq S [(0, false), (1, false), (2, false), (3, false), (4, true), (7, true), (5, false), (6, false), (8, false), (9, true), (10, true), (11, false), (12, false), (13, true), (14, true), (15, false), (16, false), (17, true), (18, true), (19, true), (20, false), (21, false), (22, true), (23, true), (24, true), (25, false), (26, false), (27, true), (28, true), (29, true), (30, true), (31, false), (32, false), (33, true), (34, true), (35, true), (36, true), (37, true), (38, true), (39, true), (40, false), (41, false), (42, true), (43, true), (44, true), (45, false), (46, false), (47, true), (48, true), (49, true), (50, false), (51, false), (52, true), (53, true), (54, true), (55, false), (56, false), (57, true), (58, true), (59, true), (60, false), (61, false), (62, true), (63, true), (64, true), (65, false), (66, false), (67, true), (68, true), (69, true), (70, true), (71, true), (72, true), (73, true), (74, false), (75, false), (76, true), (77, true), (78, true), (79, true), (80, true), (81, true), (82, true), (83, true), (84, true), (85, true), (86, false), (87, false), (88, false), (89, false), (90, true), (91, true), (92, false), (93, false), (94, false), (95, false), (96, false), (97, true), (98, true), (99, false), (100, false), (101, false), (102, false), (103, false), (104, true), (105, true), (106, false), (107, false), (108, false), (109, true), (110, true), (111, true), (112, false), (113, false), (114, false), (115, false), (116, true), (117, true), (118, false), (119, false), (120, true), (121, true), (122, true)] (by kernel_rfl) (by kernel_rfl) (by kernel_rfl) HSq (fun hSq => ?_)
  clear hSq
  replace HSq := Lib.hid HSq
  clear Rka Rkb Rkc Rkf Rkg Rkh Rki Rkl
  refine SeqP.call rfl (by rfl) (fun Kq hKq => ?_)
  go_simp
  go_at_call 18
  with_reducible refine (cohz12 _).mono ?_
  rintro e W32 ⟨Xhz12_32, chz12_32, rfl, hhz12_32, hb32⟩
  replace hT := hT.below hb32
  replace hka := hka.below hb32
  replace hkb := hkb.below hb32
  replace hkc := hkc.below hb32
  replace hkf := hkf.below hb32
  replace hkg := hkg.below hb32
  replace hkh := hkh.below hb32
  replace hki := hki.below hb32
  replace hkl := hkl.below hb32
  replace HBT := Below.cons HBT hb32
  replace HSq := Lib.hid (hSb.out _ _ hb32 HSq.out)
  clear hb32
  refine hKq.out _ _ HSq.out (fun hSq => ?_)
  clear hSq hKq Kq
  try simp only [Act.put, List.setIfInBounds_toArray, List.set_cons_zero, List.set_cons_succ]
  refine SeqP.call rfl (by rfl) (fun Kq hKq => ?_)
  go_simp
  go_at_call 28
  with_reducible refine (hc9 _ _ _ hhz12_32 hT).mono ?_
  rintro e W33 ⟨Xhmhz12_33, chmhz12_33, rfl, hhmhz12_33, hb33⟩
  replace hT := hT.below hb33
  replace hka := hka.below hb33
  replace hkb := hkb.below hb33
  replace hkc := hkc.below hb33
  replace hkf := hkf.below hb33
  replace hkg := hkg.below hb33
  replace hkh := hkh.below hb33
  replace hki := hki.below hb33
  replace hkl := hkl.below hb33
  replace HBT := Below.cons HBT hb33
  replace HSq := Lib.hid (hSb.out _ _ hb33 HSq.out)
  clear hb33
  refine hKq.out _ _ HSq.out (fun hSq => ?_)
  clear hSq hKq Kq
  try simp only [Act.put, List.setIfInBounds_toArray, List.set_cons_zero, List.set_cons_succ]
  refine SeqP.call rfl (by rfl) (fun Kq hKq => ?_)
  go_simp
  go_at_call 76
  with_reducible refine (cohd3_1 _).mono ?_
  rintro e W34 ⟨Xhd3_1_34, chd3_1_34, rfl, hhd3_1_34, hb34⟩
  replace hT := hT.below hb34
  replace hka := hka.below hb34
  replace hkb := hkb.below hb34
  replace hkc := hkc.below hb34
  replace hkf := hkf.below hb34
  replace hkg := hkg.below hb34
  replace hkh := hkh.below hb34
  replace hki := hki.below hb34
  replace hkl := hkl.below hb34
  replace hhmhz12_33 := hhmhz12_33.below hb34
  replace HBT := Below.cons HBT hb34
  replace HSq := Lib.hid (hSb.out _ _ hb34 HSq.out)
  clear hb34
  refine hKq.out _ _ HSq.out (fun hSq => ?_)
  clear hSq hKq Kq
  try simp only [Act.put, List.setIfInBounds_toArray, List.set_cons_zero, List.set_cons_succ]
  refine SeqP.call rfl (by rfl) (fun Kq hKq => ?_)
  go_simp
  go_at_call 24
  with_reducible refine (hc10 _ _ _ _ _ hhmhz12_33 hhd3_1_34).mono ?_
  rintro e W35 ⟨rfl, hb35⟩
  replace hT := hT.below hb35
  replace hka := hka.below hb35
  replace hkb := hkb.below hb35
  replace hkc := hkc.below hb35
  replace hkf := hkf.below hb35
  replace hkg := hkg.below hb35
  replace hkh := hkh.below hb35
  replace hki := hki.below hb35
  replace hkl := hkl.below hb35
  replace HBT := Below.cons HBT hb35
  replace HSq := Lib.hid (hSb.out _ _ hb35 HSq.out)
  clear hb35
  refine hKq.out _ _ HSq.out (fun hSq => ?_)
  clear hSq hKq Kq
  try simp only [Act.put, List.setIfInBounds_toArray, List.set_cons_zero, List.set_cons_succ]
  refine SeqP.take (v := ?_) rfl (fun _ _ _ h => h) (Or.inl ⟨by rfl, ?_⟩) ?_
  rotate_left 1
  · intro wq hSw; rw [hS.out] at hSw; (try dsimp only at hSw); go_simp; try with_reducible rfl
  try simp only [Act.put, List.setIfInBounds_toArray, List.set_cons_zero, List.set_cons_succ]
  refine SeqP.take (v := ?_) rfl (fun _ _ _ h => h) (Or.inl ⟨by rfl, ?_⟩) ?_
  rotate_left 1
  · intro wq hSw; rw [hS.out] at hSw; (try dsimp only at hSw); go_simp; try with_reducible rfl
  try simp only [Act.put, List.setIfInBounds_toArray, List.set_cons_zero, List.set_cons_succ]
  refine SeqP.call rfl (by rfl) (fun Kq hKq => ?_)
  go_simp
  go_at_call 18
  with_reducible refine (cohz0 _).mono ?_
  rintro e W36 ⟨Xhz0_36, chz0_36, rfl, hhz0_36, hb36⟩
  replace hT := hT.below hb36
  replace hka := hka.below hb36
  replace hkb := hkb.below hb36
  replace hkc := hkc.below hb36
  replace hkf := hkf.below hb36
  replace hkg := hkg.below hb36
  replace hkh := hkh.below hb36
  replace hki := hki.below hb36
  replace hkl := hkl.below hb36
  replace HBT := Below.cons HBT hb36
  replace HSq := Lib.hid (hSb.out _ _ hb36 HSq.out)
  clear hb36
  refine hKq.out _ _ HSq.out (fun hSq => ?_)
  clear hSq hKq Kq
  try simp only [Act.put, List.setIfInBounds_toArray, List.set_cons_zero, List.set_cons_succ]
  refine SeqP.call rfl (by rfl) (fun Kq hKq => ?_)
  go_simp
  go_at_call 28
  with_reducible refine (hc11 _ _ _ hhz0_36 hT).mono ?_
  rintro e W37 ⟨Xhmhz0_37, chmhz0_37, rfl, hhmhz0_37, hb37⟩
  replace hT := hT.below hb37
  replace hka := hka.below hb37
  replace hkb := hkb.below hb37
  replace hkc := hkc.below hb37
  replace hkf := hkf.below hb37
  replace hkg := hkg.below hb37
  replace hkh := hkh.below hb37
  replace hki := hki.below hb37
  replace hkl := hkl.below hb37
  replace HBT := Below.cons HBT hb37
  replace HSq := Lib.hid (hSb.out _ _ hb37 HSq.out)
  clear hb37
  refine hKq.out _ _ HSq.out (fun hSq => ?_)
  clear hSq hKq Kq
  try simp only [Act.put, List.setIfInBounds_toArray, List.set_cons_zero, List.set_cons_succ]
  refine SeqP.call rfl (by rfl) (fun Kq hKq => ?_)
  go_simp
  go_at_call 24
  with_reducible refine (hc12 _ _ _ hhmhz0_37).mono ?_
  rintro e W38 ⟨rfl, hb38⟩
  replace hT := hT.below hb38
  replace hka := hka.below hb38
  replace hkb := hkb.below hb38
  replace hkc := hkc.below hb38
  replace hkf := hkf.below hb38
  replace hkg := hkg.below hb38
  replace hkh := hkh.below hb38
  replace hki := hki.below hb38
  replace hkl := hkl.below hb38
  replace HBT := Below.cons HBT hb38
  replace HSq := Lib.hid (hSb.out _ _ hb38 HSq.out)
  clear hb38
  refine hKq.out _ _ HSq.out (fun hSq => ?_)
  clear hSq hKq Kq
  try simp only [Act.put, List.setIfInBounds_toArray, List.set_cons_zero, List.set_cons_succ]
  refine SeqP.take (v := ?_) rfl (fun _ _ _ h => h) (Or.inl ⟨by rfl, ?_⟩) ?_
  rotate_left 1
  · intro wq hSw; rw [hS.out] at hSw; (try dsimp only at hSw); go_simp; try with_reducible rfl
  try simp only [Act.put, List.setIfInBounds_toArray, List.set_cons_zero, List.set_cons_succ]
  refine SeqP.take (v := ?_) rfl (fun _ _ _ h => h) (Or.inl ⟨by rfl, ?_⟩) ?_
  rotate_left 1
  · intro wq hSw; rw [hS.out] at hSw; (try dsimp only at hSw); go_simp; try with_reducible rfl
  try simp only [Act.put, List.setIfInBounds_toArray, List.set_cons_zero, List.set_cons_succ]
  refine SeqP.call rfl (by rfl) (fun Kq hKq => ?_)
  go_simp
  go_at_call 76
  with_reducible refine (cohd3_1 _).mono ?_
  rintro e W39 ⟨Xhd3_1_39, chd3_1_39, rfl, hhd3_1_39, hb39⟩
  replace hT := hT.below hb39
  replace hka := hka.below hb39
  replace hkb := hkb.below hb39
  replace hkc := hkc.below hb39
  replace hkf := hkf.below hb39
  replace hkg := hkg.below hb39
  replace hkh := hkh.below hb39
  replace hki := hki.below hb39
  replace hkl := hkl.below hb39
  replace HBT := Below.cons HBT hb39
  replace HSq := Lib.hid (hSb.out _ _ hb39 HSq.out)
  clear hb39
  refine hKq.out _ _ HSq.out (fun hSq => ?_)
  clear hSq hKq Kq
  try simp only [Act.put, List.setIfInBounds_toArray, List.set_cons_zero, List.set_cons_succ]
  refine SeqP.call rfl (by rfl) (fun Kq hKq => ?_)
  go_simp
  go_at_call 25
  with_reducible refine (hc13 _ _ _ hhd3_1_39).mono ?_
  rintro e W40 ⟨rfl, hb40⟩
  replace hT := hT.below hb40
  replace hka := hka.below hb40
  replace hkb := hkb.below hb40
  replace hkc := hkc.below hb40
  replace hkf := hkf.below hb40
  replace hkg := hkg.below hb40
  replace hkh := hkh.below hb40
  replace hki := hki.below hb40
  replace hkl := hkl.below hb40
  replace HBT := Below.cons HBT hb40
  replace HSq := Lib.hid (hSb.out _ _ hb40 HSq.out)
  clear hb40
  refine hKq.out _ _ HSq.out (fun hSq => ?_)
  clear hSq hKq Kq
  try simp only [Act.put, List.setIfInBounds_toArray, List.set_cons_zero, List.set_cons_succ]
  refine SeqP.take (v := ?_) rfl (fun _ _ _ h => h) (Or.inl ⟨by rfl, ?_⟩) ?_
  rotate_left 1
  · intro wq hSw; rw [hS.out] at hSw; (try dsimp only at hSw); go_simp; try with_reducible rfl
  try simp only [Act.put, List.setIfInBounds_toArray, List.set_cons_zero, List.set_cons_succ]
  refine SeqP.take (v := ?_) rfl (fun _ _ _ h => h) (Or.inl ⟨by rfl, ?_⟩) ?_
  rotate_left 1
  · intro wq hSw; rw [hS.out] at hSw; (try dsimp only at hSw); go_simp; try with_reducible rfl
  try simp only [Act.put, List.setIfInBounds_toArray, List.set_cons_zero, List.set_cons_succ]
  refine SeqP.call rfl (by rfl) (fun Kq hKq => ?_)
  go_simp
  go_at_call 76
  with_reducible refine (cohr2_0 _).mono ?_
  rintro e W41 ⟨Xhr2_0_41, chr2_0_41, rfl, hhr2_0_41, hb41⟩
  replace hT := hT.below hb41
  replace hka := hka.below hb41
  replace hkb := hkb.below hb41
  replace hkc := hkc.below hb41
  replace hkf := hkf.below hb41
  replace hkg := hkg.below hb41
  replace hkh := hkh.below hb41
  replace hki := hki.below hb41
  replace hkl := hkl.below hb41
  replace HBT := Below.cons HBT hb41
  replace HSq := Lib.hid (hSb.out _ _ hb41 HSq.out)
  clear hb41
  refine hKq.out _ _ HSq.out (fun hSq => ?_)
  clear hSq hKq Kq
  try simp only [Act.put, List.setIfInBounds_toArray, List.set_cons_zero, List.set_cons_succ]
  refine SeqP.call rfl (by rfl) (fun Kq hKq => ?_)
  go_simp
  go_at_call 25
  with_reducible refine (hc14 _ _ _ hhr2_0_41).mono ?_
  rintro e W42 ⟨rfl, hb42⟩
  replace hT := hT.below hb42
  replace hka := hka.below hb42
  replace hkb := hkb.below hb42
  replace hkc := hkc.below hb42
  replace hkf := hkf.below hb42
  replace hkg := hkg.below hb42
  replace hkh := hkh.below hb42
  replace hki := hki.below hb42
  replace hkl := hkl.below hb42
  replace HBT := Below.cons HBT hb42
  replace HSq := Lib.hid (hSb.out _ _ hb42 HSq.out)
  clear hb42
  refine hKq.out _ _ HSq.out (fun hSq => ?_)
  clear hSq hKq Kq
  try simp only [Act.put, List.setIfInBounds_toArray, List.set_cons_zero, List.set_cons_succ]
  refine SeqP.take (v := ?_) rfl (fun _ _ _ h => h) (Or.inl ⟨by rfl, ?_⟩) ?_
  rotate_left 1
  · intro wq hSw; rw [hS.out] at hSw; (try dsimp only at hSw); go_simp; try with_reducible rfl
  try simp only [Act.put, List.setIfInBounds_toArray, List.set_cons_zero, List.set_cons_succ]
  refine SeqP.take (v := ?_) rfl (fun _ _ _ h => h) (Or.inl ⟨by rfl, ?_⟩) ?_
  rotate_left 1
  · intro wq hSw; rw [hS.out] at hSw; (try dsimp only at hSw); go_simp; try with_reducible rfl
  try simp only [Act.put, List.setIfInBounds_toArray, List.set_cons_zero, List.set_cons_succ]
  refine SeqP.take (v := ?_) rfl (fun _ _ _ h => h) (Or.inl ⟨by rfl, ?_⟩) ?_
  rotate_left 1
  · intro wq hSw; rw [hS.out] at hSw; (try dsimp only at hSw); go_simp; try with_reducible rfl
  try simp only [Act.put, List.setIfInBounds_toArray, List.set_cons_zero, List.set_cons_succ]
  refine SeqP.call rfl (by rfl) (fun Kq hKq => ?_)
  go_simp
  go_at_call 76
  with_reducible refine (cohr0_1 _).mono ?_
  rintro e W43 ⟨Xhr0_1_43, chr0_1_43, rfl, hhr0_1_43, hb43⟩
  replace hT := hT.below hb43
  replace hka := hka.below hb43
  replace hkb := hkb.below hb43
  replace hkc := hkc.below hb43
  replace hkf := hkf.below hb43
  replace hkg := hkg.below hb43
  replace hkh := hkh.below hb43
  replace hki := hki.below hb43
  replace hkl := hkl.below hb43
  replace HBT := Below.cons HBT hb43
  replace HSq := Lib.hid (hSb.out _ _ hb43 HSq.out)
  clear hb43
  refine hKq.out _ _ HSq.out (fun hSq => ?_)
  clear hSq hKq Kq
  try simp only [Act.put, List.setIfInBounds_toArray, List.set_cons_zero, List.set_cons_succ]
  refine SeqP.call rfl (by rfl) (fun Kq hKq => ?_)
  go_simp
  go_at_call 25
  with_reducible refine (hc15 _ _ _ hhr0_1_43).mono ?_
  rintro e W44 ⟨rfl, hb44⟩
  replace hT := hT.below hb44
  replace hka := hka.below hb44
  replace hkb := hkb.below hb44
  replace hkc := hkc.below hb44
  replace hkf := hkf.below hb44
  replace hkg := hkg.below hb44
  replace hkh := hkh.below hb44
  replace hki := hki.below hb44
  replace hkl := hkl.below hb44
  replace HBT := Below.cons HBT hb44
  replace HSq := Lib.hid (hSb.out _ _ hb44 HSq.out)
  clear hb44
  refine hKq.out _ _ HSq.out (fun hSq => ?_)
  clear hSq hKq Kq
  try simp only [Act.put, List.setIfInBounds_toArray, List.set_cons_zero, List.set_cons_succ]
  refine SeqP.take (v := ?_) rfl (fun _ _ _ h => h) (Or.inl ⟨by rfl, ?_⟩) ?_
  rotate_left 1
  · intro wq hSw; rw [hS.out] at hSw; (try dsimp only at hSw); go_simp; try with_reducible rfl
  try simp only [Act.put, List.setIfInBounds_toArray, List.set_cons_zero, List.set_cons_succ]
  refine SeqP.take (v := ?_) rfl (fun _ _ _ h => h) (Or.inl ⟨by rfl, ?_⟩) ?_
  rotate_left 1
  · intro wq hSw; rw [hS.out] at hSw; (try dsimp only at hSw); go_simp; try with_reducible rfl
  try simp only [Act.put, List.setIfInBounds_toArray, List.set_cons_zero, List.set_cons_succ]
  refine SeqP.take (v := ?_) rfl (fun _ _ _ h => h) (Or.inl ⟨by rfl, ?_⟩) ?_
  rotate_left 1
  · intro wq hSw; rw [hS.out] at hSw; (try dsimp only at hSw); go_simp; try with_reducible rfl
  try simp only [Act.put, List.setIfInBounds_toArray, List.set_cons_zero, List.set_cons_succ]
  refine SeqP.call rfl (by rfl) (fun Kq hKq => ?_)
  go_simp
  go_at_call 76
  with_reducible refine (cohr1_100001 _).mono ?_
  rintro e W45 ⟨Xhr1_100001_45, chr1_100001_45, rfl, hhr1_100001_45, hb45⟩
  replace hT := hT.below hb45
  replace hka := hka.below hb45
  replace hkb := hkb.below hb45
  replace hkc := hkc.below hb45
  replace hkf := hkf.below hb45
  replace hkg := hkg.below hb45
  replace hkh := hkh.below hb45
  replace hki := hki.below hb45
  replace hkl := hkl.below hb45
  replace HBT := Below.cons HBT hb45
  replace HSq := Lib.hid (hSb.out _ _ hb45 HSq.out)
  clear hb45
  refine hKq.out _ _ HSq.out (fun hSq => ?_)
  clear hSq hKq Kq
  try simp only [Act.put, List.setIfInBounds_toArray, List.set_cons_zero, List.set_cons_succ]
  refine SeqP.call rfl (by rfl) (fun Kq hKq => ?_)
  go_simp
  go_at_call 25
  with_reducible refine (hc16 _ _ _ hhr1_100001_45).mono ?_
  rintro e W46 ⟨rfl, hb46⟩
  replace hT := hT.below hb46
  replace hka := hka.below hb46
  replace hkb := hkb.below hb46
  replace hkc := hkc.below hb46
  replace hkf := hkf.below hb46
  replace hkg := hkg.below hb46
  replace hkh := hkh.below hb46
  replace hki := hki.below hb46
  replace hkl := hkl.below hb46
  replace HBT := Below.cons HBT hb46
  replace HSq := Lib.hid (hSb.out _ _ hb46 HSq.out)
  clear hb46
  refine hKq.out _ _ HSq.out (fun hSq => ?_)
  clear hSq hKq Kq
  try simp only [Act.put, List.setIfInBounds_toArray, List.set_cons_zero, List.set_cons_succ]
  refine SeqP.take (v := ?_) rfl (fun _ _ _ h => h) (Or.inl ⟨by rfl, ?_⟩) ?_
  rotate_left 1
  · intro wq hSw; rw [hS.out] at hSw; (try dsimp only at hSw); go_simp; try with_reducible rfl
  try simp only [Act.put, List.setIfInBounds_toArray, List.set_cons_zero, List.set_cons_succ]
  refine SeqP.take (v := ?_) rfl (fun _ _ _ h => h) (Or.inl ⟨by rfl, ?_⟩) ?_
  rotate_left 1
  · intro wq hSw; rw [hS.out] at hSw; (try dsimp only at hSw); go_simp; try with_reducible rfl
  try simp only [Act.put, List.setIfInBounds_toArray, List.set_cons_zero, List.set_cons_succ]
  refine SeqP.take (v := ?_) rfl (fun _ _ _ h => h) (Or.inl ⟨by rfl, ?_⟩) ?_
  rotate_left 1
  · intro wq hSw; rw [hS.out] at hSw; (try dsimp only at hSw); go_simp; try with_reducible rfl
  try simp only [Act.put, List.setIfInBounds_toArray, List.set_cons_zero, List.set_cons_succ]
  refine SeqP.take (v := ?_) rfl (fun _ _ _ h => h) (Or.inl ⟨by rfl, ?_⟩) ?_
  rotate_left 1
  · intro wq hSw; rw [hS.out] at hSw; (try dsimp only at hSw); go_simp; try with_reducible rfl
  try simp only [Act.put, List.setIfInBounds_toArray, List.set_cons_zero, List.set_cons_succ]
  refine SeqP.call rfl (by rfl) (fun Kq hKq => ?_)
  go_simp
  go_at_call 76
  with_reducible refine (cohd1_n2 _).mono ?_
  rintro e W47 ⟨Xhd1_n2_47, chd1_n2_47, rfl, hhd1_n2_47, hb47⟩
  replace hT := hT.below hb47
  replace hka := hka.below hb47
  replace hkb := hkb.below hb47
  replace hkc := hkc.below hb47
  replace hkf := hkf.below hb47
  replace hkg := hkg.below hb47
  replace hkh := hkh.below hb47
  replace hki := hki.below hb47
  replace hkl := hkl.below hb47
  replace HBT := Below.cons HBT hb47
  replace HSq := Lib.hid (hSb.out _ _ hb47 HSq.out)
  clear hb47
  refine hKq.out _ _ HSq.out (fun hSq => ?_)
  clear hSq hKq Kq
  try simp only [Act.put, List.setIfInBounds_toArray, List.set_cons_zero, List.set_cons_succ]
  refine SeqP.call rfl (by rfl) (fun Kq hKq => ?_)
  go_simp
  go_at_call 24
  with_reducible refine (hc17 _ _ _ _ _ hka hhd1_n2_47).mono ?_
  rintro e W48 ⟨rfl, hb48⟩
  replace hT := hT.below hb48
  replace hkb := hkb.below hb48
  replace hkc := hkc.below hb48
  replace hkf := hkf.below hb48
  replace hkg := hkg.below hb48
  replace hkh := hkh.below hb48
  replace hki := hki.below hb48
  replace hkl := hkl.below hb48
  replace HBT := Below.cons HBT hb48
  replace HSq := Lib.hid (hSb.out _ _ hb48 HSq.out)
  clear hb48
  refine hKq.out _ _ HSq.out (fun hSq => ?_)
  clear hSq hKq Kq
  try simp only [Act.put, List.setIfInBounds_toArray, List.set_cons_zero, List.set_cons_succ]
  refine SeqP.take (v := ?_) rfl (fun _ _ _ h => h) (Or.inl ⟨by rfl, ?_⟩) ?_
  rotate_left 1
  · intro wq hSw; rw [hS.out] at hSw; (try dsimp only at hSw); go_simp; try with_reducible rfl
  try simp only [Act.put, List.setIfInBounds_toArray, List.set_cons_zero, List.set_cons_succ]
  refine SeqP.take (v := ?_) rfl (fun _ _ _ h => h) (Or.inl ⟨by rfl, ?_⟩) ?_
  rotate_left 1
  · intro wq hSw; rw [hS.out] at hSw; (try dsimp only at hSw); go_simp; try with_reducible rfl
  try simp only [Act.put, List.setIfInBounds_toArray, List.set_cons_zero, List.set_cons_succ]
  refine SeqP.take (v := ?_) rfl (fun _ _ _ h => h) (Or.inl ⟨by rfl, ?_⟩) ?_
  rotate_left 1
  · intro wq hSw; rw [hS.out] at hSw; (try dsimp only at hSw); go_simp; try with_reducible rfl
  try simp only [Act.put, List.setIfInBounds_toArray, List.set_cons_zero, List.set_cons_succ]
  refine SeqP.take (v := ?_) rfl (fun _ _ _ h => h) (Or.inl ⟨by rfl, ?_⟩) ?_
  rotate_left 1
  · intro wq hSw; rw [hS.out] at hSw; (try dsimp only at hSw); go_simp; try with_reducible rfl
  try simp only [Act.put, List.setIfInBounds_toArray, List.set_cons_zero, List.set_cons_succ]
  refine SeqP.take (v := ?_) rfl (fun _ _ _ h => h) (Or.inl ⟨by rfl, ?_⟩) ?_
  rotate_left 1
  · intro wq hSw; rw [hS.out] at hSw; (try dsimp only at hSw); go_simp; try with_reducible rfl
  try simp only [Act.put, List.setIfInBounds_toArray, List.set_cons_zero, List.set_cons_succ]
  refine SeqP.take (v := ?_) rfl (fun _ _ _ h => h) (Or.inl ⟨by rfl, ?_⟩) ?_
  rotate_left 1
  · intro wq hSw; rw [hS.out] at hSw; (try dsimp only at hSw); go_simp; try with_reducible rfl
  try simp only [Act.put, List.setIfInBounds_toArray, List.set_cons_zero, List.set_cons_succ]
  refine SeqP.take (v := ?_) rfl (fun _ _ _ h => h) (Or.inl ⟨by rfl, ?_⟩) ?_
  rotate_left 1
  · intro wq hSw; rw [hS.out] at hSw; (try dsimp only at hSw); go_simp; try with_reducible rfl
  try simp only [Act.put, List.setIfInBounds_toArray, List.set_cons_zero, List.set_cons_succ]
  refine SeqP.call rfl (by rfl) (fun Kq hKq => ?_)
  go_simp
  go_at_call 76
  with_reducible refine (cohd1_n1 _).mono ?_
  rintro e W49 ⟨Xhd1_n1_49, chd1_n1_49, rfl, hhd1_n1_49, hb49⟩
  replace hT := hT.below hb49
  replace hkb := hkb.below hb49
  replace hkc := hkc.below hb49
  replace hkf := hkf.below hb49
  replace hkg := hkg.below hb49
  replace hkh := hkh.below hb49
  replace hki := hki.below hb49
  replace hkl := hkl.below hb49
  replace HBT := Below.cons HBT hb49
  replace HSq := Lib.hid (hSb.out _ _ hb49 HSq.out)
  clear hb49
  refine hKq.out _ _ HSq.out (fun hSq => ?_)
  clear hSq hKq Kq
  try simp only [Act.put, List.setIfInBounds_toArray, List.set_cons_zero, List.set_cons_succ]
  refine SeqP.call rfl (by rfl) (fun Kq hKq => ?_)
  go_simp
  go_at_call 24
  with_reducible refine (hc18 _ _ _ _ _ hkb hhd1_n1_49).mono ?_
  rintro e W50 ⟨rfl, hb50⟩
  replace hT := hT.below hb50
  replace hkc := hkc.below hb50
  replace hkf := hkf.below hb50
  replace hkg := hkg.below hb50
  replace hkh := hkh.below hb50
  replace hki := hki.below hb50
  replace hkl := hkl.below hb50
  replace HBT := Below.cons HBT hb50
  replace HSq := Lib.hid (hSb.out _ _ hb50 HSq.out)
  clear hb50
  refine hKq.out _ _ HSq.out (fun hSq => ?_)
  clear hSq hKq Kq
  try simp only [Act.put, List.setIfInBounds_toArray, List.set_cons_zero, List.set_cons_succ]
  refine SeqP.take (v := ?_) rfl (fun _ _ _ h => h) (Or.inl ⟨by rfl, ?_⟩) ?_
  rotate_left 1
  · intro wq hSw; rw [hS.out] at hSw; (try dsimp only at hSw); go_simp; try with_reducible rfl
  try simp only [Act.put, List.setIfInBounds_toArray, List.set_cons_zero, List.set_cons_succ]
  refine SeqP.take (v := ?_) rfl (fun _ _ _ h => h) (Or.inl ⟨by rfl, ?_⟩) ?_
  rotate_left 1
  · intro wq hSw; rw [hS.out] at hSw; (try dsimp only at hSw); go_simp; try with_reducible rfl
  try simp only [Act.put, List.setIfInBounds_toArray, List.set_cons_zero, List.set_cons_succ]
  refine SeqP.take (v := ?_) rfl (fun _ _ _ h => h) (Or.inl ⟨by rfl, ?_⟩) ?_
  rotate_left 1
  · intro wq hSw; rw [hS.out] at hSw; (try dsimp only at hSw); go_simp; try with_reducible rfl
  try simp only [Act.put, List.setIfInBounds_toArray, List.set_cons_zero, List.set_cons_succ]
  refine SeqP.call rfl (by rfl) (fun Kq hKq => ?_)
  go_simp
  go_at_call 76
  with_reducible refine (cohd1_n2 _).mono ?_
  rintro e W51 ⟨Xhd1_n2_51, chd1_n2_51, rfl, hhd1_n2_51, hb51⟩
  replace hT := hT.below hb51
  replace hkc := hkc.below hb51
  replace hkf := hkf.below hb51
  replace hkg := hkg.below hb51
  replace hkh := hkh.below hb51
  replace hki := hki.below hb51
  replace hkl := hkl.below hb51
  replace HBT := Below.cons HBT hb51
  replace HSq := Lib.hid (hSb.out _ _ hb51 HSq.out)
  clear hb51
  refine hKq.out _ _ HSq.out (fun hSq => ?_)
  clear hSq hKq Kq
  try simp only [Act.put, List.setIfInBounds_toArray, List.set_cons_zero, List.set_cons_succ]
  refine SeqP.call rfl (by rfl) (fun Kq hKq => ?_)
  go_simp
  go_at_call 24
  with_reducible refine (hc19 _ _ _ _ _ hkc hhd1_n2_51).mono ?_
  rintro e W52 ⟨rfl, hb52⟩
  replace hT := hT.below hb52
  replace hkf := hkf.below hb52
  replace hkg := hkg.below hb52
  replace hkh := hkh.below hb52
  replace hki := hki.below hb52
  replace hkl := hkl.below hb52
  replace HBT := Below.cons HBT hb52
  replace HSq := Lib.hid (hSb.out _ _ hb52 HSq.out)
  clear hb52
  refine hKq.out _ _ HSq.out (fun hSq => ?_)
  clear hSq hKq Kq
  try simp only [Act.put, List.setIfInBounds_toArray, List.set_cons_zero, List.set_cons_succ]
  refine SeqP.take (v := ?_) rfl (fun _ _ _ h => h) (Or.inl ⟨by rfl, ?_⟩) ?_
  rotate_left 1
  · intro wq hSw; rw [hS.out] at hSw; (try dsimp only at hSw); go_simp; try with_reducible rfl
  try simp only [Act.put, List.setIfInBounds_toArray, List.set_cons_zero, List.set_cons_succ]
  refine SeqP.take (v := ?_) rfl (fun _ _ _ h => h) (Or.inl ⟨by rfl, ?_⟩) ?_
  rotate_left 1
  · intro wq hSw; rw [hS.out] at hSw; (try dsimp only at hSw); go_simp; try with_reducible rfl
  try simp only [Act.put, List.setIfInBounds_toArray, List.set_cons_zero, List.set_cons_succ]
  refine SeqP.take (v := ?_) rfl (fun _ _ _ h => h) (Or.inl ⟨by rfl, ?_⟩) ?_
  rotate_left 1
  · intro wq hSw; rw [hS.out] at hSw; (try dsimp only at hSw); go_simp; try with_reducible rfl
  try simp only [Act.put, List.setIfInBounds_toArray, List.set_cons_zero, List.set_cons_succ]
  refine SeqP.call rfl (by rfl) (fun Kq hKq => ?_)
  go_simp
  go_at_call 76
  with_reducible refine (cohd1_n1 _).mono ?_
  rintro e W53 ⟨Xhd1_n1_53, chd1_n1_53, rfl, hhd1_n1_53, hb53⟩
  replace hT := hT.below hb53
  replace hkf := hkf.below hb53
  replace hkg := hkg.below hb53
  replace hkh := hkh.below hb53
  replace hki := hki.below hb53
  replace hkl := hkl.below hb53
  replace HBT := Below.cons HBT hb53
  replace HSq := Lib.hid (hSb.out _ _ hb53 HSq.out)
  clear hb53
  refine hKq.out _ _ HSq.out (fun hSq => ?_)
  clear hSq hKq Kq
  try simp only [Act.put, List.setIfInBounds_toArray, List.set_cons_zero, List.set_cons_succ]
  refine SeqP.call rfl (by rfl) (fun Kq hKq => ?_)
  go_simp
  go_at_call 24
  with_reducible refine (hc20 _ _ _ _ _ hkf hhd1_n1_53).mono ?_
  rintro e W54 ⟨rfl, hb54⟩
  replace hT := hT.below hb54
  replace hkg := hkg.below hb54
  replace hkh := hkh.below hb54
  replace hki := hki.below hb54
  replace hkl := hkl.below hb54
  replace HBT := Below.cons HBT hb54
  replace HSq := Lib.hid (hSb.out _ _ hb54 HSq.out)
  clear hb54
  refine hKq.out _ _ HSq.out (fun hSq => ?_)
  clear hSq hKq Kq
  try simp only [Act.put, List.setIfInBounds_toArray, List.set_cons_zero, List.set_cons_succ]
  refine SeqP.take (v := ?_) rfl (fun _ _ _ h => h) (Or.inl ⟨by rfl, ?_⟩) ?_
  rotate_left 1
  · intro wq hSw; rw [hS.out] at hSw; (try dsimp only at hSw); go_simp; try with_reducible rfl
  try simp only [Act.put, List.setIfInBounds_toArray, List.set_cons_zero, List.set_cons_succ]
  refine SeqP.take (v := ?_) rfl (fun _ _ _ h => h) (Or.inl ⟨by rfl, ?_⟩) ?_
  rotate_left 1
  · intro wq hSw; rw [hS.out] at hSw; (try dsimp only at hSw); go_simp; try with_reducible rfl
  try simp only [Act.put, List.setIfInBounds_toArray, List.set_cons_zero, List.set_cons_succ]
  refine SeqP.take (v := ?_) rfl (fun _ _ _ h => h) (Or.inl ⟨by rfl, ?_⟩) ?_
  rotate_left 1
  · intro wq hSw; rw [hS.out] at hSw; (try dsimp only at hSw); go_simp; try with_reducible rfl
  try simp only [Act.put, List.setIfInBounds_toArray, List.set_cons_zero, List.set_cons_succ]
  refine SeqP.call rfl (by rfl) (fun Kq hKq => ?_)
  go_simp
  go_at_call 76
  with_reducible refine (cohd1_n1 _).mono ?_
  rintro e W55 ⟨Xhd1_n1_55, chd1_n1_55, rfl, hhd1_n1_55, hb55⟩
  replace hT := hT.below hb55
  replace hkg := hkg.below hb55
  replace hkh := hkh.below hb55
  replace hki := hki.below hb55
  replace hkl := hkl.below hb55
  replace HBT := Below.cons HBT hb55
  replace HSq := Lib.hid (hSb.out _ _ hb55 HSq.out)
  clear hb55
  refine hKq.out _ _ HSq.out (fun hSq => ?_)
  clear hSq hKq Kq
  try simp only [Act.put, List.setIfInBounds_toArray, List.set_cons_zero, List.set_cons_succ]
  refine SeqP.call rfl (by rfl) (fun Kq hKq => ?_)
  go_simp
  go_at_call 24
  with_reducible refine (hc21 _ _ _ _ _ hkg hhd1_n1_55).mono ?_
  rintro e W56 ⟨rfl, hb56⟩
  replace hT := hT.below hb56
  replace hkh := hkh.below hb56
  replace hki := hki.below hb56
  replace hkl := hkl.below hb56
  replace HBT := Below.cons HBT hb56
  replace HSq := Lib.hid (hSb.out _ _ hb56 HSq.out)
  clear hb56
  refine hKq.out _ _ HSq.out (fun hSq => ?_)
  clear hSq hKq Kq
  try simp only [Act.put, List.setIfInBounds_toArray, List.set_cons_zero, List.set_cons_succ]
  refine SeqP.take (v := ?_) rfl (fun _ _ _ h => h) (Or.inl ⟨by rfl, ?_⟩) ?_
  rotate_left 1
  · intro wq hSw; rw [hS.out] at hSw; (try dsimp only at hSw); go_simp; try with_reducible rfl
  try simp only [Act.put, List.setIfInBounds_toArray, List.set_cons_zero, List.set_cons_succ]
  refine SeqP.take (v := ?_) rfl (fun _ _ _ h => h) (Or.inl ⟨by rfl, ?_⟩) ?_
  rotate_left 1
  · intro wq hSw; rw [hS.out] at hSw; (try dsimp only at hSw); go_simp; try with_reducible rfl
  try simp only [Act.put, List.setIfInBounds_toArray, List.set_cons_zero, List.set_cons_succ]
  refine SeqP.take (v := ?_) rfl (fun _ _ _ h => h) (Or.inl ⟨by rfl, ?_⟩) ?_
  rotate_left 1
  · intro wq hSw; rw [hS.out] at hSw; (try dsimp only at hSw); go_simp; try with_reducible rfl
  try simp only [Act.put, List.setIfInBounds_toArray, List.set_cons_zero, List.set_cons_succ]
  refine SeqP.call rfl (by rfl) (fun Kq hKq => ?_)
  go_simp
  go_at_call 76
  with_reducible refine (cohdn1_n2 _).mono ?_
  rintro e W57 ⟨Xhdn1_n2_57, chdn1_n2_57, rfl, hhdn1_n2_57, hb57⟩
  replace hT := hT.below hb57
  replace hkh := hkh.below hb57
  replace hki := hki.below hb57
  replace hkl := hkl.below hb57
  replace HBT := Below.cons HBT hb57
  replace HSq := Lib.hid (hSb.out _ _ hb57 HSq.out)
  clear hb57
  refine hKq.out _ _ HSq.out (fun hSq => ?_)
  clear hSq hKq Kq
  try simp only [Act.put, List.setIfInBounds_toArray, List.set_cons_zero, List.set_cons_succ]
  refine SeqP.call rfl (by rfl) (fun Kq hKq => ?_)
  go_simp
  go_at_call 24
  with_reducible refine (hc22 _ _ _ _ _ hkh hhdn1_n2_57).mono ?_
  rintro e W58 ⟨rfl, hb58⟩
  replace hT := hT.below hb58
  replace hki := hki.below hb58
  replace hkl := hkl.below hb58
  replace HBT := Below.cons HBT hb58
  replace HSq := Lib.hid (hSb.out _ _ hb58 HSq.out)
  clear hb58
  refine hKq.out _ _ HSq.out (fun hSq => ?_)
  clear hSq hKq Kq
  try simp only [Act.put, List.setIfInBounds_toArray, List.set_cons_zero, List.set_cons_succ]
  refine SeqP.take (v := ?_) rfl (fun _ _ _ h => h) (Or.inl ⟨by rfl, ?_⟩) ?_
  rotate_left 1
  · intro wq hSw; rw [hS.out] at hSw; (try dsimp only at hSw); go_simp; try with_reducible rfl
  try simp only [Act.put, List.setIfInBounds_toArray, List.set_cons_zero, List.set_cons_succ]
  refine SeqP.take (v := ?_) rfl (fun _ _ _ h => h) (Or.inl ⟨by rfl, ?_⟩) ?_
  rotate_left 1
  · intro wq hSw; rw [hS.out] at hSw; (try dsimp only at hSw); go_simp; try with_reducible rfl
  try simp only [Act.put, List.setIfInBounds_toArray, List.set_cons_zero, List.set_cons_succ]
  refine SeqP.take (v := ?_) rfl (fun _ _ _ h => h) (Or.inl ⟨by rfl, ?_⟩) ?_
  rotate_left 1
  · intro wq hSw; rw [hS.out] at hSw; (try dsimp only at hSw); go_simp; try with_reducible rfl
  try simp only [Act.put, List.setIfInBounds_toArray, List.set_cons_zero, List.set_cons_succ]
  refine SeqP.call rfl (by rfl) (fun Kq hKq => ?_)
  go_simp
  go_at_call 76
  with_reducible refine (cohdn1_n1 _).mono ?_
  rintro e W59 ⟨Xhdn1_n1_59, chdn1_n1_59, rfl, hhdn1_n1_59, hb59⟩
  replace hT := hT.below hb59
  replace hki := hki.below hb59
  replace hkl := hkl.below hb59
  replace HBT := Below.cons HBT hb59
  replace HSq := Lib.hid (hSb.out _ _ hb59 HSq.out)
  clear hb59
  refine hKq.out _ _ HSq.out (fun hSq => ?_)
  clear hSq hKq Kq
  try simp only [Act.put, List.setIfInBounds_toArray, List.set_cons_zero, List.set_cons_succ]
  refine SeqP.call rfl (by rfl) (fun Kq hKq => ?_)
  go_simp
  go_at_call 24
  with_reducible refine (hc23 _ _ _ _ _ hki hhdn1_n1_59).mono ?_
  rintro e W60 ⟨rfl, hb60⟩
  replace hT := hT.below hb60
  replace hkl := hkl.below hb60
  replace HBT := Below.cons HBT hb60
  replace HSq := Lib.hid (hSb.out _ _ hb60 HSq.out)
  clear hb60
  refine hKq.out _ _ HSq.out (fun hSq => ?_)
  clear hSq hKq Kq
  try simp only [Act.put, List.setIfInBounds_toArray, List.set_cons_zero, List.set_cons_succ]
  refine SeqP.take (v := ?_) rfl (fun _ _ _ h => h) (Or.inl ⟨by rfl, ?_⟩) ?_
  rotate_left 1
  · intro wq hSw; rw [hS.out] at hSw; (try dsimp only at hSw); go_simp; try with_reducible rfl
  try simp only [Act.put, List.setIfInBounds_toArray, List.set_cons_zero, List.set_cons_succ]
  refine SeqP.take (v := ?_) rfl (fun _ _ _ h => h) (Or.inl ⟨by rfl, ?_⟩) ?_
  rotate_left 1
  · intro wq hSw; rw [hS.out] at hSw; (try dsimp only at hSw); go_simp; try with_reducible rfl
  try simp only [Act.put, List.setIfInBounds_toArray, List.set_cons_zero, List.set_cons_succ]
  refine SeqP.take (v := ?_) rfl (fun _ _ _ h => h) (Or.inl ⟨by rfl, ?_⟩) ?_
  rotate_left 1
  · intro wq hSw; rw [hS.out] at hSw; (try dsimp only at hSw); go_simp; try with_reducible rfl
  try simp only [Act.put, List.setIfInBounds_toArray, List.set_cons_zero, List.set_cons_succ]
  refine SeqP.take (v := ?_) rfl (fun _ _ _ h => h) (Or.inl ⟨by rfl, ?_⟩) ?_
  rotate_left 1
  · intro wq hSw; rw [hS.out] at hSw; (try dsimp only at hSw); go_simp; try with_reducible rfl
  try simp only [Act.put, List.setIfInBounds_toArray, List.set_cons_zero, List.set_cons_succ]
  refine SeqP.take (v := ?_) rfl (fun _ _ _ h => h) (Or.inl ⟨by rfl, ?_⟩) ?_
  rotate_left 1
  · intro wq hSw; rw [hS.out] at hSw; (try dsimp only at hSw); go_simp; try with_reducible rfl
  try simp only [Act.put, List.setIfInBounds_toArray, List.set_cons_zero, List.set_cons_succ]
  refine SeqP.take (v := ?_) rfl (fun _ _ _ h => h) (Or.inl ⟨by rfl, ?_⟩) ?_
  rotate_left 1
  · intro wq hSw; rw [hS.out] at hSw; (try dsimp only at hSw); go_simp; try with_reducible rfl
  try simp only [Act.put, List.setIfInBounds_toArray, List.set_cons_zero, List.set_cons_succ]
  refine SeqP.take (v := ?_) rfl (fun _ _ _ h => h) (Or.inl ⟨by rfl, ?_⟩) ?_
  rotate_left 1
  · intro wq hSw; rw [hS.out] at hSw; (try dsimp only at hSw); go_simp; try with_reducible rfl
  try simp only [Act.put, List.setIfInBounds_toArray, List.set_cons_zero, List.set_cons_succ]
  refine SeqP.call rfl (by rfl) (fun Kq hKq => ?_)
  go_simp
  go_at_call 76
  with_reducible refine (cohd1_n1 _).mono ?_
  rintro e W61 ⟨Xhd1_n1_61, chd1_n1_61, rfl, hhd1_n1_61, hb61⟩
  replace hT := hT.below hb61
  replace hkl := hkl.below hb61
  replace HBT := Below.cons HBT hb61
  replace HSq := Lib.hid (hSb.out _ _ hb61 HSq.out)
  clear hb61
  refine hKq.out _ _ HSq.out (fun hSq => ?_)
  clear hSq hKq Kq
  try simp only [Act.put, List.setIfInBounds_toArray, List.set_cons_zero, List.set_cons_succ]
  refine SeqP.call rfl (by rfl) (fun Kq hKq => ?_)
  go_simp
  go_at_call 24
  with_reducible refine (hc24 _ _ _ _ _ hkl hhd1_n1_61).mono ?_
  rintro e W62 ⟨rfl, hb62⟩
  replace hT := hT.below hb62
  replace HBT := Below.cons HBT hb62
  replace HSq := Lib.hid (hSb.out _ _ hb62 HSq.out)
  clear hb62
  refine hKq.out _ _ HSq.out (fun hSq => ?_)
  clear hSq hKq Kq
  try simp only [Act.put, List.setIfInBounds_toArray, List.set_cons_zero, List.set_cons_succ]
  refine SeqP.take (v := ?_) rfl (fun _ _ _ h => h) (Or.inl ⟨by rfl, ?_⟩) ?_
  rotate_left 1
  · intro wq hSw; rw [hS.out] at hSw; (try dsimp only at hSw); go_simp; try with_reducible rfl
  try simp only [Act.put, List.setIfInBounds_toArray, List.set_cons_zero, List.set_cons_succ]
  refine SeqP.take (v := ?_) rfl (fun _ _ _ h => h) (Or.inl ⟨by rfl, ?_⟩) ?_
  rotate_left 1
  · intro wq hSw; rw [hS.out] at hSw; (try dsimp only at hSw); go_simp; try with_reducible rfl
  try simp only [Act.put, List.setIfInBounds_toArray, List.set_cons_zero, List.set_cons_succ]
  refine SeqP.take (v := ?_) rfl (fun _ _ _ h => h) (Or.inl ⟨by rfl, ?_⟩) ?_
  rotate_left 1
  · intro wq hSw; rw [hS.out] at hSw; (try dsimp only at hSw); go_simp; try with_reducible rfl
  try simp only [Act.put, List.setIfInBounds_toArray, List.set_cons_zero, List.set_cons_succ]
  refine SeqP.take (v := ?_) rfl (fun _ _ _ h => h) (Or.inl ⟨by rfl, ?_⟩) ?_
  rotate_left 1
  · intro wq hSw; rw [hS.out] at hSw; (try dsimp only at hSw); go_simp; try with_reducible rfl
  try simp only [Act.put, List.setIfInBounds_toArray, List.set_cons_zero, List.set_cons_succ]
  refine SeqP.take (v := ?_) rfl (fun _ _ _ h => h) (Or.inl ⟨by rfl, ?_⟩) ?_
  rotate_left 1
  · intro wq hSw; rw [hS.out] at hSw; (try dsimp only at hSw); go_simp; try with_reducible rfl
  try simp only [Act.put, List.setIfInBounds_toArray, List.set_cons_zero, List.set_cons_succ]
  refine SeqP.take (v := ?_) rfl (fun _ _ _ h => h) (Or.inl ⟨by rfl, ?_⟩) ?_
  rotate_left 1
  · intro wq hSw; rw [hS.out] at hSw; (try dsimp only at hSw); go_simp; try with_reducible rfl
  try simp only [Act.put, List.setIfInBounds_toArray, List.set_cons_zero, List.set_cons_succ]
  refine SeqP.take (v := ?_) rfl (fun _ _ _ h => h) (Or.inl ⟨by rfl, ?_⟩) ?_
  rotate_left 1
  · intro wq hSw; rw [hS.out] at hSw; (try dsimp only at hSw); go_simp; try with_reducible rfl
  try simp only [Act.put, List.setIfInBounds_toArray, List.set_cons_zero, List.set_cons_succ]
  refine SeqP.take (v := ?_) rfl (fun _ _ _ h => h) (Or.inl ⟨by rfl, ?_⟩) ?_
  rotate_left 1
  · intro wq hSw; rw [hS.out] at hSw; (try dsimp only at hSw); go_simp; try with_reducible rfl
  try simp only [Act.put, List.setIfInBounds_toArray, List.set_cons_zero, List.set_cons_succ]
  refine SeqP.take (v := ?_) rfl (fun _ _ _ h => h) (Or.inl ⟨by rfl, ?_⟩) ?_
  rotate_left 1
  · intro wq hSw; rw [hS.out] at hSw; (try dsimp only at hSw); go_simp; try with_reducible rfl
  try simp only [Act.put, List.setIfInBounds_toArray, List.set_cons_zero, List.set_cons_succ]
  refine SeqP.take (v := ?_) rfl (fun _ _ _ h => h) (Or.inl ⟨by rfl, ?_⟩) ?_
  rotate_left 1
  · intro wq hSw; rw [hS.out] at hSw; (try dsimp only at hSw); go_simp; try with_reducible rfl
  try simp only [Act.put, List.setIfInBounds_toArray, List.set_cons_zero, List.set_cons_succ]
  refine SeqP.call rfl (by rfl) (fun Kq hKq => ?_)
  go_simp
  go_at_call 76
  with_reducible refine (cohdn3_n1 _).mono ?_
  rintro e W63 ⟨Xhdn3_n1_63, chdn3_n1_63, rfl, hhdn3_n1_63, hb63⟩
  replace hT := hT.below hb63
  replace HBT := Below.cons HBT hb63
  replace HSq := Lib.hid (hSb.out _ _ hb63 HSq.out)
  clear hb63
  refine hKq.out _ _ HSq.out (fun hSq => ?_)
  clear hSq hKq Kq
  try simp only [Act.put, List.setIfInBounds_toArray, List.set_cons_zero, List.set_cons_succ]
  refine SeqP.call rfl (by rfl) (fun Kq hKq => ?_)
  go_simp
  go_at_call 77
  with_reducible refine (hc25 _ _ _ hhdn3_n1_63).mono ?_
  rintro e W64 ⟨Xhs2_64, chs2_64, rfl, hhs2_64, hb64⟩
  replace hT := hT.below hb64
  replace HBT := Below.cons HBT hb64
  replace HSq := Lib.hid (hSb.out _ _ hb64 HSq.out)
  clear hb64
  refine hKq.out _ _ HSq.out (fun hSq => ?_)
  clear hSq hKq Kq
  try simp only [Act.put, List.setIfInBounds_toArray, List.set_cons_zero, List.set_cons_succ]
  refine SeqP.call rfl (by rfl) (fun Kq hKq => ?_)
  go_simp
  go_at_call 18
  with_reducible refine (cohzn2 _).mono ?_
  rintro e W65 ⟨Xhzn2_65, chzn2_65, rfl, hhzn2_65, hb65⟩
  replace hT := hT.below hb65
  replace hhs2_64 := hhs2_64.below hb65
  replace HBT := Below.cons HBT hb65
  replace HSq := Lib.hid (hSb.out _ _ hb65 HSq.out)
  clear hb65
  refine hKq.out _ _ HSq.out (fun hSq => ?_)
  clear hSq hKq Kq
  try simp only [Act.put, List.setIfInBounds_toArray, List.set_cons_zero, List.set_cons_succ]
  refine SeqP.call rfl (by rfl) (fun Kq hKq => ?_)
  go_simp
  go_at_call 57
  with_reducible refine (hc26 _ _ _ _ _ hhs2_64 hhzn2_65).mono ?_
  rintro e W66 ⟨rfl, hb66⟩
  replace hT := hT.below hb66
  replace HBT := Below.cons HBT hb66
  replace HSq := Lib.hid (hSb.out _ _ hb66 HSq.out)
  clear hb66
  refine hKq.out _ _ HSq.out (fun hSq => ?_)
  clear hSq hKq Kq
  try simp only [Act.put, List.setIfInBounds_toArray, List.set_cons_zero, List.set_cons_succ]
  refine SeqP.take (v := ?_) rfl (fun _ _ _ h => h) (Or.inl ⟨by rfl, ?_⟩) ?_
  rotate_left 1
  · intro wq hSw; rw [hS.out] at hSw; (try dsimp only at hSw); go_simp; try with_reducible rfl
  try simp only [Act.put, List.setIfInBounds_toArray, List.set_cons_zero, List.set_cons_succ]
  refine SeqP.take (v := ?_) rfl (fun _ _ _ h => h) (Or.inl ⟨by rfl, ?_⟩) ?_
  rotate_left 1
  · intro wq hSw; rw [hS.out] at hSw; (try dsimp only at hSw); go_simp; try with_reducible rfl
  try simp only [Act.put, List.setIfInBounds_toArray, List.set_cons_zero, List.set_cons_succ]
  refine SeqP.call rfl (by rfl) (fun Kq hKq => ?_)
  go_simp
  go_at_call 76
  with_reducible refine (cohd1_n1 _).mono ?_
  rintro e W67 ⟨Xhd1_n1_67, chd1_n1_67, rfl, hhd1_n1_67, hb67⟩
  replace hT := hT.below hb67
  replace HBT := Below.cons HBT hb67
  replace HSq := Lib.hid (hSb.out _ _ hb67 HSq.out)
  clear hb67
  refine hKq.out _ _ HSq.out (fun hSq => ?_)
  clear hSq hKq Kq
  try simp only [Act.put, List.setIfInBounds_toArray, List.set_cons_zero, List.set_cons_succ]
  refine SeqP.call rfl (by rfl) (fun Kq hKq => ?_)
  go_simp
  go_at_call 76
  with_reducible refine (cohd1_n1b _).mono ?_
  rintro e W68 ⟨Xhd1_n1b_68, chd1_n1b_68, rfl, hhd1_n1b_68, hb68⟩
  replace hT := hT.below hb68
  replace hhd1_n1_67 := hhd1_n1_67.below hb68
  replace HBT := Below.cons HBT hb68
  replace HSq := Lib.hid (hSb.out _ _ hb68 HSq.out)
  clear hb68
  refine hKq.out _ _ HSq.out (fun hSq => ?_)
  clear hSq hKq Kq
  try simp only [Act.put, List.setIfInBounds_toArray, List.set_cons_zero, List.set_cons_succ]
  refine SeqP.call rfl (by rfl) (fun Kq hKq => ?_)
  go_simp
  go_at_call 36
  with_reducible refine (hc27 _ _ _ _ _ hhd1_n1_67 hhd1_n1b_68 hT).mono ?_
  rintro e W69 ⟨Xhadd_69, chadd_69, rfl, hhadd_69, hb69⟩
  replace hT := hT.below hb69
  replace HBT := Below.cons HBT hb69
  replace HSq := Lib.hid (hSb.out _ _ hb69 HSq.out)
  clear hb69
  refine hKq.out _ _ HSq.out (fun hSq => ?_)
  clear hSq hKq Kq
  try simp only [Act.put, List.setIfInBounds_toArray, List.set_cons_zero, List.set_cons_succ]
  refine SeqP.call rfl (by rfl) (fun Kq hKq => ?_)
  go_simp
  go_at_call 76
  with_reducible refine (cohd1_0 _).mono ?_
  rintro e W70 ⟨Xhd1_0_70, chd1_0_70, rfl, hhd1_0_70, hb70⟩
  replace hT := hT.below hb70
  replace hhadd_69 := hhadd_69.below hb70
  replace HBT := Below.cons HBT hb70
  replace HSq := Lib.hid (hSb.out _ _ hb70 HSq.out)
  clear hb70
  refine hKq.out _ _ HSq.out (fun hSq => ?_)
  clear hSq hKq Kq
  try simp only [Act.put, List.setIfInBounds_toArray, List.set_cons_zero, List.set_cons_succ]
  refine SeqP.call rfl (by rfl) (fun Kq hKq => ?_)
  go_simp
  go_at_call 24
  with_reducible refine (hc28 _ _ _ _ _ hhadd_69 hhd1_0_70).mono ?_
  rintro e W71 ⟨rfl, hb71⟩
  replace hT := hT.below hb71
  replace HBT := Below.cons HBT hb71
  replace HSq := Lib.hid (hSb.out _ _ hb71 HSq.out)
  clear hb71
  refine hKq.out _ _ HSq.out (fun hSq => ?_)
  clear hSq hKq Kq
  try simp only [Act.put, List.setIfInBounds_toArray, List.set_cons_zero, List.set_cons_succ]
  refine SeqP.take (v := ?_) rfl (fun _ _ _ h => h) (Or.inl ⟨by rfl, ?_⟩) ?_
  rotate_left 1
  · intro wq hSw; rw [hS.out] at hSw; (try dsimp only at hSw); go_simp; try with_reducible rfl
  try simp only [Act.put, List.setIfInBounds_toArray, List.set_cons_zero, List.set_cons_succ]
  refine SeqP.take (v := ?_) rfl (fun _ _ _ h => h) (Or.inl ⟨by rfl, ?_⟩) ?_
  rotate_left 1
  · intro wq hSw; rw [hS.out] at hSw; (try dsimp only at hSw); go_simp; try with_reducible rfl
  try simp only [Act.put, List.setIfInBounds_toArray, List.set_cons_zero, List.set_cons_succ]
  refine SeqP.call rfl (by rfl) (fun Kq hKq => ?_)
  go_simp
  go_at_call 76
  with_reducible refine (cohd1_0 _).mono ?_
  rintro e W72 ⟨Xhd1_0_72, chd1_0_72, rfl, hhd1_0_72, hb72⟩
  replace hT := hT.below hb72
  replace HBT := Below.cons HBT hb72
  replace HSq := Lib.hid (hSb.out _ _ hb72 HSq.out)
  clear hb72
  refine hKq.out _ _ HSq.out (fun hSq => ?_)
  clear hSq hKq Kq
  try simp only [Act.put, List.setIfInBounds_toArray, List.set_cons_zero, List.set_cons_succ]
  refine SeqP.call rfl (by rfl) (fun Kq hKq => ?_)
  go_simp
  go_at_call 76
  with_reducible refine (cohd3_0 _).mono ?_
  rintro e W73 ⟨Xhd3_0_73, chd3_0_73, rfl, hhd3_0_73, hb73⟩
  replace hT := hT.below hb73
  replace hhd1_0_72 := hhd1_0_72.below hb73
  replace HBT := Below.cons HBT hb73
  replace HSq := Lib.hid (hSb.out _ _ hb73 HSq.out)
  clear hb73
  refine hKq.out _ _ HSq.out (fun hSq => ?_)
  clear hSq hKq Kq
  try simp only [Act.put, List.setIfInBounds_toArray, List.set_cons_zero, List.set_cons_succ]
  refine SeqP.call rfl (by rfl) (fun Kq hKq => ?_)
  go_simp
  go_at_call 42
  with_reducible refine (hc29 _ _ _ _ _ hhd1_0_72 hhd3_0_73 hT).mono ?_
  rintro e W74 ⟨Xhmid_74, chmid_74, rfl, hhmid_74, hb74⟩
  replace hT := hT.below hb74
  replace HBT := Below.cons HBT hb74
  replace HSq := Lib.hid (hSb.out _ _ hb74 HSq.out)
  clear hb74
  refine hKq.out _ _ HSq.out (fun hSq => ?_)
  clear hSq hKq Kq
  try simp only [Act.put, List.setIfInBounds_toArray, List.set_cons_zero, List.set_cons_succ]
  refine SeqP.call rfl (by rfl) (fun Kq hKq => ?_)
  go_simp
  go_at_call 76
  with_reducible refine (cohd1_1 _).mono ?_
  rintro e W75 ⟨Xhd1_1_75, chd1_1_75, rfl, hhd1_1_75, hb75⟩
  replace hT := hT.below hb75
  replace hhmid_74 := hhmid_74.below hb75
  replace HBT := Below.cons HBT hb75
  replace HSq := Lib.hid (hSb.out _ _ hb75 HSq.out)
  clear hb75
  refine hKq.out _ _ HSq.out (fun hSq => ?_)
  clear hSq hKq Kq
  try simp only [Act.put, List.setIfInBounds_toArray, List.set_cons_zero, List.set_cons_succ]
  refine SeqP.call rfl (by rfl) (fun Kq hKq => ?_)
  go_simp
  go_at_call 24
  with_reducible refine (hc30 _ _ _ _ _ hhmid_74 hhd1_1_75).mono ?_
  rintro e W76 ⟨rfl, hb76⟩
  replace hT := hT.below hb76
  replace HBT := Below.cons HBT hb76
  replace HSq := Lib.hid (hSb.out _ _ hb76 HSq.out)
  clear hb76
  refine hKq.out _ _ HSq.out (fun hSq => ?_)
  clear hSq hKq Kq
  try simp only [Act.put, List.setIfInBounds_toArray, List.set_cons_zero, List.set_cons_succ]
  refine SeqP.take (v := ?_) rfl (fun _ _ _ h => h) (Or.inl ⟨by rfl, ?_⟩) ?_
  rotate_left 1
  · intro wq hSw; rw [hS.out] at hSw; (try dsimp only at hSw); go_simp; try with_reducible rfl
  try simp only [Act.put, List.setIfInBounds_toArray, List.set_cons_zero, List.set_cons_succ]
  refine SeqP.take (v := ?_) rfl (fun _ _ _ h => h) (Or.inl ⟨by rfl, ?_⟩) ?_
  rotate_left 1
  · intro wq hSw; rw [hS.out] at hSw; (try dsimp only at hSw); go_simp; try with_reducible rfl
  try simp only [Act.put, List.setIfInBounds_toArray, List.set_cons_zero, List.set_cons_succ]
  refine SeqP.call rfl (by rfl) (fun Kq hKq => ?_)
  go_simp
  go_at_call 76
  with_reducible refine (cohd1_n1 _).mono ?_
  rintro e W77 ⟨Xhd1_n1_77, chd1_n1_77, rfl, hhd1_n1_77, hb77⟩
  replace hT := hT.below hb77
  replace HBT := Below.cons HBT hb77
  replace HSq := Lib.hid (hSb.out _ _ hb77 HSq.out)
  clear hb77
  refine hKq.out _ _ HSq.out (fun hSq => ?_)
  clear hSq hKq Kq
  try simp only [Act.put, List.setIfInBounds_toArray, List.set_cons_zero, List.set_cons_succ]
  refine SeqP.call rfl (by rfl) (fun Kq hKq => ?_)
  go_simp
  go_at_call 76
  with_reducible refine (cohd1_n2 _).mono ?_
  rintro e W78 ⟨Xhd1_n2_78, chd1_n2_78, rfl, hhd1_n2_78, hb78⟩
  replace hT := hT.below hb78
  replace hhd1_n1_77 := hhd1_n1_77.below hb78
  replace HBT := Below.cons HBT hb78
  replace HSq := Lib.hid (hSb.out _ _ hb78 HSq.out)
  clear hb78
  refine hKq.out _ _ HSq.out (fun hSq => ?_)
  clear hSq hKq Kq
  try simp only [Act.put, List.setIfInBounds_toArray, List.set_cons_zero, List.set_cons_succ]
  refine SeqP.call rfl (by rfl) (fun Kq hKq => ?_)
  go_simp
  go_at_call 30
  with_reducible refine (hc31 _ _ _ _ _ hhd1_n1_77 hhd1_n2_78).mono ?_
  rintro e W79 ⟨rfl, hb79⟩
  replace hT := hT.below hb79
  replace HBT := Below.cons HBT hb79
  replace HSq := Lib.hid (hSb.out _ _ hb79 HSq.out)
  clear hb79
  refine hKq.out _ _ HSq.out (fun hSq => ?_)
  clear hSq hKq Kq
  try simp only [Act.put, List.setIfInBounds_toArray, List.set_cons_zero, List.set_cons_succ]
  refine SeqP.take (v := ?_) rfl (fun _ _ _ h => h) (Or.inl ⟨by rfl, ?_⟩) ?_
  rotate_left 1
  · intro wq hSw; rw [hS.out] at hSw; (try dsimp only at hSw); go_simp; try with_reducible rfl
  try simp only [Act.put, List.setIfInBounds_toArray, List.set_cons_zero, List.set_cons_succ]
  refine SeqP.take (v := ?_) rfl (fun _ _ _ h => h) (Or.inl ⟨by rfl, ?_⟩) ?_
  rotate_left 1
  · intro wq hSw; rw [hS.out] at hSw; (try dsimp only at hSw); go_simp; try with_reducible rfl
  try simp only [Act.put, List.setIfInBounds_toArray, List.set_cons_zero, List.set_cons_succ]
  refine SeqP.take (v := ?_) rfl (fun _ _ _ h => h) (Or.inl ⟨by rfl, ?_⟩) ?_
  rotate_left 1
  · intro wq hSw; rw [hS.out] at hSw; (try dsimp only at hSw); go_simp; try with_reducible rfl
  try simp only [Act.put, List.setIfInBounds_toArray, List.set_cons_zero, List.set_cons_succ]
  refine SeqP.call rfl (by rfl) (fun Kq hKq => ?_)
  go_simp
  go_at_call 76
  with_reducible refine (cohdn3_n2 _).mono ?_
  rintro e W80 ⟨Xhdn3_n2_80, chdn3_n2_80, rfl, hhdn3_n2_80, hb80⟩
  replace hT := hT.below hb80
  replace HBT := Below.cons HBT hb80
  replace HSq := Lib.hid (hSb.out _ _ hb80 HSq.out)
  clear hb80
  refine hKq.out _ _ HSq.out (fun hSq => ?_)
  clear hSq hKq Kq
  try simp only [Act.put, List.setIfInBounds_toArray, List.set_cons_zero, List.set_cons_succ]
  refine SeqP.call rfl (by rfl) (fun Kq hKq => ?_)
  go_simp
  go_at_call 45
  with_reducible refine (hc32 _ _ _ hhdn3_n2_80).mono ?_
  rintro e W81 ⟨Xhrat_81, chrat_81, Yhrat_81, dhrat_81, rfl, hhrat_81, ghrat_81, hb81⟩
  replace hT := hT.below hb81
  replace HBT := Below.cons HBT hb81
  replace HSq := Lib.hid (hSb.out _ _ hb81 HSq.out)
  clear hb81
  refine hKq.out _ _ HSq.out (fun hSq => ?_)
  clear hSq hKq Kq
  try simp only [Act.put, List.setIfInBounds_toArray, List.set_cons_zero, List.set_cons_succ]
  refine SeqP.call rfl (by rfl) (fun Kq hKq => ?_)
  go_simp
  go_at_call 74
  with_reducible refine (cohqn3_4 _).mono ?_
  rintro e W82 ⟨Xhqn3_4_82, chqn3_4_82, Yhqn3_4_82, dhqn3_4_82, rfl, hhqn3_4_82, ghqn3_4_82, hb82⟩
  replace hT := hT.below hb82
  replace hhrat_81 := hhrat_81.below hb82
  replace ghrat_81 := ghrat_81.below hb82
  replace HBT := Below.cons HBT hb82
  replace HSq := Lib.hid (hSb.out _ _ hb82 HSq.out)
  clear hb82
  refine hKq.out _ _ HSq.out (fun hSq => ?_)
  clear hSq hKq Kq
  try simp only [Act.put, List.setIfInBounds_toArray, List.set_cons_zero, List.set_cons_succ]
  refine SeqP.call rfl (by rfl) (fun Kq hKq => ?_)
  go_simp
  go_at_call 44
  with_reducible refine (hc33 _ _ _ _ _ _ _ _ _ hhrat_81 ghrat_81 hhqn3_4_82 ghqn3_4_82).mono ?_
  rintro e W83 ⟨rfl, hb83⟩
  replace hT := hT.below hb83
  replace HBT := Below.cons HBT hb83
  replace HSq := Lib.hid (hSb.out _ _ hb83 HSq.out)
  clear hb83
  refine hKq.out _ _ HSq.out (fun hSq => ?_)
  clear hSq hKq Kq
  try simp only [Act.put, List.setIfInBounds_toArray, List.set_cons_zero, List.set_cons_succ]
  refine SeqP.take (v := ?_) rfl (fun _ _ _ h => h) (Or.inl ⟨by rfl, ?_⟩) ?_
  rotate_left 1
  · intro wq hSw; rw [hS.out] at hSw; (try dsimp only at hSw); go_simp; try with_reducible rfl
  try simp only [Act.put, List.setIfInBounds_toArray, List.set_cons_zero, List.set_cons_succ]
  refine SeqP.take (v := ?_) rfl (fun _ _ _ h => h) (Or.inl ⟨by rfl, ?_⟩) ?_
  rotate_left 1
  · intro wq hSw; rw [hS.out] at hSw; (try dsimp only at hSw); go_simp; try with_reducible rfl
  try simp only [Act.put, List.setIfInBounds_toArray, List.set_cons_zero, List.set_cons_succ]
  refine SeqP.call rfl (by rfl) (fun Kq hKq => ?_)
  go_simp
  go_at_call 76
  with_reducible refine (cohdn1_5 _).mono ?_
  rintro e W84 ⟨Xhdn1_5_84, chdn1_5_84, rfl, hhdn1_5_84, hb84⟩
  replace hT := hT.below hb84
  replace HBT := Below.cons HBT hb84
  replace HSq := Lib.hid (hSb.out _ _ hb84 HSq.out)
  clear hb84
  refine hKq.out _ _ HSq.out (fun hSq => ?_)
  clear hSq hKq Kq
  try simp only [Act.put, List.setIfInBounds_toArray, List.set_cons_zero, List.set_cons_succ]
  refine SeqP.call rfl (by rfl) (fun Kq hKq => ?_)
  go_simp
  go_at_call 32
  with_reducible refine (hc34 _ _ _ hhdn1_5_84).mono ?_
  rintro e W85 ⟨rfl, hb85⟩
  replace hT := hT.below hb85
  replace HBT := Below.cons HBT hb85
  replace HSq := Lib.hid (hSb.out _ _ hb85 HSq.out)
  clear hb85
  refine hKq.out _ _ HSq.out (fun hSq => ?_)
  clear hSq hKq Kq
  try simp only [Act.put, List.setIfInBounds_toArray, List.set_cons_zero, List.set_cons_succ]
  refine SeqP.take (v := ?_) rfl (fun _ _ _ h => h) (Or.inl ⟨by rfl, ?_⟩) ?_
  rotate_left 1
  · intro wq hSw; rw [hS.out] at hSw; (try dsimp only at hSw); go_simp; try with_reducible rfl
  try simp only [Act.put, List.setIfInBounds_toArray, List.set_cons_zero, List.set_cons_succ]
  refine SeqP.take (v := ?_) rfl (fun _ _ _ h => h) (Or.inl ⟨by rfl, ?_⟩) ?_
  rotate_left 1
  · intro wq hSw; rw [hS.out] at hSw; (try dsimp only at hSw); go_simp; try with_reducible rfl
  try simp only [Act.put, List.setIfInBounds_toArray, List.set_cons_zero, List.set_cons_succ]
  refine SeqP.take (v := ?_) rfl (fun _ _ _ h => h) (Or.inl ⟨by rfl, ?_⟩) ?_
  rotate_left 1
  · intro wq hSw; rw [hS.out] at hSw; (try dsimp only at hSw); go_simp; try with_reducible rfl
  try simp only [Act.put, List.setIfInBounds_toArray, List.set_cons_zero, List.set_cons_succ]
  refine SeqP.done ?_
  clear hSb
  clear HSq
  all_goals (try go_wp2_with (fail))
  go_ret
  exact ⟨rfl, HBT⟩
end Go.Proofs.YtpaffggdeedopaaGreatDoor
