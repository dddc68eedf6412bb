/- The library's bits.Reverse64, walked. -/
import Derived.Test.YtmcekbmmpdpbmaaDoorDft
import Derived.Test.YtmcekbmmpdpbmaaDoorBase
import Derived.Laws.BitsAllLaws
set_option linter.unusedVariables false
set_option linter.unusedSimpArgs false
namespace Go.Proofs.YtmcekbmmpdpbmaaDoor
open Go.RowKit

/-- Pieces of s bits changed two by two. -/
def swp (x s m : Nat) : Nat := (x / 2 ^ s &&& m) ||| (x &&& m) * 2 ^ s
theorem swp_bit (x s m : Nat) (hm : ∀ i, i < 64 → (m.testBit i = ((i / s) % 2 == 0)) ∧ (if (i / s) % 2 = 0 then i ^^^ s = i + s else s ≤ i ∧ i ^^^ s = i - s ∧ m.testBit (i - s) = true)) (hm0 : ∀ i, (i / s) % 2 = 0 → i < s → True) (i : Nat) (hi : i < 64) (hs : ∀ i, i < 64 → (i / s) % 2 = 0 → s ≤ i → m.testBit (i - s) = false) :
    (swp x s m).testBit i = x.testBit (i ^^^ s) := by
  obtain ⟨h1, h2⟩ := hm i hi
  unfold swp
  rw [Nat.testBit_or, Nat.testBit_and, Nat.testBit_div_two_pow, Nat.testBit_mul_two_pow, Nat.testBit_and, h1]
  by_cases h : (i / s) % 2 = 0
  · rw [if_pos h] at h2
    simp only [h, h2]
    by_cases h3 : s ≤ i
    · simp [h3, hs i hi h h3]
    · simp [h3]
  · rw [if_neg h] at h2
    obtain ⟨h3, h4, h5⟩ := h2
    simp [h, h3, h4, h5]
def rev64 (x : Nat) : Nat := 
  let a := swp x 1 6148914691236517205
  let b := swp a 2 3689348814741910323
  let c := swp b 4 1085102592571150095
  let d := swp c 8 71777214294589695
  let e := swp d 16 281470681808895
  e / 2 ^ 32 ||| e % 2 ^ 32 * 2 ^ 32
theorem swp_lt (x s m : Nat) (hx : x < 2 ^ 64) (hm : m * 2 ^ s < 2 ^ 64) : swp x s m < 2 ^ 64 := by
  unfold swp
  refine Nat.or_lt_two_pow (Nat.lt_of_le_of_lt Nat.and_le_left (Nat.lt_of_le_of_lt (Nat.div_le_self _ _) hx)) (Nat.lt_of_le_of_lt (Nat.mul_le_mul_right _ Nat.and_le_right) hm)
theorem rev64_rv (x : Nat) (hx : x < 2 ^ 64) : rev64 x = rv 64 x := by
  unfold rev64
  apply Nat.eq_of_testBit_eq
  intro i
  have b1 := fun x i hi => swp_bit x 1 6148914691236517205 (by decide) (fun _ _ _ => trivial) i hi (by decide)
  have b2 := fun x i hi => swp_bit x 2 3689348814741910323 (by decide) (fun _ _ _ => trivial) i hi (by decide)
  have b3 := fun x i hi => swp_bit x 4 1085102592571150095 (by decide) (fun _ _ _ => trivial) i hi (by decide)
  have b4 := fun x i hi => swp_bit x 8 71777214294589695 (by decide) (fun _ _ _ => trivial) i hi (by decide)
  have b5 := fun x i hi => swp_bit x 16 281470681808895 (by decide) (fun _ _ _ => trivial) i hi (by decide)
  have l1 := swp_lt x 1 6148914691236517205 hx (by decide)
  have l2 := swp_lt _ 2 3689348814741910323 l1 (by decide)
  have l3 := swp_lt _ 4 1085102592571150095 l2 (by decide)
  have l4 := swp_lt _ 8 71777214294589695 l3 (by decide)
  have l5 := swp_lt _ 16 281470681808895 l4 (by decide)
  have hx64 : ∀ j, j < 64 → j ^^^ 1 < 64 ∧ j ^^^ 2 < 64 ∧ j ^^^ 4 < 64 ∧ j ^^^ 8 < 64 ∧ j ^^^ 16 < 64 := by decide
  rw [rv_bit]
  simp only
  by_cases hi : i < 64
  · have key : ∀ j, j < 64 → ∀ i, i < 64 → j = i ^^^ 32 → ((((j ^^^ 16) ^^^ 8) ^^^ 4) ^^^ 2) ^^^ 1 = 63 - i := by
      intro j hj i hi e; subst e; revert i; decide
    have main : ∀ j, j < 64 → (swp (swp (swp (swp (swp x 1 6148914691236517205) 2 3689348814741910323) 4 1085102592571150095) 8 71777214294589695) 16 281470681808895).testBit j = x.testBit (((((j ^^^ 16) ^^^ 8) ^^^ 4) ^^^ 2) ^^^ 1) := fun j hj => by
      have a1 := (hx64 j hj).2.2.2.2
      have a2 := (hx64 _ a1).2.2.2.1
      have a3 := (hx64 _ a2).2.2.1
      have a4 := (hx64 _ a3).2.1
      rw [b5 _ _ hj, b4 _ _ a1, b3 _ _ a2, b2 _ _ a3, b1 _ _ a4]
    rw [Nat.testBit_or, Nat.testBit_div_two_pow, Nat.testBit_mul_two_pow, Nat.testBit_mod_two_pow]
    simp only [hi, decide_true, Bool.true_and]
    by_cases h : i < 32
    · have hj : i + 32 < 64 := by omega
      have e : i + 32 = i ^^^ 32 := by revert i; decide
      rw [main _ hj, key _ hj i hi e]
      simp; omega
    · have hj : i - 32 < 64 := by omega
      have e : i - 32 = i ^^^ 32 := by
        have : ∀ i, i < 64 → ¬ i < 32 → i - 32 = i ^^^ 32 := by decide
        exact this i hi h
      have z : (swp (swp (swp (swp (swp x 1 6148914691236517205) 2 3689348814741910323) 4 1085102592571150095) 8 71777214294589695) 16 281470681808895).testBit (i + 32) = false :=
        Nat.testBit_lt_two_pow (Nat.lt_of_lt_of_le l5 (Nat.pow_le_pow_right (by decide) (by omega)))
      rw [z, main _ hj, key _ hj i hi e]
      simp [show 32 ≤ i by omega]; try omega
  · simp only [hi, decide_false, Bool.false_and]
    refine Nat.testBit_lt_two_pow (Nat.lt_of_lt_of_le ?_ (Nat.pow_le_pow_right (by decide) (show 64 ≤ i by omega)))
    refine Nat.or_lt_two_pow (Nat.lt_of_le_of_lt (Nat.div_le_self _ _) l5) ?_
    refine Nat.lt_of_lt_of_le (Nat.mul_lt_mul_of_pos_right (Nat.mod_lt (swp (swp (swp (swp (swp x 1 6148914691236517205) 2 3689348814741910323) 4 1085102592571150095) 8 71777214294589695) 16 281470681808895) (show 0 < 2 ^ 32 by decide)) (by decide)) (by decide)

theorem mul32_lt (t : Nat) : t % 4294967296 * 4294967296 < 18446744073709551616 := by omega
theorem mul32_wrap (t : Nat) : IntKind.u64.wrap ((t : Int) * 4294967296) = ((t % 4294967296 * 4294967296 : Nat) : Int) := by rw [IntKind.wrap_u64]; omega
theorem swp_run : ∀ (y s m : Nat), y < 18446744073709551616 → m * 2 ^ s < 18446744073709551616 → ∃ u v t : Nat, bits .and .u64 ((y / 2 ^ s : Nat) : Int) (m : Int) = (u : Int) ∧ bits .and .u64 (y : Int) (m : Int) = (v : Int) ∧ v * 2 ^ s < 18446744073709551616 ∧ u < 18446744073709551616 ∧ bits .or .u64 (u : Int) ((v * 2 ^ s : Nat) : Int) = (t : Int) ∧ t = swp y s m ∧ t < 18446744073709551616 := by
  intro y s m hy hm
  have hys : y / 2 ^ s < 18446744073709551616 := Nat.lt_of_le_of_lt (Nat.div_le_self _ _) hy
  have hmm : m < 18446744073709551616 := Nat.lt_of_le_of_lt (Nat.le_mul_of_pos_right _ (Nat.two_pow_pos s)) hm
  have hv : (y &&& m) * 2 ^ s < 18446744073709551616 := Nat.lt_of_le_of_lt (Nat.mul_le_mul_right _ Nat.and_le_right) hm
  have hu : (y / 2 ^ s &&& m) < 18446744073709551616 := Nat.lt_of_le_of_lt Nat.and_le_left hys
  exact ⟨_, _, _, u64_and_nat _ _ hys hmm, u64_and_nat _ _ hy hmm, hv, hu, u64_or_nat _ _ hu hv, rfl, swp_lt y s m hy hm⟩
set_option maxHeartbeats 1000000 in
theorem reverseBytes_c (x : Nat) (w : World) (hx : x < 18446744073709551616) :
    Calls Tryd.prog 66 #[.int .u64 (x : Nat)] w fun e w' => e = .returned (.int .u64 ((swp (swp x 8 71777214294589695) 16 281470681808895 / 2 ^ 32 ||| swp (swp x 8 71777214294589695) 16 281470681808895 % 2 ^ 32 * 2 ^ 32 : Nat) : Int)) ∧ w' = w := by
  have A := swp_run
  obtain ⟨u, v, t, h1, h2, h3, h4, h5, h6, h7⟩ := A x 8 71777214294589695 hx (by decide)
  obtain ⟨u', v', t', k1, k2, k3, k4, k5, k6, k7⟩ := A t 16 281470681808895 h7 (by decide)
  rw [← h6, ← k6]
  have H6 := Lib.hid h6
  have K6 := Lib.hid k6
  clear h6 k6 A
  have hq : t' / 4294967296 < 18446744073709551616 := Nat.lt_of_le_of_lt (Nat.div_le_self _ _) k7
  have hr : t' % 4294967296 * 4294967296 < 18446744073709551616 := mul32_lt t'
  have z : bits .or .u64 ((t' / 4294967296 : Nat) : Int) ((t' % 4294967296 * 4294967296 : Nat) : Int) = ((t' / 2 ^ 32 ||| t' % 2 ^ 32 * 2 ^ 32 : Nat) : Int) := u64_or_nat _ _ hq hr
  have zw : IntKind.u64.wrap ((t' : Int) * 4294967296) = ((t' % 4294967296 * 4294967296 : Nat) : Int) := mul32_wrap t'
  obtain ⟨r, hr⟩ : ∃ r, r = t' / 2 ^ 32 ||| t' % 2 ^ 32 * 2 ^ 32 := ⟨_, rfl⟩
  obtain ⟨g, hg⟩ : ∃ g, g = t' % 4294967296 * 4294967296 := ⟨_, rfl⟩
  rw [← hr] at z ⊢
  rw [← hg] at z zw
  replace hr := Lib.hid hr
  replace hg := Lib.hid hg
  simp at h1 h2 h3 h5 k1 k2 k3 k5 z
  go_enter Tryd.func66, Tryd.ntmps66
  go_wp2_with (fail)
  go_ret
  exact ⟨rfl, rfl⟩

set_option maxHeartbeats 1000000 in
theorem reverse64_c (x : Nat) (w : World) (hx : x < 18446744073709551616) :
    Calls Tryd.prog 65 #[.int .u64 (x : Nat)] w fun e w' => e = .returned (.int .u64 (rv 64 x : Nat)) ∧ w' = w := by
  have A := swp_run
  obtain ⟨u, v, t, h1, h2, h3, h4, h5, h6, h7⟩ := A x 1 6148914691236517205 hx (by decide)
  obtain ⟨u', v', t', k1, k2, k3, k4, k5, k6, k7⟩ := A t 2 3689348814741910323 h7 (by decide)
  obtain ⟨u'', v'', t'', m1, m2, m3, m4, m5, m6, m7⟩ := A t' 4 1085102592571150095 k7 (by decide)
  have hb := fun w => reverseBytes_c t'' w m7
  have e : (swp (swp t'' 8 71777214294589695) 16 281470681808895 / 2 ^ 32 ||| swp (swp t'' 8 71777214294589695) 16 281470681808895 % 2 ^ 32 * 2 ^ 32) = rv 64 x := by
    rw [m6, k6, h6]; exact rev64_rv x hx
  rw [e] at hb
  clear h6 k6 m6 A e
  obtain ⟨r, hr⟩ : ∃ r, r = rv 64 x := ⟨_, rfl⟩
  rw [← hr] at hb ⊢
  replace hr := Lib.hid hr
  have HB := Lib.hid hb
  clear hb
  simp at h1 h2 h3 h5 k1 k2 k3 k5 m1 m2 m3 m5
  go_enter Tryd.func65, Tryd.ntmps65
  go_wp2_with (fail)
  refine (HB.out w).mono ?_
  rintro e w1 ⟨rfl, rfl⟩
  go_wp2_with (fail)
  go_ret
  exact ⟨rfl, rfl⟩
end Go.Proofs.YtmcekbmmpdpbmaaDoor
