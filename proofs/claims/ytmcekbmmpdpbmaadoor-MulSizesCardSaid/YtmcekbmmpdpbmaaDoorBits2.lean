/- Whether a natural is right, and how many bits it has. -/
import Derived.Test.YtmcekbmmpdpbmaaDoorRef5
set_option linter.unusedVariables false
set_option linter.unusedSimpArgs false
namespace Go.Proofs.YtmcekbmmpdpbmaaDoor
open Go.RowKit Go.Shelf

/-- How many bits. -/
def bl (a : Nat) : Nat := if a = 0 then 0 else 32 * (nl a - 1) + Lib.bitLen (gl (limbs a) (nl a - 1))
set_option maxHeartbeats 1000000 in
theorem right_c (A : Option Addr) (c a : Nat) (w : World) (hA : NatV w A c a) (ha : nl a ≤ 65536) :
    Calls Tryd.prog 34 #[.slice A (nl a) c] w fun e w' => e = .returned (.bool true) ∧ w' = w := by
  by_cases h : nl a = 0
  · rw [h]
    go_enter Tryd.func34, Tryd.ntmps34
    go_wp2_with (fail)
    go_ret
    exact ⟨rfl, rfl⟩
  · obtain ⟨k, hk⟩ : ∃ k, nl a = k + 1 := ⟨nl a - 1, by omega⟩
    obtain ⟨ad, rfl, hcx⟩ := hA.rd.get k (by show k < nl a; omega)
    have hne : gl (limbs a) k ≠ 0 := by
      have h2 := limbs_last a (fun e => h (by rw [e, nl_zero]))
      rwa [hk, Nat.add_sub_cancel] at h2
    obtain ⟨x, hx⟩ : ∃ x, x = gl (limbs a) k := ⟨_, rfl⟩
    rw [← hx] at hcx hne
    have h1 : ((nl a : Int) == 0) = false := ieqF (by omega)
    have hkI : (nl a : Int) - 1 = (k : Int) := by omega
    have hkl : k < nl a := by omega
    have h2 : ((x : Int) != 0) = true := ineT (by omega)
    have h3 : decide ((nl a : Int) ≤ 65536) = true := by simp; omega
    replace hx := Lib.hid hx
    clear hne h hk
    go_enter Tryd.func34, Tryd.ntmps34
    go_wp2_with (fail)
    go_ret
    exact ⟨rfl, rfl⟩

set_option maxHeartbeats 1000000 in
theorem bits_c (A : Option Addr) (c a : Nat) (w : World) (hA : NatV w A c a) (ha : nl a ≤ 1073741824) :
    Calls Tryd.prog 35 #[.slice A (nl a) c] w fun e w' => e = .returned (.int .i64 (bl a : Nat)) ∧ w' = w := by
  by_cases h : nl a = 0
  · have h0 : a = 0 := nl_eq_zero.1 h
    have hb : bl a = 0 := by unfold bl; rw [if_pos h0]
    rw [h, hb]
    go_enter Tryd.func35, Tryd.ntmps35
    go_wp2_with (fail)
    go_ret
    exact ⟨rfl, rfl⟩
  · obtain ⟨k, hk⟩ : ∃ k, nl a = k + 1 := ⟨nl a - 1, by omega⟩
    obtain ⟨ad, rfl, hcx⟩ := hA.rd.get k (by show k < nl a; omega)
    obtain ⟨x, hx⟩ : ∃ x, x = gl (limbs a) k := ⟨_, rfl⟩
    have hxl := (lim_limbs a).gl k
    rw [← hx] at hcx hxl
    have h1 : ((nl a : Int) == 0) = false := ieqF (by omega)
    have hkI : (nl a : Int) - 1 = (k : Int) := by omega
    have hkl : k < nl a := by omega
    obtain ⟨v, hv⟩ : ∃ v, v = Lib.bitLen x := ⟨_, rfl⟩
    have hvb : v ≤ 32 := by rw [hv]; exact Lib.bitLen_le x 32 (by decide) hxl
    have hb : bl a = 32 * k + v := by unfold bl; rw [if_neg (fun e => h (by rw [e, nl_zero])), hk, Nat.add_sub_cancel, ← hx, hv]
    have CL := len32_c x w hxl
    rw [← hv] at CL
    rw [hb]
    replace CL := Lib.hid CL
    replace hx := Lib.hid hx
    replace hv := Lib.hid hv
    clear h hk hb
    go_enter Tryd.func35, Tryd.ntmps35
    go_wp2_with (fail)
    refine CL.out.mono ?_
    rintro e w1 ⟨rfl, rfl⟩
    go_wp2_with (fail)
    go_ret
    exact ⟨by congr 1, rfl⟩
end Go.Proofs.YtmcekbmmpdpbmaaDoor
