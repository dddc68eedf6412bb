/- The document's rest by a limb, walked. -/
import Derived.Test.YtmcekbmmpdpbmaaDoorRef4
set_option linter.unusedVariables false
set_option linter.unusedSimpArgs false
namespace Go.Proofs.YtmcekbmmpdpbmaaDoor
open Go.RowKit Go.Shelf

theorem rest_step (a k m : Nat) : (a / 4294967296 ^ (k + 1) % m * 4294967296 + a / 4294967296 ^ k % 4294967296) % m = a / 4294967296 ^ k % m := by
  have h : a / 4294967296 ^ (k + 1) = a / 4294967296 ^ k / 4294967296 := by rw [Nat.pow_succ, ← Nat.div_div_eq_div_mul]
  rw [h]
  generalize a / 4294967296 ^ k = t
  have e := Nat.div_add_mod t 4294967296
  rw [Nat.add_mod, Nat.mod_mul_mod, ← Nat.add_mod, Nat.mul_comm, e]

set_option maxHeartbeats 1000000 in
theorem rest_c (A : Option Addr) (c a m : Nat) (w : World) (hA : NatV w A c a) (ha : nl a ≤ 1073741824) (hm : 0 < m) (hm2 : m < 4294967296) :
    Calls Tryd.prog 28 #[.slice A (nl a) c, .int .u32 (m : Nat)] w fun e w' => e = .returned (.int .u32 (a % m : Nat)) ∧ w' = w := by
  have hm0 : ((m : Int) == 0) = false := ieqF (by omega)
  go_enter Tryd.func28, Tryd.ntmps28
  go_wp2_with (fail)
  go_loopw [5, 6] (fun vr vi wr => ∃ (k r : Nat), vi = .int .i64 ((k : Int) - 1) ∧ vr = .int .u64 r ∧ r < m ∧ k ≤ nl a ∧ wr = w ∧ Hid (r = a / 4294967296 ^ k % m)) (fun vr vi wr => (intOf vi + 1).toNat)
  case atStart => exact ⟨nl a, 0, rfl, rfl, hm, Nat.le_refl _, rfl, Lib.hid (by rw [Nat.div_eq_of_lt (nl_lt a), Nat.zero_mod])⟩
  case round =>
    obtain ⟨k, r, rfl, rfl, hr, hk, hww, heq⟩ := hrel
    rw [hww]
    clear hww
    cases k with
    | zero =>
      have hlt : r < 4294967296 := by omega
      go_wp2_with (fail)
      go_ret
      have h2 := heq.out
      rw [Nat.pow_zero, Nat.div_one] at h2
      rw [← h2]
      exact ⟨rfl, rfl⟩
    | succ k =>
      rw [show (((k + 1 : Nat) : Int) - 1) = (k : Int) by omega]
      obtain ⟨ad, rfl, hcx⟩ := hA.rd.get k hk
      have hxl := (lim_limbs a).gl k
      obtain ⟨x, hx⟩ : ∃ x, x = gl (limbs a) k := ⟨_, rfl⟩
      rw [← hx] at hcx hxl
      obtain ⟨t, ht⟩ : ∃ t, t = (r * 4294967296 + x) % m := ⟨_, rfl⟩
      have htI : ((r : Int) * 4294967296 + (x : Int)) % (m : Int) = (t : Int) := by rw [ht]; simp
      have htm : t < m := by rw [ht]; exact Nat.mod_lt _ hm
      have hfin : t = a / 4294967296 ^ k % m := by rw [ht, heq.out, hx, limbs_gl, rest_step]
      replace hfin := Lib.hid hfin
      replace hx := Lib.hid hx
      replace ht := Lib.hid ht
      go_wp2_with (fail)
      go_roundw
      case rel => exact ⟨k, t, by first | rfl | trivial | go_num, by rw [htI], htm, by omega, by first | rfl | trivial, hfin⟩
      case measure => simp only [intOf]; omega
end Go.Proofs.YtmcekbmmpdpbmaaDoor
