/- The document's powers, walked. -/
import Derived.Test.YtmcekbmmpdpbmaaDoorRef3
import Derived.Test.YtmcekbmmpdpbmaaDoorPow
set_option linter.unusedVariables false
set_option linter.unusedSimpArgs false
namespace Go.Proofs.YtmcekbmmpdpbmaaDoor
open Go.RowKit Go.Shelf

set_option maxHeartbeats 1000000 in
theorem rpow_c (A : Option Addr) (c a n : Nat) (w : World) (hA : NatV w A c a) (hb : nl a * n ≤ 1000000) (ha : nl a ≤ 1000000) (hn : n ≤ 1073741824) :
    Calls Tryd.prog 23 #[.slice A (nl a) c, .int .i64 (n : Nat)] w (RetN w (a ^ n)) := by
  have hb0 : Below w.heap.size w (w.alloc (.cells #[.int .u32 1] 35)) := (Below.refl _ _).alloc (Nat.le_refl _) _
  have h1 := nat_one _ _ (heap_alloc_new w (.cells #[.int .u32 1] 35))
  have HB := Lib.hid hb
  clear hb
  go_enter Tryd.func23, Tryd.ntmps23
  go_wp2_with (fail)
  go_loopw [5, 6] (fun vo vi wr => ∃ (i o : Nat) (O : Option Addr) (co : Nat), vi = .int .i64 i ∧ vo = .slice O (nl o) co ∧ i ≤ n ∧ NatV wr O co o ∧ Below w.heap.size w wr ∧ Hid (o = a ^ i) ∧ Hid (nl o ≤ nl a * i + 1)) (fun vo vi wr => n - (intOf vi).toNat)
  case atStart => exact ⟨0, 1, _, 1, rfl, by rw [nl_one], Nat.zero_le _, h1, hb0, Lib.hid rfl, Lib.hid (by rw [nl_one]; omega)⟩
  case round =>
    obtain ⟨i, o, O, co, rfl, rfl, hi, hO, hbr, heq, hno⟩ := hrel
    by_cases hlt : i < n
    · have hmi : nl a * i + nl a ≤ 1000000 := by
        have h2 : nl a * (i + 1) ≤ nl a * n := Nat.mul_le_mul_left _ hlt
        rw [Nat.mul_succ] at h2
        have := HB.out
        omega
      have hoB : nl o ≤ 1000001 := by have := hno.out; omega
      have hnn := nl_mul o a
      have hno2 : nl (o * a) ≤ nl a * (i + 1) + 1 := by rw [Nat.mul_succ]; have := hno.out; omega
      replace hno2 := Lib.hid hno2
      clear hnn
      go_wp2_with (fail)
      refine (rschool_c O co o A c a wr hO (hA.below hbr) (by omega) (by omega)).mono ?_
      rintro e w1 ⟨Y, cy, rfl, hY, hb1⟩
      go_wp2_with (fail)
      go_roundw
      case rel => exact ⟨i + 1, o * a, Y, cy, by go_num, rfl, by omega, hY, hbr.cons hb1, Lib.hid (by rw [heq.out, Nat.pow_succ]), hno2⟩
      case measure => simp only [intOf]; omega
    · obtain rfl : i = n := by omega
      go_wp2_with (fail)
      go_ret
      rw [← heq.out]
      exact ⟨O, co, rfl, hO, hbr⟩
end Go.Proofs.YtmcekbmmpdpbmaaDoor
