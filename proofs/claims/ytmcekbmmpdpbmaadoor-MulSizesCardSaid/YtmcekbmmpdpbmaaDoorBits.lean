/- math/bits: Add32, Sub32. -/
import Derived.Test.YtmcekbmmpdpbmaaDoorNat1
set_option linter.unusedVariables false
set_option linter.unusedSimpArgs false
namespace Go.Proofs.YtmcekbmmpdpbmaaDoor
open Go.RowKit

/-- What is borrowed. -/
def brw (x y b : Nat) : Nat := if x < y + b then 1 else 0
def dif (x y b : Nat) : Nat := (x + (4294967296 - y - b)) % 4294967296
theorem dif_lt (x y b : Nat) : dif x y b < 4294967296 := Nat.mod_lt _ (by decide)
theorem brw_le (x y b : Nat) : brw x y b ≤ 1 := by unfold brw; split <;> omega
theorem dif_eq {x y b : Nat} (hx : x < 4294967296) (hy : y < 4294967296) (hb : b ≤ 1) : x + 4294967296 * brw x y b = dif x y b + y + b := by
  unfold dif brw
  split <;> omega
theorem top_bit {n : Nat} (h : n < 4294967296) : n / 2147483648 = (n.testBit 31).toNat := by
  rw [Nat.toNat_testBit]
  omega
theorem tb31 {n : Nat} (h : n < 4294967296) : n.testBit 31 = decide (2147483648 ≤ n) := by
  have := top_bit h
  cases e : n.testBit 31 <;> rw [e] at this <;> simp at this ⊢ <;> omega
theorem brw_bits (x y b : Nat) (hx : x < 4294967296) (hy : y < 4294967296) (hb : b ≤ 1) :
    (((4294967295 ^^^ x) &&& y) ||| ((4294967295 ^^^ (x ^^^ y)) &&& dif x y b)) / 2147483648 = brw x y b := by
  have hd := dif_lt x y b
  have l1 : (4294967295 ^^^ x) &&& y < 4294967296 := Nat.and_lt_two_pow (n := 32) _ hy
  have l2 : (4294967295 ^^^ (x ^^^ y)) &&& dif x y b < 4294967296 := Nat.and_lt_two_pow (n := 32) _ hd
  have e1 : Nat.testBit 4294967295 31 = true := by decide
  rw [top_bit (Nat.or_lt_two_pow (n := 32) l1 l2), Nat.testBit_or, Nat.testBit_and, Nat.testBit_and, Nat.testBit_xor, Nat.testBit_xor, Nat.testBit_xor, e1, tb31 hx, tb31 hy, tb31 hd]
  have e := dif_eq hx hy hb
  have hbw := brw_le x y b
  by_cases h1 : 2147483648 ≤ x <;> by_cases h2 : 2147483648 ≤ y <;> by_cases h3 : 2147483648 ≤ dif x y b <;> simp [h1, h2, h3] <;> omega
theorem brw_int (x y b : Nat) (d : Int) (hd : d = ((dif x y b : Nat) : Int)) (hx : x < 4294967296) (hy : y < 4294967296) (hb : b ≤ 1) :
    bits .or .u32 (bits .and .u32 (bits .xor .u32 IntKind.u32.max (x : Int)) (y : Int)) (bits .and .u32 (bits .xor .u32 IntKind.u32.max (bits .xor .u32 (x : Int) (y : Int))) d) / 2147483648 = (brw x y b : Int) := by
  have hm : IntKind.u32.max = ((4294967295 : Nat) : Int) := by decide
  have hdl := dif_lt x y b
  have a1 : 4294967295 ^^^ x < 4294967296 := Nat.xor_lt_two_pow (n := 32) (by decide) hx
  have a2 : x ^^^ y < 4294967296 := Nat.xor_lt_two_pow (n := 32) hx hy
  have a3 : 4294967295 ^^^ (x ^^^ y) < 4294967296 := Nat.xor_lt_two_pow (n := 32) (by decide) a2
  have a4 : (4294967295 ^^^ x) &&& y < 4294967296 := Nat.and_lt_two_pow (n := 32) _ hy
  have a5 : (4294967295 ^^^ (x ^^^ y)) &&& dif x y b < 4294967296 := Nat.and_lt_two_pow (n := 32) _ hdl
  rw [hm, hd, u32_xor_nat _ _ (by decide) hx, u32_xor_nat _ _ hx hy, u32_xor_nat _ _ (by decide) a2, u32_and_nat _ _ a1 hy, u32_and_nat _ _ a3 hdl, u32_or_nat _ _ a4 a5, ← brw_bits x y b hx hy hb]
  simp

set_option maxHeartbeats 400000 in
theorem sub32_c (x y b : Nat) (w : World) (hx : x < 4294967296) (hy : y < 4294967296) (hb : b ≤ 1) :
    Calls Tryd.prog 46 #[.int .u32 x, .int .u32 y, .int .u32 b] w fun e w' => e = .returned (.tuple #[.int .u32 (dif x y b : Nat), .int .u32 (brw x y b : Nat)]) ∧ w = w' := by
  have HD := Lib.hid (show ((((x : Int) - y) % 4294967296 - b) % 4294967296) = ((dif x y b : Nat) : Int) by unfold dif; omega)
  have HB := Lib.hid (brw_int x y b _ (show (((x : Int) - y - b) % 4294967296) = ((dif x y b : Nat) : Int) by unfold dif; omega) hx hy hb)
  have hs : IntKind.u32.signed = false := rfl
  go_enter Tryd.func46, Tryd.ntmps46
  go_wp2
  go_ret2
  exact ⟨ret2_int HD.out HB.out, rfl⟩
theorem add32_c (x y b : Nat) (w : World) (hx : x < 4294967296) (hy : y < 4294967296) (hb : b ≤ 1) :
    Calls Tryd.prog 44 #[.int .u32 x, .int .u32 y, .int .u32 b] w fun e w' => e = .returned (.tuple #[.int .u32 ((x + y + b) % 4294967296 : Nat), .int .u32 ((x + y + b) / 4294967296 : Nat)]) ∧ w = w' := by
  go_enter Tryd.func44, Tryd.ntmps44
  go_wp2
  go_ret2
  exact ⟨by simp, rfl⟩
end Go.Proofs.YtmcekbmmpdpbmaaDoor
