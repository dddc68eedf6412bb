/- The library's functions that the kit's shelf has proved, laid for this program. -/
import Derived.Shelf.Small.Bits
import Derived.Shelf.Spec.BitsCarry
import Derived.Shelf.Bits.Mul64
import Derived.Test.YtmcekbmmpdpbmaaDoorProg
set_option linter.unusedVariables false
namespace Go.Proofs.YtmcekbmmpdpbmaaDoor
open Go.Shelf
def rens : Ren :=
  { f := fun x => match x with
    | 125 => 47
    | 128 => 54
    | 129 => 59
    | 264 => 52
    | n => n
    t := fun x => match x with
    | 3 => 3
    | 4 => 4
    | 5 => 5
    | 9 => 9
    | 46 => 51
    | 51 => 35
    | 53 => 36
    | n => n
    g := fun x => x }
def rens7 : Ren :=
  { f := fun x => match x with
    | 25 => 53
    | n => n
    t := fun x => match x with
    | 22 => 36
    | n => n
    g := fun x => x }
theorem lays128 : Lays.n128 Tryd.prog rens :=
  { mixed := rfl, f128 := Tryd.func54.trans (congrArg some rfl), t3 := Tryd.underlying3, a3 := Tryd.isAgg3, z3 := Tryd.sizeOf3, v3 := Tryd.zeroValue3, t4 := Tryd.underlying4, a4 := Tryd.isAgg4, z4 := Tryd.sizeOf4, v4 := Tryd.zeroValue4, t5 := Tryd.underlying5, a5 := Tryd.isAgg5, z5 := Tryd.sizeOf5, v5 := Tryd.zeroValue5, t9 := Tryd.underlying9, a9 := Tryd.isAgg9, z9 := Tryd.sizeOf9, v9 := Tryd.zeroValue9, t46 := Tryd.underlying51, a46 := Tryd.isAgg51, z46 := Tryd.sizeOf51, v46 := Tryd.zeroValue51, t51 := Tryd.underlying35, a51 := Tryd.isAgg35, z51 := Tryd.sizeOf35, v51 := Tryd.zeroValue35 }
theorem lays129 : Lays.n129 Tryd.prog rens :=
  { mixed := rfl, f129 := Tryd.func59.trans (congrArg some rfl), t3 := Tryd.underlying3, a3 := Tryd.isAgg3, z3 := Tryd.sizeOf3, v3 := Tryd.zeroValue3, t4 := Tryd.underlying4, a4 := Tryd.isAgg4, z4 := Tryd.sizeOf4, v4 := Tryd.zeroValue4, t5 := Tryd.underlying5, a5 := Tryd.isAgg5, z5 := Tryd.sizeOf5, v5 := Tryd.zeroValue5, t9 := Tryd.underlying9, a9 := Tryd.isAgg9, z9 := Tryd.sizeOf9, v9 := Tryd.zeroValue9, t46 := Tryd.underlying51, a46 := Tryd.isAgg51, z46 := Tryd.sizeOf51, v46 := Tryd.zeroValue51, t53 := Tryd.underlying36, a53 := Tryd.isAgg36, z53 := Tryd.sizeOf36, v53 := Tryd.zeroValue36 }
theorem lays125 : Lays.n125 Tryd.prog rens :=
  { mixed := rfl, f125 := Tryd.func47.trans (congrArg some rfl), f128 := Tryd.func54.trans (congrArg some rfl), f129 := Tryd.func59.trans (congrArg some rfl), t3 := Tryd.underlying3, a3 := Tryd.isAgg3, z3 := Tryd.sizeOf3, v3 := Tryd.zeroValue3, t4 := Tryd.underlying4, a4 := Tryd.isAgg4, z4 := Tryd.sizeOf4, v4 := Tryd.zeroValue4, t5 := Tryd.underlying5, a5 := Tryd.isAgg5, z5 := Tryd.sizeOf5, v5 := Tryd.zeroValue5, t9 := Tryd.underlying9, a9 := Tryd.isAgg9, z9 := Tryd.sizeOf9, v9 := Tryd.zeroValue9, t46 := Tryd.underlying51, a46 := Tryd.isAgg51, z46 := Tryd.sizeOf51, v46 := Tryd.zeroValue51, t51 := Tryd.underlying35, a51 := Tryd.isAgg35, z51 := Tryd.sizeOf35, v51 := Tryd.zeroValue35, t53 := Tryd.underlying36, a53 := Tryd.isAgg36, z53 := Tryd.sizeOf36, v53 := Tryd.zeroValue36 }
theorem lays264 : Lays.n264 Tryd.prog rens :=
  { mixed := rfl, f264 := Tryd.func52.trans (congrArg some rfl), t46 := Tryd.underlying51, a46 := Tryd.isAgg51, z46 := Tryd.sizeOf51, v46 := Tryd.zeroValue51, t53 := Tryd.underlying36, a53 := Tryd.isAgg36, z53 := Tryd.sizeOf36, v53 := Tryd.zeroValue36 }
theorem lays25 : Lays7.n25 Tryd.prog rens7 :=
  { mixed := rfl, f25 := Tryd.func53.trans (congrArg some rfl), t22 := Tryd.underlying36, a22 := Tryd.isAgg36, z22 := Tryd.sizeOf36, v22 := Tryd.zeroValue36, i22 := rfl }
theorem len32_c (x : Nat) (w : World) (h1 : x < 4294967296) :
    Calls Tryd.prog 54 #[.int .u32 (x : Nat)] w fun e w' => e = .returned (.int .i64 (Lib.bitLen x)) ∧ w' = w := by
  have := Any.bits_Len32 lays128 (x : Int) w (by omega) (by omega)
  rwa [Int.toNat_natCast] at this
theorem len_c (x : Nat) (w : World) (h1 : x < 18446744073709551616) :
    Calls Tryd.prog 47 #[.int .u64 (x : Nat)] w fun e w' => e = .returned (.int .i64 (Lib.bitLen x)) ∧ w' = w := by
  have := Any.bits_Len lays125 (x : Int) w (by omega) (by omega)
  rwa [Int.toNat_natCast] at this
theorem mul64_c (x y : Nat) (w : World) (hx : x < 18446744073709551616) (hy : y < 18446744073709551616) :
    Calls Tryd.prog 52 #[.int .u64 x, .int .u64 y] w fun e w' => e = .returned (.tuple #[.int .u64 ((x * y / 18446744073709551616 : Nat) : Int), .int .u64 ((x * y % 18446744073709551616 : Nat) : Int)]) ∧ w' = w :=
  Any.bits_Mul64 lays264 x y hx hy w
theorem add64_r (x y c : Nat) (hc : c ≤ 1) (w : World) :
    (callFunc 53 #[.int .u64 x, .int .u64 y, .int .u64 c]).run Tryd.prog w =
      .ok (.value (.tuple #[.int .u64 (((x + y + c) % 18446744073709551616 : Nat) : Int), .int .u64 (((x + y + c) / 18446744073709551616 : Nat) : Int)])) w :=
  Any7.bits_Add64 lays25 x y c hc w
end Go.Proofs.YtmcekbmmpdpbmaaDoor
