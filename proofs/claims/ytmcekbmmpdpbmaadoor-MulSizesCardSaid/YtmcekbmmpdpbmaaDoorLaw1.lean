/- The small functions of the laws of products: made, by. -/
import Derived.Test.YtmcekbmmpdpbmaaDoorRef6
set_option linter.unusedVariables false
set_option linter.unusedSimpArgs false
namespace Go.Proofs.YtmcekbmmpdpbmaaDoor
open Go.RowKit Go.Shelf

set_option maxHeartbeats 400000 in
theorem made_c (A : Option Addr) (c : Nat) (l : List Nat) (w : World) (h : Rd w A l) (hL : Lim l) (hl : l.length ≤ maxLen) (hc : l.length ≤ c) (hnil : A = none → c = 0) :
    Calls Tryd.prog 13 #[.slice A l.length c] w (RetN w (val (l.take 120))) := by
  have CC : Calls Tryd.prog 21 #[.slice A l.length c, .int .i64 120] w (RetN w (val (l.take 120))) := made_n_c A c 120 l w h hL hl hc hnil (by decide)
  replace CC := Lib.hid CC
  go_enter Tryd.func13, Tryd.ntmps13
  go_wp2_with (fail)
  refine CC.out.mono ?_
  rintro e w1 ⟨X, cx, rfl, h1, h2⟩
  go_wp2_with (fail)
  go_ret
  exact ⟨X, cx, rfl, h1, h2⟩
theorem made_nl (l : List Nat) (h : Lim l) (n : Nat) : nl (val (l.take n)) ≤ n := by
  have h1 := val_lt (h.take n)
  refine nl_le.2 (Nat.lt_of_lt_of_le h1 (Nat.pow_le_pow_right (by decide) ?_))
  rw [List.length_take]; exact Nat.min_le_left _ _

set_option maxHeartbeats 1000000 in
theorem by_c (x : Nat) (A : Option Addr) (c a : Nat) (B : Option Addr) (d b : Nat) (w : World) (hx : x < 256) (hA : NatV w A c a) (hB : NatV w B d b) (hG : Flds w) (ha : nl a ≤ 16384) (hb : nl b ≤ 16384) :
    Calls Tryd.prog 26 #[.int .u8 (x : Nat), .slice A (nl a) c, .slice B (nl b) d] w (RetN w (a * b)) := by
  have C0 := school_c A c a B d b w hA hB (by omega) (by omega)
  have C1 := karatsuba_c 16384 A c a B d b w hA hB ha hb (by decide)
  have C2 := toom_c 16384 A c a B d b w hA hB ha hb (by decide)
  have C3 := fast_c A c a B d b w hA hB hG ha hb
  have C4 := mul_c A c a B d b w hA hB hG ha hb
  replace C0 := Lib.hid C0
  replace C1 := Lib.hid C1
  replace C2 := Lib.hid C2
  replace C3 := Lib.hid C3
  replace C4 := Lib.hid C4
  obtain ⟨y, hy⟩ : ∃ y, y = x % 5 := ⟨_, rfl⟩
  have hyI : (x : Int) % 5 = (y : Int) := by omega
  have htI : (x : Int).tmod 5 = (y : Int) := by rw [Int.tmod_eq_emod_of_nonneg (by omega)]; exact hyI
  have hy5 : y < 5 := by omega
  replace hy := Lib.hid hy
  have hcase : y = 0 ∨ y = 1 ∨ y = 2 ∨ y = 3 ∨ y = 4 := by omega
  rcases hcase with rfl | rfl | rfl | rfl | rfl
  · go_enter Tryd.func26, Tryd.ntmps26
    go_wp2_with (fail)
    refine C0.out.mono ?_
    rintro e w1 ⟨X, cx, rfl, h1, h2⟩
    go_wp2_with (fail)
    go_ret
    exact ⟨X, cx, rfl, h1, h2⟩
  · go_enter Tryd.func26, Tryd.ntmps26
    go_wp2_with (fail)
    refine C1.out.mono ?_
    rintro e w1 ⟨X, cx, rfl, h1, h2⟩
    go_wp2_with (fail)
    go_ret
    exact ⟨X, cx, rfl, h1, h2⟩
  · go_enter Tryd.func26, Tryd.ntmps26
    go_wp2_with (fail)
    refine C2.out.mono ?_
    rintro e w1 ⟨X, cx, rfl, h1, h2⟩
    go_wp2_with (fail)
    go_ret
    exact ⟨X, cx, rfl, h1, h2⟩
  · go_enter Tryd.func26, Tryd.ntmps26
    go_wp2_with (fail)
    refine C3.out.mono ?_
    rintro e w1 ⟨X, cx, rfl, h1, h2⟩
    go_wp2_with (fail)
    go_ret
    exact ⟨X, cx, rfl, h1, h2⟩
  · go_enter Tryd.func26, Tryd.ntmps26
    go_wp2_with (fail)
    refine C4.out.mono ?_
    rintro e w1 ⟨X, cx, rfl, h1, h2⟩
    go_wp2_with (fail)
    go_ret
    exact ⟨X, cx, rfl, h1, h2⟩
end Go.Proofs.YtmcekbmmpdpbmaaDoor
