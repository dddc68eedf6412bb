/- Products by transforms, by the best way, and powers. -/
import Derived.Test.YtmcekbmmpdpbmaaDoorConv
set_option linter.unusedVariables false
set_option linter.unusedSimpArgs false
namespace Go.Proofs.YtmcekbmmpdpbmaaDoor
open Go.RowKit Go.Shelf
attribute [local go_sem] max2_i min2_i max_two min_two

set_option maxHeartbeats 1000000 in
theorem fast_c (A : Option Addr) (c a : Nat) (B : Option Addr) (d b : Nat) (w : World) (hA : NatV w A c a) (hB : NatV w B d b) (hG : Flds w) (ha : nl a ≤ 16384) (hb : nl b ≤ 16384) :
    Calls Tryd.prog 19 #[.slice A (nl a) c, .slice B (nl b) d] w (RetN w (a * b)) := by
  by_cases h : nl a < nl b
  · have hd : decide ((nl a : Int) < (nl b : Int)) = true := by simp; omega
    have hd2 : decide ((16384 : Int) < (nl b : Int)) = false := by simp; omega
    have CC := conv_c B d b A c a w hB hA hG hb ha
    replace CC := Lib.hid CC
    go_enter Tryd.func19, Tryd.ntmps19
    go_wp2_with (fail)
    refine CC.out.mono ?_
    rintro e w1 ⟨X, cx, n, L, rfl, hLl, hX, hLm, hnc, hn, hv, hb1⟩
    go_wp2_with (fail)
    refine (carry_c X n cx L w1 hLl hX hLm (by omega) hnc).mono ?_
    rintro e w2 ⟨Y, cy, rfl, h1, h2⟩
    go_wp2_with (fail)
    go_ret
    rw [Nat.mul_comm a b, ← hv]
    exact ⟨Y, cy, rfl, h1, hb1.cons h2⟩
  · have hd : decide ((nl a : Int) < (nl b : Int)) = false := by simp; omega
    have hd2 : decide ((16384 : Int) < (nl a : Int)) = false := by simp; omega
    have CC := conv_c A c a B d b w hA hB hG ha hb
    replace CC := Lib.hid CC
    go_enter Tryd.func19, Tryd.ntmps19
    go_wp2_with (fail)
    refine CC.out.mono ?_
    rintro e w1 ⟨X, cx, n, L, rfl, hLl, hX, hLm, hnc, hn, hv, hb1⟩
    go_wp2_with (fail)
    refine (carry_c X n cx L w1 hLl hX hLm (by omega) hnc).mono ?_
    rintro e w2 ⟨Y, cy, rfl, h1, h2⟩
    go_wp2_with (fail)
    go_ret
    rw [← hv]
    exact ⟨Y, cy, rfl, h1, hb1.cons h2⟩
end Go.Proofs.YtmcekbmmpdpbmaaDoor
