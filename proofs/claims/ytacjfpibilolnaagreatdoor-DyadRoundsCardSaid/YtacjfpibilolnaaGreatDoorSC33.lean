/- The document's greatest common divisor, walked. -/
import Derived.Test.YtacjfpibilolnaaGreatDoorSC32
set_option maxRecDepth 100000
set_option maxHeartbeats 4000000
set_option linter.unusedVariables false
set_option linter.unusedSimpArgs false
namespace Go.Proofs.YtacjfpibilolnaaGreatDoor
open Go.RowKit Go.Shelf
attribute [local go_sem] max2_i min2_i max_two min_two

theorem rgcd_c (aA : Option Addr) (ac a : Nat) (bA : Option Addr) (bc b : Nat) (w : World) (ha : NatV w aA ac a) (hb : NatV w bA bc b) (la : nl a ≤ 16777216) (lb : nl b ≤ 16777216) :
    Calls Tryz.prog 125 #[.slice aA (nl a) ac, .slice bA (nl b) bc] w (RetN w (Nat.gcd a b)) := by
  go_enter Tryz.func125, Tryz.ntmps125
  go_wp2_with (fail)
  go_loopw [0, 1] (fun va vb wr => ∃ (x y : Nat) (X : Option Addr) (cx : Nat) (Y : Option Addr) (cy : Nat), va = .slice X (nl x) cx ∧ vb = .slice Y (nl y) cy ∧ NatV wr X cx x ∧ NatV wr Y cy y ∧ Below w.heap.size w wr ∧ Hid (Nat.gcd x y = Nat.gcd a b) ∧ nl x ≤ 16777216 ∧ nl y ≤ 16777216) (fun va vb wr => natAt wr (some vb))
  case atStart => exact ⟨a, b, aA, ac, bA, bc, rfl, rfl, ha, hb, Below.refl _ _, Lib.hid rfl, la, lb⟩
  case round =>
    obtain ⟨x, y, X, cx, Y, cy, rfl, rfl, hX, hY, hbr, hg, lx, ly⟩ := hrel
    by_cases h0 : y = 0
    · have t1 : decide (0 < (nl y : Int)) = false := by rw [h0, nl_zero]; rfl
      have t2 : decide (0 < nl y) = false := by rw [h0, nl_zero]; rfl
      have ev : x = Nat.gcd a b := by rw [← hg.out, h0, Nat.gcd_zero_right]
      replace ev := Lib.hid ev
      replace h0 := Lib.hid h0
      go_wp2_with (fail)
      go_ret
      rw [← ev.out]
      exact ⟨X, cx, rfl, hX, hbr⟩
    · have t1 : decide (0 < (nl y : Int)) = true := by have := nl_pos.2 h0; simp; omega
      have t2 : decide (0 < nl y) = true := by have := nl_pos.2 h0; simp; omega
      have CD := rdiv_c X cx x Y cy y wr hX hY lx ly (by omega)
      obtain ⟨r, Er⟩ : ∃ z : Nat, z = x % y := ⟨_, rfl⟩
      rw [← Er] at CD
      have lr : nl r ≤ 16777216 := by rw [Er]; exact Nat.le_trans (nl_mod_le x y) lx
      have hr : r < y := by rw [Er]; exact Nat.mod_lt _ (by omega)
      have hg2 : Nat.gcd y r = Nat.gcd a b := by rw [Er, ← hg.out, Nat.gcd_comm x y, Nat.gcd_rec y x, Nat.gcd_comm]
      replace hg2 := Lib.hid hg2
      replace CD := Lib.hid CD
      replace Er := Lib.hid Er
      go_wp2_with (fail)
      refine CD.out.mono ?_
      rintro e w1 ⟨Q, cq, R, cr, rfl, hQ, hR, hb1⟩
      have hY1 := hY.below hb1
      have hmeas : natAt w1 (some (.slice R (nl r) cr)) < natAt wr (some (.slice Y (nl y) cy)) := by rw [hR.at_, hY.at_]; exact hr
      replace hmeas := Lib.hid hmeas
      go_wp2_with (fail)
      go_roundw
      case rel => exact ⟨y, r, Y, cy, R, cr, rfl, rfl, hY1, hR, hbr.cons hb1, hg2, ly, lr⟩
      case measure => exact hmeas.out
end Go.Proofs.YtacjfpibilolnaaGreatDoor
