/- nat.Cmp again: it only draws. -/
import Derived.Test.YtacjfpibilolnaaGreatDoorSC05
import Derived.BigQuiet
set_option maxRecDepth 100000
set_option maxHeartbeats 4000000
set_option linter.unusedVariables false
set_option linter.unusedSimpArgs false
namespace Go.Proofs.YtacjfpibilolnaaGreatDoor
open Go.RowKit Go.Shelf
attribute [local go_sem] max2_i min2_i max_two min_two
theorem cmp_q (A : Option Addr) (c a : Nat) (B : Option Addr) (d b : Nat) (w : World) (hA : NatV w A c a) (hB : NatV w B d b) (ha : nl a ≤ 1099511627776) (hb : nl b ≤ 1099511627776) :
    Calls Tryz.prog 106 #[.slice A (nl a) c, .slice B (nl b) d] w fun e w' => e = .returned (.int .i64 (cmpN a b)) ∧ ∃ k, w' = w.drewN k := by
  by_cases hl : nl a = nl b
  · have fin : ∀ k, k < nl a → (∀ j, k + 1 ≤ j → j < nl a → gl (limbs a) j = gl (limbs b) j) → (gl (limbs a) k < gl (limbs b) k → cmpN a b = -1) ∧ (gl (limbs b) k < gl (limbs a) k → cmpN a b = 1) := fun k hk hj =>
      ⟨fun h => cmpN_lt (by have := val_lt_of (l := limbs a) (m := limbs b) hl (lim_limbs a) hk hj h; rwa [val_limbs, val_limbs] at this),
       fun h => cmpN_gt (by have := val_lt_of (l := limbs b) (m := limbs a) hl.symm (lim_limbs b) (k := k) (by unfold nl at *; omega) (fun j h1 h2 => (hj j h1 (by unfold nl at *; omega)).symm) h; rwa [val_limbs, val_limbs] at this)⟩
    have fin0 : (∀ j, 0 ≤ j → j < nl a → gl (limbs a) j = gl (limbs b) j) → cmpN a b = 0 := fun h => cmpN_eq (limbs_inj (val_eq_of hl h))
    have FIN := Lib.hid fin
    have FIN0 := Lib.hid fin0
    have hb1 : ((nl a : Int) != (nl b : Int)) = false := ineF (by omega)
    have hb2 : (nl a != nl b) = false := by simp [hl]
    have HL := Lib.hid hl
    clear fin fin0 hl
    go_enter Tryz.func106, Tryz.ntmps106
    go_wp2_with (fail)
    go_loopw [5] (fun i wr => ∃ k : Nat, i = .int .i64 ((k : Int) - 1) ∧ k ≤ nl a ∧ (∀ j, k ≤ j → j < nl a → gl (limbs a) j = gl (limbs b) j) ∧ ∃ m, wr = w.drewN m) (fun i wr => (intOf i + 1).toNat)
    case atStart => exact ⟨nl a, rfl, Nat.le_refl _, fun j h1 h2 => by omega, 0, rfl⟩
    case round =>
      obtain ⟨k, rfl, hk, hj, m, rfl⟩ := hrel
      have HJ := Lib.hid hj
      clear hj
      cases k with
      | zero =>
        go_wp2_with (fail)
        go_ret
        exact ⟨ret_int (FIN0.out HJ.out).symm, ⟨_, by first | rfl | (simp only [World.drewN_drewN]; rfl)⟩⟩
      | succ k =>
        rw [show (((k + 1 : Nat) : Int) - 1) = (k : Int) by omega]
        obtain ⟨ad, rfl, hcA⟩ := hA.rd.get k hk
        obtain ⟨bd, rfl, hcB⟩ := hB.rd.get k (by have := HL.out; unfold nl at *; omega)
        have i1 : k < nl a := hk
        have i2 : k < nl b := by have := HL.out; omega
        have hF := FIN.out k hk (fun j h1 h2 => HJ.out j h1 h2)
        obtain ⟨x, hx⟩ : ∃ x, gl (limbs a) k = x := ⟨_, rfl⟩
        obtain ⟨y, hy⟩ : ∃ y, gl (limbs b) k = y := ⟨_, rfl⟩
        rw [hx] at hcA
        rw [hy] at hcB
        rw [hx, hy] at hF
        have HF := Lib.hid hF
        have HX := Lib.hid hx
        have HY := Lib.hid hy
        clear hF hx hy
        rcases Nat.lt_trichotomy x y with h | h | h
        · have b1 : decide ((x : Int) < (y : Int)) = true := by simp; omega
          have b2 : decide (x < y) = true := by simp; omega
          have HV := Lib.hid (HF.out.1 h)
          clear h
          go_wp2_with (fail)
          go_quiet (fail)
          go_wp2_with (fail)
          go_ret
          exact ⟨ret_int HV.out.symm, ⟨_, by first | rfl | (simp only [World.drewN_drewN]; rfl)⟩⟩
        · have b1 : decide ((x : Int) < (y : Int)) = false := by simp; omega
          have b2 : decide (x < y) = false := by simp; omega
          have b3 : decide ((y : Int) < (x : Int)) = false := by simp; omega
          have b4 : decide (y < x) = false := by simp; omega
          have HV := Lib.hid h
          clear h
          go_wp2_with (fail)
          go_quiet (fail)
          go_wp2_with (fail)
          go_quiet (fail)
          go_wp2_with (fail)
          go_roundw
          case rel => exact ⟨k, by go_num, by omega, fun j h1 h2 => by
            by_cases e : j = k
            · rw [e, HX.out, HY.out, HV.out]
            · exact HJ.out j (by omega) h2, _, World.drewN_drewN .. ▸ World.drewN_drewN ..⟩
          case measure => simp [intOf] <;> omega
        · have b1 : decide ((x : Int) < (y : Int)) = false := by simp; omega
          have b2 : decide (x < y) = false := by simp; omega
          have b3 : decide ((y : Int) < (x : Int)) = true := by simp; omega
          have b4 : decide (y < x) = true := by simp; omega
          have HV := Lib.hid (HF.out.2 h)
          clear h
          go_wp2_with (fail)
          go_quiet (fail)
          go_wp2_with (fail)
          go_quiet (fail)
          go_wp2_with (fail)
          go_ret
          exact ⟨ret_int HV.out.symm, ⟨_, by first | rfl | (simp only [World.drewN_drewN]; rfl)⟩⟩
  · have hb1 : ((nl a : Int) != (nl b : Int)) = true := ineT (by omega)
    have hb2 : (nl a != nl b) = true := by simp [hl]
    go_enter Tryz.func106, Tryz.ntmps106
    go_wp2_with (fail)
    go_ret
    refine ⟨ret_int ?_, ⟨0, rfl⟩⟩
    rcases Nat.lt_or_ge (nl a) (nl b) with h | h
    · rw [cmpN_lt (show a < b by have := lt_nl.1 h; have := nl_lt a; omega)]; omega
    · rw [cmpN_gt (show b < a by have := lt_nl.1 (show nl b < nl a by omega); have := nl_lt b; omega)]; omega

end Go.Proofs.YtacjfpibilolnaaGreatDoor
