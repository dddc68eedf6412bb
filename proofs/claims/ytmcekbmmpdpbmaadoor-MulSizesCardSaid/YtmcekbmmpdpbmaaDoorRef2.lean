/- The document's answers, walked: naturals cut, held equal, multiplied. -/
import Derived.Test.YtmcekbmmpdpbmaaDoorRef1
set_option linter.unusedVariables false
set_option linter.unusedSimpArgs false
namespace Go.Proofs.YtmcekbmmpdpbmaaDoor
open Go.RowKit Go.Shelf
attribute [local go_sem] max2_i min2_i max_two min_two

theorem Rd.take {w : World} {A : Option Addr} {l : List Nat} (h : Rd w A l) (k : Nat) : Rd w A (l.take k) := by
  rcases h with h | ⟨ad, rfl, h⟩
  · exact .inl (by simp [vals] at h ⊢; simp [h])
  · refine .inr ⟨ad, rfl, fun i u hu => h i u ?_⟩
    simp only [vals, List.map_take] at hu ⊢
    by_cases hik : i < k
    · rwa [List.getElem?_take_of_lt hik] at hu
    · rw [List.getElem?_take_eq_none (by omega)] at hu; cases hu

set_option maxHeartbeats 400000 in
theorem made_n_c (A : Option Addr) (c m : Nat) (l : List Nat) (w : World) (h : Rd w A l) (hL : Lim l) (hl : l.length ≤ maxLen) (hc : l.length ≤ c) (hnil : A = none → c = 0) (hm : m ≤ 1099511627776) :
    Calls Tryd.prog 21 #[.slice A l.length c, .int .i64 (m : Nat)] w (RetN w (val (l.take m))) := by
  obtain ⟨k, hk⟩ : ∃ k, k = min l.length m := ⟨_, rfl⟩
  have hkI : min (l.length : Int) (m : Int) = (k : Int) := by omega
  have hkl : k ≤ l.length := by omega
  have hkm : k ≤ m := by omega
  have e : l.take m = l.take k := by
    rw [hk]
    rcases Nat.le_total l.length m with h1 | h1
    · rw [Nat.min_eq_left h1, List.take_of_length_le h1, List.take_of_length_le (Nat.le_refl _)]
    · rw [Nat.min_eq_right h1]
  rw [e]
  have hmk := rmake_c A k c (l.take k) w (by simp [hkl]) (h.take k) (hL.take k) (by omega) (by omega) hnil
  have HM := Lib.hid hmk
  have HK := Lib.hid hk
  clear hmk hk e
  go_enter Tryd.func21, Tryd.ntmps21
  go_wp2_with (fail)
  refine HM.out.mono ?_
  rintro e w1 ⟨X, cx, rfl, h1, h2⟩
  go_wp2_with (fail)
  go_ret
  exact ⟨X, cx, rfl, h1, h2⟩

set_option maxHeartbeats 400000 in
theorem same_c (A : Option Addr) (c a : Nat) (B : Option Addr) (d b : Nat) (w : World) (hA : NatV w A c a) (hB : NatV w B d b) (ha : nl a ≤ 1099511627776) (hb : nl b ≤ 1099511627776) :
    Calls Tryd.prog 15 #[.slice A (nl a) c, .slice B (nl b) d] w fun e w' => e = .returned (.bool (decide (a = b))) ∧ Below w.heap.size w w' := by
  by_cases hl : nl a = nl b
  · have hb1 : ((nl a : Int) != (nl b : Int)) = false := ineF (by omega)
    have fin : (∀ j, j < nl a → gl (limbs a) j = gl (limbs b) j) → a = b := fun h => limbs_inj (val_eq_of hl (fun j _ hj => h j hj))
    have FIN := Lib.hid fin
    clear fin
    go_enter Tryd.func15, Tryd.ntmps15
    go_wp2_with (fail)
    go_loopw [5] (fun i wr => ∃ k : Nat, i = .int .i64 (k : Int) ∧ k ≤ nl a ∧ Hid (∀ j, j < k → gl (limbs a) j = gl (limbs b) j) ∧ ∃ m, wr = w.drewN m) (fun i wr => nl a - (intOf i).toNat)
    case atStart => exact ⟨0, rfl, Nat.zero_le _, Lib.hid (fun j h => absurd h (by omega)), 0, rfl⟩
    case round =>
      obtain ⟨k, rfl, hk, hj, m, rfl⟩ := hrel
      by_cases hlt : k < nl a
      · obtain ⟨ad, rfl, hcA⟩ := hA.rd.get k hlt
        obtain ⟨bd, rfl, hcB⟩ := hB.rd.get k (by show k < nl b; omega)
        have hltb : k < nl b := by omega
        obtain ⟨x, hx⟩ : ∃ x, gl (limbs a) k = x := ⟨_, rfl⟩
        obtain ⟨y, hy⟩ : ∃ y, gl (limbs b) k = y := ⟨_, rfl⟩
        rw [hx] at hcA
        rw [hy] at hcB
        have HX := Lib.hid hx
        have HY := Lib.hid hy
        clear hx hy
        by_cases hxy : x = y
        · have hn : ((x : Int) != (y : Int)) = false := ineF (by omega)
          have HXY := Lib.hid hxy
          clear hxy
          go_wp2_with (fail)
          go_quiet (fail)
          go_wp2_with (fail)
          go_roundw
          case rel =>
            exact ⟨k + 1, by go_num, by omega, Lib.hid (fun j hjk => by
              by_cases e : j = k
              · rw [e, HX.out, HY.out, HXY.out]
              · exact hj.out j (by omega)), _, World.drewN_drewN .. ▸ World.drewN_drewN ..⟩
          case measure => simp only [intOf]; omega
        · have hn : ((x : Int) != (y : Int)) = true := ineT (by omega)
          have HXY := Lib.hid hxy
          clear hxy
          go_wp2_with (fail)
          go_quiet (fail)
          go_wp2_with (fail)
          go_ret
          exact ⟨ret_bool (by
            have : a ≠ b := fun e => HXY.out (by rw [← HX.out, ← HY.out, e])
            simp [this]), ((Below.refl _ _).drewN _).drewN _⟩
      · go_wp2_with (fail)
        go_ret
        exact ⟨ret_bool (by
          have : a = b := FIN.out (fun j h => hj.out j (by omega))
          simp [this]), (Below.refl _ _).drewN _⟩
  · have hb1 : ((nl a : Int) != (nl b : Int)) = true := ineT (by omega)
    have hne : a ≠ b := fun e => hl (by rw [e])
    go_enter Tryd.func15, Tryd.ntmps15
    go_wp2_with (fail)
    go_ret
    exact ⟨ret_bool (by simp [hne]), Below.refl _ _⟩
end Go.Proofs.YtmcekbmmpdpbmaaDoor
