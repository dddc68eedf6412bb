/- The layer of naturals, first part: Clone, Make, at. -/
import Derived.Test.YtmcekbmmpdpbmaaDoorBase
set_option linter.unusedVariables false
set_option linter.unusedSimpArgs false
namespace Go.Proofs.YtmcekbmmpdpbmaaDoor
open Go.RowKit

/-- A slice that holds the limbs of a natural. -/
structure NatV (w : World) (A : Option Addr) (c n : Nat) : Prop where
  rd : Rd w A (limbs n)
  cap : nl n ≤ c
  cmax : c ≤ maxLen
theorem NatV.below {w w' A c n} (h : NatV w A c n) (hb : Below w.heap.size w w') : NatV w' A c n := ⟨h.rd.below hb, h.cap, h.cmax⟩
/-- What a call that makes a natural leaves. -/
def RetN (w : World) (n : Nat) (e : Ending) (w' : World) : Prop := ∃ A c, e = .returned (.slice A (nl n) c) ∧ NatV w' A c n ∧ Below w.heap.size w w'

set_option maxHeartbeats 400000 in
theorem clone_c (A : Option Addr) (n c : Nat) (l : List Nat) (w : World) (hn : l.length = n) (h : Rd w A l) (hl : n ≤ 1099511627776) :
  Calls Tryd.prog 45 #[.slice A n c] w fun e w' => ∃ B d, e = .returned (.slice B n d) ∧ n ≤ d ∧ d ≤ maxLen ∧ Rd w' B l ∧ Below w.heap.size w w' := by
  subst hn
  have hnil := fun (a : Option Addr) (n : Nat) (w : World) => Lib.run_eql_slice_nil (P := Tryd.prog) w 22 35 a n c 0 0 Tryd.underlying22
  obtain ⟨i0, hi, hz0, hz1, hz2⟩ := info_parts info_u32
  cases A with
  | none =>
    have hl0 : l = [] := by
      rcases h with h | ⟨ad, e, _⟩
      · exact List.map_eq_nil_iff.1 h
      · cases e
    subst hl0
    go_enter Tryd.func45, Tryd.ntmps45
    go_wp2
    go_ret
    exact ⟨none, 0, rfl, by simp, by decide, .inl rfl, Below.refl _ _⟩
  | some ad =>
    go_enter Tryd.func45, Tryd.ntmps45
    have hb1 : Below w.heap.size w (w.alloc (.cells #[] 35)) := (Below.refl _ _).alloc (Nat.le_refl _) _
    go_wp2_with (at_builtin; refine wpList_append_own_at _ rfl _ _ 22 rfl w.heap.size 35 i0 (.int .u32 0) 1 4 Tryd.underlying22 hi hz0 hz1 hz2 rfl (by decide) _ 0 [] rfl (World.ownsRow_lit w #[] 0 (Nat.le_refl _) (by decide) rfl) ad l.length c (vals l) rfl (by simp [vals]) (h.below hb1).cells (vals_one l) (by simp only [maxLen]; omega) (by omega) (by simp) ?_)
    intro v' w1 hown hg _ _
    (try simp only [Nat.zero_add, List.nil_append] at hown)
    obtain ⟨B, d, rfl, h1, h2, h3⟩ := ownV_rd hown
    have hb2 : Below w.heap.size w w1 := hb1.grown hg (by simp) (fun k hk => by simp [Value.ownBlock] at hk; omega)
    clear hg
    go_wp2
    go_ret
    exact ⟨B, d, rfl, h1, h2, h3, hb2⟩

set_option maxHeartbeats 400000 in
theorem make_c (A : Option Addr) (n c : Nat) (l : List Nat) (w : World) (hn : l.length = n) (h : Rd w A l) (hL : Lim l) (hl : n ≤ 1099511627776) (hc : n ≤ c) :
    Calls Tryd.prog 30 #[.slice A n c] w (RetN w (val l)) := by
  subst hn
  have fin : ∀ k, k ≤ l.length → (∀ i, k ≤ i → i < l.length → gl l i = 0) → (k = 0 ∨ gl l (k - 1) ≠ 0) → Calls Tryd.prog 45 #[.slice A k c] w (RetN w (val l)) := fun k hk h0 h1 => by
    have e := take_make hL hk h0 h1
    have e2 : k = nl (val l) := by unfold nl; rw [← e, List.length_take, Nat.min_eq_left hk]
    refine (clone_c A k c (l.take k) w (by simp [hk]) ?_ (by omega)).mono ?_
    · rcases h with h | ⟨ad, rfl, h⟩
      · exact .inl (by simp [vals] at h ⊢; simp [h])
      · refine .inr ⟨ad, rfl, fun i u hu => h i u ?_⟩
        simp only [vals, List.map_take] at hu ⊢
        by_cases hik : i < k
        · rwa [List.getElem?_take_of_lt hik] at hu
        · rw [List.getElem?_take_eq_none (by omega)] at hu; cases hu
    · rintro e' w' ⟨B, d, rfl, h1, h2, h3, h4⟩
      exact ⟨B, d, by rw [← e2], ⟨by rw [← e]; exact h3, by omega, h2⟩, h4⟩
  go_enter Tryd.func30, Tryd.ntmps30
  go_wp2_with (fail)
  go_loop [3] (fun v => ∃ k : Nat, v = .int .i64 k ∧ k ≤ l.length ∧ ∀ i, k ≤ i → i < l.length → gl l i = 0) (fun v => (intOf v).toNat)
  case atStart => exact ⟨l.length, rfl, Nat.le_refl _, fun i h1 h2 => by omega⟩
  case round =>
    obtain ⟨k, rfl, hk, h0⟩ := hrel
    have H0 := Lib.hid h0
    have FIN := Lib.hid fin
    clear h0 fin
    cases k with
    | zero =>
      go_wp2_with (fail)
      refine (FIN.out 0 (by omega) H0.out (.inl rfl)).mono ?_
      rintro e w1 ⟨B, d, rfl, h1, h2⟩
      go_wp2_with (fail)
      go_ret
      exact ⟨B, d, rfl, h1, h2⟩
    | succ k =>
      obtain ⟨ad, rfl, hcell⟩ := h.get k (by omega)
      by_cases hz : gl l k = 0
      · have hb : ((gl l k : Int) == 0) = true := ieqT (by omega)
        have HZ := Lib.hid hz
        clear hz
        go_wp2_with (fail)
        go_round
        case rel => exact ⟨k, by go_num, by omega, fun i h1 h2 => by
          by_cases e : i = k
          · rw [e]; exact HZ.out
          · exact H0.out i (by omega) h2⟩
        case measure => simp [intOf] <;> omega
      · have hb : ((gl l k : Int) == 0) = false := ieqF (by omega)
        go_wp2_with (fail)
        refine (FIN.out (k + 1) (by omega) H0.out (.inr hz)).mono ?_
        rintro e w1 ⟨B, d, rfl, h1, h2⟩
        go_wp2_with (fail)
        go_ret
        exact ⟨B, d, rfl, h1, h2⟩
end Go.Proofs.YtmcekbmmpdpbmaaDoor
