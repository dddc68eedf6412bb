/- The document's answers, walked: naturals made, and held equal. -/
import Derived.Test.YtmcekbmmpdpbmaaDoorMul1
import Derived.Test.YtmcekbmmpdpbmaaDoorNat3
import Derived.Laws.AppendOwnNone
set_option linter.unusedVariables false
set_option linter.unusedSimpArgs false
namespace Go.Proofs.YtmcekbmmpdpbmaaDoor
open Go.RowKit Go.Shelf
attribute [local go_sem] max2_i min2_i max_two min_two

set_option maxHeartbeats 1000000 in
theorem rmake_c (A : Option Addr) (n c : Nat) (l : List Nat) (w : World) (hn : l.length = n) (h : Rd w A l) (hL : Lim l) (hl : n ≤ 1099511627776) (hc : n ≤ c) (hnil : A = none → c = 0) :
    Calls Tryd.prog 36 #[.slice A n c] w (RetN w (val l)) := by
  subst hn
  obtain ⟨i0, hi, hz0, hz1, hz2⟩ := info_parts info_u32
  have fin : ∀ k, k ≤ l.length → (∀ i, k ≤ i → i < l.length → gl l i = 0) → (k = 0 ∨ gl l (k - 1) ≠ 0) → l.take k = limbs (val l) ∧ k = nl (val l) := fun k hk h0 h1 => by
    have e := take_make hL hk h0 h1
    exact ⟨e, by unfold nl; rw [← e, List.length_take, Nat.min_eq_left hk]⟩
  have hb1 : Below w.heap.size w (w.alloc (.cells #[] 35)) := (Below.refl _ _).alloc (Nat.le_refl _) _
  go_enter Tryd.func36, Tryd.ntmps36
  go_wp2_with (fail)
  go_loop [3] (fun v => ∃ k : Nat, v = .int .i64 k ∧ k ≤ l.length ∧ ∀ i, k ≤ i → i < l.length → gl l i = 0) (fun v => (intOf v).toNat)
  case atStart => exact ⟨l.length, rfl, Nat.le_refl _, fun i h1 h2 => by omega⟩
  case round =>
    obtain ⟨k, rfl, hk, h0⟩ := hrel
    have H0 := Lib.hid h0
    have FIN := Lib.hid fin
    clear h0 fin
    cases k with
    | zero =>
      obtain ⟨e1, e2⟩ := FIN.out 0 (by omega) H0.out (.inl rfl)
      have ev : val l = 0 := nl_eq_zero.1 e2.symm
      replace ev := Lib.hid ev
      clear e1 e2
      rcases A with _ | ad
      · obtain rfl : c = 0 := hnil rfl
        go_wp2_with (at_builtin; refine wpList_append_own_none rfl _ _ 22 rfl w.heap.size 35 i0 1 Tryd.underlying22 hi _ 0 [] rfl (World.ownsRow_lit w #[] 0 (Nat.le_refl _) (by decide) rfl) rfl ?_)
        go_wp2
        go_ret
        exact ⟨some ⟨w.heap.size, 0, none⟩, 0, by rw [ev.out, nl_zero]; rfl, ⟨by rw [ev.out, limbs_zero]; exact .inl rfl, by rw [ev.out, nl_zero]; exact Nat.le_refl _, by decide⟩, hb1⟩
      · go_wp2_with (at_builtin; refine wpList_append_own_at _ rfl _ _ 22 rfl w.heap.size 35 i0 (.int .u32 0) 1 4 Tryd.underlying22 hi hz0 hz1 hz2 rfl (by decide) _ 0 [] rfl (World.ownsRow_lit w #[] 0 (Nat.le_refl _) (by decide) rfl) ad 0 c [] rfl (by simp) (fun i u hu => by simp at hu) (fun u hu => by simp at hu) (by simp only [maxLen]; omega) (by omega) (by simp) ?_)
        intro v' w1 hown hg _ _
        (try simp only [Nat.zero_add, List.nil_append, Nat.add_zero] at hown)
        obtain ⟨B, d, rfl, h1, h2, h3⟩ := ownV_rd hown
        have hb2 : Below w.heap.size w w1 := hb1.grown hg (by simp) (fun k hk => by simp [Value.ownBlock] at hk; omega)
        clear hg
        go_wp2
        go_ret
        exact ⟨B, d, by rw [ev.out, nl_zero]; rfl, ⟨by rw [ev.out, limbs_zero]; exact .inl rfl, by rw [ev.out, nl_zero]; exact h1, h2⟩, hb2⟩
    | succ k =>
      obtain ⟨ad, rfl, hcell⟩ := h.get k (by omega)
      by_cases hz : gl l k = 0
      · have hb : ((gl l k : Int) == 0) = true := ieqT (by omega)
        have HZ := Lib.hid hz
        clear hz
        go_wp2_with (fail)
        go_round
        case rel => exact ⟨k, by go_num, by omega, fun i h1 h2 => by
          by_cases e : i = k
          · rw [e]; exact HZ.out
          · exact H0.out i (by omega) h2⟩
        case measure => simp [intOf] <;> omega
      · have hb : ((gl l k : Int) == 0) = false := ieqF (by omega)
        obtain ⟨e1, e2⟩ := FIN.out (k + 1) (by omega) H0.out (.inr hz)
        replace e1 := Lib.hid e1
        replace e2 := Lib.hid e2
        have hcut : ∀ i u, (vals (l.take (k + 1)))[i]? = some u → (w.alloc (.cells #[] 35)).cell? (ad.add i) = some u := fun i u hu => by
          refine (h.below hb1).cells i u ?_
          simp only [vals, List.map_take] at hu ⊢
          by_cases hik : i < k + 1
          · rwa [List.getElem?_take_of_lt hik] at hu
          · rw [List.getElem?_take_eq_none (by omega)] at hu; cases hu
        go_wp2_with (at_builtin; refine wpList_append_own_at _ rfl _ _ 22 rfl w.heap.size 35 i0 (.int .u32 0) 1 4 Tryd.underlying22 hi hz0 hz1 hz2 rfl (by decide) _ 0 [] rfl (World.ownsRow_lit w #[] 0 (Nat.le_refl _) (by decide) rfl) ad (k + 1) c (vals (l.take (k + 1))) rfl (by simp [vals, hk]) hcut (vals_one _) (by simp only [maxLen]; omega) (by omega) (by simp) ?_)
        intro v' w1 hown hg _ _
        (try simp only [Nat.zero_add, List.nil_append] at hown)
        obtain ⟨B, d, rfl, h1, h2, h3⟩ := ownV_rd hown
        have hb2 : Below w.heap.size w w1 := hb1.grown hg (by simp) (fun k hk => by simp [Value.ownBlock] at hk; omega)
        clear hg
        go_wp2
        go_ret
        exact ⟨B, d, by rw [← e2.out]; rfl, ⟨by rw [← e1.out]; exact h3, by rw [← e2.out]; exact h1, h2⟩, hb2⟩
end Go.Proofs.YtmcekbmmpdpbmaaDoor
