/- Naturals that lie in memory of their own: Clone, Make, Shl, with who owns what they make. -/
import Derived.Test.YtacjfpibilolnaaGreatDoorSC07
import Derived.Test.YtacjfpibilolnaaGreatDoorSC06
import Derived.Laws.AppendOwnNone
set_option maxRecDepth 100000
set_option maxHeartbeats 4000000
set_option linter.unusedVariables false
set_option linter.unusedSimpArgs false
namespace Go.Proofs.YtacjfpibilolnaaGreatDoor
open Go.RowKit Go.Shelf
attribute [local go_sem] max2_i min2_i max_two min_two

/-- What a call that makes a natural leaves: it owns its memory. -/
def RetO (w : World) (n : Nat) (e : Ending) (w' : World) : Prop := ∃ v, e = .returned v ∧ w'.ownsRow w.heap.size 58 1 v (nl n) (vals (limbs n)) ∧ Below w.heap.size w w'
theorem own_le {w : World} {b b' n : Nat} {v : Value} {xs : List Value} (h : w.ownsRow b 58 1 v n xs) (hb : b' ≤ b) : w.ownsRow b' 58 1 v n xs := by
  rcases h with ⟨h1, h2 | ⟨g, cap, cur, e, h3, h4⟩⟩
  · exact ⟨h1, .inl h2⟩
  · exact ⟨h1, .inr ⟨g, cap, cur, e, Nat.le_trans hb h3, h4⟩⟩
theorem clone_o (A : Option Addr) (n c : Nat) (l : List Nat) (w : World) (hn : l.length = n) (h : Rd w A l) (hl : n ≤ 1099511627776) :
  Calls Tryz.prog 130 #[.slice A n c] w fun e w' => ∃ v, e = .returned v ∧ w'.ownsRow w.heap.size 58 1 v n (vals l) ∧ Below w.heap.size w w' := by
  subst hn
  have hnil := fun (a : Option Addr) (n : Nat) (w : World) => Lib.run_eql_slice_nil (P := Tryz.prog) w 22 58 a n c 0 0 Tryz.underlying22
  obtain ⟨i0, hi, hz0, hz1, hz2⟩ := info_parts info_u32
  cases A with
  | none =>
    have hl0 : l = [] := by
      rcases h with h | ⟨ad, e, _⟩
      · exact List.map_eq_nil_iff.1 h
      · cases e
    subst hl0
    go_enter Tryz.func130, Tryz.ntmps130
    go_wp2
    go_ret
    exact ⟨.slice none 0 0, rfl, World.ownsRow_nil _ _ _ _, Below.refl _ _⟩
  | some ad =>
    go_enter Tryz.func130, Tryz.ntmps130
    have hb1 : Below w.heap.size w (w.alloc (.cells #[] 58)) := (Below.refl _ _).alloc (Nat.le_refl _) _
    go_wp2_with (at_builtin; refine wpList_append_own_at _ rfl _ _ 22 rfl w.heap.size 58 i0 (.int .u32 0) 1 4 Tryz.underlying22 hi hz0 hz1 hz2 rfl (by decide) _ 0 [] rfl (World.ownsRow_lit w #[] 0 (Nat.le_refl _) (by decide) rfl) ad l.length c (vals l) rfl (by simp [vals]) (h.below hb1).cells (vals_one l) (by simp only [maxLen]; omega) (by omega) (by simp) ?_)
    intro v' w1 hown hg _ _
    (try simp only [Nat.zero_add, List.nil_append] at hown)
    have HOWN := Lib.hid hown
    clear hown
    have hb2 : Below w.heap.size w w1 := hb1.grown hg (by simp) (fun k hk => by simp [Value.ownBlock] at hk; omega)
    clear hg
    go_wp2
    go_ret
    exact ⟨_, rfl, HOWN.out, hb2⟩

theorem make_o (A : Option Addr) (n c : Nat) (l : List Nat) (w : World) (hn : l.length = n) (h : Rd w A l) (hL : Lim l) (hl : n ≤ 1099511627776) (hc : n ≤ c) :
    Calls Tryz.prog 109 #[.slice A n c] w (RetO w (val l)) := by
  subst hn
  have fin : ∀ k, k ≤ l.length → (∀ i, k ≤ i → i < l.length → gl l i = 0) → (k = 0 ∨ gl l (k - 1) ≠ 0) → Calls Tryz.prog 130 #[.slice A k c] w (RetO w (val l)) := fun k hk h0 h1 => by
    have e := take_make hL hk h0 h1
    have e2 : k = nl (val l) := by unfold nl; rw [← e, List.length_take, Nat.min_eq_left hk]
    refine (clone_o A k c (l.take k) w (by simp [hk]) ?_ (by omega)).mono ?_
    · rcases h with h | ⟨ad, rfl, h⟩
      · exact .inl (by simp [vals] at h ⊢; simp [h])
      · refine .inr ⟨ad, rfl, fun i u hu => h i u ?_⟩
        simp only [vals, List.map_take] at hu ⊢
        by_cases hik : i < k
        · rwa [List.getElem?_take_of_lt hik] at hu
        · rw [List.getElem?_take_eq_none (by omega)] at hu; cases hu
    · rintro e' w' ⟨v, rfl, h3, h4⟩
      exact ⟨v, rfl, by rw [← e2, ← e]; exact h3, h4⟩
  go_enter Tryz.func109, Tryz.ntmps109
  go_wp2_with (fail)
  go_loop [3] (fun v => ∃ k : Nat, v = .int .i64 k ∧ k ≤ l.length ∧ ∀ i, k ≤ i → i < l.length → gl l i = 0) (fun v => (intOf v).toNat)
  case atStart => exact ⟨l.length, rfl, Nat.le_refl _, fun i h1 h2 => by omega⟩
  case round =>
    obtain ⟨k, rfl, hk, h0⟩ := hrel
    have H0 := Lib.hid h0
    have FIN := Lib.hid fin
    clear h0 fin
    cases k with
    | zero =>
      go_wp2_with (fail)
      refine (FIN.out 0 (by omega) H0.out (.inl rfl)).mono ?_
      rintro e w1 ⟨v, rfl, h1, h2⟩
      replace h1 := Lib.hid h1
      go_wp2_with (fail)
      go_ret
      exact ⟨v, rfl, h1.out, h2⟩
    | succ k =>
      obtain ⟨ad, rfl, hcell⟩ := h.get k (by omega)
      by_cases hz : gl l k = 0
      · have hb : ((gl l k : Int) == 0) = true := ieqT (by omega)
        have HZ := Lib.hid hz
        clear hz
        go_wp2_with (fail)
        go_round
        case rel => exact ⟨k, by go_num, by omega, fun i h1 h2 => by
          by_cases e : i = k
          · rw [e]; exact HZ.out
          · exact H0.out i (by omega) h2⟩
        case measure => simp [intOf] <;> omega
      · have hb : ((gl l k : Int) == 0) = false := ieqF (by omega)
        go_wp2_with (fail)
        refine (FIN.out (k + 1) (by omega) H0.out (.inr hz)).mono ?_
        rintro e w1 ⟨v, rfl, h1, h2⟩
        replace h1 := Lib.hid h1
        go_wp2_with (fail)
        go_ret
        exact ⟨v, rfl, h1.out, h2⟩
theorem shl_o (A : Option Addr) (c a : Nat) (n : Nat) (w : World) (hA : NatV w A c a) (ha : nl a ≤ 1073741824) (hn : n ≤ 1073741824) (h0 : a ≠ 0) :
    Calls Tryz.prog 104 #[.slice A (nl a) c, .int .i64 (n : Int)] w (RetO w (a * 2 ^ n)) := by
  have hp := nl_pos.2 h0
  have hb0 : ((nl a : Int) == 0) = false := ieqF (by omega)
  have hmk := mk32 ((n : Int) / 32) ((n : Int) / 32 + nl a + 1) (by omega) (by omega) (by omega)
  obtain ⟨i0, hi, hz0, hz1, hz2⟩ := info_parts info_u32
  go_enter Tryz.func104, Tryz.ntmps104
  go_wp2_with (fail)
  have hs := Nat.mod_lt n (show 0 < 32 by decide)
  go_loopw [5, 7, 9, 26] (fun o lo x i wr => ∃ (k low : Nat) (L : List Nat), o = .slice (some ⟨w.heap.size, 0, none⟩) (n / 32 + k) (n / 32 + nl a + 1) ∧ i = .int .i64 k ∧ lo = .int .u32 low ∧ k ≤ nl a ∧ Below w.heap.size w wr ∧
    wr.ownsRow w.heap.size 58 1 (.slice (some ⟨w.heap.size, 0, none⟩) (n / 32 + k) (n / 32 + nl a + 1)) (n / 32 + k) (vals L) ∧ L.length = n / 32 + k ∧ Lim L ∧ Hid (val L + 4294967296 ^ (n / 32 + k) * low = val ((limbs a).take k) * 2 ^ (n % 32) * 4294967296 ^ (n / 32)) ∧ low < 2 ^ (n % 32)) (fun o lo x i wr => nl a - (intOf i).toNat)
  case atStart =>
    have e1 : ((n : Int) / 32).toNat = n / 32 := by omega
    have e2 : ((n : Int) / 32 + nl a + 1).toNat = n / 32 + nl a + 1 := by omega
    refine ⟨0, 0, List.replicate (n / 32) 0, by simp, rfl, rfl, Nat.zero_le _, ((Below.refl _ _).alloc (Nat.le_refl _) _), ?_, by simp, Lim.replicate _ _ (by decide), Lib.hid (by rw [val_replicate]; simp [val]), Nat.pow_pos (by decide)⟩
    simp only [Nat.add_zero, e2]
    refine ⟨by simp [vals], .inr ⟨w.heap.size, n / 32 + nl a + 1, _, rfl, Nat.le_refl _, heap_alloc_new w _, by omega, by simp only [maxLen]; omega, by rw [size_madeCells, Nat.mul_one], ?_⟩⟩
    rw [toList_madeCells_one, List.take_replicate, Nat.min_eq_left (by omega)]
    simp [vals]
  case round =>
    obtain ⟨k, low, L, rfl, rfl, rfl, hk, hb, hown, hlen, hlim, hval, hlow⟩ := hrel
    by_cases hlt : k < nl a
    · obtain ⟨ad, rfl, hc⟩ := (hA.rd.below hb).get k hlt
      obtain ⟨x, hx⟩ : ∃ x, gl (limbs a) k = x := ⟨_, rfl⟩
      have hxl := (lim_limbs a).gl k
      rw [hx] at hc hxl
      obtain ⟨hor, hvl⟩ := or_low x low (n % 32) hxl hs hlow
      generalize hv : x * 2 ^ (n % 32) % 4294967296 + low = v at *
      have HV := Lib.hid hv
      have HX := Lib.hid hx
      have HL := Lib.hid hlen
      clear hv hx hlen
      have hxl2 : (x : Int) < 4294967296 := by omega
      go_wp2_with (at_builtin; refine wpList_append_fits _ rfl _ _ 22 rfl w.heap.size 58 i0 1 Tryz.underlying22 hi hz1 w.heap.size (n / 32 + k) (n / 32 + nl a + 1) (vals L) rfl (hown.alloc _) ⟨wr.heap.size, 0, none⟩ 1 1 [.int .u32 (v : Nat)] rfl rfl (cell_one_new _ _ _) (by simp [Value.oneCell']) (by omega) ?_)
      intro w1 hown1 hg1
      go_wp2_with (fail)
      go_roundw
      case rel =>
        have hq : x * 2 ^ (n % 32) / 4294967296 < 2 ^ (n % 32) := hi_low x _ hxl hs
        refine ⟨k + 1, x * 2 ^ (n % 32) / 4294967296, L ++ [v], by rw [Nat.add_assoc], by go_num, ?_, by omega, ?_, ?_, ?_, ?_, Lib.hid ?_, hq⟩
        · have hp31 : (2 : Nat) ^ (n % 32) ≤ 2 ^ 31 := Nat.pow_le_pow_right (by decide) (by omega)
          have h64 : x * 2 ^ (n % 32) ≤ 4294967296 * 2 ^ 31 := Nat.mul_le_mul (by omega) hp31
          have e1 : ((x : Int) * 2 ^ (n % 32)) = ((x * 2 ^ (n % 32) : Nat) : Int) := by simp
          congr 1
          rw [e1]
          generalize x * 2 ^ (n % 32) = y at *
          have : IntKind.u64.wrap (y : Int) = (y : Int) := by
            simp only [IntKind.wrap, IntKind.bits, IntKind.signed]
            simp
            omega
          rw [this]
          omega
        · exact (hb.alloc hb.size _).grown hg1 (by simp; have := hb.size; omega) (fun k e => by cases e; exact Nat.le_refl _)
        · rw [vals_append]; exact hown1
        · simp [HL.out]; omega
        · exact hlim.append (Lim.cons hvl Lim.nil)
        · have hval := hval.out
          have hv := HV.out
          have hx := HX.out
          rw [val_snoc, HL.out, val_take_succ _ _ hlt, hx, ← hv]
          have e := Nat.div_add_mod (x * 2 ^ (n % 32)) 4294967296
          generalize x * 2 ^ (n % 32) / 4294967296 = d at *
          rw [← Nat.add_assoc, Nat.pow_succ]
          rw [Nat.pow_add] at hval ⊢
          generalize val ((limbs a).take k) = t at *
          generalize 4294967296 ^ k = p at *
          generalize 4294967296 ^ (n / 32) = r at *
          generalize x * 2 ^ (n % 32) % 4294967296 = m at *
          generalize 2 ^ (n % 32) = z at *
          grind
      case measure => simp [intOf] <;> omega
    · obtain rfl : k = nl a := by omega
      have HV := hval
      go_wp2_with (first
        | (go_at_call 109; fail)
        | (at_builtin; refine wpList_append_fits _ rfl _ _ 22 rfl w.heap.size 58 i0 1 Tryz.underlying22 hi hz1 w.heap.size (n / 32 + nl a) (n / 32 + nl a + 1) (vals L) rfl (hown.alloc _) ⟨wr.heap.size, 0, none⟩ 1 1 [.int .u32 (low : Nat)] rfl rfl (cell_one_new _ _ _) (by simp [Value.oneCell']) (by omega) ?_))
      intro w1 hown1 hg1
      obtain ⟨Y, cy, hYe, hcy, hcm, hrd⟩ := ownV_rd hown1
      cases hYe
      have hll : low < 4294967296 := by
        have : (2 : Nat) ^ (n % 32) ≤ 2 ^ 31 := Nat.pow_le_pow_right (by decide) (by omega)
        omega
      have hb2 : Below w.heap.size w w1 := (hb.alloc hb.size _).grown hg1 (by simp; have := hb.size; omega) (fun k e => by cases e; exact Nat.le_refl _)
      have hmake := make_o (some ⟨w.heap.size, 0, none⟩) (n / 32 + nl a + 1) (n / 32 + nl a + 1) (L ++ [low]) w1 (by simp [hlen]) (by unfold Rd; rw [vals_append]; exact hrd) (hlim.append (Lim.cons hll Lim.nil)) (by omega) (Nat.le_refl _)
      have hvv : val (L ++ [low]) = a * 2 ^ n := by
        have h := HV.out
        rw [take_limbs (Nat.le_refl _)] at h
        rw [val_snoc, hlen, h, Nat.mul_assoc, ← pow32, ← Nat.pow_add]
        congr 2
        omega
      rw [hvv] at hmake
      have HM := Lib.hid hmake
      clear hmake hown1 hown hrd hg1 hval hlen
      go_wp2_with (fail)
      refine HM.out.mono ?_
      rintro e w2 ⟨v, rfl, h1, h2⟩
      replace h1 := Lib.hid (own_le h1 hb2.size)
      go_wp2_with (fail)
      go_ret
      exact ⟨v, rfl, h1.out, hb2.trans (h2.mono hb2.size)⟩
end Go.Proofs.YtacjfpibilolnaaGreatDoor

/- The document's answers, walked: naturals made, and held equal. -/
set_option linter.unusedVariables false
set_option linter.unusedSimpArgs false
namespace Go.Proofs.YtacjfpibilolnaaGreatDoor
open Go.RowKit Go.Shelf
attribute [local go_sem] max2_i min2_i max_two min_two

/-- New memory, from block b on. -/
def Fr (b : Nat) (A : Option Addr) (c : Nat) : Prop := (∀ ad, A = some ad → b ≤ ad.block) ∧ (A = none → c = 0)
theorem Fr.le {b b' : Nat} {A : Option Addr} {c : Nat} (h : Fr b A c) (hb : b' ≤ b) : Fr b' A c := ⟨fun ad e => Nat.le_trans hb (h.1 ad e), h.2⟩
theorem Fr.own {w : World} {base n c : Nat} {X : Option Addr} {xs : List Value} (h : w.ownsRow base 58 1 (.slice X n c) n xs) : Fr base X c := by
  refine ⟨fun ad e => own_base' h _ (by subst e; rfl), fun e => ?_⟩
  subst e
  rcases h.2 with ⟨e, _⟩ | ⟨_, _, _, e, _⟩
  · simp only [Value.slice.injEq] at e; exact e.2.2
  · simp at e
/-- What a call that makes a natural leaves: it lies in new memory. -/
def RetF (w : World) (n : Nat) (e : Ending) (w' : World) : Prop := ∃ A c, e = .returned (.slice A (nl n) c) ∧ NatV w' A c n ∧ Below w.heap.size w w' ∧ Fr w.heap.size A c
theorem RetF.toN {w w' : World} {n : Nat} {e : Ending} (h : RetF w n e w') : RetN w n e w' := by
  obtain ⟨A, c, h1, h2, h3, _⟩ := h
  exact ⟨A, c, h1, h2, h3⟩
theorem rmake_f (A : Option Addr) (n c : Nat) (l : List Nat) (w : World) (hn : l.length = n) (h : Rd w A l) (hL : Lim l) (hl : n ≤ 1099511627776) (hc : n ≤ c) (hnil : A = none → c = 0) :
    Calls Tryz.prog 98 #[.slice A n c] w (RetF w (val l)) := by
  subst hn
  obtain ⟨i0, hi, hz0, hz1, hz2⟩ := info_parts info_u32
  have fin : ∀ k, k ≤ l.length → (∀ i, k ≤ i → i < l.length → gl l i = 0) → (k = 0 ∨ gl l (k - 1) ≠ 0) → l.take k = limbs (val l) ∧ k = nl (val l) := fun k hk h0 h1 => by
    have e := take_make hL hk h0 h1
    exact ⟨e, by unfold nl; rw [← e, List.length_take, Nat.min_eq_left hk]⟩
  have hb1 : Below w.heap.size w (w.alloc (.cells #[] 58)) := (Below.refl _ _).alloc (Nat.le_refl _) _
  go_enter Tryz.func98, Tryz.ntmps98
  go_wp2_with (fail)
  go_loop [3] (fun v => ∃ k : Nat, v = .int .i64 k ∧ k ≤ l.length ∧ ∀ i, k ≤ i → i < l.length → gl l i = 0) (fun v => (intOf v).toNat)
  case atStart => exact ⟨l.length, rfl, Nat.le_refl _, fun i h1 h2 => by omega⟩
  case round =>
    obtain ⟨k, rfl, hk, h0⟩ := hrel
    have H0 := Lib.hid h0
    have FIN := Lib.hid fin
    clear h0 fin
    cases k with
    | zero =>
      obtain ⟨e1, e2⟩ := FIN.out 0 (by omega) H0.out (.inl rfl)
      have ev : val l = 0 := nl_eq_zero.1 e2.symm
      replace ev := Lib.hid ev
      clear e1 e2
      rcases A with _ | ad
      · obtain rfl : c = 0 := hnil rfl
        go_wp2_with (at_builtin; refine wpList_append_own_none rfl _ _ 22 rfl w.heap.size 58 i0 1 Tryz.underlying22 hi _ 0 [] rfl (World.ownsRow_lit w #[] 0 (Nat.le_refl _) (by decide) rfl) rfl ?_)
        go_wp2
        go_ret
        exact ⟨some ⟨w.heap.size, 0, none⟩, 0, by rw [ev.out, nl_zero]; rfl, ⟨by rw [ev.out, limbs_zero]; exact .inl rfl, by rw [ev.out, nl_zero]; exact Nat.le_refl _, by decide⟩, hb1, ⟨fun ad e => by cases e; exact Nat.le_refl _, fun e => by cases e⟩⟩
      · go_wp2_with (at_builtin; refine wpList_append_own_at _ rfl _ _ 22 rfl w.heap.size 58 i0 (.int .u32 0) 1 4 Tryz.underlying22 hi hz0 hz1 hz2 rfl (by decide) _ 0 [] rfl (World.ownsRow_lit w #[] 0 (Nat.le_refl _) (by decide) rfl) ad 0 c [] rfl (by simp) (fun i u hu => by simp at hu) (fun u hu => by simp at hu) (by simp only [maxLen]; omega) (by omega) (by simp) ?_)
        intro v' w1 hown hg _ _
        (try simp only [Nat.zero_add, List.nil_append, Nat.add_zero] at hown)
        obtain ⟨B, d, rfl, h1, h2, h3⟩ := ownV_rd hown
        have hfr := Lib.hid (Fr.own hown)
        have hb2 : Below w.heap.size w w1 := hb1.grown hg (by simp) (fun k hk => by simp [Value.ownBlock] at hk; omega)
        clear hg
        go_wp2
        go_ret
        exact ⟨B, d, by rw [ev.out, nl_zero]; rfl, ⟨by rw [ev.out, limbs_zero]; exact .inl rfl, by rw [ev.out, nl_zero]; exact h1, h2⟩, hb2, hfr.out⟩
    | succ k =>
      obtain ⟨ad, rfl, hcell⟩ := h.get k (by omega)
      by_cases hz : gl l k = 0
      · have hb : ((gl l k : Int) == 0) = true := ieqT (by omega)
        have HZ := Lib.hid hz
        clear hz
        go_wp2_with (fail)
        go_round
        case rel => exact ⟨k, by go_num, by omega, fun i h1 h2 => by
          by_cases e : i = k
          · rw [e]; exact HZ.out
          · exact H0.out i (by omega) h2⟩
        case measure => simp [intOf] <;> omega
      · have hb : ((gl l k : Int) == 0) = false := ieqF (by omega)
        obtain ⟨e1, e2⟩ := FIN.out (k + 1) (by omega) H0.out (.inr hz)
        replace e1 := Lib.hid e1
        replace e2 := Lib.hid e2
        have hcut : ∀ i u, (vals (l.take (k + 1)))[i]? = some u → (w.alloc (.cells #[] 58)).cell? (ad.add i) = some u := fun i u hu => by
          refine (h.below hb1).cells i u ?_
          simp only [vals, List.map_take] at hu ⊢
          by_cases hik : i < k + 1
          · rwa [List.getElem?_take_of_lt hik] at hu
          · rw [List.getElem?_take_eq_none (by omega)] at hu; cases hu
        go_wp2_with (at_builtin; refine wpList_append_own_at _ rfl _ _ 22 rfl w.heap.size 58 i0 (.int .u32 0) 1 4 Tryz.underlying22 hi hz0 hz1 hz2 rfl (by decide) _ 0 [] rfl (World.ownsRow_lit w #[] 0 (Nat.le_refl _) (by decide) rfl) ad (k + 1) c (vals (l.take (k + 1))) rfl (by simp [vals, hk]) hcut (vals_one _) (by simp only [maxLen]; omega) (by omega) (by simp) ?_)
        intro v' w1 hown hg _ _
        (try simp only [Nat.zero_add, List.nil_append] at hown)
        obtain ⟨B, d, rfl, h1, h2, h3⟩ := ownV_rd hown
        have hfr := Lib.hid (Fr.own hown)
        have hb2 : Below w.heap.size w w1 := hb1.grown hg (by simp) (fun k hk => by simp [Value.ownBlock] at hk; omega)
        clear hg
        go_wp2
        go_ret
        exact ⟨B, d, by rw [← e2.out]; rfl, ⟨by rw [← e1.out]; exact h3, by rw [← e2.out]; exact h1, h2⟩, hb2, hfr.out⟩
theorem rmake_c (A : Option Addr) (n c : Nat) (l : List Nat) (w : World) (hn : l.length = n) (h : Rd w A l) (hL : Lim l) (hl : n ≤ 1099511627776) (hc : n ≤ c) (hnil : A = none → c = 0) :
    Calls Tryz.prog 98 #[.slice A n c] w (RetN w (val l)) :=
  (rmake_f A n c l w hn h hL hl hc hnil).mono fun _ _ h => h.toN
end Go.Proofs.YtacjfpibilolnaaGreatDoor
