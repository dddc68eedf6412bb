/- The document's answers, walked: naturals made, and held equal. -/
import Derived.Test.YtacjfpibilolnaaGreatDoorSB05
import Derived.Test.YtacjfpibilolnaaGreatDoorSB04
import Derived.Laws.AppendOwnNone
import Derived.Test.YtacjfpibilolnaaGreatDoorSB06
set_option maxRecDepth 100000
set_option maxHeartbeats 4000000
set_option linter.unusedVariables false
set_option linter.unusedSimpArgs false
namespace Go.Proofs.YtacjfpibilolnaaGreatDoor
open Go.RowKit Go.Shelf
attribute [local go_sem] max2_i min2_i max_two min_two

/-- New memory, from block b on. -/
def Fr (b : Nat) (A : Option Addr) (c : Nat) : Prop := (∀ ad, A = some ad → b ≤ ad.block) ∧ (A = none → c = 0)
theorem Fr.le {b b' : Nat} {A : Option Addr} {c : Nat} (h : Fr b A c) (hb : b' ≤ b) : Fr b' A c := ⟨fun ad e => Nat.le_trans hb (h.1 ad e), h.2⟩
theorem Fr.own {w : World} {base n c : Nat} {X : Option Addr} {xs : List Value} (h : w.ownsRow base 58 1 (.slice X n c) n xs) : Fr base X c := by
  refine ⟨fun ad e => own_base' h _ (by subst e; rfl), fun e => ?_⟩
  subst e
  rcases h.2 with ⟨e, _⟩ | ⟨_, _, _, e, _⟩
  · simp only [Value.slice.injEq] at e; exact e.2.2
  · simp at e
/-- What a call that makes a natural leaves: it lies in new memory. -/
def RetF (w : World) (n : Nat) (e : Ending) (w' : World) : Prop := ∃ A c, e = .returned (.slice A (nl n) c) ∧ NatV w' A c n ∧ Below w.heap.size w w' ∧ Fr w.heap.size A c
theorem RetF.toN {w w' : World} {n : Nat} {e : Ending} (h : RetF w n e w') : RetN w n e w' := by
  obtain ⟨A, c, h1, h2, h3, _⟩ := h
  exact ⟨A, c, h1, h2, h3⟩
theorem rmake_f (A : Option Addr) (n c : Nat) (l : List Nat) (w : World) (hn : l.length = n) (h : Rd w A l) (hL : Lim l) (hl : n ≤ 1099511627776) (hc : n ≤ c) (hnil : A = none → c = 0) :
    Calls Tryz.prog 98 #[.slice A n c] w (RetF w (val l)) := by
  subst hn
  obtain ⟨i0, hi, hz0, hz1, hz2⟩ := info_parts info_u32
  have fin : ∀ k, k ≤ l.length → (∀ i, k ≤ i → i < l.length → gl l i = 0) → (k = 0 ∨ gl l (k - 1) ≠ 0) → l.take k = limbs (val l) ∧ k = nl (val l) := fun k hk h0 h1 => by
    have e := take_make hL hk h0 h1
    exact ⟨e, by unfold nl; rw [← e, List.length_take, Nat.min_eq_left hk]⟩
  have hb1 : Below w.heap.size w (w.alloc (.cells #[] 58)) := (Below.refl _ _).alloc (Nat.le_refl _) _
  go_enter Tryz.func98, Tryz.ntmps98
  go_wp2_with (fail)
  go_loop [3] (fun v => ∃ k : Nat, v = .int .i64 k ∧ k ≤ l.length ∧ ∀ i, k ≤ i → i < l.length → gl l i = 0) (fun v => (intOf v).toNat)
  case atStart => exact ⟨l.length, rfl, Nat.le_refl _, fun i h1 h2 => by omega⟩
  case round =>
    obtain ⟨k, rfl, hk, h0⟩ := hrel
    have H0 := Lib.hid h0
    have FIN := Lib.hid fin
    clear h0 fin
    cases k with
    | zero =>
      obtain ⟨e1, e2⟩ := FIN.out 0 (by omega) H0.out (.inl rfl)
      have ev : val l = 0 := nl_eq_zero.1 e2.symm
      replace ev := Lib.hid ev
      clear e1 e2
      rcases A with _ | ad
      · obtain rfl : c = 0 := hnil rfl
        go_wp2_with (at_builtin; refine wpList_append_own_none rfl _ _ 22 rfl w.heap.size 58 i0 1 Tryz.underlying22 hi _ 0 [] rfl (World.ownsRow_lit w #[] 0 (Nat.le_refl _) (by decide) rfl) rfl ?_)
        go_wp2
        go_ret
        exact ⟨some ⟨w.heap.size, 0, none⟩, 0, by rw [ev.out, nl_zero]; rfl, ⟨by rw [ev.out, limbs_zero]; exact .inl rfl, by rw [ev.out, nl_zero]; exact Nat.le_refl _, by decide⟩, hb1, ⟨fun ad e => by cases e; exact Nat.le_refl _, fun e => by cases e⟩⟩
      · go_wp2_with (at_builtin; refine wpList_append_own_at _ rfl _ _ 22 rfl w.heap.size 58 i0 (.int .u32 0) 1 4 Tryz.underlying22 hi hz0 hz1 hz2 rfl (by decide) _ 0 [] rfl (World.ownsRow_lit w #[] 0 (Nat.le_refl _) (by decide) rfl) ad 0 c [] rfl (by simp) (fun i u hu => by simp at hu) (fun u hu => by simp at hu) (by simp only [maxLen]; omega) (by omega) (by simp) ?_)
        intro v' w1 hown hg _ _
        (try simp only [Nat.zero_add, List.nil_append, Nat.add_zero] at hown)
        obtain ⟨B, d, rfl, h1, h2, h3⟩ := ownV_rd hown
        have hfr := Lib.hid (Fr.own hown)
        have hb2 : Below w.heap.size w w1 := hb1.grown hg (by simp) (fun k hk => by simp [Value.ownBlock] at hk; omega)
        clear hg
        go_wp2
        go_ret
        exact ⟨B, d, by rw [ev.out, nl_zero]; rfl, ⟨by rw [ev.out, limbs_zero]; exact .inl rfl, by rw [ev.out, nl_zero]; exact h1, h2⟩, hb2, hfr.out⟩
    | succ k =>
      obtain ⟨ad, rfl, hcell⟩ := h.get k (by omega)
      by_cases hz : gl l k = 0
      · have hb : ((gl l k : Int) == 0) = true := ieqT (by omega)
        have HZ := Lib.hid hz
        clear hz
        go_wp2_with (fail)
        go_round
        case rel => exact ⟨k, by go_num, by omega, fun i h1 h2 => by
          by_cases e : i = k
          · rw [e]; exact HZ.out
          · exact H0.out i (by omega) h2⟩
        case measure => simp [intOf] <;> omega
      · have hb : ((gl l k : Int) == 0) = false := ieqF (by omega)
        obtain ⟨e1, e2⟩ := FIN.out (k + 1) (by omega) H0.out (.inr hz)
        replace e1 := Lib.hid e1
        replace e2 := Lib.hid e2
        have hcut : ∀ i u, (vals (l.take (k + 1)))[i]? = some u → (w.alloc (.cells #[] 58)).cell? (ad.add i) = some u := fun i u hu => by
          refine (h.below hb1).cells i u ?_
          simp only [vals, List.map_take] at hu ⊢
          by_cases hik : i < k + 1
          · rwa [List.getElem?_take_of_lt hik] at hu
          · rw [List.getElem?_take_eq_none (by omega)] at hu; cases hu
        go_wp2_with (at_builtin; refine wpList_append_own_at _ rfl _ _ 22 rfl w.heap.size 58 i0 (.int .u32 0) 1 4 Tryz.underlying22 hi hz0 hz1 hz2 rfl (by decide) _ 0 [] rfl (World.ownsRow_lit w #[] 0 (Nat.le_refl _) (by decide) rfl) ad (k + 1) c (vals (l.take (k + 1))) rfl (by simp [vals, hk]) hcut (vals_one _) (by simp only [maxLen]; omega) (by omega) (by simp) ?_)
        intro v' w1 hown hg _ _
        (try simp only [Nat.zero_add, List.nil_append] at hown)
        obtain ⟨B, d, rfl, h1, h2, h3⟩ := ownV_rd hown
        have hfr := Lib.hid (Fr.own hown)
        have hb2 : Below w.heap.size w w1 := hb1.grown hg (by simp) (fun k hk => by simp [Value.ownBlock] at hk; omega)
        clear hg
        go_wp2
        go_ret
        exact ⟨B, d, by rw [← e2.out]; rfl, ⟨by rw [← e1.out]; exact h3, by rw [← e2.out]; exact h1, h2⟩, hb2, hfr.out⟩
theorem rmake_c (A : Option Addr) (n c : Nat) (l : List Nat) (w : World) (hn : l.length = n) (h : Rd w A l) (hL : Lim l) (hl : n ≤ 1099511627776) (hc : n ≤ c) (hnil : A = none → c = 0) :
    Calls Tryz.prog 98 #[.slice A n c] w (RetN w (val l)) :=
  (rmake_f A n c l w hn h hL hl hc hnil).mono fun _ _ h => h.toN
end Go.Proofs.YtacjfpibilolnaaGreatDoor

/- The document's naturals, walked: limb, Cmp, Same, Add, Sub. -/
set_option linter.unusedVariables false
set_option linter.unusedSimpArgs false
namespace Go.Proofs.YtacjfpibilolnaaGreatDoor
open Go.RowKit Go.Shelf
attribute [local go_sem] max2_i min2_i max_two min_two

theorem Lim.one {x : Nat} (h : x < 4294967296) : Lim [x] := Lim.cons h Lim.nil
theorem dig_lt (a i : Nat) : a / 4294967296 ^ i % 4294967296 < 4294967296 := Nat.mod_lt _ (by decide)
theorem div_dig (a k : Nat) : a / 4294967296 ^ k = 4294967296 * (a / 4294967296 ^ (k + 1)) + a / 4294967296 ^ k % 4294967296 := by
  rw [Nat.pow_succ, ← Nat.div_div_eq_div_mul]; omega
theorem lt_of_div {a b P : Nat} (h : a / P < b / P) : a < b := by
  refine Nat.lt_of_not_le fun h2 => ?_
  have := Nat.div_le_div_right (c := P) h2
  omega
theorem mod_dig (a i : Nat) : a % 4294967296 ^ (i + 1) = a % 4294967296 ^ i + 4294967296 ^ i * (a / 4294967296 ^ i % 4294967296) := by rw [Nat.pow_succ, Nat.mod_mul]
theorem div_nl {a i : Nat} (h : nl a ≤ i) : a / 4294967296 ^ i = 0 := Nat.div_eq_of_lt (nl_le.1 h)
theorem mod_nl {a i : Nat} (h : nl a ≤ i) : a % 4294967296 ^ i = a := Nat.mod_eq_of_lt (nl_le.1 h)

theorem limb_c (A : Option Addr) (c a : Nat) (j : Nat) (w : World) (hA : NatV w A c a) (h0 : j ≤ 1099511627776) (hl : nl a ≤ 1099511627776) :
    Calls Tryz.prog 114 #[.slice A (nl a) c, .int .i64 (j : Int)] w fun e w' => e = .returned (.int .u64 (a / 4294967296 ^ j % 4294967296 : Nat)) ∧ w = w' := by
  obtain ⟨x, hx⟩ : ∃ x, x = a / 4294967296 ^ j % 4294967296 := ⟨_, rfl⟩
  have hxl : x < 4294967296 := by rw [hx]; exact dig_lt _ _
  rw [← hx]
  by_cases hj : j < nl a
  · obtain ⟨ad, rfl, hc⟩ := hA.rd.get j hj
    rw [limbs_gl, ← hx] at hc
    replace hx := Lib.hid hx
    go_enter Tryz.func114, Tryz.ntmps114
    go_wp2_with (fail)
    go_ret
    exact ⟨rfl, rfl⟩
  · have e : x = 0 := by rw [hx, div_nl (by omega), Nat.zero_mod]
    replace hx := Lib.hid hx
    replace e := Lib.hid e
    go_enter Tryz.func114, Tryz.ntmps114
    go_wp2_with (fail)
    go_ret
    exact ⟨by rw [e.out]; rfl, rfl⟩

theorem rcmp_c (A : Option Addr) (c a : Nat) (B : Option Addr) (d b : Nat) (w : World) (hA : NatV w A c a) (hB : NatV w B d b) (ha : nl a ≤ 1073741824) (hb : nl b ≤ 1073741824) :
    Calls Tryz.prog 94 #[.slice A (nl a) c, .slice B (nl b) d] w fun e w' => e = .returned (.int .i64 (cmpN a b)) ∧ w = w' := by
  obtain ⟨M, hM⟩ : ∃ M, M = max (nl a) (nl b) := ⟨_, rfl⟩
  have hMI : max (nl a : Int) (nl b : Int) = (M : Int) := by omega
  have hMb : M ≤ 1073741824 := by omega
  have h0 : a / 4294967296 ^ M = b / 4294967296 ^ M := by rw [div_nl (by omega), div_nl (by omega)]
  replace hM := Lib.hid hM
  replace h0 := Lib.hid h0
  go_enter Tryz.func94, Tryz.ntmps94
  go_wp2_with (fail)
  go_loop [5] (fun vi => ∃ k : Nat, vi = .int .i64 ((k : Int) - 1) ∧ k ≤ M ∧ Hid (a / 4294967296 ^ k = b / 4294967296 ^ k)) (fun vi => (intOf vi + 1).toNat)
  case atStart => exact ⟨M, rfl, Nat.le_refl _, h0⟩
  case round =>
    obtain ⟨k, rfl, hk, heq⟩ := hrel
    cases k with
    | zero =>
      have h2 : a = b := by have := heq.out; simpa using this
      have h3 : cmpN a b = 0 := cmpN_eq h2
      replace h2 := Lib.hid h2
      replace h3 := Lib.hid h3
      go_wp2_with (fail)
      go_ret
      exact ⟨by rw [h3.out]; rfl, rfl⟩
    | succ k =>
      rw [show (((k + 1 : Nat) : Int) - 1) = (k : Int) by omega]
      have CA := limb_c A c a k w hA (by omega) (by omega)
      have CB := limb_c B d b k w hB (by omega) (by omega)
      have da := div_dig a k
      have db := div_dig b k
      obtain ⟨x, hx⟩ : ∃ x, x = a / 4294967296 ^ k % 4294967296 := ⟨_, rfl⟩
      obtain ⟨y, hy⟩ : ∃ y, y = b / 4294967296 ^ k % 4294967296 := ⟨_, rfl⟩
      have hxl : x < 4294967296 := by rw [hx]; exact dig_lt _ _
      have hyl : y < 4294967296 := by rw [hy]; exact dig_lt _ _
      rw [← hx] at CA da
      rw [← hy] at CB db
      rw [heq.out] at da
      replace CA := Lib.hid CA
      replace CB := Lib.hid CB
      rcases Nat.lt_trichotomy x y with hxy | hxy | hxy
      · have h3 : cmpN a b = -1 := cmpN_lt (lt_of_div (P := 4294967296 ^ k) (by omega))
        replace h3 := Lib.hid h3
        clear hx hy da db
        go_wp2_with (first
          | (go_at_call 114; (with_reducible refine CA.out.mono ?_); rintro e w' ⟨rfl, rfl⟩)
          | (go_at_call 114; (with_reducible refine CB.out.mono ?_); rintro e w' ⟨rfl, rfl⟩))
        go_ret
        exact ⟨by rw [h3.out]; rfl, rfl⟩
      · have h3 : a / 4294967296 ^ k = b / 4294967296 ^ k := by rw [da, db, hxy]
        replace h3 := Lib.hid h3
        have hn1 : ¬ x < y := by omega
        have hn2 : ¬ y < x := by omega
        replace hxy := Lib.hid hxy
        clear hx hy da db
        go_wp2_with (first
          | (go_at_call 114; (with_reducible refine CA.out.mono ?_); rintro e w' ⟨rfl, rfl⟩)
          | (go_at_call 114; (with_reducible refine CB.out.mono ?_); rintro e w' ⟨rfl, rfl⟩))
        go_round
        case rel => exact ⟨k, rfl, by omega, h3⟩
        case measure => simp only [intOf]; omega
      · have h3 : cmpN a b = 1 := cmpN_gt (lt_of_div (P := 4294967296 ^ k) (by omega))
        replace h3 := Lib.hid h3
        have hn1 : ¬ x < y := by omega
        clear hx hy da db
        go_wp2_with (first
          | (go_at_call 114; (with_reducible refine CA.out.mono ?_); rintro e w' ⟨rfl, rfl⟩)
          | (go_at_call 114; (with_reducible refine CB.out.mono ?_); rintro e w' ⟨rfl, rfl⟩))
        go_ret
        exact ⟨by rw [h3.out]; rfl, rfl⟩
theorem radd_f (A : Option Addr) (c a : Nat) (B : Option Addr) (d b : Nat) (w : World) (hA : NatV w A c a) (hB : NatV w B d b) (ha : nl a ≤ 1073741824) (hb : nl b ≤ 1073741824) :
    Calls Tryz.prog 83 #[.slice A (nl a) c, .slice B (nl b) d] w (RetF w (a + b)) := by
  obtain ⟨i0, hi, hz0, hz1, hz2⟩ := info_parts info_u32
  obtain ⟨M, hM⟩ : ∃ M, M = max (nl a) (nl b) := ⟨_, rfl⟩
  have hMa : nl a ≤ M := by omega
  have hMb : nl b ≤ M := by omega
  have hMc : M ≤ 1073741824 := by omega
  have hMd : M = nl a ∨ M = nl b := by omega
  replace hM := Lib.hid hM
  replace hMd := Lib.hid hMd
  go_enter Tryz.func83, Tryz.ntmps83
  go_wp2_with (fail)
  go_loopw [5, 6, 7, 8] (fun vo vc vi vn wr => ∃ (i cr : Nat) (L : List Nat), vc = .int .u64 cr ∧ vi = .int .i64 i ∧ i ≤ M + 1 ∧ cr ≤ 1 ∧ Below w.heap.size w wr ∧ wr.ownsRow w.heap.size 58 1 vo i (vals L) ∧ Hid (L.length = i) ∧ Lim L ∧ Hid (val L + 4294967296 ^ i * cr = a % 4294967296 ^ i + b % 4294967296 ^ i)) (fun vo vc vi vn wr => M + 1 - (intOf vi).toNat)
  case atStart => exact ⟨0, 0, [], rfl, rfl, Nat.zero_le _, by decide, (Below.refl _ _).alloc (Nat.le_refl _) _, World.ownsRow_lit w #[] 0 (Nat.le_refl _) (by decide) rfl, Lib.hid rfl, Lim.nil, Lib.hid (by simp [val, Nat.mod_one])⟩
  case round =>
    obtain ⟨i, cr, L, rfl, rfl, hi1, hcr, hb, hown, hlen, hlim, hval⟩ := hrel
    obtain ⟨X, cx, rfl, hcx, hcm, hrd⟩ := ownV_rd hown
    by_cases hlt : i ≤ nl a
    · skip
      have hlt0 : i ≤ M := by omega
      have CA := limb_c A c a i wr (hA.below hb) (by omega) (by omega)
      have CB := limb_c B d b i wr (hB.below hb) (by omega) (by omega)
      have ma := mod_dig a i
      have mb := mod_dig b i
      obtain ⟨x, hx⟩ : ∃ x, x = a / 4294967296 ^ i % 4294967296 := ⟨_, rfl⟩
      obtain ⟨y, hy⟩ : ∃ y, y = b / 4294967296 ^ i % 4294967296 := ⟨_, rfl⟩
      have hxl : x < 4294967296 := by rw [hx]; exact dig_lt _ _
      have hyl : y < 4294967296 := by rw [hy]; exact dig_lt _ _
      rw [← hx] at CA ma
      rw [← hy] at CB mb
      replace CA := Lib.hid CA
      replace CB := Lib.hid CB
      replace ma := Lib.hid ma
      replace mb := Lib.hid mb
      obtain ⟨t, ht⟩ : ∃ t, t = x + y + cr := ⟨_, rfl⟩
      have htI : (x : Int) + (y : Int) + (cr : Int) = (t : Int) := by omega
      have htb : t < 18446744073709551616 := by omega
      obtain ⟨o, ho⟩ : ∃ o, o = t % 4294967296 := ⟨_, rfl⟩
      have hoI : (t : Int) % 4294967296 = (o : Int) := by omega
      have hol : o < 4294967296 := by omega
      obtain ⟨q, hq⟩ : ∃ q, q = t / 4294967296 := ⟨_, rfl⟩
      have hqI : (t : Int) / 4294967296 = (q : Int) := by omega
      have hql : q ≤ 1 := by omega
      have hoq : o + 4294967296 * q = x + y + cr := by omega
      replace hoq := Lib.hid hoq
      replace ht := Lib.hid ht
      replace ho := Lib.hid ho
      replace hq := Lib.hid hq
      replace hx := Lib.hid hx
      replace hy := Lib.hid hy
      go_wp2_with (first
        | (go_at_call 114; (with_reducible refine CA.out.mono ?_); rintro e w' ⟨rfl, rfl⟩)
        | (go_at_call 114; (with_reducible refine CB.out.mono ?_); rintro e w' ⟨rfl, rfl⟩)
        | (at_builtin; refine wpList_append_own_at _ rfl _ _ 22 rfl w.heap.size 58 i0 (.int .u32 0) 1 4 Tryz.underlying22 hi hz0 hz1 hz2 rfl (by decide) _ i (vals L) rfl (hown.alloc _) ⟨wr.heap.size, 0, none⟩ 1 1 [.int .u32 (o : Nat)] rfl rfl (cell_one_new _ _ _) (by simp [Value.oneCell']) (by simp only [maxLen]; omega) (by omega) (by simp; have := hb.size; omega) ?_))
      intro v' w1 hown1 hg1 _ _
      have hown2 := Lib.hid hown1
      have hg2 := Lib.hid hg1
      clear hown1 hg1
      go_wp2_with (fail)
      go_roundw
      case rel =>
        refine ⟨i + 1, q, L ++ [o], rfl, by go_num, by omega, hql, ?_, ?_, Lib.hid (by simp [hlen.out]), hlim.append (Lim.one hol), Lib.hid ?_⟩
        · exact (hb.alloc hb.size _).grown hg2.out (by simp; have := hb.size; omega) (fun k e => own_base' hown k e)
        · rw [vals_append]; exact hown2.out
        · have h1 := hval.out
          have h2 := hoq.out
          rw [val_snoc, hlen.out, ma.out, mb.out, Nat.pow_succ]
          generalize 4294967296 ^ i = p at *
          generalize a % p = a1 at *
          generalize b % p = b1 at *
          grind
      case measure => simp only [intOf]; omega
    by_cases hlt2 : i ≤ nl b
    · skip
      have hlt0 : i ≤ M := by omega
      have CA := limb_c A c a i wr (hA.below hb) (by omega) (by omega)
      have CB := limb_c B d b i wr (hB.below hb) (by omega) (by omega)
      have ma := mod_dig a i
      have mb := mod_dig b i
      obtain ⟨x, hx⟩ : ∃ x, x = a / 4294967296 ^ i % 4294967296 := ⟨_, rfl⟩
      obtain ⟨y, hy⟩ : ∃ y, y = b / 4294967296 ^ i % 4294967296 := ⟨_, rfl⟩
      have hxl : x < 4294967296 := by rw [hx]; exact dig_lt _ _
      have hyl : y < 4294967296 := by rw [hy]; exact dig_lt _ _
      rw [← hx] at CA ma
      rw [← hy] at CB mb
      replace CA := Lib.hid CA
      replace CB := Lib.hid CB
      replace ma := Lib.hid ma
      replace mb := Lib.hid mb
      obtain ⟨t, ht⟩ : ∃ t, t = x + y + cr := ⟨_, rfl⟩
      have htI : (x : Int) + (y : Int) + (cr : Int) = (t : Int) := by omega
      have htb : t < 18446744073709551616 := by omega
      obtain ⟨o, ho⟩ : ∃ o, o = t % 4294967296 := ⟨_, rfl⟩
      have hoI : (t : Int) % 4294967296 = (o : Int) := by omega
      have hol : o < 4294967296 := by omega
      obtain ⟨q, hq⟩ : ∃ q, q = t / 4294967296 := ⟨_, rfl⟩
      have hqI : (t : Int) / 4294967296 = (q : Int) := by omega
      have hql : q ≤ 1 := by omega
      have hoq : o + 4294967296 * q = x + y + cr := by omega
      replace hoq := Lib.hid hoq
      replace ht := Lib.hid ht
      replace ho := Lib.hid ho
      replace hq := Lib.hid hq
      replace hx := Lib.hid hx
      replace hy := Lib.hid hy
      go_wp2_with (first
        | (go_at_call 114; (with_reducible refine CA.out.mono ?_); rintro e w' ⟨rfl, rfl⟩)
        | (go_at_call 114; (with_reducible refine CB.out.mono ?_); rintro e w' ⟨rfl, rfl⟩)
        | (at_builtin; refine wpList_append_own_at _ rfl _ _ 22 rfl w.heap.size 58 i0 (.int .u32 0) 1 4 Tryz.underlying22 hi hz0 hz1 hz2 rfl (by decide) _ i (vals L) rfl (hown.alloc _) ⟨wr.heap.size, 0, none⟩ 1 1 [.int .u32 (o : Nat)] rfl rfl (cell_one_new _ _ _) (by simp [Value.oneCell']) (by simp only [maxLen]; omega) (by omega) (by simp; have := hb.size; omega) ?_))
      intro v' w1 hown1 hg1 _ _
      have hown2 := Lib.hid hown1
      have hg2 := Lib.hid hg1
      clear hown1 hg1
      go_wp2_with (fail)
      go_roundw
      case rel =>
        refine ⟨i + 1, q, L ++ [o], rfl, by go_num, by omega, hql, ?_, ?_, Lib.hid (by simp [hlen.out]), hlim.append (Lim.one hol), Lib.hid ?_⟩
        · exact (hb.alloc hb.size _).grown hg2.out (by simp; have := hb.size; omega) (fun k e => own_base' hown k e)
        · rw [vals_append]; exact hown2.out
        · have h1 := hval.out
          have h2 := hoq.out
          rw [val_snoc, hlen.out, ma.out, mb.out, Nat.pow_succ]
          generalize 4294967296 ^ i = p at *
          generalize a % p = a1 at *
          generalize b % p = b1 at *
          grind
      case measure => simp only [intOf]; omega
    · have hiM : i = M + 1 := by rcases hMd.out with h | h <;> omega
      have h1 := hval.out
      rw [mod_nl (show nl a ≤ i by omega), mod_nl (show nl b ≤ i by omega)] at h1
      have h2 := val_lt hlim
      rw [hlen.out] at h2
      have h3 : a + b < 4294967296 ^ i := by
        have h4 := nl_le.1 hMa
        have h5 := nl_le.1 hMb
        rw [hiM, Nat.pow_succ]; omega
      have h6 : cr = 0 := by
        rcases Nat.eq_zero_or_pos cr with h | h
        · exact h
        · have := Nat.le_mul_of_pos_right (4294967296 ^ i) h
          omega
      rw [h6, Nat.mul_zero, Nat.add_zero] at h1
      have hmk := rmake_f X i cx L wr hlen.out hrd hlim (by omega) hcx (fun e => by subst e; rcases hown.2 with ⟨e, _⟩ | ⟨_, _, _, e, _⟩ <;> cases e; rfl)
      rw [h1] at hmk
      replace hmk := Lib.hid hmk
      clear h1 h2 h3 h6
      replace hiM := Lib.hid hiM
      go_wp2_with (fail)
      refine hmk.out.mono ?_
      rintro e w2 ⟨Y, cy, rfl, k1, k2, k3⟩
      go_wp2_with (fail)
      go_ret
      exact ⟨Y, cy, rfl, k1, hb.cons k2, k3.le hb.size⟩
theorem radd_c (A : Option Addr) (c a : Nat) (B : Option Addr) (d b : Nat) (w : World) (hA : NatV w A c a) (hB : NatV w B d b) (ha : nl a ≤ 1073741824) (hb : nl b ≤ 1073741824) :
    Calls Tryz.prog 83 #[.slice A (nl a) c, .slice B (nl b) d] w (RetN w (a + b)) :=
  (radd_f A c a B d b w hA hB ha hb).mono fun _ _ h => h.toN
end Go.Proofs.YtacjfpibilolnaaGreatDoor

/- The document's naturals, walked: Sub, Shl. -/
set_option linter.unusedVariables false
set_option linter.unusedSimpArgs false
namespace Go.Proofs.YtacjfpibilolnaaGreatDoor
open Go.RowKit Go.Shelf
attribute [local go_sem] max2_i min2_i max_two min_two

theorem own_nilcap {w : World} {base n cx : Nat} {X : Option Addr} {xs : List Value} (h : w.ownsRow base 58 1 (.slice X n cx) n xs) (e : X = none) : cx = 0 := by
  subst e
  rcases h.2 with ⟨e, _⟩ | ⟨_, _, _, e, _⟩
  · simp only [Value.slice.injEq] at e; exact e.2.2
  · simp at e
theorem sub_step {x y br t q : Nat} (hx : x < 4294967296) (hy : y < 4294967296) (hb : br ≤ 1) (ht : t = 4294967296 + x - y - br) (hq : q = 1 - t / 4294967296) : t % 4294967296 + y + br = x + 4294967296 * q ∧ q ≤ 1 ∧ t < 8589934592 := by
  have : t / 4294967296 = 0 ∨ t / 4294967296 = 1 := by omega
  omega
theorem rsub_f (A : Option Addr) (c a : Nat) (B : Option Addr) (d b : Nat) (w : World) (hA : NatV w A c a) (hB : NatV w B d b) (ha : nl a ≤ 1073741824) (hb : nl b ≤ 1073741824) (h : b ≤ a) :
    Calls Tryz.prog 84 #[.slice A (nl a) c, .slice B (nl b) d] w fun e w' => ∃ X cx, e = .returned (.tuple #[.slice X (nl (a - b)) cx, .bool true]) ∧ NatV w' X cx (a - b) ∧ Below w.heap.size w w' ∧ Fr w.heap.size X cx := by
  obtain ⟨i0, hi, hz0, hz1, hz2⟩ := info_parts info_u32
  have hb1 : decide (cmpN a b < 0) = false := by rw [decide_eq_false_iff_not, cmpN_neg]; omega
  have CC := rcmp_c A c a B d b w hA hB ha hb
  have hba := nl_mono h
  replace CC := Lib.hid CC
  replace h := Lib.hid h
  go_enter Tryz.func84, Tryz.ntmps84
  go_wp2_with (fail)
  refine CC.out.mono ?_
  rintro e w' ⟨rfl, rfl⟩
  go_wp2_with (fail)
  go_loopw [6, 7, 8, 9] (fun vo vc vi vn wr => ∃ (i br : Nat) (L : List Nat), vc = .int .u64 br ∧ vi = .int .i64 i ∧ i ≤ nl a ∧ br ≤ 1 ∧ Below w.heap.size w wr ∧ wr.ownsRow w.heap.size 58 1 vo i (vals L) ∧ Hid (L.length = i) ∧ Lim L ∧ Hid (val L + b % 4294967296 ^ i = a % 4294967296 ^ i + 4294967296 ^ i * br)) (fun vo vc vi vn wr => nl a - (intOf vi).toNat)
  case atStart => exact ⟨0, 0, [], rfl, rfl, Nat.zero_le _, by decide, (Below.refl _ _).alloc (Nat.le_refl _) _, World.ownsRow_lit w #[] 0 (Nat.le_refl _) (by decide) rfl, Lib.hid rfl, Lim.nil, Lib.hid (by simp [val, Nat.mod_one])⟩
  case round =>
    obtain ⟨i, br, L, rfl, rfl, hi1, hbr, hb, hown, hlen, hlim, hval⟩ := hrel
    obtain ⟨X, cx, rfl, hcx, hcm, hrd⟩ := ownV_rd hown
    by_cases hlt : i < nl a
    · have CA := limb_c A c a i wr (hA.below hb) (by omega) (by omega)
      have CB := limb_c B d b i wr (hB.below hb) (by omega) (by omega)
      have ma := mod_dig a i
      have mb := mod_dig b i
      obtain ⟨x, hx⟩ : ∃ x, x = a / 4294967296 ^ i % 4294967296 := ⟨_, rfl⟩
      obtain ⟨y, hy⟩ : ∃ y, y = b / 4294967296 ^ i % 4294967296 := ⟨_, rfl⟩
      have hxl : x < 4294967296 := by rw [hx]; exact dig_lt _ _
      have hyl : y < 4294967296 := by rw [hy]; exact dig_lt _ _
      rw [← hx] at CA ma
      rw [← hy] at CB mb
      replace CA := Lib.hid CA
      replace CB := Lib.hid CB
      replace ma := Lib.hid ma
      replace mb := Lib.hid mb
      obtain ⟨t, ht⟩ : ∃ t, t = 4294967296 + x - y - br := ⟨_, rfl⟩
      have htI : 4294967296 + (x : Int) - (y : Int) - (br : Int) = (t : Int) := by omega
      obtain ⟨q, hq⟩ : ∃ q, q = 1 - t / 4294967296 := ⟨_, rfl⟩
      obtain ⟨hoq, hql, htb⟩ := sub_step hxl hyl hbr ht hq
      have hqI : 1 - (t : Int) / 4294967296 = (q : Int) := by omega
      obtain ⟨o, ho⟩ : ∃ o, o = t % 4294967296 := ⟨_, rfl⟩
      have hoI : (t : Int) % 4294967296 = (o : Int) := by omega
      have hol : o < 4294967296 := by omega
      rw [← ho] at hoq
      replace hoq := Lib.hid hoq
      replace ht := Lib.hid ht
      replace ho := Lib.hid ho
      replace hq := Lib.hid hq
      replace hx := Lib.hid hx
      replace hy := Lib.hid hy
      go_wp2_with (first
        | (go_at_call 114; (with_reducible refine CA.out.mono ?_); rintro e w' ⟨rfl, rfl⟩)
        | (go_at_call 114; (with_reducible refine CB.out.mono ?_); rintro e w' ⟨rfl, rfl⟩)
        | (at_builtin; refine wpList_append_own_at _ rfl _ _ 22 rfl w.heap.size 58 i0 (.int .u32 0) 1 4 Tryz.underlying22 hi hz0 hz1 hz2 rfl (by decide) _ (i) (vals L) rfl (hown.alloc _) ⟨wr.heap.size, 0, none⟩ 1 1 [.int .u32 (o : Nat)] rfl rfl (cell_one_new _ _ _) (by simp [Value.oneCell']) (by simp only [maxLen]; omega) (by omega) (by simp; have := hb.size; omega) ?_))
      intro v' w1 hown1 hg1 _ _
      have hown2 := Lib.hid hown1
      have hg2 := Lib.hid hg1
      clear hown1 hg1
      go_wp2_with (fail)
      go_roundw
      case rel =>
        refine ⟨i + 1, q, L ++ [o], rfl, by go_num, by omega, hql, ?_, ?_, Lib.hid (by simp [hlen.out]), hlim.append (Lim.one hol), Lib.hid ?_⟩
        · exact (hb.alloc hb.size _).grown hg2.out (by simp; have := hb.size; omega) (fun k e => own_base' hown k e)
        · rw [vals_append]; exact hown2.out
        · have h1 := hval.out
          have h2 := hoq.out
          rw [val_snoc, hlen.out, ma.out, mb.out, Nat.pow_succ]
          generalize 4294967296 ^ i = p at *
          generalize a % p = a1 at *
          generalize b % p = b1 at *
          grind
      case measure => simp only [intOf]; omega
    · obtain rfl : i = nl a := by omega
      have h1 := hval.out
      rw [mod_nl (Nat.le_refl _), mod_nl hba] at h1
      have h2 := val_lt hlim
      rw [hlen.out] at h2
      have h6 : br = 0 := by
        rcases Nat.eq_zero_or_pos br with hz | hz
        · exact hz
        · have := Nat.le_mul_of_pos_right (4294967296 ^ nl a) hz
          have := h.out
          omega
      rw [h6, Nat.mul_zero, Nat.add_zero] at h1
      have hmk := rmake_f X (nl a) cx L wr hlen.out hrd hlim (by omega) hcx (own_nilcap hown)
      rw [show val L = a - b by omega] at hmk
      replace hmk := Lib.hid hmk
      clear h1 h2 h6
      go_wp2_with (fail)
      refine hmk.out.mono ?_
      rintro e w2 ⟨Y, cy, rfl, k1, k2, k3⟩
      go_wp2_with (fail)
      exact bodyPost_ret (v := .tuple #[.slice Y (nl (a - b)) cy, .bool true]) (by simp [results, Tryz.results84, go_sem]) rfl ⟨Y, cy, rfl, k1, hb.cons k2, k3.le hb.size⟩
theorem rsub_c (A : Option Addr) (c a : Nat) (B : Option Addr) (d b : Nat) (w : World) (hA : NatV w A c a) (hB : NatV w B d b) (ha : nl a ≤ 1073741824) (hb : nl b ≤ 1073741824) (h : b ≤ a) :
    Calls Tryz.prog 84 #[.slice A (nl a) c, .slice B (nl b) d] w fun e w' => ∃ X cx, e = .returned (.tuple #[.slice X (nl (a - b)) cx, .bool true]) ∧ NatV w' X cx (a - b) ∧ Below w.heap.size w w' :=
  (rsub_f A c a B d b w hA hB ha hb h).mono fun _ _ ⟨X, cx, h1, h2, h3, _⟩ => ⟨X, cx, h1, h2, h3⟩
theorem rsubNot_c (A : Option Addr) (c a : Nat) (B : Option Addr) (d b : Nat) (w : World) (hA : NatV w A c a) (hB : NatV w B d b) (ha : nl a ≤ 1073741824) (hb : nl b ≤ 1073741824) (h : a < b) :
    Calls Tryz.prog 84 #[.slice A (nl a) c, .slice B (nl b) d] w fun e w' => e = .returned (.tuple #[.slice none 0 0, .bool false]) ∧ w = w' := by
  have hb1 : decide (cmpN a b < 0) = true := by rw [decide_eq_true_eq, cmpN_neg]; omega
  have CC := rcmp_c A c a B d b w hA hB ha hb
  replace CC := Lib.hid CC
  replace h := Lib.hid h
  go_enter Tryz.func84, Tryz.ntmps84
  go_wp2_with (fail)
  refine CC.out.mono ?_
  rintro e w' ⟨rfl, rfl⟩
  go_wp2_with (fail)
  exact bodyPost_ret (v := .tuple #[.slice none 0 0, .bool false]) (by simp [results, Tryz.results84, go_sem]) rfl ⟨rfl, rfl⟩
theorem zeros_snoc (i : Nat) : List.replicate i 0 ++ [0] = List.replicate (i + 1) (0 : Nat) := by rw [List.replicate_succ']
theorem rshl_f (A : Option Addr) (c a n : Nat) (w : World) (hA : NatV w A c a) (ha : nl a ≤ 1073741824) (hn : n ≤ 1073741824) :
    Calls Tryz.prog 73 #[.slice A (nl a) c, .int .i64 (n : Nat)] w (RetF w (a * 2 ^ n)) := by
  obtain ⟨i0, hi, hz0, hz1, hz2⟩ := info_parts info_u32
  obtain ⟨q, hq⟩ : ∃ q, q = n / 32 := ⟨_, rfl⟩
  obtain ⟨s, hs⟩ : ∃ s, s = n % 32 := ⟨_, rfl⟩
  have hqI : (n : Int) / 32 = (q : Int) := by omega
  have hsI : (n : Int) % 32 = (s : Int) := by omega
  have hql : q ≤ 33554432 := by omega
  have hsl : s < 32 := by omega
  have hns : n = s + 32 * q := by omega
  have hs31 : 2 ^ s ≤ 2147483648 := Nat.pow_le_pow_right (by decide) (show s ≤ 31 by omega)
  replace hns := Lib.hid hns
  replace hs := Lib.hid hs
  replace hq := Lib.hid hq
  replace hs31 := Lib.hid hs31
  go_enter Tryz.func73, Tryz.ntmps73
  go_wp2_with (fail)
  go_loopw [5, 8] (fun vo vi wr => ∃ i : Nat, vi = .int .i64 i ∧ i ≤ q ∧ Below w.heap.size w wr ∧ wr.ownsRow w.heap.size 58 1 vo i (vals (List.replicate i 0))) (fun vo vi wr => q - (intOf vi).toNat)
  case atStart => exact ⟨0, rfl, Nat.zero_le _, (Below.refl _ _).alloc (Nat.le_refl _) _, World.ownsRow_lit w #[] 0 (Nat.le_refl _) (by decide) rfl⟩
  case round =>
    obtain ⟨i, rfl, hi1, hb, hown⟩ := hrel
    obtain ⟨X, cx, rfl, hcx, hcm, hrd⟩ := ownV_rd hown
    by_cases hlt : i < q
    · go_wp2_with (at_builtin; refine wpList_append_own_at _ rfl _ _ 22 rfl w.heap.size 58 i0 (.int .u32 0) 1 4 Tryz.underlying22 hi hz0 hz1 hz2 rfl (by decide) _ (i) (vals (List.replicate i 0)) rfl (hown.alloc _) ⟨wr.heap.size, 0, none⟩ 1 1 [.int .u32 0] rfl rfl (cell_one_new _ _ _) (by simp [Value.oneCell']) (by simp only [maxLen]; omega) (by omega) (by simp; have := hb.size; omega) ?_)
      intro v' w1 hown1 hg1 _ _
      have hown2 := Lib.hid hown1
      have hg2 := Lib.hid hg1
      clear hown1 hg1
      go_wp2_with (fail)
      go_roundw
      case rel =>
        refine ⟨i + 1, by go_num, by omega, ?_, ?_⟩
        · exact (hb.alloc hb.size _).grown hg2.out (by simp; have := hb.size; omega) (fun k e => own_base' hown k e)
        · rw [← zeros_snoc, vals_append]; exact hown2.out
      case measure => simp only [intOf]; omega
    · obtain rfl : i = q := by omega
      obtain ⟨wo, rfl⟩ : ∃ wo : World, wo = wr := ⟨_, rfl⟩
      go_wp2_with (fail)
      go_loopw [7, 9] (fun vb vi w2 => ∃ j bb : Nat, vb = .int .u64 bb ∧ vi = .int .i64 j ∧ j ≤ s ∧ Hid (bb = 2 ^ j) ∧ bb ≤ 2147483648 ∧ w2 = wo) (fun vb vi w2 => s - (intOf vi).toNat)
      case atStart => exact ⟨0, 1, rfl, rfl, Nat.zero_le _, Lib.hid rfl, by decide, rfl⟩
      case round =>
        obtain ⟨j, bb, rfl, rfl, hj, hbb, hbl, hw2⟩ := hrel
        rw [hw2]
        clear hw2
        by_cases hlt2 : j < s
        · have hb2 : 2 * bb = 2 ^ (j + 1) := by rw [hbb.out, Nat.pow_succ, Nat.mul_comm]
          have hb3 : 2 * bb ≤ 2147483648 := by rw [hb2]; exact Nat.le_trans (Nat.pow_le_pow_right (by decide) (show j + 1 ≤ s by omega)) hs31.out
          replace hb2 := Lib.hid hb2
          go_wp2_with (fail)
          go_roundw
          case rel => exact ⟨j + 1, 2 * bb, by go_num, by go_num, by omega, hb2, hb3, by first | rfl | trivial⟩
          case measure => simp only [intOf]; omega
        · obtain rfl : j = s := by omega
          go_wp2_with (fail)
          simp only [hsI]
          go_loopw [5, 6, 10, 11] (fun vo vc vi vx wr => ∃ (k cr : Nat) (L : List Nat), vc = .int .u64 cr ∧ vi = .int .i64 k ∧ k ≤ nl a + 1 ∧ cr < 4294967296 ∧ Below w.heap.size w wr ∧ wr.ownsRow w.heap.size 58 1 vo (i + k) (vals L) ∧ Hid (L.length = i + k) ∧ Lim L ∧ Hid (val L + 4294967296 ^ (i + k) * cr = a % 4294967296 ^ k * bb * 4294967296 ^ i)) (fun vo vc vi vx wr => nl a + 1 - (intOf vi).toNat)
          case atStart => exact ⟨0, 0, _, rfl, rfl, Nat.zero_le _, by decide, hb, hown, Lib.hid (by simp), Lim.replicate _ _ (by decide), Lib.hid (by rw [val_replicate]; simp [Nat.mod_one])⟩
          case round =>
            obtain ⟨k, cr, L, rfl, rfl, hk1, hcr, hb, hown, hlen, hlim, hval⟩ := hrel
            obtain ⟨X, cx, rfl, hcx, hcm, hrd⟩ := ownV_rd hown
            by_cases hlt3 : k ≤ nl a
            · have CA := limb_c A c a k wr (hA.below hb) (by omega) (by omega)
              have ma := mod_dig a k
              obtain ⟨x, hx⟩ : ∃ x, x = a / 4294967296 ^ k % 4294967296 := ⟨_, rfl⟩
              have hxl : x < 4294967296 := by rw [hx]; exact dig_lt _ _
              rw [← hx] at CA ma
              replace CA := Lib.hid CA
              replace ma := Lib.hid ma
              obtain ⟨p, hp⟩ : ∃ p, p = x * bb := ⟨_, rfl⟩
              have hpI : (x : Int) * (bb : Int) = (p : Int) := by rw [hp]; exact (Int.natCast_mul x bb).symm
              have hpl : p ≤ 4294967295 * 2147483648 := by rw [hp]; exact Nat.mul_le_mul (by omega) hbl
              obtain ⟨t, ht⟩ : ∃ t, t = p + cr := ⟨_, rfl⟩
              have htI : (p : Int) + (cr : Int) = (t : Int) := by omega
              have htb : t < 18446744073709551616 := by omega
              obtain ⟨o, ho⟩ : ∃ o, o = t % 4294967296 := ⟨_, rfl⟩
              have hoI : (t : Int) % 4294967296 = (o : Int) := by omega
              have hol : o < 4294967296 := by omega
              obtain ⟨e, he⟩ : ∃ e, e = t / 4294967296 := ⟨_, rfl⟩
              have heI : (t : Int) / 4294967296 = (e : Int) := by omega
              have hel : e < 4294967296 := by omega
              have hoe : o + 4294967296 * e = x * bb + cr := by rw [← hp]; omega
              replace hoe := Lib.hid hoe
              replace hp := Lib.hid hp
              replace ht := Lib.hid ht
              replace ho := Lib.hid ho
              replace he := Lib.hid he
              replace hx := Lib.hid hx
              go_wp2_with (first
                | (go_at_call 114; (with_reducible refine CA.out.mono ?_); rintro e w' ⟨rfl, rfl⟩)
                | (at_builtin; refine wpList_append_own_at _ rfl _ _ 22 rfl w.heap.size 58 i0 (.int .u32 0) 1 4 Tryz.underlying22 hi hz0 hz1 hz2 rfl (by decide) _ (i + k) (vals L) rfl (hown.alloc _) ⟨wr.heap.size, 0, none⟩ 1 1 [.int .u32 (o : Nat)] rfl rfl (cell_one_new _ _ _) (by simp [Value.oneCell']) (by simp only [maxLen]; omega) (by omega) (by simp; have := hb.size; omega) ?_))
              intro v' w1 hown1 hg1 _ _
              have hown2 := Lib.hid hown1
              have hg2 := Lib.hid hg1
              clear hown1 hg1
              go_wp2_with (fail)
              go_roundw
              case rel =>
                refine ⟨k + 1, e, L ++ [o], rfl, by go_num, by omega, hel, ?_, ?_, Lib.hid (by simp [hlen.out]; omega), hlim.append (Lim.one hol), Lib.hid ?_⟩
                · exact (hb.alloc hb.size _).grown hg2.out (by simp; have := hb.size; omega) (fun k e => own_base' hown k e)
                · rw [vals_append]; exact hown2.out
                · have h1 := hval.out
                  have h2 := hoe.out
                  rw [val_snoc, hlen.out, ma.out, ← Nat.add_assoc, Nat.pow_succ]
                  rw [Nat.pow_add] at h1 ⊢
                  generalize 4294967296 ^ k = pk at *
                  generalize 4294967296 ^ i = pi at *
                  generalize a % pk = a1 at *
                  generalize val L = vl at *
                  grind
              case measure => simp only [intOf]; omega
            · obtain rfl : k = nl a + 1 := by omega
              have h1 := hval.out
              rw [mod_nl (show nl a ≤ nl a + 1 by omega)] at h1
              have h2 := val_lt hlim
              rw [hlen.out] at h2
              have h3 : a * bb * 4294967296 ^ i < 4294967296 ^ (i + (nl a + 1)) := by
                have h4 := nl_lt a
                have h5 : a * bb < 4294967296 ^ nl a * 4294967296 := Nat.mul_lt_mul'' h4 (by omega)
                rw [Nat.pow_add, Nat.mul_comm (4294967296 ^ i), Nat.pow_succ]
                exact Nat.mul_lt_mul_of_pos_right h5 (Nat.pow_pos (by decide))
              have h6 : cr = 0 := by
                rcases Nat.eq_zero_or_pos cr with h | h
                · exact h
                · have := Nat.le_mul_of_pos_right (4294967296 ^ (i + (nl a + 1))) h
                  omega
              rw [h6, Nat.mul_zero, Nat.add_zero, hbb.out, Nat.mul_assoc, ← pow32, ← Nat.pow_add, ← hns.out] at h1
              have hmk := rmake_f X (i + (nl a + 1)) cx L wr hlen.out hrd hlim (by omega) hcx (own_nilcap hown)
              rw [h1] at hmk
              replace hmk := Lib.hid hmk
              clear h1 h2 h3 h6
              go_wp2_with (fail)
              refine hmk.out.mono ?_
              rintro e w2 ⟨Y, cy, rfl, k1, k2, k3⟩
              go_wp2_with (fail)
              go_ret
              exact ⟨Y, cy, rfl, k1, hb.cons k2, k3.le hb.size⟩
end Go.Proofs.YtacjfpibilolnaaGreatDoor
