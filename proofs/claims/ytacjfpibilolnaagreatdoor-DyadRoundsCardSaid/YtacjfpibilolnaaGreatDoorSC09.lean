/- The document's naturals, walked: limb, Cmp, Same, Add, Sub. -/
import Derived.Test.YtacjfpibilolnaaGreatDoorSC08
set_option maxRecDepth 100000
set_option maxHeartbeats 4000000
set_option linter.unusedVariables false
set_option linter.unusedSimpArgs false
namespace Go.Proofs.YtacjfpibilolnaaGreatDoor
open Go.RowKit Go.Shelf
attribute [local go_sem] max2_i min2_i max_two min_two

theorem Lim.one {x : Nat} (h : x < 4294967296) : Lim [x] := Lim.cons h Lim.nil
theorem dig_lt (a i : Nat) : a / 4294967296 ^ i % 4294967296 < 4294967296 := Nat.mod_lt _ (by decide)
theorem div_dig (a k : Nat) : a / 4294967296 ^ k = 4294967296 * (a / 4294967296 ^ (k + 1)) + a / 4294967296 ^ k % 4294967296 := by
  rw [Nat.pow_succ, ← Nat.div_div_eq_div_mul]; omega
theorem lt_of_div {a b P : Nat} (h : a / P < b / P) : a < b := by
  refine Nat.lt_of_not_le fun h2 => ?_
  have := Nat.div_le_div_right (c := P) h2
  omega
theorem mod_dig (a i : Nat) : a % 4294967296 ^ (i + 1) = a % 4294967296 ^ i + 4294967296 ^ i * (a / 4294967296 ^ i % 4294967296) := by rw [Nat.pow_succ, Nat.mod_mul]
theorem div_nl {a i : Nat} (h : nl a ≤ i) : a / 4294967296 ^ i = 0 := Nat.div_eq_of_lt (nl_le.1 h)
theorem mod_nl {a i : Nat} (h : nl a ≤ i) : a % 4294967296 ^ i = a := Nat.mod_eq_of_lt (nl_le.1 h)

theorem limb_c (A : Option Addr) (c a : Nat) (j : Nat) (w : World) (hA : NatV w A c a) (h0 : j ≤ 1099511627776) (hl : nl a ≤ 1099511627776) :
    Calls Tryz.prog 114 #[.slice A (nl a) c, .int .i64 (j : Int)] w fun e w' => e = .returned (.int .u64 (a / 4294967296 ^ j % 4294967296 : Nat)) ∧ w = w' := by
  obtain ⟨x, hx⟩ : ∃ x, x = a / 4294967296 ^ j % 4294967296 := ⟨_, rfl⟩
  have hxl : x < 4294967296 := by rw [hx]; exact dig_lt _ _
  rw [← hx]
  by_cases hj : j < nl a
  · obtain ⟨ad, rfl, hc⟩ := hA.rd.get j hj
    rw [limbs_gl, ← hx] at hc
    replace hx := Lib.hid hx
    go_enter Tryz.func114, Tryz.ntmps114
    go_wp2_with (fail)
    go_ret
    exact ⟨rfl, rfl⟩
  · have e : x = 0 := by rw [hx, div_nl (by omega), Nat.zero_mod]
    replace hx := Lib.hid hx
    replace e := Lib.hid e
    go_enter Tryz.func114, Tryz.ntmps114
    go_wp2_with (fail)
    go_ret
    exact ⟨by rw [e.out]; rfl, rfl⟩

theorem rcmp_c (A : Option Addr) (c a : Nat) (B : Option Addr) (d b : Nat) (w : World) (hA : NatV w A c a) (hB : NatV w B d b) (ha : nl a ≤ 1073741824) (hb : nl b ≤ 1073741824) :
    Calls Tryz.prog 94 #[.slice A (nl a) c, .slice B (nl b) d] w fun e w' => e = .returned (.int .i64 (cmpN a b)) ∧ w = w' := by
  obtain ⟨M, hM⟩ : ∃ M, M = max (nl a) (nl b) := ⟨_, rfl⟩
  have hMI : max (nl a : Int) (nl b : Int) = (M : Int) := by omega
  have hMb : M ≤ 1073741824 := by omega
  have h0 : a / 4294967296 ^ M = b / 4294967296 ^ M := by rw [div_nl (by omega), div_nl (by omega)]
  replace hM := Lib.hid hM
  replace h0 := Lib.hid h0
  go_enter Tryz.func94, Tryz.ntmps94
  go_wp2_with (fail)
  go_loop [5] (fun vi => ∃ k : Nat, vi = .int .i64 ((k : Int) - 1) ∧ k ≤ M ∧ Hid (a / 4294967296 ^ k = b / 4294967296 ^ k)) (fun vi => (intOf vi + 1).toNat)
  case atStart => exact ⟨M, rfl, Nat.le_refl _, h0⟩
  case round =>
    obtain ⟨k, rfl, hk, heq⟩ := hrel
    cases k with
    | zero =>
      have h2 : a = b := by have := heq.out; simpa using this
      have h3 : cmpN a b = 0 := cmpN_eq h2
      replace h2 := Lib.hid h2
      replace h3 := Lib.hid h3
      go_wp2_with (fail)
      go_ret
      exact ⟨by rw [h3.out]; rfl, rfl⟩
    | succ k =>
      rw [show (((k + 1 : Nat) : Int) - 1) = (k : Int) by omega]
      have CA := limb_c A c a k w hA (by omega) (by omega)
      have CB := limb_c B d b k w hB (by omega) (by omega)
      have da := div_dig a k
      have db := div_dig b k
      obtain ⟨x, hx⟩ : ∃ x, x = a / 4294967296 ^ k % 4294967296 := ⟨_, rfl⟩
      obtain ⟨y, hy⟩ : ∃ y, y = b / 4294967296 ^ k % 4294967296 := ⟨_, rfl⟩
      have hxl : x < 4294967296 := by rw [hx]; exact dig_lt _ _
      have hyl : y < 4294967296 := by rw [hy]; exact dig_lt _ _
      rw [← hx] at CA da
      rw [← hy] at CB db
      rw [heq.out] at da
      replace CA := Lib.hid CA
      replace CB := Lib.hid CB
      rcases Nat.lt_trichotomy x y with hxy | hxy | hxy
      · have h3 : cmpN a b = -1 := cmpN_lt (lt_of_div (P := 4294967296 ^ k) (by omega))
        replace h3 := Lib.hid h3
        clear hx hy da db
        go_wp2_with (first
          | (go_at_call 114; (with_reducible refine CA.out.mono ?_); rintro e w' ⟨rfl, rfl⟩)
          | (go_at_call 114; (with_reducible refine CB.out.mono ?_); rintro e w' ⟨rfl, rfl⟩))
        go_ret
        exact ⟨by rw [h3.out]; rfl, rfl⟩
      · have h3 : a / 4294967296 ^ k = b / 4294967296 ^ k := by rw [da, db, hxy]
        replace h3 := Lib.hid h3
        have hn1 : ¬ x < y := by omega
        have hn2 : ¬ y < x := by omega
        replace hxy := Lib.hid hxy
        clear hx hy da db
        go_wp2_with (first
          | (go_at_call 114; (with_reducible refine CA.out.mono ?_); rintro e w' ⟨rfl, rfl⟩)
          | (go_at_call 114; (with_reducible refine CB.out.mono ?_); rintro e w' ⟨rfl, rfl⟩))
        go_round
        case rel => exact ⟨k, rfl, by omega, h3⟩
        case measure => simp only [intOf]; omega
      · have h3 : cmpN a b = 1 := cmpN_gt (lt_of_div (P := 4294967296 ^ k) (by omega))
        replace h3 := Lib.hid h3
        have hn1 : ¬ x < y := by omega
        clear hx hy da db
        go_wp2_with (first
          | (go_at_call 114; (with_reducible refine CA.out.mono ?_); rintro e w' ⟨rfl, rfl⟩)
          | (go_at_call 114; (with_reducible refine CB.out.mono ?_); rintro e w' ⟨rfl, rfl⟩))
        go_ret
        exact ⟨by rw [h3.out]; rfl, rfl⟩
theorem radd_f (A : Option Addr) (c a : Nat) (B : Option Addr) (d b : Nat) (w : World) (hA : NatV w A c a) (hB : NatV w B d b) (ha : nl a ≤ 1073741824) (hb : nl b ≤ 1073741824) :
    Calls Tryz.prog 83 #[.slice A (nl a) c, .slice B (nl b) d] w (RetF w (a + b)) := by
  obtain ⟨i0, hi, hz0, hz1, hz2⟩ := info_parts info_u32
  obtain ⟨M, hM⟩ : ∃ M, M = max (nl a) (nl b) := ⟨_, rfl⟩
  have hMa : nl a ≤ M := by omega
  have hMb : nl b ≤ M := by omega
  have hMc : M ≤ 1073741824 := by omega
  have hMd : M = nl a ∨ M = nl b := by omega
  replace hM := Lib.hid hM
  replace hMd := Lib.hid hMd
  go_enter Tryz.func83, Tryz.ntmps83
  go_wp2_with (fail)
  go_loopw [5, 6, 7, 8] (fun vo vc vi vn wr => ∃ (i cr : Nat) (L : List Nat), vc = .int .u64 cr ∧ vi = .int .i64 i ∧ i ≤ M + 1 ∧ cr ≤ 1 ∧ Below w.heap.size w wr ∧ wr.ownsRow w.heap.size 58 1 vo i (vals L) ∧ Hid (L.length = i) ∧ Lim L ∧ Hid (val L + 4294967296 ^ i * cr = a % 4294967296 ^ i + b % 4294967296 ^ i)) (fun vo vc vi vn wr => M + 1 - (intOf vi).toNat)
  case atStart => exact ⟨0, 0, [], rfl, rfl, Nat.zero_le _, by decide, (Below.refl _ _).alloc (Nat.le_refl _) _, World.ownsRow_lit w #[] 0 (Nat.le_refl _) (by decide) rfl, Lib.hid rfl, Lim.nil, Lib.hid (by simp [val, Nat.mod_one])⟩
  case round =>
    obtain ⟨i, cr, L, rfl, rfl, hi1, hcr, hb, hown, hlen, hlim, hval⟩ := hrel
    obtain ⟨X, cx, rfl, hcx, hcm, hrd⟩ := ownV_rd hown
    by_cases hlt : i ≤ nl a
    · skip
      have hlt0 : i ≤ M := by omega
      have CA := limb_c A c a i wr (hA.below hb) (by omega) (by omega)
      have CB := limb_c B d b i wr (hB.below hb) (by omega) (by omega)
      have ma := mod_dig a i
      have mb := mod_dig b i
      obtain ⟨x, hx⟩ : ∃ x, x = a / 4294967296 ^ i % 4294967296 := ⟨_, rfl⟩
      obtain ⟨y, hy⟩ : ∃ y, y = b / 4294967296 ^ i % 4294967296 := ⟨_, rfl⟩
      have hxl : x < 4294967296 := by rw [hx]; exact dig_lt _ _
      have hyl : y < 4294967296 := by rw [hy]; exact dig_lt _ _
      rw [← hx] at CA ma
      rw [← hy] at CB mb
      replace CA := Lib.hid CA
      replace CB := Lib.hid CB
      replace ma := Lib.hid ma
      replace mb := Lib.hid mb
      obtain ⟨t, ht⟩ : ∃ t, t = x + y + cr := ⟨_, rfl⟩
      have htI : (x : Int) + (y : Int) + (cr : Int) = (t : Int) := by omega
      have htb : t < 18446744073709551616 := by omega
      obtain ⟨o, ho⟩ : ∃ o, o = t % 4294967296 := ⟨_, rfl⟩
      have hoI : (t : Int) % 4294967296 = (o : Int) := by omega
      have hol : o < 4294967296 := by omega
      obtain ⟨q, hq⟩ : ∃ q, q = t / 4294967296 := ⟨_, rfl⟩
      have hqI : (t : Int) / 4294967296 = (q : Int) := by omega
      have hql : q ≤ 1 := by omega
      have hoq : o + 4294967296 * q = x + y + cr := by omega
      replace hoq := Lib.hid hoq
      replace ht := Lib.hid ht
      replace ho := Lib.hid ho
      replace hq := Lib.hid hq
      replace hx := Lib.hid hx
      replace hy := Lib.hid hy
      go_wp2_with (first
        | (go_at_call 114; (with_reducible refine CA.out.mono ?_); rintro e w' ⟨rfl, rfl⟩)
        | (go_at_call 114; (with_reducible refine CB.out.mono ?_); rintro e w' ⟨rfl, rfl⟩)
        | (at_builtin; refine wpList_append_own_at _ rfl _ _ 22 rfl w.heap.size 58 i0 (.int .u32 0) 1 4 Tryz.underlying22 hi hz0 hz1 hz2 rfl (by decide) _ i (vals L) rfl (hown.alloc _) ⟨wr.heap.size, 0, none⟩ 1 1 [.int .u32 (o : Nat)] rfl rfl (cell_one_new _ _ _) (by simp [Value.oneCell']) (by simp only [maxLen]; omega) (by omega) (by simp; have := hb.size; omega) ?_))
      intro v' w1 hown1 hg1 _ _
      have hown2 := Lib.hid hown1
      have hg2 := Lib.hid hg1
      clear hown1 hg1
      go_wp2_with (fail)
      go_roundw
      case rel =>
        refine ⟨i + 1, q, L ++ [o], rfl, by go_num, by omega, hql, ?_, ?_, Lib.hid (by simp [hlen.out]), hlim.append (Lim.one hol), Lib.hid ?_⟩
        · exact (hb.alloc hb.size _).grown hg2.out (by simp; have := hb.size; omega) (fun k e => own_base' hown k e)
        · rw [vals_append]; exact hown2.out
        · have h1 := hval.out
          have h2 := hoq.out
          rw [val_snoc, hlen.out, ma.out, mb.out, Nat.pow_succ]
          generalize 4294967296 ^ i = p at *
          generalize a % p = a1 at *
          generalize b % p = b1 at *
          grind
      case measure => simp only [intOf]; omega
    by_cases hlt2 : i ≤ nl b
    · skip
      have hlt0 : i ≤ M := by omega
      have CA := limb_c A c a i wr (hA.below hb) (by omega) (by omega)
      have CB := limb_c B d b i wr (hB.below hb) (by omega) (by omega)
      have ma := mod_dig a i
      have mb := mod_dig b i
      obtain ⟨x, hx⟩ : ∃ x, x = a / 4294967296 ^ i % 4294967296 := ⟨_, rfl⟩
      obtain ⟨y, hy⟩ : ∃ y, y = b / 4294967296 ^ i % 4294967296 := ⟨_, rfl⟩
      have hxl : x < 4294967296 := by rw [hx]; exact dig_lt _ _
      have hyl : y < 4294967296 := by rw [hy]; exact dig_lt _ _
      rw [← hx] at CA ma
      rw [← hy] at CB mb
      replace CA := Lib.hid CA
      replace CB := Lib.hid CB
      replace ma := Lib.hid ma
      replace mb := Lib.hid mb
      obtain ⟨t, ht⟩ : ∃ t, t = x + y + cr := ⟨_, rfl⟩
      have htI : (x : Int) + (y : Int) + (cr : Int) = (t : Int) := by omega
      have htb : t < 18446744073709551616 := by omega
      obtain ⟨o, ho⟩ : ∃ o, o = t % 4294967296 := ⟨_, rfl⟩
      have hoI : (t : Int) % 4294967296 = (o : Int) := by omega
      have hol : o < 4294967296 := by omega
      obtain ⟨q, hq⟩ : ∃ q, q = t / 4294967296 := ⟨_, rfl⟩
      have hqI : (t : Int) / 4294967296 = (q : Int) := by omega
      have hql : q ≤ 1 := by omega
      have hoq : o + 4294967296 * q = x + y + cr := by omega
      replace hoq := Lib.hid hoq
      replace ht := Lib.hid ht
      replace ho := Lib.hid ho
      replace hq := Lib.hid hq
      replace hx := Lib.hid hx
      replace hy := Lib.hid hy
      go_wp2_with (first
        | (go_at_call 114; (with_reducible refine CA.out.mono ?_); rintro e w' ⟨rfl, rfl⟩)
        | (go_at_call 114; (with_reducible refine CB.out.mono ?_); rintro e w' ⟨rfl, rfl⟩)
        | (at_builtin; refine wpList_append_own_at _ rfl _ _ 22 rfl w.heap.size 58 i0 (.int .u32 0) 1 4 Tryz.underlying22 hi hz0 hz1 hz2 rfl (by decide) _ i (vals L) rfl (hown.alloc _) ⟨wr.heap.size, 0, none⟩ 1 1 [.int .u32 (o : Nat)] rfl rfl (cell_one_new _ _ _) (by simp [Value.oneCell']) (by simp only [maxLen]; omega) (by omega) (by simp; have := hb.size; omega) ?_))
      intro v' w1 hown1 hg1 _ _
      have hown2 := Lib.hid hown1
      have hg2 := Lib.hid hg1
      clear hown1 hg1
      go_wp2_with (fail)
      go_roundw
      case rel =>
        refine ⟨i + 1, q, L ++ [o], rfl, by go_num, by omega, hql, ?_, ?_, Lib.hid (by simp [hlen.out]), hlim.append (Lim.one hol), Lib.hid ?_⟩
        · exact (hb.alloc hb.size _).grown hg2.out (by simp; have := hb.size; omega) (fun k e => own_base' hown k e)
        · rw [vals_append]; exact hown2.out
        · have h1 := hval.out
          have h2 := hoq.out
          rw [val_snoc, hlen.out, ma.out, mb.out, Nat.pow_succ]
          generalize 4294967296 ^ i = p at *
          generalize a % p = a1 at *
          generalize b % p = b1 at *
          grind
      case measure => simp only [intOf]; omega
    · have hiM : i = M + 1 := by rcases hMd.out with h | h <;> omega
      have h1 := hval.out
      rw [mod_nl (show nl a ≤ i by omega), mod_nl (show nl b ≤ i by omega)] at h1
      have h2 := val_lt hlim
      rw [hlen.out] at h2
      have h3 : a + b < 4294967296 ^ i := by
        have h4 := nl_le.1 hMa
        have h5 := nl_le.1 hMb
        rw [hiM, Nat.pow_succ]; omega
      have h6 : cr = 0 := by
        rcases Nat.eq_zero_or_pos cr with h | h
        · exact h
        · have := Nat.le_mul_of_pos_right (4294967296 ^ i) h
          omega
      rw [h6, Nat.mul_zero, Nat.add_zero] at h1
      have hmk := rmake_f X i cx L wr hlen.out hrd hlim (by omega) hcx (fun e => by subst e; rcases hown.2 with ⟨e, _⟩ | ⟨_, _, _, e, _⟩ <;> cases e; rfl)
      rw [h1] at hmk
      replace hmk := Lib.hid hmk
      clear h1 h2 h3 h6
      replace hiM := Lib.hid hiM
      go_wp2_with (fail)
      refine hmk.out.mono ?_
      rintro e w2 ⟨Y, cy, rfl, k1, k2, k3⟩
      go_wp2_with (fail)
      go_ret
      exact ⟨Y, cy, rfl, k1, hb.cons k2, k3.le hb.size⟩
theorem radd_c (A : Option Addr) (c a : Nat) (B : Option Addr) (d b : Nat) (w : World) (hA : NatV w A c a) (hB : NatV w B d b) (ha : nl a ≤ 1073741824) (hb : nl b ≤ 1073741824) :
    Calls Tryz.prog 83 #[.slice A (nl a) c, .slice B (nl b) d] w (RetN w (a + b)) :=
  (radd_f A c a B d b w hA hB ha hb).mono fun _ _ h => h.toN
end Go.Proofs.YtacjfpibilolnaaGreatDoor
