/- The document's naturals, walked: Sub, Shl. -/
import Derived.Test.YtacjfpibilolnaaGreatDoorSC09
import Derived.Shelf.Small.Bits
import Derived.Shelf.Spec.BitsCarry
import Derived.Shelf.Bits.Mul64
import Derived.Test.YtacjfpibilolnaaGreatDoorProg
set_option maxRecDepth 100000
set_option maxHeartbeats 4000000
set_option linter.unusedVariables false
set_option linter.unusedSimpArgs false
namespace Go.Proofs.YtacjfpibilolnaaGreatDoor
open Go.RowKit Go.Shelf
attribute [local go_sem] max2_i min2_i max_two min_two

theorem own_nilcap {w : World} {base n cx : Nat} {X : Option Addr} {xs : List Value} (h : w.ownsRow base 58 1 (.slice X n cx) n xs) (e : X = none) : cx = 0 := by
  subst e
  rcases h.2 with ⟨e, _⟩ | ⟨_, _, _, e, _⟩
  · simp only [Value.slice.injEq] at e; exact e.2.2
  · simp at e
theorem sub_step {x y br t q : Nat} (hx : x < 4294967296) (hy : y < 4294967296) (hb : br ≤ 1) (ht : t = 4294967296 + x - y - br) (hq : q = 1 - t / 4294967296) : t % 4294967296 + y + br = x + 4294967296 * q ∧ q ≤ 1 ∧ t < 8589934592 := by
  have : t / 4294967296 = 0 ∨ t / 4294967296 = 1 := by omega
  omega
theorem rsub_f (A : Option Addr) (c a : Nat) (B : Option Addr) (d b : Nat) (w : World) (hA : NatV w A c a) (hB : NatV w B d b) (ha : nl a ≤ 1073741824) (hb : nl b ≤ 1073741824) (h : b ≤ a) :
    Calls Tryz.prog 84 #[.slice A (nl a) c, .slice B (nl b) d] w fun e w' => ∃ X cx, e = .returned (.tuple #[.slice X (nl (a - b)) cx, .bool true]) ∧ NatV w' X cx (a - b) ∧ Below w.heap.size w w' ∧ Fr w.heap.size X cx := by
  obtain ⟨i0, hi, hz0, hz1, hz2⟩ := info_parts info_u32
  have hb1 : decide (cmpN a b < 0) = false := by rw [decide_eq_false_iff_not, cmpN_neg]; omega
  have CC := rcmp_c A c a B d b w hA hB ha hb
  have hba := nl_mono h
  replace CC := Lib.hid CC
  replace h := Lib.hid h
  go_enter Tryz.func84, Tryz.ntmps84
  go_wp2_with (fail)
  refine CC.out.mono ?_
  rintro e w' ⟨rfl, rfl⟩
  go_wp2_with (fail)
  go_loopw [6, 7, 8, 9] (fun vo vc vi vn wr => ∃ (i br : Nat) (L : List Nat), vc = .int .u64 br ∧ vi = .int .i64 i ∧ i ≤ nl a ∧ br ≤ 1 ∧ Below w.heap.size w wr ∧ wr.ownsRow w.heap.size 58 1 vo i (vals L) ∧ Hid (L.length = i) ∧ Lim L ∧ Hid (val L + b % 4294967296 ^ i = a % 4294967296 ^ i + 4294967296 ^ i * br)) (fun vo vc vi vn wr => nl a - (intOf vi).toNat)
  case atStart => exact ⟨0, 0, [], rfl, rfl, Nat.zero_le _, by decide, (Below.refl _ _).alloc (Nat.le_refl _) _, World.ownsRow_lit w #[] 0 (Nat.le_refl _) (by decide) rfl, Lib.hid rfl, Lim.nil, Lib.hid (by simp [val, Nat.mod_one])⟩
  case round =>
    obtain ⟨i, br, L, rfl, rfl, hi1, hbr, hb, hown, hlen, hlim, hval⟩ := hrel
    obtain ⟨X, cx, rfl, hcx, hcm, hrd⟩ := ownV_rd hown
    by_cases hlt : i < nl a
    · have CA := limb_c A c a i wr (hA.below hb) (by omega) (by omega)
      have CB := limb_c B d b i wr (hB.below hb) (by omega) (by omega)
      have ma := mod_dig a i
      have mb := mod_dig b i
      obtain ⟨x, hx⟩ : ∃ x, x = a / 4294967296 ^ i % 4294967296 := ⟨_, rfl⟩
      obtain ⟨y, hy⟩ : ∃ y, y = b / 4294967296 ^ i % 4294967296 := ⟨_, rfl⟩
      have hxl : x < 4294967296 := by rw [hx]; exact dig_lt _ _
      have hyl : y < 4294967296 := by rw [hy]; exact dig_lt _ _
      rw [← hx] at CA ma
      rw [← hy] at CB mb
      replace CA := Lib.hid CA
      replace CB := Lib.hid CB
      replace ma := Lib.hid ma
      replace mb := Lib.hid mb
      obtain ⟨t, ht⟩ : ∃ t, t = 4294967296 + x - y - br := ⟨_, rfl⟩
      have htI : 4294967296 + (x : Int) - (y : Int) - (br : Int) = (t : Int) := by omega
      obtain ⟨q, hq⟩ : ∃ q, q = 1 - t / 4294967296 := ⟨_, rfl⟩
      obtain ⟨hoq, hql, htb⟩ := sub_step hxl hyl hbr ht hq
      have hqI : 1 - (t : Int) / 4294967296 = (q : Int) := by omega
      obtain ⟨o, ho⟩ : ∃ o, o = t % 4294967296 := ⟨_, rfl⟩
      have hoI : (t : Int) % 4294967296 = (o : Int) := by omega
      have hol : o < 4294967296 := by omega
      rw [← ho] at hoq
      replace hoq := Lib.hid hoq
      replace ht := Lib.hid ht
      replace ho := Lib.hid ho
      replace hq := Lib.hid hq
      replace hx := Lib.hid hx
      replace hy := Lib.hid hy
      go_wp2_with (first
        | (go_at_call 114; (with_reducible refine CA.out.mono ?_); rintro e w' ⟨rfl, rfl⟩)
        | (go_at_call 114; (with_reducible refine CB.out.mono ?_); rintro e w' ⟨rfl, rfl⟩)
        | (at_builtin; refine wpList_append_own_at _ rfl _ _ 22 rfl w.heap.size 58 i0 (.int .u32 0) 1 4 Tryz.underlying22 hi hz0 hz1 hz2 rfl (by decide) _ (i) (vals L) rfl (hown.alloc _) ⟨wr.heap.size, 0, none⟩ 1 1 [.int .u32 (o : Nat)] rfl rfl (cell_one_new _ _ _) (by simp [Value.oneCell']) (by simp only [maxLen]; omega) (by omega) (by simp; have := hb.size; omega) ?_))
      intro v' w1 hown1 hg1 _ _
      have hown2 := Lib.hid hown1
      have hg2 := Lib.hid hg1
      clear hown1 hg1
      go_wp2_with (fail)
      go_roundw
      case rel =>
        refine ⟨i + 1, q, L ++ [o], rfl, by go_num, by omega, hql, ?_, ?_, Lib.hid (by simp [hlen.out]), hlim.append (Lim.one hol), Lib.hid ?_⟩
        · exact (hb.alloc hb.size _).grown hg2.out (by simp; have := hb.size; omega) (fun k e => own_base' hown k e)
        · rw [vals_append]; exact hown2.out
        · have h1 := hval.out
          have h2 := hoq.out
          rw [val_snoc, hlen.out, ma.out, mb.out, Nat.pow_succ]
          generalize 4294967296 ^ i = p at *
          generalize a % p = a1 at *
          generalize b % p = b1 at *
          grind
      case measure => simp only [intOf]; omega
    · obtain rfl : i = nl a := by omega
      have h1 := hval.out
      rw [mod_nl (Nat.le_refl _), mod_nl hba] at h1
      have h2 := val_lt hlim
      rw [hlen.out] at h2
      have h6 : br = 0 := by
        rcases Nat.eq_zero_or_pos br with hz | hz
        · exact hz
        · have := Nat.le_mul_of_pos_right (4294967296 ^ nl a) hz
          have := h.out
          omega
      rw [h6, Nat.mul_zero, Nat.add_zero] at h1
      have hmk := rmake_f X (nl a) cx L wr hlen.out hrd hlim (by omega) hcx (own_nilcap hown)
      rw [show val L = a - b by omega] at hmk
      replace hmk := Lib.hid hmk
      clear h1 h2 h6
      go_wp2_with (fail)
      refine hmk.out.mono ?_
      rintro e w2 ⟨Y, cy, rfl, k1, k2, k3⟩
      go_wp2_with (fail)
      exact bodyPost_ret (v := .tuple #[.slice Y (nl (a - b)) cy, .bool true]) (by simp [results, Tryz.results84, go_sem]) rfl ⟨Y, cy, rfl, k1, hb.cons k2, k3.le hb.size⟩
theorem rsub_c (A : Option Addr) (c a : Nat) (B : Option Addr) (d b : Nat) (w : World) (hA : NatV w A c a) (hB : NatV w B d b) (ha : nl a ≤ 1073741824) (hb : nl b ≤ 1073741824) (h : b ≤ a) :
    Calls Tryz.prog 84 #[.slice A (nl a) c, .slice B (nl b) d] w fun e w' => ∃ X cx, e = .returned (.tuple #[.slice X (nl (a - b)) cx, .bool true]) ∧ NatV w' X cx (a - b) ∧ Below w.heap.size w w' :=
  (rsub_f A c a B d b w hA hB ha hb h).mono fun _ _ ⟨X, cx, h1, h2, h3, _⟩ => ⟨X, cx, h1, h2, h3⟩
theorem rsubNot_c (A : Option Addr) (c a : Nat) (B : Option Addr) (d b : Nat) (w : World) (hA : NatV w A c a) (hB : NatV w B d b) (ha : nl a ≤ 1073741824) (hb : nl b ≤ 1073741824) (h : a < b) :
    Calls Tryz.prog 84 #[.slice A (nl a) c, .slice B (nl b) d] w fun e w' => e = .returned (.tuple #[.slice none 0 0, .bool false]) ∧ w = w' := by
  have hb1 : decide (cmpN a b < 0) = true := by rw [decide_eq_true_eq, cmpN_neg]; omega
  have CC := rcmp_c A c a B d b w hA hB ha hb
  replace CC := Lib.hid CC
  replace h := Lib.hid h
  go_enter Tryz.func84, Tryz.ntmps84
  go_wp2_with (fail)
  refine CC.out.mono ?_
  rintro e w' ⟨rfl, rfl⟩
  go_wp2_with (fail)
  exact bodyPost_ret (v := .tuple #[.slice none 0 0, .bool false]) (by simp [results, Tryz.results84, go_sem]) rfl ⟨rfl, rfl⟩
theorem zeros_snoc (i : Nat) : List.replicate i 0 ++ [0] = List.replicate (i + 1) (0 : Nat) := by rw [List.replicate_succ']
theorem rshl_f (A : Option Addr) (c a n : Nat) (w : World) (hA : NatV w A c a) (ha : nl a ≤ 1073741824) (hn : n ≤ 1073741824) :
    Calls Tryz.prog 73 #[.slice A (nl a) c, .int .i64 (n : Nat)] w (RetF w (a * 2 ^ n)) := by
  obtain ⟨i0, hi, hz0, hz1, hz2⟩ := info_parts info_u32
  obtain ⟨q, hq⟩ : ∃ q, q = n / 32 := ⟨_, rfl⟩
  obtain ⟨s, hs⟩ : ∃ s, s = n % 32 := ⟨_, rfl⟩
  have hqI : (n : Int) / 32 = (q : Int) := by omega
  have hsI : (n : Int) % 32 = (s : Int) := by omega
  have hql : q ≤ 33554432 := by omega
  have hsl : s < 32 := by omega
  have hns : n = s + 32 * q := by omega
  have hs31 : 2 ^ s ≤ 2147483648 := Nat.pow_le_pow_right (by decide) (show s ≤ 31 by omega)
  replace hns := Lib.hid hns
  replace hs := Lib.hid hs
  replace hq := Lib.hid hq
  replace hs31 := Lib.hid hs31
  go_enter Tryz.func73, Tryz.ntmps73
  go_wp2_with (fail)
  go_loopw [5, 8] (fun vo vi wr => ∃ i : Nat, vi = .int .i64 i ∧ i ≤ q ∧ Below w.heap.size w wr ∧ wr.ownsRow w.heap.size 58 1 vo i (vals (List.replicate i 0))) (fun vo vi wr => q - (intOf vi).toNat)
  case atStart => exact ⟨0, rfl, Nat.zero_le _, (Below.refl _ _).alloc (Nat.le_refl _) _, World.ownsRow_lit w #[] 0 (Nat.le_refl _) (by decide) rfl⟩
  case round =>
    obtain ⟨i, rfl, hi1, hb, hown⟩ := hrel
    obtain ⟨X, cx, rfl, hcx, hcm, hrd⟩ := ownV_rd hown
    by_cases hlt : i < q
    · go_wp2_with (at_builtin; refine wpList_append_own_at _ rfl _ _ 22 rfl w.heap.size 58 i0 (.int .u32 0) 1 4 Tryz.underlying22 hi hz0 hz1 hz2 rfl (by decide) _ (i) (vals (List.replicate i 0)) rfl (hown.alloc _) ⟨wr.heap.size, 0, none⟩ 1 1 [.int .u32 0] rfl rfl (cell_one_new _ _ _) (by simp [Value.oneCell']) (by simp only [maxLen]; omega) (by omega) (by simp; have := hb.size; omega) ?_)
      intro v' w1 hown1 hg1 _ _
      have hown2 := Lib.hid hown1
      have hg2 := Lib.hid hg1
      clear hown1 hg1
      go_wp2_with (fail)
      go_roundw
      case rel =>
        refine ⟨i + 1, by go_num, by omega, ?_, ?_⟩
        · exact (hb.alloc hb.size _).grown hg2.out (by simp; have := hb.size; omega) (fun k e => own_base' hown k e)
        · rw [← zeros_snoc, vals_append]; exact hown2.out
      case measure => simp only [intOf]; omega
    · obtain rfl : i = q := by omega
      obtain ⟨wo, rfl⟩ : ∃ wo : World, wo = wr := ⟨_, rfl⟩
      go_wp2_with (fail)
      go_loopw [7, 9] (fun vb vi w2 => ∃ j bb : Nat, vb = .int .u64 bb ∧ vi = .int .i64 j ∧ j ≤ s ∧ Hid (bb = 2 ^ j) ∧ bb ≤ 2147483648 ∧ w2 = wo) (fun vb vi w2 => s - (intOf vi).toNat)
      case atStart => exact ⟨0, 1, rfl, rfl, Nat.zero_le _, Lib.hid rfl, by decide, rfl⟩
      case round =>
        obtain ⟨j, bb, rfl, rfl, hj, hbb, hbl, hw2⟩ := hrel
        rw [hw2]
        clear hw2
        by_cases hlt2 : j < s
        · have hb2 : 2 * bb = 2 ^ (j + 1) := by rw [hbb.out, Nat.pow_succ, Nat.mul_comm]
          have hb3 : 2 * bb ≤ 2147483648 := by rw [hb2]; exact Nat.le_trans (Nat.pow_le_pow_right (by decide) (show j + 1 ≤ s by omega)) hs31.out
          replace hb2 := Lib.hid hb2
          go_wp2_with (fail)
          go_roundw
          case rel => exact ⟨j + 1, 2 * bb, by go_num, by go_num, by omega, hb2, hb3, by first | rfl | trivial⟩
          case measure => simp only [intOf]; omega
        · obtain rfl : j = s := by omega
          go_wp2_with (fail)
          simp only [hsI]
          go_loopw [5, 6, 10, 11] (fun vo vc vi vx wr => ∃ (k cr : Nat) (L : List Nat), vc = .int .u64 cr ∧ vi = .int .i64 k ∧ k ≤ nl a + 1 ∧ cr < 4294967296 ∧ Below w.heap.size w wr ∧ wr.ownsRow w.heap.size 58 1 vo (i + k) (vals L) ∧ Hid (L.length = i + k) ∧ Lim L ∧ Hid (val L + 4294967296 ^ (i + k) * cr = a % 4294967296 ^ k * bb * 4294967296 ^ i)) (fun vo vc vi vx wr => nl a + 1 - (intOf vi).toNat)
          case atStart => exact ⟨0, 0, _, rfl, rfl, Nat.zero_le _, by decide, hb, hown, Lib.hid (by simp), Lim.replicate _ _ (by decide), Lib.hid (by rw [val_replicate]; simp [Nat.mod_one])⟩
          case round =>
            obtain ⟨k, cr, L, rfl, rfl, hk1, hcr, hb, hown, hlen, hlim, hval⟩ := hrel
            obtain ⟨X, cx, rfl, hcx, hcm, hrd⟩ := ownV_rd hown
            by_cases hlt3 : k ≤ nl a
            · have CA := limb_c A c a k wr (hA.below hb) (by omega) (by omega)
              have ma := mod_dig a k
              obtain ⟨x, hx⟩ : ∃ x, x = a / 4294967296 ^ k % 4294967296 := ⟨_, rfl⟩
              have hxl : x < 4294967296 := by rw [hx]; exact dig_lt _ _
              rw [← hx] at CA ma
              replace CA := Lib.hid CA
              replace ma := Lib.hid ma
              obtain ⟨p, hp⟩ : ∃ p, p = x * bb := ⟨_, rfl⟩
              have hpI : (x : Int) * (bb : Int) = (p : Int) := by rw [hp]; exact (Int.natCast_mul x bb).symm
              have hpl : p ≤ 4294967295 * 2147483648 := by rw [hp]; exact Nat.mul_le_mul (by omega) hbl
              obtain ⟨t, ht⟩ : ∃ t, t = p + cr := ⟨_, rfl⟩
              have htI : (p : Int) + (cr : Int) = (t : Int) := by omega
              have htb : t < 18446744073709551616 := by omega
              obtain ⟨o, ho⟩ : ∃ o, o = t % 4294967296 := ⟨_, rfl⟩
              have hoI : (t : Int) % 4294967296 = (o : Int) := by omega
              have hol : o < 4294967296 := by omega
              obtain ⟨e, he⟩ : ∃ e, e = t / 4294967296 := ⟨_, rfl⟩
              have heI : (t : Int) / 4294967296 = (e : Int) := by omega
              have hel : e < 4294967296 := by omega
              have hoe : o + 4294967296 * e = x * bb + cr := by rw [← hp]; omega
              replace hoe := Lib.hid hoe
              replace hp := Lib.hid hp
              replace ht := Lib.hid ht
              replace ho := Lib.hid ho
              replace he := Lib.hid he
              replace hx := Lib.hid hx
              go_wp2_with (first
                | (go_at_call 114; (with_reducible refine CA.out.mono ?_); rintro e w' ⟨rfl, rfl⟩)
                | (at_builtin; refine wpList_append_own_at _ rfl _ _ 22 rfl w.heap.size 58 i0 (.int .u32 0) 1 4 Tryz.underlying22 hi hz0 hz1 hz2 rfl (by decide) _ (i + k) (vals L) rfl (hown.alloc _) ⟨wr.heap.size, 0, none⟩ 1 1 [.int .u32 (o : Nat)] rfl rfl (cell_one_new _ _ _) (by simp [Value.oneCell']) (by simp only [maxLen]; omega) (by omega) (by simp; have := hb.size; omega) ?_))
              intro v' w1 hown1 hg1 _ _
              have hown2 := Lib.hid hown1
              have hg2 := Lib.hid hg1
              clear hown1 hg1
              go_wp2_with (fail)
              go_roundw
              case rel =>
                refine ⟨k + 1, e, L ++ [o], rfl, by go_num, by omega, hel, ?_, ?_, Lib.hid (by simp [hlen.out]; omega), hlim.append (Lim.one hol), Lib.hid ?_⟩
                · exact (hb.alloc hb.size _).grown hg2.out (by simp; have := hb.size; omega) (fun k e => own_base' hown k e)
                · rw [vals_append]; exact hown2.out
                · have h1 := hval.out
                  have h2 := hoe.out
                  rw [val_snoc, hlen.out, ma.out, ← Nat.add_assoc, Nat.pow_succ]
                  rw [Nat.pow_add] at h1 ⊢
                  generalize 4294967296 ^ k = pk at *
                  generalize 4294967296 ^ i = pi at *
                  generalize a % pk = a1 at *
                  generalize val L = vl at *
                  grind
              case measure => simp only [intOf]; omega
            · obtain rfl : k = nl a + 1 := by omega
              have h1 := hval.out
              rw [mod_nl (show nl a ≤ nl a + 1 by omega)] at h1
              have h2 := val_lt hlim
              rw [hlen.out] at h2
              have h3 : a * bb * 4294967296 ^ i < 4294967296 ^ (i + (nl a + 1)) := by
                have h4 := nl_lt a
                have h5 : a * bb < 4294967296 ^ nl a * 4294967296 := Nat.mul_lt_mul'' h4 (by omega)
                rw [Nat.pow_add, Nat.mul_comm (4294967296 ^ i), Nat.pow_succ]
                exact Nat.mul_lt_mul_of_pos_right h5 (Nat.pow_pos (by decide))
              have h6 : cr = 0 := by
                rcases Nat.eq_zero_or_pos cr with h | h
                · exact h
                · have := Nat.le_mul_of_pos_right (4294967296 ^ (i + (nl a + 1))) h
                  omega
              rw [h6, Nat.mul_zero, Nat.add_zero, hbb.out, Nat.mul_assoc, ← pow32, ← Nat.pow_add, ← hns.out] at h1
              have hmk := rmake_f X (i + (nl a + 1)) cx L wr hlen.out hrd hlim (by omega) hcx (own_nilcap hown)
              rw [h1] at hmk
              replace hmk := Lib.hid hmk
              clear h1 h2 h3 h6
              go_wp2_with (fail)
              refine hmk.out.mono ?_
              rintro e w2 ⟨Y, cy, rfl, k1, k2, k3⟩
              go_wp2_with (fail)
              go_ret
              exact ⟨Y, cy, rfl, k1, hb.cons k2, k3.le hb.size⟩
theorem rshl_c (A : Option Addr) (c a n : Nat) (w : World) (hA : NatV w A c a) (ha : nl a ≤ 1073741824) (hn : n ≤ 1073741824) :
    Calls Tryz.prog 73 #[.slice A (nl a) c, .int .i64 (n : Nat)] w (RetN w (a * 2 ^ n)) :=
  (rshl_f A c a n w hA ha hn).mono fun _ _ h => h.toN
end Go.Proofs.YtacjfpibilolnaaGreatDoor

/- The document's naturals, walked: Shr. -/
set_option linter.unusedVariables false
set_option linter.unusedSimpArgs false
namespace Go.Proofs.YtacjfpibilolnaaGreatDoor
open Go.RowKit Go.Shelf
attribute [local go_sem] max2_i min2_i max_two min_two

theorem shr_dig (t s : Nat) (hs : s < 32) : t / 2 ^ s % 4294967296 = (t % 4294967296 + 4294967296 * (t / 4294967296 % 4294967296 % 2 ^ s)) / 2 ^ s % 4294967296 := by
  have e2 : (4294967296 : Nat) = 2 ^ s * 2 ^ (32 - s) := by rw [← Nat.pow_add, show s + (32 - s) = 32 by omega]
  have hp := Nat.two_pow_pos s
  have h1 := Nat.div_add_mod t 4294967296
  have h2 := Nat.div_add_mod (t / 4294967296) 4294967296
  have h3 := Nat.div_add_mod (t / 4294967296 % 4294967296) (2 ^ s)
  generalize t % 4294967296 = x at *
  generalize t / 4294967296 % 4294967296 % 2 ^ s = v at *
  generalize t / 4294967296 % 4294967296 / 2 ^ s = u at *
  generalize t / 4294967296 % 4294967296 = y at *
  generalize t / 4294967296 / 4294967296 = z at *
  generalize t / 4294967296 = q at *
  have e : t = (x + 4294967296 * v) + 2 ^ s * (4294967296 * u + 4294967296 * (2 ^ (32 - s) * z)) := by
    rw [← h1, ← h2, ← h3]
    have e3 : 4294967296 * (4294967296 * z) = 2 ^ s * (4294967296 * (2 ^ (32 - s) * z)) := by
      conv => lhs; rw [← Nat.mul_assoc]; arg 1; arg 1; rw [e2]
      grind
    rw [Nat.mul_add, e3]
    grind
  rw [e, Nat.add_mul_div_left _ _ hp, ← Nat.mul_add, Nat.add_mul_mod_self_left]
theorem rshr_c (A : Option Addr) (c a n : Nat) (w : World) (hA : NatV w A c a) (ha : nl a ≤ 1073741824) (hn : n ≤ 1073741824) :
    Calls Tryz.prog 82 #[.slice A (nl a) c, .int .i64 (n : Nat)] w (RetN w (a / 2 ^ n)) := by
  obtain ⟨i0, hi, hz0, hz1, hz2⟩ := info_parts info_u32
  obtain ⟨q, hq⟩ : ∃ q, q = n / 32 := ⟨_, rfl⟩
  obtain ⟨s, hs⟩ : ∃ s, s = n % 32 := ⟨_, rfl⟩
  have hqI : (n : Int) / 32 = (q : Int) := by omega
  have hsI : (n : Int) % 32 = (s : Int) := by omega
  have hql : q ≤ 33554432 := by omega
  have hsl : s < 32 := by omega
  have hns : n = 32 * q + s := by omega
  have hs31 : 2 ^ s ≤ 2147483648 := Nat.pow_le_pow_right (by decide) (show s ≤ 31 by omega)
  replace hns := Lib.hid hns
  replace hs := Lib.hid hs
  replace hq := Lib.hid hq
  replace hs31 := Lib.hid hs31
  go_enter Tryz.func82, Tryz.ntmps82
  go_wp2_with (fail)
  go_loopw [6, 7] (fun vb vi w2 => ∃ j bb : Nat, vb = .int .u64 bb ∧ vi = .int .i64 j ∧ j ≤ s ∧ Hid (bb = 2 ^ j) ∧ bb ≤ 2147483648 ∧ w2 = w.alloc (.cells #[] 58)) (fun vb vi w2 => s - (intOf vi).toNat)
  case atStart => exact ⟨0, 1, rfl, rfl, Nat.zero_le _, Lib.hid rfl, by decide, rfl⟩
  case round =>
    obtain ⟨j, bb, rfl, rfl, hj, hbb, hbl, hw2⟩ := hrel
    rw [hw2]
    clear hw2
    by_cases hlt2 : j < s
    · have hb2 : 2 * bb = 2 ^ (j + 1) := by rw [hbb.out, Nat.pow_succ, Nat.mul_comm]
      have hb3 : 2 * bb ≤ 2147483648 := by rw [hb2]; exact Nat.le_trans (Nat.pow_le_pow_right (by decide) (show j + 1 ≤ s by omega)) hs31.out
      replace hb2 := Lib.hid hb2
      go_wp2_with (fail)
      go_roundw
      case rel => exact ⟨j + 1, 2 * bb, by go_num, by go_num, by omega, hb2, hb3, by first | rfl | trivial⟩
      case measure => simp only [intOf]; omega
    · obtain rfl : j = s := by omega
      go_wp2_with (fail)
      simp only [hsI]
      go_loopw [5, 8, 9] (fun vo vi vx wr => ∃ (k : Nat), vi = .int .i64 ((q + k : Nat) : Int) ∧ k ≤ nl a - q ∧ Below w.heap.size w wr ∧ wr.ownsRow w.heap.size 58 1 vo k (vals (digs (a / 2 ^ n) k))) (fun vo vi vx wr => q + (nl a - q) - (intOf vi).toNat)
      case atStart => exact ⟨0, rfl, Nat.zero_le _, (Below.refl _ _).alloc (Nat.le_refl _) _, World.ownsRow_lit w #[] 0 (Nat.le_refl _) (by decide) rfl⟩
      case round =>
        obtain ⟨k, rfl, hk, hb, hown⟩ := hrel
        obtain ⟨X, cx, rfl, hcx, hcm, hrd⟩ := ownV_rd hown
        obtain ⟨m, hm⟩ : ∃ m, m = q + k := ⟨_, rfl⟩
        rw [← hm]
        by_cases hlt3 : m < nl a
        · have CA := limb_c A c a m wr (hA.below hb) (by omega) (by omega)
          have CB := limb_c A c a (m + 1) wr (hA.below hb) (by omega) (by omega)
          obtain ⟨x, hx⟩ : ∃ x, x = a / 4294967296 ^ m % 4294967296 := ⟨_, rfl⟩
          obtain ⟨y, hy⟩ : ∃ y, y = a / 4294967296 ^ (m + 1) % 4294967296 := ⟨_, rfl⟩
          have hxl : x < 4294967296 := by rw [hx]; exact dig_lt _ _
          have hyl : y < 4294967296 := by rw [hy]; exact dig_lt _ _
          rw [← hx] at CA
          rw [← hy] at CB
          have hb0 : 0 < bb := by rw [hbb.out]; exact Nat.two_pow_pos _
          obtain ⟨v, hv⟩ : ∃ v, v = y % bb := ⟨_, rfl⟩
          have hvI : (y : Int) % (bb : Int) = (v : Int) := by rw [hv]; exact (Int.natCast_emod y bb).symm
          have hvl : v < 2147483648 := by have := Nat.mod_lt y hb0; omega
          obtain ⟨t, ht⟩ : ∃ t, t = x + 4294967296 * v := ⟨_, rfl⟩
          have htI : (x : Int) + 4294967296 * (v : Int) = (t : Int) := by omega
          have htb : t < 18446744073709551616 := by omega
          obtain ⟨u, hu⟩ : ∃ u, u = t / bb := ⟨_, rfl⟩
          have huI : (t : Int) / (bb : Int) = (u : Int) := by rw [hu]; exact (Int.natCast_ediv t bb).symm
          have hul : u ≤ t := by rw [hu]; exact Nat.div_le_self _ _
          obtain ⟨o, ho⟩ : ∃ o, o = u % 4294967296 := ⟨_, rfl⟩
          have hoI : (u : Int) % 4294967296 = (o : Int) := by omega
          have hol : o < 4294967296 := by omega
          have hbz : ((bb : Int) == 0) = false := ieqF (by omega)
          have hcI : (m : Int) + 1 = ((m + 1 : Nat) : Int) := rfl
          have hfin : a / 2 ^ n / 4294967296 ^ k % 4294967296 = o := by
            rw [ho, hu, ht, hv, hx, hy, hbb.out, hns.out, Nat.pow_add, pow32, Nat.div_div_eq_div_mul, show 4294967296 ^ q * 2 ^ j * 4294967296 ^ k = 4294967296 ^ m * 2 ^ j by rw [hm, Nat.pow_add]; grind, ← Nat.div_div_eq_div_mul, shr_dig _ _ hsl, Nat.pow_succ, ← Nat.div_div_eq_div_mul]
          replace hfin := Lib.hid hfin
          replace CA := Lib.hid CA
          replace CB := Lib.hid CB
          replace hx := Lib.hid hx
          replace hy := Lib.hid hy
          replace hv := Lib.hid hv
          replace ht := Lib.hid ht
          replace hu := Lib.hid hu
          replace ho := Lib.hid ho
          replace hm := Lib.hid hm
          clear hcI
          go_wp2_with (first
            | (go_at_call 114; (with_reducible refine CA.out.mono ?_); rintro e w' ⟨rfl, rfl⟩)
            | (go_at_call 114; (refine CB.out.mono ?_); rintro e w' ⟨rfl, rfl⟩)
            | (at_builtin; refine wpList_append_own_at _ rfl _ _ 22 rfl w.heap.size 58 i0 (.int .u32 0) 1 4 Tryz.underlying22 hi hz0 hz1 hz2 rfl (by decide) _ (k) (vals (digs (a / 2 ^ n) k)) rfl (hown.alloc _) ⟨wr.heap.size, 0, none⟩ 1 1 [.int .u32 (o : Nat)] rfl rfl (cell_one_new _ _ _) (by simp [Value.oneCell']) (by simp only [maxLen]; omega) (by omega) (by simp; have := hb.size; omega) ?_))
          intro v' w1 hown1 hg1 _ _
          have hown2 := Lib.hid hown1
          have hg2 := Lib.hid hg1
          clear hown1 hg1
          go_wp2_with (fail)
          go_roundw
          case rel =>
            have := hm.out
            refine ⟨k + 1, by congr 1; omega, by omega, ?_, ?_⟩
            · exact (hb.alloc hb.size _).grown hg2.out (by simp; have := hb.size; omega) (fun k e => own_base' hown k e)
            · rw [digs_succ, vals_append, hfin.out]; exact hown2.out
          case measure => have := hm.out; simp only [intOf]; omega
        · have hkk : k = nl a - q := by omega
          have h1 : val (digs (a / 2 ^ n) k) = a / 2 ^ n := by
            rw [digs_val, Nat.mod_eq_of_lt]
            rw [hns.out, Nat.pow_add, ← Nat.div_div_eq_div_mul]
            refine Nat.lt_of_le_of_lt (Nat.div_le_self _ _) ?_
            rw [hkk]; exact nl_le.1 (nl_shr32 a q)
          have hmk := rmake_c X k cx (digs (a / 2 ^ n) k) wr (digs_len _ _) hrd (digs_lim _ _) (by omega) hcx (own_nilcap hown)
          rw [h1] at hmk
          replace hmk := Lib.hid hmk
          clear h1
          replace hkk := Lib.hid hkk
          replace hm := Lib.hid hm
          go_wp2_with (fail)
          refine hmk.out.mono ?_
          rintro e w2 ⟨Y, cy, rfl, k1, k2⟩
          go_wp2_with (fail)
          go_ret
          exact ⟨Y, cy, rfl, k1, hb.cons k2⟩
end Go.Proofs.YtacjfpibilolnaaGreatDoor

/- The library's functions that the kit's shelf has proved, laid for this program. -/
set_option linter.unusedVariables false
namespace Go.Proofs.YtacjfpibilolnaaGreatDoor
open Go.Shelf
def rens : Ren :=
  { f := fun x => match x with
    | 125 => 159
    | 128 => 158
    | 129 => 168
    | 264 => 164
    | n => n
    t := fun x => match x with
    | 3 => 3
    | 4 => 4
    | 5 => 5
    | 9 => 9
    | 46 => 117
    | 51 => 58
    | 53 => 94
    | n => n
    g := fun x => x }
theorem lays128 : Lays.n128 Tryz.prog rens :=
  { mixed := rfl, f128 := Tryz.func158.trans (congrArg some rfl), t3 := Tryz.underlying3, a3 := Tryz.isAgg3, z3 := Tryz.sizeOf3, v3 := Tryz.zeroValue3, t4 := Tryz.underlying4, a4 := Tryz.isAgg4, z4 := Tryz.sizeOf4, v4 := Tryz.zeroValue4, t5 := Tryz.underlying5, a5 := Tryz.isAgg5, z5 := Tryz.sizeOf5, v5 := Tryz.zeroValue5, t9 := Tryz.underlying9, a9 := Tryz.isAgg9, z9 := Tryz.sizeOf9, v9 := Tryz.zeroValue9, t46 := Tryz.underlying117, a46 := Tryz.isAgg117, z46 := Tryz.sizeOf117, v46 := Tryz.zeroValue117, t51 := Tryz.underlying58, a51 := Tryz.isAgg58, z51 := Tryz.sizeOf58, v51 := Tryz.zeroValue58 }
theorem len32_c (x : Nat) (w : World) (h1 : x < 4294967296) :
    Calls Tryz.prog 158 #[.int .u32 (x : Nat)] w fun e w' => e = .returned (.int .i64 (Lib.bitLen x)) ∧ w' = w := by
  have := Any.bits_Len32 lays128 (x : Int) w (by omega) (by omega)
  rwa [Int.toNat_natCast] at this
end Go.Proofs.YtacjfpibilolnaaGreatDoor
