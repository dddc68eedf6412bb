/- The document's carrying, walked. -/
import Derived.Test.YtmcekbmmpdpbmaaDoorBits2
set_option linter.unusedVariables false
set_option linter.unusedSimpArgs false
namespace Go.Proofs.YtmcekbmmpdpbmaaDoor
open Go.RowKit Go.Shelf

/-- The first k limbs of row i. -/
def rowP (L : List Nat) (i : Nat) : Nat → Nat
  | 0 => 0
  | k + 1 => rowP L i k + (if k < 3 then gl L (3 * i + k) else 0) * 4294967296 ^ k
theorem rowP_all (L : List Nat) (i k : Nat) : rowP L i (3 + k) = gl L (3 * i) + 4294967296 * gl L (3 * i + 1) + 4294967296 * 4294967296 * gl L (3 * i + 2) := by
  induction k with
  | zero => simp [rowP]; grind
  | succ k ih => rw [← Nat.add_assoc, rowP, ih, if_neg (by omega)]; simp
theorem rowsV_le {L : List Nat} (h : Lim L) (i : Nat) : rowsV L i ≤ 2 * 4294967296 ^ (i + 2) := by
  induction i with
  | zero => exact Nat.zero_le _
  | succ i ih =>
    rw [rowsV]
    have h0 := h.gl (3 * i)
    have h1 := h.gl (3 * i + 1)
    have h2 := h.gl (3 * i + 2)
    have hr : gl L (3 * i) + 4294967296 * gl L (3 * i + 1) + 4294967296 * 4294967296 * gl L (3 * i + 2) ≤ 4294967296 * 4294967296 * 4294967296 := by omega
    have hm := Nat.mul_le_mul_right (4294967296 ^ i) hr
    have e1 : 4294967296 ^ (i + 2) = 4294967296 * 4294967296 * 4294967296 ^ i := by rw [Nat.pow_succ, Nat.pow_succ]; grind
    have e2 : 4294967296 ^ (i + 1 + 2) = 4294967296 * 4294967296 * 4294967296 * 4294967296 ^ i := by rw [Nat.pow_succ, Nat.pow_succ, Nat.pow_succ]; grind
    rw [e1] at ih
    rw [e2]
    generalize 4294967296 ^ i = p at *
    omega

theorem rcarry_step {T : List Nat} {i k o cr x t V P : Nat} (hl : i + k < T.length) (ho : gl T (i + k) = o) (ht : t = o + cr + x) (h : val T + 4294967296 ^ (i + k) * cr = V + 4294967296 ^ i * P) :
    val (T.set (i + k) (t % 4294967296)) + 4294967296 ^ (i + (k + 1)) * (t / 4294967296) = V + 4294967296 ^ i * (P + x * 4294967296 ^ k) := by
  have hs := val_set (i + k) (t % 4294967296) hl
  rw [← gl_eq, ho] at hs
  have e := Nat.div_add_mod t 4294967296
  rw [← Nat.add_assoc, Nat.pow_succ]
  rw [Nat.pow_add] at h hs ⊢
  generalize val (T.set (i + k) (t % 4294967296)) = U at *
  generalize val T = S at *
  generalize t / 4294967296 = q at *
  generalize t % 4294967296 = r at *
  generalize 4294967296 ^ i = p at *
  generalize 4294967296 ^ k = z at *
  grind

set_option maxHeartbeats 4000000 in
theorem rcarry_c (A : Option Addr) (n c : Nat) (L : List Nat) (w : World) (hn : L.length = 3 * n) (h : Rd w A L) (hL : Lim L) (hl : n ≤ 268435456) (hc : n ≤ c) :
    Calls Tryd.prog 25 #[.slice A n c] w (RetN w (rowsV L n)) := by
  have hmk := mk32 ((n : Int) + 4) ((n : Int) + 4) (by omega) (by omega) (by omega)
  have hown0 := ownsMade32 w w.heap.size (n + 4) (Nat.le_refl _) (by omega)
  have hb0 : Below w.heap.size w (w.alloc (.cells (madeCells #[.int .u32 0] (n + 4)) 35)) := (Below.refl _ _).alloc (Nat.le_refl _) _
  have e0 : ((n : Int) + 4).toNat = n + 4 := by omega
  rw [e0] at hmk
  have HN := Lib.hid hn
  clear hn
  go_enter Tryd.func25, Tryd.ntmps25
  go_wp2_with (fail)
  go_loopw [4, 5, 6, 7] (fun vi vc vk vx wr => ∃ (i : Nat) (M : List Nat), vi = .int .i64 i ∧ i ≤ n ∧ Below w.heap.size w wr ∧ wr.ownsRow w.heap.size 35 1 (.slice (some ⟨w.heap.size, 0, none⟩) (n + 4) (n + 4)) (n + 4) (vals M) ∧
    Hid (M.length = n + 4) ∧ Lim M ∧ Hid (val M = rowsV L i)) (fun vi vc vk vx wr => n - (intOf vi).toNat)
  case atStart =>
    exact ⟨0, _, rfl, Nat.zero_le _, hb0, hown0, Lib.hid (by simp), Lim.replicate _ _ (by decide), Lib.hid (by rw [val_replicate]; rfl)⟩
  case round =>
    obtain ⟨i, M, rfl, hi, hb, hown, hlen, hlim, hval⟩ := hrel
    by_cases hlt : i < n
    · obtain ⟨wo, rfl⟩ : ∃ wo : World, wo = wr := ⟨_, rfl⟩
      go_wp2_with (fail)
      go_loopw [5, 6, 7] (fun vc vk vx w2 => ∃ (k cr : Nat) (T : List Nat), vk = .int .i64 k ∧ vc = .int .u64 cr ∧ i + k ≤ n + 4 ∧ cr ≤ 1 ∧ Below w.heap.size w w2 ∧ w2.ownsRow w.heap.size 35 1 (.slice (some ⟨w.heap.size, 0, none⟩) (n + 4) (n + 4)) (n + 4) (vals T) ∧
        Hid (T.length = n + 4) ∧ Lim T ∧ Hid (val T + 4294967296 ^ (i + k) * cr = val M + 4294967296 ^ i * rowP L i k)) (fun vc vk vx w2 => n + 4 - (intOf vk).toNat)
      case atStart => exact ⟨0, 0, M, rfl, rfl, by omega, by decide, hb, hown, hlen, hlim, Lib.hid (by simp [rowP])⟩
      case round =>
        obtain ⟨k, cr, T, rfl, rfl, hk, hcr, hb2, hown2, hlen2, hlim2, hval2⟩ := hrel
        by_cases hlt2 : i + k < n + 4
        · have hM : i + k < T.length := by rw [hlen2.out]; omega
          have hco := hown2.cellAt (i + k) (by omega)
          rw [vals_get T (i + k) hM] at hco
          have hfo := hown2.frozenAt (i + k)
          have hol := hlim2.gl (i + k)
          obtain ⟨o, ho⟩ : ∃ o, gl T (i + k) = o := ⟨_, rfl⟩
          rw [ho] at hco hol
          have HO := Lib.hid ho
          have HM := Lib.hid hM
          clear ho hM
          by_cases hk3 : k < 3
          · obtain ⟨ad, rfl, hcx⟩ := (h.below hb2).get (3 * i + k) (by rw [HN.out]; omega)
            have hxl := hL.gl (3 * i + k)
            obtain ⟨x, hx⟩ : ∃ x, x = gl L (3 * i + k) := ⟨_, rfl⟩
            rw [← hx, ← addr_row] at hcx
            rw [← hx] at hxl
            replace hx := Lib.hid hx
            go_wp2_with (fail)
            go_roundw
            case rel =>
              have et : ((o : Int) + (cr : Int) + (x : Int)) = ((o + cr + x : Nat) : Int) := by simp
              obtain ⟨t, ht⟩ : ∃ t, t = o + cr + x := ⟨_, rfl⟩
              rw [et, ← ht]
              have ec : ((t : Int) % 4294967296) = ((t % 4294967296 : Nat) : Int) := by omega
              obtain ⟨r1, r2⟩ := hown2.stored (i + k) (.int .u32 ((t % 4294967296 : Nat) : Int))
              have hmod : t % 4294967296 < 4294967296 := Nat.mod_lt _ (by decide)
              rw [ec]
              refine ⟨k + 1, t / 4294967296, T.set (i + k) (t % 4294967296), by go_num, by congr 1, by omega, by omega, hb2.setCell (p := ⟨w.heap.size, i + k, none⟩) (Nat.le_refl _) _, by rw [vals_set]; exact r1, Lib.hid (by simp [hlen2.out]), hlim2.set _ _ hmod, Lib.hid ?_⟩
              rw [rowP, if_pos hk3, ← hx.out]
              exact rcarry_step HM.out HO.out (x := x) ht hval2.out
            case measure => simp only [intOf]; omega
          · go_wp2_with (fail)
            go_roundw
            case rel =>
              have et : ((o : Int) + (cr : Int)) = ((o + cr : Nat) : Int) := by simp
              obtain ⟨t, ht⟩ : ∃ t, t = o + cr := ⟨_, rfl⟩
              rw [et, ← ht]
              have ec : ((t : Int) % 4294967296) = ((t % 4294967296 : Nat) : Int) := by omega
              obtain ⟨r1, r2⟩ := hown2.stored (i + k) (.int .u32 ((t % 4294967296 : Nat) : Int))
              have hmod : t % 4294967296 < 4294967296 := Nat.mod_lt _ (by decide)
              rw [ec]
              refine ⟨k + 1, t / 4294967296, T.set (i + k) (t % 4294967296), by go_num, by congr 1, by omega, by omega, hb2.setCell (p := ⟨w.heap.size, i + k, none⟩) (Nat.le_refl _) _, by rw [vals_set]; exact r1, Lib.hid (by simp [hlen2.out]), hlim2.set _ _ hmod, Lib.hid ?_⟩
              rw [rowP, if_neg hk3]
              exact rcarry_step HM.out HO.out (x := 0) ht hval2.out
            case measure => simp only [intOf]; omega
        · have hke : i + k = n + 4 := by omega
          have hfin : val T = rowsV L (i + 1) := by
            have hv := hval2.out
            obtain ⟨r, hr⟩ : ∃ r, k = 3 + r := ⟨k - 3, by omega⟩
            have hT := val_lt hlim2
            have hR := rowsV_le hL (i + 1)
            have hrow : val M + 4294967296 ^ i * rowP L i k = rowsV L (i + 1) := by rw [hr, rowP_all, rowsV, hval.out, Nat.mul_comm]
            rw [hrow, hke] at hv
            have hlt3 : rowsV L (i + 1) < 4294967296 ^ (n + 4) := by
              refine Nat.lt_of_le_of_lt hR ?_
              have h1 : 4294967296 ^ (i + 1 + 2) * 4294967296 ≤ 4294967296 ^ (n + 4) := by
                rw [← Nat.pow_succ]; exact Nat.pow_le_pow_right (by decide) (by omega)
              have h2 : 0 < 4294967296 ^ (i + 1 + 2) := Nat.pow_pos (by decide)
              generalize 4294967296 ^ (i + 1 + 2) = p at *
              omega
            have hc0 : cr = 0 := by
              rcases Nat.eq_zero_or_pos cr with h | h
              · exact h
              · have : 4294967296 ^ (n + 4) ≤ 4294967296 ^ (n + 4) * cr := Nat.le_mul_of_pos_right _ h
                omega
            rw [hc0, Nat.mul_zero, Nat.add_zero] at hv
            exact hv
          replace hfin := Lib.hid hfin
          go_wp2_with (fail)
          go_roundw
          case rel => exact ⟨i + 1, T, by go_num, by omega, hb2, hown2, hlen2, hlim2, hfin⟩
          case measure => simp only [intOf]; omega
    · obtain rfl : i = n := by omega
      obtain ⟨X, cx, e, hcx, hcm, hrd⟩ := ownV_rd hown
      cases e
      have hmake := rmake_c (some ⟨w.heap.size, 0, none⟩) (i + 4) (i + 4) M wr hlen.out hrd hlim (by omega) (Nat.le_refl _) (fun h => by cases h)
      rw [hval.out] at hmake
      have HM := Lib.hid hmake
      clear hmake hown hrd
      go_wp2_with (fail)
      refine HM.out.mono ?_
      rintro e w2 ⟨Y, cy, rfl, h1, h2⟩
      go_wp2_with (fail)
      go_ret
      exact ⟨Y, cy, rfl, h1, hb.trans (h2.mono hb.size)⟩
end Go.Proofs.YtmcekbmmpdpbmaaDoor
