/- Rows of three limbs, carried. -/
import Derived.Test.YtmcekbmmpdpbmaaDoorMul6
set_option linter.unusedVariables false
set_option linter.unusedSimpArgs false
namespace Go.Proofs.YtmcekbmmpdpbmaaDoor
open Go.RowKit Go.Shelf

/-- The value of the first n rows of three limbs, row i being i limbs up. -/
def rowsV (L : List Nat) : Nat → Nat
  | 0 => 0
  | i + 1 => rowsV L i + (gl L (3 * i) + 4294967296 * gl L (3 * i + 1) + 4294967296 * 4294967296 * gl L (3 * i + 2)) * 4294967296 ^ i
def psum (f : Nat → Nat) : Nat → Nat
  | 0 => 0
  | j + 1 => psum f j + f j * 4294967296 ^ j
/-- What row j - k gives to limb j. -/
def term (L : List Nat) (n j k : Nat) : Nat := if k ≤ j ∧ j - k < n then gl L (3 * (j - k) + k) else 0
def terms (L : List Nat) (n j : Nat) : Nat → Nat
  | 0 => 0
  | k + 1 => terms L n j k + term L n j k
theorem term_lt {L : List Nat} (h : Lim L) (n j k : Nat) : term L n j k < 4294967296 := by
  unfold term; split
  · exact h.gl _
  · decide
theorem term_zero (L : List Nat) {n j k : Nat} (h : n + k ≤ j) : term L n j k = 0 := by
  unfold term; rw [if_neg (by omega)]
theorem psum_term0 (L : List Nat) (n k m : Nat) (h : m ≤ k) : psum (fun j => term L n j k) m = 0 := by
  induction m with
  | zero => rfl
  | succ m ih => rw [psum, ih (by omega)]; unfold term; rw [if_neg (by omega)]; simp
theorem psum_term1 (L : List Nat) (n k i : Nat) (h : i ≤ n) : psum (fun j => term L n j k) (k + i) = 4294967296 ^ k * psum (fun t => gl L (3 * t + k)) i := by
  induction i with
  | zero => rw [Nat.add_zero, psum_term0 L n k k (Nat.le_refl _)]; rfl
  | succ i ih =>
    rw [← Nat.add_assoc, psum, ih (by omega), psum, Nat.mul_add]
    have e : term L n (k + i) k = gl L (3 * i + k) := by unfold term; rw [if_pos (by omega), Nat.add_sub_cancel_left]
    simp only [e]
    rw [Nat.pow_add]
    generalize 4294967296 ^ k = p
    generalize 4294967296 ^ i = q
    grind
theorem psum_term2 (L : List Nat) (n k r : Nat) : psum (fun j => term L n j k) (k + n + r) = 4294967296 ^ k * psum (fun t => gl L (3 * t + k)) n := by
  induction r with
  | zero => exact psum_term1 L n k n (Nat.le_refl _)
  | succ r ih => 
    rw [← Nat.add_assoc, psum, ih]
    simp only [term_zero L (show n + k ≤ k + n + r by omega), Nat.zero_mul, Nat.add_zero]
theorem psum_add (f g : Nat → Nat) (m : Nat) : psum (fun j => f j + g j) m = psum f m + psum g m := by
  induction m with
  | zero => rfl
  | succ m ih => simp only [psum, ih, Nat.add_mul]; omega
theorem rowsV_psum (L : List Nat) (n : Nat) : rowsV L n = psum (fun t => gl L (3 * t + 0)) n + 4294967296 * psum (fun t => gl L (3 * t + 1)) n + 4294967296 * 4294967296 * psum (fun t => gl L (3 * t + 2)) n := by
  induction n with
  | zero => rfl
  | succ n ih =>
    rw [rowsV, ih]
    simp only [psum, Nat.add_zero]
    generalize 4294967296 ^ n = q
    generalize psum _ n = a
    generalize psum _ n = b
    generalize psum _ n = c
    grind
theorem psum_terms (L : List Nat) (n : Nat) : psum (fun j => terms L n j 3) (n + 4) = rowsV L n := by
  have e : (fun j => terms L n j 3) = fun j => (term L n j 0 + term L n j 1) + term L n j 2 := by funext j; simp [terms]
  rw [e, psum_add, psum_add, rowsV_psum]
  have h0 := psum_term2 L n 0 4
  have h1 := psum_term2 L n 1 3
  have h2 := psum_term2 L n 2 2
  rw [show 0 + n + 4 = n + 4 by omega] at h0
  rw [show 1 + n + 3 = n + 4 by omega] at h1
  rw [show 2 + n + 2 = n + 4 by omega] at h2
  rw [h0, h1, h2]
  simp only [Nat.pow_zero, Nat.one_mul, Nat.pow_one, Nat.pow_succ]

theorem addr_row (ad : Addr) (t k : Nat) : (ad.add (t * 3)).add k = ad.add (3 * t + k) := by
  unfold Addr.add
  by_cases h1 : k = 0 <;> by_cases h2 : t = 0 <;> simp [h1, h2, Nat.mul_comm, Nat.add_assoc]
  have h3 : t * 3 ≠ 0 := by omega
  rw [if_neg h3]
  exact ⟨rfl, Nat.add_assoc _ _ _⟩

set_option maxHeartbeats 2000000 in
theorem carry_c (A : Option Addr) (n c : Nat) (L : List Nat) (w : World) (hn : L.length = 3 * n) (h : Rd w A L) (hL : Lim L) (hl : n ≤ 268435456) (hc : n ≤ c) :
    Calls Tryd.prog 24 #[.slice A n c] w (RetN w (rowsV L n)) := by
  have hmk := mk32 ((n : Int) + 4) ((n : Int) + 4) (by omega) (by omega) (by omega)
  have hown0 := ownsMade32 w w.heap.size (n + 4) (Nat.le_refl _) (by omega)
  have hb0 : Below w.heap.size w (w.alloc (.cells (madeCells #[.int .u32 0] (n + 4)) 35)) := (Below.refl _ _).alloc (Nat.le_refl _) _
  have e0 : ((n : Int) + 4).toNat = n + 4 := by omega
  rw [e0] at hmk
  have HN := Lib.hid hn
  clear hn
  go_enter Tryd.func24, Tryd.ntmps24
  go_wp2_with (fail)
  go_loopw [4, 5, 6, 13] (fun vc vi vk ct wr => ∃ (i cr : Nat) (M : List Nat), ct = .int .i64 i ∧ vc = .int .u64 cr ∧ i ≤ n + 4 ∧ cr ≤ 4 ∧ Below w.heap.size w wr ∧ wr.ownsRow w.heap.size 35 1 (.slice (some ⟨w.heap.size, 0, none⟩) (n + 4) (n + 4)) (n + 4) (vals M) ∧
    Hid (M.length = n + 4) ∧ Lim M ∧ Hid (val M + 4294967296 ^ i * cr = psum (fun j => terms L n j 3) i) ∧ Hid (∀ j, i ≤ j → gl M j = 0) ∧ Hid (n + 3 ≤ i → cr = 0)) (fun vc vi vk ct wr => n + 4 - (intOf ct).toNat)
  case atStart =>
    exact ⟨0, 0, _, rfl, rfl, Nat.zero_le _, by decide, hb0, hown0, Lib.hid (by simp), Lim.replicate _ _ (by decide), Lib.hid (by rw [val_replicate]; rfl), Lib.hid (fun j _ => by simp [gl, List.getElem?_replicate]; split <;> rfl), Lib.hid (fun h => rfl)⟩
  case round =>
    obtain ⟨i, cr, M, rfl, rfl, hi, hcr, hb, hown, hlen, hlim, hval, hz, hend⟩ := hrel
    by_cases hlt : i < n + 4
    · have hr := h.below hb
      obtain ⟨wo, rfl⟩ : ∃ wo : World, wo = wr := ⟨_, rfl⟩
      go_wp2_with (fail)
      go_loopw [4, 6, 16] (fun vc vk ct w2 => ∃ (k y : Nat), ct = .int .i64 k ∧ vc = .int .u64 y ∧ k ≤ 3 ∧ y ≤ 4 + k * 4294967296 ∧ w2 = wo ∧ Hid (y = cr + terms L n i k)) (fun vc vk ct w2 => 3 - (intOf ct).toNat)
      case atStart => exact ⟨0, cr, rfl, rfl, by decide, by omega, rfl, Lib.hid rfl⟩
      case round =>
        obtain ⟨k, y, rfl, rfl, hk, hy, rfl, hye⟩ := hrel
        by_cases hk3 : k < 3
        · have htl := term_lt hL n i k
          obtain ⟨x, hx⟩ : ∃ x, x = term L n i k := ⟨_, rfl⟩
          rw [← hx] at htl
          by_cases h1 : k ≤ i
          · obtain ⟨t, ht⟩ : ∃ t, i = t + k := ⟨i - k, by omega⟩
            have htI : (i : Int) - (k : Int) = (t : Int) := by omega
            by_cases h2 : t < n
            · obtain ⟨ad, rfl, hcx⟩ := hr.get (3 * t + k) (by rw [HN.out]; omega)
              have ex : gl L (3 * t + k) = x := by rw [hx]; unfold term; rw [if_pos (by omega), show i - k = t by omega]
              rw [ex, ← addr_row] at hcx
              have HX := Lib.hid hx
              clear hx ex
              go_wp2_with (fail)
              go_roundw
              case rel => 
                refine ⟨k + 1, y + x, by go_num, by congr 1, by omega, by omega, trivial, Lib.hid (by rw [hye.out, HX.out, terms, Nat.add_assoc])⟩
              case measure => simp [intOf] <;> omega
            · have ex : x = 0 := by rw [hx]; exact term_zero L (by omega)
              have HX := Lib.hid hx
              clear hx
              go_wp2_with (fail)
              go_roundw
              case rel => 
                refine ⟨k + 1, y, by go_num, rfl, by omega, Nat.le_trans hy (Nat.add_le_add_left (Nat.mul_le_mul_right _ (Nat.le_succ k)) 4), trivial, Lib.hid (by rw [hye.out, terms, ← HX.out, ex, Nat.add_zero])⟩
              case measure => simp [intOf] <;> omega
          · have ex : x = 0 := by rw [hx]; unfold term; rw [if_neg (by omega)]
            have htI : decide ((0 : Int) ≤ (i : Int) - (k : Int)) = false := by simp; omega
            have HX := Lib.hid hx
            clear hx
            go_wp2_with (fail)
            go_roundw
            case rel => 
              refine ⟨k + 1, y, by go_num, rfl, by omega, Nat.le_trans hy (Nat.add_le_add_left (Nat.mul_le_mul_right _ (Nat.le_succ k)) 4), trivial, Lib.hid (by rw [hye.out, terms, ← HX.out, ex, Nat.add_zero])⟩
            case measure => simp [intOf] <;> omega
        · obtain rfl : k = 3 := by omega
          have hcell : wr.cell? ⟨w.heap.size, i, none⟩ = some (.int .u32 (gl M i : Nat)) := by
            rw [hown.cellAt i (by omega), vals_get M _ (by rw [hlen.out]; omega)]
          have hfo := hown.frozenAt i
          have hye' : y = cr + terms L n i 3 := hye.out
          have hb4 : terms L n i 3 < 3 * 4294967296 := by have := term_lt hL n i 0; have := term_lt hL n i 1; have := term_lt hL n i 2; simp only [terms]; omega
          have HY := Lib.hid hye'
          clear hye'
          go_wp2_with (fail)
          go_roundw
          case rel =>
            have ec : ((y : Int) % 4294967296) = ((y % 4294967296 : Nat) : Int) := by omega
            have ed : ((y : Int) / 4294967296) = ((y / 4294967296 : Nat) : Int) := by omega
            rw [ec]
            obtain ⟨r1, r2⟩ := hown.stored i (.int .u32 ((y % 4294967296 : Nat) : Int))
            have hM : i < M.length := by rw [hlen.out]; omega
            have hmod : y % 4294967296 < 4294967296 := Nat.mod_lt _ (by decide)
            refine ⟨i + 1, y / 4294967296, M.set i (y % 4294967296), by go_num, by congr 1, by omega, by omega, hb.setCell (p := ⟨w.heap.size, i, none⟩) (Nat.le_refl _) _, by rw [vals_set]; exact r1, Lib.hid (by simp [hlen.out]), hlim.set _ _ hmod, Lib.hid ?_, Lib.hid ?_, Lib.hid ?_⟩
            · have hs := val_set i (y % 4294967296) hM
              rw [← gl_eq, hz.out i (Nat.le_refl _), Nat.mul_zero, Nat.add_zero] at hs
              have hv := hval.out
              rw [hs, psum, ← hv]
              have e := Nat.div_add_mod y 4294967296
              have hy2 := HY.out
              rw [Nat.pow_succ]
              generalize terms L n i 3 = T at *
              generalize val M = V at *
              generalize 4294967296 ^ i = p at *
              generalize y / 4294967296 = q at *
              generalize y % 4294967296 = r at *
              grind
            · intro j hj
              rw [gl_set_ne (by omega)]
              exact hz.out j (by omega)
            · intro hj
              have e0 : terms L n i 3 = 0 := by simp only [terms]; rw [term_zero L (by omega), term_zero L (by omega), term_zero L (by omega)]
              have := HY.out
              omega
          case measure => simp [intOf] <;> omega
    · obtain rfl : i = n + 4 := by omega
      obtain ⟨X, cx, e, hcx, hcm, hrd⟩ := ownV_rd hown
      cases e
      have hmake := make_c (some ⟨w.heap.size, 0, none⟩) (n + 4) (n + 4) M wr hlen.out hrd hlim (by omega) (Nat.le_refl _)
      have hv := hval.out
      rw [hend.out (by omega), Nat.mul_zero, Nat.add_zero, psum_terms] at hv
      rw [hv] at hmake
      have HM := Lib.hid hmake
      clear hmake hown hrd hv
      go_wp2_with (fail)
      refine HM.out.mono ?_
      rintro e w2 ⟨Y, cy, rfl, h1, h2⟩
      go_wp2_with (fail)
      go_ret
      exact ⟨Y, cy, rfl, h1, hb.trans (h2.mono hb.size)⟩
end Go.Proofs.YtmcekbmmpdpbmaaDoor
