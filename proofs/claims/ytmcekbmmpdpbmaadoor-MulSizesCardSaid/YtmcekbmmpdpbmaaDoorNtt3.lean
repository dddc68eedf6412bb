/- The sums of products modulo one prime, walked. -/
import Derived.Test.YtmcekbmmpdpbmaaDoorNtt2
set_option linter.unusedVariables false
set_option linter.unusedSimpArgs false
namespace Go.Proofs.YtmcekbmmpdpbmaaDoor
open Go.RowKit Go.Shelf

/-- What is asked of a prime (that it is one is not). -/
structure Prm (p : Nat) : Prop where
  two : 2 < p
  small : p < 1073741824
  one : p % 1048576 = 1
  half : 3 ^ ((p - 1) / 2) % p = p - 1
  full : 2 ^ (p - 1) % p = 1
/-- The transform's root. -/
def rt (p k : Nat) : Nat := 3 ^ ((p - 1) / 2 ^ k) % p
theorem Prm.dvd {p : Nat} (h : Prm p) (k : Nat) (hk : k ≤ 20) : (p - 1) / 2 ^ k * 2 ^ k = p - 1 := by
  refine Nat.div_mul_cancel ?_
  have h1 : 1048576 ∣ p - 1 := by have := h.one; have := h.two; omega
  exact Nat.dvd_trans (show 2 ^ k ∣ 2 ^ 20 from Nat.pow_dvd_pow 2 hk) h1
section
variable {p : Nat} [NeZero p] {φ : Nat → Fin p}
theorem Prm.neg (h : Prm p) (hφ : Hom p φ) : pw (φ 3) ((p - 1) / 2) = -1 := by
  have h1 : φ (3 ^ ((p - 1) / 2)) = φ (p - 1) := by rw [← hφ.modp, h.half]
  rw [hφ.pow] at h1
  rw [h1]
  have h2 := hφ.add (p - 1) 1
  have := h.two
  rw [Nat.sub_add_cancel (by omega), hφ.p0, hφ.one] at h2
  grind
theorem Prm.root (h : Prm p) (hφ : Hom p φ) (k : Nat) (hk : k ≤ 20) : k = 0 ∨ pw (φ (rt p k)) (2 ^ (k - 1)) = -1 := by
  cases k with
  | zero => exact .inl rfl
  | succ k =>
    right
    unfold rt
    rw [hφ.modp, hφ.pow, pw_pw, Nat.add_sub_cancel, ← h.neg hφ]
    congr 1
    have h1 := h.dvd (k + 1) hk
    generalize (p - 1) / 2 ^ (k + 1) = x at h1 ⊢
    rw [Nat.pow_succ, ← Nat.mul_assoc] at h1
    omega
theorem Prm.unit (h : Prm p) (hφ : Hom p φ) : pw (φ 3) (p - 1) = 1 := by
  have h1 : p - 1 = (p - 1) / 2 * 2 := by have := h.one; have := h.two; omega
  rw [h1, ← pw_pw, h.neg hφ]
  simp only [pw]; grind
theorem Prm.back (h : Prm p) (hφ : Hom p φ) (k : Nat) : φ (rt p k) * φ (rt p k ^ (p - 2) % p) = 1 := by
  rw [hφ.modp, hφ.pow, ← pw_1 (φ (rt p k)), pw_pw, ← pw_add]
  have := h.two
  rw [show 1 + 1 * (p - 2) = p - 1 by omega]
  unfold rt
  rw [hφ.modp, hφ.pow, pw_pw, Nat.mul_comm, ← pw_pw, h.unit hφ, pw_one]
theorem sm_ones (hφ : Hom p φ) (n : Nat) : sm (fun _ => (1 : Fin p)) n = φ n := by
  induction n with
  | zero => exact hφ.zero.symm
  | succ n ih => rw [sm, ih, hφ.add, hφ.one]
theorem Prm.over (h : Prm p) (hφ : Hom p φ) (k : Nat) : φ (2 ^ k) * φ ((2 ^ k) ^ (p - 2) % p) = 1 := by
  rw [hφ.modp, hφ.pow (2 ^ k), ← pw_1 (φ (2 ^ k)), pw_pw, ← pw_add]
  have := h.two
  rw [show 1 + 1 * (p - 2) = p - 1 by omega, ← hφ.pow, ← Nat.pow_mul, Nat.mul_comm, Nat.pow_mul, hφ.pow, ← hφ.modp, h.full, hφ.one, pw_one]
/-- The whole way there and back. -/
theorem conv_math (h : Prm p) (hφ : Hom p φ) (k la lb : Nat) (hk : k ≤ 20) (a b X Y Z : Nat → Nat) (ha : ∀ i, la ≤ i → a i = 0) (hb : ∀ i, lb ≤ i → b i = 0) (hN : la + lb ≤ 2 ^ k + 1) (hl : 0 < lb) (hla : la ≤ 2 ^ k) (hlb : lb ≤ 2 ^ k)
    (hX : ∀ t, t < 2 ^ k → φ (X t) = dft (fun j => φ (a j)) (φ (rt p k)) (2 ^ k) t) (hY : ∀ t, t < 2 ^ k → φ (Y t) = dft (fun j => φ (b j)) (φ (rt p k)) (2 ^ k) t)
    (hZ : ∀ t, t < 2 ^ k → φ (Z t) = dft (fun j => φ (X j * Y j % p)) (φ (rt p k ^ (p - 2) % p)) (2 ^ k) t) :
    ∀ t, t < 2 ^ k → Z t * ((2 ^ k) ^ (p - 2) % p) % p = cv a b la t % p := by
  intro t ht
  have hp := h.two
  refine hφ.eq (Nat.mod_lt _ (by omega)) ?_ 
  rw [hφ.modp, hφ.mul, hZ t ht, hφ.cv]
  have e : dft (fun j => φ (X j * Y j % p)) (φ (rt p k ^ (p - 2) % p)) (2 ^ k) t = dft (dft (cv (fun i => φ (a i)) (fun i => φ (b i)) la) (φ (rt p k)) (2 ^ k)) (φ (rt p k ^ (p - 2) % p)) (2 ^ k) t := by
    unfold dft
    refine sm_congr fun j hj => ?_
    congr 1
    show φ (X j * Y j % p) = _
    rw [hφ.modp, hφ.mul, hX j hj, hY j hj]
    have hc := cv_poly (fun i => φ (a i)) (fun i => φ (b i)) la lb (2 ^ k) (pw (φ (rt p k)) j) (fun i hi => by simp only [hb i hi, hφ.zero]) hN hl
    simp only [pw_pw] at hc
    rw [hc]
    unfold dft
    obtain ⟨r, hr⟩ : ∃ r, 2 ^ k = la + r := ⟨2 ^ k - la, by omega⟩
    obtain ⟨r', hr'⟩ : ∃ r', 2 ^ k = lb + r' := ⟨2 ^ k - lb, by omega⟩
    have e1 : sm (fun i => φ (a i) * pw (φ (rt p k)) (j * i)) (2 ^ k) = sm (fun i => φ (a i) * pw (φ (rt p k)) (j * i)) la := by
      rw [hr]; exact sm_more _ _ _ fun i hi => by simp only [ha i hi, hφ.zero]; grind
    have e2 : sm (fun i => φ (b i) * pw (φ (rt p k)) (j * i)) (2 ^ k) = sm (fun i => φ (b i) * pw (φ (rt p k)) (j * i)) lb := by
      rw [hr']; exact sm_more _ _ _ fun i hi => by simp only [hb i hi, hφ.zero]; grind
    rw [e1, e2]
  rw [e, dft_back _ _ _ k t (h.root hφ k hk) (h.back hφ k) ht, sm_ones hφ]
  have := h.over hφ k
  grind
end

theorem mk64 (c : Int) (h0 : 0 ≤ c) (hc : c ≤ 4194304) : ∀ W : World, (Instr.makeSlice 63 (.int .i64 c) (.int .i64 c)).run Tryd.prog W =
    .ok (.slice (some ⟨W.heap.size, 0, none⟩) c.toNat c.toNat) (W.alloc (.cells (v64 (List.replicate c.toNat 0)).toArray 36)) := fun W => by
  obtain ⟨i0, hi, hz0, hz1, hz2⟩ := info_parts info_u64
  have := run_make (P := Tryd.prog) W 63 36 i0 _ Tryd.underlying63 hi hz0 .i64 .i64 c c h0 (Int.le_refl _) (by rw [hz2]; omega) (by omega)
  rw [hz1, Nat.mul_one] at this
  rw [this]
  congr 4
  apply Array.toList_inj.1
  show (madeCells #[.int .u64 0] c.toNat).toList = _
  rw [toList_madeCells_one]
  simp [v64]
end Go.Proofs.YtmcekbmmpdpbmaaDoor
