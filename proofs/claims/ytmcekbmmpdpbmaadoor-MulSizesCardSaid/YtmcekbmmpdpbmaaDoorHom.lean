/- Numbers modulo p as a ring; what the transform's loops keep. -/
import Derived.Test.YtmcekbmmpdpbmaaDoorDft
set_option linter.unusedVariables false
set_option linter.unusedSimpArgs false
namespace Go.Proofs.YtmcekbmmpdpbmaaDoor

/-- φ reads a number modulo p. -/
structure Hom (p : Nat) [NeZero p] (φ : Nat → Fin p) : Prop where
  add : ∀ a b, φ (a + b) = φ a + φ b
  mul : ∀ a b, φ (a * b) = φ a * φ b
  one : φ 1 = 1
  modp : ∀ n, φ (n % p) = φ n
  inj : ∀ a b, φ a = φ b → a % p = b % p

section
variable {p : Nat} [NeZero p] {φ : Nat → Fin p}
theorem Hom.zero (h : Hom p φ) : φ 0 = 0 := by
  have := h.add 0 0
  rw [Nat.add_zero] at this; grind
theorem Hom.p0 (h : Hom p φ) : φ p = 0 := by rw [← h.modp, Nat.mod_self, h.zero]
theorem Hom.sub (h : Hom p φ) {a b : Nat} (hb : b ≤ a + p) : φ ((a + p - b) % p) = φ a - φ b := by
  rw [h.modp]
  have h1 := h.add (a + p - b) b
  rw [Nat.sub_add_cancel hb, h.add, h.p0] at h1
  grind
theorem Hom.pow (h : Hom p φ) (b e : Nat) : φ (b ^ e) = pw (φ b) e := by
  induction e with
  | zero => rw [Nat.pow_zero, h.one]; rfl
  | succ e ih => rw [Nat.pow_succ, h.mul, ih]; rfl
theorem Hom.eq (h : Hom p φ) {a b : Nat} (ha : a < p) (e : φ a = φ b) : a = b % p := by
  have := h.inj _ _ e
  rwa [Nat.mod_eq_of_lt ha] at this
theorem Hom.sm (h : Hom p φ) (f : Nat → Nat) (n : Nat) : φ (sm f n) = sm (fun i => φ (f i)) n := by
  induction n with
  | zero => exact h.zero
  | succ n ih => simp only [Go.Proofs.YtmcekbmmpdpbmaaDoor.sm, h.add, ih]
theorem Hom.cv (h : Hom p φ) (a b : Nat → Nat) (n j : Nat) : φ (cv a b n j) = cv (fun i => φ (a i)) (fun i => φ (b i)) n j := by
  unfold Go.Proofs.YtmcekbmmpdpbmaaDoor.cv
  rw [h.sm]
  refine sm_congr fun i _ => ?_
  split
  · rw [h.mul]
  · exact h.zero
end

theorem hom_fin (p : Nat) [NeZero p] : Hom p (fun n => Fin.ofNat p n) where
  add a b := by simp [Fin.ofNat, Fin.add_def]
  mul a b := by simp [Fin.ofNat, Fin.mul_def, Nat.mul_mod]
  one := rfl
  modp n := by simp [Fin.ofNat]
  inj a b h := by simpa [Fin.ofNat] using h

/-- The stage's number at a place. -/
def stg {p : Nat} [NeZero p] (f : Nat → Fin p) (w : Fin p) (K s x : Nat) : Fin p := stage f w K s (x / 2 ^ s) (x % 2 ^ s)
section
variable {p : Nat} [NeZero p]
theorem stg_start (f : Nat → Fin p) (w : Fin p) (k x : Nat) : stg f w k 0 x = f (rv k x) := by
  unfold stg
  rw [Nat.pow_zero, Nat.div_one, Nat.mod_one, stage_start f w k x 0]
theorem stg_end (f : Nat → Fin p) (w : Fin p) (k x : Nat) (h : x < 2 ^ k) : stg f w 0 k x = dft f w (2 ^ k) x := by
  unfold stg
  rw [Nat.div_eq_of_lt h, Nat.mod_eq_of_lt h, stage_end]
theorem stg_both (f : Nat → Fin p) (w : Fin p) (K s m t H z : Nat) (hH : H = 2 ^ s) (ht : t < H) (zz : Fin p) (hz : zz = pw w (2 ^ K * t)) (hw : pw w (2 ^ (K + s)) = -1) :
    stg f w K (s + 1) (m * (2 * H) + t) = stg f w (K + 1) s (m * (2 * H) + t) + zz * stg f w (K + 1) s (m * (2 * H) + t + H) ∧
    stg f w K (s + 1) (m * (2 * H) + t + H) = stg f w (K + 1) s (m * (2 * H) + t) - zz * stg f w (K + 1) s (m * (2 * H) + t + H) := by
  have h0 : 0 < H := by omega
  have e1 : 2 ^ (s + 1) = 2 * H := by rw [hH, Nat.pow_succ, Nat.mul_comm]
  have a1 : (m * (2 * H) + t) / (2 * H) = m := by
    rw [Nat.mul_comm, Nat.mul_add_div (by omega), Nat.div_eq_of_lt (by omega), Nat.add_zero]
  have a2 : (m * (2 * H) + t) % (2 * H) = t := by
    rw [Nat.mul_comm, Nat.mul_add_mod, Nat.mod_eq_of_lt (by omega)]
  have a3 : (m * (2 * H) + t + H) / (2 * H) = m := by
    rw [Nat.mul_comm, Nat.add_assoc, Nat.mul_add_div (by omega), Nat.div_eq_of_lt (by omega), Nat.add_zero]
  have a4 : (m * (2 * H) + t + H) % (2 * H) = t + H := by
    rw [Nat.mul_comm, Nat.add_assoc, Nat.mul_add_mod, Nat.mod_eq_of_lt (by omega)]
  have b1 : (m * (2 * H) + t) / H = 2 * m := by
    rw [show m * (2 * H) + t = H * (2 * m) + t by grind, Nat.mul_add_div h0, Nat.div_eq_of_lt ht, Nat.add_zero]
  have b2 : (m * (2 * H) + t) % H = t := by
    rw [show m * (2 * H) + t = H * (2 * m) + t by grind, Nat.mul_add_mod, Nat.mod_eq_of_lt ht]
  have b3 : (m * (2 * H) + t + H) / H = 2 * m + 1 := by
    rw [show m * (2 * H) + t + H = H * (2 * m + 1) + t by grind, Nat.mul_add_div h0, Nat.div_eq_of_lt ht, Nat.add_zero]
  have b4 : (m * (2 * H) + t + H) % H = t := by
    rw [show m * (2 * H) + t + H = H * (2 * m + 1) + t by grind, Nat.mul_add_mod, Nat.mod_eq_of_lt ht]
  unfold stg
  rw [e1, ← hH, a1, a2, a3, a4, b1, b2, b3, b4, hH]
  exact ⟨stage_low f w K s m t zz hz, stage_high f w K s m t zz hz hw⟩
end

theorem gl_set_eq' {L : List Nat} {i x : Nat} (h : i < L.length) : gl (L.set i x) i = x := by simp [gl, h]
theorem gl_set_ne' {L : List Nat} {i j x : Nat} (h : i ≠ j) : gl (L.set i x) j = gl L j := by simp [gl, List.getElem?_set_ne h]
theorem swap_yes (n k i j : Nat) (M L : List Nat) (hr : ∀ x, rv k x < n) (hrr : ∀ x, x < n → rv k (rv k x) = x) (hl : M.length = n) (hi : i < n) (hj : j = rv k i) (hij : i < j)
    (h : ∀ t, t < n → gl M t = if min t (rv k t) < i then gl L (rv k t) else gl L t) : ∀ t, t < n → gl ((M.set i (gl M j)).set j (gl M i)) t = if min t (rv k t) < i + 1 then gl L (rv k t) else gl L t := by
  intro t ht
  have hjn : j < n := by rw [hj]; exact hr i
  have hji : rv k j = i := by rw [hj]; exact hrr i hi
  have c1 : ¬ min i (rv k i) < i := by omega
  have c2 : ¬ min j (rv k j) < i := by omega
  by_cases e : t = j
  · have c3 : min t (rv k t) < i + 1 := by rw [e]; omega
    rw [e, gl_set_eq' (by rw [List.length_set]; omega), h i hi, if_neg c1, hji] 
    rw [e, hji] at c3
    rw [if_pos c3]
  · rw [gl_set_ne' (by omega)]
    by_cases e2 : t = i
    · have c3 : min t (rv k t) < i + 1 := by rw [e2]; omega
      rw [if_pos c3, e2, gl_set_eq' (by omega), h j hjn, if_neg c2, ← hj]
    · rw [gl_set_ne' (by omega), h t ht]
      have : rv k t ≠ i := fun h2 => e (by rw [hj, ← h2, hrr t ht])
      by_cases c : min t (rv k t) < i
      · have c3 : min t (rv k t) < i + 1 := by omega
        rw [if_pos c, if_pos c3]
      · have c3 : ¬ min t (rv k t) < i + 1 := by omega
        rw [if_neg c, if_neg c3]
theorem swap_no (n k i j : Nat) (M L : List Nat) (hrr : ∀ x, x < n → rv k (rv k x) = x) (hi : i < n) (hj : j = rv k i) (hij : ¬ i < j)
    (h : ∀ t, t < n → gl M t = if min t (rv k t) < i then gl L (rv k t) else gl L t) : ∀ t, t < n → gl M t = if min t (rv k t) < i + 1 then gl L (rv k t) else gl L t := by
  intro t ht
  rw [h t ht]
  by_cases c : min t (rv k t) < i
  · have c3 : min t (rv k t) < i + 1 := by omega
    rw [if_pos c, if_pos c3]
  · rw [if_neg c]
    by_cases c2 : min t (rv k t) < i + 1
    · rw [if_pos c2]
      by_cases e : t = i
      · subst e
        have : rv k t = t := by omega
        rw [this]
      · have e2 : rv k t = i := by omega
        have : t = j := by rw [hj, ← e2, hrr t ht]
        omega
    · rw [if_neg c2]
end Go.Proofs.YtmcekbmmpdpbmaaDoor
