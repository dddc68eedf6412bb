/- Toom's product. -/
import Derived.Test.YtmcekbmmpdpbmaaDoorMul4
set_option linter.unusedVariables false
set_option linter.unusedSimpArgs false
namespace Go.Proofs.YtmcekbmmpdpbmaaDoor
open Go.RowKit Go.Shelf
attribute [local go_sem] max2_i min2_i max_two min_two

/-- What the five points tell of a product of two polynomials of degree 2 (rm: the size of the value at -1, s: its sign is the other one). -/
theorem toom_points (x0 x1 x2 y0 y1 y2 am bm r1 rm r2 : Nat) (ha : am = x0 + x2 - x1 + (x1 - (x0 + x2))) (hb : bm = y0 + y2 - y1 + (y1 - (y0 + y2)))
    (h1 : r1 = (x0 + x2 + x1) * (y0 + y2 + y1)) (hm : rm = am * bm) (h2 : r2 = (x0 + (x1 * 2 + x2 * 4)) * (y0 + (y1 * 2 + y2 * 4))) :
    rm ≤ r1 ∧
    (decide (x0 + x2 < x1) = decide (y0 + y2 < y1) → r1 + rm = 2 * (x0 * y0 + (x0 * y2 + x1 * y1 + x2 * y0) + x2 * y2) ∧ r1 - rm = 2 * ((x0 * y1 + x1 * y0) + (x1 * y2 + x2 * y1))) ∧
    (decide (x0 + x2 < x1) ≠ decide (y0 + y2 < y1) → r1 - rm = 2 * (x0 * y0 + (x0 * y2 + x1 * y1 + x2 * y0) + x2 * y2) ∧ r1 + rm = 2 * ((x0 * y1 + x1 * y0) + (x1 * y2 + x2 * y1))) ∧
    r2 = x0 * y0 + 2 * (x0 * y1 + x1 * y0) + 4 * (x0 * y2 + x1 * y1 + x2 * y0) + 8 * (x1 * y2 + x2 * y1) + 16 * (x2 * y2) := by
  have key : ∀ p q u v : Nat, p ≤ u → q ≤ v → p * q ≤ u * v := fun p q u v h h' => Nat.mul_le_mul h h'
  have hle : rm ≤ r1 := by rw [h1, hm]; exact key _ _ _ _ (by omega) (by omega)
  refine ⟨hle, ?_, ?_, by rw [h2]; grind⟩
  · intro hs
    by_cases hx : x0 + x2 < x1
    · have hy : y0 + y2 < y1 := by simpa [hx] using hs
      obtain ⟨i, hi⟩ : ∃ i, x1 = x0 + x2 + i := ⟨x1 - (x0 + x2), by omega⟩
      obtain ⟨j, hj⟩ : ∃ j, y1 = y0 + y2 + j := ⟨y1 - (y0 + y2), by omega⟩
      have e1 : am = i := by omega
      have e2 : bm = j := by omega
      have e3 : r1 = rm + 2 * ((x0 * y1 + x1 * y0) + (x1 * y2 + x2 * y1)) := by rw [h1, hm, e1, e2, hi, hj]; grind
      refine ⟨?_, by omega⟩
      rw [e3, hm, e1, e2, hi, hj]; grind
    · have hy : ¬ y0 + y2 < y1 := by simpa [hx] using hs
      obtain ⟨i, hi⟩ : ∃ i, x0 + x2 = x1 + i := ⟨x0 + x2 - x1, by omega⟩
      obtain ⟨j, hj⟩ : ∃ j, y0 + y2 = y1 + j := ⟨y0 + y2 - y1, by omega⟩
      have e1 : am = i := by omega
      have e2 : bm = j := by omega
      have e3 : r1 = rm + 2 * ((x0 * y1 + x1 * y0) + (x1 * y2 + x2 * y1)) := by
        have : (x0 * y1 + x1 * y0) + (x1 * y2 + x2 * y1) = (x0 + x2) * y1 + x1 * (y0 + y2) := by grind
        rw [this, h1, hm, e1, e2, hi, hj]; grind
      have e4 : x0 * y0 + (x0 * y2 + x1 * y1 + x2 * y0) + x2 * y2 = (x0 + x2) * (y0 + y2) + x1 * y1 := by grind
      refine ⟨?_, by omega⟩
      rw [e4, h1, hm, e1, e2, hi, hj]; grind
  · intro hs
    by_cases hx : x0 + x2 < x1
    · have hy : ¬ y0 + y2 < y1 := by
        intro h; exact hs (by simp [hx, h])
      obtain ⟨i, hi⟩ : ∃ i, x1 = x0 + x2 + i := ⟨x1 - (x0 + x2), by omega⟩
      obtain ⟨j, hj⟩ : ∃ j, y0 + y2 = y1 + j := ⟨y0 + y2 - y1, by omega⟩
      have e1 : am = i := by omega
      have e2 : bm = j := by omega
      have e4 : x0 * y0 + (x0 * y2 + x1 * y1 + x2 * y0) + x2 * y2 = (x0 + x2) * (y0 + y2) + x1 * y1 := by grind
      have e5 : (x0 * y1 + x1 * y0) + (x1 * y2 + x2 * y1) = (x0 + x2) * y1 + x1 * (y0 + y2) := by grind
      have e3 : r1 = rm + 2 * (x0 * y0 + (x0 * y2 + x1 * y1 + x2 * y0) + x2 * y2) := by rw [e4, h1, hm, e1, e2, hi, hj]; grind
      refine ⟨by omega, ?_⟩
      rw [e5, h1, hm, e1, e2, hi, hj]; grind
    · have hy : y0 + y2 < y1 := by
        by_cases h : y0 + y2 < y1
        · exact h
        · exact absurd (by simp [hx, h]) hs
      obtain ⟨i, hi⟩ : ∃ i, x0 + x2 = x1 + i := ⟨x0 + x2 - x1, by omega⟩
      obtain ⟨j, hj⟩ : ∃ j, y1 = y0 + y2 + j := ⟨y1 - (y0 + y2), by omega⟩
      have e1 : am = i := by omega
      have e2 : bm = j := by omega
      have e4 : x0 * y0 + (x0 * y2 + x1 * y1 + x2 * y0) + x2 * y2 = (x0 + x2) * (y0 + y2) + x1 * y1 := by grind
      have e5 : (x0 * y1 + x1 * y0) + (x1 * y2 + x2 * y1) = (x0 + x2) * y1 + x1 * (y0 + y2) := by grind
      have e3 : r1 = rm + 2 * (x0 * y0 + (x0 * y2 + x1 * y1 + x2 * y0) + x2 * y2) := by rw [e4, h1, hm, e1, e2, hi, hj]; grind
      refine ⟨by omega, ?_⟩
      rw [e5, h1, hm, e1, e2, hi, hj]; grind
theorem cut_thirds {a k m : Nat} (h : nl a ≤ 2 * k + m) : cut a 0 k + 2 ^ (32 * k) * cut a k k + 2 ^ (32 * k) * 2 ^ (32 * k) * cut a (2 * k) m = a := by
  rw [cut_low, cut_high (k := 2 * k) h]
  unfold cut
  have h1 := Nat.div_add_mod a (2 ^ (32 * k))
  have h2 := Nat.div_add_mod (a / 2 ^ (32 * k)) (2 ^ (32 * k))
  rw [show 32 * (2 * k) = 32 * k + 32 * k by omega, Nat.pow_add, ← Nat.div_div_eq_div_mul]
  generalize a / 2 ^ (32 * k) / 2 ^ (32 * k) = c at *
  generalize a / 2 ^ (32 * k) % 2 ^ (32 * k) = b at *
  generalize a % 2 ^ (32 * k) = z at *
  rw [← h2] at h1
  generalize 2 ^ (32 * k) = p at *
  grind
end Go.Proofs.YtmcekbmmpdpbmaaDoor
