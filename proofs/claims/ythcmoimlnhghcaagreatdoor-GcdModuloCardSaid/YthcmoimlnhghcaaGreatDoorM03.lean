/- Euclid's steps as matrices: their determinants, what they make of two numbers, their sizes; when they end. -/
import Derived.Test.YthcmoimlnhghcaaGreatDoorM02
import Derived.Test.YthcmoimlnhghcaaGreatDoorM01
import Derived.BigQuiet
import Derived.Deep.QuietTactic
import Derived.Shelf.Spec.TrailingZeros
import Derived.IntWalk
import Derived.Orders
set_option maxRecDepth 100000
set_option maxHeartbeats 4000000
set_option linter.unusedVariables false
set_option linter.unusedSimpArgs false
namespace Go.Proofs.YthcmoimlnhghcaaGreatDoor
open Go.RowKit

/-- What steps make of two numbers: the first is a x + b y, the second c x + d y. -/
structure Mx where
  a : Int
  b : Int
  c : Int
  d : Int
def Mx.one : Mx := ⟨1, 0, 0, 1⟩
def Mx.nx (m : Mx) (q : Nat) : Mx := ⟨m.c, m.d, m.a - (q : Int) * m.c, m.b - (q : Int) * m.d⟩
def Mx.af (m n : Mx) : Mx := ⟨n.a * m.a + n.b * m.c, n.a * m.b + n.b * m.d, n.c * m.a + n.d * m.c, n.c * m.b + n.d * m.d⟩
def Mx.det (m : Mx) : Int := m.a * m.d - m.b * m.c
def Mx.U (m : Mx) : Prop := m.det = 1 ∨ m.det = -1
def Mx.x (m : Mx) (a b : Nat) : Int := m.a * a + m.b * b
def Mx.y (m : Mx) (a b : Nat) : Int := m.c * a + m.d * b
theorem Mx.u_one : Mx.one.U := Or.inl (by decide)
theorem Mx.det_nx (m : Mx) (q : Nat) : (m.nx q).det = -m.det := by
  simp only [Mx.det, Mx.nx]; grind
theorem Mx.u_nx {m : Mx} (h : m.U) (q : Nat) : (m.nx q).U := by
  unfold Mx.U at *; rw [Mx.det_nx]; omega
theorem Mx.det_af (m n : Mx) : (m.af n).det = m.det * n.det := by
  simp only [Mx.det, Mx.af]; grind
theorem Mx.u_af {m n : Mx} (h : m.U) (k : n.U) : (m.af n).U := by
  unfold Mx.U at *; rw [Mx.det_af]
  rcases h with h | h <;> rcases k with k | k <;> rw [h, k] <;> decide
theorem Mx.gcd {m : Mx} (h : m.U) (a b : Nat) : Nat.gcd (mg (m.x a b)) (mg (m.y a b)) = Nat.gcd a b := by
  have i1 : m.det * a = m.d * m.x a b - m.b * m.y a b := by simp only [Mx.det, Mx.x, Mx.y]; grind
  have i2 : m.det * b = m.a * m.y a b - m.c * m.x a b := by simp only [Mx.det, Mx.x, Mx.y]; grind
  have dn : ∀ (g : Nat) (z : Int), (g : Int) ∣ z ↔ g ∣ mg z := fun g z => by unfold mg; exact Int.ofNat_dvd_left
  have back : ∀ (g : Nat) (z : Nat), (g : Int) ∣ m.det * z → g ∣ z := by
    intro g z hz
    rcases h with h | h
    · rw [h, Int.one_mul] at hz; exact Int.natCast_dvd_natCast.1 hz
    · rw [h, Int.neg_mul, Int.one_mul] at hz; exact Int.natCast_dvd_natCast.1 (Int.dvd_neg.1 hz)
  apply Nat.dvd_antisymm
  · have h1 : ((Nat.gcd (mg (m.x a b)) (mg (m.y a b)) : Nat) : Int) ∣ m.x a b := (dn _ _).2 (Nat.gcd_dvd_left _ _)
    have h2 : ((Nat.gcd (mg (m.x a b)) (mg (m.y a b)) : Nat) : Int) ∣ m.y a b := (dn _ _).2 (Nat.gcd_dvd_right _ _)
    apply Nat.dvd_gcd
    · apply back; rw [i1]; exact Int.dvd_sub (Int.dvd_mul_of_dvd_right h1) (Int.dvd_mul_of_dvd_right h2)
    · apply back; rw [i2]; exact Int.dvd_sub (Int.dvd_mul_of_dvd_right h2) (Int.dvd_mul_of_dvd_right h1)
  · have h1 : ((Nat.gcd a b : Nat) : Int) ∣ (a : Int) := Int.natCast_dvd_natCast.2 (Nat.gcd_dvd_left _ _)
    have h2 : ((Nat.gcd a b : Nat) : Int) ∣ (b : Int) := Int.natCast_dvd_natCast.2 (Nat.gcd_dvd_right _ _)
    apply Nat.dvd_gcd
    · exact (dn _ _).1 (Int.dvd_add (Int.dvd_mul_of_dvd_right h1) (Int.dvd_mul_of_dvd_right h2))
    · exact (dn _ _).1 (Int.dvd_add (Int.dvd_mul_of_dvd_right h1) (Int.dvd_mul_of_dvd_right h2))
/-- Each entry is of at most so many limbs. -/
def Mx.sz (m : Mx) (k : Nat) : Prop := nl (mg m.a) ≤ k ∧ nl (mg m.b) ≤ k ∧ nl (mg m.c) ≤ k ∧ nl (mg m.d) ≤ k
theorem Mx.sz.mono {m : Mx} {k l : Nat} (h : m.sz k) (hl : k ≤ l) : m.sz l := ⟨Nat.le_trans h.1 hl, Nat.le_trans h.2.1 hl, Nat.le_trans h.2.2.1 hl, Nat.le_trans h.2.2.2 hl⟩
theorem mg_add_le (x y : Int) : mg (x + y) ≤ mg x + mg y := Int.natAbs_add_le x y
theorem mg_sub_le (x y : Int) : mg (x - y) ≤ mg x + mg y := Int.natAbs_sub_le x y
theorem nl_iadd (x y : Int) : nl (mg (x + y)) ≤ max (nl (mg x)) (nl (mg y)) + 1 := Nat.le_trans (nl_mono (mg_add_le x y)) (nl_add _ _)
theorem nl_isub (x y : Int) : nl (mg (x - y)) ≤ max (nl (mg x)) (nl (mg y)) + 1 := Nat.le_trans (nl_mono (mg_sub_le x y)) (nl_add _ _)
theorem nl_imul (x y : Int) : nl (mg (x * y)) ≤ nl (mg x) + nl (mg y) := by rw [mg_mul]; exact nl_mul _ _
theorem nl_two_prods {p q r s : Int} {i j : Nat} (hp : nl (mg p) ≤ i) (hq : nl (mg q) ≤ j) (hr : nl (mg r) ≤ i) (hs : nl (mg s) ≤ j) : nl (mg (p * q + r * s)) ≤ i + j + 1 := by
  have h1 := nl_imul p q; have h2 := nl_imul r s; have h3 := nl_iadd (p * q) (r * s); omega
theorem Mx.sz_nx {m : Mx} {k l q : Nat} (h : m.sz k) (hq : nl q ≤ l) : (m.nx q).sz (k + l + 1) := by
  obtain ⟨h1, h2, h3, h4⟩ := h
  have e1 := nl_imul (q : Int) m.c
  have e2 := nl_imul (q : Int) m.d
  rw [mg_nat] at e1 e2
  have e3 := nl_isub m.a ((q : Int) * m.c)
  have e4 := nl_isub m.b ((q : Int) * m.d)
  exact ⟨Nat.le_trans h3 (by omega), Nat.le_trans h4 (by omega), Nat.le_trans e3 (by omega), Nat.le_trans e4 (by omega)⟩
theorem Mx.sz_af {m n : Mx} {k l : Nat} (h : m.sz k) (g : n.sz l) : (m.af n).sz (l + k + 1) :=
  ⟨nl_two_prods g.1 h.1 g.2.1 h.2.2.1, nl_two_prods g.1 h.2.1 g.2.1 h.2.2.2, nl_two_prods g.2.2.1 h.1 g.2.2.2 h.2.2.1, nl_two_prods g.2.2.1 h.2.1 g.2.2.2 h.2.2.2⟩
theorem Mx.sz_x {m : Mx} {k l a b : Nat} (h : m.sz k) (ha : nl a ≤ l) (hb : nl b ≤ l) : nl (mg (m.x a b)) ≤ k + l + 1 := nl_two_prods h.1 (by rw [mg_nat]; exact ha) h.2.1 (by rw [mg_nat]; exact hb)
theorem Mx.sz_y {m : Mx} {k l a b : Nat} (h : m.sz k) (ha : nl a ≤ l) (hb : nl b ≤ l) : nl (mg (m.y a b)) ≤ k + l + 1 := nl_two_prods h.2.2.1 (by rw [mg_nat]; exact ha) h.2.2.2 (by rw [mg_nat]; exact hb)

/-- The matrix of so many of Euclid's steps. -/
def eum (a b : Nat) : Nat → Mx
  | 0 => Mx.one
  | k + 1 => (eum a b k).nx ((euc a b k).1 / (euc a b k).2)
theorem eum_U (a b : Nat) : ∀ k, (eum a b k).U
  | 0 => Mx.u_one
  | k + 1 => Mx.u_nx (eum_U a b k) _
theorem eum_xy (a b : Nat) : ∀ k, (eum a b k).x a b = (euc a b k).1 ∧ (eum a b k).y a b = (euc a b k).2
  | 0 => by simp [eum, euc, Mx.x, Mx.y, Mx.one]
  | k + 1 => by
    obtain ⟨h1, h2⟩ := eum_xy a b k
    obtain ⟨m, hm⟩ : ∃ m, m = eum a b k := ⟨_, rfl⟩
    obtain ⟨x, hx⟩ : ∃ x, x = (euc a b k).1 := ⟨_, rfl⟩
    obtain ⟨y, hy⟩ : ∃ y, y = (euc a b k).2 := ⟨_, rfl⟩
    simp only [eum, euc]
    rw [← hm, ← hx] at h1
    rw [← hm, ← hy] at h2
    rw [← hm, ← hx, ← hy]
    refine ⟨h2, ?_⟩
    have e : ((x % y : Nat) : Int) = x - ((x / y : Nat) : Int) * y := by
      have := Nat.div_add_mod x y
      have h3 : ((y * (x / y) + x % y : Nat) : Int) = (x : Int) := by rw [this]
      rw [Int.natCast_add, Int.natCast_mul] at h3
      rw [Int.mul_comm ((x / y : Nat) : Int)]; omega
    rw [e, ← h1, ← h2]
    simp only [Mx.nx, Mx.x, Mx.y]
    obtain ⟨q, hq⟩ : ∃ q : Int, q = ((x / y : Nat) : Int) := ⟨_, rfl⟩
    rw [← hq]
    grind
theorem eum_le (a b : Nat) : ∀ k, mg (eum a b k).a * (euc a b k).2 + mg (eum a b k).c * (euc a b k).1 ≤ b ∧ mg (eum a b k).b * (euc a b k).2 + mg (eum a b k).d * (euc a b k).1 ≤ a
  | 0 => by simp [eum, euc, Mx.one, mg]
  | k + 1 => by
    obtain ⟨h1, h2⟩ := eum_le a b k
    obtain ⟨m, hm⟩ : ∃ m, m = eum a b k := ⟨_, rfl⟩
    obtain ⟨x, hx⟩ : ∃ x, x = (euc a b k).1 := ⟨_, rfl⟩
    obtain ⟨y, hy⟩ : ∃ y, y = (euc a b k).2 := ⟨_, rfl⟩
    simp only [eum, euc]
    rw [← hm, ← hx, ← hy] at h1 h2
    rw [← hm, ← hx, ← hy]
    simp only [Mx.nx]
    have key : ∀ u v : Int, mg v * (x % y) + mg (u - ((x / y : Nat) : Int) * v) * y ≤ mg u * y + mg v * x := by
      intro u v
      have h3 : mg (u - ((x / y : Nat) : Int) * v) ≤ mg u + x / y * mg v := by
        refine Nat.le_trans (mg_sub_le _ _) ?_
        rw [mg_mul, mg_nat]; exact Nat.le_refl _
      have h4 := Nat.mul_le_mul_right y h3
      have h5 : mg v * x = mg v * (x % y) + x / y * mg v * y := by
        have := Nat.div_add_mod x y
        calc mg v * x = mg v * (y * (x / y) + x % y) := by rw [this]
          _ = mg v * (x % y) + x / y * mg v * y := by grind
      rw [h5]
      have h6 : (mg u + x / y * mg v) * y = mg u * y + x / y * mg v * y := Nat.add_mul _ _ _
      omega
    exact ⟨Nat.le_trans (key m.a m.c) h1, Nat.le_trans (key m.b m.d) h2⟩
theorem eum_bd (a b M : Nat) (h1 : 1 ≤ M) (ha : a ≤ M) (hb : b ≤ M) : ∀ k, (∀ i, i < k → (euc a b i).2 ≠ 0) → mg (eum a b k).a ≤ M ∧ mg (eum a b k).b ≤ M ∧ mg (eum a b k).c ≤ M ∧ mg (eum a b k).d ≤ M
  | 0, _ => by simp only [eum, Mx.one]; exact ⟨by simpa [mg] using h1, by simp [mg], by simp [mg], by simpa [mg] using h1⟩
  | k + 1, h => by
    have ih := eum_bd a b M h1 ha hb k (fun i hi => h i (by omega))
    have hl := eum_le a b (k + 1)
    have hy : 0 < (euc a b (k + 1)).1 := by have := h k (by omega); simp only [euc]; omega
    refine ⟨ih.2.2.1, ih.2.2.2, ?_, ?_⟩
    · have := Nat.le_mul_of_pos_right (mg (eum a b (k + 1)).c) hy; omega
    · have := Nat.le_mul_of_pos_right (mg (eum a b (k + 1)).d) hy; omega
theorem eum_sz {a b L : Nat} (ha : nl a ≤ L) (hb : nl b ≤ L) (hL : 1 ≤ L) (k : Nat) (h : ∀ i, i < k → (euc a b i).2 ≠ 0) : (eum a b k).sz L := by
  have e : nl (max 1 (max a b)) ≤ L := by
    rcases Nat.le_total 1 (max a b) with h1 | h1
    · rw [Nat.max_eq_right h1]
      rcases Nat.le_total a b with h2 | h2
      · rw [Nat.max_eq_right h2]; exact hb
      · rw [Nat.max_eq_left h2]; exact ha
    · rw [Nat.max_eq_left h1, nl_one]; exact hL
  obtain ⟨b1, b2, b3, b4⟩ := eum_bd a b (max 1 (max a b)) (by omega) (by omega) (by omega) k h
  exact ⟨Nat.le_trans (nl_mono b1) e, Nat.le_trans (nl_mono b2) e, Nat.le_trans (nl_mono b3) e, Nat.le_trans (nl_mono b4) e⟩
theorem euc_shift (a b : Nat) : ∀ k, euc a b (k + 1) = euc b (a % b) k
  | 0 => rfl
  | k + 1 => by
    have := euc_shift a b k
    simp only [euc] at this ⊢
    rw [← this]
theorem eun_ex (b : Nat) : ∀ a, ∃ k, (euc a b k).2 = 0 ∧ ∀ i, i < k → (euc a b i).2 ≠ 0 := by
  induction b using Nat.strongRecOn with
  | ind b ih =>
    intro a
    by_cases h : b = 0
    · exact ⟨0, by simpa [euc] using h, by omega⟩
    · obtain ⟨k, h1, h2⟩ := ih (a % b) (Nat.mod_lt _ (by omega)) b
      refine ⟨k + 1, by rw [euc_shift]; exact h1, ?_⟩
      intro i hi
      cases i with
      | zero => simpa [euc] using h
      | succ i => rw [euc_shift]; exact h2 i (by omega)
/-- How many steps Euclid's algorithm takes. -/
noncomputable def eun (a b : Nat) : Nat := (eun_ex b a).choose
theorem eun_zero (a b : Nat) : (euc a b (eun a b)).2 = 0 := (eun_ex b a).choose_spec.1
theorem eun_nz (a b : Nat) : ∀ i, i < eun a b → (euc a b i).2 ≠ 0 := (eun_ex b a).choose_spec.2
theorem eun_eq {a b k : Nat} (h1 : (euc a b k).2 = 0) (h2 : ∀ i, i < k → (euc a b i).2 ≠ 0) : k = eun a b := by
  rcases Nat.lt_trichotomy k (eun a b) with h | h | h
  · exact absurd h1 (eun_nz a b k h)
  · exact h
  · exact absurd (eun_zero a b) (h2 _ h)
theorem eun_gcd (a b : Nat) : (euc a b (eun a b)).1 = Nat.gcd a b := by
  have h := euc_gcd a b (eun a b) (eun_nz a b)
  rw [eun_zero, Nat.gcd_zero_right] at h; exact h
/-- The cofactors. -/
noncomputable def exu (a b : Nat) : Int := (eum a b (eun a b)).a
noncomputable def exv (a b : Nat) : Int := (eum a b (eun a b)).b
theorem ex_sum (a b : Nat) : exu a b * a + exv a b * b = (Nat.gcd a b : Nat) := by
  have h := (eum_xy a b (eun a b)).1
  rw [eun_gcd] at h; exact h
theorem ex_sz {a b L : Nat} (ha : nl a ≤ L) (hb : nl b ≤ L) (hL : 1 ≤ L) : nl (mg (exu a b)) ≤ L ∧ nl (mg (exv a b)) ≤ L := by
  have h := eum_sz ha hb hL (eun a b) (eun_nz a b)
  exact ⟨h.1, h.2.1⟩
/-- Euclid's quotients. -/
def quo (a b k : Nat) : Nat := (euc a b k).1 / (euc a b k).2

/-- What holds of the steps that two leading parts tell. -/
structure Lst (x0 y0 : Int) (m : Mx) : Prop where
  u : m.U
  p : 0 ≤ m.a * x0 + m.b * y0 + m.a
  s : 0 ≤ m.a * x0 + m.b * y0 + m.b
  r : 0 ≤ m.c * x0 + m.d * y0 + m.c
  t : 0 ≤ m.c * x0 + m.d * y0 + m.d
  k : (m.a = 1 ∧ m.b = 0 ∧ m.c = 0 ∧ m.d = 1) ∨ (m.c * x0 + m.d * y0 + m.c < m.a * x0 + m.b * y0 + m.a ∧ m.c * x0 + m.d * y0 + m.d < m.a * x0 + m.b * y0 + m.b ∧ m.a * x0 + m.b * y0 + m.a ≤ y0 ∧ m.a * x0 + m.b * y0 + m.b ≤ y0 + 1)
theorem lst_one {x0 y0 : Int} (hx : 0 ≤ x0) (hy : 0 ≤ y0) : Lst x0 y0 Mx.one := by
  refine ⟨Mx.u_one, ?_, ?_, ?_, ?_, .inl ⟨rfl, rfl, rfl, rfl⟩⟩ <;> simp [Mx.one] <;> omega
theorem lst_nx {x0 y0 : Int} {m : Mx} (h : Lst x0 y0 m) {q : Nat} {x y : Int} (hx : x = m.a * x0 + m.b * y0) (hy : y = m.c * x0 + m.d * y0) (h1 : 0 < y + m.c) (h2 : 0 < y + m.d)
    (e1 : (q : Int) = (x + m.a) / (y + m.c)) (e2 : (q : Int) = (x + m.b) / (y + m.d)) :
    Lst x0 y0 (m.nx q) ∧ (m.nx q).a * x0 + (m.nx q).b * y0 = y ∧ (m.nx q).c * x0 + (m.nx q).d * y0 = x - q * y ∧ x - q * y + (m.nx q).c < y + m.c := by
  have f1 := Int.emod_nonneg (x + m.a) (show y + m.c ≠ 0 by omega)
  have f2 := Int.emod_lt_of_pos (x + m.a) h1
  have f3 := Int.emod_nonneg (x + m.b) (show y + m.d ≠ 0 by omega)
  have f4 := Int.emod_lt_of_pos (x + m.b) h2
  rw [Int.emod_def, ← e1] at f1 f2
  rw [Int.emod_def, ← e2] at f3 f4
  have g1 : (m.nx q).a * x0 + (m.nx q).b * y0 = y := by rw [hy]; rfl
  have g2 : (m.nx q).c * x0 + (m.nx q).d * y0 = x - q * y := by rw [hx, hy]; simp only [Mx.nx]; grind
  have g3 : x - q * y + (m.nx q).c = x + m.a - (y + m.c) * q := by simp only [Mx.nx]; grind
  have g4 : x - q * y + (m.nx q).d = x + m.b - (y + m.d) * q := by simp only [Mx.nx]; grind
  have hk := h.k
  rw [← hx, ← hy] at hk
  refine ⟨⟨Mx.u_nx h.u q, ?_, ?_, ?_, ?_, .inr ⟨?_, ?_, ?_, ?_⟩⟩, g1, g2, by rw [g3]; exact f2⟩
  · rw [g1]; show 0 ≤ y + m.c; omega
  · rw [g1]; show 0 ≤ y + m.d; omega
  · rw [g2, g3]; exact f1
  · rw [g2, g4]; exact f3
  · rw [g1, g2, g3]; exact f2
  · rw [g1, g2, g4]; exact f4
  · rw [g1]; show y + m.c ≤ y0
    rcases hk with ⟨k1, k2, k3, k4⟩ | ⟨k1, k2, k3, k4⟩
    · rw [hy, k3, k4]; omega
    · omega
  · rw [g1]; show y + m.d ≤ y0 + 1
    rcases hk with ⟨k1, k2, k3, k4⟩ | ⟨k1, k2, k3, k4⟩
    · rw [hy, k3, k4]; omega
    · omega
theorem lst_end {x0 y0 : Int} {m : Mx} (h : Lst x0 y0 m) (hb : m.b ≠ 0) {A B N : Nat} (hN : 0 < N) (hx : x0 = ((A / N : Nat) : Int)) (hy : y0 = ((B / N : Nat) : Int)) (hA : 0 < A + B) :
    0 ≤ m.y A B ∧ m.y A B < m.x A B ∧ m.x A B ≤ B := by
  have hx0 : 0 ≤ x0 := by rw [hx]; exact Int.natCast_nonneg _
  have hy0 : 0 ≤ y0 := by rw [hy]; exact Int.natCast_nonneg _
  have a1 : x0 * N ≤ A := by rw [hx, ← Int.natCast_mul]; exact Int.ofNat_le.2 (Nat.div_mul_le_self A N)
  have a2 : (A : Int) ≤ (x0 + 1) * N := by
    have : A < (A / N + 1) * N := by have := Nat.lt_mul_div_succ A hN; rwa [Nat.mul_comm] at this
    have h3 : ((A : Nat) : Int) < (((A / N + 1) * N : Nat) : Int) := Int.ofNat_lt.2 this
    rw [Int.natCast_mul, Int.natCast_add, ← hx] at h3
    exact Int.le_of_lt h3
  have b1 : y0 * N ≤ B := by rw [hy, ← Int.natCast_mul]; exact Int.ofNat_le.2 (Nat.div_mul_le_self B N)
  have b2 : (B : Int) ≤ (y0 + 1) * N := by
    have : B < (B / N + 1) * N := by have := Nat.lt_mul_div_succ B hN; rwa [Nat.mul_comm] at this
    have h3 : ((B : Nat) : Int) < (((B / N + 1) * N : Nat) : Int) := Int.ofNat_lt.2 this
    rw [Int.natCast_mul, Int.natCast_add, ← hy] at h3
    exact Int.le_of_lt h3
  obtain ⟨L, hL⟩ : ∃ L : Int, L = A * (y0 + 1) - B * x0 := ⟨_, rfl⟩
  obtain ⟨M, hM⟩ : ∃ M : Int, M = B * (x0 + 1) - A * y0 := ⟨_, rfl⟩
  have hL0 : 0 ≤ L := by
    have c1 := Int.mul_le_mul_of_nonneg_right a1 (show 0 ≤ y0 + 1 by omega)
    have c2 := Int.mul_le_mul_of_nonneg_right b2 hx0
    have c3 : x0 * N * (y0 + 1) = (y0 + 1) * N * x0 := by grind
    rw [hL]; omega
  have hM0 : 0 ≤ M := by
    have c1 := Int.mul_le_mul_of_nonneg_right b1 (show 0 ≤ x0 + 1 by omega)
    have c2 := Int.mul_le_mul_of_nonneg_right a2 hy0
    have c3 : y0 * N * (x0 + 1) = (x0 + 1) * N * y0 := by grind
    rw [hM]; omega
  have hLM : L + M = A + B := by rw [hL, hM]; grind
  obtain ⟨D, hD⟩ : ∃ D : Int, D = x0 + y0 + 1 := ⟨_, rfl⟩
  have hD0 : 0 < D := by omega
  obtain ⟨P, hP⟩ : ∃ P : Int, P = m.a * x0 + m.b * y0 + m.a := ⟨_, rfl⟩
  obtain ⟨S, hS⟩ : ∃ S : Int, S = m.a * x0 + m.b * y0 + m.b := ⟨_, rfl⟩
  obtain ⟨R, hR⟩ : ∃ R : Int, R = m.c * x0 + m.d * y0 + m.c := ⟨_, rfl⟩
  obtain ⟨T, hT⟩ : ∃ T : Int, T = m.c * x0 + m.d * y0 + m.d := ⟨_, rfl⟩
  have i1 : D * m.x A B = L * P + M * S := by rw [hD, hL, hM, hP, hS]; simp only [Mx.x]; grind
  have i2 : D * m.y A B = L * R + M * T := by rw [hD, hL, hM, hR, hT]; simp only [Mx.y]; grind
  obtain ⟨k1, k2, k3, k4⟩ : R < P ∧ T < S ∧ P ≤ y0 ∧ S ≤ y0 + 1 := by
    rcases h.k with ⟨k1, k2, k3, k4⟩ | k
    · exact absurd k2 hb
    · rw [hP, hS, hR, hT]; exact k
  have hr := h.r
  have ht := h.t
  rw [← hR] at hr
  rw [← hT] at ht
  have j1 : 0 ≤ D * m.y A B := by rw [i2]; exact Int.add_nonneg (Int.mul_nonneg hL0 hr) (Int.mul_nonneg hM0 ht)
  have j2 : D * m.y A B < D * m.x A B := by
    rw [i1, i2]
    have c1 : L * (R + 1) ≤ L * P := Int.mul_le_mul_of_nonneg_left (by omega) hL0
    have c2 : M * (T + 1) ≤ M * S := Int.mul_le_mul_of_nonneg_left (by omega) hM0
    rw [Int.mul_add, Int.mul_one] at c1 c2
    omega
  have j3 : D * m.x A B ≤ D * B := by
    rw [i1]
    have c1 : L * P ≤ L * y0 := Int.mul_le_mul_of_nonneg_left k3 hL0
    have c2 : M * S ≤ M * (y0 + 1) := Int.mul_le_mul_of_nonneg_left k4 hM0
    have c3 : D * B = L * y0 + M * (y0 + 1) := by rw [hD, hL, hM]; grind
    omega
  exact ⟨Int.nonneg_of_mul_nonneg_right j1 hD0 |> fun h => h, Int.lt_of_mul_lt_mul_left j2 (Int.le_of_lt hD0), Int.le_of_mul_le_mul_left j3 hD0⟩
end Go.Proofs.YthcmoimlnhghcaaGreatDoor

/- Whole numbers, walked: Of, Sign, Cmp, Neg. -/
set_option linter.unusedVariables false
set_option linter.unusedSimpArgs false
namespace Go.Proofs.YthcmoimlnhghcaaGreatDoor
open Go.RowKit Go.Shelf
attribute [local go_sem] max2_i min2_i max_two min_two

theorem rd_two (W : World) (s a b : Nat) (h : W.heap[s]? = some (.cells #[.int .u32 (a : Nat), .int .u32 (b : Nat)] 65 (0, 0))) : Rd W (some ⟨s, 0, none⟩) [a, b] := by
  refine .inr ⟨_, rfl, fun i u hu => ?_⟩
  unfold World.cell?
  have e : (Addr.add ⟨s, 0, none⟩ i) = ⟨s, i, none⟩ := by simp only [Addr.add]; split <;> simp_all
  rw [e]
  simp only [h]
  match i, hu with
  | 0, hu => simpa [vals] using hu
  | 1, hu => simpa [vals] using hu
theorem two_limbs {n : Nat} (h : n < 18446744073709551616) : val [n % 4294967296, n / 4294967296] = n := by simp [val]; omega
theorem nof_c (n : Nat) (w : World) (hn : n < 18446744073709551616) :
    Calls Tryz.prog 103 #[.int .u64 (n : Nat)] w (RetN w n) := by
  obtain ⟨a, Ea⟩ : ∃ a, a = n % 4294967296 := ⟨_, rfl⟩
  obtain ⟨b, Eb⟩ : ∃ b, b = n / 4294967296 := ⟨_, rfl⟩
  have Ia : (n : Int) % 4294967296 = (a : Int) := by omega
  have Ib : (n : Int) / 4294967296 = (b : Int) := by omega
  have Ba : a < 4294967296 := by omega
  have Bb : b < 4294967296 := by omega
  have Jb : (b : Int) % 4294967296 = (b : Int) := by omega
  have ev : val [a, b] = n := by rw [Ea, Eb]; exact two_limbs hn
  replace ev := Lib.hid ev
  replace Ea := Lib.hid Ea
  replace Eb := Lib.hid Eb
  have hb0 : Below w.heap.size w (w.alloc (.cells #[.int .u32 (a : Nat), .int .u32 (b : Nat)] 65)) := (Below.refl _ _).alloc (Nat.le_refl _) _
  have hr := rd_two _ _ a b (heap_alloc_new w (.cells #[.int .u32 (a : Nat), .int .u32 (b : Nat)] 65))
  have C := make_c _ 2 2 [a, b] _ rfl hr (Lim.cons Ba (Lim.cons Bb Lim.nil)) (by decide) (Nat.le_refl _)
  rw [ev.out] at C
  replace C := Lib.hid C
  have HBT := hb0
  go_enter Tryz.func103, Tryz.ntmps103
  go_wp2_with (fail)
  refine C.out.mono ?_
  rintro e W1 ⟨X, cx, rfl, hX, hb1⟩
  replace HBT := Below.cons HBT hb1
  go_wp2_with (fail)
  go_ret
  exact ⟨X, cx, rfl, hX, HBT⟩
theorem ione_c (w : World) :
    Calls Tryz.prog 119 #[] w (RetN w 1) := by
  have b1 : Below w.heap.size w (w.alloc (.cells #[.int .u32 1] 65)) := (Below.refl _ _).alloc (Nat.le_refl _) _
  have h1 := nat_one _ _ (heap_alloc_new w (.cells #[.int .u32 1] 65))
  replace h1 := Lib.hid h1
  go_enter Tryz.func119, Tryz.ntmps119
  go_wp2_with (fail)
  go_ret
  exact ⟨some ⟨w.heap.size, 0, none⟩, 1, by rw [nl_one]; rfl, h1.out, b1⟩
theorem iof_c (n : Nat) (w : World) (hn : n < 9223372036854775808) :
    Calls Tryz.prog 82 #[.int .i64 (n : Nat)] w (RetI w n) := by
  have t1 : decide ((n : Int) < 0) = false := by simp
  have I1 : (n : Int) % 18446744073709551616 = (n : Int) := by omega
  obtain ⟨hb1, Rr⟩ := bx1 w #[.bool false, .slice none 0 0] 24
  have HBT := hb1
  clear hb1
  have qr0 := Rr.c (i := 0) rfl
  have qr1 := Rr.c (i := 1) rfl
  have W1' : IntKind.u64.wrap (n : Int) = (n : Int) := by simp [IntKind.wrap, IntKind.signed, IntKind.bits]; omega
  go_enter Tryz.func82, Tryz.ntmps82
  go_wp2_with (fail)
  obtain ⟨m, Em⟩ : ∃ zq : Nat, zq = n := ⟨_, rfl⟩
  have Bm : nl m ≤ 2 := by rw [Em]; exact nl_le.2 (Nat.lt_trans hn (by decide))
  refine (Calls.mono (R := RetN (w.alloc (.cells #[.bool false, .slice none 0 0] 24)) m) (by rw [Em]; exact (nof_c n _  (by omega))) ?_)
  replace Em := Lib.hid Em
  rintro e W2 ⟨Xm, cm, rfl, hm, hb2⟩
  replace Rr := Rr.below hb2
  replace qr0 := cbl hb2 qr0
  replace qr1 := cbl hb2 qr1
  replace HBT := Below.cons HBT hb2
  clear hb2
  go_wp2_with (fail)
  obtain ⟨z, Ez⟩ : ∃ zq : Int, zq = ival false m := ⟨_, rfl⟩
  refine (Calls.mono (R := RetI W2 z) (by rw [Ez]; exact (imake_c false Xm cm m _ hm (by omega))) ?_)
  replace Ez := Lib.hid Ez
  rintro e W3 ⟨Xz, cz, rfl, hz, hb3⟩
  replace Rr := Rr.below hb3
  replace qr0 := cbl hb3 qr0
  replace qr1 := cbl hb3 qr1
  replace hm := hm.below hb3
  replace HBT := Below.cons HBT hb3
  clear hb3
  have fr0 := Rr.f (i := 0)
  have fr1 := Rr.f (i := 1)
  go_wp2_with (fail)
  have RS := Rr.store2 (.bool (sg z)) (.slice Xz (nl (mg z)) cz)
  have e0 := RS.c (i := 0) rfl
  have e1 := RS.c (i := 1) rfl
  refine bodyPost_ret (v := .agg #[.bool (sg z), .slice Xz (nl (mg z)) cz]) (by simp [results, Tryz.results82, go_sem, e0, e1]) rfl ?_
  have hz : z = (n : Int) := by rw [Ez.out, Em.out]; rfl
  subst hz
  exact ⟨Xz, cz, rfl, (Rr.keep2 (nuB rfl) hz), (Below.store2 HBT (by first | exact Nat.le_refl _ | omega))⟩
/-- Which one is less. -/
def icmp (a b : Int) : Int := if a < b then -1 else if b < a then 1 else 0
theorem icmp_zero {a b : Int} : icmp a b = 0 ↔ a = b := by unfold icmp; split <;> (try split) <;> omega
theorem icmp_nn {a b : Int} (ha : 0 ≤ a) (hb : 0 ≤ b) : icmp a b = cmpN (mg a) (mg b) := by
  unfold icmp cmpN mg
  have h1 : (a < b) ↔ (a.natAbs < b.natAbs) := by omega
  have h2 : (b < a) ↔ (b.natAbs < a.natAbs) := by omega
  simp only [h1, h2]
theorem icmp_bb {a b : Int} (ha : a < 0) (hb : b < 0) : icmp a b = cmpN (mg b) (mg a) := by
  unfold icmp cmpN mg
  have h1 : (a < b) ↔ (b.natAbs < a.natAbs) := by omega
  have h2 : (b < a) ↔ (a.natAbs < b.natAbs) := by omega
  simp only [h1, h2]
theorem ineg_c (aA : Option Addr) (ac : Nat) (a : Int) (w : World) (ha : NatV w aA ac (mg a)) (la : nl (mg a) ≤ 1073741824) :
    Calls Tryz.prog 68 #[.agg #[.bool (sg a), .slice aA (nl (mg a)) ac]] w (RetI w (-a)) := by
  obtain ⟨n, En⟩ : ∃ n : Bool, n = !sg a := ⟨_, rfl⟩
  have In : (!sg a) = n := En.symm
  have hv : ival n (mg a) = -a := by rw [En]; unfold ival sg mg; by_cases h : a < 0 <;> simp [h] <;> omega
  replace En := Lib.hid En
  replace hv := Lib.hid hv
  obtain ⟨hb1, Ra, Rr⟩ := bx2 w #[.bool (sg a), .slice aA (nl (mg a)) ac] 24 #[.bool false, .slice none 0 0] 24
  replace ha := ha.below hb1
  have HBT := hb1
  clear hb1
  have qa0 := Ra.c (i := 0) rfl
  have qa1 := Ra.c (i := 1) rfl
  have qr0 := Rr.c (i := 0) rfl
  have qr1 := Rr.c (i := 1) rfl
  go_enter Tryz.func68, Tryz.ntmps68
  go_wp2_with (fail)
  obtain ⟨z, Ez⟩ : ∃ zq : Int, zq = ival n (mg a) := ⟨_, rfl⟩
  refine (Calls.mono (R := RetI ((w.alloc (.cells #[.bool (sg a), .slice aA (nl (mg a)) ac] 24)).alloc (.cells #[.bool false, .slice none 0 0] 24)) z) (by rw [Ez]; exact (imake_c n aA ac (mg a) _ ha (by omega))) ?_)
  replace Ez := Lib.hid Ez
  rintro e W2 ⟨Xz, cz, rfl, hz, hb2⟩
  replace ha := ha.below hb2
  replace Ra := Ra.below hb2
  replace qa0 := cbl hb2 qa0
  replace qa1 := cbl hb2 qa1
  replace Rr := Rr.below hb2
  replace qr0 := cbl hb2 qr0
  replace qr1 := cbl hb2 qr1
  replace HBT := Below.cons HBT hb2
  clear hb2
  have fr0 := Rr.f (i := 0)
  have fr1 := Rr.f (i := 1)
  go_wp2_with (fail)
  have hz : z = -a := by rw [Ez.out]; exact hv.out
  subst hz
  have RS := Rr.store2 (.bool (sg ((-a)))) (.slice Xz (nl (mg ((-a)))) cz)
  have e0 := RS.c (i := 0) rfl
  have e1 := RS.c (i := 1) rfl
  refine bodyPost_ret (v := .agg #[.bool (sg ((-a))), .slice Xz (nl (mg ((-a)))) cz]) (by simp [results, Tryz.results68, go_sem, e0, e1]) rfl ?_
  exact ⟨Xz, cz, rfl, (Rr.keep2 (nuB rfl) hz), (Below.store2 HBT (by first | exact Nat.le_refl _ | omega))⟩
end Go.Proofs.YthcmoimlnhghcaaGreatDoor

/- The document's whole numbers, walked: Make, Of, Cmp, Sign, Neg, Same, Made. -/
set_option linter.unusedVariables false
set_option linter.unusedSimpArgs false
namespace Go.Proofs.YthcmoimlnhghcaaGreatDoor
open Go.RowKit Go.Shelf
attribute [local go_sem] max2_i min2_i max_two min_two

theorem run_append_none {P : Program} {w : World} (base : Nat) (t ty e : TypeId) (i : TypeInfo) (size : Nat) (ht : P.underlying t = some (.slice e)) (hi : P.info? e = some i)
    (v : Value) (n : Nat) (xs : List Value) (hown : w.ownsRow base e size v n xs) (k : Nat) :
    (Builtin.append_ #[t, t] ty #[v, .slice none 0 k]).run P w = .ok v w := by
  rcases hown.2 with ⟨rfl, rfl⟩ | ⟨g, cap, cur, rfl, _, _, hnc, _⟩
  · simp [Builtin.append_, run_underlying ht, sizeOf, typeInfo, hi, Builtin.lenOf, Builtin.firstCells]
  · simp [Builtin.append_, run_underlying ht, sizeOf, typeInfo, hi, Builtin.lenOf, Builtin.firstCells, hnc, storeCells]
theorem wpList_append_none {P : Program} {w : World} {ops : Array Oper} {rest : List Oper} {o : Oper} {a : Act} {Q : Exit → Act → World → Prop} (hgd : o.guard = none) (s x : Operand) (t : TypeId)
    (ho : o.op = .call { callee := .builtin .append, args := #[s, x], argTypes := #[t, t] })
    (base : Nat) (e : TypeId) (i : TypeInfo) (size : Nat) (ht : P.underlying t = some (.slice e)) (hi : P.info? e = some i)
    (v : Value) (n : Nat) (xs : List Value) (hs : a.eval s = v) (hown : w.ownsRow base e size v n xs) (k : Nat) (hx : a.eval x = .slice none 0 k)
    (h : wpList P ops Q rest (a.put o.dst v) w) : wpList P ops Q (o :: rest) a w := by
  refine wpList_plain hgd fun K hK => ?_
  have hrun := run_append_none (P := P) (w := w) base t o.type e i size ht hi v n xs hown k
  unfold Oper.wp
  simp [execOp, ho, resolve, invoke, builtin, hs, hx, hrun, Result.andThen]
  exact hK _ _ h
theorem rmake_none (c : Nat) (w : World) :
    Calls Tryz.prog 84 #[.slice none 0 c] w (RetN w 0) := by
  obtain ⟨i0, hi, hz0, hz1, hz2⟩ := info_parts info_u32
  have hb1 : Below w.heap.size w (w.alloc (.cells #[] 65)) := (Below.refl _ _).alloc (Nat.le_refl _) _
  go_enter Tryz.func84, Tryz.ntmps84
  go_wp2_with (fail)
  go_loop [3] (fun v => v = .int .i64 0) (fun v => (intOf v).toNat)
  case atStart => rfl
  case round =>
    obtain rfl := hrel
    go_wp2_with (at_builtin; refine wpList_append_none rfl _ _ 22 rfl w.heap.size 65 i0 1 Tryz.underlying22 hi _ 0 [] rfl (World.ownsRow_lit w #[] 0 (Nat.le_refl _) (by decide) rfl) c rfl ?_)
    go_wp2
    go_ret
    exact ⟨some ⟨w.heap.size, 0, none⟩, 0, by rw [nl_zero]; rfl, ⟨by rw [limbs_zero]; exact .inl rfl, by rw [nl_zero]; exact Nat.le_refl _, by decide⟩, hb1⟩
theorem rmake_n (A : Option Addr) (c a : Nat) (w : World) (hA : NatV w A c a) (ha : nl a ≤ 1099511627776) :
    Calls Tryz.prog 84 #[.slice A (nl a) c] w (RetN w a) := by
  cases A with
  | some ad =>
    have := rmake_c (some ad) (nl a) c (limbs a) w rfl hA.rd (lim_limbs a) ha hA.cap (fun e => by cases e)
    rwa [val_limbs] at this
  | none =>
    have h0 : nl a = 0 := by
      rcases Nat.eq_zero_or_pos (nl a) with h | h
      · exact h
      · obtain ⟨ad, e, _⟩ := hA.rd.get 0 h; cases e
    have h1 : a = 0 := nl_eq_zero.1 h0
    subst h1
    rw [h0]
    exact rmake_none c w
theorem rof_c (n : Nat) (w : World) (hn : n < 18446744073709551616) :
    Calls Tryz.prog 111 #[.int .u64 (n : Nat)] w (RetN w n) := by
  obtain ⟨a, Ea⟩ : ∃ a, a = n % 4294967296 := ⟨_, rfl⟩
  obtain ⟨b, Eb⟩ : ∃ b, b = n / 4294967296 := ⟨_, rfl⟩
  have Ia : (n : Int) % 4294967296 = (a : Int) := by omega
  have Ib : (n : Int) / 4294967296 = (b : Int) := by omega
  have Ba : a < 4294967296 := by omega
  have Bb : b < 4294967296 := by omega
  have Ja : (a : Int) % 4294967296 = (a : Int) := by omega
  have Jb : (b : Int) % 4294967296 = (b : Int) := by omega
  have Ka : Int.tmod (n : Int) 4294967296 = (a : Int) := by rw [Int.tmod_eq_emod_of_nonneg (Int.natCast_nonneg n)]; exact Ia
  have Kb : Int.tdiv (n : Int) 4294967296 = (b : Int) := by rw [Int.tdiv_eq_ediv_of_nonneg (Int.natCast_nonneg n)]; exact Ib
  have ev : val [a, b] = n := by rw [Ea, Eb]; exact two_limbs hn
  replace ev := Lib.hid ev
  replace Ea := Lib.hid Ea
  replace Eb := Lib.hid Eb
  have hb0 : Below w.heap.size w (w.alloc (.cells #[.int .u32 (a : Nat), .int .u32 (b : Nat)] 65)) := (Below.refl _ _).alloc (Nat.le_refl _) _
  have hr := rd_two _ _ a b (heap_alloc_new w (.cells #[.int .u32 (a : Nat), .int .u32 (b : Nat)] 65))
  have C := rmake_c _ 2 2 [a, b] _ rfl hr (Lim.cons Ba (Lim.cons Bb Lim.nil)) (by decide) (Nat.le_refl _) (fun e => by cases e)
  rw [ev.out] at C
  replace C := Lib.hid C
  have HBT := hb0
  go_enter Tryz.func111, Tryz.ntmps111
  go_wp2_with (fail)
  refine C.out.mono ?_
  rintro e W1 ⟨X, cx, rfl, hX, hb1⟩
  replace HBT := Below.cons HBT hb1
  go_wp2_with (fail)
  go_ret
  exact ⟨X, cx, rfl, hX, HBT⟩
theorem rz_f (aA : Option Addr) (ac a : Nat) (z : Int) (w : World) (ha : NatV w aA ac a) (hl : nl a ≤ 1099511627776) (ez : mg z = a) (es : sg z = false) :
    Calls Tryz.prog 56 #[.bool false, .slice aA (nl a) ac] w (RetI w z) := by
  obtain ⟨sb, Esb⟩ : ∃ x, x = sg z := ⟨_, rfl⟩
  rw [← Esb] at es
  replace es := Lib.hid es
  replace Esb := Lib.hid Esb
  replace ez := Lib.hid ez
  obtain ⟨hb1, Rr⟩ := bx1 w #[.bool false, .slice none 0 0] 24
  replace ha := ha.below hb1
  have HBT := hb1
  clear hb1
  have qr0 := Rr.c (i := 0) rfl
  have qr1 := Rr.c (i := 1) rfl
  go_enter Tryz.func56, Tryz.ntmps56
  go_wp2_with (fail)
  refine (Calls.mono (rmake_n aA ac a _ ha hl) ?_)
  rintro e W2 ⟨X, cx, rfl, hX, hb2⟩
  replace ha := ha.below hb2
  replace Rr := Rr.below hb2
  replace qr0 := cbl hb2 qr0
  replace qr1 := cbl hb2 qr1
  replace HBT := Below.cons HBT hb2
  clear hb2
  have fzr0 := Rr.f (i := 0)
  have fzr1 := Rr.f (i := 1)
  go_wp2_with (fail)
  have RS := Rr.store2 (.bool false) (.slice X (nl a) cx)
  have e0 := RS.c (i := 0) rfl
  have e1 := RS.c (i := 1) rfl
  refine bodyPost_ret (v := .agg #[.bool false, .slice X (nl a) cx]) (by simp [results, Tryz.results56, go_sem, e0, e1]) rfl ?_
  exact ⟨X, cx, by rw [ez.out, ← Esb.out, es.out], by rw [ez.out]; exact Rr.keep2 (nuB rfl) hX, Below.store2 HBT (by first | exact Nat.le_refl _ | omega)⟩
theorem rz_t (aA : Option Addr) (ac a : Nat) (z : Int) (w : World) (ha : NatV w aA ac a) (hl : nl a ≤ 1099511627776) (ez : mg z = a) (es : sg z = decide (0 < nl a)) :
    Calls Tryz.prog 56 #[.bool true, .slice aA (nl a) ac] w (RetI w z) := by
  obtain ⟨sb, Esb⟩ : ∃ x, x = sg z := ⟨_, rfl⟩
  rw [← Esb] at es
  have t1 : decide (0 < nl a) = sb := es.symm
  have t2 : decide ((0 : Int) < (nl a : Int)) = sb := by rw [es, decide_eq_decide]; omega
  replace es := Lib.hid es
  replace Esb := Lib.hid Esb
  replace ez := Lib.hid ez
  obtain ⟨hb1, Rr⟩ := bx1 w #[.bool false, .slice none 0 0] 24
  replace ha := ha.below hb1
  have HBT := hb1
  clear hb1
  have qr0 := Rr.c (i := 0) rfl
  have qr1 := Rr.c (i := 1) rfl
  go_enter Tryz.func56, Tryz.ntmps56
  go_wp2_with (fail)
  refine (Calls.mono (rmake_n aA ac a _ ha hl) ?_)
  rintro e W2 ⟨X, cx, rfl, hX, hb2⟩
  replace ha := ha.below hb2
  replace Rr := Rr.below hb2
  replace qr0 := cbl hb2 qr0
  replace qr1 := cbl hb2 qr1
  replace HBT := Below.cons HBT hb2
  clear hb2
  have fzr0 := Rr.f (i := 0)
  have fzr1 := Rr.f (i := 1)
  go_wp2_with (fail)
  have RS := Rr.store2 (.bool sb) (.slice X (nl a) cx)
  have e0 := RS.c (i := 0) rfl
  have e1 := RS.c (i := 1) rfl
  refine bodyPost_ret (v := .agg #[.bool sb, .slice X (nl a) cx]) (by simp [results, Tryz.results56, go_sem, e0, e1]) rfl ?_
  exact ⟨X, cx, by rw [ez.out, ← Esb.out], by rw [ez.out]; exact Rr.keep2 (nuB rfl) hX, Below.store2 HBT (by first | exact Nat.le_refl _ | omega)⟩
theorem rz_c (s : Bool) (aA : Option Addr) (ac a : Nat) (w : World) (ha : NatV w aA ac a) (hl : nl a ≤ 1099511627776) :
    Calls Tryz.prog 56 #[.bool s, .slice aA (nl a) ac] w (RetI w (ival s a)) := by
  cases s
  · exact rz_f aA ac a _ w ha hl (mg_ival _ _) (sg_ival_f a)
  · exact rz_t aA ac a _ w ha hl (mg_ival _ _) (sg_ival_t a)
theorem zof_nn (n : Nat) (w : World) (hn : n < 9223372036854775808) :
    Calls Tryz.prog 51 #[.int .i64 (n : Nat)] w (RetI w n) := by
  have t1 : decide ((n : Int) < 0) = false := by simp
  have I1 : (n : Int) % 18446744073709551616 = (n : Int) := by omega
  have W1' : IntKind.u64.wrap (n : Int) = (n : Int) := by simp [IntKind.wrap, IntKind.signed, IntKind.bits]; omega
  obtain ⟨hb1, Rr⟩ := bx1 w #[.bool false, .slice none 0 0] 24
  have HBT := hb1
  clear hb1
  have qr0 := Rr.c (i := 0) rfl
  have qr1 := Rr.c (i := 1) rfl
  go_enter Tryz.func51, Tryz.ntmps51
  go_wp2_with (fail)
  obtain ⟨m, Em⟩ : ∃ zq : Nat, zq = n := ⟨_, rfl⟩
  have Bm : nl m ≤ 2 := by rw [Em]; exact nl_le.2 (Nat.lt_trans hn (by decide))
  refine (Calls.mono (R := RetN (w.alloc (.cells #[.bool false, .slice none 0 0] 24)) m) (by rw [Em]; with_reducible exact (rof_c n _  (by omega))) ?_)
  replace Em := Lib.hid Em
  rintro e W2 ⟨Xm, cm, rfl, hm, hb2⟩
  replace Rr := Rr.below hb2
  replace qr0 := cbl hb2 qr0
  replace qr1 := cbl hb2 qr1
  replace HBT := Below.cons HBT hb2
  clear hb2
  go_wp2_with (fail)
  obtain ⟨z, Ez⟩ : ∃ zq : Int, zq = ival false m := ⟨_, rfl⟩
  refine (Calls.mono (R := RetI W2 z) (by rw [Ez]; with_reducible exact (rz_c false Xm cm m _ hm (by omega))) ?_)
  replace Ez := Lib.hid Ez
  rintro e W3 ⟨Xz, cz, rfl, hz, hb3⟩
  replace Rr := Rr.below hb3
  replace qr0 := cbl hb3 qr0
  replace qr1 := cbl hb3 qr1
  replace hm := hm.below hb3
  replace HBT := Below.cons HBT hb3
  clear hb3
  have fzr0 := Rr.f (i := 0)
  have fzr1 := Rr.f (i := 1)
  go_wp2_with (fail)
  have hzz : z = (n : Int) := by rw [Ez.out, Em.out]; rfl
  subst hzz
  have RS := Rr.store2 (.bool (sg (((n : Int))))) (.slice Xz (nl (mg (((n : Int))))) cz)
  have e0 := RS.c (i := 0) rfl
  have e1 := RS.c (i := 1) rfl
  refine bodyPost_ret (v := .agg #[.bool (sg (((n : Int)))), .slice Xz (nl (mg (((n : Int))))) cz]) (by simp [results, Tryz.results51, go_sem, e0, e1]) rfl ?_
  exact ⟨Xz, cz, rfl, (Rr.keep2 (nuB rfl) hz), (Below.store2 HBT (by first | exact Nat.le_refl _ | omega))⟩
theorem zof_neg (n : Nat) (w : World) (hn : n ≤ 9223372036854775808) (h0 : 0 < n) :
    Calls Tryz.prog 51 #[.int .i64 (-(n : Int))] w (RetI w (-(n : Int))) := by
  have t1 : decide (-(n : Int) < 0) = true := by simp; omega
  have t1b : decide (0 < n) = true := by simp; exact h0
  have I1 : (-(n : Int)) % 18446744073709551616 = 18446744073709551616 - (n : Int) := by omega
  have W1' : IntKind.u64.wrap (-(n : Int)) = 18446744073709551616 - (n : Int) := by simp [IntKind.wrap, IntKind.signed, IntKind.bits]; omega
  have W2' : IntKind.u64.wrap (-(18446744073709551616 - (n : Int))) = (n : Int) := by simp [IntKind.wrap, IntKind.signed, IntKind.bits]; omega
  have I2 : (-(18446744073709551616 - (n : Int))) % 18446744073709551616 = (n : Int) := by omega
  have I3 : ((n : Int) - 18446744073709551616) % 18446744073709551616 = (n : Int) := by omega
  obtain ⟨hb1, Rr⟩ := bx1 w #[.bool false, .slice none 0 0] 24
  have HBT := hb1
  clear hb1
  have qr0 := Rr.c (i := 0) rfl
  have qr1 := Rr.c (i := 1) rfl
  go_enter Tryz.func51, Tryz.ntmps51
  go_wp2_with (fail)
  obtain ⟨m, Em⟩ : ∃ zq : Nat, zq = n := ⟨_, rfl⟩
  have Bm : nl m ≤ 2 := by rw [Em]; exact nl_le.2 (Nat.lt_of_le_of_lt hn (by decide))
  refine (Calls.mono (R := RetN (w.alloc (.cells #[.bool false, .slice none 0 0] 24)) m) (by rw [Em]; with_reducible exact (rof_c n _  (by omega))) ?_)
  replace Em := Lib.hid Em
  rintro e W2 ⟨Xm, cm, rfl, hm, hb2⟩
  replace Rr := Rr.below hb2
  replace qr0 := cbl hb2 qr0
  replace qr1 := cbl hb2 qr1
  replace HBT := Below.cons HBT hb2
  clear hb2
  go_wp2_with (fail)
  obtain ⟨z, Ez⟩ : ∃ zq : Int, zq = ival true m := ⟨_, rfl⟩
  refine (Calls.mono (R := RetI W2 z) (by rw [Ez]; with_reducible exact (rz_c true Xm cm m _ hm (by omega))) ?_)
  replace Ez := Lib.hid Ez
  rintro e W3 ⟨Xz, cz, rfl, hz, hb3⟩
  replace Rr := Rr.below hb3
  replace qr0 := cbl hb3 qr0
  replace qr1 := cbl hb3 qr1
  replace hm := hm.below hb3
  replace HBT := Below.cons HBT hb3
  clear hb3
  have fzr0 := Rr.f (i := 0)
  have fzr1 := Rr.f (i := 1)
  go_wp2_with (fail)
  have hzz : z = (-(n : Int)) := by rw [Ez.out, Em.out]; rfl
  subst hzz
  have RS := Rr.store2 (.bool (sg (((-(n : Int)))))) (.slice Xz (nl (mg (((-(n : Int)))))) cz)
  have e0 := RS.c (i := 0) rfl
  have e1 := RS.c (i := 1) rfl
  refine bodyPost_ret (v := .agg #[.bool (sg (((-(n : Int))))), .slice Xz (nl (mg (((-(n : Int)))))) cz]) (by simp [results, Tryz.results51, go_sem, e0, e1]) rfl ?_
  exact ⟨Xz, cz, rfl, (Rr.keep2 (nuB rfl) hz), (Below.store2 HBT (by first | exact Nat.le_refl _ | omega))⟩
theorem zof_c (z : Int) (w : World) (h0 : -9223372036854775808 ≤ z) (h1 : z < 9223372036854775808) :
    Calls Tryz.prog 51 #[.int .i64 z] w (RetI w z) := by
  rcases Int.lt_or_le z 0 with h | h
  · obtain ⟨n, rfl⟩ := Int.exists_eq_neg_ofNat (show z ≤ 0 by omega)
    exact zof_neg n w (by omega) (by omega)
  · obtain ⟨n, rfl⟩ := Int.eq_ofNat_of_zero_le h
    exact zof_nn n w (by omega)
theorem zcmp_c (aA : Option Addr) (ac : Nat) (a : Int) (bA : Option Addr) (bc : Nat) (b : Int) (w : World) (ha : NatV w aA ac (mg a)) (hb : NatV w bA bc (mg b)) (la : nl (mg a) ≤ 1073741824) (lb : nl (mg b) ≤ 1073741824) :
    Calls Tryz.prog 97 #[.agg #[.bool (sg a), .slice aA (nl (mg a)) ac], .agg #[.bool (sg b), .slice bA (nl (mg b)) bc]] w fun e w' => e = .returned (.int .i64 (icmp a b)) ∧ Below w.heap.size w w' := by
  by_cases h1 : a < 0
  · by_cases h2 : b < 0
    · have ta : sg a = true := sg_t h1
      have tb : sg b = true := sg_t h2
      rw [icmp_bb h1 h2]
      obtain ⟨hb1, Ra, Rb⟩ := bx2 w #[.bool true, .slice aA (nl (mg a)) ac] 24 #[.bool true, .slice bA (nl (mg b)) bc] 24
      replace ha := ha.below hb1
      replace hb := hb.below hb1
      have HBT := hb1
      clear hb1
      have qa0 := Ra.c (i := 0) rfl
      have qa1 := Ra.c (i := 1) rfl
      have qb0 := Rb.c (i := 0) rfl
      have qb1 := Rb.c (i := 1) rfl
      replace h1 := Lib.hid h1
      replace h2 := Lib.hid h2
      go_enter Tryz.func97, Tryz.ntmps97
      go_wp2_with (fail)
      refine (Calls.mono (rcmp_c bA bc (mg b) aA ac (mg a) _ hb ha (by omega) (by omega)) ?_)
      rintro e w' ⟨rfl, hw⟩
      subst hw
      go_wp2_with (fail)
      go_ret
      exact ⟨rfl, HBT⟩
    · have ta : sg a = true := sg_t h1
      have tb : sg b = false := sg_f (by omega)
      rw [show icmp a b = -1 by unfold icmp; rw [if_pos (by omega)]]
      obtain ⟨hb1, Ra, Rb⟩ := bx2 w #[.bool true, .slice aA (nl (mg a)) ac] 24 #[.bool false, .slice bA (nl (mg b)) bc] 24
      replace ha := ha.below hb1
      replace hb := hb.below hb1
      have HBT := hb1
      clear hb1
      have qa0 := Ra.c (i := 0) rfl
      have qa1 := Ra.c (i := 1) rfl
      have qb0 := Rb.c (i := 0) rfl
      have qb1 := Rb.c (i := 1) rfl
      replace h1 := Lib.hid h1
      replace h2 := Lib.hid h2
      go_enter Tryz.func97, Tryz.ntmps97
      go_wp2_with (fail)
      go_ret
      exact ⟨rfl, HBT⟩
  · by_cases h2 : b < 0
    · have ta : sg a = false := sg_f (by omega)
      have tb : sg b = true := sg_t h2
      rw [show icmp a b = 1 by unfold icmp; rw [if_neg (by omega), if_pos (by omega)]]
      obtain ⟨hb1, Ra, Rb⟩ := bx2 w #[.bool false, .slice aA (nl (mg a)) ac] 24 #[.bool true, .slice bA (nl (mg b)) bc] 24
      replace ha := ha.below hb1
      replace hb := hb.below hb1
      have HBT := hb1
      clear hb1
      have qa0 := Ra.c (i := 0) rfl
      have qa1 := Ra.c (i := 1) rfl
      have qb0 := Rb.c (i := 0) rfl
      have qb1 := Rb.c (i := 1) rfl
      replace h1 := Lib.hid h1
      replace h2 := Lib.hid h2
      go_enter Tryz.func97, Tryz.ntmps97
      go_wp2_with (fail)
      go_ret
      exact ⟨rfl, HBT⟩
    · have ta : sg a = false := sg_f (by omega)
      have tb : sg b = false := sg_f (by omega)
      rw [icmp_nn (by omega) (by omega)]
      obtain ⟨hb1, Ra, Rb⟩ := bx2 w #[.bool false, .slice aA (nl (mg a)) ac] 24 #[.bool false, .slice bA (nl (mg b)) bc] 24
      replace ha := ha.below hb1
      replace hb := hb.below hb1
      have HBT := hb1
      clear hb1
      have qa0 := Ra.c (i := 0) rfl
      have qa1 := Ra.c (i := 1) rfl
      have qb0 := Rb.c (i := 0) rfl
      have qb1 := Rb.c (i := 1) rfl
      replace h1 := Lib.hid h1
      replace h2 := Lib.hid h2
      go_enter Tryz.func97, Tryz.ntmps97
      go_wp2_with (fail)
      refine (Calls.mono (rcmp_c aA ac (mg a) bA bc (mg b) _ ha hb (by omega) (by omega)) ?_)
      rintro e w' ⟨rfl, hw⟩
      subst hw
      go_wp2_with (fail)
      go_ret
      exact ⟨rfl, HBT⟩
theorem zneg_c (aA : Option Addr) (ac : Nat) (a : Int) (w : World) (ha : NatV w aA ac (mg a)) (la : nl (mg a) ≤ 1073741824) :
    Calls Tryz.prog 69 #[.agg #[.bool (sg a), .slice aA (nl (mg a)) ac]] w (RetI w (-a)) := by
  obtain ⟨n, En⟩ : ∃ n : Bool, n = !sg a := ⟨_, rfl⟩
  have In : (!sg a) = n := En.symm
  have hv : ival n (mg a) = -a := by rw [En]; unfold ival sg mg; by_cases h : a < 0 <;> simp [h] <;> omega
  replace En := Lib.hid En
  replace hv := Lib.hid hv
  obtain ⟨hb1, Ra, Rr⟩ := bx2 w #[.bool (sg a), .slice aA (nl (mg a)) ac] 24 #[.bool false, .slice none 0 0] 24
  replace ha := ha.below hb1
  have HBT := hb1
  clear hb1
  have qa0 := Ra.c (i := 0) rfl
  have qa1 := Ra.c (i := 1) rfl
  have qr0 := Rr.c (i := 0) rfl
  have qr1 := Rr.c (i := 1) rfl
  go_enter Tryz.func69, Tryz.ntmps69
  go_wp2_with (fail)
  obtain ⟨z, Ez⟩ : ∃ zq : Int, zq = ival n (mg a) := ⟨_, rfl⟩
  refine (Calls.mono (R := RetI ((w.alloc (.cells #[.bool (sg a), .slice aA (nl (mg a)) ac] 24)).alloc (.cells #[.bool false, .slice none 0 0] 24)) z) (by rw [Ez]; with_reducible exact (rz_c n aA ac (mg a) _ ha (by omega))) ?_)
  replace Ez := Lib.hid Ez
  rintro e W2 ⟨Xz, cz, rfl, hz, hb2⟩
  replace ha := ha.below hb2
  replace Ra := Ra.below hb2
  replace qa0 := cbl hb2 qa0
  replace qa1 := cbl hb2 qa1
  replace Rr := Rr.below hb2
  replace qr0 := cbl hb2 qr0
  replace qr1 := cbl hb2 qr1
  replace HBT := Below.cons HBT hb2
  clear hb2
  have fzr0 := Rr.f (i := 0)
  have fzr1 := Rr.f (i := 1)
  go_wp2_with (fail)
  have hzz : z = (-a) := by rw [Ez.out]; exact hv.out
  subst hzz
  have RS := Rr.store2 (.bool (sg (((-a))))) (.slice Xz (nl (mg (((-a))))) cz)
  have e0 := RS.c (i := 0) rfl
  have e1 := RS.c (i := 1) rfl
  refine bodyPost_ret (v := .agg #[.bool (sg (((-a)))), .slice Xz (nl (mg (((-a))))) cz]) (by simp [results, Tryz.results69, go_sem, e0, e1]) rfl ?_
  exact ⟨Xz, cz, rfl, (Rr.keep2 (nuB rfl) hz), (Below.store2 HBT (by first | exact Nat.le_refl _ | omega))⟩
theorem zsame_y (aA : Option Addr) (ac : Nat) (a : Int) (bA : Option Addr) (bc : Nat) (b : Int) (w : World) (ha : NatV w aA ac (mg a)) (hb : NatV w bA bc (mg b)) (la : nl (mg a) ≤ 1073741824) (lb : nl (mg b) ≤ 1073741824) (h0 : a = b) :
    Calls Tryz.prog 42 #[.agg #[.bool (sg a), .slice aA (nl (mg a)) ac], .agg #[.bool (sg b), .slice bA (nl (mg b)) bc]] w (fun e w' => e = .returned (.bool true) ∧ Below w.heap.size w w') := by
  have ic : icmp a b = 0 := icmp_zero.2 h0
  have es : (sg a == sg b) = true := by rw [h0]; simp
  obtain ⟨ib, Eib⟩ : ∃ z, z = icmp a b := ⟨_, rfl⟩
  rw [← Eib] at ic
  have CC := fun W => zcmp_c aA ac a bA bc b W
  rw [← Eib] at CC
  replace CC := Lib.hid CC
  replace Eib := Lib.hid Eib
  replace h0 := Lib.hid h0
  obtain ⟨hb1, Ra, Rb⟩ := bx2 w #[.bool (sg a), .slice aA (nl (mg a)) ac] 24 #[.bool (sg b), .slice bA (nl (mg b)) bc] 24
  replace ha := ha.below hb1
  replace hb := hb.below hb1
  have HBT := hb1
  clear hb1
  have qa0 := Ra.c (i := 0) rfl
  have qa1 := Ra.c (i := 1) rfl
  have qb0 := Rb.c (i := 0) rfl
  have qb1 := Rb.c (i := 1) rfl
  go_enter Tryz.func42, Tryz.ntmps42
  go_wp2_with (fail)
  refine (Calls.mono (CC.out _ ha hb la lb) ?_)
  rintro e W2 ⟨rfl, hb2⟩
  replace ha := ha.below hb2
  replace hb := hb.below hb2
  replace Ra := Ra.below hb2
  replace qa0 := cbl hb2 qa0
  replace qa1 := cbl hb2 qa1
  replace Rb := Rb.below hb2
  replace qb0 := cbl hb2 qb0
  replace qb1 := cbl hb2 qb1
  replace HBT := Below.cons HBT hb2
  clear hb2
  go_wp2_with (fail)
  go_ret
  exact ⟨rfl, HBT⟩
theorem zsame_n (aA : Option Addr) (ac : Nat) (a : Int) (bA : Option Addr) (bc : Nat) (b : Int) (w : World) (ha : NatV w aA ac (mg a)) (hb : NatV w bA bc (mg b)) (la : nl (mg a) ≤ 1073741824) (lb : nl (mg b) ≤ 1073741824) (h0 : a ≠ b) :
    Calls Tryz.prog 42 #[.agg #[.bool (sg a), .slice aA (nl (mg a)) ac], .agg #[.bool (sg b), .slice bA (nl (mg b)) bc]] w (fun e w' => e = .returned (.bool false) ∧ Below w.heap.size w w') := by
  have ic : (icmp a b == 0) = false := by simp; exact fun e => h0 (icmp_zero.1 e)
  obtain ⟨ib, Eib⟩ : ∃ z, z = icmp a b := ⟨_, rfl⟩
  rw [← Eib] at ic
  have CC := fun W => zcmp_c aA ac a bA bc b W
  rw [← Eib] at CC
  replace CC := Lib.hid CC
  replace Eib := Lib.hid Eib
  replace h0 := Lib.hid h0
  obtain ⟨hb1, Ra, Rb⟩ := bx2 w #[.bool (sg a), .slice aA (nl (mg a)) ac] 24 #[.bool (sg b), .slice bA (nl (mg b)) bc] 24
  replace ha := ha.below hb1
  replace hb := hb.below hb1
  have HBT := hb1
  clear hb1
  have qa0 := Ra.c (i := 0) rfl
  have qa1 := Ra.c (i := 1) rfl
  have qb0 := Rb.c (i := 0) rfl
  have qb1 := Rb.c (i := 1) rfl
  go_enter Tryz.func42, Tryz.ntmps42
  go_wp2_with (fail)
  refine (Calls.mono (CC.out _ ha hb la lb) ?_)
  rintro e W2 ⟨rfl, hb2⟩
  replace ha := ha.below hb2
  replace hb := hb.below hb2
  replace Ra := Ra.below hb2
  replace qa0 := cbl hb2 qa0
  replace qa1 := cbl hb2 qa1
  replace Rb := Rb.below hb2
  replace qb0 := cbl hb2 qb0
  replace qb1 := cbl hb2 qb1
  replace HBT := Below.cons HBT hb2
  clear hb2
  go_wp2_with (fail)
  go_ret
  exact ⟨rfl, HBT⟩
theorem zsame_c (aA : Option Addr) (ac : Nat) (a : Int) (bA : Option Addr) (bc : Nat) (b : Int) (w : World) (ha : NatV w aA ac (mg a)) (hb : NatV w bA bc (mg b)) (la : nl (mg a) ≤ 1073741824) (lb : nl (mg b) ≤ 1073741824) :
    Calls Tryz.prog 42 #[.agg #[.bool (sg a), .slice aA (nl (mg a)) ac], .agg #[.bool (sg b), .slice bA (nl (mg b)) bc]] w fun e w' => e = .returned (.bool (decide (a = b))) ∧ Below w.heap.size w w' := by
  by_cases h : a = b
  · rw [decide_eq_true h]; exact zsame_y aA ac a bA bc b w ha hb la lb h
  · rw [decide_eq_false h]; exact zsame_n aA ac a bA bc b w ha hb la lb h
end Go.Proofs.YthcmoimlnhghcaaGreatDoor

/- Whole numbers, walked: Add. -/
set_option linter.unusedVariables false
set_option linter.unusedSimpArgs false
namespace Go.Proofs.YthcmoimlnhghcaaGreatDoor
open Go.RowKit Go.Shelf
attribute [local go_sem] max2_i min2_i max_two min_two

theorem BoxA.other2 {W : World} {j k : Nat} {t : TypeId} {us : Array Value} {v0 v1 : Value} (h : BoxA W j t us) (hne : j ≠ k) : BoxA ((W.setCell ⟨k, 0, none⟩ v0).setCell ⟨k, 1, none⟩ v1) j t us := ⟨(set2_far j hne).trans h.at_⟩
theorem ival_add {a b : Int} (h : sg a = sg b) : ival (sg a) (mg a + mg b) = a + b := by
  unfold sg at h; unfold ival sg mg
  simp only [decide_eq_decide] at h
  by_cases ha : a < 0
  · have := h.1 ha; simp [ha]; omega
  · have : ¬ b < 0 := fun e => ha (h.2 e); simp [ha]; omega
theorem ival_sub {a b : Int} (h : sg a ≠ sg b) (hl : mg b ≤ mg a) : ival (sg a) (mg a - mg b) = a + b := by
  unfold sg at h; unfold mg at hl; unfold ival sg mg
  by_cases ha : a < 0
  · have : ¬ b < 0 := fun e => h (by simp [ha, e]); simp [ha]; omega
  · have : b < 0 := Decidable.byContradiction fun e => h (by simp [ha, e]); simp [ha]; omega
theorem iadd_same (aA : Option Addr) (ac : Nat) (a : Int) (bA : Option Addr) (bc : Nat) (b : Int) (w : World) (ha : NatV w aA ac (mg a)) (hb : NatV w bA bc (mg b)) (la : nl (mg a) ≤ 1048576) (lb : nl (mg b) ≤ 1048576) (hs : sg a = sg b) :
    Calls Tryz.prog 72 #[.agg #[.bool (sg a), .slice aA (nl (mg a)) ac], .agg #[.bool (sg b), .slice bA (nl (mg b)) bc]] w (RetI w (a + b)) := by
  have t1 : (sg a == sg b) = true := beq_iff_eq.mpr hs
  have hv := ival_add hs
  replace hv := Lib.hid hv
  replace hs := Lib.hid hs
  have hb1 : Below (w).heap.size (w) (((w.alloc (.cells #[.bool (sg a), .slice aA (nl (mg a)) ac] 24)).alloc (.cells #[.bool (sg b), .slice bA (nl (mg b)) bc] 24)).alloc (.cells #[.bool false, .slice none 0 0] 24)) := (Below.alloc (Below.alloc (Below.alloc (Below.refl _ _) (Nat.le_refl _) _) (by simp <;> omega) _) (by simp <;> omega) _)
  replace ha := ha.below hb1
  replace hb := hb.below hb1
  have HBT := hb1
  clear hb1
  have Ra : BoxA (((w.alloc (.cells #[.bool (sg a), .slice aA (nl (mg a)) ac] 24)).alloc (.cells #[.bool (sg b), .slice bA (nl (mg b)) bc] 24)).alloc (.cells #[.bool false, .slice none 0 0] 24)) w.heap.size 24 #[.bool (sg a), .slice aA (nl (mg a)) ac] := ⟨by repeat (first | exact at_new (by simp) | refine at_old (by simp <;> omega) ?_)⟩
  have qa0 := Ra.c (i := 0) rfl
  have qa1 := Ra.c (i := 1) rfl
  have Rb : BoxA (((w.alloc (.cells #[.bool (sg a), .slice aA (nl (mg a)) ac] 24)).alloc (.cells #[.bool (sg b), .slice bA (nl (mg b)) bc] 24)).alloc (.cells #[.bool false, .slice none 0 0] 24)) (w.heap.size + 1) 24 #[.bool (sg b), .slice bA (nl (mg b)) bc] := ⟨by repeat (first | exact at_new (by simp) | refine at_old (by simp <;> omega) ?_)⟩
  have qb0 := Rb.c (i := 0) rfl
  have qb1 := Rb.c (i := 1) rfl
  have Rr : BoxA (((w.alloc (.cells #[.bool (sg a), .slice aA (nl (mg a)) ac] 24)).alloc (.cells #[.bool (sg b), .slice bA (nl (mg b)) bc] 24)).alloc (.cells #[.bool false, .slice none 0 0] 24)) (w.heap.size + 2) 24 #[.bool false, .slice none 0 0] := ⟨by repeat (first | exact at_new (by simp) | refine at_old (by simp <;> omega) ?_)⟩
  have qr0 := Rr.c (i := 0) rfl
  have qr1 := Rr.c (i := 1) rfl
  go_enter Tryz.func72, Tryz.ntmps72
  go_wp2_with (fail)
  have hd2 := drb ((((w.alloc (.cells #[.bool (sg a), .slice aA (nl (mg a)) ac] 24)).alloc (.cells #[.bool (sg b), .slice bA (nl (mg b)) bc] 24)).alloc (.cells #[.bool false, .slice none 0 0] 24)))
  replace ha := ha.below hd2
  replace hb := hb.below hd2
  replace Ra := Ra.below hd2
  replace qa0 := cbl hd2 qa0
  replace qa1 := cbl hd2 qa1
  replace Rb := Rb.below hd2
  replace qb0 := cbl hd2 qb0
  replace qb1 := cbl hd2 qb1
  replace Rr := Rr.below hd2
  replace qr0 := cbl hd2 qr0
  replace qr1 := cbl hd2 qr1
  replace HBT := Below.cons HBT hd2
  clear hd2
  obtain ⟨n, En⟩ : ∃ zq : Nat, zq = mg a + mg b := ⟨_, rfl⟩
  have Bn : nl n ≤ 2097154 := by rw [En]; have := nl_add (mg a) (mg b); omega
  have C2_0 := fun (W : World) (h1 : NatV W aA ac (mg a)) (h2 : NatV W bA bc (mg b)) => add_c aA ac (mg a) bA bc (mg b) W h1 h2 (by omega) (by omega)
  simp only [← En] at C2_0
  replace En := Lib.hid En
  replace C2_0 := Lib.hid C2_0
  obtain ⟨z, Ez⟩ : ∃ zq : Int, zq = ival (sg a) n := ⟨_, rfl⟩
  have C2_1 := fun (W : World) (A : Option Addr) (c : Nat) (h1 : NatV W A c n) => imake_c (sg a) A c n W h1 (by omega)
  simp only [← Ez] at C2_1
  replace Ez := Lib.hid Ez
  replace C2_1 := Lib.hid C2_1
  go_region_held3 (fun W => W.cell? ⟨w.heap.size, 0, none⟩ = some (.bool (sg a)) ∧ W.cell? ⟨w.heap.size, 1, none⟩ = some (.slice aA (nl (mg a)) ac) ∧ W.cell? ⟨(w.heap.size + 1), 1, none⟩ = some (.slice bA (nl (mg b)) bc))
    (first
      | exact ⟨qa0, qa1, qb1⟩
      | exact ⟨qa0_3, qa1_3, qb1_3⟩
      | exact ⟨qa0_4, qa1_4, qb1_4⟩
      | exact ⟨((Ra_4.other2 (by simp <;> omega)).c (i := 0) rfl), ((Ra_4.other2 (by simp <;> omega)).c (i := 1) rfl), ((Rb_4.other2 (by simp <;> omega)).c (i := 1) rfl)⟩
      | go_keep)
    (first
      | (go_at_call 118; (with_reducible refine (C2_0.out _ ha hb).mono ?_); rintro e W3 ⟨Xn, cn, rfl, hn, hb3⟩; have ha_3 := ha.below hb3; have hb_3 := hb.below hb3; have Ra_3 := Ra.below hb3; have qa0_3 := cbl hb3 qa0; have qa1_3 := cbl hb3 qa1; have Rb_3 := Rb.below hb3; have qb0_3 := cbl hb3 qb0; have qb1_3 := cbl hb3 qb1; have Rr_3 := Rr.below hb3; have qr0_3 := cbl hb3 qr0; have qr1_3 := cbl hb3 qr1; have HBT_3 := Below.cons HBT hb3)
      | (go_at_call 58; (with_reducible refine (C2_1.out _ _ _ hn).mono ?_); rintro e W4 ⟨Xz, cz, rfl, hz, hb4⟩; have ha_4 := ha_3.below hb4; have hb_4 := hb_3.below hb4; have Ra_4 := Ra_3.below hb4; have qa0_4 := cbl hb4 qa0_3; have qa1_4 := cbl hb4 qa1_3; have Rb_4 := Rb_3.below hb4; have qb0_4 := cbl hb4 qb0_3; have qb1_4 := cbl hb4 qb1_3; have Rr_4 := Rr_3.below hb4; have qr0_4 := cbl hb4 qr0_3; have qr1_4 := cbl hb4 qr1_3; have hn_4 := hn.below hb4; have HBT_4 := Below.cons HBT_3 hb4; have fz0 := Rr_4.f (i := 0); have fz1 := Rr_4.f (i := 1)))
  all_goals (try go_wp2_with (fail))
  have hz : z = a + b := by rw [Ez.out, En.out]; exact hv.out
  subst hz
  have RS := Rr_4.store2 (.bool (sg ((a + b)))) (.slice Xz (nl (mg ((a + b)))) cz)
  have e0 := RS.c (i := 0) rfl
  have e1 := RS.c (i := 1) rfl
  refine bodyPost_ret (v := .agg #[.bool (sg ((a + b))), .slice Xz (nl (mg ((a + b)))) cz]) (by simp [results, Tryz.results72, go_sem, e0, e1]) rfl ?_
  exact ⟨Xz, cz, rfl, (Rr_4.keep2 (nuB rfl) hz), (Below.store2 HBT_4 (by first | exact Nat.le_refl _ | omega))⟩
theorem iadd_apart (aA : Option Addr) (ac : Nat) (a : Int) (bA : Option Addr) (bc : Nat) (b : Int) (w : World) (ha : NatV w aA ac (mg a)) (hb : NatV w bA bc (mg b)) (la : nl (mg a) ≤ 1048576) (lb : nl (mg b) ≤ 1048576) (hs : sg a ≠ sg b) :
    Calls Tryz.prog 72 #[.agg #[.bool (sg a), .slice aA (nl (mg a)) ac], .agg #[.bool (sg b), .slice bA (nl (mg b)) bc]] w (RetI w (a + b)) := by
  have t1 : (sg a == sg b) = false := beq_eq_false_iff_ne.mpr hs
  have hb1 : Below (w).heap.size (w) (((w.alloc (.cells #[.bool (sg a), .slice aA (nl (mg a)) ac] 24)).alloc (.cells #[.bool (sg b), .slice bA (nl (mg b)) bc] 24)).alloc (.cells #[.bool false, .slice none 0 0] 24)) := (Below.alloc (Below.alloc (Below.alloc (Below.refl _ _) (Nat.le_refl _) _) (by simp <;> omega) _) (by simp <;> omega) _)
  replace ha := ha.below hb1
  replace hb := hb.below hb1
  have HBT := hb1
  clear hb1
  have Ra : BoxA (((w.alloc (.cells #[.bool (sg a), .slice aA (nl (mg a)) ac] 24)).alloc (.cells #[.bool (sg b), .slice bA (nl (mg b)) bc] 24)).alloc (.cells #[.bool false, .slice none 0 0] 24)) w.heap.size 24 #[.bool (sg a), .slice aA (nl (mg a)) ac] := ⟨by repeat (first | exact at_new (by simp) | refine at_old (by simp <;> omega) ?_)⟩
  have qa0 := Ra.c (i := 0) rfl
  have qa1 := Ra.c (i := 1) rfl
  have Rb : BoxA (((w.alloc (.cells #[.bool (sg a), .slice aA (nl (mg a)) ac] 24)).alloc (.cells #[.bool (sg b), .slice bA (nl (mg b)) bc] 24)).alloc (.cells #[.bool false, .slice none 0 0] 24)) (w.heap.size + 1) 24 #[.bool (sg b), .slice bA (nl (mg b)) bc] := ⟨by repeat (first | exact at_new (by simp) | refine at_old (by simp <;> omega) ?_)⟩
  have qb0 := Rb.c (i := 0) rfl
  have qb1 := Rb.c (i := 1) rfl
  have Rr : BoxA (((w.alloc (.cells #[.bool (sg a), .slice aA (nl (mg a)) ac] 24)).alloc (.cells #[.bool (sg b), .slice bA (nl (mg b)) bc] 24)).alloc (.cells #[.bool false, .slice none 0 0] 24)) (w.heap.size + 2) 24 #[.bool false, .slice none 0 0] := ⟨by repeat (first | exact at_new (by simp) | refine at_old (by simp <;> omega) ?_)⟩
  have qr0 := Rr.c (i := 0) rfl
  have qr1 := Rr.c (i := 1) rfl
  go_enter Tryz.func72, Tryz.ntmps72
  go_wp2_with (fail)
  refine (Calls.mono (cmp_c aA ac (mg a) bA bc (mg b) _ ha hb (by omega) (by omega)) ?_)
  rintro e W2 ⟨rfl, hb2⟩
  replace ha := ha.below hb2
  replace hb := hb.below hb2
  replace Ra := Ra.below hb2
  replace qa0 := cbl hb2 qa0
  replace qa1 := cbl hb2 qa1
  replace Rb := Rb.below hb2
  replace qb0 := cbl hb2 qb0
  replace qb1 := cbl hb2 qb1
  replace Rr := Rr.below hb2
  replace qr0 := cbl hb2 qr0
  replace qr1 := cbl hb2 qr1
  replace HBT := Below.cons HBT hb2
  clear hb2
  by_cases hl : mg a < mg b
  · have t2 : decide (cmpN (mg a) (mg b) < 0) = true := by rw [decide_eq_true_eq, cmpN_neg]; exact hl
    have hle : mg a ≤ mg b := Nat.le_of_lt hl
    have hv := ival_sub (fun e => hs e.symm) hle
    replace hv := Lib.hid hv
    replace hl := Lib.hid hl
    have fa0_3 := Ra.f (i := 0)
    have fa1_3 := Ra.f (i := 1)
    have Ra_3 := Ra.store2 (.bool (sg b)) (.slice bA (nl (mg b)) bc)
    have Rb_3 : BoxA ((W2.setCell ⟨w.heap.size, 0, none⟩ (.bool (sg b))).setCell ⟨w.heap.size, 1, none⟩ (.slice bA (nl (mg b)) bc)) _ _ _ := Rb.other2 (by simp <;> omega)
    have Rr_3 : BoxA ((W2.setCell ⟨w.heap.size, 0, none⟩ (.bool (sg b))).setCell ⟨w.heap.size, 1, none⟩ (.slice bA (nl (mg b)) bc)) _ _ _ := Rr.other2 (by simp <;> omega)
    have ha_3 := Ra.keep2 (v0 := .bool (sg b)) (v1 := .slice bA (nl (mg b)) bc) (nuB rfl) ha
    have hb_3 := Ra.keep2 (v0 := .bool (sg b)) (v1 := .slice bA (nl (mg b)) bc) (nuB rfl) hb
    have qa0_3 := Ra_3.c (i := 0) rfl
    have qa1_3 := Ra_3.c (i := 1) rfl
    have qb0_3 := Rb_3.c (i := 0) rfl
    have qb1_3 := Rb_3.c (i := 1) rfl
    have qr0_3 := Rr_3.c (i := 0) rfl
    have qr1_3 := Rr_3.c (i := 1) rfl
    have HBT_3 := Below.store2 (v0 := .bool (sg b)) (v1 := .slice bA (nl (mg b)) bc) HBT (k := w.heap.size) (by first | exact Nat.le_refl _ | omega)
    have fb0_4 := Rb_3.f (i := 0)
    have fb1_4 := Rb_3.f (i := 1)
    have Ra_4 : BoxA ((((W2.setCell ⟨w.heap.size, 0, none⟩ (.bool (sg b))).setCell ⟨w.heap.size, 1, none⟩ (.slice bA (nl (mg b)) bc)).setCell ⟨(w.heap.size + 1), 0, none⟩ (.bool (sg a))).setCell ⟨(w.heap.size + 1), 1, none⟩ (.slice aA (nl (mg a)) ac)) _ _ _ := Ra_3.other2 (by simp <;> omega)
    have Rb_4 := Rb_3.store2 (.bool (sg a)) (.slice aA (nl (mg a)) ac)
    have Rr_4 : BoxA ((((W2.setCell ⟨w.heap.size, 0, none⟩ (.bool (sg b))).setCell ⟨w.heap.size, 1, none⟩ (.slice bA (nl (mg b)) bc)).setCell ⟨(w.heap.size + 1), 0, none⟩ (.bool (sg a))).setCell ⟨(w.heap.size + 1), 1, none⟩ (.slice aA (nl (mg a)) ac)) _ _ _ := Rr_3.other2 (by simp <;> omega)
    have ha_4 := Rb_3.keep2 (v0 := .bool (sg a)) (v1 := .slice aA (nl (mg a)) ac) (nuB rfl) ha_3
    have hb_4 := Rb_3.keep2 (v0 := .bool (sg a)) (v1 := .slice aA (nl (mg a)) ac) (nuB rfl) hb_3
    have qa0_4 := Ra_4.c (i := 0) rfl
    have qa1_4 := Ra_4.c (i := 1) rfl
    have qb0_4 := Rb_4.c (i := 0) rfl
    have qb1_4 := Rb_4.c (i := 1) rfl
    have qr0_4 := Rr_4.c (i := 0) rfl
    have qr1_4 := Rr_4.c (i := 1) rfl
    have HBT_4 := Below.store2 (v0 := .bool (sg a)) (v1 := .slice aA (nl (mg a)) ac) HBT_3 (k := (w.heap.size + 1)) (by first | exact Nat.le_refl _ | omega)
    go_wp2_with (fail)
    clear fa0_3 fa1_3 Ra Rb Rr ha hb qa0 qa1 qb0 qb1 qr0 qr1 HBT fb0_4 fb1_4 Ra_3 Rb_3 Rr_3 ha_3 hb_3 qa0_3 qa1_3 qb0_3 qb1_3 qr0_3 qr1_3 HBT_3
    obtain ⟨n, En⟩ : ∃ zq : Nat, zq = mg b - mg a := ⟨_, rfl⟩
    have Bn : nl n ≤ 1048576 := by rw [En]; have := nl_sub (mg b) (mg a); omega
    have CS := sub_c bA bc (mg b) aA ac (mg a) _ hb_4 ha_4 (by omega) (by omega) hle
    rw [← En] at CS
    replace En := Lib.hid En
    refine (Calls.mono CS ?_)
    rintro e W5 ⟨Xn, cn, rfl, hn, hb5⟩
    clear CS
    replace Ra_4 := Ra_4.below hb5
    replace Rb_4 := Rb_4.below hb5
    replace Rr_4 := Rr_4.below hb5
    replace ha_4 := ha_4.below hb5
    replace hb_4 := hb_4.below hb5
    replace qa0_4 := cbl hb5 qa0_4
    replace qa1_4 := cbl hb5 qa1_4
    replace qb0_4 := cbl hb5 qb0_4
    replace qb1_4 := cbl hb5 qb1_4
    replace qr0_4 := cbl hb5 qr0_4
    replace qr1_4 := cbl hb5 qr1_4
    have HBT := Below.cons HBT_4 hb5
    clear hb5
    go_wp2_with (fail)
    obtain ⟨z, Ez⟩ : ∃ zq : Int, zq = ival (sg b) n := ⟨_, rfl⟩
    refine (Calls.mono (R := RetI W5 z) (by rw [Ez]; exact (imake_c (sg b) Xn cn n _ hn (by omega))) ?_)
    replace Ez := Lib.hid Ez
    rintro e W6 ⟨Xz, cz, rfl, hz, hb6⟩
    replace Ra_4 := Ra_4.below hb6
    replace Rb_4 := Rb_4.below hb6
    replace Rr_4 := Rr_4.below hb6
    replace ha_4 := ha_4.below hb6
    replace hb_4 := hb_4.below hb6
    replace qa0_4 := cbl hb6 qa0_4
    replace qa1_4 := cbl hb6 qa1_4
    replace qb0_4 := cbl hb6 qb0_4
    replace qb1_4 := cbl hb6 qb1_4
    replace qr0_4 := cbl hb6 qr0_4
    replace qr1_4 := cbl hb6 qr1_4
    replace hn := hn.below hb6
    replace HBT := Below.cons HBT hb6
    clear hb6
    have fz0 := Rr_4.f (i := 0)
    have fz1 := Rr_4.f (i := 1)
    go_wp2_with (fail)
    have hz : z = a + b := by rw [Ez.out, En.out]; exact hv.out.trans (Int.add_comm b a)
    subst hz
    have RS := Rr_4.store2 (.bool (sg ((a + b)))) (.slice Xz (nl (mg ((a + b)))) cz)
    have e0 := RS.c (i := 0) rfl
    have e1 := RS.c (i := 1) rfl
    refine bodyPost_ret (v := .agg #[.bool (sg ((a + b))), .slice Xz (nl (mg ((a + b)))) cz]) (by simp [results, Tryz.results72, go_sem, e0, e1]) rfl ?_
    exact ⟨Xz, cz, rfl, (Rr_4.keep2 (nuB rfl) hz), (Below.store2 HBT (by first | exact Nat.le_refl _ | omega))⟩
  · have t2 : decide (cmpN (mg a) (mg b) < 0) = false := by rw [decide_eq_false_iff_not, cmpN_neg]; exact hl
    have hle : mg b ≤ mg a := by omega
    have hv := ival_sub hs hle
    replace hv := Lib.hid hv
    replace hl := Lib.hid hl
    go_wp2_with (fail)
    obtain ⟨n, En⟩ : ∃ zq : Nat, zq = mg a - mg b := ⟨_, rfl⟩
    have Bn : nl n ≤ 1048576 := by rw [En]; have := nl_sub (mg a) (mg b); omega
    have CS := sub_c aA ac (mg a) bA bc (mg b) _ ha hb (by omega) (by omega) hle
    rw [← En] at CS
    replace En := Lib.hid En
    refine (Calls.mono CS ?_)
    rintro e W3 ⟨Xn, cn, rfl, hn, hb3⟩
    clear CS
    replace ha := ha.below hb3
    replace hb := hb.below hb3
    replace Ra := Ra.below hb3
    replace qa0 := cbl hb3 qa0
    replace qa1 := cbl hb3 qa1
    replace Rb := Rb.below hb3
    replace qb0 := cbl hb3 qb0
    replace qb1 := cbl hb3 qb1
    replace Rr := Rr.below hb3
    replace qr0 := cbl hb3 qr0
    replace qr1 := cbl hb3 qr1
    replace HBT := Below.cons HBT hb3
    clear hb3
    go_wp2_with (fail)
    obtain ⟨z, Ez⟩ : ∃ zq : Int, zq = ival (sg a) n := ⟨_, rfl⟩
    refine (Calls.mono (R := RetI W3 z) (by rw [Ez]; exact (imake_c (sg a) Xn cn n _ hn (by omega))) ?_)
    replace Ez := Lib.hid Ez
    rintro e W4 ⟨Xz, cz, rfl, hz, hb4⟩
    replace ha := ha.below hb4
    replace hb := hb.below hb4
    replace Ra := Ra.below hb4
    replace qa0 := cbl hb4 qa0
    replace qa1 := cbl hb4 qa1
    replace Rb := Rb.below hb4
    replace qb0 := cbl hb4 qb0
    replace qb1 := cbl hb4 qb1
    replace Rr := Rr.below hb4
    replace qr0 := cbl hb4 qr0
    replace qr1 := cbl hb4 qr1
    replace hn := hn.below hb4
    replace HBT := Below.cons HBT hb4
    clear hb4
    have fz0 := Rr.f (i := 0)
    have fz1 := Rr.f (i := 1)
    go_wp2_with (fail)
    have hz : z = a + b := by rw [Ez.out, En.out]; exact hv.out
    subst hz
    have RS := Rr.store2 (.bool (sg ((a + b)))) (.slice Xz (nl (mg ((a + b)))) cz)
    have e0 := RS.c (i := 0) rfl
    have e1 := RS.c (i := 1) rfl
    refine bodyPost_ret (v := .agg #[.bool (sg ((a + b))), .slice Xz (nl (mg ((a + b)))) cz]) (by simp [results, Tryz.results72, go_sem, e0, e1]) rfl ?_
    exact ⟨Xz, cz, rfl, (Rr.keep2 (nuB rfl) hz), (Below.store2 HBT (by first | exact Nat.le_refl _ | omega))⟩
theorem iadd_c (aA : Option Addr) (ac : Nat) (a : Int) (bA : Option Addr) (bc : Nat) (b : Int) (w : World) (ha : NatV w aA ac (mg a)) (hb : NatV w bA bc (mg b)) (la : nl (mg a) ≤ 1048576) (lb : nl (mg b) ≤ 1048576) :
    Calls Tryz.prog 72 #[.agg #[.bool (sg a), .slice aA (nl (mg a)) ac], .agg #[.bool (sg b), .slice bA (nl (mg b)) bc]] w (RetI w (a + b)) := by
  by_cases h : sg a = sg b
  · exact iadd_same aA ac a bA bc b w ha hb la lb h
  · exact iadd_apart aA ac a bA bc b w ha hb la lb h
end Go.Proofs.YthcmoimlnhghcaaGreatDoor

/- Whole numbers, walked: DivMod, Exact. -/
set_option linter.unusedVariables false
set_option linter.unusedSimpArgs false
namespace Go.Proofs.YthcmoimlnhghcaaGreatDoor
open Go.RowKit Go.Shelf
attribute [local go_sem] max2_i min2_i max_two min_two

def RetII (w : World) (q r : Int) (e : Ending) (w' : World) : Prop := ∃ A c B d, e = .returned (.tuple #[.agg #[.bool (sg q), .slice A (nl (mg q)) c], .agg #[.bool (sg r), .slice B (nl (mg r)) d], .int .i64 0]) ∧ NatV w' A c (mg q) ∧ NatV w' B d (mg r) ∧ Below w.heap.size w w'
theorem ediv_uniq {a b q r : Int} (hb : b ≠ 0) (h : a = q * b + r) (h0 : 0 ≤ r) (h1 : r < b.natAbs) : a / b = q ∧ a % b = r := by
  rcases Int.lt_or_gt_of_ne hb with hn | hp
  · have e : a = (-q) * (-b) + r := by rw [Int.neg_mul_neg]; exact h
    have := (Int.ediv_emod_unique (a := a) (b := -b) (r := r) (q := -q) (by omega)).2 ⟨by rw [Int.mul_comm (-b) (-q)]; omega, h0, by omega⟩
    rw [Int.ediv_neg, Int.emod_neg] at this
    exact ⟨by omega, this.2⟩
  · exact (Int.ediv_emod_unique hp).2 ⟨by rw [Int.mul_comm b q]; omega, h0, by omega⟩
theorem ival_false (n : Nat) : ival false n = n := rfl
theorem dm_plain {a b : Int} (hb : b ≠ 0) (h : 0 ≤ a ∨ mg a % mg b = 0) : ival (sg a != sg b) (mg a / mg b) = a / b ∧ ival false (mg a % mg b) = a % b := by
  have hm := Nat.div_add_mod (mg a) (mg b)
  have hl := Nat.mod_lt (mg a) (show 0 < mg b from mg_pos.2 hb)
  generalize mg a / mg b = q at *
  generalize mg a % mg b = r at *
  have hm2 : ((mg b * q + r : Nat) : Int) = (mg a : Int) := by rw [hm]
  rw [Int.natCast_add, Int.natCast_mul] at hm2
  unfold mg at *
  have key : a = ival (sg a != sg b) q * b + ival false r := by
    rw [ival_false]
    unfold ival sg
    by_cases ha : a < 0
    · have hr : r = 0 := by omega
      subst hr
      by_cases hn : b < 0
      · have h1 : (b.natAbs : Int) = -b := by omega
        have h2 : (a.natAbs : Int) = -a := by omega
        rw [h1, h2] at hm2
        simp [ha, hn]; grind
      · have h1 : (b.natAbs : Int) = b := by omega
        have h2 : (a.natAbs : Int) = -a := by omega
        rw [h1, h2] at hm2
        simp [ha, hn]; grind
    · by_cases hn : b < 0
      · have h1 : (b.natAbs : Int) = -b := by omega
        have h2 : (a.natAbs : Int) = a := by omega
        rw [h1, h2] at hm2
        simp [ha, hn]; grind
      · have h1 : (b.natAbs : Int) = b := by omega
        have h2 : (a.natAbs : Int) = a := by omega
        rw [h1, h2] at hm2
        simp [ha, hn]; grind
  have := ediv_uniq hb key (by rw [ival_false]; omega) (by rw [ival_false]; omega)
  exact ⟨this.1.symm, this.2.symm⟩
theorem dm_below {a b : Int} (hb : b ≠ 0) (ha : a < 0) (h : mg a % mg b ≠ 0) : ival (sg a != sg b) (mg a / mg b + 1) = a / b ∧ ival false (mg b - mg a % mg b) = a % b := by
  have hm := Nat.div_add_mod (mg a) (mg b)
  have hl := Nat.mod_lt (mg a) (show 0 < mg b from mg_pos.2 hb)
  generalize mg a / mg b = q at *
  generalize mg a % mg b = r at *
  have hm2 : ((mg b * q + r : Nat) : Int) = (mg a : Int) := by rw [hm]
  rw [Int.natCast_add, Int.natCast_mul] at hm2
  unfold mg at *
  have hc : ((b.natAbs - r : Nat) : Int) = (b.natAbs : Int) - r := by omega
  have key : a = ival (sg a != sg b) (q + 1) * b + ival false (b.natAbs - r) := by
    rw [ival_false, hc]
    unfold ival sg
    have h2 : (a.natAbs : Int) = -a := by omega
    by_cases hn : b < 0
    · have h1 : (b.natAbs : Int) = -b := by omega
      rw [h1, h2] at hm2
      rw [h1]
      simp [ha, hn]; grind
    · have h1 : (b.natAbs : Int) = b := by omega
      rw [h1, h2] at hm2
      rw [h1]
      simp [ha, hn]; grind
  have := ediv_uniq hb key (by rw [ival_false]; omega) (by rw [ival_false]; omega)
  exact ⟨this.1.symm, this.2.symm⟩
theorem idiv_f (aA : Option Addr) (ac : Nat) (a : Int) (bA : Option Addr) (bc : Nat) (b : Int) (w : World) (ha : NatV w aA ac (mg a)) (hb : NatV w bA bc (mg b)) (la : nl (mg a) ≤ 1048576) (lb : nl (mg b) ≤ 1048576) (hb0 : b ≠ 0) (h : 0 ≤ a) :
    Calls Tryz.prog 99 #[.agg #[.bool (sg a), .slice aA (nl (mg a)) ac], .agg #[.bool (sg b), .slice bA (nl (mg b)) bc]] w (RetII w (a / b) (a % b)) := by
  have pb : 0 < mg b := mg_pos.2 hb0
  have hv := dm_plain hb0 (.inl h)
  obtain ⟨q, Eq⟩ : ∃ zq : Nat, zq = mg a / mg b := ⟨_, rfl⟩
  obtain ⟨r, Er⟩ : ∃ zq : Nat, zq = mg a % mg b := ⟨_, rfl⟩
  have Bq : nl q ≤ 1048576 := by rw [Eq]; have := nl_div (mg a) (mg b); omega
  have Br : nl r ≤ 1048576 := by rw [Er]; have := nl_mod_le (mg a) (mg b); omega
  have hrb : r ≤ mg b := by rw [Er]; exact Nat.le_of_lt (Nat.mod_lt _ pb)
  have ta : sg a = false := sg_f h
  rw [show (sg a != sg b) = sg b by rw [ta]; simp, ← Eq, ← Er] at hv
  replace hv := Lib.hid hv
  replace h := Lib.hid h
  obtain ⟨hb1, Ra, Rb, Rr, Rs⟩ := bx4 w #[.bool false, .slice aA (nl (mg a)) ac] 24 #[.bool (sg b), .slice bA (nl (mg b)) bc] 24 #[.bool false, .slice none 0 0] 24 #[.bool false, .slice none 0 0] 24
  replace ha := ha.below hb1
  replace hb := hb.below hb1
  have HBT := hb1
  clear hb1
  have qa0 := Ra.c (i := 0) rfl
  have qa1 := Ra.c (i := 1) rfl
  have qb0 := Rb.c (i := 0) rfl
  have qb1 := Rb.c (i := 1) rfl
  have qr0 := Rr.c (i := 0) rfl
  have qr1 := Rr.c (i := 1) rfl
  have qs0 := Rs.c (i := 0) rfl
  have qs1 := Rs.c (i := 1) rfl
  go_enter Tryz.func99, Tryz.ntmps99
  go_wp2_with (fail)
  have CD := ddivmod_c aA ac (mg a) bA bc (mg b) _ ha hb (by omega) (by omega) pb
  rw [← Eq, ← Er] at CD
  replace Eq := Lib.hid Eq
  replace Er := Lib.hid Er
  refine (Calls.mono CD ?_)
  clear CD
  rintro e W2 ⟨Xq, cq, Xr, cr, rfl, hq, hr, hb2⟩
  replace ha := ha.below hb2
  replace hb := hb.below hb2
  replace Ra := Ra.below hb2
  replace qa0 := cbl hb2 qa0
  replace qa1 := cbl hb2 qa1
  replace Rb := Rb.below hb2
  replace qb0 := cbl hb2 qb0
  replace qb1 := cbl hb2 qb1
  replace Rr := Rr.below hb2
  replace qr0 := cbl hb2 qr0
  replace qr1 := cbl hb2 qr1
  replace Rs := Rs.below hb2
  replace qs0 := cbl hb2 qs0
  replace qs1 := cbl hb2 qs1
  replace HBT := Below.cons HBT hb2
  clear hb2
  go_wp2_with (fail)
  obtain ⟨x, Ex⟩ : ∃ zq : Int, zq = ival (sg b) q := ⟨_, rfl⟩
  refine (Calls.mono (R := RetI W2 x) (by rw [Ex]; with_reducible exact (imake_c (sg b) Xq cq q _ hq (by omega))) ?_)
  replace Ex := Lib.hid Ex
  rintro e W3 ⟨Xx, cx, rfl, hx, hb3⟩
  replace ha := ha.below hb3
  replace hb := hb.below hb3
  replace Ra := Ra.below hb3
  replace qa0 := cbl hb3 qa0
  replace qa1 := cbl hb3 qa1
  replace Rb := Rb.below hb3
  replace qb0 := cbl hb3 qb0
  replace qb1 := cbl hb3 qb1
  replace Rr := Rr.below hb3
  replace qr0 := cbl hb3 qr0
  replace qr1 := cbl hb3 qr1
  replace Rs := Rs.below hb3
  replace qs0 := cbl hb3 qs0
  replace qs1 := cbl hb3 qs1
  replace hq := hq.below hb3
  replace hr := hr.below hb3
  replace HBT := Below.cons HBT hb3
  clear hb3
  go_wp2_with (fail)
  obtain ⟨y, Ey⟩ : ∃ zq : Int, zq = ival false r := ⟨_, rfl⟩
  refine (Calls.mono (R := RetI W3 y) (by rw [Ey]; with_reducible exact (imake_c false Xr cr r _ hr (by omega))) ?_)
  replace Ey := Lib.hid Ey
  rintro e W4 ⟨Xy, cy, rfl, hy, hb4⟩
  replace ha := ha.below hb4
  replace hb := hb.below hb4
  replace Ra := Ra.below hb4
  replace qa0 := cbl hb4 qa0
  replace qa1 := cbl hb4 qa1
  replace Rb := Rb.below hb4
  replace qb0 := cbl hb4 qb0
  replace qb1 := cbl hb4 qb1
  replace Rr := Rr.below hb4
  replace qr0 := cbl hb4 qr0
  replace qr1 := cbl hb4 qr1
  replace Rs := Rs.below hb4
  replace qs0 := cbl hb4 qs0
  replace qs1 := cbl hb4 qs1
  replace hq := hq.below hb4
  replace hr := hr.below hb4
  replace hx := hx.below hb4
  replace HBT := Below.cons HBT hb4
  clear hb4
  have hzx : x = a / b := by rw [Ex.out]; exact hv.out.1
  subst hzx
  have hzy : y = a % b := by rw [Ey.out]; exact hv.out.2
  subst hzy
  have fzr0 := Rr.f (i := 0)
  have fzr1 := Rr.f (i := 1)
  have fzs0 := Rs.f (i := 0)
  have fzs1 := Rs.f (i := 1)
  go_wp2_with (fail)
  have RU := Rr.store2 (.bool (sg ((a / b)))) (.slice Xx (nl (mg ((a / b)))) cx)
  have RV := (Rs.other2 (v0 := .bool (sg ((a / b)))) (v1 := .slice Xx (nl (mg ((a / b)))) cx) (show (w.heap.size + 1 + 1 + 1) ≠ (w.heap.size + 1 + 1) by omega)).store2 (.bool (sg ((a % b)))) (.slice Xy (nl (mg ((a % b)))) cy)
  have RU2 := RU.other2 (v0 := .bool (sg ((a % b)))) (v1 := .slice Xy (nl (mg ((a % b)))) cy) (show (w.heap.size + 1 + 1) ≠ (w.heap.size + 1 + 1 + 1) by omega)
  have e0 := RU2.c (i := 0) rfl
  have g0 := RV.c (i := 0) rfl
  have e1 := RU2.c (i := 1) rfl
  have g1 := RV.c (i := 1) rfl
  refine bodyPost_ret (v := .tuple #[.agg #[.bool (sg ((a / b))), .slice Xx (nl (mg ((a / b)))) cx], .agg #[.bool (sg ((a % b))), .slice Xy (nl (mg ((a % b)))) cy], .int .i64 0]) (by simp [results, Tryz.results99, go_sem, e0, e1, g0, g1]) rfl ?_
  exact ⟨Xx, cx, Xy, cy, rfl, ((Rs.other2 (v0 := .bool (sg ((a / b)))) (v1 := .slice Xx (nl (mg ((a / b)))) cx) (show (w.heap.size + 1 + 1 + 1) ≠ (w.heap.size + 1 + 1) by omega)).keep2 (nuB rfl) (Rr.keep2 (nuB rfl) hx)), ((Rs.other2 (v0 := .bool (sg ((a / b)))) (v1 := .slice Xx (nl (mg ((a / b)))) cx) (show (w.heap.size + 1 + 1 + 1) ≠ (w.heap.size + 1 + 1) by omega)).keep2 (nuB rfl) (Rr.keep2 (nuB rfl) hy)), Below.store2 (Below.store2 HBT (by omega)) (by omega)⟩
theorem idiv_z (aA : Option Addr) (ac : Nat) (a : Int) (bA : Option Addr) (bc : Nat) (b : Int) (w : World) (ha : NatV w aA ac (mg a)) (hb : NatV w bA bc (mg b)) (la : nl (mg a) ≤ 1048576) (lb : nl (mg b) ≤ 1048576) (hb0 : b ≠ 0) (h : a < 0) (h2 : mg a % mg b = 0) :
    Calls Tryz.prog 99 #[.agg #[.bool (sg a), .slice aA (nl (mg a)) ac], .agg #[.bool (sg b), .slice bA (nl (mg b)) bc]] w (RetII w (a / b) (a % b)) := by
  have pb : 0 < mg b := mg_pos.2 hb0
  have hv := dm_plain hb0 (.inr h2)
  obtain ⟨q, Eq⟩ : ∃ zq : Nat, zq = mg a / mg b := ⟨_, rfl⟩
  obtain ⟨r, Er⟩ : ∃ zq : Nat, zq = mg a % mg b := ⟨_, rfl⟩
  have Bq : nl q ≤ 1048576 := by rw [Eq]; have := nl_div (mg a) (mg b); omega
  have Br : nl r ≤ 1048576 := by rw [Er]; have := nl_mod_le (mg a) (mg b); omega
  have hrb : r ≤ mg b := by rw [Er]; exact Nat.le_of_lt (Nat.mod_lt _ pb)
  have ta : sg a = true := sg_t h
  obtain ⟨n, En⟩ : ∃ n : Bool, n = !sg b := ⟨_, rfl⟩
  have In : (!sg b) = n := En.symm
  rw [show (sg a != sg b) = n by rw [ta, ← In]; simp, ← Eq, ← Er] at hv
  replace hv := Lib.hid hv
  replace En := Lib.hid En
  rw [← Er] at h2
  have t1 : decide (0 < (nl r : Int)) = false := by rw [h2, nl_zero]; rfl
  have t2 : decide (0 < nl r) = false := by rw [h2, nl_zero]; rfl
  replace h2 := Lib.hid h2
  replace h := Lib.hid h
  obtain ⟨hb1, Ra, Rb, Rr, Rs⟩ := bx4 w #[.bool true, .slice aA (nl (mg a)) ac] 24 #[.bool (sg b), .slice bA (nl (mg b)) bc] 24 #[.bool false, .slice none 0 0] 24 #[.bool false, .slice none 0 0] 24
  replace ha := ha.below hb1
  replace hb := hb.below hb1
  have HBT := hb1
  clear hb1
  have qa0 := Ra.c (i := 0) rfl
  have qa1 := Ra.c (i := 1) rfl
  have qb0 := Rb.c (i := 0) rfl
  have qb1 := Rb.c (i := 1) rfl
  have qr0 := Rr.c (i := 0) rfl
  have qr1 := Rr.c (i := 1) rfl
  have qs0 := Rs.c (i := 0) rfl
  have qs1 := Rs.c (i := 1) rfl
  go_enter Tryz.func99, Tryz.ntmps99
  go_wp2_with (fail)
  have CD := ddivmod_c aA ac (mg a) bA bc (mg b) _ ha hb (by omega) (by omega) pb
  rw [← Eq, ← Er] at CD
  replace Eq := Lib.hid Eq
  replace Er := Lib.hid Er
  refine (Calls.mono CD ?_)
  clear CD
  rintro e W2 ⟨Xq, cq, Xr, cr, rfl, hq, hr, hb2⟩
  replace ha := ha.below hb2
  replace hb := hb.below hb2
  replace Ra := Ra.below hb2
  replace qa0 := cbl hb2 qa0
  replace qa1 := cbl hb2 qa1
  replace Rb := Rb.below hb2
  replace qb0 := cbl hb2 qb0
  replace qb1 := cbl hb2 qb1
  replace Rr := Rr.below hb2
  replace qr0 := cbl hb2 qr0
  replace qr1 := cbl hb2 qr1
  replace Rs := Rs.below hb2
  replace qs0 := cbl hb2 qs0
  replace qs1 := cbl hb2 qs1
  replace HBT := Below.cons HBT hb2
  clear hb2
  go_wp2_with (fail)
  obtain ⟨x, Ex⟩ : ∃ zq : Int, zq = ival n q := ⟨_, rfl⟩
  refine (Calls.mono (R := RetI W2 x) (by rw [Ex]; with_reducible exact (imake_c n Xq cq q _ hq (by omega))) ?_)
  replace Ex := Lib.hid Ex
  rintro e W3 ⟨Xx, cx, rfl, hx, hb3⟩
  replace ha := ha.below hb3
  replace hb := hb.below hb3
  replace Ra := Ra.below hb3
  replace qa0 := cbl hb3 qa0
  replace qa1 := cbl hb3 qa1
  replace Rb := Rb.below hb3
  replace qb0 := cbl hb3 qb0
  replace qb1 := cbl hb3 qb1
  replace Rr := Rr.below hb3
  replace qr0 := cbl hb3 qr0
  replace qr1 := cbl hb3 qr1
  replace Rs := Rs.below hb3
  replace qs0 := cbl hb3 qs0
  replace qs1 := cbl hb3 qs1
  replace hq := hq.below hb3
  replace hr := hr.below hb3
  replace HBT := Below.cons HBT hb3
  clear hb3
  go_wp2_with (fail)
  obtain ⟨y, Ey⟩ : ∃ zq : Int, zq = ival false r := ⟨_, rfl⟩
  refine (Calls.mono (R := RetI W3 y) (by rw [Ey]; with_reducible exact (imake_c false Xr cr r _ hr (by omega))) ?_)
  replace Ey := Lib.hid Ey
  rintro e W4 ⟨Xy, cy, rfl, hy, hb4⟩
  replace ha := ha.below hb4
  replace hb := hb.below hb4
  replace Ra := Ra.below hb4
  replace qa0 := cbl hb4 qa0
  replace qa1 := cbl hb4 qa1
  replace Rb := Rb.below hb4
  replace qb0 := cbl hb4 qb0
  replace qb1 := cbl hb4 qb1
  replace Rr := Rr.below hb4
  replace qr0 := cbl hb4 qr0
  replace qr1 := cbl hb4 qr1
  replace Rs := Rs.below hb4
  replace qs0 := cbl hb4 qs0
  replace qs1 := cbl hb4 qs1
  replace hq := hq.below hb4
  replace hr := hr.below hb4
  replace hx := hx.below hb4
  replace HBT := Below.cons HBT hb4
  clear hb4
  have hzx : x = a / b := by rw [Ex.out]; exact hv.out.1
  subst hzx
  have hzy : y = a % b := by rw [Ey.out]; exact hv.out.2
  subst hzy
  have fzr0 := Rr.f (i := 0)
  have fzr1 := Rr.f (i := 1)
  have fzs0 := Rs.f (i := 0)
  have fzs1 := Rs.f (i := 1)
  go_wp2_with (fail)
  have RU := Rr.store2 (.bool (sg ((a / b)))) (.slice Xx (nl (mg ((a / b)))) cx)
  have RV := (Rs.other2 (v0 := .bool (sg ((a / b)))) (v1 := .slice Xx (nl (mg ((a / b)))) cx) (show (w.heap.size + 1 + 1 + 1) ≠ (w.heap.size + 1 + 1) by omega)).store2 (.bool (sg ((a % b)))) (.slice Xy (nl (mg ((a % b)))) cy)
  have RU2 := RU.other2 (v0 := .bool (sg ((a % b)))) (v1 := .slice Xy (nl (mg ((a % b)))) cy) (show (w.heap.size + 1 + 1) ≠ (w.heap.size + 1 + 1 + 1) by omega)
  have e0 := RU2.c (i := 0) rfl
  have g0 := RV.c (i := 0) rfl
  have e1 := RU2.c (i := 1) rfl
  have g1 := RV.c (i := 1) rfl
  refine bodyPost_ret (v := .tuple #[.agg #[.bool (sg ((a / b))), .slice Xx (nl (mg ((a / b)))) cx], .agg #[.bool (sg ((a % b))), .slice Xy (nl (mg ((a % b)))) cy], .int .i64 0]) (by simp [results, Tryz.results99, go_sem, e0, e1, g0, g1]) rfl ?_
  exact ⟨Xx, cx, Xy, cy, rfl, ((Rs.other2 (v0 := .bool (sg ((a / b)))) (v1 := .slice Xx (nl (mg ((a / b)))) cx) (show (w.heap.size + 1 + 1 + 1) ≠ (w.heap.size + 1 + 1) by omega)).keep2 (nuB rfl) (Rr.keep2 (nuB rfl) hx)), ((Rs.other2 (v0 := .bool (sg ((a / b)))) (v1 := .slice Xx (nl (mg ((a / b)))) cx) (show (w.heap.size + 1 + 1 + 1) ≠ (w.heap.size + 1 + 1) by omega)).keep2 (nuB rfl) (Rr.keep2 (nuB rfl) hy)), Below.store2 (Below.store2 HBT (by omega)) (by omega)⟩
theorem idiv_t (aA : Option Addr) (ac : Nat) (a : Int) (bA : Option Addr) (bc : Nat) (b : Int) (w : World) (ha : NatV w aA ac (mg a)) (hb : NatV w bA bc (mg b)) (la : nl (mg a) ≤ 1048576) (lb : nl (mg b) ≤ 1048576) (hb0 : b ≠ 0) (h : a < 0) (h2 : mg a % mg b ≠ 0) :
    Calls Tryz.prog 99 #[.agg #[.bool (sg a), .slice aA (nl (mg a)) ac], .agg #[.bool (sg b), .slice bA (nl (mg b)) bc]] w (RetII w (a / b) (a % b)) := by
  have pb : 0 < mg b := mg_pos.2 hb0
  have hv := dm_below hb0 h h2
  obtain ⟨q, Eq⟩ : ∃ zq : Nat, zq = mg a / mg b := ⟨_, rfl⟩
  obtain ⟨r, Er⟩ : ∃ zq : Nat, zq = mg a % mg b := ⟨_, rfl⟩
  have Bq : nl q ≤ 1048576 := by rw [Eq]; have := nl_div (mg a) (mg b); omega
  have Br : nl r ≤ 1048576 := by rw [Er]; have := nl_mod_le (mg a) (mg b); omega
  have hrb : r ≤ mg b := by rw [Er]; exact Nat.le_of_lt (Nat.mod_lt _ pb)
  have ta : sg a = true := sg_t h
  obtain ⟨n, En⟩ : ∃ n : Bool, n = !sg b := ⟨_, rfl⟩
  have In : (!sg b) = n := En.symm
  rw [show (sg a != sg b) = n by rw [ta, ← In]; simp, ← Eq, ← Er] at hv
  replace hv := Lib.hid hv
  replace En := Lib.hid En
  rw [← Er] at h2
  have t1 : decide (0 < (nl r : Int)) = true := by have := nl_pos.2 h2; simp; omega
  have t2 : decide (0 < nl r) = true := by have := nl_pos.2 h2; simp; omega
  replace h2 := Lib.hid h2
  replace h := Lib.hid h
  obtain ⟨hb1, Ra, Rb, Rr, Rs⟩ := bx4 w #[.bool true, .slice aA (nl (mg a)) ac] 24 #[.bool (sg b), .slice bA (nl (mg b)) bc] 24 #[.bool false, .slice none 0 0] 24 #[.bool false, .slice none 0 0] 24
  replace ha := ha.below hb1
  replace hb := hb.below hb1
  have HBT := hb1
  clear hb1
  have qa0 := Ra.c (i := 0) rfl
  have qa1 := Ra.c (i := 1) rfl
  have qb0 := Rb.c (i := 0) rfl
  have qb1 := Rb.c (i := 1) rfl
  have qr0 := Rr.c (i := 0) rfl
  have qr1 := Rr.c (i := 1) rfl
  have qs0 := Rs.c (i := 0) rfl
  have qs1 := Rs.c (i := 1) rfl
  go_enter Tryz.func99, Tryz.ntmps99
  go_wp2_with (fail)
  have CD := ddivmod_c aA ac (mg a) bA bc (mg b) _ ha hb (by omega) (by omega) pb
  rw [← Eq, ← Er] at CD
  replace Eq := Lib.hid Eq
  replace Er := Lib.hid Er
  refine (Calls.mono CD ?_)
  clear CD
  rintro e W2 ⟨Xq, cq, Xr, cr, rfl, hq, hr, hb2⟩
  replace ha := ha.below hb2
  replace hb := hb.below hb2
  replace Ra := Ra.below hb2
  replace qa0 := cbl hb2 qa0
  replace qa1 := cbl hb2 qa1
  replace Rb := Rb.below hb2
  replace qb0 := cbl hb2 qb0
  replace qb1 := cbl hb2 qb1
  replace Rr := Rr.below hb2
  replace qr0 := cbl hb2 qr0
  replace qr1 := cbl hb2 qr1
  replace Rs := Rs.below hb2
  replace qs0 := cbl hb2 qs0
  replace qs1 := cbl hb2 qs1
  replace HBT := Below.cons HBT hb2
  clear hb2
  go_wp2_with (fail)
  obtain ⟨o, Eo⟩ : ∃ zq : Nat, zq = 1 := ⟨_, rfl⟩
  have Bo : nl o ≤ 1 := by rw [Eo, nl_one]; exact Nat.le_refl _
  refine (Calls.mono (R := RetN W2 o) (by rw [Eo]; with_reducible exact (ione_c _)) ?_)
  replace Eo := Lib.hid Eo
  rintro e W3 ⟨Xo, co, rfl, ho, hb3⟩
  replace ha := ha.below hb3
  replace hb := hb.below hb3
  replace Ra := Ra.below hb3
  replace qa0 := cbl hb3 qa0
  replace qa1 := cbl hb3 qa1
  replace Rb := Rb.below hb3
  replace qb0 := cbl hb3 qb0
  replace qb1 := cbl hb3 qb1
  replace Rr := Rr.below hb3
  replace qr0 := cbl hb3 qr0
  replace qr1 := cbl hb3 qr1
  replace Rs := Rs.below hb3
  replace qs0 := cbl hb3 qs0
  replace qs1 := cbl hb3 qs1
  replace hq := hq.below hb3
  replace hr := hr.below hb3
  replace HBT := Below.cons HBT hb3
  clear hb3
  go_wp2_with (fail)
  obtain ⟨q2, Eq2⟩ : ∃ zq : Nat, zq = q + o := ⟨_, rfl⟩
  have Bq2 : nl q2 ≤ 1048577 := by rw [Eq2]; have := nl_add q o; omega
  refine (Calls.mono (R := RetN W3 q2) (by rw [Eq2]; with_reducible exact (add_c Xq cq q Xo co o _ hq ho (by omega) (by omega))) ?_)
  replace Eq2 := Lib.hid Eq2
  rintro e W4 ⟨Xq2, cq2, rfl, hq2, hb4⟩
  replace ha := ha.below hb4
  replace hb := hb.below hb4
  replace Ra := Ra.below hb4
  replace qa0 := cbl hb4 qa0
  replace qa1 := cbl hb4 qa1
  replace Rb := Rb.below hb4
  replace qb0 := cbl hb4 qb0
  replace qb1 := cbl hb4 qb1
  replace Rr := Rr.below hb4
  replace qr0 := cbl hb4 qr0
  replace qr1 := cbl hb4 qr1
  replace Rs := Rs.below hb4
  replace qs0 := cbl hb4 qs0
  replace qs1 := cbl hb4 qs1
  replace hq := hq.below hb4
  replace hr := hr.below hb4
  replace ho := ho.below hb4
  replace HBT := Below.cons HBT hb4
  clear hb4
  go_wp2_with (fail)
  obtain ⟨r2, Er2⟩ : ∃ zq : Nat, zq = mg b - r := ⟨_, rfl⟩
  have Br2 : nl r2 ≤ 1048576 := by rw [Er2]; have := nl_sub (mg b) r; omega
  have CS := sub_c bA bc (mg b) Xr cr r _ hb hr (by omega) (by omega) hrb
  rw [← Er2] at CS
  replace Er2 := Lib.hid Er2
  refine (Calls.mono CS ?_)
  clear CS
  rintro e W5 ⟨Xr2, cr2, rfl, hr2, hb5⟩
  replace ha := ha.below hb5
  replace hb := hb.below hb5
  replace Ra := Ra.below hb5
  replace qa0 := cbl hb5 qa0
  replace qa1 := cbl hb5 qa1
  replace Rb := Rb.below hb5
  replace qb0 := cbl hb5 qb0
  replace qb1 := cbl hb5 qb1
  replace Rr := Rr.below hb5
  replace qr0 := cbl hb5 qr0
  replace qr1 := cbl hb5 qr1
  replace Rs := Rs.below hb5
  replace qs0 := cbl hb5 qs0
  replace qs1 := cbl hb5 qs1
  replace hq := hq.below hb5
  replace hr := hr.below hb5
  replace ho := ho.below hb5
  replace hq2 := hq2.below hb5
  replace HBT := Below.cons HBT hb5
  clear hb5
  go_wp2_with (fail)
  obtain ⟨x, Ex⟩ : ∃ zq : Int, zq = ival n q2 := ⟨_, rfl⟩
  refine (Calls.mono (R := RetI W5 x) (by rw [Ex]; with_reducible exact (imake_c n Xq2 cq2 q2 _ hq2 (by omega))) ?_)
  replace Ex := Lib.hid Ex
  rintro e W6 ⟨Xx, cx, rfl, hx, hb6⟩
  replace ha := ha.below hb6
  replace hb := hb.below hb6
  replace Ra := Ra.below hb6
  replace qa0 := cbl hb6 qa0
  replace qa1 := cbl hb6 qa1
  replace Rb := Rb.below hb6
  replace qb0 := cbl hb6 qb0
  replace qb1 := cbl hb6 qb1
  replace Rr := Rr.below hb6
  replace qr0 := cbl hb6 qr0
  replace qr1 := cbl hb6 qr1
  replace Rs := Rs.below hb6
  replace qs0 := cbl hb6 qs0
  replace qs1 := cbl hb6 qs1
  replace hq := hq.below hb6
  replace hr := hr.below hb6
  replace ho := ho.below hb6
  replace hq2 := hq2.below hb6
  replace hr2 := hr2.below hb6
  replace HBT := Below.cons HBT hb6
  clear hb6
  go_wp2_with (fail)
  obtain ⟨y, Ey⟩ : ∃ zq : Int, zq = ival false r2 := ⟨_, rfl⟩
  refine (Calls.mono (R := RetI W6 y) (by rw [Ey]; with_reducible exact (imake_c false Xr2 cr2 r2 _ hr2 (by omega))) ?_)
  replace Ey := Lib.hid Ey
  rintro e W7 ⟨Xy, cy, rfl, hy, hb7⟩
  replace ha := ha.below hb7
  replace hb := hb.below hb7
  replace Ra := Ra.below hb7
  replace qa0 := cbl hb7 qa0
  replace qa1 := cbl hb7 qa1
  replace Rb := Rb.below hb7
  replace qb0 := cbl hb7 qb0
  replace qb1 := cbl hb7 qb1
  replace Rr := Rr.below hb7
  replace qr0 := cbl hb7 qr0
  replace qr1 := cbl hb7 qr1
  replace Rs := Rs.below hb7
  replace qs0 := cbl hb7 qs0
  replace qs1 := cbl hb7 qs1
  replace hq := hq.below hb7
  replace hr := hr.below hb7
  replace ho := ho.below hb7
  replace hq2 := hq2.below hb7
  replace hr2 := hr2.below hb7
  replace hx := hx.below hb7
  replace HBT := Below.cons HBT hb7
  clear hb7
  have hzx : x = a / b := by rw [Ex.out, Eq2.out, Eo.out]; exact hv.out.1
  subst hzx
  have hzy : y = a % b := by rw [Ey.out, Er2.out]; exact hv.out.2
  subst hzy
  have fzr0 := Rr.f (i := 0)
  have fzr1 := Rr.f (i := 1)
  have fzs0 := Rs.f (i := 0)
  have fzs1 := Rs.f (i := 1)
  go_wp2_with (fail)
  have RU := Rr.store2 (.bool (sg ((a / b)))) (.slice Xx (nl (mg ((a / b)))) cx)
  have RV := (Rs.other2 (v0 := .bool (sg ((a / b)))) (v1 := .slice Xx (nl (mg ((a / b)))) cx) (show (w.heap.size + 1 + 1 + 1) ≠ (w.heap.size + 1 + 1) by omega)).store2 (.bool (sg ((a % b)))) (.slice Xy (nl (mg ((a % b)))) cy)
  have RU2 := RU.other2 (v0 := .bool (sg ((a % b)))) (v1 := .slice Xy (nl (mg ((a % b)))) cy) (show (w.heap.size + 1 + 1) ≠ (w.heap.size + 1 + 1 + 1) by omega)
  have e0 := RU2.c (i := 0) rfl
  have g0 := RV.c (i := 0) rfl
  have e1 := RU2.c (i := 1) rfl
  have g1 := RV.c (i := 1) rfl
  refine bodyPost_ret (v := .tuple #[.agg #[.bool (sg ((a / b))), .slice Xx (nl (mg ((a / b)))) cx], .agg #[.bool (sg ((a % b))), .slice Xy (nl (mg ((a % b)))) cy], .int .i64 0]) (by simp [results, Tryz.results99, go_sem, e0, e1, g0, g1]) rfl ?_
  exact ⟨Xx, cx, Xy, cy, rfl, ((Rs.other2 (v0 := .bool (sg ((a / b)))) (v1 := .slice Xx (nl (mg ((a / b)))) cx) (show (w.heap.size + 1 + 1 + 1) ≠ (w.heap.size + 1 + 1) by omega)).keep2 (nuB rfl) (Rr.keep2 (nuB rfl) hx)), ((Rs.other2 (v0 := .bool (sg ((a / b)))) (v1 := .slice Xx (nl (mg ((a / b)))) cx) (show (w.heap.size + 1 + 1 + 1) ≠ (w.heap.size + 1 + 1) by omega)).keep2 (nuB rfl) (Rr.keep2 (nuB rfl) hy)), Below.store2 (Below.store2 HBT (by omega)) (by omega)⟩
theorem idiv_c (aA : Option Addr) (ac : Nat) (a : Int) (bA : Option Addr) (bc : Nat) (b : Int) (w : World) (ha : NatV w aA ac (mg a)) (hb : NatV w bA bc (mg b)) (la : nl (mg a) ≤ 1048576) (lb : nl (mg b) ≤ 1048576) (hb0 : b ≠ 0) :
    Calls Tryz.prog 99 #[.agg #[.bool (sg a), .slice aA (nl (mg a)) ac], .agg #[.bool (sg b), .slice bA (nl (mg b)) bc]] w (RetII w (a / b) (a % b)) := by
  by_cases h : 0 ≤ a
  · exact idiv_f aA ac a bA bc b w ha hb la lb hb0 h
  · by_cases h2 : mg a % mg b = 0
    · exact idiv_z aA ac a bA bc b w ha hb la lb hb0 (by omega) h2
    · exact idiv_t aA ac a bA bc b w ha hb la lb hb0 (by omega) h2
end Go.Proofs.YthcmoimlnhghcaaGreatDoor

/- The document's whole numbers, walked: Made, Add, Mul, DivMod. -/
set_option linter.unusedVariables false
set_option linter.unusedSimpArgs false
namespace Go.Proofs.YthcmoimlnhghcaaGreatDoor
open Go.RowKit Go.Shelf
attribute [local go_sem] max2_i min2_i max_two min_two

theorem zadd_same (aA : Option Addr) (ac : Nat) (a : Int) (bA : Option Addr) (bc : Nat) (b : Int) (w : World) (ha : NatV w aA ac (mg a)) (hb : NatV w bA bc (mg b)) (la : nl (mg a) ≤ 1048576) (lb : nl (mg b) ≤ 1048576) (hs : sg a = sg b) :
    Calls Tryz.prog 125 #[.agg #[.bool (sg a), .slice aA (nl (mg a)) ac], .agg #[.bool (sg b), .slice bA (nl (mg b)) bc]] w (RetI w (a + b)) := by
  have t1 : (sg a == sg b) = true := beq_iff_eq.mpr hs
  have hv := ival_add hs
  replace hv := Lib.hid hv
  replace hs := Lib.hid hs
  obtain ⟨hb1, Ra, Rb, Rr⟩ := bx3 w #[.bool (sg a), .slice aA (nl (mg a)) ac] 24 #[.bool (sg b), .slice bA (nl (mg b)) bc] 24 #[.bool false, .slice none 0 0] 24
  replace ha := ha.below hb1
  replace hb := hb.below hb1
  have HBT := hb1
  clear hb1
  have qa0 := Ra.c (i := 0) rfl
  have qa1 := Ra.c (i := 1) rfl
  have qb0 := Rb.c (i := 0) rfl
  have qb1 := Rb.c (i := 1) rfl
  have qr0 := Rr.c (i := 0) rfl
  have qr1 := Rr.c (i := 1) rfl
  go_enter Tryz.func125, Tryz.ntmps125
  go_wp2_with (fail)
  have hd2 := drb ((((w.alloc (.cells #[.bool (sg a), .slice aA (nl (mg a)) ac] 24)).alloc (.cells #[.bool (sg b), .slice bA (nl (mg b)) bc] 24)).alloc (.cells #[.bool false, .slice none 0 0] 24)))
  replace ha := ha.below hd2
  replace hb := hb.below hd2
  replace Ra := Ra.below hd2
  replace qa0 := cbl hd2 qa0
  replace qa1 := cbl hd2 qa1
  replace Rb := Rb.below hd2
  replace qb0 := cbl hd2 qb0
  replace qb1 := cbl hd2 qb1
  replace Rr := Rr.below hd2
  replace qr0 := cbl hd2 qr0
  replace qr1 := cbl hd2 qr1
  replace HBT := Below.cons HBT hd2
  clear hd2
  obtain ⟨n, En⟩ : ∃ zq : Nat, zq = mg a + mg b := ⟨_, rfl⟩
  have Bn : nl n ≤ 2097154 := by rw [En]; have := nl_add (mg a) (mg b); omega
  have C2_0 := fun (W : World) (h1 : NatV W aA ac (mg a)) (h2 : NatV W bA bc (mg b)) => radd_c aA ac (mg a) bA bc (mg b) W h1 h2 (by omega) (by omega)
  simp only [← En] at C2_0
  replace En := Lib.hid En
  replace C2_0 := Lib.hid C2_0
  obtain ⟨z, Ez⟩ : ∃ zq : Int, zq = ival (sg a) n := ⟨_, rfl⟩
  have C2_1 := fun (W : World) (A : Option Addr) (c : Nat) (h1 : NatV W A c n) => rz_c (sg a) A c n W h1 (by omega)
  simp only [← Ez] at C2_1
  replace Ez := Lib.hid Ez
  replace C2_1 := Lib.hid C2_1
  go_region_held3 (fun W => W.cell? ⟨w.heap.size, 0, none⟩ = some (.bool (sg a)) ∧ W.cell? ⟨w.heap.size, 1, none⟩ = some (.slice aA (nl (mg a)) ac) ∧ W.cell? ⟨(w.heap.size + 1), 1, none⟩ = some (.slice bA (nl (mg b)) bc))
    (first
      | exact ⟨qa0, qa1, qb1⟩
      | exact ⟨qa0_3, qa1_3, qb1_3⟩
      | exact ⟨qa0_4, qa1_4, qb1_4⟩
      | exact ⟨((Ra_4.other2 (by simp <;> omega)).c (i := 0) rfl), ((Ra_4.other2 (by simp <;> omega)).c (i := 1) rfl), ((Rb_4.other2 (by simp <;> omega)).c (i := 1) rfl)⟩
      | go_keep)
    (first
      | (go_at_call 131; (with_reducible refine (C2_0.out _ ha hb).mono ?_); rintro e W3 ⟨Xn, cn, rfl, hn, hb3⟩; have ha_3 := ha.below hb3; have hb_3 := hb.below hb3; have Ra_3 := Ra.below hb3; have qa0_3 := cbl hb3 qa0; have qa1_3 := cbl hb3 qa1; have Rb_3 := Rb.below hb3; have qb0_3 := cbl hb3 qb0; have qb1_3 := cbl hb3 qb1; have Rr_3 := Rr.below hb3; have qr0_3 := cbl hb3 qr0; have qr1_3 := cbl hb3 qr1; have HBT_3 := Below.cons HBT hb3)
      | (go_at_call 56; (with_reducible refine (C2_1.out _ _ _ hn).mono ?_); rintro e W4 ⟨Xz, cz, rfl, hz, hb4⟩; have ha_4 := ha_3.below hb4; have hb_4 := hb_3.below hb4; have Ra_4 := Ra_3.below hb4; have qa0_4 := cbl hb4 qa0_3; have qa1_4 := cbl hb4 qa1_3; have Rb_4 := Rb_3.below hb4; have qb0_4 := cbl hb4 qb0_3; have qb1_4 := cbl hb4 qb1_3; have Rr_4 := Rr_3.below hb4; have qr0_4 := cbl hb4 qr0_3; have qr1_4 := cbl hb4 qr1_3; have hn_4 := hn.below hb4; have HBT_4 := Below.cons HBT_3 hb4; have fz0 := Rr_4.f (i := 0); have fz1 := Rr_4.f (i := 1)))
  all_goals (try go_wp2_with (fail))
  have hzz : z = a + b := by rw [Ez.out, En.out]; exact hv.out
  subst hzz
  have RS := Rr_4.store2 (.bool (sg ((a + b)))) (.slice Xz (nl (mg ((a + b)))) cz)
  have e0 := RS.c (i := 0) rfl
  have e1 := RS.c (i := 1) rfl
  refine bodyPost_ret (v := .agg #[.bool (sg ((a + b))), .slice Xz (nl (mg ((a + b)))) cz]) (by simp [results, Tryz.results125, go_sem, e0, e1]) rfl ?_
  exact ⟨Xz, cz, rfl, (Rr_4.keep2 (nuB rfl) hz), (Below.store2 HBT_4 (by first | exact Nat.le_refl _ | omega))⟩
theorem zadd_ge (aA : Option Addr) (ac : Nat) (a : Int) (bA : Option Addr) (bc : Nat) (b : Int) (w : World) (ha : NatV w aA ac (mg a)) (hb : NatV w bA bc (mg b)) (la : nl (mg a) ≤ 1048576) (lb : nl (mg b) ≤ 1048576) (hs : sg a ≠ sg b) (hle : mg b ≤ mg a) :
    Calls Tryz.prog 125 #[.agg #[.bool (sg a), .slice aA (nl (mg a)) ac], .agg #[.bool (sg b), .slice bA (nl (mg b)) bc]] w (RetI w (a + b)) := by
  have t1 : (sg a == sg b) = false := beq_eq_false_iff_ne.mpr hs
  have hv := ival_sub hs hle
  replace hv := Lib.hid hv
  replace hs := Lib.hid hs
  obtain ⟨hb1, Ra, Rb, Rr⟩ := bx3 w #[.bool (sg a), .slice aA (nl (mg a)) ac] 24 #[.bool (sg b), .slice bA (nl (mg b)) bc] 24 #[.bool false, .slice none 0 0] 24
  replace ha := ha.below hb1
  replace hb := hb.below hb1
  have HBT := hb1
  clear hb1
  have qa0 := Ra.c (i := 0) rfl
  have qa1 := Ra.c (i := 1) rfl
  have qb0 := Rb.c (i := 0) rfl
  have qb1 := Rb.c (i := 1) rfl
  have qr0 := Rr.c (i := 0) rfl
  have qr1 := Rr.c (i := 1) rfl
  go_enter Tryz.func125, Tryz.ntmps125
  go_wp2_with (fail)
  obtain ⟨n, En⟩ : ∃ zq : Nat, zq = mg a - mg b := ⟨_, rfl⟩
  have Bn : nl n ≤ 1048576 := by rw [En]; have := nl_sub (mg a) (mg b); omega
  have CS := rsub_c aA ac (mg a) bA bc (mg b) _ ha hb (by omega) (by omega) hle
  rw [← En] at CS
  replace En := Lib.hid En
  refine (Calls.mono CS ?_)
  rintro e W2 ⟨Xn, cn, rfl, hn, hb2⟩
  clear CS
  replace ha := ha.below hb2
  replace hb := hb.below hb2
  replace Ra := Ra.below hb2
  replace qa0 := cbl hb2 qa0
  replace qa1 := cbl hb2 qa1
  replace Rb := Rb.below hb2
  replace qb0 := cbl hb2 qb0
  replace qb1 := cbl hb2 qb1
  replace Rr := Rr.below hb2
  replace qr0 := cbl hb2 qr0
  replace qr1 := cbl hb2 qr1
  replace HBT := Below.cons HBT hb2
  clear hb2
  go_wp2_with (fail)
  obtain ⟨z, Ez⟩ : ∃ zq : Int, zq = ival (sg a) n := ⟨_, rfl⟩
  refine (Calls.mono (R := RetI W2 z) (by rw [Ez]; with_reducible exact (rz_c (sg a) Xn cn n _ hn (by omega))) ?_)
  replace Ez := Lib.hid Ez
  rintro e W3 ⟨Xz, cz, rfl, hz, hb3⟩
  replace ha := ha.below hb3
  replace hb := hb.below hb3
  replace Ra := Ra.below hb3
  replace qa0 := cbl hb3 qa0
  replace qa1 := cbl hb3 qa1
  replace Rb := Rb.below hb3
  replace qb0 := cbl hb3 qb0
  replace qb1 := cbl hb3 qb1
  replace Rr := Rr.below hb3
  replace qr0 := cbl hb3 qr0
  replace qr1 := cbl hb3 qr1
  replace hn := hn.below hb3
  replace HBT := Below.cons HBT hb3
  clear hb3
  have fzr0 := Rr.f (i := 0)
  have fzr1 := Rr.f (i := 1)
  go_wp2_with (fail)
  have hzz : z = a + b := by rw [Ez.out, En.out]; exact hv.out
  subst hzz
  have RS := Rr.store2 (.bool (sg ((a + b)))) (.slice Xz (nl (mg ((a + b)))) cz)
  have e0 := RS.c (i := 0) rfl
  have e1 := RS.c (i := 1) rfl
  refine bodyPost_ret (v := .agg #[.bool (sg ((a + b))), .slice Xz (nl (mg ((a + b)))) cz]) (by simp [results, Tryz.results125, go_sem, e0, e1]) rfl ?_
  exact ⟨Xz, cz, rfl, (Rr.keep2 (nuB rfl) hz), (Below.store2 HBT (by first | exact Nat.le_refl _ | omega))⟩
theorem zadd_lt (aA : Option Addr) (ac : Nat) (a : Int) (bA : Option Addr) (bc : Nat) (b : Int) (w : World) (ha : NatV w aA ac (mg a)) (hb : NatV w bA bc (mg b)) (la : nl (mg a) ≤ 1048576) (lb : nl (mg b) ≤ 1048576) (hs : sg a ≠ sg b) (hlt : mg a < mg b) :
    Calls Tryz.prog 125 #[.agg #[.bool (sg a), .slice aA (nl (mg a)) ac], .agg #[.bool (sg b), .slice bA (nl (mg b)) bc]] w (RetI w (a + b)) := by
  have t1 : (sg a == sg b) = false := beq_eq_false_iff_ne.mpr hs
  have hle : mg a ≤ mg b := Nat.le_of_lt hlt
  have hv := (ival_sub (fun e => hs e.symm) hle).trans (Int.add_comm b a)
  replace hv := Lib.hid hv
  replace hs := Lib.hid hs
  obtain ⟨hb1, Ra, Rb, Rr⟩ := bx3 w #[.bool (sg a), .slice aA (nl (mg a)) ac] 24 #[.bool (sg b), .slice bA (nl (mg b)) bc] 24 #[.bool false, .slice none 0 0] 24
  replace ha := ha.below hb1
  replace hb := hb.below hb1
  have HBT := hb1
  clear hb1
  have qa0 := Ra.c (i := 0) rfl
  have qa1 := Ra.c (i := 1) rfl
  have qb0 := Rb.c (i := 0) rfl
  have qb1 := Rb.c (i := 1) rfl
  have qr0 := Rr.c (i := 0) rfl
  have qr1 := Rr.c (i := 1) rfl
  go_enter Tryz.func125, Tryz.ntmps125
  go_wp2_with (fail)
  refine (Calls.mono (rsubNot_c aA ac (mg a) bA bc (mg b) _ ha hb (by omega) (by omega) hlt) ?_)
  rintro e w' ⟨rfl, hw⟩
  subst hw
  go_wp2_with (fail)
  obtain ⟨n, En⟩ : ∃ zq : Nat, zq = mg b - mg a := ⟨_, rfl⟩
  have Bn : nl n ≤ 1048576 := by rw [En]; have := nl_sub (mg b) (mg a); omega
  have CS := rsub_c bA bc (mg b) aA ac (mg a) _ hb ha (by omega) (by omega) hle
  rw [← En] at CS
  replace En := Lib.hid En
  refine (Calls.mono CS ?_)
  rintro e W2 ⟨Xn, cn, rfl, hn, hb2⟩
  clear CS
  replace ha := ha.below hb2
  replace hb := hb.below hb2
  replace Ra := Ra.below hb2
  replace qa0 := cbl hb2 qa0
  replace qa1 := cbl hb2 qa1
  replace Rb := Rb.below hb2
  replace qb0 := cbl hb2 qb0
  replace qb1 := cbl hb2 qb1
  replace Rr := Rr.below hb2
  replace qr0 := cbl hb2 qr0
  replace qr1 := cbl hb2 qr1
  replace HBT := Below.cons HBT hb2
  clear hb2
  go_wp2_with (fail)
  obtain ⟨z, Ez⟩ : ∃ zq : Int, zq = ival (sg b) n := ⟨_, rfl⟩
  refine (Calls.mono (R := RetI W2 z) (by rw [Ez]; with_reducible exact (rz_c (sg b) Xn cn n _ hn (by omega))) ?_)
  replace Ez := Lib.hid Ez
  rintro e W3 ⟨Xz, cz, rfl, hz, hb3⟩
  replace ha := ha.below hb3
  replace hb := hb.below hb3
  replace Ra := Ra.below hb3
  replace qa0 := cbl hb3 qa0
  replace qa1 := cbl hb3 qa1
  replace Rb := Rb.below hb3
  replace qb0 := cbl hb3 qb0
  replace qb1 := cbl hb3 qb1
  replace Rr := Rr.below hb3
  replace qr0 := cbl hb3 qr0
  replace qr1 := cbl hb3 qr1
  replace hn := hn.below hb3
  replace HBT := Below.cons HBT hb3
  clear hb3
  have fzr0 := Rr.f (i := 0)
  have fzr1 := Rr.f (i := 1)
  go_wp2_with (fail)
  have hzz : z = a + b := by rw [Ez.out, En.out]; exact hv.out
  subst hzz
  have RS := Rr.store2 (.bool (sg ((a + b)))) (.slice Xz (nl (mg ((a + b)))) cz)
  have e0 := RS.c (i := 0) rfl
  have e1 := RS.c (i := 1) rfl
  refine bodyPost_ret (v := .agg #[.bool (sg ((a + b))), .slice Xz (nl (mg ((a + b)))) cz]) (by simp [results, Tryz.results125, go_sem, e0, e1]) rfl ?_
  exact ⟨Xz, cz, rfl, (Rr.keep2 (nuB rfl) hz), (Below.store2 HBT (by first | exact Nat.le_refl _ | omega))⟩
theorem zadd_c (aA : Option Addr) (ac : Nat) (a : Int) (bA : Option Addr) (bc : Nat) (b : Int) (w : World) (ha : NatV w aA ac (mg a)) (hb : NatV w bA bc (mg b)) (la : nl (mg a) ≤ 1048576) (lb : nl (mg b) ≤ 1048576) :
    Calls Tryz.prog 125 #[.agg #[.bool (sg a), .slice aA (nl (mg a)) ac], .agg #[.bool (sg b), .slice bA (nl (mg b)) bc]] w (RetI w (a + b)) := by
  by_cases h : sg a = sg b
  · exact zadd_same aA ac a bA bc b w ha hb la lb h
  · by_cases h2 : mg b ≤ mg a
    · exact zadd_ge aA ac a bA bc b w ha hb la lb h h2
    · exact zadd_lt aA ac a bA bc b w ha hb la lb h (by omega)
theorem ival_mul (a b : Int) : ival (sg a != sg b) (mg a * mg b) = a * b := by
  unfold ival sg mg
  rw [Int.natCast_mul]
  rcases Int.lt_or_le a 0 with h | h <;> rcases Int.lt_or_le b 0 with k | k
  · have e1 : (a.natAbs : Int) = -a := by omega
    have e2 : (b.natAbs : Int) = -b := by omega
    rw [e1, e2]; simp [h, k, Int.neg_mul, Int.mul_neg]
  · have e1 : (a.natAbs : Int) = -a := by omega
    have e2 : (b.natAbs : Int) = b := by omega
    rw [e1, e2]; simp [h, show ¬ b < 0 by omega, Int.neg_mul, Int.mul_neg]
  · have e1 : (a.natAbs : Int) = a := by omega
    have e2 : (b.natAbs : Int) = -b := by omega
    rw [e1, e2]; simp [k, show ¬ a < 0 by omega, Int.neg_mul, Int.mul_neg]
  · have e1 : (a.natAbs : Int) = a := by omega
    have e2 : (b.natAbs : Int) = b := by omega
    rw [e1, e2]; simp [show ¬ a < 0 by omega, show ¬ b < 0 by omega]
theorem zmul_c (aA : Option Addr) (ac : Nat) (a : Int) (bA : Option Addr) (bc : Nat) (b : Int) (w : World) (ha : NatV w aA ac (mg a)) (hb : NatV w bA bc (mg b)) (la : nl (mg a) ≤ 1048576) (lb : nl (mg b) ≤ 1048576) :
    Calls Tryz.prog 121 #[.agg #[.bool (sg a), .slice aA (nl (mg a)) ac], .agg #[.bool (sg b), .slice bA (nl (mg b)) bc]] w (RetI w (a * b)) := by
  obtain ⟨ns, Ens⟩ : ∃ x, x = (sg a != sg b) := ⟨_, rfl⟩
  have Ins : (sg a != sg b) = ns := Ens.symm
  have Ins2 : (!(sg a == sg b)) = ns := Ens.symm
  have hv := ival_mul a b
  rw [Ins] at hv
  replace hv := Lib.hid hv
  replace Ens := Lib.hid Ens
  obtain ⟨hb1, Ra, Rb, Rr⟩ := bx3 w #[.bool (sg a), .slice aA (nl (mg a)) ac] 24 #[.bool (sg b), .slice bA (nl (mg b)) bc] 24 #[.bool false, .slice none 0 0] 24
  replace ha := ha.below hb1
  replace hb := hb.below hb1
  have HBT := hb1
  clear hb1
  have qa0 := Ra.c (i := 0) rfl
  have qa1 := Ra.c (i := 1) rfl
  have qb0 := Rb.c (i := 0) rfl
  have qb1 := Rb.c (i := 1) rfl
  have qr0 := Rr.c (i := 0) rfl
  have qr1 := Rr.c (i := 1) rfl
  go_enter Tryz.func121, Tryz.ntmps121
  go_wp2_with (fail)
  have hd2 := drb ((((w.alloc (.cells #[.bool (sg a), .slice aA (nl (mg a)) ac] 24)).alloc (.cells #[.bool (sg b), .slice bA (nl (mg b)) bc] 24)).alloc (.cells #[.bool false, .slice none 0 0] 24)))
  replace ha := ha.below hd2
  replace hb := hb.below hd2
  replace Ra := Ra.below hd2
  replace qa0 := cbl hd2 qa0
  replace qa1 := cbl hd2 qa1
  replace Rb := Rb.below hd2
  replace qb0 := cbl hd2 qb0
  replace qb1 := cbl hd2 qb1
  replace Rr := Rr.below hd2
  replace qr0 := cbl hd2 qr0
  replace qr1 := cbl hd2 qr1
  replace HBT := Below.cons HBT hd2
  clear hd2
  obtain ⟨n, En⟩ : ∃ zq : Nat, zq = mg a * mg b := ⟨_, rfl⟩
  have Bn : nl n ≤ 2097154 := by rw [En]; have := nl_mul (mg a) (mg b); omega
  have C2_0 := fun (W : World) (h1 : NatV W aA ac (mg a)) (h2 : NatV W bA bc (mg b)) => rmul_c aA ac (mg a) bA bc (mg b) W h1 h2 (by omega) (by omega)
  simp only [← En] at C2_0
  replace En := Lib.hid En
  replace C2_0 := Lib.hid C2_0
  obtain ⟨z, Ez⟩ : ∃ zq : Int, zq = ival ns n := ⟨_, rfl⟩
  have C2_1 := fun (W : World) (A : Option Addr) (c : Nat) (h1 : NatV W A c n) => rz_c ns A c n W h1 (by omega)
  simp only [← Ez] at C2_1
  replace Ez := Lib.hid Ez
  replace C2_1 := Lib.hid C2_1
  go_region_held3 (fun W => W.cell? ⟨w.heap.size, 0, none⟩ = some (.bool (sg a)) ∧ W.cell? ⟨(w.heap.size + 1), 0, none⟩ = some (.bool (sg b)) ∧ W.cell? ⟨w.heap.size, 1, none⟩ = some (.slice aA (nl (mg a)) ac) ∧ W.cell? ⟨(w.heap.size + 1), 1, none⟩ = some (.slice bA (nl (mg b)) bc))
    (first
      | exact ⟨qa0, qb0, qa1, qb1⟩
      | exact ⟨qa0_3, qb0_3, qa1_3, qb1_3⟩
      | exact ⟨qa0_4, qb0_4, qa1_4, qb1_4⟩
      | exact ⟨((Ra_4.other2 (by simp <;> omega)).c (i := 0) rfl), ((Rb_4.other2 (by simp <;> omega)).c (i := 0) rfl), ((Ra_4.other2 (by simp <;> omega)).c (i := 1) rfl), ((Rb_4.other2 (by simp <;> omega)).c (i := 1) rfl)⟩
      | go_keep)
    (first
      | (go_at_call 107; (with_reducible refine (C2_0.out _ ha hb).mono ?_); rintro e W3 ⟨Xn, cn, rfl, hn, hb3⟩; have ha_3 := ha.below hb3; have hb_3 := hb.below hb3; have Ra_3 := Ra.below hb3; have qa0_3 := cbl hb3 qa0; have qa1_3 := cbl hb3 qa1; have Rb_3 := Rb.below hb3; have qb0_3 := cbl hb3 qb0; have qb1_3 := cbl hb3 qb1; have Rr_3 := Rr.below hb3; have qr0_3 := cbl hb3 qr0; have qr1_3 := cbl hb3 qr1; have HBT_3 := Below.cons HBT hb3)
      | (go_at_call 56; (with_reducible refine (C2_1.out _ _ _ hn).mono ?_); rintro e W4 ⟨Xz, cz, rfl, hz, hb4⟩; have ha_4 := ha_3.below hb4; have hb_4 := hb_3.below hb4; have Ra_4 := Ra_3.below hb4; have qa0_4 := cbl hb4 qa0_3; have qa1_4 := cbl hb4 qa1_3; have Rb_4 := Rb_3.below hb4; have qb0_4 := cbl hb4 qb0_3; have qb1_4 := cbl hb4 qb1_3; have Rr_4 := Rr_3.below hb4; have qr0_4 := cbl hb4 qr0_3; have qr1_4 := cbl hb4 qr1_3; have hn_4 := hn.below hb4; have HBT_4 := Below.cons HBT_3 hb4; have fz0 := Rr_4.f (i := 0); have fz1 := Rr_4.f (i := 1)))
  all_goals (try go_wp2_with (fail))
  have hzz : z = a * b := by rw [Ez.out, En.out]; exact hv.out
  subst hzz
  have RS := Rr_4.store2 (.bool (sg ((a * b)))) (.slice Xz (nl (mg ((a * b)))) cz)
  have e0 := RS.c (i := 0) rfl
  have e1 := RS.c (i := 1) rfl
  refine bodyPost_ret (v := .agg #[.bool (sg ((a * b))), .slice Xz (nl (mg ((a * b)))) cz]) (by simp [results, Tryz.results121, go_sem, e0, e1]) rfl ?_
  exact ⟨Xz, cz, rfl, (Rr_4.keep2 (nuB rfl) hz), (Below.store2 HBT_4 (by first | exact Nat.le_refl _ | omega))⟩
end Go.Proofs.YthcmoimlnhghcaaGreatDoor

/- The document's whole numbers, walked: DivMod, Exact. -/
set_option linter.unusedVariables false
set_option linter.unusedSimpArgs false
namespace Go.Proofs.YthcmoimlnhghcaaGreatDoor
open Go.RowKit Go.Shelf
attribute [local go_sem] max2_i min2_i max_two min_two

theorem cell_other2 {W : World} {j i k : Nat} {v v0 v1 : Value} (h : W.cell? ⟨j, i, none⟩ = some v) (hne : j ≠ k) : ((W.setCell ⟨k, 0, none⟩ v0).setCell ⟨k, 1, none⟩ v1).cell? ⟨j, i, none⟩ = some v := by
  unfold World.cell? at h ⊢
  rw [set2_far j hne]; exact h
theorem zdiv_f (aA : Option Addr) (ac : Nat) (a : Int) (bA : Option Addr) (bc : Nat) (b : Int) (w : World) (ha : NatV w aA ac (mg a)) (hb : NatV w bA bc (mg b)) (la : nl (mg a) ≤ 1048576) (lb : nl (mg b) ≤ 1048576) (hb0 : b ≠ 0) (h : 0 ≤ a) :
    Calls Tryz.prog 101 #[.agg #[.bool (sg a), .slice aA (nl (mg a)) ac], .agg #[.bool (sg b), .slice bA (nl (mg b)) bc]] w (RetII w (a / b) (a % b)) := by
  have pb : 0 < mg b := mg_pos.2 hb0
  have hv := dm_plain hb0 (.inl h)
  obtain ⟨q, Eq⟩ : ∃ zq : Nat, zq = mg a / mg b := ⟨_, rfl⟩
  obtain ⟨r, Er⟩ : ∃ zq : Nat, zq = mg a % mg b := ⟨_, rfl⟩
  have Bq : nl q ≤ 1048576 := by rw [Eq]; have := nl_div (mg a) (mg b); omega
  have Br : nl r ≤ 1048576 := by rw [Er]; have := nl_mod_le (mg a) (mg b); omega
  have hrb : r ≤ mg b := by rw [Er]; exact Nat.le_of_lt (Nat.mod_lt _ pb)
  have ta : sg a = false := sg_f h
  rw [show (sg a != sg b) = sg b by rw [ta]; simp, ← Eq, ← Er] at hv
  replace hv := Lib.hid hv
  replace h := Lib.hid h
  obtain ⟨hb1, Ra, Rb, Rr, Rs⟩ := bx4 w #[.bool false, .slice aA (nl (mg a)) ac] 24 #[.bool (sg b), .slice bA (nl (mg b)) bc] 24 #[.bool false, .slice none 0 0] 24 #[.bool false, .slice none 0 0] 24
  replace ha := ha.below hb1
  replace hb := hb.below hb1
  have HBT := hb1
  clear hb1
  have qa0 := Ra.c (i := 0) rfl
  have qa1 := Ra.c (i := 1) rfl
  have qb0 := Rb.c (i := 0) rfl
  have qb1 := Rb.c (i := 1) rfl
  have qr0 := Rr.c (i := 0) rfl
  have qr1 := Rr.c (i := 1) rfl
  have qs0 := Rs.c (i := 0) rfl
  have qs1 := Rs.c (i := 1) rfl
  go_enter Tryz.func101, Tryz.ntmps101
  go_wp2_with (fail)
  have CD := rdiv_c aA ac (mg a) bA bc (mg b) _ ha hb (by omega) (by omega) pb
  rw [← Eq, ← Er] at CD
  replace Eq := Lib.hid Eq
  replace Er := Lib.hid Er
  refine (Calls.mono CD ?_)
  clear CD
  rintro e W2 ⟨Xq, cq, Xr, cr, rfl, hq, hr, hb2⟩
  replace ha := ha.below hb2
  replace hb := hb.below hb2
  replace Ra := Ra.below hb2
  replace qa0 := cbl hb2 qa0
  replace qa1 := cbl hb2 qa1
  replace Rb := Rb.below hb2
  replace qb0 := cbl hb2 qb0
  replace qb1 := cbl hb2 qb1
  replace Rr := Rr.below hb2
  replace qr0 := cbl hb2 qr0
  replace qr1 := cbl hb2 qr1
  replace Rs := Rs.below hb2
  replace qs0 := cbl hb2 qs0
  replace qs1 := cbl hb2 qs1
  replace HBT := Below.cons HBT hb2
  clear hb2
  go_wp2_with (fail)
  obtain ⟨x, Ex⟩ : ∃ zq : Int, zq = ival (sg b) q := ⟨_, rfl⟩
  refine (Calls.mono (R := RetI W2 x) (by rw [Ex]; with_reducible exact (rz_c (sg b) Xq cq q _ hq (by omega))) ?_)
  replace Ex := Lib.hid Ex
  rintro e W3 ⟨Xx, cx, rfl, hx, hb3⟩
  replace ha := ha.below hb3
  replace hb := hb.below hb3
  replace Ra := Ra.below hb3
  replace qa0 := cbl hb3 qa0
  replace qa1 := cbl hb3 qa1
  replace Rb := Rb.below hb3
  replace qb0 := cbl hb3 qb0
  replace qb1 := cbl hb3 qb1
  replace Rr := Rr.below hb3
  replace qr0 := cbl hb3 qr0
  replace qr1 := cbl hb3 qr1
  replace Rs := Rs.below hb3
  replace qs0 := cbl hb3 qs0
  replace qs1 := cbl hb3 qs1
  replace hq := hq.below hb3
  replace hr := hr.below hb3
  replace HBT := Below.cons HBT hb3
  clear hb3
  go_wp2_with (fail)
  obtain ⟨y, Ey⟩ : ∃ zq : Int, zq = ival false r := ⟨_, rfl⟩
  refine (Calls.mono (R := RetI W3 y) (by rw [Ey]; with_reducible exact (rz_c false Xr cr r _ hr (by omega))) ?_)
  replace Ey := Lib.hid Ey
  rintro e W4 ⟨Xy, cy, rfl, hy, hb4⟩
  replace ha := ha.below hb4
  replace hb := hb.below hb4
  replace Ra := Ra.below hb4
  replace qa0 := cbl hb4 qa0
  replace qa1 := cbl hb4 qa1
  replace Rb := Rb.below hb4
  replace qb0 := cbl hb4 qb0
  replace qb1 := cbl hb4 qb1
  replace Rr := Rr.below hb4
  replace qr0 := cbl hb4 qr0
  replace qr1 := cbl hb4 qr1
  replace Rs := Rs.below hb4
  replace qs0 := cbl hb4 qs0
  replace qs1 := cbl hb4 qs1
  replace hq := hq.below hb4
  replace hr := hr.below hb4
  replace hx := hx.below hb4
  replace HBT := Below.cons HBT hb4
  clear hb4
  have hzx : x = a / b := by rw [Ex.out]; exact hv.out.1
  subst hzx
  have hzy : y = a % b := by rw [Ey.out]; exact hv.out.2
  subst hzy
  have fzr0 := Rr.f (i := 0)
  have fzr1 := Rr.f (i := 1)
  have fzs0 := Rs.f (i := 0)
  have fzs1 := Rs.f (i := 1)
  go_wp2_with (fail)
  have RU := Rr.store2 (.bool (sg ((a / b)))) (.slice Xx (nl (mg ((a / b)))) cx)
  have RV := (Rs.other2 (v0 := .bool (sg ((a / b)))) (v1 := .slice Xx (nl (mg ((a / b)))) cx) (show (w.heap.size + 1 + 1 + 1) ≠ (w.heap.size + 1 + 1) by omega)).store2 (.bool (sg ((a % b)))) (.slice Xy (nl (mg ((a % b)))) cy)
  have RU2 := RU.other2 (v0 := .bool (sg ((a % b)))) (v1 := .slice Xy (nl (mg ((a % b)))) cy) (show (w.heap.size + 1 + 1) ≠ (w.heap.size + 1 + 1 + 1) by omega)
  have e0 := RU2.c (i := 0) rfl
  have g0 := RV.c (i := 0) rfl
  have e1 := RU2.c (i := 1) rfl
  have g1 := RV.c (i := 1) rfl
  refine bodyPost_ret (v := .tuple #[.agg #[.bool (sg ((a / b))), .slice Xx (nl (mg ((a / b)))) cx], .agg #[.bool (sg ((a % b))), .slice Xy (nl (mg ((a % b)))) cy], .int .i64 0]) (by simp [results, Tryz.results101, go_sem, e0, e1, g0, g1]) rfl ?_
  exact ⟨Xx, cx, Xy, cy, rfl, ((Rs.other2 (v0 := .bool (sg ((a / b)))) (v1 := .slice Xx (nl (mg ((a / b)))) cx) (show (w.heap.size + 1 + 1 + 1) ≠ (w.heap.size + 1 + 1) by omega)).keep2 (nuB rfl) (Rr.keep2 (nuB rfl) hx)), ((Rs.other2 (v0 := .bool (sg ((a / b)))) (v1 := .slice Xx (nl (mg ((a / b)))) cx) (show (w.heap.size + 1 + 1 + 1) ≠ (w.heap.size + 1 + 1) by omega)).keep2 (nuB rfl) (Rr.keep2 (nuB rfl) hy)), Below.store2 (Below.store2 HBT (by omega)) (by omega)⟩
theorem zdiv_z (aA : Option Addr) (ac : Nat) (a : Int) (bA : Option Addr) (bc : Nat) (b : Int) (w : World) (ha : NatV w aA ac (mg a)) (hb : NatV w bA bc (mg b)) (la : nl (mg a) ≤ 1048576) (lb : nl (mg b) ≤ 1048576) (hb0 : b ≠ 0) (h : a < 0) (h2 : mg a % mg b = 0) :
    Calls Tryz.prog 101 #[.agg #[.bool (sg a), .slice aA (nl (mg a)) ac], .agg #[.bool (sg b), .slice bA (nl (mg b)) bc]] w (RetII w (a / b) (a % b)) := by
  have pb : 0 < mg b := mg_pos.2 hb0
  have hv := dm_plain hb0 (.inr h2)
  obtain ⟨q, Eq⟩ : ∃ zq : Nat, zq = mg a / mg b := ⟨_, rfl⟩
  obtain ⟨r, Er⟩ : ∃ zq : Nat, zq = mg a % mg b := ⟨_, rfl⟩
  have Bq : nl q ≤ 1048576 := by rw [Eq]; have := nl_div (mg a) (mg b); omega
  have Br : nl r ≤ 1048576 := by rw [Er]; have := nl_mod_le (mg a) (mg b); omega
  have hrb : r ≤ mg b := by rw [Er]; exact Nat.le_of_lt (Nat.mod_lt _ pb)
  have ta : sg a = true := sg_t h
  obtain ⟨n, En⟩ : ∃ n : Bool, n = !sg b := ⟨_, rfl⟩
  have In : (!sg b) = n := En.symm
  rw [show (sg a != sg b) = n by rw [ta, ← In]; simp, ← Eq, ← Er] at hv
  replace hv := Lib.hid hv
  replace En := Lib.hid En
  rw [← Er] at h2
  have t1 : ((nl r : Int) == 0) = true := ieqT (by rw [h2, nl_zero]; rfl)
  have t2 : (nl r == 0) = true := by rw [h2, nl_zero]; rfl
  replace h2 := Lib.hid h2
  replace h := Lib.hid h
  obtain ⟨hb1, Ra, Rb, Rr, Rs⟩ := bx4 w #[.bool true, .slice aA (nl (mg a)) ac] 24 #[.bool (sg b), .slice bA (nl (mg b)) bc] 24 #[.bool false, .slice none 0 0] 24 #[.bool false, .slice none 0 0] 24
  replace ha := ha.below hb1
  replace hb := hb.below hb1
  have HBT := hb1
  clear hb1
  have qa0 := Ra.c (i := 0) rfl
  have qa1 := Ra.c (i := 1) rfl
  have qb0 := Rb.c (i := 0) rfl
  have qb1 := Rb.c (i := 1) rfl
  have qr0 := Rr.c (i := 0) rfl
  have qr1 := Rr.c (i := 1) rfl
  have qs0 := Rs.c (i := 0) rfl
  have qs1 := Rs.c (i := 1) rfl
  go_enter Tryz.func101, Tryz.ntmps101
  go_wp2_with (fail)
  have CD := rdiv_c aA ac (mg a) bA bc (mg b) _ ha hb (by omega) (by omega) pb
  rw [← Eq, ← Er] at CD
  replace Eq := Lib.hid Eq
  replace Er := Lib.hid Er
  refine (Calls.mono CD ?_)
  clear CD
  rintro e W2 ⟨Xq, cq, Xr, cr, rfl, hq, hr, hb2⟩
  replace ha := ha.below hb2
  replace hb := hb.below hb2
  replace Ra := Ra.below hb2
  replace qa0 := cbl hb2 qa0
  replace qa1 := cbl hb2 qa1
  replace Rb := Rb.below hb2
  replace qb0 := cbl hb2 qb0
  replace qb1 := cbl hb2 qb1
  replace Rr := Rr.below hb2
  replace qr0 := cbl hb2 qr0
  replace qr1 := cbl hb2 qr1
  replace Rs := Rs.below hb2
  replace qs0 := cbl hb2 qs0
  replace qs1 := cbl hb2 qs1
  replace HBT := Below.cons HBT hb2
  clear hb2
  go_wp2_with (fail)
  obtain ⟨x, Ex⟩ : ∃ zq : Int, zq = ival n q := ⟨_, rfl⟩
  refine (Calls.mono (R := RetI W2 x) (by rw [Ex]; with_reducible exact (rz_c n Xq cq q _ hq (by omega))) ?_)
  replace Ex := Lib.hid Ex
  rintro e W3 ⟨Xx, cx, rfl, hx, hb3⟩
  replace ha := ha.below hb3
  replace hb := hb.below hb3
  replace Ra := Ra.below hb3
  replace qa0 := cbl hb3 qa0
  replace qa1 := cbl hb3 qa1
  replace Rb := Rb.below hb3
  replace qb0 := cbl hb3 qb0
  replace qb1 := cbl hb3 qb1
  replace Rr := Rr.below hb3
  replace qr0 := cbl hb3 qr0
  replace qr1 := cbl hb3 qr1
  replace Rs := Rs.below hb3
  replace qs0 := cbl hb3 qs0
  replace qs1 := cbl hb3 qs1
  replace hq := hq.below hb3
  replace hr := hr.below hb3
  replace HBT := Below.cons HBT hb3
  clear hb3
  go_wp2_with (fail)
  obtain ⟨y, Ey⟩ : ∃ zq : Int, zq = ival false r := ⟨_, rfl⟩
  refine (Calls.mono (R := RetI W3 y) (by rw [Ey]; with_reducible exact (rz_c false Xr cr r _ hr (by omega))) ?_)
  replace Ey := Lib.hid Ey
  rintro e W4 ⟨Xy, cy, rfl, hy, hb4⟩
  replace ha := ha.below hb4
  replace hb := hb.below hb4
  replace Ra := Ra.below hb4
  replace qa0 := cbl hb4 qa0
  replace qa1 := cbl hb4 qa1
  replace Rb := Rb.below hb4
  replace qb0 := cbl hb4 qb0
  replace qb1 := cbl hb4 qb1
  replace Rr := Rr.below hb4
  replace qr0 := cbl hb4 qr0
  replace qr1 := cbl hb4 qr1
  replace Rs := Rs.below hb4
  replace qs0 := cbl hb4 qs0
  replace qs1 := cbl hb4 qs1
  replace hq := hq.below hb4
  replace hr := hr.below hb4
  replace hx := hx.below hb4
  replace HBT := Below.cons HBT hb4
  clear hb4
  have hzx : x = a / b := by rw [Ex.out]; exact hv.out.1
  subst hzx
  have hzy : y = a % b := by rw [Ey.out]; exact hv.out.2
  subst hzy
  have fzr0 := Rr.f (i := 0)
  have fzr1 := Rr.f (i := 1)
  have fzs0 := Rs.f (i := 0)
  have fzs1 := Rs.f (i := 1)
  go_wp2_with (fail)
  have RU := Rr.store2 (.bool (sg ((a / b)))) (.slice Xx (nl (mg ((a / b)))) cx)
  have RV := (Rs.other2 (v0 := .bool (sg ((a / b)))) (v1 := .slice Xx (nl (mg ((a / b)))) cx) (show (w.heap.size + 1 + 1 + 1) ≠ (w.heap.size + 1 + 1) by omega)).store2 (.bool (sg ((a % b)))) (.slice Xy (nl (mg ((a % b)))) cy)
  have RU2 := RU.other2 (v0 := .bool (sg ((a % b)))) (v1 := .slice Xy (nl (mg ((a % b)))) cy) (show (w.heap.size + 1 + 1) ≠ (w.heap.size + 1 + 1 + 1) by omega)
  have e0 := RU2.c (i := 0) rfl
  have g0 := RV.c (i := 0) rfl
  have e1 := RU2.c (i := 1) rfl
  have g1 := RV.c (i := 1) rfl
  refine bodyPost_ret (v := .tuple #[.agg #[.bool (sg ((a / b))), .slice Xx (nl (mg ((a / b)))) cx], .agg #[.bool (sg ((a % b))), .slice Xy (nl (mg ((a % b)))) cy], .int .i64 0]) (by simp [results, Tryz.results101, go_sem, e0, e1, g0, g1]) rfl ?_
  exact ⟨Xx, cx, Xy, cy, rfl, ((Rs.other2 (v0 := .bool (sg ((a / b)))) (v1 := .slice Xx (nl (mg ((a / b)))) cx) (show (w.heap.size + 1 + 1 + 1) ≠ (w.heap.size + 1 + 1) by omega)).keep2 (nuB rfl) (Rr.keep2 (nuB rfl) hx)), ((Rs.other2 (v0 := .bool (sg ((a / b)))) (v1 := .slice Xx (nl (mg ((a / b)))) cx) (show (w.heap.size + 1 + 1 + 1) ≠ (w.heap.size + 1 + 1) by omega)).keep2 (nuB rfl) (Rr.keep2 (nuB rfl) hy)), Below.store2 (Below.store2 HBT (by omega)) (by omega)⟩
theorem zdiv_t (aA : Option Addr) (ac : Nat) (a : Int) (bA : Option Addr) (bc : Nat) (b : Int) (w : World) (ha : NatV w aA ac (mg a)) (hb : NatV w bA bc (mg b)) (la : nl (mg a) ≤ 1048576) (lb : nl (mg b) ≤ 1048576) (hb0 : b ≠ 0) (h : a < 0) (h2 : mg a % mg b ≠ 0) :
    Calls Tryz.prog 101 #[.agg #[.bool (sg a), .slice aA (nl (mg a)) ac], .agg #[.bool (sg b), .slice bA (nl (mg b)) bc]] w (RetII w (a / b) (a % b)) := by
  have pb : 0 < mg b := mg_pos.2 hb0
  have hv := dm_below hb0 h h2
  obtain ⟨q, Eq⟩ : ∃ zq : Nat, zq = mg a / mg b := ⟨_, rfl⟩
  obtain ⟨r, Er⟩ : ∃ zq : Nat, zq = mg a % mg b := ⟨_, rfl⟩
  have Bq : nl q ≤ 1048576 := by rw [Eq]; have := nl_div (mg a) (mg b); omega
  have Br : nl r ≤ 1048576 := by rw [Er]; have := nl_mod_le (mg a) (mg b); omega
  have hrb : r ≤ mg b := by rw [Er]; exact Nat.le_of_lt (Nat.mod_lt _ pb)
  have ta : sg a = true := sg_t h
  obtain ⟨n, En⟩ : ∃ n : Bool, n = !sg b := ⟨_, rfl⟩
  have In : (!sg b) = n := En.symm
  rw [show (sg a != sg b) = n by rw [ta, ← In]; simp, ← Eq, ← Er] at hv
  replace hv := Lib.hid hv
  replace En := Lib.hid En
  rw [← Er] at h2
  have t1 : ((nl r : Int) == 0) = false := ieqF (by have := nl_pos.2 h2; omega)
  have t2 : (nl r == 0) = false := by have := nl_pos.2 h2; simp; omega
  replace h2 := Lib.hid h2
  replace h := Lib.hid h
  obtain ⟨hb1, Ra, Rb, Rr, Rs⟩ := bx4 w #[.bool true, .slice aA (nl (mg a)) ac] 24 #[.bool (sg b), .slice bA (nl (mg b)) bc] 24 #[.bool false, .slice none 0 0] 24 #[.bool false, .slice none 0 0] 24
  replace ha := ha.below hb1
  replace hb := hb.below hb1
  have HBT := hb1
  clear hb1
  have qa0 := Ra.c (i := 0) rfl
  have qa1 := Ra.c (i := 1) rfl
  have qb0 := Rb.c (i := 0) rfl
  have qb1 := Rb.c (i := 1) rfl
  have qr0 := Rr.c (i := 0) rfl
  have qr1 := Rr.c (i := 1) rfl
  have qs0 := Rs.c (i := 0) rfl
  have qs1 := Rs.c (i := 1) rfl
  go_enter Tryz.func101, Tryz.ntmps101
  go_wp2_with (fail)
  have CD := rdiv_c aA ac (mg a) bA bc (mg b) _ ha hb (by omega) (by omega) pb
  rw [← Eq, ← Er] at CD
  replace Eq := Lib.hid Eq
  replace Er := Lib.hid Er
  refine (Calls.mono CD ?_)
  clear CD
  rintro e W2 ⟨Xq, cq, Xr, cr, rfl, hq, hr, hb2⟩
  replace ha := ha.below hb2
  replace hb := hb.below hb2
  replace Ra := Ra.below hb2
  replace qa0 := cbl hb2 qa0
  replace qa1 := cbl hb2 qa1
  replace Rb := Rb.below hb2
  replace qb0 := cbl hb2 qb0
  replace qb1 := cbl hb2 qb1
  replace Rr := Rr.below hb2
  replace qr0 := cbl hb2 qr0
  replace qr1 := cbl hb2 qr1
  replace Rs := Rs.below hb2
  replace qs0 := cbl hb2 qs0
  replace qs1 := cbl hb2 qs1
  replace HBT := Below.cons HBT hb2
  clear hb2
  go_wp2_with (fail)
  obtain ⟨r2, Er2⟩ : ∃ zq : Nat, zq = mg b - r := ⟨_, rfl⟩
  have Br2 : nl r2 ≤ 1048576 := by rw [Er2]; have := nl_sub (mg b) r; omega
  have CS := rsub_c bA bc (mg b) Xr cr r _ hb hr (by omega) (by omega) hrb
  rw [← Er2] at CS
  replace Er2 := Lib.hid Er2
  refine (Calls.mono CS ?_)
  clear CS
  rintro e W3 ⟨Xr2, cr2, rfl, hr2, hb3⟩
  replace ha := ha.below hb3
  replace hb := hb.below hb3
  replace Ra := Ra.below hb3
  replace qa0 := cbl hb3 qa0
  replace qa1 := cbl hb3 qa1
  replace Rb := Rb.below hb3
  replace qb0 := cbl hb3 qb0
  replace qb1 := cbl hb3 qb1
  replace Rr := Rr.below hb3
  replace qr0 := cbl hb3 qr0
  replace qr1 := cbl hb3 qr1
  replace Rs := Rs.below hb3
  replace qs0 := cbl hb3 qs0
  replace qs1 := cbl hb3 qs1
  replace hq := hq.below hb3
  replace hr := hr.below hb3
  replace HBT := Below.cons HBT hb3
  clear hb3
  go_wp2_with (fail)
  have hd4 := drb (W3)
  replace ha := ha.below hd4
  replace hb := hb.below hd4
  replace Ra := Ra.below hd4
  replace qa0 := cbl hd4 qa0
  replace qa1 := cbl hd4 qa1
  replace Rb := Rb.below hd4
  replace qb0 := cbl hd4 qb0
  replace qb1 := cbl hd4 qb1
  replace Rr := Rr.below hd4
  replace qr0 := cbl hd4 qr0
  replace qr1 := cbl hd4 qr1
  replace Rs := Rs.below hd4
  replace qs0 := cbl hd4 qs0
  replace qs1 := cbl hd4 qs1
  replace hq := hq.below hd4
  replace hr := hr.below hd4
  replace hr2 := hr2.below hd4
  replace HBT := Below.cons HBT hd4
  clear hd4
  replace qb0 : (W3).drew.cell? ⟨(w.heap.size + 1), 0, none⟩ = some (.bool (sg b)) := qb0
  have k0qb0 := qb0
  have neqb0r : (w.heap.size + 1) ≠ (w.heap.size + 1 + 1) := by omega
  have neqb0s : (w.heap.size + 1) ≠ (w.heap.size + 1 + 1 + 1) := by omega
  have hl4 : Below (W3).drew.heap.size (W3).drew ((W3).alloc (.cells #[.int .u32 1] 65)).drew := (show Below (W3).drew.heap.size (W3).drew ((W3).drew.alloc (.cells #[.int .u32 1] 65)) from (Below.refl _ _).alloc (Nat.le_refl _) _)
  replace ha := ha.below hl4
  replace hb := hb.below hl4
  replace Ra := Ra.below hl4
  replace qa0 := cbl hl4 qa0
  replace qa1 := cbl hl4 qa1
  replace Rb := Rb.below hl4
  replace qb0 := cbl hl4 qb0
  replace qb1 := cbl hl4 qb1
  replace Rr := Rr.below hl4
  replace qr0 := cbl hl4 qr0
  replace qr1 := cbl hl4 qr1
  replace Rs := Rs.below hl4
  replace qs0 := cbl hl4 qs0
  replace qs1 := cbl hl4 qs1
  replace hq := hq.below hl4
  replace hr := hr.below hl4
  replace hr2 := hr2.below hl4
  replace HBT := Below.cons HBT hl4
  clear hl4
  have hlit : ((W3).alloc (.cells #[.int .u32 1] 65)).drew.heap[(W3).heap.size]? = _ := heap_alloc_new (W3) (.cells #[.int .u32 1] 65)
  replace hlit := Lib.hid hlit
  obtain ⟨q2, Eq2⟩ : ∃ zq : Nat, zq = q + 1 := ⟨_, rfl⟩
  have Bq2 : nl q2 ≤ 1048577 := by rw [Eq2]; have := nl_add q 1; rw [nl_one] at this; omega
  have C4_0 := fun (W : World) (B : Option Addr) (d : Nat) (h1 : NatV W Xq cq q) (h2 : NatV W B d 1) => (show Calls Tryz.prog 131 #[.slice Xq (nl q) cq, .slice B 1 d] W (RetN W (q + 1)) by have := radd_c Xq cq q B d 1 W h1 h2 (by omega) (by rw [nl_one]; decide); rwa [nl_one] at this)
  simp only [← Eq2] at C4_0
  replace Eq2 := Lib.hid Eq2
  replace C4_0 := Lib.hid C4_0
  obtain ⟨x, Ex⟩ : ∃ zq : Int, zq = ival n q2 := ⟨_, rfl⟩
  have C4_1 := fun (W : World) (A : Option Addr) (c : Nat) (h1 : NatV W A c q2) => rz_c n A c q2 W h1 (by omega)
  simp only [← Ex] at C4_1
  replace Ex := Lib.hid Ex
  replace C4_1 := Lib.hid C4_1
  obtain ⟨y, Ey⟩ : ∃ zq : Int, zq = ival false r2 := ⟨_, rfl⟩
  have C4_2 := fun (W : World) (h1 : NatV W Xr2 cr2 r2) => rz_c false Xr2 cr2 r2 W h1 (by omega)
  simp only [← Ey] at C4_2
  replace Ey := Lib.hid Ey
  replace C4_2 := Lib.hid C4_2
  go_region_held3 (fun W => W.cell? ⟨(w.heap.size + 1), 0, none⟩ = some (.bool (sg b)))
    (first
      | with_reducible exact k0qb0
      | with_reducible exact qb0
      | with_reducible exact qb0_5
      | with_reducible exact qb0_6
      | with_reducible exact qb0_7
      | with_reducible exact (cell_other2 qb0_7 neqb0r)
      | with_reducible exact (cell_other2 (cell_other2 qb0_7 neqb0r) neqb0s)
      | go_keep)
    (first
      | (go_at_call 131; (with_reducible refine (C4_0.out _ _ _ hq (nat_one _ _ hlit.out)).mono ?_); rintro e W5 ⟨Xq2, cq2, rfl, hq2, hb5⟩; have ha_5 := ha.below hb5; have hb_5 := hb.below hb5; have Ra_5 := Ra.below hb5; have qa0_5 := cbl hb5 qa0; have qa1_5 := cbl hb5 qa1; have Rb_5 := Rb.below hb5; have qb0_5 := cbl hb5 qb0; have qb1_5 := cbl hb5 qb1; have Rr_5 := Rr.below hb5; have qr0_5 := cbl hb5 qr0; have qr1_5 := cbl hb5 qr1; have Rs_5 := Rs.below hb5; have qs0_5 := cbl hb5 qs0; have qs1_5 := cbl hb5 qs1; have hq_5 := hq.below hb5; have hr_5 := hr.below hb5; have hr2_5 := hr2.below hb5; have HBT_5 := Below.cons HBT hb5)
      | (go_at_call 56; (with_reducible refine (C4_1.out _ _ _ hq2).mono ?_); rintro e W6 ⟨Xx, cx, rfl, hx, hb6⟩; have ha_6 := ha_5.below hb6; have hb_6 := hb_5.below hb6; have Ra_6 := Ra_5.below hb6; have qa0_6 := cbl hb6 qa0_5; have qa1_6 := cbl hb6 qa1_5; have Rb_6 := Rb_5.below hb6; have qb0_6 := cbl hb6 qb0_5; have qb1_6 := cbl hb6 qb1_5; have Rr_6 := Rr_5.below hb6; have qr0_6 := cbl hb6 qr0_5; have qr1_6 := cbl hb6 qr1_5; have Rs_6 := Rs_5.below hb6; have qs0_6 := cbl hb6 qs0_5; have qs1_6 := cbl hb6 qs1_5; have hq_6 := hq_5.below hb6; have hr_6 := hr_5.below hb6; have hr2_6 := hr2_5.below hb6; have hq2_6 := hq2.below hb6; have HBT_6 := Below.cons HBT_5 hb6)
      | (go_at_call 56; (with_reducible refine (C4_2.out _ hr2_6).mono ?_); rintro e W7 ⟨Xy, cy, rfl, hy, hb7⟩; have ha_7 := ha_6.below hb7; have hb_7 := hb_6.below hb7; have Ra_7 := Ra_6.below hb7; have qa0_7 := cbl hb7 qa0_6; have qa1_7 := cbl hb7 qa1_6; have Rb_7 := Rb_6.below hb7; have qb0_7 := cbl hb7 qb0_6; have qb1_7 := cbl hb7 qb1_6; have Rr_7 := Rr_6.below hb7; have qr0_7 := cbl hb7 qr0_6; have qr1_7 := cbl hb7 qr1_6; have Rs_7 := Rs_6.below hb7; have qs0_7 := cbl hb7 qs0_6; have qs1_7 := cbl hb7 qs1_6; have hq_7 := hq_6.below hb7; have hr_7 := hr_6.below hb7; have hr2_7 := hr2_6.below hb7; have hq2_7 := hq2_6.below hb7; have hx_7 := hx.below hb7; have HBT_7 := Below.cons HBT_6 hb7; have fz0 := Rr_7.f (i := 0); have fz1 := Rr_7.f (i := 1); have fy0 := Rs_7.f (i := 0); have fy1 := Rs_7.f (i := 1)))
  all_goals (try go_wp2_with (fail))
  have hzx : x = a / b := by rw [Ex.out, Eq2.out]; exact hv.out.1
  subst hzx
  have hzy : y = a % b := by rw [Ey.out, Er2.out]; exact hv.out.2
  subst hzy
  have RU := Rr_7.store2 (.bool (sg ((a / b)))) (.slice Xx (nl (mg ((a / b)))) cx)
  have RV := (Rs_7.other2 (v0 := .bool (sg ((a / b)))) (v1 := .slice Xx (nl (mg ((a / b)))) cx) (show (w.heap.size + 1 + 1 + 1) ≠ (w.heap.size + 1 + 1) by omega)).store2 (.bool (sg ((a % b)))) (.slice Xy (nl (mg ((a % b)))) cy)
  have RU2 := RU.other2 (v0 := .bool (sg ((a % b)))) (v1 := .slice Xy (nl (mg ((a % b)))) cy) (show (w.heap.size + 1 + 1) ≠ (w.heap.size + 1 + 1 + 1) by omega)
  have e0 := RU2.c (i := 0) rfl
  have g0 := RV.c (i := 0) rfl
  have e1 := RU2.c (i := 1) rfl
  have g1 := RV.c (i := 1) rfl
  refine bodyPost_ret (v := .tuple #[.agg #[.bool (sg ((a / b))), .slice Xx (nl (mg ((a / b)))) cx], .agg #[.bool (sg ((a % b))), .slice Xy (nl (mg ((a % b)))) cy], .int .i64 0]) (by simp [results, Tryz.results101, go_sem, e0, e1, g0, g1]) rfl ?_
  exact ⟨Xx, cx, Xy, cy, rfl, ((Rs_7.other2 (v0 := .bool (sg ((a / b)))) (v1 := .slice Xx (nl (mg ((a / b)))) cx) (show (w.heap.size + 1 + 1 + 1) ≠ (w.heap.size + 1 + 1) by omega)).keep2 (nuB rfl) (Rr_7.keep2 (nuB rfl) hx_7)), ((Rs_7.other2 (v0 := .bool (sg ((a / b)))) (v1 := .slice Xx (nl (mg ((a / b)))) cx) (show (w.heap.size + 1 + 1 + 1) ≠ (w.heap.size + 1 + 1) by omega)).keep2 (nuB rfl) (Rr_7.keep2 (nuB rfl) hy)), Below.store2 (Below.store2 HBT_7 (by omega)) (by omega)⟩
theorem zdiv_c (aA : Option Addr) (ac : Nat) (a : Int) (bA : Option Addr) (bc : Nat) (b : Int) (w : World) (ha : NatV w aA ac (mg a)) (hb : NatV w bA bc (mg b)) (la : nl (mg a) ≤ 1048576) (lb : nl (mg b) ≤ 1048576) (hb0 : b ≠ 0) :
    Calls Tryz.prog 101 #[.agg #[.bool (sg a), .slice aA (nl (mg a)) ac], .agg #[.bool (sg b), .slice bA (nl (mg b)) bc]] w (RetII w (a / b) (a % b)) := by
  by_cases h : 0 ≤ a
  · exact zdiv_f aA ac a bA bc b w ha hb la lb hb0 h
  · by_cases h2 : mg a % mg b = 0
    · exact zdiv_z aA ac a bA bc b w ha hb la lb hb0 (by omega) h2
    · exact zdiv_t aA ac a bA bc b w ha hb la lb hb0 (by omega) h2
end Go.Proofs.YthcmoimlnhghcaaGreatDoor

/- nat.Cmp again: it only draws. -/
set_option linter.unusedVariables false
set_option linter.unusedSimpArgs false
namespace Go.Proofs.YthcmoimlnhghcaaGreatDoor
open Go.RowKit Go.Shelf
attribute [local go_sem] max2_i min2_i max_two min_two

end Go.Proofs.YthcmoimlnhghcaaGreatDoor

/- Whole numbers, walked: Exact. -/
set_option linter.unusedVariables false
set_option linter.unusedSimpArgs false
namespace Go.Proofs.YthcmoimlnhghcaaGreatDoor
open Go.RowKit Go.Shelf
attribute [local go_sem] max2_i min2_i max_two min_two

end Go.Proofs.YthcmoimlnhghcaaGreatDoor

/- Dyadic numbers, walked: the noughts at the end, Make. -/
set_option linter.unusedVariables false
set_option linter.unusedSimpArgs false
namespace Go.Proofs.YthcmoimlnhghcaaGreatDoor
open Go.RowKit Go.Shelf
attribute [local go_sem] max2_i min2_i max_two min_two

/-- The table of Go's library lies as it was laid. -/
def Tab (w : World) : Prop := TabAt 0 Lib.deBruijn32tab w
theorem Tab.below {w w' : World} (h : Tab w) (hb : Below w.heap.size w w') : Tab w' := fun j hj => cell_below hb (h j hj)
end Go.Proofs.YthcmoimlnhghcaaGreatDoor

/- Dyadic numbers, walked: Make. -/
set_option linter.unusedVariables false
set_option linter.unusedSimpArgs false
namespace Go.Proofs.YthcmoimlnhghcaaGreatDoor
open Go.RowKit Go.Shelf
attribute [local go_sem] max2_i min2_i max_two min_two

end Go.Proofs.YthcmoimlnhghcaaGreatDoor

/- Dyadic numbers, walked: Sign, Neg, Scaled, Cmp, Add, Sub, Mid. -/
set_option linter.unusedVariables false
set_option linter.unusedSimpArgs false
namespace Go.Proofs.YthcmoimlnhghcaaGreatDoor
open Go.RowKit Go.Shelf
attribute [local go_sem] max2_i min2_i max_two min_two

/-- A dyadic number of no great size. -/
structure DOk (q : Rat) : Prop where
  d : Dyd q
  l : nl (mg (dmn q)) ≤ 100000
  e : -1000000 ≤ dex q ∧ dex q ≤ 1000000
end Go.Proofs.YthcmoimlnhghcaaGreatDoor

/- The greatest common divisor, walked. -/
set_option linter.unusedVariables false
set_option linter.unusedSimpArgs false
namespace Go.Proofs.YthcmoimlnhghcaaGreatDoor
open Go.RowKit Go.Shelf
attribute [local go_sem] Oper.semAt_some

theorem below_grown {W W' : World} (hb : Below W.heap.size W W') : W.grownBy W' none := ⟨hb.os, hb.tape, hb.output, hb.size, fun k hk _ => hb.block k hk⟩
theorem rests_seq (A : Option Addr) (c a : Nat) (B : Option Addr) (d b : Nat) (Ba Bb : Nat) (hne : Ba ≠ Bb) (w : World) (hla : nl a ≤ 16777216) (hlb : nl b ≤ 16777216) (h1 : Boxed w Ba 22 (.slice A (nl a) c)) (h2 : Boxed w Bb 22 (.slice B (nl b) d)) (hA : NatV w A c a) (hB : NatV w B d b) :
    SeqX Fence.wide 3 Tryz.prog 133 #[.pointer (some ⟨Ba, 0, none⟩), .pointer (some ⟨Bb, 0, none⟩)] It.enc (EuH a b) (KpU Ba Bb) (MvU Ba Bb) (EuS a b) (EuP a b) w := by
  intro l J Jx W hW hJ hJx hJm hY h0
  exact rests1_in l Ba Bb a b hla hlb hne J Jx (fun pre W W' h hb => hJ pre W W' none h (below_grown hb) (fun r e => by cases e)) hJm hY A c B d W (heap_below hW h1) (heap_below hW h2) (hA.below hW) (hB.below hW) h0
theorem NatV.kept {W W' : World} {A : Option Addr} {c n : Nat} {row : Option Nat} (h : NatV W A c n) (hg : W.grownBy W' row) (hr : ∀ r, row = some r → ∃ o : Obj, W.heap[r]? = some o ∧ o.isCells = false) : NatV W' A c n := by
  refine ⟨?_, h.cap, h.cmax⟩
  rcases h.rd with h1 | ⟨ad, rfl, h1⟩
  · exact .inl h1
  · exact .inr ⟨ad, rfl, fun i u hi => cell_kept (h1 i u hi) hg hr⟩
theorem EuH.kept {a b : Nat} {pre : List It} {x : It} {W W' : World} {row : Option Nat} (h : EuH a b pre x W) (hg : W.grownBy W' row) (hr : ∀ r, row = some r → ∃ o : Obj, W.heap[r]? = some o ∧ o.isCells = false) : EuH a b pre x W' :=
  ⟨⟨h.1.1.kept hg hr, h.1.2.kept hg hr⟩, h.2⟩
theorem own_euH (a b n : Nat) : OwnFrom n (fun (p : List It × It) W => EuH a b p.1 p.2 W) := fun s W W' row hs hg hr => hs.kept hg (fun r e => (hr r e).2)
theorem own_euS (a b n : Nat) : OwnFrom n (EuS a b) := fun s W W' row hs hg hr => by
  obtain ⟨pre, x, h1, h2, h3⟩ := hs
  exact ⟨pre, x, h1, h2.kept hg (fun r e => (hr r e).2), h3⟩
theorem own_euP (a b n : Nat) : OwnFrom n (EuP a b) := fun s W W' row hs hg hr => by
  obtain ⟨pre, x, h1, h2⟩ := hs
  exact ⟨pre, x, h1, h2.kept hg (fun r e => (hr r e).2)⟩
/-- A store into a variable that holds no limb keeps limbs, and two other variables. -/
theorem kpu_set {W : World} {k Ba Bb : Nat} {t : TypeId} {u v : Value} (h : Boxed W k t u) (hu : NotU u) (ha : Ba ≠ k) (hb : Bb ≠ k) : KpU Ba Bb W (W.setCell ⟨k, 0, none⟩ v) := by
  refine ⟨fun p x e => ?_, fun o _ e => (Below.heap_setCell _ _ _ _ (by simpa using ha)).trans e, fun o _ e => (Below.heap_setCell _ _ _ _ (by simpa using hb)).trans e⟩
  have hne : p.block ≠ k := fun e2 => by
    unfold World.cell? at e
    rw [e2, show W.heap[k]? = _ from h] at e
    simp only at e
    split at e
    · cases e
    · have hm := Array.mem_of_getElem? e
      simp at hm
      exact hu x hm.symm
  rw [World.cell?_of_block (w := W) (a := p) (Below.heap_setCell _ _ _ _ (by simpa using hne))]
  exact e
def outv (pre : List It) : Value := match pre.getLast? with
  | none => .slice none 0 0
  | some x => .slice x.A (nl x.a) x.c
theorem outv_snoc (pre : List It) (x : It) : outv (pre ++ [x]) = .slice x.A (nl x.a) x.c := by simp [outv]
theorem outv_notU (pre : List It) : NotU (outv pre) := by
  unfold outv; split <;> exact notU_slice _ _ _
theorem mvu_below {w W W' : World} {s Ba Bb : Nat} (h : Below s w W) (hm : MvU Ba Bb W W') (ha : s ≤ Ba) (hb : s ≤ Bb) (hs : s ≤ W.heap.size) : Below s w W' :=
  h.trans ⟨hm.os, hm.tape, hm.output, hm.size, fun k hk => hm.block k (by omega) (by omega) (by omega)⟩
theorem gcd_c (A : Option Addr) (c a : Nat) (B : Option Addr) (d b : Nat) (w : World) (hA : NatV w A c a) (hB : NatV w B d b) (hla : nl a ≤ 16777216) (hlb : nl b ≤ 16777216) :
    Calls Tryz.prog 39 #[.slice A (nl a) c, .slice B (nl b) d] w (RetN w (Nat.gcd a b)) := by
  refine (callsIn_wide (n := 4)).1 ?_
  refine callsIn_of_wp_marks Tryz.func39 rfl trivial ?_ rfl
  simp only [Tryz.ntmps39, List.size_toArray, List.length_cons, List.length_nil, Nat.reduceAdd, Nat.reduceSub, Array.replicate_succ, Array.replicate_zero, List.push_toArray, List.append_toArray, List.nil_append, List.cons_append]
  gi_wp2_with (refine ⟨trivial, ?_⟩; gi_at_call 87; refine (callsIn_wide.2 (rests_c A (nl a) c B (nl b) d _)).mono ?_; rintro e w' ⟨rfl, rfl⟩)
  obtain ⟨s, hs0⟩ : ∃ s, s = w.heap.size := ⟨_, rfl⟩
  obtain ⟨W8, hW8⟩ : ∃ W8, (((w.alloc (.cells #[.slice none 0 0] 22)).alloc (.cells #[.slice A (nl a) c] 22)).alloc (.cells #[.slice B (nl b) d] 22)) = W8 := ⟨_, rfl⟩
  have bO : Boxed W8 s 22 (.slice none 0 0) := by
    subst hs0 hW8; unfold Boxed; repeat (first | exact at_new (by simp) | refine at_old (by simp <;> omega) ?_)
  have bA : Boxed W8 (s + 1) 22 (.slice A (nl a) c) := by
    subst hs0 hW8; unfold Boxed; repeat (first | exact at_new (by simp) | refine at_old (by simp <;> omega) ?_)
  have bB : Boxed W8 (s + 2) 22 (.slice B (nl b) d) := by
    subst hs0 hW8; unfold Boxed; repeat (first | exact at_new (by simp) | refine at_old (by simp <;> omega) ?_)
  have hsz : W8.heap.size = s + 3 := by subst hs0 hW8; simp
  have hB0 : Below s w W8 := by
    subst hs0 hW8
    exact ((((Below.refl _ w).alloc (Nat.le_refl _) _).alloc (by simp) _).alloc (by simp; omega) _)
  have hA8 := hA.below (hs0 ▸ hB0)
  have hB8 := hB.below (hs0 ▸ hB0)
  rw [← hs0]
  simp only [Nat.add_assoc, Nat.reduceAdd]
  rw [hW8]
  clear hW8
  have HS := Lib.hid hs0
  clear hs0
  refine wpIn_rangeX (w0 := W8) rfl (by omega) (gf := 133) (lb := #[.pointer (some ⟨s + 1, 0, none⟩), .pointer (some ⟨s + 2, 0, none⟩)]) rfl trivial (enters_of Tryz.func133 (by kernel_rfl) rfl)
    (rests_seq A c a B d b (s + 1) (s + 2) (by omega) W8 hla hlb bA bB hA8 hB8) (fun X Y h k h1 h2 => h.block k h2 (by omega) (by omega))
    KpU.t (fun W l o o' h1 h2 h3 h4 => KpU.bk W l o o' h1 h2 h3 h4) (Below.refl _ _) (fun _ => rfl) (own_euH a b _) (own_euS a b _) (own_euP a b _)
    (fun pre W => Boxed W s 22 (outv pre) ∧ Below s w W ∧ s + 3 ≤ W.heap.size) (fun _ _ _ => False)
    ?own (fun _ _ _ _ _ hs _ _ => hs) ?mv ?start
    (fun x => { tmps := #[.slice A (nl a) c, .slice B (nl b) d, undef, undef, .slice none 0 0, .pointer (some ⟨s, 0, none⟩), .slice x.A (nl x.a) x.c, .slice A (nl a) c, .slice B (nl b) d,
      .func (.func 133) #[] #[.pointer (some ⟨s + 1, 0, none⟩), .pointer (some ⟨s + 2, 0, none⟩)], .slice x.A (nl x.a) x.c, .slice x.B (nl x.b) x.d, undef, undef], defers := [] }) ?assign ?body ?done ?stop
  case own =>
    refine OwnFrom.and (Own.from (boxed_own _ _ _) _) (OwnFrom.and (ownFrom_below (Nat.le_of_eq HS.out) (by omega)) ?_)
    intro x Y Z row h hg hr
    exact Nat.le_trans h hg.size
  case mv =>
    rintro x Y Z ⟨h1, h2, h3⟩ hm
    exact ⟨(hm.block s (by omega) (by omega) (by omega)).trans h1, mvu_below h2 hm (by omega) (by omega) (by omega), Nat.le_trans h3 hm.size⟩
  case start => exact ⟨bO, hB0, by omega⟩
  case assign =>
    intro l x W K hK
    simp only [It.enc]
    gi_wp2
    exact hK
  case stop =>
    rintro D c pre W _ _ h _
    exact h.elim
  case done =>
    rintro D ys W hD ⟨pre, x, rfl, hE, hx0⟩ ⟨hv, hB, hs3⟩ hK
    rw [outv_snoc] at hv
    have hc := hv.cell
    have hg : x.a = Nat.gcd a b := by
      have h1 := euc_gcd a b pre.length hE.2.2
      rw [← hE.2.1] at h1
      simp only [hx0, Nat.gcd_zero_right] at h1
      exact h1
    have hX := hE.1.1
    replace hg := Lib.hid hg
    replace hE := Lib.hid hE
    replace hx0 := Lib.hid hx0
    gi_wp2_with (fail)
    have hDlt : D < W.heap.size := (Array.getElem?_eq_some_iff.1 hK).1
    refine ⟨by simp, .inl ⟨_, _, rfl, run_takeDeferred hK, ?_⟩⟩
    have hp : Below s w (W.putObj D (.deferred none)) := hB.trans (belowK_b (w := W8) (by omega) W D _ _ hD hK rfl rfl)
    refine ⟨_, results_tmp rfl _ _ _, ?_⟩
    have hX2 := hX.kept (grownBy_putObj' W D (.deferred none)) (fun r e => by cases e; exact ⟨_, hK, rfl⟩)
    rw [← hg.out]
    exact ⟨x.A, x.c, rfl, hX2, hp.mono (Nat.le_of_eq HS.out.symm)⟩
  case body =>
    rintro l pre x W ⟨hv, hB, hs3⟩ hE
    have hc := hv.cell
    have hf := hv.frozen
    gi_wp2_with (fail)
    refine ⟨KeepsOthers.setCell _ _ _, kpu_set hv (outv_notU pre) (by omega) (by omega), ?_, hB.setCell (p := ⟨s, 0, none⟩) (Nat.le_refl _) _, by simpa [World.setCell] using hs3⟩
    rw [outv_snoc]
    exact Boxed.set _ hv
end Go.Proofs.YthcmoimlnhghcaaGreatDoor

/- Dyadic numbers, walked: Mid; rationals: Whole, Make; Rat. -/
set_option linter.unusedVariables false
set_option linter.unusedSimpArgs false
namespace Go.Proofs.YthcmoimlnhghcaaGreatDoor
open Go.RowKit Go.Shelf
attribute [local go_sem] max2_i min2_i max_two min_two

end Go.Proofs.YthcmoimlnhghcaaGreatDoor

/- A region that draws its order, outside a fence: by an invariant on what has come up. -/
set_option linter.unusedVariables false
set_option linter.unusedSimpArgs false
namespace Go.Proofs.YthcmoimlnhghcaaGreatDoor
open Go.RowKit

/-- Whatever comes up next keeps the invariant; when all has come up, it gives what is asked. -/
theorem wpAny_inv {P : Program} {ops : Array Oper} {Q : Exit → Act → World → Prop} {md : Region.Mode} (Inv : Array Bool → Act → World → Prop)
    (hdone : ∀ L a w, Inv L a w → Region.ready md ops L = [] → Q .normal a w)
    (hstep : ∀ L a w i, Inv L a w → i < ops.size → L.getD i true = false → (∀ o, ops[i]? = some o → ∀ e ∈ o.after, Region.binds md e = true → L.getD e.on false = true) →
      wpOp P ops Q i (fun a' w' => Inv (L.setIfInBounds i true) a' w') a w) :
    ∀ fuel L a w, Inv L a w → L.size = ops.size → L.toList.count false ≤ fuel → wpAny P md ops Q fuel L a w := by
  intro fuel
  induction fuel with
  | zero =>
    intro L a w hI hs hc
    have hr : Region.ready md ops L = [] := by
      rw [List.eq_nil_iff_forall_not_mem]
      intro i hi
      obtain ⟨h0, o, ho, _⟩ := mem_ready.1 hi
      have hlt : i < L.size := by rw [hs]; exact (Array.getElem?_eq_some_iff.1 ho).1
      have h1 : L.toList.count false = 0 := by omega
      rw [List.count_eq_zero] at h1
      refine h1 ?_
      have h2 : L[i] = false := by simpa [Array.getD, hlt] using h0
      exact h2 ▸ Array.getElem_mem_toList hlt
    exact ⟨hr, hdone L a w hI hr⟩
  | succ fuel ih =>
    intro L a w hI hs hc
    refine ⟨fun hr => hdone L a w hI hr, fun i hi => ?_⟩
    obtain ⟨h0, o, ho, hd⟩ := mem_ready.1 hi
    have hlt : i < ops.size := (Array.getElem?_eq_some_iff.1 ho).1
    refine wpOp_mono (fun a' w' hI' => ih _ a' w' hI' (by simpa using hs) ?_) (hstep L a w i hI hlt h0 (fun o' ho' e he hb => by
      rw [ho] at ho'; cases ho'; exact hd e he hb))
    have hl : i < L.size := by omega
    have h2 : L[i] = false := by simpa [Array.getD, hl] using h0
    have h3 := count_set (L := L.toList) (i := i) (by rw [Array.getElem?_toList, Array.getElem?_eq_getElem hl, h2])
    rw [Array.toList_setIfInBounds]
    omega

/-- A region that draws, by an invariant on which operations have come up ('D k': number k has). -/
theorem wp_region_inv {P : Program} {ops : Array Oper} {Q : Exit → Act → World → Prop} {id : Nat} {a : Act} {w : World} (Inv : (Nat → Bool) → Act → World → Prop) (hm : P.follows .mixedOrders = true)
    (hd : edgesDown ops = true)
    (h0 : Inv (fun _ => false) a w.drew)
    (hdone : ∀ D a w, Inv D a w → (∀ i, i < ops.size → D i = true) → Q .normal a w)
    (hstep : ∀ D a w i, Inv D a w → i < ops.size → D i = false → (∀ o, ops[i]? = some o → ∀ e ∈ o.after, Region.binds .any e = true → D e.on = true) →
      wpOp P ops Q i (fun a' w' => Inv (fun k => if k = i then true else D k) a' w') a w) :
    (Code.region id ops true).wp P Q a w := by
  refine wp_region_any hm (wpAny_inv (fun L a w => L.size = ops.size ∧ Inv (fun k => L.getD k false) a w) ?_ ?_ _ _ _ _ ⟨by simp, ?_⟩ (by simp) (by simp))
  · rintro L a w ⟨hs, hI⟩ hr
    exact hdone _ a w hI (ready_nil hd hs hr)
  · rintro L a w i ⟨hs, hI⟩ hi hL he
    have hl : i < L.size := by omega
    refine wpOp_mono (fun a' w' h' => ⟨by simpa using hs, ?_⟩) (hstep (fun k => L.getD k false) a w i hI hi (by simp only [Array.getD, hl, dite_true] at hL ⊢; exact hL) he)
    have : (fun k => (L.setIfInBounds i true).getD k false) = (fun k => if k = i then true else L.getD k false) := funext (bit_set hl)
    rw [this]
    exact h'
  · have : (fun k => (Array.replicate ops.size false).getD k false) = (fun _ : Nat => false) := by
      funext k
      by_cases hk : k < ops.size <;> simp [Array.getD, hk]
    rw [this]
    exact h0
end Go.Proofs.YthcmoimlnhghcaaGreatDoor

/- What a region that draws its order has made so far: numbers in slots, variables in memory. -/
set_option linter.unusedVariables false
set_option linter.unusedSimpArgs false
namespace Go.Proofs.YthcmoimlnhghcaaGreatDoor
open Go.RowKit Go.Shelf

theorem keepP {D : Nat → Bool} {i k : Nat} {p q : Prop} (hne : k ≠ i) (h : D k = true → p) (hpq : p → q) : (if k = i then true else D k) = true → q := by rw [if_neg hne]; exact fun e => hpq (h e)
theorem keepP' {D : Nat → Bool} {i k : Nat} {p q : Prop} (hne : k ≠ i) (h : D k = true → p) (hpq : D k = true → p → q) : (if k = i then true else D k) = true → q := by rw [if_neg hne]; exact fun e => hpq e (h e)
def PI (u : Value) (z : Int) (W : World) : Prop := ∃ X c, u = .agg #[.bool (sg z), .slice X (nl (mg z)) c] ∧ NatV W X c (mg z)
def PR (u : Value) (q : Rat) (W : World) : Prop := ∃ X c Y d, u = .agg #[.bool (sg q.num), .slice X (nl (mg q.num)) c, .slice Y (nl q.den) d] ∧ NatV W X c (mg q.num) ∧ NatV W Y d q.den
def PRt (u : Value) (q : Rat) (W : World) : Prop := ∃ X c Y d, u = .tuple #[.agg #[.bool (sg q.num), .slice X (nl (mg q.num)) c, .slice Y (nl q.den) d], .int .i64 0] ∧ NatV W X c (mg q.num) ∧ NatV W Y d q.den
/-- A variable that the region has made; one that it has written. -/
def PB3 (t : TypeId) (n0 : Nat) (u : Value) (W : World) : Prop := ∃ nb u0 u1 u2, u = .pointer (some ⟨nb, 0, none⟩) ∧ n0 ≤ nb ∧ BoxA W nb t #[u0, u1, u2] ∧ NotU u0 ∧ NotU u1 ∧ NotU u2
def PB2 (t : TypeId) (n0 : Nat) (u : Value) (W : World) : Prop := ∃ nb u0 u1, u = .pointer (some ⟨nb, 0, none⟩) ∧ n0 ≤ nb ∧ BoxA W nb t #[u0, u1] ∧ NotU u0 ∧ NotU u1
theorem notU2 {u0 u1 : Value} (h0 : NotU u0) (h1 : NotU u1) : ∀ x ∈ (#[u0, u1] : Array Value).toList, NotU x := by
  intro x hx; simp at hx; rcases hx with rfl | rfl <;> assumption
def PBI (n0 : Nat) (u : Value) (z : Int) (W : World) : Prop := ∃ nb X c, u = .pointer (some ⟨nb, 0, none⟩) ∧ n0 ≤ nb ∧ BoxA W nb 24 #[.bool (sg z), .slice X (nl (mg z)) c] ∧ NatV W X c (mg z)
def PBR (n0 : Nat) (u : Value) (q : Rat) (W : World) : Prop := ∃ nb X c Y d, u = .pointer (some ⟨nb, 0, none⟩) ∧ n0 ≤ nb ∧ BoxA W nb 41 #[.bool (sg q.num), .slice X (nl (mg q.num)) c, .slice Y (nl q.den) d] ∧ NatV W X c (mg q.num) ∧ NatV W Y d q.den
section
variable {W W' : World} {u : Value} {z : Int} {q : Rat} {t : TypeId} {n0 : Nat}
theorem PI.below (h : PI u z W) (hb : Below W.heap.size W W') : PI u z W' := by
  obtain ⟨X, c, h1, h2⟩ := h; exact ⟨X, c, h1, h2.below hb⟩
theorem PR.below (h : PR u q W) (hb : Below W.heap.size W W') : PR u q W' := by
  obtain ⟨X, c, Y, d, h1, h2, h3⟩ := h; exact ⟨X, c, Y, d, h1, h2.below hb, h3.below hb⟩
theorem PRt.below (h : PRt u q W) (hb : Below W.heap.size W W') : PRt u q W' := by
  obtain ⟨X, c, Y, d, h1, h2, h3⟩ := h; exact ⟨X, c, Y, d, h1, h2.below hb, h3.below hb⟩
theorem PB3.below (h : PB3 t n0 u W) (hb : Below W.heap.size W W') : PB3 t n0 u W' := by
  obtain ⟨nb, u0, u1, u2, h1, h2, h3, h4⟩ := h; exact ⟨nb, u0, u1, u2, h1, h2, h3.below hb, h4⟩
theorem PB2.below (h : PB2 t n0 u W) (hb : Below W.heap.size W W') : PB2 t n0 u W' := by
  obtain ⟨nb, u0, u1, h1, h2, h3, h4⟩ := h; exact ⟨nb, u0, u1, h1, h2, h3.below hb, h4⟩
theorem PB3.lt (h : PB3 t n0 u W) : ∃ nb, u = .pointer (some ⟨nb, 0, none⟩) ∧ nb < W.heap.size := by
  obtain ⟨nb, u0, u1, u2, h1, h2, h3, h4⟩ := h; exact ⟨nb, h1, h3.lt⟩
theorem PB2.lt (h : PB2 t n0 u W) : ∃ nb, u = .pointer (some ⟨nb, 0, none⟩) ∧ nb < W.heap.size := by
  obtain ⟨nb, u0, u1, h1, h2, h3, h4⟩ := h; exact ⟨nb, h1, h3.lt⟩
theorem PBI.below (h : PBI n0 u z W) (hb : Below W.heap.size W W') : PBI n0 u z W' := by
  obtain ⟨nb, X, c, h1, h2, h3, h4⟩ := h; exact ⟨nb, X, c, h1, h2, h3.below hb, h4.below hb⟩
theorem PBR.below (h : PBR n0 u q W) (hb : Below W.heap.size W W') : PBR n0 u q W' := by
  obtain ⟨nb, X, c, Y, d, h1, h2, h3, h4, h5⟩ := h; exact ⟨nb, X, c, Y, d, h1, h2, h3.below hb, h4.below hb, h5.below hb⟩
/-- What a store into a variable without limbs leaves as it was. -/
structure Put (W W' : World) (k : Nat) : Prop where
  nat : ∀ {A : Option Addr} {c n : Nat}, NatV W A c n → NatV W' A c n
  far : ∀ j, j ≠ k → W'.heap[j]? = W.heap[j]?
theorem BoxA.put2 {u0 u1 : Value} {k : Nat} (h : BoxA W k t #[u0, u1]) (hu : ∀ x ∈ (#[u0, u1] : Array Value).toList, NotU x) (v0 v1 : Value) : Put W ((W.setCell ⟨k, 0, none⟩ v0).setCell ⟨k, 1, none⟩ v1) k := ⟨fun hN => h.keep2 hu hN, fun j hj => set2_far j hj⟩
theorem PI.put {k : Nat} (h : PI u z W) (hp : Put W W' k) : PI u z W' := by
  obtain ⟨X, c, h1, h2⟩ := h; exact ⟨X, c, h1, hp.nat h2⟩
theorem PR.put {k : Nat} (h : PR u q W) (hp : Put W W' k) : PR u q W' := by
  obtain ⟨X, c, Y, d, h1, h2, h3⟩ := h; exact ⟨X, c, Y, d, h1, hp.nat h2, hp.nat h3⟩
theorem PRt.put {k : Nat} (h : PRt u q W) (hp : Put W W' k) : PRt u q W' := by
  obtain ⟨X, c, Y, d, h1, h2, h3⟩ := h; exact ⟨X, c, Y, d, h1, hp.nat h2, hp.nat h3⟩
theorem PB3.put {k : Nat} (h : PB3 t n0 u W) (hp : Put W W' k) (hne : u ≠ .pointer (some ⟨k, 0, none⟩)) : PB3 t n0 u W' := by
  obtain ⟨nb, u0, u1, u2, h1, h2, h3, h4⟩ := h
  exact ⟨nb, u0, u1, u2, h1, h2, ⟨(hp.far nb (fun e => hne (by rw [h1, e]))).trans h3.at_⟩, h4⟩
theorem PB2.put {k : Nat} (h : PB2 t n0 u W) (hp : Put W W' k) (hne : u ≠ .pointer (some ⟨k, 0, none⟩)) : PB2 t n0 u W' := by
  obtain ⟨nb, u0, u1, h1, h2, h3, h4⟩ := h
  exact ⟨nb, u0, u1, h1, h2, ⟨(hp.far nb (fun e => hne (by rw [h1, e]))).trans h3.at_⟩, h4⟩
theorem PBI.put {k : Nat} (h : PBI n0 u z W) (hp : Put W W' k) (hne : u ≠ .pointer (some ⟨k, 0, none⟩)) : PBI n0 u z W' := by
  obtain ⟨nb, X, c, h1, h2, h3, h4⟩ := h
  exact ⟨nb, X, c, h1, h2, ⟨(hp.far nb (fun e => hne (by rw [h1, e]))).trans h3.at_⟩, hp.nat h4⟩
end
end Go.Proofs.YthcmoimlnhghcaaGreatDoor

/- The document's whole numbers, walked: Shift. -/
set_option linter.unusedVariables false
set_option linter.unusedSimpArgs false
namespace Go.Proofs.YthcmoimlnhghcaaGreatDoor
open Go.RowKit Go.Shelf
attribute [local go_sem] max2_i min2_i max_two min_two

def PN (u : Value) (n : Nat) (W : World) : Prop := ∃ X c, u = .slice X (nl n) c ∧ NatV W X c n
def PII (u : Value) (q r : Int) (W : World) : Prop := ∃ X c Y d, u = .tuple #[.agg #[.bool (sg q), .slice X (nl (mg q)) c], .agg #[.bool (sg r), .slice Y (nl (mg r)) d], .int .i64 0] ∧ NatV W X c (mg q) ∧ NatV W Y d (mg r)
theorem PN.below {W W' : World} {u : Value} {n : Nat} (h : PN u n W) (hb : Below W.heap.size W W') : PN u n W' := by
  obtain ⟨X, c, h1, h2⟩ := h; exact ⟨X, c, h1, h2.below hb⟩
theorem PII.below {W W' : World} {u : Value} {q r : Int} (h : PII u q r W) (hb : Below W.heap.size W W') : PII u q r W' := by
  obtain ⟨X, c, Y, d, h1, h2, h3⟩ := h; exact ⟨X, c, Y, d, h1, h2.below hb, h3.below hb⟩
theorem PN.put {W W' : World} {u : Value} {n k : Nat} (h : PN u n W) (hp : Put W W' k) : PN u n W' := by
  obtain ⟨X, c, h1, h2⟩ := h; exact ⟨X, c, h1, hp.nat h2⟩
theorem PII.put {W W' : World} {u : Value} {q r : Int} {k : Nat} (h : PII u q r W) (hp : Put W W' k) : PII u q r W' := by
  obtain ⟨X, c, Y, d, h1, h2, h3⟩ := h; exact ⟨X, c, Y, d, h1, hp.nat h2, hp.nat h3⟩
end Go.Proofs.YthcmoimlnhghcaaGreatDoor

/- The document's greatest common divisor, walked. -/
set_option linter.unusedVariables false
set_option linter.unusedSimpArgs false
namespace Go.Proofs.YthcmoimlnhghcaaGreatDoor
open Go.RowKit Go.Shelf
attribute [local go_sem] max2_i min2_i max_two min_two

end Go.Proofs.YthcmoimlnhghcaaGreatDoor

/- The document's rationals, walked: nat, Whole, Make, over, Sign, Neg. -/
set_option linter.unusedVariables false
set_option linter.unusedSimpArgs false
namespace Go.Proofs.YthcmoimlnhghcaaGreatDoor
open Go.RowKit Go.Shelf
attribute [local go_sem] max2_i min2_i max_two min_two

def PIb (u : Value) (q : Int) (W : World) : Prop := ∃ X c, u = .tuple #[.agg #[.bool (sg q), .slice X (nl (mg q)) c], .bool true] ∧ NatV W X c (mg q)
theorem PIb.below {W W' : World} {u : Value} {q : Int} (h : PIb u q W) (hb : Below W.heap.size W W') : PIb u q W' := by
  obtain ⟨X, c, h1, h2⟩ := h; exact ⟨X, c, h1, h2.below hb⟩
theorem PIb.put {W W' : World} {u : Value} {q : Int} {k : Nat} (h : PIb u q W) (hp : Put W W' k) : PIb u q W' := by
  obtain ⟨X, c, h1, h2⟩ := h; exact ⟨X, c, h1, hp.nat h2⟩
end Go.Proofs.YthcmoimlnhghcaaGreatDoor

/- The document's rationals, walked: Mul, Add, Cmp. -/
set_option linter.unusedVariables false
set_option linter.unusedSimpArgs false
namespace Go.Proofs.YthcmoimlnhghcaaGreatDoor
open Go.RowKit Go.Shelf
attribute [local go_sem] max2_i min2_i max_two min_two

end Go.Proofs.YthcmoimlnhghcaaGreatDoor

/- The document's rationals, walked: Mul, Add, Cmp. -/
set_option linter.unusedVariables false
set_option linter.unusedSimpArgs false
namespace Go.Proofs.YthcmoimlnhghcaaGreatDoor
open Go.RowKit Go.Shelf
attribute [local go_sem] max2_i min2_i max_two min_two

end Go.Proofs.YthcmoimlnhghcaaGreatDoor

/- The document's rationals, walked: Cmp, Sub, Floor, Ceil, Same. -/
set_option linter.unusedVariables false
set_option linter.unusedSimpArgs false
namespace Go.Proofs.YthcmoimlnhghcaaGreatDoor
open Go.RowKit Go.Shelf
attribute [local go_sem] max2_i min2_i max_two min_two

end Go.Proofs.YthcmoimlnhghcaaGreatDoor

/- Dyadic numbers, walked: Rat; directions. -/
set_option linter.unusedVariables false
set_option linter.unusedSimpArgs false
namespace Go.Proofs.YthcmoimlnhghcaaGreatDoor
open Go.RowKit Go.Shelf
attribute [local go_sem] max2_i min2_i max_two min_two

theorem iof1_c (w : World) : Calls Tryz.prog 82 #[.int .i64 1] w (RetI w 1) := iof_c 1 w (by decide)
end Go.Proofs.YthcmoimlnhghcaaGreatDoor

/- Dyadic numbers, walked: Rat, down. -/
set_option linter.unusedVariables false
set_option linter.unusedSimpArgs false
namespace Go.Proofs.YthcmoimlnhghcaaGreatDoor
open Go.RowKit Go.Shelf
attribute [local go_sem] max2_i min2_i max_two min_two
end Go.Proofs.YthcmoimlnhghcaaGreatDoor

/- Directions, walked. -/
set_option linter.unusedVariables false
set_option linter.unusedSimpArgs false
namespace Go.Proofs.YthcmoimlnhghcaaGreatDoor
open Go.RowKit Go.Shelf
attribute [local go_sem] max2_i min2_i max_two min_two

theorem and_one_u32 (x : Nat) (hx : x < 4294967296) : bits .and .u32 (x : Int) 1 = ((x % 2 : Nat) : Int) := by
  have := u32_and_nat x 1 hx (by decide)
  rw [Nat.and_one_is_mod] at this
  exact this
end Go.Proofs.YthcmoimlnhghcaaGreatDoor

/- A quotient rounded. -/
set_option linter.unusedVariables false
set_option linter.unusedSimpArgs false
namespace Go.Proofs.YthcmoimlnhghcaaGreatDoor
open Go.RowKit Go.Shelf
attribute [local go_sem] max2_i min2_i max_two min_two

end Go.Proofs.YthcmoimlnhghcaaGreatDoor

/- Dyadic numbers, walked: Cut. -/
set_option linter.unusedVariables false
set_option linter.unusedSimpArgs false
namespace Go.Proofs.YthcmoimlnhghcaaGreatDoor
open Go.RowKit Go.Shelf
attribute [local go_sem] max2_i min2_i max_two min_two

end Go.Proofs.YthcmoimlnhghcaaGreatDoor

/- Dyadic numbers, walked: Round. -/
set_option linter.unusedVariables false
set_option linter.unusedSimpArgs false
namespace Go.Proofs.YthcmoimlnhghcaaGreatDoor
open Go.RowKit Go.Shelf
attribute [local go_sem] max2_i min2_i max_two min_two

end Go.Proofs.YthcmoimlnhghcaaGreatDoor

/- The document's dyadic numbers, walked: Make. -/
set_option linter.unusedVariables false
set_option linter.unusedSimpArgs false
namespace Go.Proofs.YthcmoimlnhghcaaGreatDoor
open Go.RowKit Go.Shelf
attribute [local go_sem] max2_i min2_i max_two min_two

end Go.Proofs.YthcmoimlnhghcaaGreatDoor

/- The document's dyadic numbers, walked: power, Rat. -/
set_option linter.unusedVariables false
set_option linter.unusedSimpArgs false
namespace Go.Proofs.YthcmoimlnhghcaaGreatDoor
open Go.RowKit Go.Shelf
attribute [local go_sem] max2_i min2_i max_two min_two

theorem zof1_c (w : World) : Calls Tryz.prog 51 #[.int .i64 1] w (RetI w 1) := zof_c 1 w (by decide) (by decide)
end Go.Proofs.YthcmoimlnhghcaaGreatDoor

/- The document's dyadic numbers, walked: Same, Sign, Scaled, Cmp. -/
set_option linter.unusedVariables false
set_option linter.unusedSimpArgs false
namespace Go.Proofs.YthcmoimlnhghcaaGreatDoor
open Go.RowKit Go.Shelf
attribute [local go_sem] max2_i min2_i max_two min_two

end Go.Proofs.YthcmoimlnhghcaaGreatDoor

/- The document's dyadic numbers, walked: Of, Neg. -/
set_option linter.unusedVariables false
set_option linter.unusedSimpArgs false
namespace Go.Proofs.YthcmoimlnhghcaaGreatDoor
open Go.RowKit Go.Shelf
attribute [local go_sem] max2_i min2_i max_two min_two

end Go.Proofs.YthcmoimlnhghcaaGreatDoor

/- The document's dyadic numbers, walked: Add, Sub. -/
set_option linter.unusedVariables false
set_option linter.unusedSimpArgs false
namespace Go.Proofs.YthcmoimlnhghcaaGreatDoor
open Go.RowKit Go.Shelf
attribute [local go_sem] max2_i min2_i max_two min_two

end Go.Proofs.YthcmoimlnhghcaaGreatDoor

/- The document's dyadic numbers, walked: Mul. -/
set_option linter.unusedVariables false
set_option linter.unusedSimpArgs false
namespace Go.Proofs.YthcmoimlnhghcaaGreatDoor
open Go.RowKit Go.Shelf
attribute [local go_sem] max2_i min2_i max_two min_two

end Go.Proofs.YthcmoimlnhghcaaGreatDoor

/- The document's dyadic numbers, walked: Made. -/
set_option linter.unusedVariables false
set_option linter.unusedSimpArgs false
namespace Go.Proofs.YthcmoimlnhghcaaGreatDoor
open Go.RowKit Go.Shelf
attribute [local go_sem] max2_i min2_i max_two min_two

end Go.Proofs.YthcmoimlnhghcaaGreatDoor

/- The document's dyadic numbers, walked: Mid. -/
set_option linter.unusedVariables false
set_option linter.unusedSimpArgs false
namespace Go.Proofs.YthcmoimlnhghcaaGreatDoor
open Go.RowKit Go.Shelf
attribute [local go_sem] max2_i min2_i max_two min_two

end Go.Proofs.YthcmoimlnhghcaaGreatDoor

/- Whether a natural, a whole number is right. -/
set_option linter.unusedVariables false
set_option linter.unusedSimpArgs false
namespace Go.Proofs.YthcmoimlnhghcaaGreatDoor
open Go.RowKit Go.Shelf
attribute [local go_sem] max2_i min2_i max_two min_two


end Go.Proofs.YthcmoimlnhghcaaGreatDoor

/- Whether a dyadic number is right. -/
set_option linter.unusedVariables false
set_option linter.unusedSimpArgs false
namespace Go.Proofs.YthcmoimlnhghcaaGreatDoor
open Go.RowKit Go.Shelf
attribute [local go_sem] max2_i min2_i max_two min_two

end Go.Proofs.YthcmoimlnhghcaaGreatDoor

/- Whether a number is right, the document's way. -/
set_option linter.unusedVariables false
set_option linter.unusedSimpArgs false
namespace Go.Proofs.YthcmoimlnhghcaaGreatDoor
open Go.RowKit Go.Shelf
attribute [local go_sem] max2_i min2_i max_two min_two

end Go.Proofs.YthcmoimlnhghcaaGreatDoor

/- How long the parts of a dyadic number's rational are. -/
set_option linter.unusedVariables false
namespace Go.Proofs.YthcmoimlnhghcaaGreatDoor

end Go.Proofs.YthcmoimlnhghcaaGreatDoor

/- The sums of products modulo one prime, walked. -/
set_option linter.unusedVariables false
set_option linter.unusedSimpArgs false
namespace Go.Proofs.YthcmoimlnhghcaaGreatDoor
open Go.RowKit Go.Shelf

/-- What is asked of a prime (that it is one is not). -/
structure Prm (p : Nat) : Prop where
  two : 2 < p
  small : p < 1073741824
  one : p % 1048576 = 1
  half : 3 ^ ((p - 1) / 2) % p = p - 1
  full : 2 ^ (p - 1) % p = 1
/-- The transform's root. -/
def rt (p k : Nat) : Nat := 3 ^ ((p - 1) / 2 ^ k) % p
theorem Prm.dvd {p : Nat} (h : Prm p) (k : Nat) (hk : k ≤ 20) : (p - 1) / 2 ^ k * 2 ^ k = p - 1 := by
  refine Nat.div_mul_cancel ?_
  have h1 : 1048576 ∣ p - 1 := by have := h.one; have := h.two; omega
  exact Nat.dvd_trans (show 2 ^ k ∣ 2 ^ 20 from Nat.pow_dvd_pow 2 hk) h1
section
variable {p : Nat} [NeZero p] {φ : Nat → Fin p}
theorem Prm.neg (h : Prm p) (hφ : Hom p φ) : pw (φ 3) ((p - 1) / 2) = -1 := by
  have h1 : φ (3 ^ ((p - 1) / 2)) = φ (p - 1) := by rw [← hφ.modp, h.half]
  rw [hφ.pow] at h1
  rw [h1]
  have h2 := hφ.add (p - 1) 1
  have := h.two
  rw [Nat.sub_add_cancel (by omega), hφ.p0, hφ.one] at h2
  grind
theorem Prm.root (h : Prm p) (hφ : Hom p φ) (k : Nat) (hk : k ≤ 20) : k = 0 ∨ pw (φ (rt p k)) (2 ^ (k - 1)) = -1 := by
  cases k with
  | zero => exact .inl rfl
  | succ k =>
    right
    unfold rt
    rw [hφ.modp, hφ.pow, pw_pw, Nat.add_sub_cancel, ← h.neg hφ]
    congr 1
    have h1 := h.dvd (k + 1) hk
    generalize (p - 1) / 2 ^ (k + 1) = x at h1 ⊢
    rw [Nat.pow_succ, ← Nat.mul_assoc] at h1
    omega
theorem Prm.unit (h : Prm p) (hφ : Hom p φ) : pw (φ 3) (p - 1) = 1 := by
  have h1 : p - 1 = (p - 1) / 2 * 2 := by have := h.one; have := h.two; omega
  rw [h1, ← pw_pw, h.neg hφ]
  simp only [pw]; grind
theorem Prm.back (h : Prm p) (hφ : Hom p φ) (k : Nat) : φ (rt p k) * φ (rt p k ^ (p - 2) % p) = 1 := by
  rw [hφ.modp, hφ.pow, ← pw_1 (φ (rt p k)), pw_pw, ← pw_add]
  have := h.two
  rw [show 1 + 1 * (p - 2) = p - 1 by omega]
  unfold rt
  rw [hφ.modp, hφ.pow, pw_pw, Nat.mul_comm, ← pw_pw, h.unit hφ, pw_one]
theorem sm_ones (hφ : Hom p φ) (n : Nat) : sm (fun _ => (1 : Fin p)) n = φ n := by
  induction n with
  | zero => exact hφ.zero.symm
  | succ n ih => rw [sm, ih, hφ.add, hφ.one]
theorem Prm.over (h : Prm p) (hφ : Hom p φ) (k : Nat) : φ (2 ^ k) * φ ((2 ^ k) ^ (p - 2) % p) = 1 := by
  rw [hφ.modp, hφ.pow (2 ^ k), ← pw_1 (φ (2 ^ k)), pw_pw, ← pw_add]
  have := h.two
  rw [show 1 + 1 * (p - 2) = p - 1 by omega, ← hφ.pow, ← Nat.pow_mul, Nat.mul_comm, Nat.pow_mul, hφ.pow, ← hφ.modp, h.full, hφ.one, pw_one]
/-- The whole way there and back. -/
theorem conv_math (h : Prm p) (hφ : Hom p φ) (k la lb : Nat) (hk : k ≤ 20) (a b X Y Z : Nat → Nat) (ha : ∀ i, la ≤ i → a i = 0) (hb : ∀ i, lb ≤ i → b i = 0) (hN : la + lb ≤ 2 ^ k + 1) (hl : 0 < lb) (hla : la ≤ 2 ^ k) (hlb : lb ≤ 2 ^ k)
    (hX : ∀ t, t < 2 ^ k → φ (X t) = dft (fun j => φ (a j)) (φ (rt p k)) (2 ^ k) t) (hY : ∀ t, t < 2 ^ k → φ (Y t) = dft (fun j => φ (b j)) (φ (rt p k)) (2 ^ k) t)
    (hZ : ∀ t, t < 2 ^ k → φ (Z t) = dft (fun j => φ (X j * Y j % p)) (φ (rt p k ^ (p - 2) % p)) (2 ^ k) t) :
    ∀ t, t < 2 ^ k → Z t * ((2 ^ k) ^ (p - 2) % p) % p = cv a b la t % p := by
  intro t ht
  have hp := h.two
  refine hφ.eq (Nat.mod_lt _ (by omega)) ?_ 
  rw [hφ.modp, hφ.mul, hZ t ht, hφ.cv]
  have e : dft (fun j => φ (X j * Y j % p)) (φ (rt p k ^ (p - 2) % p)) (2 ^ k) t = dft (dft (cv (fun i => φ (a i)) (fun i => φ (b i)) la) (φ (rt p k)) (2 ^ k)) (φ (rt p k ^ (p - 2) % p)) (2 ^ k) t := by
    unfold dft
    refine sm_congr fun j hj => ?_
    congr 1
    show φ (X j * Y j % p) = _
    rw [hφ.modp, hφ.mul, hX j hj, hY j hj]
    have hc := cv_poly (fun i => φ (a i)) (fun i => φ (b i)) la lb (2 ^ k) (pw (φ (rt p k)) j) (fun i hi => by simp only [hb i hi, hφ.zero]) hN hl
    simp only [pw_pw] at hc
    rw [hc]
    unfold dft
    obtain ⟨r, hr⟩ : ∃ r, 2 ^ k = la + r := ⟨2 ^ k - la, by omega⟩
    obtain ⟨r', hr'⟩ : ∃ r', 2 ^ k = lb + r' := ⟨2 ^ k - lb, by omega⟩
    have e1 : sm (fun i => φ (a i) * pw (φ (rt p k)) (j * i)) (2 ^ k) = sm (fun i => φ (a i) * pw (φ (rt p k)) (j * i)) la := by
      rw [hr]; exact sm_more _ _ _ fun i hi => by simp only [ha i hi, hφ.zero]; grind
    have e2 : sm (fun i => φ (b i) * pw (φ (rt p k)) (j * i)) (2 ^ k) = sm (fun i => φ (b i) * pw (φ (rt p k)) (j * i)) lb := by
      rw [hr']; exact sm_more _ _ _ fun i hi => by simp only [hb i hi, hφ.zero]; grind
    rw [e1, e2]
  rw [e, dft_back _ _ _ k t (h.root hφ k hk) (h.back hφ k) ht, sm_ones hφ]
  have := h.over hφ k
  grind
end

theorem mk64 (c : Int) (h0 : 0 ≤ c) (hc : c ≤ 4194304) : ∀ W : World, (Instr.makeSlice 164 (.int .i64 c) (.int .i64 c)).run Tryz.prog W =
    .ok (.slice (some ⟨W.heap.size, 0, none⟩) c.toNat c.toNat) (W.alloc (.cells (v64 (List.replicate c.toNat 0)).toArray 106)) := fun W => by
  obtain ⟨i0, hi, hz0, hz1, hz2⟩ := info_parts info_u64
  have := run_make (P := Tryz.prog) W 164 106 i0 _ Tryz.underlying164 hi hz0 .i64 .i64 c c h0 (Int.le_refl _) (by rw [hz2]; omega) (by omega)
  rw [hz1, Nat.mul_one] at this
  rw [this]
  congr 4
  apply Array.toList_inj.1
  show (madeCells #[.int .u64 0] c.toNat).toList = _
  rw [toList_madeCells_one]
  simp [v64]
end Go.Proofs.YthcmoimlnhghcaaGreatDoor

/- The sums of products modulo one prime: the walk. -/
set_option linter.unusedVariables false
set_option linter.unusedSimpArgs false
namespace Go.Proofs.YthcmoimlnhghcaaGreatDoor
open Go.RowKit Go.Shelf

theorem arr_made (W : World) (n : Nat) : Arr (W.alloc (.cells (v64 (List.replicate n 0)).toArray 106)) W.heap.size (List.replicate n 0) := by
  unfold Arr; rw [heap_alloc_new]
theorem gl_rep (n i : Nat) : gl (List.replicate n 0) i = 0 := by
  simp [gl, List.getElem?_replicate]; split <;> rfl

theorem step_set {L : List Nat} {i n z : Nat} (N O : Nat → Nat) (hi : i < n) (hl : L.length = n) (hz : z = N i) (h : ∀ t, gl L t = if t < i then N t else O t) (t : Nat) : gl (L.set i z) t = if t < i + 1 then N t else O t := by
  by_cases e : t = i
  · have c : t < i + 1 := by omega
    rw [if_pos c, e, gl_set_eq' (by omega), hz]
  · rw [gl_set_ne' (by omega), h t]
    by_cases c : t < i
    · rw [if_pos c, if_pos (by omega)]
    · rw [if_neg c, if_neg (by omega)]

theorem around_c (p k : Nat) (A : Option Addr) (ca a : Nat) (B : Option Addr) (cb b : Nat) (w : World) (hP : Prm p) (hk : k ≤ 20) (hA : NatV w A ca a) (hB : NatV w B cb b) (hb : b ≠ 0) (hN : nl a + nl b ≤ 2 ^ k + 1) (hla : nl a ≤ 2 ^ k) (hlb : nl b ≤ 2 ^ k) :
    Calls Tryz.prog 174 #[fld p, .slice A (nl a) ca, .slice B (nl b) cb, .int .i64 (k : Nat)] w fun e w' => ∃ bx X, e = .returned (.slice (some ⟨bx, 0, none⟩) (2 ^ k : Nat) (2 ^ k : Nat)) ∧ w.heap.size ≤ bx ∧ Arr w' bx X ∧ X.length = 2 ^ k ∧
      (∀ t, t < 2 ^ k → gl X t = cv (gl (limbs a)) (gl (limbs b)) (nl a) t % p) ∧ Below w.heap.size w w' := by
  obtain ⟨n, hnk⟩ : ∃ n, n = 2 ^ k := ⟨_, rfl⟩
  have hnb : n ≤ 1048576 := by rw [hnk]; exact Nat.pow_le_pow_right (by decide) (show k ≤ 20 by omega)
  have hn1 : 1 ≤ n := by rw [hnk]; exact Nat.two_pow_pos k
  have hnI : (2 : Int) ^ k = (n : Int) := by rw [hnk]; simp
  have hp2 := hP.two
  have hpB := hP.small
  have HNK := Lib.hid hnk
  have HPP := Lib.hid hP
  rw [← hnk] at hN hla hlb ⊢
  have hmk := mk64 (n : Int) (by omega) (by omega)
  rw [Int.toNat_natCast] at hmk
  clear hnk
  have hp0 : ((p : Int) == 0) = false := ieqF (by omega)
  have hu := Tryz.underlying167
  have hE : ∃ E : World, E = (((w.alloc (.cells #[.int .u64 (p : Nat)] 167)).alloc (.cells (v64 (List.replicate n 0)).toArray 106)).alloc (.cells (v64 (List.replicate n 0)).toArray 106)).drew := ⟨_, rfl⟩
  obtain ⟨E, hE⟩ := hE
  have hs1 : (w.alloc (.cells #[.int .u64 (p : Nat)] 167)).heap.size = w.heap.size + 1 := by simp
  have hs2 : ((w.alloc (.cells #[.int .u64 (p : Nat)] 167)).alloc (.cells (v64 (List.replicate n 0)).toArray 106)).heap.size = w.heap.size + 1 + 1 := by simp
  have hb0 : Below w.heap.size w (w.alloc (.cells #[.int .u64 (p : Nat)] 167)) := (Below.refl _ _).alloc (Nat.le_refl _) _
  have hb1 : Below (w.heap.size + 1) (w.alloc (.cells #[.int .u64 (p : Nat)] 167)) ((w.alloc (.cells #[.int .u64 (p : Nat)] 167)).alloc (.cells (v64 (List.replicate n 0)).toArray 106)) := (Below.refl _ _).alloc (by omega) _
  have hb2 : Below (w.heap.size + 1 + 1) ((w.alloc (.cells #[.int .u64 (p : Nat)] 167)).alloc (.cells (v64 (List.replicate n 0)).toArray 106)) E := by
    rw [hE]; exact ((Below.refl _ _).alloc (by omega) _).drew
  have hbE : Below w.heap.size w E := (hb0.trans (hb1.mono (by omega))).trans (hb2.mono (by omega))
  have hcE : E.cell? ⟨w.heap.size, 0, none⟩ = some (.int .u64 (p : Nat)) := by
    have h0 : (w.alloc (.cells #[.int .u64 (p : Nat)] 167)).cell? ⟨w.heap.size, 0, none⟩ = some (.int .u64 (p : Nat)) := by
      unfold World.cell?; rw [heap_alloc_new]; rfl
    exact cell_below (hs2 ▸ hb2) (cell_below (hs1 ▸ hb1) h0)
  have hx1 : Arr E (w.heap.size + 1) (List.replicate n 0) := by
    have h0 := arr_made (w.alloc (.cells #[.int .u64 (p : Nat)] 167)) n
    rw [hs1] at h0
    exact h0.keep (hb2.block _ (by omega))
  have hx2 : Arr E (w.heap.size + 1 + 1) (List.replicate n 0) := by
    have h0 := arr_made ((w.alloc (.cells #[.int .u64 (p : Nat)] 167)).alloc (.cells (v64 (List.replicate n 0)).toArray 106)) n
    rw [hs2] at h0
    rw [hE]; exact h0
  have hsE := hbE.size
  clear hb0 hb1 hb2 hs1 hs2
  have G1 := And.intro hx1 (And.intro hx2 (show w.heap.size + 1 ≠ w.heap.size + 1 + 1 ∧ w.heap.size + 1 + 1 ≠ w.heap.size + 1 ∧ w.heap.size ≠ w.heap.size + 1 ∧ w.heap.size ≠ w.heap.size + 1 + 1 ∧ w.heap.size ≤ w.heap.size + 1 ∧ w.heap.size ≤ w.heap.size + 1 + 1 by omega))
  have G2 := And.intro hx2 (And.intro hx1 (show w.heap.size + 1 + 1 ≠ w.heap.size + 1 ∧ w.heap.size + 1 ≠ w.heap.size + 1 + 1 ∧ w.heap.size ≠ w.heap.size + 1 + 1 ∧ w.heap.size ≠ w.heap.size + 1 ∧ w.heap.size ≤ w.heap.size + 1 + 1 ∧ w.heap.size ≤ w.heap.size + 1 by omega))
  replace G1 := Lib.hid G1
  replace G2 := Lib.hid G2
  clear hx1 hx2
  unfold fld at *
  go_enter Tryz.func174, Tryz.ntmps174
  go_wp2_with (fail)
  go_big_region
  rotate_left
  · clear G1
    rw [← hE]
    generalize w.heap.size + 1 + 1 = bx at *
    generalize w.heap.size + 1 = bz at *
    have GG := G2
    clear G2
    obtain ⟨hX, hY, hxz, hzx, hsx, hsz, hlx, hlz⟩ := GG.out
    clear GG hE
    go_wp2_with (fail)
    go_loopw [11, 12, 27] (fun vi vx ct wr => ∃ (i : Nat) (M : List Nat), ct = .int .i64 i ∧ i ≤ nl a ∧ Only bx E wr ∧ Arr wr bx M ∧ Hid (M.length = n) ∧ Hid (∀ t, gl M t = if t < i then gl (limbs a) t % p else 0)) (fun vi vx ct wr => nl a - (intOf ct).toNat)
    case atStart => exact ⟨0, _, rfl, Nat.zero_le _, .refl _ _, hX, Lib.hid (by simp), Lib.hid (fun t => by rw [if_neg (by omega), gl_rep])⟩
    case round =>
      obtain ⟨i, M, rfl, hi, ho, hM, hMl, hMv⟩ := hrel
      by_cases hlt : i < nl a
      · obtain ⟨ad, rfl, hcx⟩ := (hA.rd.below (hbE.trans (ho.below hlx hsE))).get i hlt
        have hxl := (lim_limbs a).gl i
        obtain ⟨x, hx⟩ : ∃ x, x = gl (limbs a) i := ⟨_, rfl⟩
        rw [← hx] at hcx hxl
        replace hx := Lib.hid hx
        have hcp := ho.cell hcE hsx
        have hin : i < n := by omega
        have hc1 := hM.cell i (by rw [hMl.out]; exact hin)
        have hf1 := hM.frozen i
        obtain ⟨y, hy⟩ : ∃ y, y = x % p := ⟨_, rfl⟩
        have hyI : (x : Int) % (p : Int) = (y : Int) := by rw [hy]; simp
        have hyp : y < p := by rw [hy]; exact Nat.mod_lt _ (by omega)
        replace hy := Lib.hid hy
        go_wp2_with (fail)
        go_roundw
        case rel =>
          refine ⟨i + 1, M.set i y, by go_num, by omega, ho.store _ _, hM.store i y, Lib.hid (by simp [hMl.out]), Lib.hid (fun t => ?_)⟩
          by_cases e : t = i
          · have c : t < i + 1 := by omega
            rw [if_pos c, e, gl_set_eq' (by rw [hMl.out]; exact hin), hy.out, hx.out]
          · rw [gl_set_ne' (by omega), hMv.out t]
            by_cases c : t < i
            · rw [if_pos c, if_pos (by omega)]
            · rw [if_neg c, if_neg (by omega)]
        case measure => simp only [intOf]; omega
      · have hia : i = nl a := by omega
        have hMp : ∀ t, gl M t = gl (limbs a) t % p := fun t => by
          rw [hMv.out t]
          split
          · rfl
          · rw [gl_of_le (l := limbs a) (by show nl a ≤ t; omega)]; simp
        replace hMp := Lib.hid hMp
        replace hia := Lib.hid hia
        have hY1 := ho.arr hY hzx
        have hc1 := ho.cell hcE hsx
        have hb1 := hbE.trans (ho.below hlx hsE)
        have hs1 := hb1.size
        obtain ⟨W1, rfl⟩ : ∃ W1 : World, W1 = wr := ⟨_, rfl⟩
        clear hMv ho hX hY hcE hbE hsE hi
        go_wp2_with (fail)
        go_loopw [13, 14, 43] (fun vi vx ct wr => ∃ (i : Nat) (Q : List Nat), ct = .int .i64 i ∧ i ≤ nl b ∧ Only bz W1 wr ∧ Arr wr bz Q ∧ Hid (Q.length = n) ∧ Hid (∀ t, gl Q t = if t < i then gl (limbs b) t % p else 0)) (fun vi vx ct wr => nl b - (intOf ct).toNat)
        case atStart => exact ⟨0, _, rfl, Nat.zero_le _, .refl _ _, hY1, Lib.hid (by simp), Lib.hid (fun t => by rw [if_neg (by omega), gl_rep])⟩
        case round =>
          obtain ⟨j, Q, rfl, hj, ho, hQ, hQl, hQv⟩ := hrel
          by_cases hlt : j < nl b
          · obtain ⟨ad, rfl, hcx⟩ := (hB.rd.below (hb1.trans (ho.below hlz hs1))).get j hlt
            have hxl := (lim_limbs b).gl j
            obtain ⟨x, hx⟩ : ∃ x, x = gl (limbs b) j := ⟨_, rfl⟩
            rw [← hx] at hcx hxl
            replace hx := Lib.hid hx
            have hcp := ho.cell hc1 hsz
            have hjn : j < n := by omega
            have hc2 := hQ.cell j (by rw [hQl.out]; exact hjn)
            have hf2 := hQ.frozen j
            obtain ⟨y, hy⟩ : ∃ y, y = x % p := ⟨_, rfl⟩
            have hyI : (x : Int) % (p : Int) = (y : Int) := by rw [hy]; simp
            have hyp : y < p := by rw [hy]; exact Nat.mod_lt _ (by omega)
            replace hy := Lib.hid hy
            go_wp2_with (fail)
            go_roundw
            case rel =>
              refine ⟨j + 1, Q.set j y, by go_num, by omega, ho.store _ _, hQ.store j y, Lib.hid (by simp [hQl.out]), Lib.hid (fun t => ?_)⟩
              by_cases e : t = j
              · have c : t < j + 1 := by omega
                rw [if_pos c, e, gl_set_eq' (by rw [hQl.out]; exact hjn), hy.out, hx.out]
              · rw [gl_set_ne' (by omega), hQv.out t]
                by_cases c : t < j
                · rw [if_pos c, if_pos (by omega)]
                · rw [if_neg c, if_neg (by omega)]
            case measure => simp only [intOf]; omega
          · have hjb : j = nl b := by omega
            have hQp : ∀ t, gl Q t = gl (limbs b) t % p := fun t => by
              rw [hQv.out t]
              split
              · rfl
              · rw [gl_of_le (l := limbs b) (by show nl b ≤ t; omega)]; simp
            replace hQp := Lib.hid hQp
            replace hjb := Lib.hid hjb
            have hcp := ho.cell hc1 hsz
            have hM2 := ho.arr hM hxz
            have hb2 := hb1.trans (ho.below hlz hs1)
            have hs2 := hb2.size
            clear hQv ho hM hY1 hc1 hb1 hs1 hj
            obtain ⟨rw', hrw⟩ : ∃ r, r = rt p k := ⟨_, rfl⟩
            have hrwp : rw' < p := by rw [hrw]; exact Nat.mod_lt _ (by omega)
            have CR := froot_c p k wr hp2 (by omega) hk
            rw [show 3 ^ ((p - 1) / 2 ^ k) % p = rw' from hrw.symm] at CR
            replace CR := Lib.hid CR
            replace hrw := Lib.hid hrw
            unfold fld at CR
            go_wp2_with (fail)
            refine CR.out.mono ?_
            rintro e W3 ⟨rfl, hbd⟩
            clear CR
            haveI hnz : NeZero p := ⟨by omega⟩
            obtain ⟨φ, hφ⟩ : ∃ φ : Nat → Fin p, Hom p φ := ⟨_, hom_fin p⟩
            have hM3 := hM2.below hbd
            have hQ3 := hQ.below hbd
            have hc3 := cell_below hbd hcp
            have hb3 := hb2.cons hbd
            have hs3 := hb3.size
            have CX := run_c p bx k rw' M W3 hφ (by omega) hpB hk hM3 (by rw [hMl.out, HNK.out]) (fun t => by rw [hMp.out]; exact Nat.mod_lt _ (by omega)) hrwp (by rw [hrw.out]; exact HPP.out.root hφ k hk)
            rw [← HNK.out] at CX
            unfold fld at CX
            replace CX := Lib.hid CX
            clear hM2 hQ hcp hb2 hs2 hbd
            go_wp2_with (fail)
            refine CX.out.mono ?_
            rintro e W4 ⟨rfl, ho4, X, hX4, hXl, hXp, hXv⟩
            replace hXl := Lib.hid hXl
            replace hXp := Lib.hid hXp
            replace hXv := Lib.hid hXv
            have hQ4 := ho4.arr hQ3 hzx
            have hc4 := ho4.cell hc3 hsx
            have hb4 := hb3.trans (ho4.below hlx hs3)
            have hs4 := hb4.size
            have CY := run_c p bz k rw' Q W4 hφ (by omega) hpB hk hQ4 (by rw [hQl.out, HNK.out]) (fun t => by rw [hQp.out]; exact Nat.mod_lt _ (by omega)) hrwp (by rw [hrw.out]; exact HPP.out.root hφ k hk)
            rw [← HNK.out] at CY
            unfold fld at CY
            replace CY := Lib.hid CY
            clear hM3 hQ3 hc3 hb3 hs3 ho4 CX
            go_wp2_with (fail)
            refine CY.out.mono ?_
            rintro e W5 ⟨rfl, ho5, Y, hY5, hYl, hYp, hYv⟩
            replace hYl := Lib.hid hYl
            replace hYp := Lib.hid hYp
            replace hYv := Lib.hid hYv
            have hX5 := ho5.arr hX4 hxz
            have hc5 := ho5.cell hc4 hsz
            have hb5 := hb4.trans (ho5.below hlz hs4)
            have hs5 := hb5.size
            clear hX4 hQ4 hc4 hb4 hs4 ho5 CY
            go_wp2_with (fail)
            go_loopw [16, 72] (fun vi ct wr => ∃ (i : Nat) (L : List Nat), ct = .int .i64 i ∧ i ≤ n ∧ Only bx W5 wr ∧ Arr wr bx L ∧ Hid (L.length = n) ∧ Hid (∀ t, gl L t = if t < i then gl X t * gl Y t % p else gl X t)) (fun vi ct wr => n - (intOf ct).toNat)
            case atStart => exact ⟨0, X, rfl, Nat.zero_le _, .refl _ _, hX5, Lib.hid hXl.out, Lib.hid (fun t => by rw [if_neg (by omega)])⟩
            case round =>
              obtain ⟨i, L, rfl, hi, ho, hL, hLl, hLv⟩ := hrel
              by_cases hlt : i < n
              · have hcp := ho.cell hc5 hsx
                have hYr := ho.arr hY5 hzx
                have q1 := hL.cell i (by rw [hLl.out]; exact hlt)
                have q2 := hYr.cell i (by rw [hYl.out]; exact hlt)
                have hxv : gl L i = gl X i := by rw [hLv.out i, if_neg (by omega)]
                have hxp := hXp.out i
                have hyp := hYp.out i
                obtain ⟨x, hx⟩ : ∃ x, x = gl X i := ⟨_, rfl⟩
                obtain ⟨y, hy⟩ : ∃ y, y = gl Y i := ⟨_, rfl⟩
                rw [hxv, ← hx] at q1
                rw [← hy] at q2 hyp
                rw [← hx] at hxp
                obtain ⟨z, hz⟩ : ∃ z, z = x * y % p := ⟨_, rfl⟩
                have CM := fun (W : World) => fmul_c p x y W (by omega) (by omega) (by omega) (by omega)
                rw [← hz] at CM
                unfold fld at CM
                replace CM := Lib.hid CM
                replace hx := Lib.hid hx
                replace hy := Lib.hid hy
                replace hz := Lib.hid hz
                have hd := (Below.refl wr.heap.size wr).drew
                have gp := cell_below hd hcp
                have g1 := cell_below hd q1
                have g2 := cell_below hd q2
                clear hxv
                go_wp2_with (fail)
                go_region_with (go_at_call 176; (with_reducible refine (CM.out _).mono ?_); rintro e V4 ⟨rfl, hbv⟩; have hLV := (show Arr wr.drew bx L from hL).below hbv; have fz := hLV.frozen i; have hcq := hLV.cell i (by rw [hLl.out]; exact hlt))
                all_goals
                  go_wp2_with (fail)
                  go_roundw
                  case rel =>
                    refine ⟨i + 1, L.set i z, by go_num, by omega, (ho.drew.cons hbv).store _ _, hLV.store i z, Lib.hid (by simp [hLl.out]), Lib.hid (fun t => ?_)⟩
                    exact step_set (fun t => gl X t * gl Y t % p) (fun t => gl X t) hlt hLl.out (by rw [hz.out, hx.out, hy.out]) hLv.out t
                  case measure => simp only [intOf]; omega
              · have hin : i = n := by omega
                have hcp := ho.cell hc5 hsx
                have hb6 := hb5.trans (ho.below hlx hs5)
                have hs6 := hb6.size
                have hLp : ∀ t, gl L t < p := fun t => by
                  rw [hLv.out t]
                  split
                  · exact Nat.mod_lt _ (by omega)
                  · exact hXp.out t
                have hLe : ∀ t, t < n → gl L t = gl X t * gl Y t % p := fun t ht => by rw [hLv.out t, if_pos (by omega)]
                replace hLp := Lib.hid hLp
                replace hLe := Lib.hid hLe
                replace hin := Lib.hid hin
                obtain ⟨iv, hiv⟩ : ∃ iv, iv = rw' ^ (p - 2) % p := ⟨_, rfl⟩
                have hivp : iv < p := by rw [hiv]; exact Nat.mod_lt _ (by omega)
                have CI := fun (W : World) => finv_c p rw' W hp2 (by omega) (by omega)
                rw [← hiv] at CI
                have CZ := fun (W : World) (hW : Arr W bx L) => run_c p bx k iv L W hφ (by omega) hpB hk hW (by rw [hLl.out, HNK.out]) hLp.out hivp (by
                  rcases HPP.out.root hφ k hk with h | h
                  · exact .inl h
                  · right
                    have h1 := HPP.out.back hφ k
                    rw [← hrw.out, ← hiv] at h1
                    have h2 : pw (φ rw' * φ iv) (2 ^ (k - 1)) = 1 := by rw [h1, pw_one]
                    rw [pw_base, hrw.out, h] at h2
                    grind)
                rw [← HNK.out] at CZ
                unfold fld at CI CZ
                replace CI := Lib.hid CI
                replace CZ := Lib.hid CZ
                replace hiv := Lib.hid hiv
                have hd := (Below.refl wr.heap.size wr).drew
                have gp := cell_below hd hcp
                have gb := hb6.cons hd
                have gL := hL.below hd
                clear hLv ho hX5 hc5 hb5 hs5 hi
                go_wp2_with (fail)
                go_region_held3 (fun W => W.cell? ⟨w.heap.size, 0, none⟩ = some (.int .u64 (p : Nat)))
                  (first
                    | exact gp
                    | exact gp7
                    | exact gp8
                    | go_keep)
                  (first
                    | (go_at_call 175; (with_reducible refine (CI.out _).mono ?_); rintro e W7 ⟨rfl, hb7⟩; have gp7 := cell_below hb7 gp; have gb7 := gb.cons hb7; have gL7 := gL.below hb7)
                    | (go_at_call 185; (with_reducible refine (CZ.out _ gL7).mono ?_); rintro e W8 ⟨rfl, ho8, Z, hZ, hZl, hZp, hZv⟩; have gp8 := ho8.cell gp7 hsx; have gb8 := gb7.trans (ho8.below hlx gb7.size)))
                replace hZl := Lib.hid hZl
                replace hZp := Lib.hid hZp
                replace hZv := Lib.hid hZv
                have hs8 := gb8.size
                obtain ⟨ov, hov⟩ : ∃ ov, ov = n ^ (p - 2) % p := ⟨_, rfl⟩
                have hovp : ov < p := by rw [hov]; exact Nat.mod_lt _ (by omega)
                have CO := fun (W : World) => finv_c p n W hp2 (by omega) (by omega)
                rw [← hov] at CO
                unfold fld at CO
                replace CO := Lib.hid CO
                replace hov := Lib.hid hov
                have zn : IntKind.u64.wrap (n : Int) = (n : Int) := IntWalk.u64_in _ (by omega)
                have hd8 := (Below.refl W8.heap.size W8).drew
                have g9 := cell_below hd8 gp8
                have gb9 := gb8.cons hd8
                have gZ9 := hZ.below hd8
                clear gp gb gL gp7 gb7 gL7 hcp hb6 hs6 CI CZ ho8
                go_wp2_with (fail)
                go_region_held3 (fun W => W.cell? ⟨w.heap.size, 0, none⟩ = some (.int .u64 (p : Nat)))
                  (first
                    | exact g9
                    | exact g10
                    | go_keep)
                  (first
                    | (go_at_call 175; (with_reducible refine (CO.out _).mono ?_); rintro e W10 ⟨rfl, hb10⟩; have g10 := cell_below hb10 g9; have gb10 := gb9.cons hb10; have gZ10 := gZ9.below hb10))
                clear g9 gb9 gZ9 hd8 CO hs8
                have hs10 := gb10.size
                obtain ⟨WA, rfl⟩ : ∃ WA : World, WA = W10 := ⟨_, rfl⟩
                go_wp2_with (fail)
                go_loopw [18, 102] (fun vi ct wr => ∃ (i : Nat) (L : List Nat), ct = .int .i64 i ∧ i ≤ n ∧ Only bx WA wr ∧ Arr wr bx L ∧ Hid (L.length = n) ∧ Hid (∀ t, gl L t = if t < i then gl Z t * ov % p else gl Z t)) (fun vi ct wr => n - (intOf ct).toNat)
                case atStart => exact ⟨0, Z, rfl, Nat.zero_le _, .refl _ _, gZ10, Lib.hid hZl.out, Lib.hid (fun t => by rw [if_neg (by omega)])⟩
                case round =>
                  obtain ⟨i, L, rfl, hi, ho, hL, hLl, hLv⟩ := hrel
                  by_cases hlt : i < n
                  · have hcp := ho.cell g10 hsx
                    have q1 := hL.cell i (by rw [hLl.out]; exact hlt)
                    have hxv : gl L i = gl Z i := by rw [hLv.out i, if_neg (by omega)]
                    have hxp := hZp.out i
                    obtain ⟨x, hx⟩ : ∃ x, x = gl Z i := ⟨_, rfl⟩
                    rw [hxv, ← hx] at q1
                    rw [← hx] at hxp
                    obtain ⟨z, hz⟩ : ∃ z, z = x * ov % p := ⟨_, rfl⟩
                    have CM := fun (W : World) => fmul_c p x ov W (by omega) (by omega) (by omega) (by omega)
                    rw [← hz] at CM
                    unfold fld at CM
                    replace CM := Lib.hid CM
                    replace hx := Lib.hid hx
                    replace hz := Lib.hid hz
                    have hd := (Below.refl wr.heap.size wr).drew
                    have gp := cell_below hd hcp
                    have g1 := cell_below hd q1
                    clear hxv
                    go_wp2_with (fail)
                    go_region_with (go_at_call 176; (with_reducible refine (CM.out _).mono ?_); rintro e V4 ⟨rfl, hbv⟩; have hLV := (show Arr wr.drew bx L from hL).below hbv; have fz := hLV.frozen i; have hcq := hLV.cell i (by rw [hLl.out]; exact hlt))
                    all_goals
                      go_wp2_with (fail)
                      go_roundw
                      case rel =>
                        refine ⟨i + 1, L.set i z, by go_num, by omega, (ho.drew.cons hbv).store _ _, hLV.store i z, Lib.hid (by simp [hLl.out]), Lib.hid (fun t => ?_)⟩
                        exact step_set (fun t => gl Z t * ov % p) (fun t => gl Z t) hlt hLl.out (by rw [hz.out, hx.out]) hLv.out t
                      case measure => simp only [intOf]; omega
                  · have hin2 : i = n := by omega
                    have hfin : ∀ t, t < n → gl L t = cv (gl (limbs a)) (gl (limbs b)) (nl a) t % p := fun t ht => by
                      rw [hLv.out t, if_pos (by omega), hov.out, HNK.out]
                      refine conv_math HPP.out hφ k (nl a) (nl b) hk (gl (limbs a)) (gl (limbs b)) (gl X) (gl Y) (gl Z) (fun i hi => gl_of_le hi) (fun i hi => gl_of_le hi) (by rw [← HNK.out]; exact hN) (nl_pos.2 hb) (by rw [← HNK.out]; exact hla) (by rw [← HNK.out]; exact hlb) ?_ ?_ ?_ t (by rw [← HNK.out]; exact ht)
                      · intro t ht
                        rw [hXv.out t (by rw [HNK.out]; exact ht), HNK.out, hrw.out]
                        refine sm_congr fun j _ => ?_
                        show φ (gl M j) * _ = _
                        rw [hMp.out j, hφ.modp]
                      · intro t ht
                        rw [hYv.out t (by rw [HNK.out]; exact ht), HNK.out, hrw.out]
                        refine sm_congr fun j _ => ?_
                        show φ (gl Q j) * _ = _
                        rw [hQp.out j, hφ.modp]
                      · intro t ht
                        rw [hZv.out t (by rw [HNK.out]; exact ht), HNK.out, hiv.out, hrw.out]
                        refine sm_congr fun j hj => ?_
                        show φ (gl _ j) * _ = _
                        rw [hLe.out j (by rw [HNK.out]; exact hj)]
                    go_wp2_with (fail)
                    go_ret
                    exact ⟨bx, L, rfl, hlx, hL, hLl.out, hfin, gb10.trans (ho.below hlx hs10)⟩
  clear G2
  rw [← hE]
  generalize w.heap.size + 1 + 1 = bz at *
  generalize w.heap.size + 1 = bx at *
  have GG := G1
  clear G1
  obtain ⟨hX, hY, hxz, hzx, hsx, hsz, hlx, hlz⟩ := GG.out
  clear GG hE
  go_wp2_with (fail)
  go_loopw [11, 12, 27] (fun vi vx ct wr => ∃ (i : Nat) (M : List Nat), ct = .int .i64 i ∧ i ≤ nl a ∧ Only bx E wr ∧ Arr wr bx M ∧ Hid (M.length = n) ∧ Hid (∀ t, gl M t = if t < i then gl (limbs a) t % p else 0)) (fun vi vx ct wr => nl a - (intOf ct).toNat)
  case atStart => exact ⟨0, _, rfl, Nat.zero_le _, .refl _ _, hX, Lib.hid (by simp), Lib.hid (fun t => by rw [if_neg (by omega), gl_rep])⟩
  case round =>
    obtain ⟨i, M, rfl, hi, ho, hM, hMl, hMv⟩ := hrel
    by_cases hlt : i < nl a
    · obtain ⟨ad, rfl, hcx⟩ := (hA.rd.below (hbE.trans (ho.below hlx hsE))).get i hlt
      have hxl := (lim_limbs a).gl i
      obtain ⟨x, hx⟩ : ∃ x, x = gl (limbs a) i := ⟨_, rfl⟩
      rw [← hx] at hcx hxl
      replace hx := Lib.hid hx
      have hcp := ho.cell hcE hsx
      have hin : i < n := by omega
      have hc1 := hM.cell i (by rw [hMl.out]; exact hin)
      have hf1 := hM.frozen i
      obtain ⟨y, hy⟩ : ∃ y, y = x % p := ⟨_, rfl⟩
      have hyI : (x : Int) % (p : Int) = (y : Int) := by rw [hy]; simp
      have hyp : y < p := by rw [hy]; exact Nat.mod_lt _ (by omega)
      replace hy := Lib.hid hy
      go_wp2_with (fail)
      go_roundw
      case rel =>
        refine ⟨i + 1, M.set i y, by go_num, by omega, ho.store _ _, hM.store i y, Lib.hid (by simp [hMl.out]), Lib.hid (fun t => ?_)⟩
        by_cases e : t = i
        · have c : t < i + 1 := by omega
          rw [if_pos c, e, gl_set_eq' (by rw [hMl.out]; exact hin), hy.out, hx.out]
        · rw [gl_set_ne' (by omega), hMv.out t]
          by_cases c : t < i
          · rw [if_pos c, if_pos (by omega)]
          · rw [if_neg c, if_neg (by omega)]
      case measure => simp only [intOf]; omega
    · have hia : i = nl a := by omega
      have hMp : ∀ t, gl M t = gl (limbs a) t % p := fun t => by
        rw [hMv.out t]
        split
        · rfl
        · rw [gl_of_le (l := limbs a) (by show nl a ≤ t; omega)]; simp
      replace hMp := Lib.hid hMp
      replace hia := Lib.hid hia
      have hY1 := ho.arr hY hzx
      have hc1 := ho.cell hcE hsx
      have hb1 := hbE.trans (ho.below hlx hsE)
      have hs1 := hb1.size
      obtain ⟨W1, rfl⟩ : ∃ W1 : World, W1 = wr := ⟨_, rfl⟩
      clear hMv ho hX hY hcE hbE hsE hi
      go_wp2_with (fail)
      go_loopw [13, 14, 43] (fun vi vx ct wr => ∃ (i : Nat) (Q : List Nat), ct = .int .i64 i ∧ i ≤ nl b ∧ Only bz W1 wr ∧ Arr wr bz Q ∧ Hid (Q.length = n) ∧ Hid (∀ t, gl Q t = if t < i then gl (limbs b) t % p else 0)) (fun vi vx ct wr => nl b - (intOf ct).toNat)
      case atStart => exact ⟨0, _, rfl, Nat.zero_le _, .refl _ _, hY1, Lib.hid (by simp), Lib.hid (fun t => by rw [if_neg (by omega), gl_rep])⟩
      case round =>
        obtain ⟨j, Q, rfl, hj, ho, hQ, hQl, hQv⟩ := hrel
        by_cases hlt : j < nl b
        · obtain ⟨ad, rfl, hcx⟩ := (hB.rd.below (hb1.trans (ho.below hlz hs1))).get j hlt
          have hxl := (lim_limbs b).gl j
          obtain ⟨x, hx⟩ : ∃ x, x = gl (limbs b) j := ⟨_, rfl⟩
          rw [← hx] at hcx hxl
          replace hx := Lib.hid hx
          have hcp := ho.cell hc1 hsz
          have hjn : j < n := by omega
          have hc2 := hQ.cell j (by rw [hQl.out]; exact hjn)
          have hf2 := hQ.frozen j
          obtain ⟨y, hy⟩ : ∃ y, y = x % p := ⟨_, rfl⟩
          have hyI : (x : Int) % (p : Int) = (y : Int) := by rw [hy]; simp
          have hyp : y < p := by rw [hy]; exact Nat.mod_lt _ (by omega)
          replace hy := Lib.hid hy
          go_wp2_with (fail)
          go_roundw
          case rel =>
            refine ⟨j + 1, Q.set j y, by go_num, by omega, ho.store _ _, hQ.store j y, Lib.hid (by simp [hQl.out]), Lib.hid (fun t => ?_)⟩
            by_cases e : t = j
            · have c : t < j + 1 := by omega
              rw [if_pos c, e, gl_set_eq' (by rw [hQl.out]; exact hjn), hy.out, hx.out]
            · rw [gl_set_ne' (by omega), hQv.out t]
              by_cases c : t < j
              · rw [if_pos c, if_pos (by omega)]
              · rw [if_neg c, if_neg (by omega)]
          case measure => simp only [intOf]; omega
        · have hjb : j = nl b := by omega
          have hQp : ∀ t, gl Q t = gl (limbs b) t % p := fun t => by
            rw [hQv.out t]
            split
            · rfl
            · rw [gl_of_le (l := limbs b) (by show nl b ≤ t; omega)]; simp
          replace hQp := Lib.hid hQp
          replace hjb := Lib.hid hjb
          have hcp := ho.cell hc1 hsz
          have hM2 := ho.arr hM hxz
          have hb2 := hb1.trans (ho.below hlz hs1)
          have hs2 := hb2.size
          clear hQv ho hM hY1 hc1 hb1 hs1 hj
          obtain ⟨rw', hrw⟩ : ∃ r, r = rt p k := ⟨_, rfl⟩
          have hrwp : rw' < p := by rw [hrw]; exact Nat.mod_lt _ (by omega)
          have CR := froot_c p k wr hp2 (by omega) hk
          rw [show 3 ^ ((p - 1) / 2 ^ k) % p = rw' from hrw.symm] at CR
          replace CR := Lib.hid CR
          replace hrw := Lib.hid hrw
          unfold fld at CR
          go_wp2_with (fail)
          refine CR.out.mono ?_
          rintro e W3 ⟨rfl, hbd⟩
          clear CR
          haveI hnz : NeZero p := ⟨by omega⟩
          obtain ⟨φ, hφ⟩ : ∃ φ : Nat → Fin p, Hom p φ := ⟨_, hom_fin p⟩
          have hM3 := hM2.below hbd
          have hQ3 := hQ.below hbd
          have hc3 := cell_below hbd hcp
          have hb3 := hb2.cons hbd
          have hs3 := hb3.size
          have CX := run_c p bx k rw' M W3 hφ (by omega) hpB hk hM3 (by rw [hMl.out, HNK.out]) (fun t => by rw [hMp.out]; exact Nat.mod_lt _ (by omega)) hrwp (by rw [hrw.out]; exact HPP.out.root hφ k hk)
          rw [← HNK.out] at CX
          unfold fld at CX
          replace CX := Lib.hid CX
          clear hM2 hQ hcp hb2 hs2 hbd
          go_wp2_with (fail)
          refine CX.out.mono ?_
          rintro e W4 ⟨rfl, ho4, X, hX4, hXl, hXp, hXv⟩
          replace hXl := Lib.hid hXl
          replace hXp := Lib.hid hXp
          replace hXv := Lib.hid hXv
          have hQ4 := ho4.arr hQ3 hzx
          have hc4 := ho4.cell hc3 hsx
          have hb4 := hb3.trans (ho4.below hlx hs3)
          have hs4 := hb4.size
          have CY := run_c p bz k rw' Q W4 hφ (by omega) hpB hk hQ4 (by rw [hQl.out, HNK.out]) (fun t => by rw [hQp.out]; exact Nat.mod_lt _ (by omega)) hrwp (by rw [hrw.out]; exact HPP.out.root hφ k hk)
          rw [← HNK.out] at CY
          unfold fld at CY
          replace CY := Lib.hid CY
          clear hM3 hQ3 hc3 hb3 hs3 ho4 CX
          go_wp2_with (fail)
          refine CY.out.mono ?_
          rintro e W5 ⟨rfl, ho5, Y, hY5, hYl, hYp, hYv⟩
          replace hYl := Lib.hid hYl
          replace hYp := Lib.hid hYp
          replace hYv := Lib.hid hYv
          have hX5 := ho5.arr hX4 hxz
          have hc5 := ho5.cell hc4 hsz
          have hb5 := hb4.trans (ho5.below hlz hs4)
          have hs5 := hb5.size
          clear hX4 hQ4 hc4 hb4 hs4 ho5 CY
          go_wp2_with (fail)
          go_loopw [16, 72] (fun vi ct wr => ∃ (i : Nat) (L : List Nat), ct = .int .i64 i ∧ i ≤ n ∧ Only bx W5 wr ∧ Arr wr bx L ∧ Hid (L.length = n) ∧ Hid (∀ t, gl L t = if t < i then gl X t * gl Y t % p else gl X t)) (fun vi ct wr => n - (intOf ct).toNat)
          case atStart => exact ⟨0, X, rfl, Nat.zero_le _, .refl _ _, hX5, Lib.hid hXl.out, Lib.hid (fun t => by rw [if_neg (by omega)])⟩
          case round =>
            obtain ⟨i, L, rfl, hi, ho, hL, hLl, hLv⟩ := hrel
            by_cases hlt : i < n
            · have hcp := ho.cell hc5 hsx
              have hYr := ho.arr hY5 hzx
              have q1 := hL.cell i (by rw [hLl.out]; exact hlt)
              have q2 := hYr.cell i (by rw [hYl.out]; exact hlt)
              have hxv : gl L i = gl X i := by rw [hLv.out i, if_neg (by omega)]
              have hxp := hXp.out i
              have hyp := hYp.out i
              obtain ⟨x, hx⟩ : ∃ x, x = gl X i := ⟨_, rfl⟩
              obtain ⟨y, hy⟩ : ∃ y, y = gl Y i := ⟨_, rfl⟩
              rw [hxv, ← hx] at q1
              rw [← hy] at q2 hyp
              rw [← hx] at hxp
              obtain ⟨z, hz⟩ : ∃ z, z = x * y % p := ⟨_, rfl⟩
              have CM := fun (W : World) => fmul_c p x y W (by omega) (by omega) (by omega) (by omega)
              rw [← hz] at CM
              unfold fld at CM
              replace CM := Lib.hid CM
              replace hx := Lib.hid hx
              replace hy := Lib.hid hy
              replace hz := Lib.hid hz
              have hd := (Below.refl wr.heap.size wr).drew
              have gp := cell_below hd hcp
              have g1 := cell_below hd q1
              have g2 := cell_below hd q2
              clear hxv
              go_wp2_with (fail)
              go_region_with (go_at_call 176; (with_reducible refine (CM.out _).mono ?_); rintro e V4 ⟨rfl, hbv⟩; have hLV := (show Arr wr.drew bx L from hL).below hbv; have fz := hLV.frozen i; have hcq := hLV.cell i (by rw [hLl.out]; exact hlt))
              all_goals
                go_wp2_with (fail)
                go_roundw
                case rel =>
                  refine ⟨i + 1, L.set i z, by go_num, by omega, (ho.drew.cons hbv).store _ _, hLV.store i z, Lib.hid (by simp [hLl.out]), Lib.hid (fun t => ?_)⟩
                  exact step_set (fun t => gl X t * gl Y t % p) (fun t => gl X t) hlt hLl.out (by rw [hz.out, hx.out, hy.out]) hLv.out t
                case measure => simp only [intOf]; omega
            · have hin : i = n := by omega
              have hcp := ho.cell hc5 hsx
              have hb6 := hb5.trans (ho.below hlx hs5)
              have hs6 := hb6.size
              have hLp : ∀ t, gl L t < p := fun t => by
                rw [hLv.out t]
                split
                · exact Nat.mod_lt _ (by omega)
                · exact hXp.out t
              have hLe : ∀ t, t < n → gl L t = gl X t * gl Y t % p := fun t ht => by rw [hLv.out t, if_pos (by omega)]
              replace hLp := Lib.hid hLp
              replace hLe := Lib.hid hLe
              replace hin := Lib.hid hin
              obtain ⟨iv, hiv⟩ : ∃ iv, iv = rw' ^ (p - 2) % p := ⟨_, rfl⟩
              have hivp : iv < p := by rw [hiv]; exact Nat.mod_lt _ (by omega)
              have CI := fun (W : World) => finv_c p rw' W hp2 (by omega) (by omega)
              rw [← hiv] at CI
              have CZ := fun (W : World) (hW : Arr W bx L) => run_c p bx k iv L W hφ (by omega) hpB hk hW (by rw [hLl.out, HNK.out]) hLp.out hivp (by
                rcases HPP.out.root hφ k hk with h | h
                · exact .inl h
                · right
                  have h1 := HPP.out.back hφ k
                  rw [← hrw.out, ← hiv] at h1
                  have h2 : pw (φ rw' * φ iv) (2 ^ (k - 1)) = 1 := by rw [h1, pw_one]
                  rw [pw_base, hrw.out, h] at h2
                  grind)
              rw [← HNK.out] at CZ
              unfold fld at CI CZ
              replace CI := Lib.hid CI
              replace CZ := Lib.hid CZ
              replace hiv := Lib.hid hiv
              have hd := (Below.refl wr.heap.size wr).drew
              have gp := cell_below hd hcp
              have gb := hb6.cons hd
              have gL := hL.below hd
              clear hLv ho hX5 hc5 hb5 hs5 hi
              go_wp2_with (fail)
              go_region_held3 (fun W => W.cell? ⟨w.heap.size, 0, none⟩ = some (.int .u64 (p : Nat)))
                (first
                  | exact gp
                  | exact gp7
                  | exact gp8
                  | go_keep)
                (first
                  | (go_at_call 175; (with_reducible refine (CI.out _).mono ?_); rintro e W7 ⟨rfl, hb7⟩; have gp7 := cell_below hb7 gp; have gb7 := gb.cons hb7; have gL7 := gL.below hb7)
                  | (go_at_call 185; (with_reducible refine (CZ.out _ gL7).mono ?_); rintro e W8 ⟨rfl, ho8, Z, hZ, hZl, hZp, hZv⟩; have gp8 := ho8.cell gp7 hsx; have gb8 := gb7.trans (ho8.below hlx gb7.size)))
              replace hZl := Lib.hid hZl
              replace hZp := Lib.hid hZp
              replace hZv := Lib.hid hZv
              have hs8 := gb8.size
              obtain ⟨ov, hov⟩ : ∃ ov, ov = n ^ (p - 2) % p := ⟨_, rfl⟩
              have hovp : ov < p := by rw [hov]; exact Nat.mod_lt _ (by omega)
              have CO := fun (W : World) => finv_c p n W hp2 (by omega) (by omega)
              rw [← hov] at CO
              unfold fld at CO
              replace CO := Lib.hid CO
              replace hov := Lib.hid hov
              have zn : IntKind.u64.wrap (n : Int) = (n : Int) := IntWalk.u64_in _ (by omega)
              have hd8 := (Below.refl W8.heap.size W8).drew
              have g9 := cell_below hd8 gp8
              have gb9 := gb8.cons hd8
              have gZ9 := hZ.below hd8
              clear gp gb gL gp7 gb7 gL7 hcp hb6 hs6 CI CZ ho8
              go_wp2_with (fail)
              go_region_held3 (fun W => W.cell? ⟨w.heap.size, 0, none⟩ = some (.int .u64 (p : Nat)))
                (first
                  | exact g9
                  | exact g10
                  | go_keep)
                (first
                  | (go_at_call 175; (with_reducible refine (CO.out _).mono ?_); rintro e W10 ⟨rfl, hb10⟩; have g10 := cell_below hb10 g9; have gb10 := gb9.cons hb10; have gZ10 := gZ9.below hb10))
              clear g9 gb9 gZ9 hd8 CO hs8
              have hs10 := gb10.size
              obtain ⟨WA, rfl⟩ : ∃ WA : World, WA = W10 := ⟨_, rfl⟩
              go_wp2_with (fail)
              go_loopw [18, 102] (fun vi ct wr => ∃ (i : Nat) (L : List Nat), ct = .int .i64 i ∧ i ≤ n ∧ Only bx WA wr ∧ Arr wr bx L ∧ Hid (L.length = n) ∧ Hid (∀ t, gl L t = if t < i then gl Z t * ov % p else gl Z t)) (fun vi ct wr => n - (intOf ct).toNat)
              case atStart => exact ⟨0, Z, rfl, Nat.zero_le _, .refl _ _, gZ10, Lib.hid hZl.out, Lib.hid (fun t => by rw [if_neg (by omega)])⟩
              case round =>
                obtain ⟨i, L, rfl, hi, ho, hL, hLl, hLv⟩ := hrel
                by_cases hlt : i < n
                · have hcp := ho.cell g10 hsx
                  have q1 := hL.cell i (by rw [hLl.out]; exact hlt)
                  have hxv : gl L i = gl Z i := by rw [hLv.out i, if_neg (by omega)]
                  have hxp := hZp.out i
                  obtain ⟨x, hx⟩ : ∃ x, x = gl Z i := ⟨_, rfl⟩
                  rw [hxv, ← hx] at q1
                  rw [← hx] at hxp
                  obtain ⟨z, hz⟩ : ∃ z, z = x * ov % p := ⟨_, rfl⟩
                  have CM := fun (W : World) => fmul_c p x ov W (by omega) (by omega) (by omega) (by omega)
                  rw [← hz] at CM
                  unfold fld at CM
                  replace CM := Lib.hid CM
                  replace hx := Lib.hid hx
                  replace hz := Lib.hid hz
                  have hd := (Below.refl wr.heap.size wr).drew
                  have gp := cell_below hd hcp
                  have g1 := cell_below hd q1
                  clear hxv
                  go_wp2_with (fail)
                  go_region_with (go_at_call 176; (with_reducible refine (CM.out _).mono ?_); rintro e V4 ⟨rfl, hbv⟩; have hLV := (show Arr wr.drew bx L from hL).below hbv; have fz := hLV.frozen i; have hcq := hLV.cell i (by rw [hLl.out]; exact hlt))
                  all_goals
                    go_wp2_with (fail)
                    go_roundw
                    case rel =>
                      refine ⟨i + 1, L.set i z, by go_num, by omega, (ho.drew.cons hbv).store _ _, hLV.store i z, Lib.hid (by simp [hLl.out]), Lib.hid (fun t => ?_)⟩
                      exact step_set (fun t => gl Z t * ov % p) (fun t => gl Z t) hlt hLl.out (by rw [hz.out, hx.out]) hLv.out t
                    case measure => simp only [intOf]; omega
                · have hin2 : i = n := by omega
                  have hfin : ∀ t, t < n → gl L t = cv (gl (limbs a)) (gl (limbs b)) (nl a) t % p := fun t ht => by
                    rw [hLv.out t, if_pos (by omega), hov.out, HNK.out]
                    refine conv_math HPP.out hφ k (nl a) (nl b) hk (gl (limbs a)) (gl (limbs b)) (gl X) (gl Y) (gl Z) (fun i hi => gl_of_le hi) (fun i hi => gl_of_le hi) (by rw [← HNK.out]; exact hN) (nl_pos.2 hb) (by rw [← HNK.out]; exact hla) (by rw [← HNK.out]; exact hlb) ?_ ?_ ?_ t (by rw [← HNK.out]; exact ht)
                    · intro t ht
                      rw [hXv.out t (by rw [HNK.out]; exact ht), HNK.out, hrw.out]
                      refine sm_congr fun j _ => ?_
                      show φ (gl M j) * _ = _
                      rw [hMp.out j, hφ.modp]
                    · intro t ht
                      rw [hYv.out t (by rw [HNK.out]; exact ht), HNK.out, hrw.out]
                      refine sm_congr fun j _ => ?_
                      show φ (gl Q j) * _ = _
                      rw [hQp.out j, hφ.modp]
                    · intro t ht
                      rw [hZv.out t (by rw [HNK.out]; exact ht), HNK.out, hiv.out, hrw.out]
                      refine sm_congr fun j hj => ?_
                      show φ (gl _ j) * _ = _
                      rw [hLe.out j (by rw [HNK.out]; exact hj)]
                  go_wp2_with (fail)
                  go_ret
                  exact ⟨bx, L, rfl, hlx, hL, hLl.out, hfin, gb10.trans (ho.below hlx hs10)⟩
end Go.Proofs.YthcmoimlnhghcaaGreatDoor

/- The three primes; a number from its rests; sums of products and the product. -/
set_option linter.unusedVariables false
set_option linter.unusedSimpArgs false
namespace Go.Proofs.YthcmoimlnhghcaaGreatDoor
open Go.RowKit Go.Shelf

/-- A power's rest, by squares. -/
def pm : Nat → Nat → Nat → Nat → Nat
  | 0, _, _, m => 1 % m
  | f + 1, b, e, m => if e % 2 = 1 then pm f (b * b % m) (e / 2) m * b % m else pm f (b * b % m) (e / 2) m
theorem pm_eq (f b e m : Nat) (h : e < 2 ^ f) : pm f b e m = b ^ e % m := by
  induction f generalizing b e with
  | zero =>
    have : e = 0 := by simpa using h
    rw [this]; rfl
  | succ f ih =>
    have h2 : e / 2 < 2 ^ f := by rw [Nat.pow_succ] at h; omega
    have hb : b ^ e = b ^ (e % 2) * (b * b) ^ (e / 2) := by
      rw [← Nat.pow_two, ← Nat.pow_mul, ← Nat.pow_add]
      congr 1; omega
    rw [pm, ih _ _ h2, ← Nat.pow_mod]
    split
    · rename_i h1
      rw [hb, h1, Nat.pow_one, Nat.mod_mul_mod, Nat.mul_comm]
    · have h1 : e % 2 = 0 := by omega
      rw [hb, h1, Nat.pow_zero, Nat.one_mul]
theorem prm_of (p : Nat) (h1 : 2 < p) (h2 : p < 1073741824) (h3 : p % 1048576 = 1) (h4 : pm 30 3 ((p - 1) / 2) p = p - 1) (h5 : pm 30 2 (p - 1) p = 1) : Prm p :=
  ⟨h1, h2, h3, (pm_eq 30 _ _ _ (by show _ < 1073741824; omega)).symm.trans h4, by rw [← pm_eq 30 _ _ _ (by show _ < 1073741824; omega)]; exact h5⟩
theorem prm0 : Prm 998244353 := prm_of _ (by decide) (by decide) (by decide) (by decide +kernel) (by decide +kernel)
theorem prm1 : Prm 469762049 := prm_of _ (by decide) (by decide) (by decide) (by decide +kernel) (by decide +kernel)
theorem prm2 : Prm 167772161 := prm_of _ (by decide) (by decide) (by decide) (by decide +kernel) (by decide +kernel)

theorem finv_pm (p a v : Nat) (w : World) (hp : 2 < p) (hp2 : p < 1073741824) (ha : a < 18446744073709551616) (hv : pm 30 a (p - 2) p = v) :
    Calls Tryz.prog 175 #[fld p, .int .u64 (a : Nat)] w (RetU w v) := by
  rw [← hv, pm_eq _ _ _ _ (by show _ < 1073741824; omega)]
  exact finv_c p a w hp (by omega) ha

/-- The next piece of S, from its rest by m. -/
theorem crt (S p m i : Nat) (hm : 1 < m) (h : p * i % m = 1) : (S % m + m - S % p % m) % m * i % m = S / p % m := by
  haveI : NeZero m := ⟨by omega⟩
  obtain ⟨φ, hφ⟩ : ∃ φ : Nat → Fin m, Hom m φ := ⟨_, hom_fin m⟩
  refine hφ.eq (Nat.mod_lt _ (by omega)) ?_
  have h1 : φ (p * i) = 1 := by rw [← hφ.modp, h, hφ.one]
  rw [hφ.mul] at h1
  have h2 : φ S = φ p * φ (S / p) + φ (S % p) := by rw [← hφ.mul, ← hφ.add, Nat.div_add_mod]
  have h3 := Nat.mod_lt (S % p) (show 0 < m by omega)
  rw [hφ.modp, hφ.mul, hφ.sub (by omega), hφ.modp, hφ.modp, h2]
  grind
theorem crt3 (S p q m n i j : Nat) (hq : q = p * m) (hm : 1 < m) (hn : 1 < n) (h1 : p * i % m = 1) (h2 : q * j % n = 1) (hS : S < q * n) (x y low z : Nat) (hx : x = S % p) (hy : y = (S % m + m - x % m) % m * i % m) (hl : low = x + y * p) (hz : z = (S % n + n - low % n) % n * j % n) :
    low = S % q ∧ z = S / q ∧ z * q + low = S := by
  have e1 : low = S % q := by rw [hl, hy, hx, crt S p m i hm h1, hq, Nat.mod_mul, Nat.mul_comm]
  have e2 : z = S / q := by
    rw [hz, e1, crt S q n j hn h2]
    exact Nat.mod_eq_of_lt (Nat.div_lt_of_lt_mul hS)
  exact ⟨e1, e2, by rw [e1, e2, Nat.mul_comm]; exact Nat.div_add_mod S q⟩

theorem pw_nat (x n : Nat) : pw x n = x ^ n := by
  induction n with
  | zero => rfl
  | succ n ih => rw [pw, ih, Nat.pow_succ]
theorem val_sm (l : List Nat) : ∀ k, k ≤ l.length → val (l.take k) = sm (fun s => gl l s * 4294967296 ^ s) k := by
  intro k
  induction k with
  | zero => intro _; simp [val, sm]
  | succ k ih => intro h; rw [val_take_succ _ _ h, ih (by omega), sm, Nat.mul_comm]
theorem psum_sm (f : Nat → Nat) (n : Nat) : psum f n = sm (fun j => f j * 4294967296 ^ j) n := by
  induction n with
  | zero => rfl
  | succ n ih => rw [psum, ih, sm]
/-- The sums of products of limbs are the product. -/
theorem cv_mul (a b M : Nat) (hb : b ≠ 0) (hM : nl a + nl b ≤ M + 1) : psum (cv (gl (limbs a)) (gl (limbs b)) (nl a)) M = a * b := by
  have h := NatS.cv_poly (gl (limbs a)) (gl (limbs b)) (nl a) (nl b) M 4294967296 (fun t ht => gl_of_le ht) hM (nl_pos.2 hb)
  simp only [pw_nat] at h
  rw [psum_sm, h]
  have h1 := val_sm (limbs a) (nl a) (Nat.le_refl _)
  have h2 := val_sm (limbs b) (nl b) (Nat.le_refl _)
  rw [show (limbs a).take (nl a) = limbs a from List.take_of_length_le (Nat.le_refl _), val_limbs] at h1
  rw [show (limbs b).take (nl b) = limbs b from List.take_of_length_le (Nat.le_refl _), val_limbs] at h2
  rw [← h1, ← h2]
/-- They are small. -/
theorem cv_small (a b : List Nat) (ha : Lim a) (hb : Lim b) (n j : Nat) : cv (gl a) (gl b) n j ≤ n * (4294967295 * 4294967295) := by
  unfold cv
  induction n with
  | zero => simp [sm]
  | succ n ih =>
    rw [sm, Nat.add_mul, Nat.one_mul]
    refine Nat.add_le_add ih ?_
    split
    · exact Nat.mul_le_mul (Nat.le_of_lt_succ (ha.gl _)) (Nat.le_of_lt_succ (hb.gl _))
    · exact Nat.zero_le _
end Go.Proofs.YthcmoimlnhghcaaGreatDoor

/- The sums of products, by three primes: the walk. -/
set_option linter.unusedVariables false
set_option linter.unusedSimpArgs false
namespace Go.Proofs.YthcmoimlnhghcaaGreatDoor
open Go.RowKit Go.Shelf

/-- The package's variable lies in memory as it was laid. -/
def Flds (w : World) : Prop := w.cell? ⟨2, 0, none⟩ = some (.int .u64 998244353) ∧ w.cell? ⟨2, 1, none⟩ = some (.int .u64 469762049) ∧ w.cell? ⟨2, 2, none⟩ = some (.int .u64 167772161)
theorem Flds.below {w w' : World} (h : Flds w) (hb : Below w.heap.size w w') : Flds w' := ⟨cell_below hb h.1, cell_below hb h.2.1, cell_below hb h.2.2⟩
theorem bitLen_gt (f x : Nat) (h : x < 2 ^ f) : x < 2 ^ Lib.bitLenAux f x := by
  induction f generalizing x with
  | zero => exact h
  | succ f ih =>
    rw [Lib.bitLenAux]
    by_cases e : x = 0
    · rw [if_pos e, e]; exact Nat.two_pow_pos _
    · rw [if_neg e]
      have h1 := ih (x / 2) (by rw [Nat.pow_succ] at h; omega)
      rw [Nat.add_comm, Nat.pow_succ]; omega
def pr : Nat → Nat
  | 0 => 998244353
  | 1 => 469762049
  | _ => 167772161

theorem idx0 (W : World) : (Instr.index 168 (.agg #[.int .u64 998244353, .int .u64 469762049, .int .u64 167772161]) (.int .i64 0)).run Tryz.prog W = .ok (.agg #[.int .u64 998244353]) W := by rfl
theorem idx1 (W : World) : (Instr.index 168 (.agg #[.int .u64 998244353, .int .u64 469762049, .int .u64 167772161]) (.int .i64 1)).run Tryz.prog W = .ok (.agg #[.int .u64 469762049]) W := by rfl
theorem idx2 (W : World) : (Instr.index 168 (.agg #[.int .u64 998244353, .int .u64 469762049, .int .u64 167772161]) (.int .i64 2)).run Tryz.prog W = .ok (.agg #[.int .u64 167772161]) W := by rfl
/-- A row of rests by p. -/
def Rst (W : World) (s N p a b : Nat) (u : Value) : Prop := ∃ bx X, u = .slice (some ⟨bx, 0, none⟩) N N ∧ bx ≠ s ∧ Arr W bx X ∧ X.length = N ∧ ∀ t, t < N → gl X t = cv (gl (limbs a)) (gl (limbs b)) (nl a) t % p
theorem Rst.only {W W' s N p a b u} (h : Rst W s N p a b u) (k : Only s W W') : Rst W' s N p a b u := by
  obtain ⟨bx, X, h1, h2, h3, h4⟩ := h
  exact ⟨bx, X, h1, h2, k.arr h3 h2, h4⟩

theorem inv1_c (W : World) : Calls Tryz.prog 175 #[.agg #[.int .u64 469762049], .int .u64 58720255] W fun e w' => e = .returned (.int .u64 208783132) ∧ Below W.heap.size W w' :=
  finv_pm 469762049 58720255 208783132 W (by decide) (by decide) (by decide) (by decide +kernel)
theorem inv2_c (W : World) : Calls Tryz.prog 175 #[.agg #[.int .u64 167772161], .int .u64 115762800] W fun e w' => e = .returned (.int .u64 29562547) ∧ Below W.heap.size W w' :=
  finv_pm 167772161 115762800 29562547 W (by decide) (by decide) (by decide) (by decide +kernel)
theorem info_r3 : (Tryz.prog.info? 162).map (fun i => (i.zero, i.size, i.bytes)) = some (some (.agg #[.int .u32 0, .int .u32 0, .int .u32 0]), 3, 12) := by kernel_rfl
theorem mkr3 (c : Int) (h0 : 0 ≤ c) (hc : c ≤ 4194304) : ∀ W : World, (Instr.makeSlice 149 (.int .i64 c) (.int .i64 c)).run Tryz.prog W =
    .ok (.slice (some ⟨W.heap.size, 0, none⟩) c.toNat c.toNat) (W.alloc (.cells (vals (List.replicate (3 * c.toNat) 0)).toArray 162)) := fun W => by
  obtain ⟨i0, hi, hz0, hz1, hz2⟩ := info_parts info_r3
  have := run_make (P := Tryz.prog) W 149 162 i0 _ Tryz.underlying149 hi hz0 .i64 .i64 c c h0 (Int.le_refl _) (by rw [hz2]; omega) (by omega)
  rw [hz1] at this
  rw [this]
  congr 4
  apply Array.ext_getElem?
  intro j
  have hz : ∀ m, m < 3 → (Value.agg #[.int .u32 0, .int .u32 0, .int .u32 0]).cells[m]! = .int .u32 0 := by
    intro m hm
    rcases m with _ | _ | _ | m
    · rfl
    · rfl
    · rfl
    · omega
  by_cases hj : j < c.toNat * 3
  · have hj2 : j < 3 * c.toNat := by omega
    have h3 := hz (j % 3) (Nat.mod_lt _ (by decide))
    simp only [madeCells, Array.getElem?_map, List.getElem?_toArray, vals, List.getElem?_map]
    rw [Array.getElem?_range, if_pos hj]
    simp [List.getElem?_replicate, hj2]
    exact h3
  · have hj2 : ¬ j < 3 * c.toNat := by omega
    simp [madeCells, vals, List.getElem?_replicate, hj, hj2]
theorem sub1_c (r x : Nat) (W : World) (hr : r < 469762049) (hx : x < 469762049) : Calls Tryz.prog 177 #[.agg #[.int .u64 469762049], .int .u64 (r : Nat), .int .u64 (x : Nat)] W (RetU W ((r + 469762049 - x) % 469762049)) :=
  fsub_c 469762049 r x W (by decide) (by decide) hr hx
theorem mul1_c (d : Nat) (W : World) (hd : d < 4294967296) : Calls Tryz.prog 176 #[.agg #[.int .u64 469762049], .int .u64 (d : Nat), .int .u64 208783132] W (RetU W (d * 208783132 % 469762049)) :=
  fmul_c 469762049 d 208783132 W (by decide) (by decide) hd (by decide)
theorem sub2_c (r x : Nat) (W : World) (hr : r < 167772161) (hx : x < 167772161) : Calls Tryz.prog 177 #[.agg #[.int .u64 167772161], .int .u64 (r : Nat), .int .u64 (x : Nat)] W (RetU W ((r + 167772161 - x) % 167772161)) :=
  fsub_c 167772161 r x W (by decide) (by decide) hr hx
theorem mul2_c (d : Nat) (W : World) (hd : d < 4294967296) : Calls Tryz.prog 176 #[.agg #[.int .u64 167772161], .int .u64 (d : Nat), .int .u64 29562547] W (RetU W (d * 29562547 % 167772161)) :=
  fmul_c 167772161 d 29562547 W (by decide) (by decide) hd (by decide)
theorem mulq_c (z : Nat) (w : World) (hz : z < 18446744073709551616) :
    Calls Tryz.prog 178 #[.int .u64 (z : Nat), .int .u64 468937312667959297] w fun e w' => e = .returned (.tuple #[.int .u64 ((z * 468937312667959297 / 18446744073709551616 : Nat) : Int), .int .u64 ((z * 468937312667959297 % 18446744073709551616 : Nat) : Int)]) ∧ w' = w :=
  mul64_c z 468937312667959297 w hz (by decide)
theorem add64_0 (x y : Nat) (w : World) :
    (callFunc 179 #[.int .u64 (x : Nat), .int .u64 (y : Nat), .int .u64 0]).run Tryz.prog w =
      .ok (.value (.tuple #[.int .u64 (((x + y) % 18446744073709551616 : Nat) : Int), .int .u64 (((x + y) / 18446744073709551616 : Nat) : Int)])) w :=
  add64_r x y 0 (by decide) w
theorem add_zero_off (o j : Nat) : (Addr.add ⟨o, 0, none⟩ j) = ⟨o, j, none⟩ := by
  unfold Addr.add
  by_cases h : j = 0 <;> simp [h]
theorem row_facts {W : World} {o j n : Nat} {L : List Nat} {t : TypeId} (h : W.heap[o]? = some (.cells (vals L).toArray t (0, 0))) (hl : L.length = n) (hj : j + 2 < n) :
    ((∃ x, W.cell? ⟨o, j, none⟩ = some x) ∧ W.frozen? ⟨o, j, none⟩ = false) ∧
    (∀ v, (∃ x, (W.setCell ⟨o, j, none⟩ v).cell? ⟨o, j + 1, none⟩ = some x) ∧ (W.setCell ⟨o, j, none⟩ v).frozen? ⟨o, j + 1, none⟩ = false) ∧
    (∀ v v', (∃ x, ((W.setCell ⟨o, j, none⟩ v).setCell ⟨o, j + 1, none⟩ v').cell? ⟨o, j + 2, none⟩ = some x) ∧ ((W.setCell ⟨o, j, none⟩ v).setCell ⟨o, j + 1, none⟩ v').frozen? ⟨o, j + 2, none⟩ = false) ∧
    (∀ a b c : Nat, (((W.setCell ⟨o, j, none⟩ (.int .u32 (a : Nat))).setCell ⟨o, j + 1, none⟩ (.int .u32 (b : Nat))).setCell ⟨o, j + 2, none⟩ (.int .u32 (c : Nat))).heap[o]? = some (.cells (vals (((L.set j a).set (j + 1) b).set (j + 2) c)).toArray t (0, 0))) := by
  have h1 := fun v => heap_setCell_same W o j _ _ v h
  have h2 := fun v v' => heap_setCell_same _ o (j + 1) _ _ v' (h1 v)
  have h3 := fun v v' v'' => heap_setCell_same _ o (j + 2) _ _ v'' (h2 v v')
  refine ⟨⟨?_, ?_⟩, fun v => ⟨?_, ?_⟩, fun v v' => ⟨?_, ?_⟩, fun a b c => ?_⟩
  · unfold World.cell?; rw [h]; exact ⟨_, Array.getElem?_eq_getElem (by simp [vals]; omega)⟩
  · unfold World.frozen?; rw [h]; simp
  · unfold World.cell?; rw [h1]; exact ⟨_, Array.getElem?_eq_getElem (by simp [vals]; omega)⟩
  · unfold World.frozen?; rw [h1]; simp
  · unfold World.cell?; rw [h2]; exact ⟨_, Array.getElem?_eq_getElem (by simp [vals]; omega)⟩
  · unfold World.frozen?; rw [h2]; simp
  · rw [h3]; simp [vals, List.map_set]
/-- One row set: its value, the others' kept. -/
theorem row_val {L : List Nat} {i n a b c S : Nat} {f : Nat → Nat} (hl : L.length = 3 * n) (hi : i < n) (hS : a + 4294967296 * b + 4294967296 * 4294967296 * c = S) (hf : S = f i)
    (h : ∀ j, j < i → gl L (3 * j) + 4294967296 * gl L (3 * j + 1) + 4294967296 * 4294967296 * gl L (3 * j + 2) = f j) :
    ∀ j, j < i + 1 → gl (((L.set (i * 3) a).set (i * 3 + 1) b).set (i * 3 + 2) c) (3 * j) + 4294967296 * gl (((L.set (i * 3) a).set (i * 3 + 1) b).set (i * 3 + 2) c) (3 * j + 1) + 4294967296 * 4294967296 * gl (((L.set (i * 3) a).set (i * 3 + 1) b).set (i * 3 + 2) c) (3 * j + 2) = f j := by
  intro j hj
  by_cases e : j = i
  · subst e
    rw [gl_set_ne' (by omega), gl_set_ne' (by omega), show 3 * j = j * 3 by omega, gl_set_eq' (by omega), gl_set_ne' (by omega), gl_set_eq' (by simp; omega), gl_set_eq' (by simp; omega), hS, hf]
  · rw [gl_set_ne' (by omega), gl_set_ne' (by omega), gl_set_ne' (by omega), gl_set_ne' (by omega), gl_set_ne' (by omega), gl_set_ne' (by omega), gl_set_ne' (by omega), gl_set_ne' (by omega), gl_set_ne' (by omega)]
    exact h j (by omega)
theorem rowsV_psum' (L : List Nat) (f : Nat → Nat) (n : Nat) (h : ∀ j, j < n → gl L (3 * j) + 4294967296 * gl L (3 * j + 1) + 4294967296 * 4294967296 * gl L (3 * j + 2) = f j) : rowsV L n = psum f n := by
  induction n with
  | zero => rfl
  | succ n ih => rw [rowsV, psum, ih (fun j hj => h j (by omega)), h n (by omega)]
theorem two_new (W : World) (x y : Value) : (((W.alloc (.cells #[.int .u64 0] 167)).setCell ⟨W.heap.size, 0, none⟩ x).alloc (.cells #[y] 167)).cell? ⟨W.heap.size, 0, none⟩ = some x ∧
    (((W.alloc (.cells #[.int .u64 0] 167)).setCell ⟨W.heap.size, 0, none⟩ x).alloc (.cells #[y] 167)).cell? ⟨W.heap.size + 1, 0, none⟩ = some y ∧
    Below W.heap.size W (((W.alloc (.cells #[.int .u64 0] 167)).setCell ⟨W.heap.size, 0, none⟩ x).alloc (.cells #[y] 167)) := by
  have h1 := heap_setCell_same _ W.heap.size 0 _ _ x (heap_alloc_new W (.cells #[.int .u64 0] 167))
  have hb1 : Below W.heap.size W (W.alloc (.cells #[.int .u64 0] 167)) := (Below.refl _ _).alloc (Nat.le_refl _) _
  have hb2 := hb1.setCell (p := ⟨W.heap.size, 0, none⟩) (Nat.le_refl _) x
  have hs : ((W.alloc (.cells #[.int .u64 0] 167)).setCell ⟨W.heap.size, 0, none⟩ x).heap.size = W.heap.size + 1 := by simp
  refine ⟨?_, ?_, hb2.alloc hb2.size _⟩
  · unfold World.cell?
    rw [Below.heap_alloc _ _ _ (by rw [hs]; exact Nat.lt_succ_self _), h1]; rfl
  · unfold World.cell?
    rw [← hs, heap_alloc_new]; rfl

theorem conv_c (A : Option Addr) (ca a : Nat) (B : Option Addr) (cb b : Nat) (w : World) (hA : NatV w A ca a) (hB : NatV w B cb b) (hG : Flds w) (ha : nl a ≤ 16384) (hb : nl b ≤ 16384) :
    Calls Tryz.prog 165 #[.slice A (nl a) ca, .slice B (nl b) cb] w fun e w' => ∃ X c n L, e = .returned (.slice X n c) ∧ L.length = 3 * n ∧ Rd w' X L ∧ Lim L ∧ n ≤ c ∧ n ≤ 32768 ∧ rowsV L n = a * b ∧ Below w.heap.size w w' := by
  by_cases h0 : nl a = 0 ∨ nl b = 0
  · have hab : a * b = 0 := by
      rcases h0 with h | h
      · rw [nl_eq_zero.1 h, Nat.zero_mul]
      · rw [nl_eq_zero.1 h, Nat.mul_zero]
    rw [hab]
    by_cases h1 : nl a = 0
    · rw [h1]
      go_enter Tryz.func165, Tryz.ntmps165
      go_wp2_with (fail)
      go_ret
      exact ⟨none, 0, 0, [], rfl, rfl, .inl rfl, Lim.nil, Nat.le_refl _, by decide, rfl, .refl _ _⟩
    · have h2 : nl b = 0 := by omega
      have h1' : ((nl a : Int) == 0) = false := ieqF (by omega)
      rw [h2]
      go_enter Tryz.func165, Tryz.ntmps165
      go_wp2_with (fail)
      go_ret
      exact ⟨none, 0, 0, [], rfl, rfl, .inl rfl, Lim.nil, Nat.le_refl _, by decide, rfl, .refl _ _⟩
  · have hb0 : b ≠ 0 := fun e => h0 (.inr (nl_eq_zero.2 e))
    have h1 : ((nl a : Int) == 0) = false := ieqF (by omega)
    have h2 : ((nl b : Int) == 0) = false := ieqF (by omega)
    obtain ⟨n, hn⟩ : ∃ n, n = nl a + nl b - 1 := ⟨_, rfl⟩
    have hn1 : 1 ≤ n := by omega
    have hnI : (nl a : Int) + (nl b : Int) = (n : Int) + 1 := by omega
    have hnB : n ≤ 32767 := by omega
    obtain ⟨n', hn'⟩ : ∃ n', n' = n - 1 := ⟨_, rfl⟩
    have hn'I : (n : Int) - 1 = (n' : Int) := by omega
    obtain ⟨k, hk⟩ : ∃ k, k = Lib.bitLen n' := ⟨_, rfl⟩
    have hk15 : k ≤ 15 := by rw [hk]; exact Lib.bitLen_le n' 15 (by decide) (by show n' < 32768; omega)
    have hnk : n ≤ 2 ^ k := by
      have : n' < 2 ^ k := by rw [hk]; exact bitLen_gt 64 n' (by show n' < 18446744073709551616; omega)
      omega
    have CL := fun (W : World) => len_c n' W (by omega)
    rw [← hk] at CL
    replace CL := Lib.hid CL
    have HN := Lib.hid hn
    have HN' := Lib.hid hn'
    replace hk := Lib.hid hk
    have CA := fun (p : Nat) (hP : Prm p) (W : World) (hA : NatV W A ca a) (hB : NatV W B cb b) => around_c p k A ca a B cb b W hP (by omega) hA hB hb0 (by omega) (by omega) (by omega)
    replace CA := Lib.hid CA
    have hu1 := Tryz.underlying168
    have hu2 := Tryz.underlying167
    have hu3 := Tryz.underlying165
    obtain ⟨g0, g1, g2⟩ := hG
    have h00 : 2 < w.heap.size := World.block_lt_of_cell? w _ g0
    clear hn hn' h0
    go_enter Tryz.func165, Tryz.ntmps165
    go_wp2_with (fail)
    refine (CL.out w).mono ?_
    rintro e w1 ⟨rfl, hw1⟩
    rw [hw1]
    clear hw1
    have hb1 : Below w.heap.size w (w.alloc (.cells #[.slice none 0 0, .slice none 0 0, .slice none 0 0] 165)) := (Below.refl _ _).alloc (Nat.le_refl _) _
    have hobj := heap_alloc_new w (.cells #[.slice none 0 0, .slice none 0 0, .slice none 0 0] 165)
    replace g0 := cell_below hb1 g0
    replace g1 := cell_below hb1 g1
    replace g2 := cell_below hb1 g2
    obtain ⟨s, hs⟩ : ∃ s, s = w.heap.size := ⟨_, rfl⟩
    obtain ⟨N, hN⟩ : ∃ N, N = 2 ^ k := ⟨_, rfl⟩
    rw [← hN] at hnk
    have HNN := Lib.hid hN
    have CA2 := fun p hP W h1 h2 => CA.out p hP W h1 h2
    rw [← hN] at CA2
    replace CA2 := Lib.hid CA2
    clear CA hN
    have hs0 : 2 ≠ s := by omega
    go_wp2_with (fail)
    rw [← hs] at hobj ⊢
    have hsl : w.heap.size ≤ s := by omega
    clear hs
    generalize w.alloc (.cells #[.slice none 0 0, .slice none 0 0, .slice none 0 0] 165) = W0 at *
    have hsW := hb1.size
    go_loopw [8, 9, 44] (fun vi vf ct wr => ∃ (i : Nat) (u0 u1 u2 : Value), ct = .int .i64 i ∧ i ≤ 3 ∧ Only s W0 wr ∧ wr.heap[s]? = some (.cells #[u0, u1, u2] 165 (0, 0)) ∧ Hid ((0 < i → Rst wr s N 998244353 a b u0) ∧ (1 < i → Rst wr s N 469762049 a b u1) ∧ (2 < i → Rst wr s N 167772161 a b u2))) (fun vi vf ct wr => 3 - (intOf ct).toNat)
    case atStart => exact ⟨0, _, _, _, rfl, by decide, .refl _ _, hobj, Lib.hid ⟨fun h => absurd h (by decide), fun h => absurd h (by decide), fun h => absurd h (by decide)⟩⟩
    case round =>
      obtain ⟨i, u0, u1, u2, rfl, hi, ho, hob, hR⟩ := hrel
      have hbr := hb1.trans (ho.below hsl hsW)
      have hAr := hA.below hbr
      have hBr := hB.below hbr
      by_cases hlt : i < 3
      · rcases i with _ | _ | _ | i
        · have hbB : Below wr.heap.size wr (wr.alloc (.cells #[.int .u64 998244353] 167)) := (Below.refl _ _).alloc (Nat.le_refl _) _
          have hcB : (wr.alloc (.cells #[.int .u64 998244353] 167)).cell? ⟨wr.heap.size, 0, none⟩ = some (.int .u64 998244353) := by
            unfold World.cell?; rw [heap_alloc_new]; rfl
          have hix := idx0
          have CC := CA2.out 998244353 prm0 _ (hAr.below hbB) (hBr.below hbB)
          unfold fld at CC
          rw [show ((998244353 : Nat) : Int) = 998244353 from rfl] at CC
          replace CC := Lib.hid CC
          have hsr : s < wr.heap.size := (Array.getElem?_eq_some_iff.1 hob).1
          go_wp2_with (fail)
          refine CC.out.mono ?_
          rintro e W2 ⟨bx, X, rfl, hbxl, hX, hXl, hXv, hb2⟩
          have hoW : Only s W0 W2 := (ho.cons hbB).cons hb2
          have hob2 := (hb2.block s (Nat.lt_of_lt_of_le hsr hbB.size)).trans ((hbB.block s hsr).trans hob)
          obtain ⟨⟨k0, k1, k2⟩, z0, z1, z2⟩ := at_cells hob2
          have hbxs : bx ≠ s := by have := hbB.size; omega
          replace hXv := Lib.hid hXv
          go_wp2_with (fail)
          go_roundw
          case rel =>
            refine ⟨1, .slice (some ⟨bx, 0, none⟩) N N, u1, u2, by go_num, by decide, hoW.store _ _, heap_setCell_same _ s 0 _ _ _ hob2, Lib.hid ⟨?_, ?_, ?_⟩⟩
            · exact fun _ => ⟨bx, X, rfl, hbxs, (Only.set s W2 _ _).arr hX hbxs, hXl, hXv.out⟩
            · exact fun h => absurd h (by decide)
            · exact fun h => absurd h (by decide)
          case measure => simp only [intOf]; decide
        · have hbB : Below wr.heap.size wr (wr.alloc (.cells #[.int .u64 469762049] 167)) := (Below.refl _ _).alloc (Nat.le_refl _) _
          have hcB : (wr.alloc (.cells #[.int .u64 469762049] 167)).cell? ⟨wr.heap.size, 0, none⟩ = some (.int .u64 469762049) := by
            unfold World.cell?; rw [heap_alloc_new]; rfl
          have hix := idx1
          have CC := CA2.out 469762049 prm1 _ (hAr.below hbB) (hBr.below hbB)
          unfold fld at CC
          rw [show ((469762049 : Nat) : Int) = 469762049 from rfl] at CC
          replace CC := Lib.hid CC
          have hsr : s < wr.heap.size := (Array.getElem?_eq_some_iff.1 hob).1
          go_wp2_with (fail)
          refine CC.out.mono ?_
          rintro e W2 ⟨bx, X, rfl, hbxl, hX, hXl, hXv, hb2⟩
          have hoW : Only s W0 W2 := (ho.cons hbB).cons hb2
          have hob2 := (hb2.block s (Nat.lt_of_lt_of_le hsr hbB.size)).trans ((hbB.block s hsr).trans hob)
          obtain ⟨⟨k0, k1, k2⟩, z0, z1, z2⟩ := at_cells hob2
          have hbxs : bx ≠ s := by have := hbB.size; omega
          replace hXv := Lib.hid hXv
          go_wp2_with (fail)
          go_roundw
          case rel =>
            refine ⟨2, u0, .slice (some ⟨bx, 0, none⟩) N N, u2, by go_num, by decide, hoW.store _ _, heap_setCell_same _ s 1 _ _ _ hob2, Lib.hid ⟨?_, ?_, ?_⟩⟩
            · exact fun _ => ((hR.out.1 (by decide)).only ((Only.of hbB).trans (Only.of hb2))).only (Only.set s W2 _ _)
            · exact fun _ => ⟨bx, X, rfl, hbxs, (Only.set s W2 _ _).arr hX hbxs, hXl, hXv.out⟩
            · exact fun h => absurd h (by decide)
          case measure => simp only [intOf]; decide
        · have hbB : Below wr.heap.size wr (wr.alloc (.cells #[.int .u64 167772161] 167)) := (Below.refl _ _).alloc (Nat.le_refl _) _
          have hcB : (wr.alloc (.cells #[.int .u64 167772161] 167)).cell? ⟨wr.heap.size, 0, none⟩ = some (.int .u64 167772161) := by
            unfold World.cell?; rw [heap_alloc_new]; rfl
          have hix := idx2
          have CC := CA2.out 167772161 prm2 _ (hAr.below hbB) (hBr.below hbB)
          unfold fld at CC
          rw [show ((167772161 : Nat) : Int) = 167772161 from rfl] at CC
          replace CC := Lib.hid CC
          have hsr : s < wr.heap.size := (Array.getElem?_eq_some_iff.1 hob).1
          go_wp2_with (fail)
          refine CC.out.mono ?_
          rintro e W2 ⟨bx, X, rfl, hbxl, hX, hXl, hXv, hb2⟩
          have hoW : Only s W0 W2 := (ho.cons hbB).cons hb2
          have hob2 := (hb2.block s (Nat.lt_of_lt_of_le hsr hbB.size)).trans ((hbB.block s hsr).trans hob)
          obtain ⟨⟨k0, k1, k2⟩, z0, z1, z2⟩ := at_cells hob2
          have hbxs : bx ≠ s := by have := hbB.size; omega
          replace hXv := Lib.hid hXv
          go_wp2_with (fail)
          go_roundw
          case rel =>
            refine ⟨3, u0, u1, .slice (some ⟨bx, 0, none⟩) N N, by go_num, by decide, hoW.store _ _, heap_setCell_same _ s 2 _ _ _ hob2, Lib.hid ⟨?_, ?_, ?_⟩⟩
            · exact fun _ => ((hR.out.1 (by decide)).only ((Only.of hbB).trans (Only.of hb2))).only (Only.set s W2 _ _)
            · exact fun _ => ((hR.out.2.1 (by decide)).only ((Only.of hbB).trans (Only.of hb2))).only (Only.set s W2 _ _)
            · exact fun _ => ⟨bx, X, rfl, hbxs, (Only.set s W2 _ _).arr hX hbxs, hXl, hXv.out⟩
          case measure => simp only [intOf]; decide
        · omega
      · obtain rfl : i = 3 := by omega
        obtain ⟨R0, R1, R2⟩ := hR.out
        replace R0 := R0 (by decide)
        replace R1 := R1 (by decide)
        replace R2 := R2 (by decide)
        replace g0 := ho.cell g0 hs0
        replace g1 := ho.cell g1 hs0
        replace g2 := ho.cell g2 hs0
        obtain ⟨W1, rfl⟩ : ∃ W1 : World, W1 = wr := ⟨_, rfl⟩
        have hsr : s < W1.heap.size := (Array.getElem?_eq_some_iff.1 hob).1
        have hd := (Below.refl W1.heap.size W1).drew
        have g0d := cell_below hd g0
        have g1d := cell_below hd g1
        have g2d := cell_below hd g2
        have hgW : 2 < W1.heap.size := World.block_lt_of_cell? W1 _ g1
        have hgN : ¬ 2 = W1.heap.size := by omega
        have hgM : ¬ W1.heap.size = 2 := by omega
        have hal1 : ∀ (m : Nat) (o : Obj), Below W1.heap.size W1 ((W1.drewN m).alloc o) := fun m o => ((Below.refl _ _).drewN m).alloc (Nat.le_refl _) o
        have hal2 : ∀ (m : Nat) (o o' : Obj), Below W1.heap.size W1 (((W1.drewN m).alloc o).alloc o') := fun m o o' => (hal1 m o).alloc (hal1 m o).size o'
        have e01 : ∀ (m : Nat), (W1.drewN m).cell? ⟨2, 1, none⟩ = some (.int .u64 469762049) := fun m => g1
        have e02 : ∀ (m : Nat), (W1.drewN m).cell? ⟨2, 2, none⟩ = some (.int .u64 167772161) := fun m => g2
        have e11 : ∀ (m : Nat) (o : Obj), ((W1.drewN m).alloc o).cell? ⟨2, 1, none⟩ = some (.int .u64 469762049) := fun m o => cell_below (hal1 m o) g1
        have e12 : ∀ (m : Nat) (o : Obj), ((W1.drewN m).alloc o).cell? ⟨2, 2, none⟩ = some (.int .u64 167772161) := fun m o => cell_below (hal1 m o) g2
        have e21 : ∀ (m : Nat) (o o' : Obj), (((W1.drewN m).alloc o).alloc o').cell? ⟨2, 1, none⟩ = some (.int .u64 469762049) := fun m o o' => cell_below (hal2 m o o') g1
        have e22 : ∀ (m : Nat) (o o' : Obj), (((W1.drewN m).alloc o).alloc o').cell? ⟨2, 2, none⟩ = some (.int .u64 167772161) := fun m o o' => cell_below (hal2 m o o') g2
        have hal3 : ∀ (m : Nat) (o o' : Obj) (v : Value), Below W1.heap.size W1 ((((W1.drewN m).alloc o).setCell ⟨W1.heap.size, 0, none⟩ v).alloc o') := fun m o o' v => ((hal1 m o).setCell (p := ⟨W1.heap.size, 0, none⟩) (Nat.le_refl _) v).alloc ((hal1 m o).setCell (p := ⟨W1.heap.size, 0, none⟩) (Nat.le_refl _) v).size o'
        have e31 : ∀ (m : Nat) (o o' : Obj) (v : Value), ((((W1.drewN m).alloc o).setCell ⟨W1.heap.size, 0, none⟩ v).alloc o').cell? ⟨2, 1, none⟩ = some (.int .u64 469762049) := fun m o o' v => cell_below (hal3 m o o' v) g1
        have e32 : ∀ (m : Nat) (o o' : Obj) (v : Value), ((((W1.drewN m).alloc o).setCell ⟨W1.heap.size, 0, none⟩ v).alloc o').cell? ⟨2, 2, none⟩ = some (.int .u64 167772161) := fun m o o' v => cell_below (hal3 m o o' v) g2
        clear hal3
        have st1 : ∀ (m : Nat) (u v : Value), (((W1.drewN m).alloc (.cells #[u] 167)).alloc (.cells #[v] 167)).heap[W1.heap.size]? = some (.cells #[u] 167 (0, 0)) := fun m u v => by
          rw [Below.heap_alloc _ _ _ (by simp)]; exact heap_alloc_new (W1.drewN m) _
        have st2 : ∀ (m : Nat) (u v : Value), (((W1.drewN m).alloc (.cells #[u] 167)).alloc (.cells #[v] 167)).cell? ⟨W1.heap.size, 0, none⟩ = some u := fun m u v => by
          unfold World.cell?; rw [st1]; rfl
        have st3 : ∀ (m : Nat) (u v : Value), (((W1.drewN m).alloc (.cells #[u] 167)).alloc (.cells #[v] 167)).frozen? ⟨W1.heap.size, 0, none⟩ = false := fun m u v => by
          unfold World.frozen?; rw [st1]; rfl
        replace st1 := Lib.hid st1
        clear hAr hBr hA hB CA2 CL ho hobj hb1 hR hal1 hal2
        go_wp2_with (fail)
        go_quiet (fail)
        go_wp2_with (fail)
        go_big_region
        rotate_left
        · skip
          have T := two_new (W1.drewN (nq + 1)) (.int .u64 167772161) (.int .u64 469762049)
          rw [show (W1.drewN (nq + 1)).heap.size = W1.heap.size from rfl] at T
          generalize (((W1.drewN (nq + 1)).alloc (.cells #[.int .u64 0] 167)).setCell ⟨W1.heap.size, 0, none⟩ (.int .u64 167772161)).alloc (.cells #[.int .u64 469762049] 167) = V at T ⊢
          obtain ⟨c2, c1, hbV⟩ := T
          have hbV' : Below W1.heap.size W1 V := ((Below.refl W1.heap.size W1).drewN (nq + 1)).trans hbV
          clear hbV
          obtain ⟨tA, htA⟩ : ∃ tA, tA = W1.heap.size + 1 := ⟨_, rfl⟩
          obtain ⟨tB, htB⟩ : ∃ tB, tB = W1.heap.size := ⟨_, rfl⟩
          clear e01 e02 e11 e12 e21 e22 st1 st2 st3 g0d g1d g2d
          rw [← htA] at c1 ⊢
          rw [← htB] at c2 ⊢
          replace htA := Lib.hid htA
          replace htB := Lib.hid htB
          obtain ⟨x0, X0, eu0, hx0s, hX0, hX0l, hX0v⟩ := R0.only (Only.of (b := s) hbV')
          obtain ⟨x1, X1, eu1, hx1s, hX1, hX1l, hX1v⟩ := R1.only (Only.of (b := s) hbV')
          obtain ⟨x2, X2, eu2, hx2s, hX2, hX2l, hX2v⟩ := R2.only (Only.of (b := s) hbV')
          subst eu0 eu1 eu2
          have hobV := (hbV'.block s hsr).trans hob
          obtain ⟨⟨k0, k1, k2⟩, _, _, _⟩ := at_cells hobV
          replace hX0v := Lib.hid hX0v
          replace hX1v := Lib.hid hX1v
          replace hX2v := Lib.hid hX2v
          clear R0 R1 R2 hob
          have hdV := (Below.refl V.heap.size V).drew
          have d1 := cell_below hdV c1
          have d2 := cell_below hdV c2
          go_wp2_with (fail)
          go_region_held3 (fun W => W.cell? ⟨tA, 0, none⟩ = some (.int .u64 469762049) ∧ W.cell? ⟨tB, 0, none⟩ = some (.int .u64 167772161))
            (first
              | exact ⟨d1, d2⟩
              | exact ⟨d13, d23⟩
              | exact ⟨d14, d24⟩
              | go_keep)
            (first
              | (go_at_call 175; (with_reducible refine (inv1_c _).mono ?_); rintro e W3 ⟨rfl, hb3⟩; have d13 := cell_below hb3 d1; have d23 := cell_below hb3 d2)
              | (go_at_call 175; (with_reducible refine (inv2_c _).mono ?_); rintro e W4 ⟨rfl, hb4⟩; have d14 := cell_below hb4 d13; have d24 := cell_below hb4 d23; have hbW := (hdV.cons hb3).cons hb4))
          replace k0 := cell_below hbW k0
          replace k1 := cell_below hbW k1
          replace k2 := cell_below hbW k2
          replace hX0 := hX0.below hbW
          replace hX1 := hX1.below hbW
          replace hX2 := hX2.below hbW
          have hmk := mkr3 (n : Int) (by omega) (by omega)
          rw [Int.toNat_natCast] at hmk
          obtain ⟨W5, hW5⟩ : ∃ W5, W5 = W4.alloc (.cells (vals (List.replicate (3 * n) 0)).toArray 162) := ⟨_, rfl⟩
          have hb5 : Below W4.heap.size W4 W5 := by rw [hW5]; exact (Below.refl _ _).alloc (Nat.le_refl _) _
          have hO5 : W5.heap[W4.heap.size]? = some (.cells (vals (List.replicate (3 * n) 0)).toArray 162 (0, 0)) := by rw [hW5, heap_alloc_new]
          clear hobV c1 c2 d1 d2 d13 d23
          go_wp2_with (fail)
          rw [← hW5]
          have hso : s ≠ W4.heap.size := by have h : s < W4.heap.size := World.block_lt_of_cell? _ _ k0; omega
          have hx0o : x0 ≠ W4.heap.size := by have := hX0.lt; omega
          have hx1o : x1 ≠ W4.heap.size := by have := hX1.lt; omega
          have hx2o : x2 ≠ W4.heap.size := by have := hX2.lt; omega
          have htAo : tA ≠ W4.heap.size := by have h : tA < W4.heap.size := World.block_lt_of_cell? _ _ d14; omega
          have htBo : tB ≠ W4.heap.size := by have h : tB < W4.heap.size := World.block_lt_of_cell? _ _ d24; omega
          replace k0 := cell_below hb5 k0
          replace k1 := cell_below hb5 k1
          replace k2 := cell_below hb5 k2
          replace hX0 := hX0.below hb5
          replace hX1 := hX1.below hb5
          replace hX2 := hX2.below hb5
          replace d14 := cell_below hb5 d14
          replace d24 := cell_below hb5 d24
          obtain ⟨o, ho⟩ : ∃ o, o = W4.heap.size := ⟨_, rfl⟩
          rw [← ho] at hso hx0o hx1o hx2o htAo htBo hO5 ⊢
          replace ho := Lib.hid ho
          replace hW5 := Lib.hid hW5
          clear hmk hdV
          go_loopw [17, 18, 19, 20, 21, 22, 23, 24, 86] (fun v17 v18 v19 v20 v21 v22 v23 v24 ct wr => ∃ (i : Nat) (L : List Nat), ct = .int .i64 i ∧ i ≤ n ∧ Only o W5 wr ∧ wr.heap[o]? = some (.cells (vals L).toArray 162 (0, 0)) ∧ Hid (L.length = 3 * n) ∧ Lim L ∧ Hid (∀ j, j < i → gl L (3 * j) + 4294967296 * gl L (3 * j + 1) + 4294967296 * 4294967296 * gl L (3 * j + 2) = cv (gl (limbs a)) (gl (limbs b)) (nl a) j)) (fun v17 v18 v19 v20 v21 v22 v23 v24 ct wr => n - (intOf ct).toNat)
          case atStart => exact ⟨0, _, rfl, Nat.zero_le _, .refl _ _, hO5, Lib.hid (by simp), Lim.replicate _ _ (by decide), Lib.hid (fun j h => absurd h (by omega))⟩
          case round =>
            obtain ⟨i, L, rfl, hi, hoo, hL, hLl, hLm, hLv⟩ := hrel
            by_cases hlt : i < n
            · have hiN : i < N := by omega
              have kk0 := hoo.cell k0 hso
              have kk1 := hoo.cell k1 hso
              have kk2 := hoo.cell k2 hso
              have kA := hoo.cell d14 htAo
              have kB := hoo.cell d24 htBo
              have q0 := (hoo.arr hX0 hx0o).cell i (by rw [hX0l]; exact hiN)
              have q1 := (hoo.arr hX1 hx1o).cell i (by rw [hX1l]; exact hiN)
              have q2 := (hoo.arr hX2 hx2o).cell i (by rw [hX2l]; exact hiN)
              rw [hX0v.out i hiN] at q0
              rw [hX1v.out i hiN] at q1
              rw [hX2v.out i hiN] at q2
              obtain ⟨S, hS⟩ : ∃ S, S = cv (gl (limbs a)) (gl (limbs b)) (nl a) i := ⟨_, rfl⟩
              rw [← hS] at q0 q1 q2
              have hSb : S < 468937312667959297 * 167772161 := by
                have h1 := cv_small (limbs a) (limbs b) (lim_limbs a) (lim_limbs b) (nl a) i
                rw [← hS] at h1
                exact Nat.lt_of_le_of_lt (Nat.le_trans h1 (Nat.mul_le_mul_right _ ha)) (by decide)
              obtain ⟨x, hx⟩ : ∃ x, x = S % 998244353 := ⟨_, rfl⟩
              obtain ⟨r1, hr1⟩ : ∃ r, r = S % 469762049 := ⟨_, rfl⟩
              obtain ⟨r2, hr2⟩ : ∃ r, r = S % 167772161 := ⟨_, rfl⟩
              rw [← hx] at q0
              rw [← hr1] at q1
              rw [← hr2] at q2
              have hxb : x < 998244353 := by rw [hx]; exact Nat.mod_lt _ (by decide)
              have hr1b : r1 < 469762049 := by rw [hr1]; exact Nat.mod_lt _ (by decide)
              have hr2b : r2 < 167772161 := by rw [hr2]; exact Nat.mod_lt _ (by decide)
              obtain ⟨xr, hxr⟩ : ∃ xr, xr = x % 469762049 := ⟨_, rfl⟩
              have hxrI : (x : Int) % 469762049 = (xr : Int) := by omega
              have hxrb : xr < 469762049 := by omega
              obtain ⟨d, hd⟩ : ∃ d, d = (r1 + 469762049 - xr) % 469762049 := ⟨_, rfl⟩
              have hdb : d < 469762049 := by omega
              obtain ⟨y, hy⟩ : ∃ y, y = d * 208783132 % 469762049 := ⟨_, rfl⟩
              have hyb : y < 469762049 := by rw [hy]; exact Nat.mod_lt _ (by decide)
              obtain ⟨low, hlow⟩ : ∃ low, low = x + y * 998244353 := ⟨_, rfl⟩
              have hlowI : (x : Int) + (y : Int) * 998244353 = (low : Int) := by omega
              have hlowb : low < 468937312667959297 := by omega
              obtain ⟨lr, hlr⟩ : ∃ lr, lr = low % 167772161 := ⟨_, rfl⟩
              have hlrI : (low : Int) % 167772161 = (lr : Int) := by omega
              have hlrb : lr < 167772161 := by omega
              obtain ⟨d2, hd2⟩ : ∃ d, d = (r2 + 167772161 - lr) % 167772161 := ⟨_, rfl⟩
              have hd2b : d2 < 167772161 := by omega
              obtain ⟨z, hz⟩ : ∃ z, z = d2 * 29562547 % 167772161 := ⟨_, rfl⟩
              have hzb : z < 167772161 := by rw [hz]; exact Nat.mod_lt _ (by decide)
              have hmain := (crt3 S 998244353 468937312667959297 469762049 167772161 208783132 29562547 (by decide) (by decide) (by decide) (by decide) (by decide) hSb x y low z hx (by rw [hy, hd, hr1, hxr]) hlow (by rw [hz, hd2, hr2, hlr])).2.2
              have C1 := fun (W : World) => sub1_c r1 xr W hr1b hxrb
              have C2 := fun (W : World) => mul1_c d W (by omega)
              have C3 := fun (W : World) => sub2_c r2 lr W hr2b hlrb
              have C4 := fun (W : World) => mul2_c d2 W (by omega)
              rw [← hd] at C1
              rw [← hy] at C2
              rw [← hd2] at C3
              rw [← hz] at C4
              have C5 := fun (W : World) => mulq_c z W (by omega)
              obtain ⟨hi', hhi⟩ : ∃ h, h = z * 468937312667959297 / 18446744073709551616 := ⟨_, rfl⟩
              obtain ⟨lo, hlo⟩ : ∃ l, l = z * 468937312667959297 % 18446744073709551616 := ⟨_, rfl⟩
              rw [← hhi, ← hlo] at C5
              have C6 := fun (W : World) => add64_0 lo low W
              obtain ⟨su, hsu⟩ : ∃ su, su = (lo + low) % 18446744073709551616 := ⟨_, rfl⟩
              obtain ⟨cy, hcy⟩ : ∃ cy, cy = (lo + low) / 18446744073709551616 := ⟨_, rfl⟩
              rw [← hsu, ← hcy] at C6
              have hhib : hi' < 4294967296 := by omega
              have hlob : lo < 18446744073709551616 := by omega
              have hcyb : cy ≤ 1 := by omega
              have hsub : su < 18446744073709551616 := by omega
              have hrow : su + 18446744073709551616 * (hi' + cy) = S := by omega
              have hrowb : hi' + cy < 4294967296 := by omega
              have tx : (x : Int).tmod 469762049 = (xr : Int) := by rw [Int.tmod_eq_emod_of_nonneg (by omega)]; exact hxrI
              have tl : (low : Int).tmod 167772161 = (lr : Int) := by rw [Int.tmod_eq_emod_of_nonneg (by omega)]; exact hlrI
              have zx : IntKind.u64.wrap (xr : Int) = (xr : Int) := IntWalk.u64_in _ (by omega)
              have zl : IntKind.u64.wrap (lr : Int) = (lr : Int) := IntWalk.u64_in _ (by omega)
              replace C1 := Lib.hid C1
              replace C2 := Lib.hid C2
              replace C3 := Lib.hid C3
              replace C4 := Lib.hid C4
              replace C5 := Lib.hid C5
              replace hS := Lib.hid hS
              replace hrow := Lib.hid hrow
              clear hmain hSb hx hr1 hr2 hxr hd hy hlow hlr hd2 hz hhi hlo hsu hcy
              have hdw := (Below.refl wr.heap.size wr).drew
              have jA := cell_below hdw kA
              have j1 := cell_below hdw kk1
              have jq1 := cell_below hdw q1
              go_wp2_with (fail)
              go_region_held3 (fun W => W.cell? ⟨tA, 0, none⟩ = some (.int .u64 469762049) ∧ W.cell? ⟨s, 1, none⟩ = some (.slice (some ⟨x1, 0, none⟩) N N) ∧ W.cell? ⟨x1, i, none⟩ = some (.int .u64 (r1 : Nat)))
                (first
                  | exact ⟨jA, j1, jq1⟩
                  | exact ⟨jA6, j16, jq16⟩
                  | exact ⟨jA7, j17, jq17⟩
                  | go_keep)
                (first
                  | (go_at_call 177; (with_reducible refine (C1.out _).mono ?_); rintro e W6 ⟨rfl, hb6⟩; have jA6 := cell_below hb6 jA; have j16 := cell_below hb6 j1; have jq16 := cell_below hb6 jq1)
                  | (go_at_call 176; (with_reducible refine (C2.out _).mono ?_); rintro e W7 ⟨rfl, hb7⟩; have jA7 := cell_below hb7 jA6; have j17 := cell_below hb7 j16; have jq17 := cell_below hb7 jq16; have hb67 := (hdw.cons hb6).cons hb7))
              have hB7 := (cell_below hb67 kB)
              have h27 := (cell_below hb67 kk2)
              have hq27 := (cell_below hb67 q2)
              have hdw7 := (Below.refl W7.heap.size W7).drew
              have jB := cell_below hdw7 hB7
              have j2 := cell_below hdw7 h27
              have jq2 := cell_below hdw7 hq27
              clear jA j1 jq1 jA6 j16 jq16 jA7 j17 jq17
              go_wp2_with (fail)
              go_region_held3 (fun W => W.cell? ⟨tB, 0, none⟩ = some (.int .u64 167772161) ∧ W.cell? ⟨s, 2, none⟩ = some (.slice (some ⟨x2, 0, none⟩) N N) ∧ W.cell? ⟨x2, i, none⟩ = some (.int .u64 (r2 : Nat)))
                (first
                  | exact ⟨jB, j2, jq2⟩
                  | exact ⟨jB8, j28, jq28⟩
                  | exact ⟨jB9, j29, jq29⟩
                  | go_keep)
                (first
                  | (go_at_call 177; (with_reducible refine (C3.out _).mono ?_); rintro e W8 ⟨rfl, hb8⟩; have jB8 := cell_below hb8 jB; have j28 := cell_below hb8 j2; have jq28 := cell_below hb8 jq2)
                  | (go_at_call 176; (with_reducible refine (C4.out _).mono ?_); rintro e W9 ⟨rfl, hb9⟩; have jB9 := cell_below hb9 jB8; have j29 := cell_below hb9 j28; have jq29 := cell_below hb9 jq28; have hb89 := (hdw7.cons hb8).cons hb9))
              have hb10 := hb67.cons hb89
              have hor : o < wr.heap.size := (Array.getElem?_eq_some_iff.1 hL).1
              have hL9 := (hb10.block o hor).trans hL
              have hoo9 := hoo.cons hb10
              clear jB j2 jq2 jB8 j28 jq28 jB9 j29 jq29 hB7 h27 hq27
              go_wp2_with (fail)
              obtain ⟨⟨⟨u0, fc0⟩, ff0⟩, F1, F2, F3⟩ := row_facts (j := i * 3) hL9 hLl.out (by omega)
              have fc1 := fun v => (F1 v).1
              have ff1 := fun v => (F1 v).2
              have fc2 := fun v v' => (F2 v v').1
              have ff2 := fun v v' => (F2 v v').2
              obtain ⟨g1, fc1⟩ : ∃ g : Value → Value, ∀ v, (W9.setCell ⟨o, i * 3, none⟩ v).cell? ⟨o, i * 3 + 1, none⟩ = some (g v) := ⟨fun v => (fc1 v).choose, fun v => (fc1 v).choose_spec⟩
              obtain ⟨g2, fc2⟩ : ∃ g : Value → Value → Value, ∀ v v', ((W9.setCell ⟨o, i * 3, none⟩ v).setCell ⟨o, i * 3 + 1, none⟩ v').cell? ⟨o, i * 3 + 2, none⟩ = some (g v v') := ⟨fun v v' => (fc2 v v').choose, fun v v' => (fc2 v v').choose_spec⟩
              replace F3 := Lib.hid F3
              clear F1 F2
              refine (C5.out W9).mono ?_
              rintro e W10 ⟨rfl, rfl⟩
              go_wp2_with (simp only [C6])
              go_roundw
              case rel =>
                have ea : ((su : Int) % 4294967296) = ((su % 4294967296 : Nat) : Int) := by omega
                have eb : ((su : Int) / 4294967296) = ((su / 4294967296 : Nat) : Int) := by omega
                have ec : ((hi' : Int) + (cy : Int)) = ((hi' + cy : Nat) : Int) := by omega
                rw [ea, eb, ec]
                refine ⟨i + 1, ((L.set (i * 3) (su % 4294967296)).set (i * 3 + 1) (su / 4294967296)).set (i * 3 + 2) (hi' + cy), by go_num, by omega, ((hoo9.store _ _).store _ _).store _ _, F3.out _ _ _, Lib.hid (by simp [hLl.out]), ((hLm.set _ _ (Nat.mod_lt _ (by decide))).set _ _ (by omega)).set _ _ hrowb, Lib.hid (row_val hLl.out hlt (by have := hrow.out; omega) hS.out hLv.out)⟩
              case measure => simp only [intOf]; omega
            · have hin : i = n := by omega
              have hrv : rowsV L n = a * b := by
                rw [rowsV_psum' L _ n (fun j hj => hLv.out j (by omega))]
                exact cv_mul a b n hb0 (by have := HN.out; omega)
              replace hrv := Lib.hid hrv
              go_wp2_with (fail)
              go_ret
              refine ⟨some ⟨o, 0, none⟩, n, n, L, rfl, hLl.out, .inr ⟨_, rfl, fun j u hu => ?_⟩, hLm, Nat.le_refl _, by omega, hrv.out, ?_⟩
              · unfold World.cell?
                rw [add_zero_off, hL]
                simpa using hu
              · have hT := ((hbr.cons hbV').cons hbW).cons hb5
                have ho4 := ((hbr.cons hbV').cons hbW).size
                exact hT.trans (hoo.below (by have := ho.out; omega) hT.size)
        have T := two_new (W1.drewN (nq + 1)) (.int .u64 469762049) (.int .u64 167772161)
        rw [show (W1.drewN (nq + 1)).heap.size = W1.heap.size from rfl] at T
        generalize (((W1.drewN (nq + 1)).alloc (.cells #[.int .u64 0] 167)).setCell ⟨W1.heap.size, 0, none⟩ (.int .u64 469762049)).alloc (.cells #[.int .u64 167772161] 167) = V at T ⊢
        obtain ⟨c1, c2, hbV⟩ := T
        have hbV' : Below W1.heap.size W1 V := ((Below.refl W1.heap.size W1).drewN (nq + 1)).trans hbV
        clear hbV
        obtain ⟨tB, htB⟩ : ∃ tB, tB = W1.heap.size + 1 := ⟨_, rfl⟩
        obtain ⟨tA, htA⟩ : ∃ tA, tA = W1.heap.size := ⟨_, rfl⟩
        clear e01 e02 e11 e12 e21 e22 st1 st2 st3 g0d g1d g2d
        rw [← htB] at c2 ⊢
        rw [← htA] at c1 ⊢
        replace htA := Lib.hid htA
        replace htB := Lib.hid htB
        obtain ⟨x0, X0, eu0, hx0s, hX0, hX0l, hX0v⟩ := R0.only (Only.of (b := s) hbV')
        obtain ⟨x1, X1, eu1, hx1s, hX1, hX1l, hX1v⟩ := R1.only (Only.of (b := s) hbV')
        obtain ⟨x2, X2, eu2, hx2s, hX2, hX2l, hX2v⟩ := R2.only (Only.of (b := s) hbV')
        subst eu0 eu1 eu2
        have hobV := (hbV'.block s hsr).trans hob
        obtain ⟨⟨k0, k1, k2⟩, _, _, _⟩ := at_cells hobV
        replace hX0v := Lib.hid hX0v
        replace hX1v := Lib.hid hX1v
        replace hX2v := Lib.hid hX2v
        clear R0 R1 R2 hob
        have hdV := (Below.refl V.heap.size V).drew
        have d1 := cell_below hdV c1
        have d2 := cell_below hdV c2
        go_wp2_with (fail)
        go_region_held3 (fun W => W.cell? ⟨tA, 0, none⟩ = some (.int .u64 469762049) ∧ W.cell? ⟨tB, 0, none⟩ = some (.int .u64 167772161))
          (first
            | exact ⟨d1, d2⟩
            | exact ⟨d13, d23⟩
            | exact ⟨d14, d24⟩
            | go_keep)
          (first
            | (go_at_call 175; (with_reducible refine (inv1_c _).mono ?_); rintro e W3 ⟨rfl, hb3⟩; have d13 := cell_below hb3 d1; have d23 := cell_below hb3 d2)
            | (go_at_call 175; (with_reducible refine (inv2_c _).mono ?_); rintro e W4 ⟨rfl, hb4⟩; have d14 := cell_below hb4 d13; have d24 := cell_below hb4 d23; have hbW := (hdV.cons hb3).cons hb4))
        replace k0 := cell_below hbW k0
        replace k1 := cell_below hbW k1
        replace k2 := cell_below hbW k2
        replace hX0 := hX0.below hbW
        replace hX1 := hX1.below hbW
        replace hX2 := hX2.below hbW
        have hmk := mkr3 (n : Int) (by omega) (by omega)
        rw [Int.toNat_natCast] at hmk
        obtain ⟨W5, hW5⟩ : ∃ W5, W5 = W4.alloc (.cells (vals (List.replicate (3 * n) 0)).toArray 162) := ⟨_, rfl⟩
        have hb5 : Below W4.heap.size W4 W5 := by rw [hW5]; exact (Below.refl _ _).alloc (Nat.le_refl _) _
        have hO5 : W5.heap[W4.heap.size]? = some (.cells (vals (List.replicate (3 * n) 0)).toArray 162 (0, 0)) := by rw [hW5, heap_alloc_new]
        clear hobV c1 c2 d1 d2 d13 d23
        go_wp2_with (fail)
        rw [← hW5]
        have hso : s ≠ W4.heap.size := by have h : s < W4.heap.size := World.block_lt_of_cell? _ _ k0; omega
        have hx0o : x0 ≠ W4.heap.size := by have := hX0.lt; omega
        have hx1o : x1 ≠ W4.heap.size := by have := hX1.lt; omega
        have hx2o : x2 ≠ W4.heap.size := by have := hX2.lt; omega
        have htAo : tA ≠ W4.heap.size := by have h : tA < W4.heap.size := World.block_lt_of_cell? _ _ d14; omega
        have htBo : tB ≠ W4.heap.size := by have h : tB < W4.heap.size := World.block_lt_of_cell? _ _ d24; omega
        replace k0 := cell_below hb5 k0
        replace k1 := cell_below hb5 k1
        replace k2 := cell_below hb5 k2
        replace hX0 := hX0.below hb5
        replace hX1 := hX1.below hb5
        replace hX2 := hX2.below hb5
        replace d14 := cell_below hb5 d14
        replace d24 := cell_below hb5 d24
        obtain ⟨o, ho⟩ : ∃ o, o = W4.heap.size := ⟨_, rfl⟩
        rw [← ho] at hso hx0o hx1o hx2o htAo htBo hO5 ⊢
        replace ho := Lib.hid ho
        replace hW5 := Lib.hid hW5
        clear hmk hdV
        go_loopw [17, 18, 19, 20, 21, 22, 23, 24, 86] (fun v17 v18 v19 v20 v21 v22 v23 v24 ct wr => ∃ (i : Nat) (L : List Nat), ct = .int .i64 i ∧ i ≤ n ∧ Only o W5 wr ∧ wr.heap[o]? = some (.cells (vals L).toArray 162 (0, 0)) ∧ Hid (L.length = 3 * n) ∧ Lim L ∧ Hid (∀ j, j < i → gl L (3 * j) + 4294967296 * gl L (3 * j + 1) + 4294967296 * 4294967296 * gl L (3 * j + 2) = cv (gl (limbs a)) (gl (limbs b)) (nl a) j)) (fun v17 v18 v19 v20 v21 v22 v23 v24 ct wr => n - (intOf ct).toNat)
        case atStart => exact ⟨0, _, rfl, Nat.zero_le _, .refl _ _, hO5, Lib.hid (by simp), Lim.replicate _ _ (by decide), Lib.hid (fun j h => absurd h (by omega))⟩
        case round =>
          obtain ⟨i, L, rfl, hi, hoo, hL, hLl, hLm, hLv⟩ := hrel
          by_cases hlt : i < n
          · have hiN : i < N := by omega
            have kk0 := hoo.cell k0 hso
            have kk1 := hoo.cell k1 hso
            have kk2 := hoo.cell k2 hso
            have kA := hoo.cell d14 htAo
            have kB := hoo.cell d24 htBo
            have q0 := (hoo.arr hX0 hx0o).cell i (by rw [hX0l]; exact hiN)
            have q1 := (hoo.arr hX1 hx1o).cell i (by rw [hX1l]; exact hiN)
            have q2 := (hoo.arr hX2 hx2o).cell i (by rw [hX2l]; exact hiN)
            rw [hX0v.out i hiN] at q0
            rw [hX1v.out i hiN] at q1
            rw [hX2v.out i hiN] at q2
            obtain ⟨S, hS⟩ : ∃ S, S = cv (gl (limbs a)) (gl (limbs b)) (nl a) i := ⟨_, rfl⟩
            rw [← hS] at q0 q1 q2
            have hSb : S < 468937312667959297 * 167772161 := by
              have h1 := cv_small (limbs a) (limbs b) (lim_limbs a) (lim_limbs b) (nl a) i
              rw [← hS] at h1
              exact Nat.lt_of_le_of_lt (Nat.le_trans h1 (Nat.mul_le_mul_right _ ha)) (by decide)
            obtain ⟨x, hx⟩ : ∃ x, x = S % 998244353 := ⟨_, rfl⟩
            obtain ⟨r1, hr1⟩ : ∃ r, r = S % 469762049 := ⟨_, rfl⟩
            obtain ⟨r2, hr2⟩ : ∃ r, r = S % 167772161 := ⟨_, rfl⟩
            rw [← hx] at q0
            rw [← hr1] at q1
            rw [← hr2] at q2
            have hxb : x < 998244353 := by rw [hx]; exact Nat.mod_lt _ (by decide)
            have hr1b : r1 < 469762049 := by rw [hr1]; exact Nat.mod_lt _ (by decide)
            have hr2b : r2 < 167772161 := by rw [hr2]; exact Nat.mod_lt _ (by decide)
            obtain ⟨xr, hxr⟩ : ∃ xr, xr = x % 469762049 := ⟨_, rfl⟩
            have hxrI : (x : Int) % 469762049 = (xr : Int) := by omega
            have hxrb : xr < 469762049 := by omega
            obtain ⟨d, hd⟩ : ∃ d, d = (r1 + 469762049 - xr) % 469762049 := ⟨_, rfl⟩
            have hdb : d < 469762049 := by omega
            obtain ⟨y, hy⟩ : ∃ y, y = d * 208783132 % 469762049 := ⟨_, rfl⟩
            have hyb : y < 469762049 := by rw [hy]; exact Nat.mod_lt _ (by decide)
            obtain ⟨low, hlow⟩ : ∃ low, low = x + y * 998244353 := ⟨_, rfl⟩
            have hlowI : (x : Int) + (y : Int) * 998244353 = (low : Int) := by omega
            have hlowb : low < 468937312667959297 := by omega
            obtain ⟨lr, hlr⟩ : ∃ lr, lr = low % 167772161 := ⟨_, rfl⟩
            have hlrI : (low : Int) % 167772161 = (lr : Int) := by omega
            have hlrb : lr < 167772161 := by omega
            obtain ⟨d2, hd2⟩ : ∃ d, d = (r2 + 167772161 - lr) % 167772161 := ⟨_, rfl⟩
            have hd2b : d2 < 167772161 := by omega
            obtain ⟨z, hz⟩ : ∃ z, z = d2 * 29562547 % 167772161 := ⟨_, rfl⟩
            have hzb : z < 167772161 := by rw [hz]; exact Nat.mod_lt _ (by decide)
            have hmain := (crt3 S 998244353 468937312667959297 469762049 167772161 208783132 29562547 (by decide) (by decide) (by decide) (by decide) (by decide) hSb x y low z hx (by rw [hy, hd, hr1, hxr]) hlow (by rw [hz, hd2, hr2, hlr])).2.2
            have C1 := fun (W : World) => sub1_c r1 xr W hr1b hxrb
            have C2 := fun (W : World) => mul1_c d W (by omega)
            have C3 := fun (W : World) => sub2_c r2 lr W hr2b hlrb
            have C4 := fun (W : World) => mul2_c d2 W (by omega)
            rw [← hd] at C1
            rw [← hy] at C2
            rw [← hd2] at C3
            rw [← hz] at C4
            have C5 := fun (W : World) => mulq_c z W (by omega)
            obtain ⟨hi', hhi⟩ : ∃ h, h = z * 468937312667959297 / 18446744073709551616 := ⟨_, rfl⟩
            obtain ⟨lo, hlo⟩ : ∃ l, l = z * 468937312667959297 % 18446744073709551616 := ⟨_, rfl⟩
            rw [← hhi, ← hlo] at C5
            have C6 := fun (W : World) => add64_0 lo low W
            obtain ⟨su, hsu⟩ : ∃ su, su = (lo + low) % 18446744073709551616 := ⟨_, rfl⟩
            obtain ⟨cy, hcy⟩ : ∃ cy, cy = (lo + low) / 18446744073709551616 := ⟨_, rfl⟩
            rw [← hsu, ← hcy] at C6
            have hhib : hi' < 4294967296 := by omega
            have hlob : lo < 18446744073709551616 := by omega
            have hcyb : cy ≤ 1 := by omega
            have hsub : su < 18446744073709551616 := by omega
            have hrow : su + 18446744073709551616 * (hi' + cy) = S := by omega
            have hrowb : hi' + cy < 4294967296 := by omega
            have tx : (x : Int).tmod 469762049 = (xr : Int) := by rw [Int.tmod_eq_emod_of_nonneg (by omega)]; exact hxrI
            have tl : (low : Int).tmod 167772161 = (lr : Int) := by rw [Int.tmod_eq_emod_of_nonneg (by omega)]; exact hlrI
            have zx : IntKind.u64.wrap (xr : Int) = (xr : Int) := IntWalk.u64_in _ (by omega)
            have zl : IntKind.u64.wrap (lr : Int) = (lr : Int) := IntWalk.u64_in _ (by omega)
            replace C1 := Lib.hid C1
            replace C2 := Lib.hid C2
            replace C3 := Lib.hid C3
            replace C4 := Lib.hid C4
            replace C5 := Lib.hid C5
            replace hS := Lib.hid hS
            replace hrow := Lib.hid hrow
            clear hmain hSb hx hr1 hr2 hxr hd hy hlow hlr hd2 hz hhi hlo hsu hcy
            have hdw := (Below.refl wr.heap.size wr).drew
            have jA := cell_below hdw kA
            have j1 := cell_below hdw kk1
            have jq1 := cell_below hdw q1
            go_wp2_with (fail)
            go_region_held3 (fun W => W.cell? ⟨tA, 0, none⟩ = some (.int .u64 469762049) ∧ W.cell? ⟨s, 1, none⟩ = some (.slice (some ⟨x1, 0, none⟩) N N) ∧ W.cell? ⟨x1, i, none⟩ = some (.int .u64 (r1 : Nat)))
              (first
                | exact ⟨jA, j1, jq1⟩
                | exact ⟨jA6, j16, jq16⟩
                | exact ⟨jA7, j17, jq17⟩
                | go_keep)
              (first
                | (go_at_call 177; (with_reducible refine (C1.out _).mono ?_); rintro e W6 ⟨rfl, hb6⟩; have jA6 := cell_below hb6 jA; have j16 := cell_below hb6 j1; have jq16 := cell_below hb6 jq1)
                | (go_at_call 176; (with_reducible refine (C2.out _).mono ?_); rintro e W7 ⟨rfl, hb7⟩; have jA7 := cell_below hb7 jA6; have j17 := cell_below hb7 j16; have jq17 := cell_below hb7 jq16; have hb67 := (hdw.cons hb6).cons hb7))
            have hB7 := (cell_below hb67 kB)
            have h27 := (cell_below hb67 kk2)
            have hq27 := (cell_below hb67 q2)
            have hdw7 := (Below.refl W7.heap.size W7).drew
            have jB := cell_below hdw7 hB7
            have j2 := cell_below hdw7 h27
            have jq2 := cell_below hdw7 hq27
            clear jA j1 jq1 jA6 j16 jq16 jA7 j17 jq17
            go_wp2_with (fail)
            go_region_held3 (fun W => W.cell? ⟨tB, 0, none⟩ = some (.int .u64 167772161) ∧ W.cell? ⟨s, 2, none⟩ = some (.slice (some ⟨x2, 0, none⟩) N N) ∧ W.cell? ⟨x2, i, none⟩ = some (.int .u64 (r2 : Nat)))
              (first
                | exact ⟨jB, j2, jq2⟩
                | exact ⟨jB8, j28, jq28⟩
                | exact ⟨jB9, j29, jq29⟩
                | go_keep)
              (first
                | (go_at_call 177; (with_reducible refine (C3.out _).mono ?_); rintro e W8 ⟨rfl, hb8⟩; have jB8 := cell_below hb8 jB; have j28 := cell_below hb8 j2; have jq28 := cell_below hb8 jq2)
                | (go_at_call 176; (with_reducible refine (C4.out _).mono ?_); rintro e W9 ⟨rfl, hb9⟩; have jB9 := cell_below hb9 jB8; have j29 := cell_below hb9 j28; have jq29 := cell_below hb9 jq28; have hb89 := (hdw7.cons hb8).cons hb9))
            have hb10 := hb67.cons hb89
            have hor : o < wr.heap.size := (Array.getElem?_eq_some_iff.1 hL).1
            have hL9 := (hb10.block o hor).trans hL
            have hoo9 := hoo.cons hb10
            clear jB j2 jq2 jB8 j28 jq28 jB9 j29 jq29 hB7 h27 hq27
            go_wp2_with (fail)
            obtain ⟨⟨⟨u0, fc0⟩, ff0⟩, F1, F2, F3⟩ := row_facts (j := i * 3) hL9 hLl.out (by omega)
            have fc1 := fun v => (F1 v).1
            have ff1 := fun v => (F1 v).2
            have fc2 := fun v v' => (F2 v v').1
            have ff2 := fun v v' => (F2 v v').2
            obtain ⟨g1, fc1⟩ : ∃ g : Value → Value, ∀ v, (W9.setCell ⟨o, i * 3, none⟩ v).cell? ⟨o, i * 3 + 1, none⟩ = some (g v) := ⟨fun v => (fc1 v).choose, fun v => (fc1 v).choose_spec⟩
            obtain ⟨g2, fc2⟩ : ∃ g : Value → Value → Value, ∀ v v', ((W9.setCell ⟨o, i * 3, none⟩ v).setCell ⟨o, i * 3 + 1, none⟩ v').cell? ⟨o, i * 3 + 2, none⟩ = some (g v v') := ⟨fun v v' => (fc2 v v').choose, fun v v' => (fc2 v v').choose_spec⟩
            replace F3 := Lib.hid F3
            clear F1 F2
            refine (C5.out W9).mono ?_
            rintro e W10 ⟨rfl, rfl⟩
            go_wp2_with (simp only [C6])
            go_roundw
            case rel =>
              have ea : ((su : Int) % 4294967296) = ((su % 4294967296 : Nat) : Int) := by omega
              have eb : ((su : Int) / 4294967296) = ((su / 4294967296 : Nat) : Int) := by omega
              have ec : ((hi' : Int) + (cy : Int)) = ((hi' + cy : Nat) : Int) := by omega
              rw [ea, eb, ec]
              refine ⟨i + 1, ((L.set (i * 3) (su % 4294967296)).set (i * 3 + 1) (su / 4294967296)).set (i * 3 + 2) (hi' + cy), by go_num, by omega, ((hoo9.store _ _).store _ _).store _ _, F3.out _ _ _, Lib.hid (by simp [hLl.out]), ((hLm.set _ _ (Nat.mod_lt _ (by decide))).set _ _ (by omega)).set _ _ hrowb, Lib.hid (row_val hLl.out hlt (by have := hrow.out; omega) hS.out hLv.out)⟩
            case measure => simp only [intOf]; omega
          · have hin : i = n := by omega
            have hrv : rowsV L n = a * b := by
              rw [rowsV_psum' L _ n (fun j hj => hLv.out j (by omega))]
              exact cv_mul a b n hb0 (by have := HN.out; omega)
            replace hrv := Lib.hid hrv
            go_wp2_with (fail)
            go_ret
            refine ⟨some ⟨o, 0, none⟩, n, n, L, rfl, hLl.out, .inr ⟨_, rfl, fun j u hu => ?_⟩, hLm, Nat.le_refl _, by omega, hrv.out, ?_⟩
            · unfold World.cell?
              rw [add_zero_off, hL]
              simpa using hu
            · have hT := ((hbr.cons hbV').cons hbW).cons hb5
              have ho4 := ((hbr.cons hbV').cons hbW).size
              exact hT.trans (hoo.below (by have := ho.out; omega) hT.size)
end Go.Proofs.YthcmoimlnhghcaaGreatDoor

/- Products by transforms, by the best way, and powers. -/
set_option linter.unusedVariables false
set_option linter.unusedSimpArgs false
namespace Go.Proofs.YthcmoimlnhghcaaGreatDoor
open Go.RowKit Go.Shelf
attribute [local go_sem] max2_i min2_i max_two min_two

theorem fast_c (A : Option Addr) (c a : Nat) (B : Option Addr) (d b : Nat) (w : World) (hA : NatV w A c a) (hB : NatV w B d b) (hG : Flds w) (ha : nl a ≤ 16384) (hb : nl b ≤ 16384) :
    Calls Tryz.prog 144 #[.slice A (nl a) c, .slice B (nl b) d] w (RetN w (a * b)) := by
  by_cases h : nl a < nl b
  · have hd : decide ((nl a : Int) < (nl b : Int)) = true := by simp; omega
    have hd2 : decide ((16384 : Int) < (nl b : Int)) = false := by simp; omega
    have CC := conv_c B d b A c a w hB hA hG hb ha
    replace CC := Lib.hid CC
    go_enter Tryz.func144, Tryz.ntmps144
    go_wp2_with (fail)
    refine CC.out.mono ?_
    rintro e w1 ⟨X, cx, n, L, rfl, hLl, hX, hLm, hnc, hn, hv, hb1⟩
    go_wp2_with (fail)
    refine (carry_c X n cx L w1 hLl hX hLm (by omega) hnc).mono ?_
    rintro e w2 ⟨Y, cy, rfl, h1, h2⟩
    go_wp2_with (fail)
    go_ret
    rw [Nat.mul_comm a b, ← hv]
    exact ⟨Y, cy, rfl, h1, hb1.cons h2⟩
  · have hd : decide ((nl a : Int) < (nl b : Int)) = false := by simp; omega
    have hd2 : decide ((16384 : Int) < (nl a : Int)) = false := by simp; omega
    have CC := conv_c A c a B d b w hA hB hG ha hb
    replace CC := Lib.hid CC
    go_enter Tryz.func144, Tryz.ntmps144
    go_wp2_with (fail)
    refine CC.out.mono ?_
    rintro e w1 ⟨X, cx, n, L, rfl, hLl, hX, hLm, hnc, hn, hv, hb1⟩
    go_wp2_with (fail)
    refine (carry_c X n cx L w1 hLl hX hLm (by omega) hnc).mono ?_
    rintro e w2 ⟨Y, cy, rfl, h1, h2⟩
    go_wp2_with (fail)
    go_ret
    rw [← hv]
    exact ⟨Y, cy, rfl, h1, hb1.cons h2⟩
end Go.Proofs.YthcmoimlnhghcaaGreatDoor

/- The product by whichever way is best; powers. -/
set_option linter.unusedVariables false
set_option linter.unusedSimpArgs false
namespace Go.Proofs.YthcmoimlnhghcaaGreatDoor
open Go.RowKit Go.Shelf
attribute [local go_sem] max2_i min2_i max_two min_two

theorem mul_c (A : Option Addr) (c a : Nat) (B : Option Addr) (d b : Nat) (w : World) (hA : NatV w A c a) (hB : NatV w B d b) (hG : Flds w) (ha : nl a ≤ 16384) (hb : nl b ≤ 16384) :
    Calls Tryz.prog 104 #[.slice A (nl a) c, .slice B (nl b) d] w (RetN w (a * b)) := by
  have hb0 : Below w.heap.size w (w.alloc (.cells #[.int .i64 48, .func (.func 144) #[] #[], .int .i64 14, .func (.func 145) #[] #[], .int .i64 8, .func (.func 146) #[] #[]] 137)) := (Below.refl _ _).alloc (Nat.le_refl _) _
  have hob := heap_alloc_new w (.cells #[.int .i64 48, .func (.func 144) #[] #[], .int .i64 14, .func (.func 145) #[] #[], .int .i64 8, .func (.func 146) #[] #[]] 137)
  have hu := Tryz.underlying137
  obtain ⟨m, hm⟩ : ∃ m, m = min (nl a) (nl b) := ⟨_, rfl⟩
  have hmI : min (nl a : Int) (nl b : Int) = (m : Int) := by omega
  have HM := Lib.hid hm
  clear hm
  go_enter Tryz.func104, Tryz.ntmps104
  go_wp2_with (fail)
  obtain ⟨s, hs⟩ : ∃ s, s = w.heap.size := ⟨_, rfl⟩
  rw [← hs] at hob ⊢
  replace hs := Lib.hid hs
  generalize w.alloc (.cells #[.int .i64 48, .func (.func 144) #[] #[], .int .i64 14, .func (.func 145) #[] #[], .int .i64 8, .func (.func 146) #[] #[]] 137) = W0 at *
  have k0 : W0.cell? ⟨s, 0, none⟩ = some (.int .i64 48) := by unfold World.cell?; rw [hob]; rfl
  have k1 : W0.cell? ⟨s, 1, none⟩ = some (.func (.func 144) #[] #[]) := by unfold World.cell?; rw [hob]; rfl
  have k2 : W0.cell? ⟨s, 2, none⟩ = some (.int .i64 14) := by unfold World.cell?; rw [hob]; rfl
  have k3 : W0.cell? ⟨s, 3, none⟩ = some (.func (.func 145) #[] #[]) := by unfold World.cell?; rw [hob]; rfl
  have k4 : W0.cell? ⟨s, 4, none⟩ = some (.int .i64 8) := by unfold World.cell?; rw [hob]; rfl
  have k5 : W0.cell? ⟨s, 5, none⟩ = some (.func (.func 146) #[] #[]) := by unfold World.cell?; rw [hob]; rfl
  clear hob
  go_loopw [6, 12] (fun v6 ct wr => ∃ i : Nat, ct = .int .i64 i ∧ i ≤ 3 ∧ Below W0.heap.size W0 wr) (fun v6 ct wr => 3 - (intOf ct).toNat)
  case atStart => exact ⟨0, rfl, by decide, .refl _ _⟩
  case round =>
    obtain ⟨i, rfl, hi, hbr⟩ := hrel
    have hbT := hb0.cons hbr
    by_cases hlt : i < 3
    · rcases i with _ | _ | _ | i
      · have hbB : Below wr.heap.size wr (wr.alloc (.cells #[.int .i64 48, .func (.func 144) #[] #[]] 137)) := (Below.refl _ _).alloc (Nat.le_refl _) _
        have hoB := heap_alloc_new wr (.cells #[.int .i64 48, .func (.func 144) #[] #[]] 137)
        have b0 : (wr.alloc (.cells #[.int .i64 48, .func (.func 144) #[] #[]] 137)).cell? ⟨wr.heap.size, 0, none⟩ = some (.int .i64 48) := by unfold World.cell?; rw [hoB]; rfl
        have b1 : (wr.alloc (.cells #[.int .i64 48, .func (.func 144) #[] #[]] 137)).cell? ⟨wr.heap.size, 1, none⟩ = some (.func (.func 144) #[] #[]) := by unfold World.cell?; rw [hoB]; rfl
        have q0 := cell_below hbr k0
        have q1 := cell_below hbr k1
        clear hoB
        by_cases hn : 48 ≤ m
        · have hd : decide ((48 : Int) ≤ (m : Int)) = true := by simp; omega
          have CC := fast_c A c a B d b _ ((hA.below hbT).below hbB) ((hB.below hbT).below hbB) ((hG.below hbT).below hbB) ha hb
          replace CC := Lib.hid CC
          go_wp2_with (fail)
          refine CC.out.mono ?_
          rintro e w2 ⟨Y, cy, rfl, h1, h2⟩
          go_wp2_with (fail)
          go_ret
          exact ⟨Y, cy, rfl, h1, (hbT.cons hbB).cons h2⟩
        · have hd : decide ((48 : Int) ≤ (m : Int)) = false := by simp; omega
          go_wp2_with (fail)
          go_roundw
          case rel => exact ⟨1, by go_num, by decide, hbr.cons hbB⟩
          case measure => simp only [intOf]; decide
      · have hbB : Below wr.heap.size wr (wr.alloc (.cells #[.int .i64 14, .func (.func 145) #[] #[]] 137)) := (Below.refl _ _).alloc (Nat.le_refl _) _
        have hoB := heap_alloc_new wr (.cells #[.int .i64 14, .func (.func 145) #[] #[]] 137)
        have b0 : (wr.alloc (.cells #[.int .i64 14, .func (.func 145) #[] #[]] 137)).cell? ⟨wr.heap.size, 0, none⟩ = some (.int .i64 14) := by unfold World.cell?; rw [hoB]; rfl
        have b1 : (wr.alloc (.cells #[.int .i64 14, .func (.func 145) #[] #[]] 137)).cell? ⟨wr.heap.size, 1, none⟩ = some (.func (.func 145) #[] #[]) := by unfold World.cell?; rw [hoB]; rfl
        have q0 := cell_below hbr k2
        have q1 := cell_below hbr k3
        clear hoB
        by_cases hn : 14 ≤ m
        · have hd : decide ((14 : Int) ≤ (m : Int)) = true := by simp; omega
          have CC := toom_c 16384 A c a B d b _ ((hA.below hbT).below hbB) ((hB.below hbT).below hbB) ha hb (by decide)
          replace CC := Lib.hid CC
          go_wp2_with (fail)
          refine CC.out.mono ?_
          rintro e w2 ⟨Y, cy, rfl, h1, h2⟩
          go_wp2_with (fail)
          go_ret
          exact ⟨Y, cy, rfl, h1, (hbT.cons hbB).cons h2⟩
        · have hd : decide ((14 : Int) ≤ (m : Int)) = false := by simp; omega
          go_wp2_with (fail)
          go_roundw
          case rel => exact ⟨2, by go_num, by decide, hbr.cons hbB⟩
          case measure => simp only [intOf]; decide
      · have hbB : Below wr.heap.size wr (wr.alloc (.cells #[.int .i64 8, .func (.func 146) #[] #[]] 137)) := (Below.refl _ _).alloc (Nat.le_refl _) _
        have hoB := heap_alloc_new wr (.cells #[.int .i64 8, .func (.func 146) #[] #[]] 137)
        have b0 : (wr.alloc (.cells #[.int .i64 8, .func (.func 146) #[] #[]] 137)).cell? ⟨wr.heap.size, 0, none⟩ = some (.int .i64 8) := by unfold World.cell?; rw [hoB]; rfl
        have b1 : (wr.alloc (.cells #[.int .i64 8, .func (.func 146) #[] #[]] 137)).cell? ⟨wr.heap.size, 1, none⟩ = some (.func (.func 146) #[] #[]) := by unfold World.cell?; rw [hoB]; rfl
        have q0 := cell_below hbr k4
        have q1 := cell_below hbr k5
        clear hoB
        by_cases hn : 8 ≤ m
        · have hd : decide ((8 : Int) ≤ (m : Int)) = true := by simp; omega
          have CC := karatsuba_c 16384 A c a B d b _ ((hA.below hbT).below hbB) ((hB.below hbT).below hbB) ha hb (by decide)
          replace CC := Lib.hid CC
          go_wp2_with (fail)
          refine CC.out.mono ?_
          rintro e w2 ⟨Y, cy, rfl, h1, h2⟩
          go_wp2_with (fail)
          go_ret
          exact ⟨Y, cy, rfl, h1, (hbT.cons hbB).cons h2⟩
        · have hd : decide ((8 : Int) ≤ (m : Int)) = false := by simp; omega
          go_wp2_with (fail)
          go_roundw
          case rel => exact ⟨3, by go_num, by decide, hbr.cons hbB⟩
          case measure => simp only [intOf]; decide
      · omega
    · obtain rfl : i = 3 := by omega
      have CC := school_c A c a B d b wr (hA.below hbT) (hB.below hbT) (by omega) (by omega)
      replace CC := Lib.hid CC
      go_wp2_with (fail)
      refine CC.out.mono ?_
      rintro e w2 ⟨Y, cy, rfl, h1, h2⟩
      go_wp2_with (fail)
      go_ret
      exact ⟨Y, cy, rfl, h1, hbT.cons h2⟩
end Go.Proofs.YthcmoimlnhghcaaGreatDoor

/- Whole numbers and dyadic numbers, walked: Mul. -/
set_option linter.unusedVariables false
set_option linter.unusedSimpArgs false
namespace Go.Proofs.YthcmoimlnhghcaaGreatDoor
open Go.RowKit Go.Shelf
attribute [local go_sem] max2_i min2_i max_two min_two

theorem imul_c (aA : Option Addr) (ac : Nat) (a : Int) (bA : Option Addr) (bc : Nat) (b : Int) (w : World) (ha : NatV w aA ac (mg a)) (hb : NatV w bA bc (mg b)) (hG : Flds w) (la : nl (mg a) ≤ 16384) (lb : nl (mg b) ≤ 16384) :
    Calls Tryz.prog 76 #[.agg #[.bool (sg a), .slice aA (nl (mg a)) ac], .agg #[.bool (sg b), .slice bA (nl (mg b)) bc]] w (RetI w (a * b)) := by
  obtain ⟨ns, Ens⟩ : ∃ x, x = (sg a != sg b) := ⟨_, rfl⟩
  have Ins : (sg a != sg b) = ns := Ens.symm
  have Ins2 : (!(sg a == sg b)) = ns := Ens.symm
  have hv := ival_mul a b
  rw [Ins] at hv
  replace hv := Lib.hid hv
  replace Ens := Lib.hid Ens
  obtain ⟨hb1, Ra, Rb, Rr⟩ := bx3 w #[.bool (sg a), .slice aA (nl (mg a)) ac] 24 #[.bool (sg b), .slice bA (nl (mg b)) bc] 24 #[.bool false, .slice none 0 0] 24
  replace ha := ha.below hb1
  replace hb := hb.below hb1
  replace hG := hG.below hb1
  have HBT := hb1
  clear hb1
  have qa0 := Ra.c (i := 0) rfl
  have qa1 := Ra.c (i := 1) rfl
  have qb0 := Rb.c (i := 0) rfl
  have qb1 := Rb.c (i := 1) rfl
  have qr0 := Rr.c (i := 0) rfl
  have qr1 := Rr.c (i := 1) rfl
  go_enter Tryz.func76, Tryz.ntmps76
  go_wp2_with (fail)
  have hd2 := drb ((((w.alloc (.cells #[.bool (sg a), .slice aA (nl (mg a)) ac] 24)).alloc (.cells #[.bool (sg b), .slice bA (nl (mg b)) bc] 24)).alloc (.cells #[.bool false, .slice none 0 0] 24)))
  replace ha := ha.below hd2
  replace hb := hb.below hd2
  replace hG := hG.below hd2
  replace Ra := Ra.below hd2
  replace qa0 := cbl hd2 qa0
  replace qa1 := cbl hd2 qa1
  replace Rb := Rb.below hd2
  replace qb0 := cbl hd2 qb0
  replace qb1 := cbl hd2 qb1
  replace Rr := Rr.below hd2
  replace qr0 := cbl hd2 qr0
  replace qr1 := cbl hd2 qr1
  replace HBT := Below.cons HBT hd2
  clear hd2
  obtain ⟨n, En⟩ : ∃ zq : Nat, zq = mg a * mg b := ⟨_, rfl⟩
  have Bn : nl n ≤ 32768 := by rw [En]; have := nl_mul (mg a) (mg b); omega
  have C2_0 := fun (W : World) (h1 : NatV W aA ac (mg a)) (h2 : NatV W bA bc (mg b)) (h3 : Flds W) => mul_c aA ac (mg a) bA bc (mg b) W h1 h2 h3 (by omega) (by omega)
  simp only [← En] at C2_0
  replace En := Lib.hid En
  replace C2_0 := Lib.hid C2_0
  obtain ⟨z, Ez⟩ : ∃ zq : Int, zq = ival ns n := ⟨_, rfl⟩
  have C2_1 := fun (W : World) (A : Option Addr) (c : Nat) (h1 : NatV W A c n) => imake_c ns A c n W h1 (by omega)
  simp only [← Ez] at C2_1
  replace Ez := Lib.hid Ez
  replace C2_1 := Lib.hid C2_1
  go_region_held3 (fun W => W.cell? ⟨w.heap.size, 0, none⟩ = some (.bool (sg a)) ∧ W.cell? ⟨(w.heap.size + 1), 0, none⟩ = some (.bool (sg b)) ∧ W.cell? ⟨w.heap.size, 1, none⟩ = some (.slice aA (nl (mg a)) ac) ∧ W.cell? ⟨(w.heap.size + 1), 1, none⟩ = some (.slice bA (nl (mg b)) bc))
    (first
      | exact ⟨qa0, qb0, qa1, qb1⟩
      | exact ⟨qa0_3, qb0_3, qa1_3, qb1_3⟩
      | exact ⟨qa0_4, qb0_4, qa1_4, qb1_4⟩
      | exact ⟨((Ra_4.other2 (by simp <;> omega)).c (i := 0) rfl), ((Rb_4.other2 (by simp <;> omega)).c (i := 0) rfl), ((Ra_4.other2 (by simp <;> omega)).c (i := 1) rfl), ((Rb_4.other2 (by simp <;> omega)).c (i := 1) rfl)⟩
      | go_keep)
    (first
      | (go_at_call 104; (with_reducible refine (C2_0.out _ ha hb hG).mono ?_); rintro e W3 ⟨Xn, cn, rfl, hn, hb3⟩; have ha_3 := ha.below hb3; have hb_3 := hb.below hb3; have hG_3 := hG.below hb3; have Ra_3 := Ra.below hb3; have qa0_3 := cbl hb3 qa0; have qa1_3 := cbl hb3 qa1; have Rb_3 := Rb.below hb3; have qb0_3 := cbl hb3 qb0; have qb1_3 := cbl hb3 qb1; have Rr_3 := Rr.below hb3; have qr0_3 := cbl hb3 qr0; have qr1_3 := cbl hb3 qr1; have HBT_3 := Below.cons HBT hb3)
      | (go_at_call 58; (with_reducible refine (C2_1.out _ _ _ hn).mono ?_); rintro e W4 ⟨Xz, cz, rfl, hz, hb4⟩; have ha_4 := ha_3.below hb4; have hb_4 := hb_3.below hb4; have hG_4 := hG_3.below hb4; have Ra_4 := Ra_3.below hb4; have qa0_4 := cbl hb4 qa0_3; have qa1_4 := cbl hb4 qa1_3; have Rb_4 := Rb_3.below hb4; have qb0_4 := cbl hb4 qb0_3; have qb1_4 := cbl hb4 qb1_3; have Rr_4 := Rr_3.below hb4; have qr0_4 := cbl hb4 qr0_3; have qr1_4 := cbl hb4 qr1_3; have hn_4 := hn.below hb4; have HBT_4 := Below.cons HBT_3 hb4; have fz0 := Rr_4.f (i := 0); have fz1 := Rr_4.f (i := 1)))
  all_goals (try go_wp2_with (fail))
  have hzz : z = a * b := by rw [Ez.out, En.out]; exact hv.out
  subst hzz
  have RS := Rr_4.store2 (.bool (sg ((a * b)))) (.slice Xz (nl (mg ((a * b)))) cz)
  have e0 := RS.c (i := 0) rfl
  have e1 := RS.c (i := 1) rfl
  refine bodyPost_ret (v := .agg #[.bool (sg ((a * b))), .slice Xz (nl (mg ((a * b)))) cz]) (by simp [results, Tryz.results76, go_sem, e0, e1]) rfl ?_
  exact ⟨Xz, cz, rfl, (Rr_4.keep2 (nuB rfl) hz), (Below.store2 HBT_4 (by first | exact Nat.le_refl _ | omega))⟩
end Go.Proofs.YthcmoimlnhghcaaGreatDoor
