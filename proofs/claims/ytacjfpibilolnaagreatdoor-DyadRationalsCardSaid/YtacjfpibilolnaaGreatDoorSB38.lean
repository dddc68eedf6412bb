/- The three primes; a number from its rests; sums of products and the product. -/
import Derived.Test.YtacjfpibilolnaaGreatDoorSB37
set_option maxRecDepth 100000
set_option maxHeartbeats 4000000
set_option linter.unusedVariables false
set_option linter.unusedSimpArgs false
namespace Go.Proofs.YtacjfpibilolnaaGreatDoor
open Go.RowKit Go.Shelf

/-- A power's rest, by squares. -/
def pm : Nat → Nat → Nat → Nat → Nat
  | 0, _, _, m => 1 % m
  | f + 1, b, e, m => if e % 2 = 1 then pm f (b * b % m) (e / 2) m * b % m else pm f (b * b % m) (e / 2) m
theorem pm_eq (f b e m : Nat) (h : e < 2 ^ f) : pm f b e m = b ^ e % m := by
  induction f generalizing b e with
  | zero =>
    have : e = 0 := by simpa using h
    rw [this]; rfl
  | succ f ih =>
    have h2 : e / 2 < 2 ^ f := by rw [Nat.pow_succ] at h; omega
    have hb : b ^ e = b ^ (e % 2) * (b * b) ^ (e / 2) := by
      rw [← Nat.pow_two, ← Nat.pow_mul, ← Nat.pow_add]
      congr 1; omega
    rw [pm, ih _ _ h2, ← Nat.pow_mod]
    split
    · rename_i h1
      rw [hb, h1, Nat.pow_one, Nat.mod_mul_mod, Nat.mul_comm]
    · have h1 : e % 2 = 0 := by omega
      rw [hb, h1, Nat.pow_zero, Nat.one_mul]
theorem prm_of (p : Nat) (h1 : 2 < p) (h2 : p < 1073741824) (h3 : p % 1048576 = 1) (h4 : pm 30 3 ((p - 1) / 2) p = p - 1) (h5 : pm 30 2 (p - 1) p = 1) : Prm p :=
  ⟨h1, h2, h3, (pm_eq 30 _ _ _ (by show _ < 1073741824; omega)).symm.trans h4, by rw [← pm_eq 30 _ _ _ (by show _ < 1073741824; omega)]; exact h5⟩
theorem prm0 : Prm 998244353 := prm_of _ (by decide) (by decide) (by decide) (by decide +kernel) (by decide +kernel)
theorem prm1 : Prm 469762049 := prm_of _ (by decide) (by decide) (by decide) (by decide +kernel) (by decide +kernel)
theorem prm2 : Prm 167772161 := prm_of _ (by decide) (by decide) (by decide) (by decide +kernel) (by decide +kernel)

theorem finv_pm (p a v : Nat) (w : World) (hp : 2 < p) (hp2 : p < 1073741824) (ha : a < 18446744073709551616) (hv : pm 30 a (p - 2) p = v) :
    Calls Tryz.prog 161 #[fld p, .int .u64 (a : Nat)] w (RetU w v) := by
  rw [← hv, pm_eq _ _ _ _ (by show _ < 1073741824; omega)]
  exact finv_c p a w hp (by omega) ha

/-- The next piece of S, from its rest by m. -/
theorem crt (S p m i : Nat) (hm : 1 < m) (h : p * i % m = 1) : (S % m + m - S % p % m) % m * i % m = S / p % m := by
  haveI : NeZero m := ⟨by omega⟩
  obtain ⟨φ, hφ⟩ : ∃ φ : Nat → Fin m, Hom m φ := ⟨_, hom_fin m⟩
  refine hφ.eq (Nat.mod_lt _ (by omega)) ?_
  have h1 : φ (p * i) = 1 := by rw [← hφ.modp, h, hφ.one]
  rw [hφ.mul] at h1
  have h2 : φ S = φ p * φ (S / p) + φ (S % p) := by rw [← hφ.mul, ← hφ.add, Nat.div_add_mod]
  have h3 := Nat.mod_lt (S % p) (show 0 < m by omega)
  rw [hφ.modp, hφ.mul, hφ.sub (by omega), hφ.modp, hφ.modp, h2]
  grind
theorem crt3 (S p q m n i j : Nat) (hq : q = p * m) (hm : 1 < m) (hn : 1 < n) (h1 : p * i % m = 1) (h2 : q * j % n = 1) (hS : S < q * n) (x y low z : Nat) (hx : x = S % p) (hy : y = (S % m + m - x % m) % m * i % m) (hl : low = x + y * p) (hz : z = (S % n + n - low % n) % n * j % n) :
    low = S % q ∧ z = S / q ∧ z * q + low = S := by
  have e1 : low = S % q := by rw [hl, hy, hx, crt S p m i hm h1, hq, Nat.mod_mul, Nat.mul_comm]
  have e2 : z = S / q := by
    rw [hz, e1, crt S q n j hn h2]
    exact Nat.mod_eq_of_lt (Nat.div_lt_of_lt_mul hS)
  exact ⟨e1, e2, by rw [e1, e2, Nat.mul_comm]; exact Nat.div_add_mod S q⟩

theorem pw_nat (x n : Nat) : pw x n = x ^ n := by
  induction n with
  | zero => rfl
  | succ n ih => rw [pw, ih, Nat.pow_succ]
theorem val_sm (l : List Nat) : ∀ k, k ≤ l.length → val (l.take k) = sm (fun s => gl l s * 4294967296 ^ s) k := by
  intro k
  induction k with
  | zero => intro _; simp [val, sm]
  | succ k ih => intro h; rw [val_take_succ _ _ h, ih (by omega), sm, Nat.mul_comm]
theorem psum_sm (f : Nat → Nat) (n : Nat) : psum f n = sm (fun j => f j * 4294967296 ^ j) n := by
  induction n with
  | zero => rfl
  | succ n ih => rw [psum, ih, sm]
/-- The sums of products of limbs are the product. -/
theorem cv_mul (a b M : Nat) (hb : b ≠ 0) (hM : nl a + nl b ≤ M + 1) : psum (cv (gl (limbs a)) (gl (limbs b)) (nl a)) M = a * b := by
  have h := NatS.cv_poly (gl (limbs a)) (gl (limbs b)) (nl a) (nl b) M 4294967296 (fun t ht => gl_of_le ht) hM (nl_pos.2 hb)
  simp only [pw_nat] at h
  rw [psum_sm, h]
  have h1 := val_sm (limbs a) (nl a) (Nat.le_refl _)
  have h2 := val_sm (limbs b) (nl b) (Nat.le_refl _)
  rw [show (limbs a).take (nl a) = limbs a from List.take_of_length_le (Nat.le_refl _), val_limbs] at h1
  rw [show (limbs b).take (nl b) = limbs b from List.take_of_length_le (Nat.le_refl _), val_limbs] at h2
  rw [← h1, ← h2]
/-- They are small. -/
theorem cv_small (a b : List Nat) (ha : Lim a) (hb : Lim b) (n j : Nat) : cv (gl a) (gl b) n j ≤ n * (4294967295 * 4294967295) := by
  unfold cv
  induction n with
  | zero => simp [sm]
  | succ n ih =>
    rw [sm, Nat.add_mul, Nat.one_mul]
    refine Nat.add_le_add ih ?_
    split
    · exact Nat.mul_le_mul (Nat.le_of_lt_succ (ha.gl _)) (Nat.le_of_lt_succ (hb.gl _))
    · exact Nat.zero_le _
end Go.Proofs.YtacjfpibilolnaaGreatDoor
