/- Plain numbers: a natural as a row of limbs (base 2^32), its limbs again, how many there are. No Go in it. -/
import Derived.WalkKit
set_option maxRecDepth 100000
set_option maxHeartbeats 4000000
set_option linter.unusedVariables false
set_option linter.unusedSimpArgs false
namespace Go.Proofs.YtacjfpibilolnaaGreatDoor

def val : List Nat → Nat
  | [] => 0
  | x :: l => x + 4294967296 * val l
def Lim (l : List Nat) : Prop := ∀ x ∈ l, x < 4294967296
def limbs (n : Nat) : List Nat := if h : n = 0 then [] else n % 4294967296 :: limbs (n / 4294967296)
  termination_by n
  decreasing_by omega
def nl (n : Nat) : Nat := (limbs n).length

/-- A limb of a row; 0 beyond. -/
def gl (l : List Nat) (i : Nat) : Nat := l.getD i 0
theorem gl_eq (l : List Nat) (i : Nat) : gl l i = l.getD i 0 := rfl
theorem gl_of_le {l : List Nat} {i : Nat} (h : l.length ≤ i) : gl l i = 0 := by simp [gl, h]
theorem gl_get {l : List Nat} {i : Nat} (h : i < l.length) : gl l i = l[i] := by simp [gl, h]
theorem Lim.nil : Lim [] := fun _ h => by simp at h
theorem Lim.cons {x l} (h : x < 4294967296) (k : Lim l) : Lim (x :: l) := fun y hy => by
  rcases List.mem_cons.1 hy with rfl | hy
  · exact h
  · exact k y hy
theorem Lim.head {x l} (h : Lim (x :: l)) : x < 4294967296 := h x (by simp)
theorem Lim.tail {x l} (h : Lim (x :: l)) : Lim l := fun y hy => h y (by simp [hy])
theorem Lim.append {l m} (h : Lim l) (k : Lim m) : Lim (l ++ m) := fun y hy => by
  rcases List.mem_append.1 hy with hy | hy
  · exact h y hy
  · exact k y hy
theorem Lim.take {l} (h : Lim l) (n) : Lim (l.take n) := fun y hy => h y (List.mem_of_mem_take hy)
theorem Lim.drop {l} (h : Lim l) (n) : Lim (l.drop n) := fun y hy => h y (List.mem_of_mem_drop hy)
theorem Lim.getD {l} (h : Lim l) (i : Nat) : l.getD i 0 < 4294967296 := by
  by_cases hi : i < l.length
  · rw [List.getD_eq_getElem?_getD, List.getElem?_eq_getElem hi]; exact h _ (List.getElem_mem hi)
  · rw [List.getD_eq_getElem?_getD, List.getElem?_eq_none (by omega)]; simp
theorem Lim.set {l} (h : Lim l) (i x) (hx : x < 4294967296) : Lim (l.set i x) := fun y hy => by
  rcases List.mem_or_eq_of_mem_set hy with hy | rfl
  · exact h y hy
  · exact hx
theorem Lim.replicate (n x) (hx : x < 4294967296) : Lim (List.replicate n x) := fun y hy => by
  rw [(List.mem_replicate.1 hy).2]; exact hx

theorem val_append (l m : List Nat) : val (l ++ m) = val l + 4294967296 ^ l.length * val m := by
  induction l with
  | nil => simp [val]
  | cons x l ih => simp only [List.cons_append, val, ih, List.length_cons, Nat.pow_succ]; grind
theorem val_lt {l : List Nat} (h : Lim l) : val l < 4294967296 ^ l.length := by
  induction l with
  | nil => simp [val]
  | cons x l ih =>
    have := ih h.tail
    have := h.head
    simp only [val, List.length_cons, Nat.pow_succ]
    omega
theorem val_replicate (n : Nat) : val (List.replicate n 0) = 0 := by
  induction n with
  | zero => rfl
  | succ n ih => simp [List.replicate_succ, val, ih]
theorem val_snoc (l : List Nat) (x : Nat) : val (l ++ [x]) = val l + 4294967296 ^ l.length * x := by
  rw [val_append]; simp [val]
theorem val_take {l : List Nat} (h : Lim l) (i : Nat) : val (l.take i) = val l % 4294967296 ^ i := by
  by_cases hi : i ≤ l.length
  · have e : val l = val (l.take i) + 4294967296 ^ i * val (l.drop i) := by
      conv => lhs; rw [← List.take_append_drop i l]
      rw [val_append, List.length_take, Nat.min_eq_left hi]
    have hl := val_lt (h.take i)
    rw [List.length_take, Nat.min_eq_left hi] at hl
    rw [e, Nat.add_mul_mod_self_left, Nat.mod_eq_of_lt hl]
  · rw [List.take_of_length_le (by omega), Nat.mod_eq_of_lt]
    exact Nat.lt_of_lt_of_le (val_lt h) (Nat.pow_le_pow_right (by decide) (by omega))
theorem val_getD {l : List Nat} (h : Lim l) (i : Nat) : l.getD i 0 = val l / 4294967296 ^ i % 4294967296 := by
  induction l generalizing i with
  | nil => simp [val]
  | cons x l ih =>
    have hx := h.head
    cases i with
    | zero => simp only [List.getD_cons_zero, val, Nat.pow_zero, Nat.div_one]; omega
    | succ i =>
      rw [List.getD_cons_succ, ih h.tail, val, Nat.pow_succ, Nat.mul_comm (4294967296 ^ i), ← Nat.div_div_eq_div_mul]
      congr 2
      omega
theorem val_set {l : List Nat} (i x : Nat) (hi : i < l.length) : val (l.set i x) + 4294967296 ^ i * l.getD i 0 = val l + 4294967296 ^ i * x := by
  induction l generalizing i with
  | nil => simp at hi
  | cons y l ih =>
    cases i with
    | zero => simp [val]; omega
    | succ i =>
      have := ih i (by simpa using hi)
      simp only [List.set_cons_succ, val, List.getD_cons_succ, Nat.pow_succ]
      grind

theorem limbs_zero : limbs 0 = [] := by rw [limbs]; simp
theorem limbs_pos {n : Nat} (h : n ≠ 0) : limbs n = n % 4294967296 :: limbs (n / 4294967296) := by rw [limbs]; simp [h]
theorem val_limbs (n : Nat) : val (limbs n) = n := by
  induction n using Nat.strongRecOn with
  | _ n ih =>
    by_cases h : n = 0
    · subst h; rw [limbs_zero]; rfl
    · rw [limbs_pos h, val, ih (n / 4294967296) (by omega)]; omega
theorem lim_limbs (n : Nat) : Lim (limbs n) := by
  induction n using Nat.strongRecOn with
  | _ n ih =>
    by_cases h : n = 0
    · subst h; rw [limbs_zero]; exact Lim.nil
    · rw [limbs_pos h]; exact Lim.cons (by omega) (ih _ (by omega))
/-- A row whose last limb is not 0 is the row of its own value. -/
theorem limbs_val {l : List Nat} (h : Lim l) (hl : l = [] ∨ l.getD (l.length - 1) 0 ≠ 0) : limbs (val l) = l := by
  induction l with
  | nil => exact limbs_zero
  | cons x l ih =>
    have hx := h.head
    have e1 : (x + 4294967296 * val l) % 4294967296 = x := by omega
    have e2 : (x + 4294967296 * val l) / 4294967296 = val l := by omega
    cases l with
    | nil =>
      have : x ≠ 0 := by simpa using hl
      rw [val, limbs_pos (by omega), e1, e2]; simp [val, limbs_zero]
    | cons y l =>
      have ih' := ih h.tail (.inr (by rcases hl with hl | hl; · simp at hl
                                      · simpa using hl))
      have hne : val (y :: l) ≠ 0 := by
        intro e; rw [e, limbs_zero] at ih'; simp at ih'
      rw [val, limbs_pos (by omega), e1, e2, ih']
theorem limbs_last (n : Nat) (h : n ≠ 0) : (limbs n).getD (nl n - 1) 0 ≠ 0 := by
  induction n using Nat.strongRecOn with
  | _ n ih =>
    unfold nl
    rw [limbs_pos h]
    by_cases h2 : n / 4294967296 = 0
    · rw [h2, limbs_zero]; simp; omega
    · have := ih (n / 4294967296) (by omega) h2
      unfold nl at this
      have hp : 0 < (limbs (n / 4294967296)).length := by rw [limbs_pos h2]; simp
      simp only [List.length_cons]
      rw [show (limbs (n / 4294967296)).length + 1 - 1 = ((limbs (n / 4294967296)).length - 1) + 1 by omega, List.getD_cons_succ]
      exact this
theorem limbs_inj {a b : Nat} (h : limbs a = limbs b) : a = b := by rw [← val_limbs a, h, val_limbs]
theorem limbs_getD (n i : Nat) : (limbs n).getD i 0 = n / 4294967296 ^ i % 4294967296 := by rw [val_getD (lim_limbs n), val_limbs]
theorem nl_zero : nl 0 = 0 := by simp [nl, limbs_zero]
theorem nl_lt (n : Nat) : n < 4294967296 ^ nl n := by have := val_lt (lim_limbs n); rwa [val_limbs] at this
theorem nl_le {n k : Nat} : nl n ≤ k ↔ n < 4294967296 ^ k := by
  constructor
  · intro h; exact Nat.lt_of_lt_of_le (nl_lt n) (Nat.pow_le_pow_right (by decide) h)
  · induction k generalizing n with
    | zero => intro h; obtain rfl : n = 0 := by simpa using h
              simp [nl_zero]
    | succ k ih =>
      intro h
      by_cases h0 : n = 0
      · subst h0; simp [nl_zero]
      · have := ih (n := n / 4294967296) (by rw [Nat.pow_succ] at h; omega)
        unfold nl at *
        rw [limbs_pos h0]; simp; omega
theorem lt_nl {n k : Nat} : k < nl n ↔ 4294967296 ^ k ≤ n := by
  have := @nl_le n k; omega
theorem nl_pos {n : Nat} : 0 < nl n ↔ n ≠ 0 := by rw [lt_nl]; simp; omega
theorem nl_eq_zero {n : Nat} : nl n = 0 ↔ n = 0 := by have := @nl_pos n; omega
theorem nl_mono {a b : Nat} (h : a ≤ b) : nl a ≤ nl b := nl_le.2 (Nat.lt_of_le_of_lt h (nl_lt b))
theorem nl_ge {n : Nat} (h : n ≠ 0) : 4294967296 ^ (nl n - 1) ≤ n := lt_nl.1 (by have := nl_pos.2 h; omega)
theorem nl_mul (a b : Nat) : nl (a * b) ≤ nl a + nl b := by
  rw [nl_le, Nat.pow_add]
  by_cases ha : a = 0
  · subst ha; simp only [Nat.zero_mul]; exact Nat.mul_pos (Nat.pow_pos (by decide)) (Nat.pow_pos (by decide))
  · exact Nat.mul_lt_mul'' (nl_lt a) (nl_lt b)
theorem nl_add (a b : Nat) : nl (a + b) ≤ max (nl a) (nl b) + 1 := by
  have h1 := nl_le.1 (Nat.le_max_left (nl a) (nl b))
  have h2 := nl_le.1 (Nat.le_max_right (nl a) (nl b))
  rw [nl_le, Nat.pow_succ]; omega
theorem nl_sub (a b : Nat) : nl (a - b) ≤ nl a := nl_mono (Nat.sub_le _ _)
theorem pow32 (k : Nat) : 2 ^ (32 * k) = 4294967296 ^ k := by rw [Nat.pow_mul]
theorem nl_two_pow (k : Nat) : nl (2 ^ k) = k / 32 + 1 := by
  have h1 : nl (2 ^ k) ≤ k / 32 + 1 := by
    rw [nl_le, ← pow32]; exact Nat.pow_lt_pow_right (by decide) (by omega)
  have h2 : k / 32 < nl (2 ^ k) := by
    rw [lt_nl, ← pow32]; exact Nat.pow_le_pow_right (by decide) (by omega)
  omega
theorem nl_shl (a k : Nat) : nl (a * 2 ^ k) ≤ nl a + k / 32 + 1 := by
  have := nl_mul a (2 ^ k); rw [nl_two_pow] at this; omega
theorem nl_div (a b : Nat) : nl (a / b) ≤ nl a := nl_mono (Nat.div_le_self _ _)
theorem nl_mod_le (a b : Nat) : nl (a % b) ≤ nl a := nl_mono (Nat.mod_le _ _)
theorem nl_one : nl 1 = 1 := by simpa using nl_two_pow 0
theorem nl_shr32 (a k : Nat) : nl (a / 2 ^ (32 * k)) ≤ nl a - k := by
  rw [nl_le, ← pow32]
  by_cases h : k ≤ nl a
  · rw [Nat.div_lt_iff_lt_mul (Nat.pow_pos (by decide)), ← Nat.pow_add, show 32 * (nl a - k) + 32 * k = 32 * nl a by omega, pow32]; exact nl_lt a
  · rw [Nat.div_eq_of_lt]
    · exact Nat.pow_pos (by decide)
    · rw [pow32]; exact nl_le.1 (by omega)

theorem Lim.gl {l} (h : Lim l) (i : Nat) : gl l i < 4294967296 := h.getD i
theorem val_gl {l : List Nat} (h : Lim l) (i : Nat) : gl l i = val l / 4294967296 ^ i % 4294967296 := val_getD h i
theorem limbs_gl (n i : Nat) : gl (limbs n) i = n / 4294967296 ^ i % 4294967296 := limbs_getD n i
theorem take_snoc (l : List Nat) (k : Nat) (h : k < l.length) : l.take (k + 1) = l.take k ++ [gl l k] := by
  rw [List.take_succ_eq_append_getElem h, gl_get h]
theorem val_take_succ (l : List Nat) (k : Nat) (h : k < l.length) : val (l.take (k + 1)) = val (l.take k) + 4294967296 ^ k * gl l k := by
  rw [take_snoc l k h, val_snoc, List.length_take, Nat.min_eq_left (by omega)]
theorem take_make {l : List Nat} (hL : Lim l) {k : Nat} (hk : k ≤ l.length) (h0 : ∀ i, k ≤ i → i < l.length → gl l i = 0) (h1 : k = 0 ∨ gl l (k - 1) ≠ 0) : l.take k = limbs (val l) := by
  have e : val l = val (l.take k) := by
    have h2 : ∀ m : List Nat, (∀ i, i < m.length → gl m i = 0) → val m = 0 := by
      intro m
      induction m with
      | nil => intro _; rfl
      | cons x m ih =>
        intro hm
        have := hm 0 (by simp)
        have h3 := ih (fun i hi => by have := hm (i + 1) (by simpa using hi); simpa [Go.Proofs.YtacjfpibilolnaaGreatDoor.gl] using this)
        simp only [Go.Proofs.YtacjfpibilolnaaGreatDoor.gl, List.getD_cons_zero] at this
        simp [val, this, h3]
    have h3 : val (l.drop k) = 0 := h2 _ (fun i hi => by
      have := h0 (k + i) (by omega) (by simp at hi; omega)
      simpa [Go.Proofs.YtacjfpibilolnaaGreatDoor.gl, List.getD_eq_getElem?_getD] using this)
    conv => lhs; rw [← List.take_append_drop k l]
    rw [val_append, h3]; simp
  rw [e, limbs_val (hL.take k)]
  rcases h1 with rfl | h1
  · exact .inl (by simp)
  · by_cases hk0 : k = 0
    · subst hk0; exact .inl (by simp)
    · refine .inr ?_
      rw [List.length_take, Nat.min_eq_left hk]
      simpa [Go.Proofs.YtacjfpibilolnaaGreatDoor.gl, List.getD_eq_getElem?_getD, List.getElem?_take, show k - 1 < k by omega] using h1

end Go.Proofs.YtacjfpibilolnaaGreatDoor

/- Plain numbers: signs, whole numbers times powers of 2 (as rationals), their one form, rounding. No Go in it. -/
set_option linter.unusedVariables false
set_option linter.unusedSimpArgs false
namespace Go.Proofs.YtacjfpibilolnaaGreatDoor

def sg (z : Int) : Bool := decide (z < 0)
def mg (z : Int) : Nat := z.natAbs
theorem sg_t {z : Int} (h : z < 0) : sg z = true := decide_eq_true h
theorem sg_f {z : Int} (h : 0 ≤ z) : sg z = false := decide_eq_false (by omega)
theorem mg_neg (z : Int) : mg (-z) = mg z := Int.natAbs_neg z
theorem mg_nat (n : Nat) : mg (n : Int) = n := Int.natAbs_natCast n
theorem mg_zero {z : Int} : mg z = 0 ↔ z = 0 := Int.natAbs_eq_zero
theorem mg_pos {z : Int} : 0 < mg z ↔ z ≠ 0 := by unfold mg; omega
theorem mg_mul (x y : Int) : mg (x * y) = mg x * mg y := Int.natAbs_mul x y

/-- How often 2 divides it. -/
def v2f : Nat → Nat → Nat
  | 0, _ => 0
  | f + 1, a => if a % 2 = 0 then v2f f (a / 2) + 1 else 0
def v2 (a : Nat) : Nat := if a = 0 then 0 else v2f a a
theorem v2f_spec : ∀ f a, 0 < a → a ≤ f → ∃ b, a = 2 ^ v2f f a * b ∧ b % 2 = 1
  | 0, a, h, k => by omega
  | f + 1, a, h, k => by
    unfold v2f
    split
    · obtain ⟨b, h1, h2⟩ := v2f_spec f (a / 2) (by omega) (by omega)
      refine ⟨b, ?_, h2⟩
      rw [Nat.pow_succ, Nat.mul_right_comm, ← h1]; omega
    · exact ⟨a, by rw [Nat.pow_zero, Nat.one_mul], by omega⟩
theorem v2_spec {a : Nat} (h : a ≠ 0) : ∃ b, a = 2 ^ v2 a * b ∧ b % 2 = 1 := by
  unfold v2; rw [if_neg h]; exact v2f_spec a a (by omega) (Nat.le_refl _)
theorem pow2_odd {i j b c : Nat} (h : 2 ^ i * b = 2 ^ j * c) (hb : b % 2 = 1) (hc : c % 2 = 1) : i = j ∧ b = c := by
  rcases Nat.lt_trichotomy i j with k | k | k
  · exfalso
    obtain ⟨d, rfl⟩ : ∃ d, j = i + (d + 1) := ⟨j - i - 1, by omega⟩
    rw [Nat.pow_add, Nat.mul_assoc] at h
    have := Nat.eq_of_mul_eq_mul_left (Nat.two_pow_pos i) h
    rw [Nat.pow_succ, Nat.mul_right_comm] at this
    omega
  · subst k
    exact ⟨rfl, Nat.eq_of_mul_eq_mul_left (Nat.two_pow_pos i) h⟩
  · exfalso
    obtain ⟨d, rfl⟩ : ∃ d, i = j + (d + 1) := ⟨i - j - 1, by omega⟩
    rw [Nat.pow_add, Nat.mul_assoc] at h
    have := Nat.eq_of_mul_eq_mul_left (Nat.two_pow_pos j) h.symm
    rw [Nat.pow_succ, Nat.mul_right_comm] at this
    omega
theorem v2_eq {a k b : Nat} (h : a = 2 ^ k * b) (hb : b % 2 = 1) : v2 a = k := by
  have h0 : a ≠ 0 := by rw [h]; exact Nat.mul_ne_zero (Nat.pos_iff_ne_zero.1 (Nat.two_pow_pos k)) (by omega)
  obtain ⟨c, h1, h2⟩ := v2_spec h0
  exact (pow2_odd (h1.symm.trans h) h2 hb).1
theorem v2_lt {a : Nat} (h : a ≠ 0) : 2 ^ v2 a ≤ a := by
  obtain ⟨b, h1, h2⟩ := v2_spec h
  conv => rhs; rw [h1]
  exact Nat.le_mul_of_pos_right _ (by omega)

/-- A whole number without the powers of 2 in it; the power of 2 then. -/
def dm (m : Int) : Int := m / 2 ^ v2 (mg m)
def de (m e : Int) : Int := if m = 0 then 0 else e + v2 (mg m)
theorem dm_spec (m : Int) : m = dm m * 2 ^ v2 (mg m) ∧ (m ≠ 0 → dm m % 2 = 1) := by
  by_cases h : m = 0
  · subst h
    exact ⟨by simp [dm], fun h => absurd rfl h⟩
  · obtain ⟨b, h1, h2⟩ := v2_spec (a := mg m) (by unfold mg; omega)
    have hd : (2 ^ v2 (mg m) : Int) ∣ m := by
      rw [← Int.dvd_natAbs]
      refine ⟨(b : Int), ?_⟩
      have : ((mg m : Nat) : Int) = ((2 ^ v2 (mg m) * b : Nat) : Int) := by rw [← h1]
      rw [Int.natCast_mul, Int.natCast_pow] at this
      exact this
    have h3 : m = dm m * 2 ^ v2 (mg m) := (Int.ediv_mul_cancel hd).symm
    refine ⟨h3, fun _ => ?_⟩
    have h4 : mg m = mg (dm m) * 2 ^ v2 (mg m) := by
      have := congrArg mg h3
      rw [mg_mul] at this
      have e : mg ((2 : Int) ^ v2 (mg m)) = 2 ^ v2 (mg m) := by unfold mg; rw [Int.natAbs_pow]; rfl
      rw [e] at this; exact this
    have h5 : b = mg (dm m) := by
      have h6 : 2 ^ v2 (mg m) * b = 2 ^ v2 (mg m) * mg (dm m) := by rw [← h1, Nat.mul_comm _ (mg (dm m))]; exact h4
      exact Nat.eq_of_mul_eq_mul_left (Nat.two_pow_pos _) h6
    unfold mg at h5
    omega
/-- The one form: odd, or nothing at all. -/
def Nz (m e : Int) : Prop := m % 2 = 1 ∨ m = 0 ∧ e = 0
theorem nz_make (m e : Int) : Nz (dm m) (de m e) := by
  by_cases h : m = 0
  · subst h; exact .inr ⟨by simp [dm], by simp [de]⟩
  · exact .inl ((dm_spec m).2 h)
/-- A whole number times a power of 2. -/
def dval (m e : Int) : Rat := (m : Rat) * (2 : Rat) ^ e
theorem two_ne : (2 : Rat) ≠ 0 := by decide
theorem zp_pos (e : Int) : (0 : Rat) < (2 : Rat) ^ e := Rat.zpow_pos (by decide)
theorem zp_add (i j : Int) : (2 : Rat) ^ (i + j) = (2 : Rat) ^ i * (2 : Rat) ^ j := Rat.zpow_add two_ne i j
theorem zp_nat (n : Nat) : (2 : Rat) ^ (n : Int) = ((2 ^ n : Nat) : Rat) := by
  rw [Rat.zpow_natCast]
  induction n with
  | zero => rfl
  | succ n ih => rw [Rat.pow_succ, ih, Nat.pow_succ, Rat.natCast_mul]; rfl
theorem zp_neg (n : Int) : (2 : Rat) ^ (-n) = ((2 : Rat) ^ n)⁻¹ := Rat.zpow_neg 2 n
theorem dval_zero (e : Int) : dval 0 e = 0 := by unfold dval; simp
theorem dval_shift (m e : Int) (k : Nat) : dval (m * 2 ^ k) e = dval m (e + k) := by
  unfold dval
  rw [Int.add_comm, zp_add, zp_nat, Rat.intCast_mul]
  rw [← Rat.mul_assoc]
  congr 2
theorem dval_make (m e : Int) : dval (dm m) (de m e) = dval m e := by
  by_cases h : m = 0
  · subst h; rw [show dm 0 = 0 by simp [dm], dval_zero, dval_zero]
  · have := (dm_spec m).1
    conv => rhs; rw [this]
    rw [dval_shift]; unfold de; rw [if_neg h]
theorem dval_eq_zero {m e : Int} : dval m e = 0 ↔ m = 0 := by
  unfold dval
  rw [Rat.mul_eq_zero]
  constructor
  · rintro (h | h)
    · exact Rat.intCast_eq_zero_iff.1 h
    · exact absurd h (Rat.ne_of_gt (zp_pos e))
  · intro h; subst h; exact .inl rfl
theorem dval_inj {m n e : Int} (h : dval m e = dval n e) : m = n := by
  unfold dval at h
  have h2 : (m : Rat) * 2 ^ e * (2 ^ e)⁻¹ = (n : Rat) * 2 ^ e * (2 ^ e)⁻¹ := by rw [h]
  rw [Rat.mul_assoc, Rat.mul_assoc, Rat.mul_inv_cancel _ (Rat.ne_of_gt (zp_pos e)), Rat.mul_one, Rat.mul_one] at h2
  exact Rat.intCast_inj.1 h2
theorem odd_shift {m n : Int} {k : Nat} (h : m = n * 2 ^ k) (hm : m % 2 = 1) : k = 0 := by
  cases k with
  | zero => rfl
  | succ k =>
    rw [Int.pow_succ, ← Int.mul_assoc] at h
    omega
theorem dval_uniq {m e n f : Int} (h1 : Nz m e) (h2 : Nz n f) (h : dval m e = dval n f) : m = n ∧ e = f := by
  rcases h1 with h1 | ⟨rfl, rfl⟩
  · rcases h2 with h2 | ⟨rfl, rfl⟩
    · rcases Int.le_total e f with k | k
      · obtain ⟨d, hd⟩ : ∃ d : Nat, f = e + d := ⟨(f - e).toNat, by omega⟩
        subst hd
        rw [← dval_shift] at h
        have h3 := dval_inj h
        have h4 := odd_shift h3 h1
        subst h4
        exact ⟨by simpa using h3, by simp⟩
      · obtain ⟨d, hd⟩ : ∃ d : Nat, e = f + d := ⟨(e - f).toNat, by omega⟩
        subst hd
        rw [← dval_shift] at h
        have h3 := dval_inj h
        have h4 := odd_shift h3.symm h2
        subst h4
        exact ⟨by simpa using h3, by simp⟩
    · rw [dval_zero] at h
      have := dval_eq_zero.1 h
      omega
  · rw [dval_zero] at h
    have := dval_eq_zero.1 h.symm
    rcases h2 with h2 | ⟨_, rfl⟩
    · omega
    · exact ⟨this.symm, rfl⟩
theorem dvd_two_pow {d n : Nat} (h : d ∣ 2 ^ n) : ∃ k, d = 2 ^ k := by
  have hd : d ≠ 0 := fun e => by subst e; have := Nat.eq_zero_of_zero_dvd h; have := Nat.two_pow_pos n; omega
  obtain ⟨b, h1, h2⟩ := v2_spec hd
  have hb : b ∣ 2 ^ n := Nat.dvd_trans ⟨2 ^ v2 d, by rw [Nat.mul_comm]; exact h1⟩ h
  have hc : Nat.Coprime b (2 ^ n) := Nat.Coprime.pow_right n (by
    unfold Nat.Coprime
    rw [Nat.gcd_comm, Nat.gcd_rec, h2]; rfl)
  have h3 : b = 1 := Nat.Coprime.eq_one_of_dvd hc hb
  exact ⟨v2 d, by rw [h3, Nat.mul_one] at h1; exact h1⟩
/-- A dyadic rational, and its one form. -/
def Dyd (q : Rat) : Prop := ∃ m e, q = dval m e
def dmn (q : Rat) : Int := dm q.num
def dex (q : Rat) : Int := de q.num (-(v2 q.den : Int))
theorem dval_den (m : Int) (n : Nat) : dval m (-(n : Int)) = mkRat m (2 ^ n) := by
  unfold dval
  rw [zp_neg, zp_nat, Rat.mkRat_eq_div, Rat.div_def]
theorem dyd_den {q : Rat} (h : Dyd q) : q.den = 2 ^ v2 q.den := by
  obtain ⟨m, e, rfl⟩ := h
  have key : ∀ (m : Int) (n : Nat), ∃ k, (mkRat m (2 ^ n)).den = 2 ^ k := by
    intro m n
    rw [Rat.den_mkRat, if_neg (Nat.pos_iff_ne_zero.1 (Nat.two_pow_pos n))]
    have h1 : 2 ^ n / (2 ^ n).gcd m.natAbs ∣ 2 ^ n := Nat.div_dvd_of_dvd (Nat.gcd_dvd_left _ _)
    exact dvd_two_pow h1
  have h2 : ∃ k, (dval m e).den = 2 ^ k := by
    rcases Int.le_total 0 e with h | h
    · obtain ⟨n, rfl⟩ := Int.eq_ofNat_of_zero_le h
      have : dval m (n : Int) = ((m * 2 ^ n : Int) : Rat) := by
        have h1 := dval_shift m 0 n
        rw [Int.zero_add] at h1
        rw [← h1]; unfold dval; rw [Rat.zpow_zero, Rat.mul_one]
      rw [this]
      exact ⟨0, by rw [Rat.den_intCast, Nat.pow_zero]⟩
    · obtain ⟨n, hn⟩ := Int.eq_ofNat_of_zero_le (show 0 ≤ -e by omega)
      have : e = -(n : Int) := by omega
      rw [this, dval_den]
      exact key m n
  obtain ⟨k, hk⟩ := h2
  rw [hk, v2_eq (k := k) (b := 1) (by rw [Nat.mul_one]) rfl]
theorem dval_q {q : Rat} (h : Dyd q) : dval (dmn q) (dex q) = q := by
  have h1 := dyd_den h
  unfold dmn dex
  rw [dval_make, dval_den, ← h1, Rat.mkRat_self]
theorem nz_q (q : Rat) : Nz (dmn q) (dex q) := nz_make _ _
theorem dyd_val (m e : Int) : Dyd (dval m e) := ⟨m, e, rfl⟩
/-- What Make makes is the one form of the number. -/
theorem make_form (m e : Int) : dm m = dmn (dval m e) ∧ de m e = dex (dval m e) :=
  dval_uniq (nz_make m e) (nz_q _) (by rw [dval_make, dval_q (dyd_val m e)])
theorem form_of_nz {m e : Int} (h : Nz m e) : dmn (dval m e) = m ∧ dex (dval m e) = e :=
  dval_uniq (nz_q _) h (dval_q (dyd_val m e))
end Go.Proofs.YtacjfpibilolnaaGreatDoor

/- Rounding a rational to a whole number, in five directions. No Go in it. -/
set_option linter.unusedVariables false
set_option linter.unusedSimpArgs false
namespace Go.Proofs.YtacjfpibilolnaaGreatDoor

/-- A quotient of whole numbers, rounded in a direction (0 down, 1 up, 2 towards nothing, 3 away from it, 4 to the nearest). -/
def upw (neg odd : Bool) (half : Int) (dir : Int) : Bool :=
  if dir = 0 then false else if dir = 1 then true else if dir = 2 then neg else if dir = 3 then !neg else decide (0 < half) || (decide (half = 0) && odd)
def ovr (a b : Int) (dir : Int) : Int := if a % b = 0 then a / b else if upw (sg a) (decide (a / b % 2 = 1)) (2 * (a % b) - b) dir then a / b + 1 else a / b
/-- A rational rounded so. -/
def rnd (dir : Int) (x : Rat) : Int :=
  if dir = 0 ∨ dir = 2 ∧ ¬ x < 0 ∨ dir = 3 ∧ x < 0 then x.floor
  else if dir ≠ 4 then x.ceil
  else if x - x.floor < x.ceil - x ∨ x - x.floor = x.ceil - x ∧ x.floor % 2 = 0 then x.floor else x.ceil
theorem floor_eq {x : Rat} {n : Int} (h1 : (n : Rat) ≤ x) (h2 : x < ((n + 1 : Int) : Rat)) : x.floor = n := by
  have h3 := Rat.le_floor_iff.2 h1
  have h4 := Rat.floor_lt_iff.2 h2
  omega
theorem ceil_eq {x : Rat} {n : Int} (h1 : ((n - 1 : Int) : Rat) < x) (h2 : x ≤ (n : Rat)) : x.ceil = n := by
  have h3 := Rat.ceil_le_iff.2 h2
  have h4 := Rat.lt_ceil_iff.2 h1
  omega
theorem quo_parts {a b : Int} (hb : 0 < b) : (a : Rat) / (b : Rat) * (b : Rat) = a := Rat.div_mul_cancel (by
  intro h; have := Rat.intCast_eq_zero_iff.1 h; omega)
theorem castpos {b : Int} (hb : 0 < b) : (0 : Rat) < (b : Rat) := Rat.intCast_pos.2 hb
theorem quo_floor {a b : Int} (hb : 0 < b) : ((a : Rat) / (b : Rat)).floor = a / b := by
  have hp := castpos hb
  apply floor_eq
  · apply Rat.le_of_mul_le_mul_right _ hp
    rw [quo_parts hb, ← Rat.intCast_mul]
    exact Rat.intCast_le_intCast.2 (Int.ediv_mul_le a (by omega))
  · apply Rat.lt_of_mul_lt_mul_right _ (Rat.le_of_lt hp)
    rw [quo_parts hb, ← Rat.intCast_mul]
    exact Rat.intCast_lt_intCast.2 (Int.lt_ediv_add_one_mul_self a hb)
theorem quo_ceil0 {a b : Int} (hb : 0 < b) (h : a % b = 0) : ((a : Rat) / (b : Rat)).ceil = a / b := by
  have hp := castpos hb
  have e : a = a / b * b := by have := Int.ediv_mul_add_emod a b; omega
  have e2 : (a : Rat) / (b : Rat) = ((a / b : Int) : Rat) := by
    conv => lhs; rw [e]
    rw [Rat.intCast_mul, Rat.mul_div_cancel]
    exact Rat.ne_of_gt hp
  rw [e2, Rat.ceil_intCast]
theorem quo_ceil1 {a b : Int} (hb : 0 < b) (h : a % b ≠ 0) : ((a : Rat) / (b : Rat)).ceil = a / b + 1 := by
  have hp := castpos hb
  have h1 := Int.ediv_mul_add_emod a b
  have h2 := Int.emod_nonneg a (show b ≠ 0 by omega)
  have h3 := Int.emod_lt_of_pos a hb
  apply ceil_eq
  · apply Rat.lt_of_mul_lt_mul_right _ (Rat.le_of_lt hp)
    rw [quo_parts hb, ← Rat.intCast_mul]
    refine Rat.intCast_lt_intCast.2 ?_
    rw [show a / b + 1 - 1 = a / b by omega]
    omega
  · apply Rat.le_of_mul_le_mul_right _ hp
    rw [quo_parts hb, ← Rat.intCast_mul]
    refine Rat.intCast_le_intCast.2 ?_
    rw [Int.add_mul, Int.one_mul]
    omega
theorem quo_neg {a b : Int} (hb : 0 < b) : (a : Rat) / (b : Rat) < 0 ↔ a < 0 := by
  rw [Rat.div_lt_iff (castpos hb), Rat.zero_mul]
  exact Rat.intCast_lt_intCast (a := a) (b := 0)
theorem quo_frac {a b : Int} (hb : 0 < b) : (a : Rat) / (b : Rat) - ((a / b : Int) : Rat) = ((a % b : Int) : Rat) / (b : Rat) := by
  have hp := castpos hb
  have h1 := Int.ediv_mul_add_emod a b
  have h2 : (a : Rat) = ((a / b : Int) : Rat) * (b : Rat) + ((a % b : Int) : Rat) := by
    rw [← Rat.intCast_mul, ← Rat.intCast_add, h1]
  have hne : (b : Rat) ≠ 0 := Rat.ne_of_gt hp
  conv => lhs; rw [h2]
  rw [Rat.div_def, Rat.add_mul, Rat.mul_assoc, Rat.mul_inv_cancel _ hne, Rat.mul_one, ← Rat.div_def]
  grind
theorem ovr_rnd {a b dir : Int} (hb : 0 < b) (h0 : 0 ≤ dir) (h4 : dir ≤ 4) : ovr a b dir = rnd dir ((a : Rat) / (b : Rat)) := by
  have hp := castpos hb
  unfold ovr rnd
  rw [quo_floor hb]
  by_cases hr : a % b = 0
  · rw [if_pos hr, quo_ceil0 hb hr]
    split
    · rfl
    · split
      · rfl
      · split <;> rfl
  · rw [if_neg hr, quo_ceil1 hb hr]
    have hn := quo_neg (a := a) hb
    have hf := quo_frac (a := a) hb
    have hr2 := Int.emod_nonneg a (show b ≠ 0 by omega)
    have hlt := Int.emod_lt_of_pos a hb
    have hsum : ((a / b + 1 : Int) : Rat) - (a : Rat) / (b : Rat) = ((b - a % b : Int) : Rat) / (b : Rat) := by
      have hne : (b : Rat) ≠ 0 := Rat.ne_of_gt hp
      have h1 : ((b - a % b : Int) : Rat) / (b : Rat) = 1 - ((a % b : Int) : Rat) / (b : Rat) := by
        rw [Rat.div_def, Rat.intCast_sub, Rat.sub_eq_add_neg, Rat.add_mul, Rat.mul_inv_cancel _ hne, Rat.neg_mul, ← Rat.div_def, ← Rat.sub_eq_add_neg]
      rw [h1, ← hf, Rat.intCast_add]
      have : ((1 : Int) : Rat) = 1 := rfl
      rw [this]
      grind
    have hcl : ((a : Rat) / (b : Rat) - ((a / b : Int) : Rat) < ((a / b + 1 : Int) : Rat) - (a : Rat) / (b : Rat)) ↔ a % b < b - a % b := by
      rw [hf, hsum, Rat.div_lt_iff hp, Rat.div_mul_cancel (Rat.ne_of_gt hp)]
      exact Rat.intCast_lt_intCast
    have hce : ((a : Rat) / (b : Rat) - ((a / b : Int) : Rat) = ((a / b + 1 : Int) : Rat) - (a : Rat) / (b : Rat)) ↔ a % b = b - a % b := by
      rw [hf, hsum]
      constructor
      · intro h
        have h2 : ((a % b : Int) : Rat) / (b : Rat) * (b : Rat) = ((b - a % b : Int) : Rat) / (b : Rat) * (b : Rat) := by rw [h]
        rw [Rat.div_mul_cancel (Rat.ne_of_gt hp), Rat.div_mul_cancel (Rat.ne_of_gt hp)] at h2
        exact Rat.intCast_inj.1 h2
      · intro h; rw [← h]
    obtain rfl | rfl | rfl | rfl | rfl : dir = 0 ∨ dir = 1 ∨ dir = 2 ∨ dir = 3 ∨ dir = 4 := by omega
    · simp [upw]
    · simp [upw]
    · simp only [upw, sg]
      by_cases ha : a < 0
      · have := hn.2 ha; simp [ha, this]
      · have h2 : ¬ (a : Rat) / (b : Rat) < 0 := fun h => ha (hn.1 h)
        simp [ha, h2]
    · simp only [upw, sg]
      by_cases ha : a < 0
      · have := hn.2 ha; simp [ha, this]
      · have h2 : ¬ (a : Rat) / (b : Rat) < 0 := fun h => ha (hn.1 h)
        simp [ha, h2]
    · have e1 : ¬ ((4 : Int) = 0 ∨ (4 : Int) = 2 ∧ ¬ (a : Rat) / (b : Rat) < 0 ∨ (4 : Int) = 3 ∧ (a : Rat) / (b : Rat) < 0) := by
        rintro (h | ⟨h, _⟩ | ⟨h, _⟩) <;> exact absurd h (by decide)
      have hu : (upw (sg a) (decide (a / b % 2 = 1)) (2 * (a % b) - b) 4 = true) ↔ (0 < 2 * (a % b) - b ∨ 2 * (a % b) - b = 0 ∧ a / b % 2 = 1) := by
        simp [upw]
      rw [if_neg e1, if_neg (show ¬ ((4 : Int) ≠ 4) by decide)]
      simp only [hu, hcl, hce]
      generalize a % b = r at *
      generalize a / b = q at *
      by_cases c : 0 < 2 * r - b ∨ 2 * r - b = 0 ∧ q % 2 = 1
      · rw [if_pos c, if_neg (by omega)]
      · rw [if_neg c, if_pos (by omega)]
/-- The floor of a whole number times a power of 2. -/
def shf (z n : Int) : Int := if 0 ≤ n then z * 2 ^ n.toNat else z / 2 ^ (-n).toNat
theorem zp_int (n : Nat) : (2 : Rat) ^ (n : Int) = ((2 ^ n : Int) : Rat) := by
  rw [zp_nat, Rat.natCast_pow, Rat.intCast_pow]; rfl
theorem shf_floor (z n : Int) : shf z n = ((z : Rat) * (2 : Rat) ^ n).floor := by
  unfold shf
  split
  · rename_i h
    obtain ⟨k, rfl⟩ := Int.eq_ofNat_of_zero_le h
    rw [zp_int, ← Rat.intCast_mul, Rat.floor_intCast, Int.toNat_natCast]
  · rename_i h
    obtain ⟨k, hk⟩ := Int.eq_ofNat_of_zero_le (show 0 ≤ -n by omega)
    have : n = -(k : Int) := by omega
    subst this
    rw [zp_neg, zp_int, ← Rat.div_def, quo_floor (Int.pow_pos (by decide)), Int.neg_neg, Int.toNat_natCast]
end Go.Proofs.YtacjfpibilolnaaGreatDoor
