/- Plain numbers: a natural as a row of limbs (base 2^32), its limbs again, how many there are. No Go in it. -/
import Derived.WalkKit
import Derived.Test.YtacjfpibilolnaaGreatDoorProg
import Derived.BigQuiet
import Derived.Deep.QuietTactic
import Derived.Maps.AppendAt
import Derived.Deep.AppendLies
import Derived.WalkSpells
import Derived.DataElems
import Derived.Lib.Hide
import Derived.RangeFuncBox
import Derived.RangeFuncLeaves
import Derived.RangeFuncFrom
import Derived.Shelf.Abstract
import Derived.OwnWalkIn
import Derived.TacticsInMore
import Derived.LoopNIn
import Derived.LoopIn
import Derived.Stop.RegionWithIn
import Derived.OrdersIn
import Derived.RangeFuncNested
import Derived.Laws.EntriesVeiled
set_option linter.unusedVariables false
set_option linter.unusedSimpArgs false
namespace Go.Proofs.YtacjfpibilolnaaGreatDoor

def val : List Nat → Nat
  | [] => 0
  | x :: l => x + 4294967296 * val l
def Lim (l : List Nat) : Prop := ∀ x ∈ l, x < 4294967296
def limbs (n : Nat) : List Nat := if h : n = 0 then [] else n % 4294967296 :: limbs (n / 4294967296)
  termination_by n
  decreasing_by omega
def nl (n : Nat) : Nat := (limbs n).length

/-- A limb of a row; 0 beyond. -/
def gl (l : List Nat) (i : Nat) : Nat := l.getD i 0
theorem gl_eq (l : List Nat) (i : Nat) : gl l i = l.getD i 0 := rfl
theorem gl_of_le {l : List Nat} {i : Nat} (h : l.length ≤ i) : gl l i = 0 := by simp [gl, h]
theorem gl_get {l : List Nat} {i : Nat} (h : i < l.length) : gl l i = l[i] := by simp [gl, h]
theorem Lim.nil : Lim [] := fun _ h => by simp at h
theorem Lim.cons {x l} (h : x < 4294967296) (k : Lim l) : Lim (x :: l) := fun y hy => by
  rcases List.mem_cons.1 hy with rfl | hy
  · exact h
  · exact k y hy
theorem Lim.head {x l} (h : Lim (x :: l)) : x < 4294967296 := h x (by simp)
theorem Lim.tail {x l} (h : Lim (x :: l)) : Lim l := fun y hy => h y (by simp [hy])
theorem Lim.append {l m} (h : Lim l) (k : Lim m) : Lim (l ++ m) := fun y hy => by
  rcases List.mem_append.1 hy with hy | hy
  · exact h y hy
  · exact k y hy
theorem Lim.take {l} (h : Lim l) (n) : Lim (l.take n) := fun y hy => h y (List.mem_of_mem_take hy)
theorem Lim.drop {l} (h : Lim l) (n) : Lim (l.drop n) := fun y hy => h y (List.mem_of_mem_drop hy)
theorem Lim.getD {l} (h : Lim l) (i : Nat) : l.getD i 0 < 4294967296 := by
  by_cases hi : i < l.length
  · rw [List.getD_eq_getElem?_getD, List.getElem?_eq_getElem hi]; exact h _ (List.getElem_mem hi)
  · rw [List.getD_eq_getElem?_getD, List.getElem?_eq_none (by omega)]; simp
theorem Lim.set {l} (h : Lim l) (i x) (hx : x < 4294967296) : Lim (l.set i x) := fun y hy => by
  rcases List.mem_or_eq_of_mem_set hy with hy | rfl
  · exact h y hy
  · exact hx
theorem Lim.replicate (n x) (hx : x < 4294967296) : Lim (List.replicate n x) := fun y hy => by
  rw [(List.mem_replicate.1 hy).2]; exact hx

theorem val_append (l m : List Nat) : val (l ++ m) = val l + 4294967296 ^ l.length * val m := by
  induction l with
  | nil => simp [val]
  | cons x l ih => simp only [List.cons_append, val, ih, List.length_cons, Nat.pow_succ]; grind
theorem val_lt {l : List Nat} (h : Lim l) : val l < 4294967296 ^ l.length := by
  induction l with
  | nil => simp [val]
  | cons x l ih =>
    have := ih h.tail
    have := h.head
    simp only [val, List.length_cons, Nat.pow_succ]
    omega
theorem val_replicate (n : Nat) : val (List.replicate n 0) = 0 := by
  induction n with
  | zero => rfl
  | succ n ih => simp [List.replicate_succ, val, ih]
theorem val_snoc (l : List Nat) (x : Nat) : val (l ++ [x]) = val l + 4294967296 ^ l.length * x := by
  rw [val_append]; simp [val]
theorem val_take {l : List Nat} (h : Lim l) (i : Nat) : val (l.take i) = val l % 4294967296 ^ i := by
  by_cases hi : i ≤ l.length
  · have e : val l = val (l.take i) + 4294967296 ^ i * val (l.drop i) := by
      conv => lhs; rw [← List.take_append_drop i l]
      rw [val_append, List.length_take, Nat.min_eq_left hi]
    have hl := val_lt (h.take i)
    rw [List.length_take, Nat.min_eq_left hi] at hl
    rw [e, Nat.add_mul_mod_self_left, Nat.mod_eq_of_lt hl]
  · rw [List.take_of_length_le (by omega), Nat.mod_eq_of_lt]
    exact Nat.lt_of_lt_of_le (val_lt h) (Nat.pow_le_pow_right (by decide) (by omega))
theorem val_getD {l : List Nat} (h : Lim l) (i : Nat) : l.getD i 0 = val l / 4294967296 ^ i % 4294967296 := by
  induction l generalizing i with
  | nil => simp [val]
  | cons x l ih =>
    have hx := h.head
    cases i with
    | zero => simp only [List.getD_cons_zero, val, Nat.pow_zero, Nat.div_one]; omega
    | succ i =>
      rw [List.getD_cons_succ, ih h.tail, val, Nat.pow_succ, Nat.mul_comm (4294967296 ^ i), ← Nat.div_div_eq_div_mul]
      congr 2
      omega
theorem val_set {l : List Nat} (i x : Nat) (hi : i < l.length) : val (l.set i x) + 4294967296 ^ i * l.getD i 0 = val l + 4294967296 ^ i * x := by
  induction l generalizing i with
  | nil => simp at hi
  | cons y l ih =>
    cases i with
    | zero => simp [val]; omega
    | succ i =>
      have := ih i (by simpa using hi)
      simp only [List.set_cons_succ, val, List.getD_cons_succ, Nat.pow_succ]
      grind

theorem limbs_zero : limbs 0 = [] := by rw [limbs]; simp
theorem limbs_pos {n : Nat} (h : n ≠ 0) : limbs n = n % 4294967296 :: limbs (n / 4294967296) := by rw [limbs]; simp [h]
theorem val_limbs (n : Nat) : val (limbs n) = n := by
  induction n using Nat.strongRecOn with
  | _ n ih =>
    by_cases h : n = 0
    · subst h; rw [limbs_zero]; rfl
    · rw [limbs_pos h, val, ih (n / 4294967296) (by omega)]; omega
theorem lim_limbs (n : Nat) : Lim (limbs n) := by
  induction n using Nat.strongRecOn with
  | _ n ih =>
    by_cases h : n = 0
    · subst h; rw [limbs_zero]; exact Lim.nil
    · rw [limbs_pos h]; exact Lim.cons (by omega) (ih _ (by omega))
/-- A row whose last limb is not 0 is the row of its own value. -/
theorem limbs_val {l : List Nat} (h : Lim l) (hl : l = [] ∨ l.getD (l.length - 1) 0 ≠ 0) : limbs (val l) = l := by
  induction l with
  | nil => exact limbs_zero
  | cons x l ih =>
    have hx := h.head
    have e1 : (x + 4294967296 * val l) % 4294967296 = x := by omega
    have e2 : (x + 4294967296 * val l) / 4294967296 = val l := by omega
    cases l with
    | nil =>
      have : x ≠ 0 := by simpa using hl
      rw [val, limbs_pos (by omega), e1, e2]; simp [val, limbs_zero]
    | cons y l =>
      have ih' := ih h.tail (.inr (by rcases hl with hl | hl; · simp at hl
                                      · simpa using hl))
      have hne : val (y :: l) ≠ 0 := by
        intro e; rw [e, limbs_zero] at ih'; simp at ih'
      rw [val, limbs_pos (by omega), e1, e2, ih']
theorem limbs_last (n : Nat) (h : n ≠ 0) : (limbs n).getD (nl n - 1) 0 ≠ 0 := by
  induction n using Nat.strongRecOn with
  | _ n ih =>
    unfold nl
    rw [limbs_pos h]
    by_cases h2 : n / 4294967296 = 0
    · rw [h2, limbs_zero]; simp; omega
    · have := ih (n / 4294967296) (by omega) h2
      unfold nl at this
      have hp : 0 < (limbs (n / 4294967296)).length := by rw [limbs_pos h2]; simp
      simp only [List.length_cons]
      rw [show (limbs (n / 4294967296)).length + 1 - 1 = ((limbs (n / 4294967296)).length - 1) + 1 by omega, List.getD_cons_succ]
      exact this
theorem limbs_inj {a b : Nat} (h : limbs a = limbs b) : a = b := by rw [← val_limbs a, h, val_limbs]
theorem limbs_getD (n i : Nat) : (limbs n).getD i 0 = n / 4294967296 ^ i % 4294967296 := by rw [val_getD (lim_limbs n), val_limbs]
theorem nl_zero : nl 0 = 0 := by simp [nl, limbs_zero]
theorem nl_lt (n : Nat) : n < 4294967296 ^ nl n := by have := val_lt (lim_limbs n); rwa [val_limbs] at this
theorem nl_le {n k : Nat} : nl n ≤ k ↔ n < 4294967296 ^ k := by
  constructor
  · intro h; exact Nat.lt_of_lt_of_le (nl_lt n) (Nat.pow_le_pow_right (by decide) h)
  · induction k generalizing n with
    | zero => intro h; obtain rfl : n = 0 := by simpa using h
              simp [nl_zero]
    | succ k ih =>
      intro h
      by_cases h0 : n = 0
      · subst h0; simp [nl_zero]
      · have := ih (n := n / 4294967296) (by rw [Nat.pow_succ] at h; omega)
        unfold nl at *
        rw [limbs_pos h0]; simp; omega
theorem lt_nl {n k : Nat} : k < nl n ↔ 4294967296 ^ k ≤ n := by
  have := @nl_le n k; omega
theorem nl_pos {n : Nat} : 0 < nl n ↔ n ≠ 0 := by rw [lt_nl]; simp; omega
theorem nl_eq_zero {n : Nat} : nl n = 0 ↔ n = 0 := by have := @nl_pos n; omega
theorem nl_mono {a b : Nat} (h : a ≤ b) : nl a ≤ nl b := nl_le.2 (Nat.lt_of_le_of_lt h (nl_lt b))
theorem nl_ge {n : Nat} (h : n ≠ 0) : 4294967296 ^ (nl n - 1) ≤ n := lt_nl.1 (by have := nl_pos.2 h; omega)
theorem nl_mul (a b : Nat) : nl (a * b) ≤ nl a + nl b := by
  rw [nl_le, Nat.pow_add]
  by_cases ha : a = 0
  · subst ha; simp only [Nat.zero_mul]; exact Nat.mul_pos (Nat.pow_pos (by decide)) (Nat.pow_pos (by decide))
  · exact Nat.mul_lt_mul'' (nl_lt a) (nl_lt b)
theorem nl_add (a b : Nat) : nl (a + b) ≤ max (nl a) (nl b) + 1 := by
  have h1 := nl_le.1 (Nat.le_max_left (nl a) (nl b))
  have h2 := nl_le.1 (Nat.le_max_right (nl a) (nl b))
  rw [nl_le, Nat.pow_succ]; omega
theorem nl_sub (a b : Nat) : nl (a - b) ≤ nl a := nl_mono (Nat.sub_le _ _)
theorem pow32 (k : Nat) : 2 ^ (32 * k) = 4294967296 ^ k := by rw [Nat.pow_mul]
theorem nl_two_pow (k : Nat) : nl (2 ^ k) = k / 32 + 1 := by
  have h1 : nl (2 ^ k) ≤ k / 32 + 1 := by
    rw [nl_le, ← pow32]; exact Nat.pow_lt_pow_right (by decide) (by omega)
  have h2 : k / 32 < nl (2 ^ k) := by
    rw [lt_nl, ← pow32]; exact Nat.pow_le_pow_right (by decide) (by omega)
  omega
theorem nl_shl (a k : Nat) : nl (a * 2 ^ k) ≤ nl a + k / 32 + 1 := by
  have := nl_mul a (2 ^ k); rw [nl_two_pow] at this; omega
theorem nl_div (a b : Nat) : nl (a / b) ≤ nl a := nl_mono (Nat.div_le_self _ _)
theorem nl_mod_le (a b : Nat) : nl (a % b) ≤ nl a := nl_mono (Nat.mod_le _ _)
theorem nl_one : nl 1 = 1 := by simpa using nl_two_pow 0
theorem nl_shr32 (a k : Nat) : nl (a / 2 ^ (32 * k)) ≤ nl a - k := by
  rw [nl_le, ← pow32]
  by_cases h : k ≤ nl a
  · rw [Nat.div_lt_iff_lt_mul (Nat.pow_pos (by decide)), ← Nat.pow_add, show 32 * (nl a - k) + 32 * k = 32 * nl a by omega, pow32]; exact nl_lt a
  · rw [Nat.div_eq_of_lt]
    · exact Nat.pow_pos (by decide)
    · rw [pow32]; exact nl_le.1 (by omega)

theorem Lim.gl {l} (h : Lim l) (i : Nat) : gl l i < 4294967296 := h.getD i
theorem val_gl {l : List Nat} (h : Lim l) (i : Nat) : gl l i = val l / 4294967296 ^ i % 4294967296 := val_getD h i
theorem limbs_gl (n i : Nat) : gl (limbs n) i = n / 4294967296 ^ i % 4294967296 := limbs_getD n i
theorem take_snoc (l : List Nat) (k : Nat) (h : k < l.length) : l.take (k + 1) = l.take k ++ [gl l k] := by
  rw [List.take_succ_eq_append_getElem h, gl_get h]
theorem val_take_succ (l : List Nat) (k : Nat) (h : k < l.length) : val (l.take (k + 1)) = val (l.take k) + 4294967296 ^ k * gl l k := by
  rw [take_snoc l k h, val_snoc, List.length_take, Nat.min_eq_left (by omega)]
theorem take_make {l : List Nat} (hL : Lim l) {k : Nat} (hk : k ≤ l.length) (h0 : ∀ i, k ≤ i → i < l.length → gl l i = 0) (h1 : k = 0 ∨ gl l (k - 1) ≠ 0) : l.take k = limbs (val l) := by
  have e : val l = val (l.take k) := by
    have h2 : ∀ m : List Nat, (∀ i, i < m.length → gl m i = 0) → val m = 0 := by
      intro m
      induction m with
      | nil => intro _; rfl
      | cons x m ih =>
        intro hm
        have := hm 0 (by simp)
        have h3 := ih (fun i hi => by have := hm (i + 1) (by simpa using hi); simpa [Go.Proofs.YtacjfpibilolnaaGreatDoor.gl] using this)
        simp only [Go.Proofs.YtacjfpibilolnaaGreatDoor.gl, List.getD_cons_zero] at this
        simp [val, this, h3]
    have h3 : val (l.drop k) = 0 := h2 _ (fun i hi => by
      have := h0 (k + i) (by omega) (by simp at hi; omega)
      simpa [Go.Proofs.YtacjfpibilolnaaGreatDoor.gl, List.getD_eq_getElem?_getD] using this)
    conv => lhs; rw [← List.take_append_drop k l]
    rw [val_append, h3]; simp
  rw [e, limbs_val (hL.take k)]
  rcases h1 with rfl | h1
  · exact .inl (by simp)
  · by_cases hk0 : k = 0
    · subst hk0; exact .inl (by simp)
    · refine .inr ?_
      rw [List.length_take, Nat.min_eq_left hk]
      simpa [Go.Proofs.YtacjfpibilolnaaGreatDoor.gl, List.getD_eq_getElem?_getD, List.getElem?_take, show k - 1 < k by omega] using h1

end Go.Proofs.YtacjfpibilolnaaGreatDoor

/- Plain numbers: signs, whole numbers times powers of 2 (as rationals), their one form, rounding. No Go in it. -/
set_option linter.unusedVariables false
set_option linter.unusedSimpArgs false
namespace Go.Proofs.YtacjfpibilolnaaGreatDoor

def sg (z : Int) : Bool := decide (z < 0)
def mg (z : Int) : Nat := z.natAbs
theorem sg_t {z : Int} (h : z < 0) : sg z = true := decide_eq_true h
theorem sg_f {z : Int} (h : 0 ≤ z) : sg z = false := decide_eq_false (by omega)
theorem mg_neg (z : Int) : mg (-z) = mg z := Int.natAbs_neg z
theorem mg_nat (n : Nat) : mg (n : Int) = n := Int.natAbs_natCast n
theorem mg_zero {z : Int} : mg z = 0 ↔ z = 0 := Int.natAbs_eq_zero
theorem mg_pos {z : Int} : 0 < mg z ↔ z ≠ 0 := by unfold mg; omega
theorem mg_mul (x y : Int) : mg (x * y) = mg x * mg y := Int.natAbs_mul x y

/-- How often 2 divides it. -/
def v2f : Nat → Nat → Nat
  | 0, _ => 0
  | f + 1, a => if a % 2 = 0 then v2f f (a / 2) + 1 else 0
def v2 (a : Nat) : Nat := if a = 0 then 0 else v2f a a
theorem v2f_spec : ∀ f a, 0 < a → a ≤ f → ∃ b, a = 2 ^ v2f f a * b ∧ b % 2 = 1
  | 0, a, h, k => by omega
  | f + 1, a, h, k => by
    unfold v2f
    split
    · obtain ⟨b, h1, h2⟩ := v2f_spec f (a / 2) (by omega) (by omega)
      refine ⟨b, ?_, h2⟩
      rw [Nat.pow_succ, Nat.mul_right_comm, ← h1]; omega
    · exact ⟨a, by rw [Nat.pow_zero, Nat.one_mul], by omega⟩
theorem v2_spec {a : Nat} (h : a ≠ 0) : ∃ b, a = 2 ^ v2 a * b ∧ b % 2 = 1 := by
  unfold v2; rw [if_neg h]; exact v2f_spec a a (by omega) (Nat.le_refl _)
theorem pow2_odd {i j b c : Nat} (h : 2 ^ i * b = 2 ^ j * c) (hb : b % 2 = 1) (hc : c % 2 = 1) : i = j ∧ b = c := by
  rcases Nat.lt_trichotomy i j with k | k | k
  · exfalso
    obtain ⟨d, rfl⟩ : ∃ d, j = i + (d + 1) := ⟨j - i - 1, by omega⟩
    rw [Nat.pow_add, Nat.mul_assoc] at h
    have := Nat.eq_of_mul_eq_mul_left (Nat.two_pow_pos i) h
    rw [Nat.pow_succ, Nat.mul_right_comm] at this
    omega
  · subst k
    exact ⟨rfl, Nat.eq_of_mul_eq_mul_left (Nat.two_pow_pos i) h⟩
  · exfalso
    obtain ⟨d, rfl⟩ : ∃ d, i = j + (d + 1) := ⟨i - j - 1, by omega⟩
    rw [Nat.pow_add, Nat.mul_assoc] at h
    have := Nat.eq_of_mul_eq_mul_left (Nat.two_pow_pos j) h.symm
    rw [Nat.pow_succ, Nat.mul_right_comm] at this
    omega
theorem v2_eq {a k b : Nat} (h : a = 2 ^ k * b) (hb : b % 2 = 1) : v2 a = k := by
  have h0 : a ≠ 0 := by rw [h]; exact Nat.mul_ne_zero (Nat.pos_iff_ne_zero.1 (Nat.two_pow_pos k)) (by omega)
  obtain ⟨c, h1, h2⟩ := v2_spec h0
  exact (pow2_odd (h1.symm.trans h) h2 hb).1
theorem v2_lt {a : Nat} (h : a ≠ 0) : 2 ^ v2 a ≤ a := by
  obtain ⟨b, h1, h2⟩ := v2_spec h
  conv => rhs; rw [h1]
  exact Nat.le_mul_of_pos_right _ (by omega)

/-- A whole number without the powers of 2 in it; the power of 2 then. -/
def dm (m : Int) : Int := m / 2 ^ v2 (mg m)
def de (m e : Int) : Int := if m = 0 then 0 else e + v2 (mg m)
theorem dm_spec (m : Int) : m = dm m * 2 ^ v2 (mg m) ∧ (m ≠ 0 → dm m % 2 = 1) := by
  by_cases h : m = 0
  · subst h
    exact ⟨by simp [dm], fun h => absurd rfl h⟩
  · obtain ⟨b, h1, h2⟩ := v2_spec (a := mg m) (by unfold mg; omega)
    have hd : (2 ^ v2 (mg m) : Int) ∣ m := by
      rw [← Int.dvd_natAbs]
      refine ⟨(b : Int), ?_⟩
      have : ((mg m : Nat) : Int) = ((2 ^ v2 (mg m) * b : Nat) : Int) := by rw [← h1]
      rw [Int.natCast_mul, Int.natCast_pow] at this
      exact this
    have h3 : m = dm m * 2 ^ v2 (mg m) := (Int.ediv_mul_cancel hd).symm
    refine ⟨h3, fun _ => ?_⟩
    have h4 : mg m = mg (dm m) * 2 ^ v2 (mg m) := by
      have := congrArg mg h3
      rw [mg_mul] at this
      have e : mg ((2 : Int) ^ v2 (mg m)) = 2 ^ v2 (mg m) := by unfold mg; rw [Int.natAbs_pow]; rfl
      rw [e] at this; exact this
    have h5 : b = mg (dm m) := by
      have h6 : 2 ^ v2 (mg m) * b = 2 ^ v2 (mg m) * mg (dm m) := by rw [← h1, Nat.mul_comm _ (mg (dm m))]; exact h4
      exact Nat.eq_of_mul_eq_mul_left (Nat.two_pow_pos _) h6
    unfold mg at h5
    omega
/-- The one form: odd, or nothing at all. -/
def Nz (m e : Int) : Prop := m % 2 = 1 ∨ m = 0 ∧ e = 0
theorem nz_make (m e : Int) : Nz (dm m) (de m e) := by
  by_cases h : m = 0
  · subst h; exact .inr ⟨by simp [dm], by simp [de]⟩
  · exact .inl ((dm_spec m).2 h)
/-- A whole number times a power of 2. -/
def dval (m e : Int) : Rat := (m : Rat) * (2 : Rat) ^ e
theorem two_ne : (2 : Rat) ≠ 0 := by decide
theorem zp_pos (e : Int) : (0 : Rat) < (2 : Rat) ^ e := Rat.zpow_pos (by decide)
theorem zp_add (i j : Int) : (2 : Rat) ^ (i + j) = (2 : Rat) ^ i * (2 : Rat) ^ j := Rat.zpow_add two_ne i j
theorem zp_nat (n : Nat) : (2 : Rat) ^ (n : Int) = ((2 ^ n : Nat) : Rat) := by
  rw [Rat.zpow_natCast]
  induction n with
  | zero => rfl
  | succ n ih => rw [Rat.pow_succ, ih, Nat.pow_succ, Rat.natCast_mul]; rfl
theorem zp_neg (n : Int) : (2 : Rat) ^ (-n) = ((2 : Rat) ^ n)⁻¹ := Rat.zpow_neg 2 n
theorem dval_zero (e : Int) : dval 0 e = 0 := by unfold dval; simp
theorem dval_shift (m e : Int) (k : Nat) : dval (m * 2 ^ k) e = dval m (e + k) := by
  unfold dval
  rw [Int.add_comm, zp_add, zp_nat, Rat.intCast_mul]
  rw [← Rat.mul_assoc]
  congr 2
theorem dval_make (m e : Int) : dval (dm m) (de m e) = dval m e := by
  by_cases h : m = 0
  · subst h; rw [show dm 0 = 0 by simp [dm], dval_zero, dval_zero]
  · have := (dm_spec m).1
    conv => rhs; rw [this]
    rw [dval_shift]; unfold de; rw [if_neg h]
theorem dval_eq_zero {m e : Int} : dval m e = 0 ↔ m = 0 := by
  unfold dval
  rw [Rat.mul_eq_zero]
  constructor
  · rintro (h | h)
    · exact Rat.intCast_eq_zero_iff.1 h
    · exact absurd h (Rat.ne_of_gt (zp_pos e))
  · intro h; subst h; exact .inl rfl
theorem dval_inj {m n e : Int} (h : dval m e = dval n e) : m = n := by
  unfold dval at h
  have h2 : (m : Rat) * 2 ^ e * (2 ^ e)⁻¹ = (n : Rat) * 2 ^ e * (2 ^ e)⁻¹ := by rw [h]
  rw [Rat.mul_assoc, Rat.mul_assoc, Rat.mul_inv_cancel _ (Rat.ne_of_gt (zp_pos e)), Rat.mul_one, Rat.mul_one] at h2
  exact Rat.intCast_inj.1 h2
theorem odd_shift {m n : Int} {k : Nat} (h : m = n * 2 ^ k) (hm : m % 2 = 1) : k = 0 := by
  cases k with
  | zero => rfl
  | succ k =>
    rw [Int.pow_succ, ← Int.mul_assoc] at h
    omega
theorem dval_uniq {m e n f : Int} (h1 : Nz m e) (h2 : Nz n f) (h : dval m e = dval n f) : m = n ∧ e = f := by
  rcases h1 with h1 | ⟨rfl, rfl⟩
  · rcases h2 with h2 | ⟨rfl, rfl⟩
    · rcases Int.le_total e f with k | k
      · obtain ⟨d, hd⟩ : ∃ d : Nat, f = e + d := ⟨(f - e).toNat, by omega⟩
        subst hd
        rw [← dval_shift] at h
        have h3 := dval_inj h
        have h4 := odd_shift h3 h1
        subst h4
        exact ⟨by simpa using h3, by simp⟩
      · obtain ⟨d, hd⟩ : ∃ d : Nat, e = f + d := ⟨(e - f).toNat, by omega⟩
        subst hd
        rw [← dval_shift] at h
        have h3 := dval_inj h
        have h4 := odd_shift h3.symm h2
        subst h4
        exact ⟨by simpa using h3, by simp⟩
    · rw [dval_zero] at h
      have := dval_eq_zero.1 h
      omega
  · rw [dval_zero] at h
    have := dval_eq_zero.1 h.symm
    rcases h2 with h2 | ⟨_, rfl⟩
    · omega
    · exact ⟨this.symm, rfl⟩
theorem dvd_two_pow {d n : Nat} (h : d ∣ 2 ^ n) : ∃ k, d = 2 ^ k := by
  have hd : d ≠ 0 := fun e => by subst e; have := Nat.eq_zero_of_zero_dvd h; have := Nat.two_pow_pos n; omega
  obtain ⟨b, h1, h2⟩ := v2_spec hd
  have hb : b ∣ 2 ^ n := Nat.dvd_trans ⟨2 ^ v2 d, by rw [Nat.mul_comm]; exact h1⟩ h
  have hc : Nat.Coprime b (2 ^ n) := Nat.Coprime.pow_right n (by
    unfold Nat.Coprime
    rw [Nat.gcd_comm, Nat.gcd_rec, h2]; rfl)
  have h3 : b = 1 := Nat.Coprime.eq_one_of_dvd hc hb
  exact ⟨v2 d, by rw [h3, Nat.mul_one] at h1; exact h1⟩
/-- A dyadic rational, and its one form. -/
def Dyd (q : Rat) : Prop := ∃ m e, q = dval m e
def dmn (q : Rat) : Int := dm q.num
def dex (q : Rat) : Int := de q.num (-(v2 q.den : Int))
theorem dval_den (m : Int) (n : Nat) : dval m (-(n : Int)) = mkRat m (2 ^ n) := by
  unfold dval
  rw [zp_neg, zp_nat, Rat.mkRat_eq_div, Rat.div_def]
theorem dyd_den {q : Rat} (h : Dyd q) : q.den = 2 ^ v2 q.den := by
  obtain ⟨m, e, rfl⟩ := h
  have key : ∀ (m : Int) (n : Nat), ∃ k, (mkRat m (2 ^ n)).den = 2 ^ k := by
    intro m n
    rw [Rat.den_mkRat, if_neg (Nat.pos_iff_ne_zero.1 (Nat.two_pow_pos n))]
    have h1 : 2 ^ n / (2 ^ n).gcd m.natAbs ∣ 2 ^ n := Nat.div_dvd_of_dvd (Nat.gcd_dvd_left _ _)
    exact dvd_two_pow h1
  have h2 : ∃ k, (dval m e).den = 2 ^ k := by
    rcases Int.le_total 0 e with h | h
    · obtain ⟨n, rfl⟩ := Int.eq_ofNat_of_zero_le h
      have : dval m (n : Int) = ((m * 2 ^ n : Int) : Rat) := by
        have h1 := dval_shift m 0 n
        rw [Int.zero_add] at h1
        rw [← h1]; unfold dval; rw [Rat.zpow_zero, Rat.mul_one]
      rw [this]
      exact ⟨0, by rw [Rat.den_intCast, Nat.pow_zero]⟩
    · obtain ⟨n, hn⟩ := Int.eq_ofNat_of_zero_le (show 0 ≤ -e by omega)
      have : e = -(n : Int) := by omega
      rw [this, dval_den]
      exact key m n
  obtain ⟨k, hk⟩ := h2
  rw [hk, v2_eq (k := k) (b := 1) (by rw [Nat.mul_one]) rfl]
theorem dval_q {q : Rat} (h : Dyd q) : dval (dmn q) (dex q) = q := by
  have h1 := dyd_den h
  unfold dmn dex
  rw [dval_make, dval_den, ← h1, Rat.mkRat_self]
theorem nz_q (q : Rat) : Nz (dmn q) (dex q) := nz_make _ _
theorem dyd_val (m e : Int) : Dyd (dval m e) := ⟨m, e, rfl⟩
/-- What Make makes is the one form of the number. -/
theorem make_form (m e : Int) : dm m = dmn (dval m e) ∧ de m e = dex (dval m e) :=
  dval_uniq (nz_make m e) (nz_q _) (by rw [dval_make, dval_q (dyd_val m e)])
theorem form_of_nz {m e : Int} (h : Nz m e) : dmn (dval m e) = m ∧ dex (dval m e) = e :=
  dval_uniq (nz_q _) h (dval_q (dyd_val m e))
end Go.Proofs.YtacjfpibilolnaaGreatDoor

/- Rounding a rational to a whole number, in five directions. No Go in it. -/
set_option linter.unusedVariables false
set_option linter.unusedSimpArgs false
namespace Go.Proofs.YtacjfpibilolnaaGreatDoor

/-- A quotient of whole numbers, rounded in a direction (0 down, 1 up, 2 towards nothing, 3 away from it, 4 to the nearest). -/
def upw (neg odd : Bool) (half : Int) (dir : Int) : Bool :=
  if dir = 0 then false else if dir = 1 then true else if dir = 2 then neg else if dir = 3 then !neg else decide (0 < half) || (decide (half = 0) && odd)
def ovr (a b : Int) (dir : Int) : Int := if a % b = 0 then a / b else if upw (sg a) (decide (a / b % 2 = 1)) (2 * (a % b) - b) dir then a / b + 1 else a / b
/-- A rational rounded so. -/
def rnd (dir : Int) (x : Rat) : Int :=
  if dir = 0 ∨ dir = 2 ∧ ¬ x < 0 ∨ dir = 3 ∧ x < 0 then x.floor
  else if dir ≠ 4 then x.ceil
  else if x - x.floor < x.ceil - x ∨ x - x.floor = x.ceil - x ∧ x.floor % 2 = 0 then x.floor else x.ceil
theorem floor_eq {x : Rat} {n : Int} (h1 : (n : Rat) ≤ x) (h2 : x < ((n + 1 : Int) : Rat)) : x.floor = n := by
  have h3 := Rat.le_floor_iff.2 h1
  have h4 := Rat.floor_lt_iff.2 h2
  omega
theorem ceil_eq {x : Rat} {n : Int} (h1 : ((n - 1 : Int) : Rat) < x) (h2 : x ≤ (n : Rat)) : x.ceil = n := by
  have h3 := Rat.ceil_le_iff.2 h2
  have h4 := Rat.lt_ceil_iff.2 h1
  omega
theorem quo_parts {a b : Int} (hb : 0 < b) : (a : Rat) / (b : Rat) * (b : Rat) = a := Rat.div_mul_cancel (by
  intro h; have := Rat.intCast_eq_zero_iff.1 h; omega)
theorem castpos {b : Int} (hb : 0 < b) : (0 : Rat) < (b : Rat) := Rat.intCast_pos.2 hb
theorem quo_floor {a b : Int} (hb : 0 < b) : ((a : Rat) / (b : Rat)).floor = a / b := by
  have hp := castpos hb
  apply floor_eq
  · apply Rat.le_of_mul_le_mul_right _ hp
    rw [quo_parts hb, ← Rat.intCast_mul]
    exact Rat.intCast_le_intCast.2 (Int.ediv_mul_le a (by omega))
  · apply Rat.lt_of_mul_lt_mul_right _ (Rat.le_of_lt hp)
    rw [quo_parts hb, ← Rat.intCast_mul]
    exact Rat.intCast_lt_intCast.2 (Int.lt_ediv_add_one_mul_self a hb)
theorem quo_ceil0 {a b : Int} (hb : 0 < b) (h : a % b = 0) : ((a : Rat) / (b : Rat)).ceil = a / b := by
  have hp := castpos hb
  have e : a = a / b * b := by have := Int.ediv_mul_add_emod a b; omega
  have e2 : (a : Rat) / (b : Rat) = ((a / b : Int) : Rat) := by
    conv => lhs; rw [e]
    rw [Rat.intCast_mul, Rat.mul_div_cancel]
    exact Rat.ne_of_gt hp
  rw [e2, Rat.ceil_intCast]
theorem quo_ceil1 {a b : Int} (hb : 0 < b) (h : a % b ≠ 0) : ((a : Rat) / (b : Rat)).ceil = a / b + 1 := by
  have hp := castpos hb
  have h1 := Int.ediv_mul_add_emod a b
  have h2 := Int.emod_nonneg a (show b ≠ 0 by omega)
  have h3 := Int.emod_lt_of_pos a hb
  apply ceil_eq
  · apply Rat.lt_of_mul_lt_mul_right _ (Rat.le_of_lt hp)
    rw [quo_parts hb, ← Rat.intCast_mul]
    refine Rat.intCast_lt_intCast.2 ?_
    rw [show a / b + 1 - 1 = a / b by omega]
    omega
  · apply Rat.le_of_mul_le_mul_right _ hp
    rw [quo_parts hb, ← Rat.intCast_mul]
    refine Rat.intCast_le_intCast.2 ?_
    rw [Int.add_mul, Int.one_mul]
    omega
theorem quo_neg {a b : Int} (hb : 0 < b) : (a : Rat) / (b : Rat) < 0 ↔ a < 0 := by
  rw [Rat.div_lt_iff (castpos hb), Rat.zero_mul]
  exact Rat.intCast_lt_intCast (a := a) (b := 0)
theorem quo_frac {a b : Int} (hb : 0 < b) : (a : Rat) / (b : Rat) - ((a / b : Int) : Rat) = ((a % b : Int) : Rat) / (b : Rat) := by
  have hp := castpos hb
  have h1 := Int.ediv_mul_add_emod a b
  have h2 : (a : Rat) = ((a / b : Int) : Rat) * (b : Rat) + ((a % b : Int) : Rat) := by
    rw [← Rat.intCast_mul, ← Rat.intCast_add, h1]
  have hne : (b : Rat) ≠ 0 := Rat.ne_of_gt hp
  conv => lhs; rw [h2]
  rw [Rat.div_def, Rat.add_mul, Rat.mul_assoc, Rat.mul_inv_cancel _ hne, Rat.mul_one, ← Rat.div_def]
  grind
theorem ovr_rnd {a b dir : Int} (hb : 0 < b) (h0 : 0 ≤ dir) (h4 : dir ≤ 4) : ovr a b dir = rnd dir ((a : Rat) / (b : Rat)) := by
  have hp := castpos hb
  unfold ovr rnd
  rw [quo_floor hb]
  by_cases hr : a % b = 0
  · rw [if_pos hr, quo_ceil0 hb hr]
    split
    · rfl
    · split
      · rfl
      · split <;> rfl
  · rw [if_neg hr, quo_ceil1 hb hr]
    have hn := quo_neg (a := a) hb
    have hf := quo_frac (a := a) hb
    have hr2 := Int.emod_nonneg a (show b ≠ 0 by omega)
    have hlt := Int.emod_lt_of_pos a hb
    have hsum : ((a / b + 1 : Int) : Rat) - (a : Rat) / (b : Rat) = ((b - a % b : Int) : Rat) / (b : Rat) := by
      have hne : (b : Rat) ≠ 0 := Rat.ne_of_gt hp
      have h1 : ((b - a % b : Int) : Rat) / (b : Rat) = 1 - ((a % b : Int) : Rat) / (b : Rat) := by
        rw [Rat.div_def, Rat.intCast_sub, Rat.sub_eq_add_neg, Rat.add_mul, Rat.mul_inv_cancel _ hne, Rat.neg_mul, ← Rat.div_def, ← Rat.sub_eq_add_neg]
      rw [h1, ← hf, Rat.intCast_add]
      have : ((1 : Int) : Rat) = 1 := rfl
      rw [this]
      grind
    have hcl : ((a : Rat) / (b : Rat) - ((a / b : Int) : Rat) < ((a / b + 1 : Int) : Rat) - (a : Rat) / (b : Rat)) ↔ a % b < b - a % b := by
      rw [hf, hsum, Rat.div_lt_iff hp, Rat.div_mul_cancel (Rat.ne_of_gt hp)]
      exact Rat.intCast_lt_intCast
    have hce : ((a : Rat) / (b : Rat) - ((a / b : Int) : Rat) = ((a / b + 1 : Int) : Rat) - (a : Rat) / (b : Rat)) ↔ a % b = b - a % b := by
      rw [hf, hsum]
      constructor
      · intro h
        have h2 : ((a % b : Int) : Rat) / (b : Rat) * (b : Rat) = ((b - a % b : Int) : Rat) / (b : Rat) * (b : Rat) := by rw [h]
        rw [Rat.div_mul_cancel (Rat.ne_of_gt hp), Rat.div_mul_cancel (Rat.ne_of_gt hp)] at h2
        exact Rat.intCast_inj.1 h2
      · intro h; rw [← h]
    obtain rfl | rfl | rfl | rfl | rfl : dir = 0 ∨ dir = 1 ∨ dir = 2 ∨ dir = 3 ∨ dir = 4 := by omega
    · simp [upw]
    · simp [upw]
    · simp only [upw, sg]
      by_cases ha : a < 0
      · have := hn.2 ha; simp [ha, this]
      · have h2 : ¬ (a : Rat) / (b : Rat) < 0 := fun h => ha (hn.1 h)
        simp [ha, h2]
    · simp only [upw, sg]
      by_cases ha : a < 0
      · have := hn.2 ha; simp [ha, this]
      · have h2 : ¬ (a : Rat) / (b : Rat) < 0 := fun h => ha (hn.1 h)
        simp [ha, h2]
    · have e1 : ¬ ((4 : Int) = 0 ∨ (4 : Int) = 2 ∧ ¬ (a : Rat) / (b : Rat) < 0 ∨ (4 : Int) = 3 ∧ (a : Rat) / (b : Rat) < 0) := by
        rintro (h | ⟨h, _⟩ | ⟨h, _⟩) <;> exact absurd h (by decide)
      have hu : (upw (sg a) (decide (a / b % 2 = 1)) (2 * (a % b) - b) 4 = true) ↔ (0 < 2 * (a % b) - b ∨ 2 * (a % b) - b = 0 ∧ a / b % 2 = 1) := by
        simp [upw]
      rw [if_neg e1, if_neg (show ¬ ((4 : Int) ≠ 4) by decide)]
      simp only [hu, hcl, hce]
      generalize a % b = r at *
      generalize a / b = q at *
      by_cases c : 0 < 2 * r - b ∨ 2 * r - b = 0 ∧ q % 2 = 1
      · rw [if_pos c, if_neg (by omega)]
      · rw [if_neg c, if_pos (by omega)]
/-- The floor of a whole number times a power of 2. -/
def shf (z n : Int) : Int := if 0 ≤ n then z * 2 ^ n.toNat else z / 2 ^ (-n).toNat
theorem zp_int (n : Nat) : (2 : Rat) ^ (n : Int) = ((2 ^ n : Int) : Rat) := by
  rw [zp_nat, Rat.natCast_pow, Rat.intCast_pow]; rfl
theorem shf_floor (z n : Int) : shf z n = ((z : Rat) * (2 : Rat) ^ n).floor := by
  unfold shf
  split
  · rename_i h
    obtain ⟨k, rfl⟩ := Int.eq_ofNat_of_zero_le h
    rw [zp_int, ← Rat.intCast_mul, Rat.floor_intCast, Int.toNat_natCast]
  · rename_i h
    obtain ⟨k, hk⟩ := Int.eq_ofNat_of_zero_le (show 0 ≤ -n by omega)
    have : n = -(k : Int) := by omega
    subst this
    rw [zp_neg, zp_int, ← Rat.div_def, quo_floor (Int.pow_pos (by decide)), Int.neg_neg, Int.toNat_natCast]
end Go.Proofs.YtacjfpibilolnaaGreatDoor

/- What a slice of limbs holds, and how it lasts while memory grows. -/
set_option linter.unusedVariables false
set_option linter.unusedSimpArgs false
namespace Go.Proofs.YtacjfpibilolnaaGreatDoor
open Go.RowKit

def vals (l : List Nat) : List Value := l.map fun n => .int .u32 (n : Nat)
theorem vals_length (l) : (vals l).length = l.length := by simp [vals]
theorem vals_append (l m) : vals (l ++ m) = vals l ++ vals m := by simp [vals]
theorem vals_one (l) : ∀ u ∈ vals l, u.oneCell' = true := fun u hu => by
  obtain ⟨_, _, rfl⟩ := List.mem_map.1 hu
  rfl
theorem vals_get (l : List Nat) (i : Nat) (hi : i < l.length) : (vals l)[i]? = some (.int .u32 (gl l i : Nat)) := by
  simp [vals, hi, gl]
/-- The cells from A on hold the values xs. -/
def RdV (w : World) (A : Option Addr) (xs : List Value) : Prop :=
  xs = [] ∨ ∃ ad, A = some ad ∧ ∀ i u, xs[i]? = some u → w.cell? (ad.add i) = some u
/-- The cells from A on hold the limbs of l. -/
def Rd (w : World) (A : Option Addr) (l : List Nat) : Prop := RdV w A (vals l)
theorem Rd.get {w A l} (h : Rd w A l) (i : Nat) (hi : i < l.length) : ∃ ad, A = some ad ∧ w.cell? (ad.add i) = some (.int .u32 (gl l i : Nat)) := by
  rcases h with h | ⟨ad, rfl, h⟩
  · have := congrArg List.length h; simp [vals] at this; simp [this] at hi
  · exact ⟨ad, rfl, h i _ (vals_get l i hi)⟩
theorem cell_below {w w1 : World} (h : Below w.heap.size w w1) {a : Addr} {v : Value} (hc : w.cell? a = some v) : w1.cell? a = some v := (h.cell (World.block_lt_of_cell? w a hc)).trans hc
theorem RdV.below {w w' A l} (h : RdV w A l) (hb : Below w.heap.size w w') : RdV w' A l := by
  rcases h with rfl | ⟨ad, rfl, h⟩
  · exact .inl rfl
  · exact .inr ⟨ad, rfl, fun i u hi => cell_below hb (h i u hi)⟩
theorem Rd.below {w w' A l} (h : Rd w A l) (hb : Below w.heap.size w w') : Rd w' A l := RdV.below h hb
theorem Rd.nil {w A} : Rd w A [] := .inl rfl
theorem Rd.cells {w ad l} (h : Rd w (some ad) l) : ∀ i u, (vals l)[i]? = some u → w.cell? (ad.add i) = some u := by
  rcases h with h | ⟨ad', e, h⟩
  · intro i u hu; rw [h] at hu; simp at hu
  · cases e; exact h
theorem ownV_rd {w : World} {base : Nat} {e : TypeId} {size n : Nat} {v : Value} {xs : List Value} (h : w.ownsRow base e size v n xs) : ∃ A c, v = .slice A n c ∧ n ≤ c ∧ c ≤ maxLen ∧ RdV w A xs := by
  rcases h.2 with ⟨rfl, rfl⟩ | ⟨g, cap, cur, rfl, _, _, h1, h2, _⟩
  · exact ⟨none, 0, rfl, Nat.le_refl _, by decide, .inl (List.eq_nil_of_length_eq_zero (by simpa using h.1))⟩
  · exact ⟨_, cap, rfl, h1, h2, .inr ⟨_, rfl, h.cells rfl⟩⟩
theorem own_base' {w : World} {base : Nat} {e : TypeId} {size n : Nat} {v : Value} {xs : List Value} (h : w.ownsRow base e size v n xs) (k : Nat) (hk : v.ownBlock = some k) : base ≤ k := by
  rcases h.2 with ⟨rfl, _⟩ | ⟨g, cap, cur, rfl, hb, _⟩
  · simp [Value.ownBlock] at hk
  · have : g = k := by simpa [Value.ownBlock] using hk
    omega
theorem _root_.Go.RowKit.Below.cons {w w1 w2 : World} (h : Below w.heap.size w w1) (k : Below w1.heap.size w1 w2) : Below w.heap.size w w2 :=
  h.trans (k.mono h.size)

theorem ieqT {a b : Int} (h : a = b) : (a == b) = true := beq_iff_eq.mpr h
theorem ieqF {a b : Int} (h : a ≠ b) : (a == b) = false := beq_eq_false_iff_ne.mpr h
theorem ineT {a b : Int} (h : a ≠ b) : (a != b) = true := bne_iff_ne.mpr h
theorem ineF {a b : Int} (h : a = b) : (a != b) = false := bne_eq_false_iff_eq.mpr h
theorem ret_int {k : IntKind} {a b : Int} (h : a = b) : Ending.returned (.int k a) = .returned (.int k b) := by rw [h]
theorem ret2_int {k k' : IntKind} {a b c d : Int} (h : a = b) (h' : c = d) : Ending.returned (.tuple #[.int k a, .int k' c]) = .returned (.tuple #[.int k b, .int k' d]) := by rw [h, h']
theorem at_new {W : World} {o : Obj} {k : Nat} (h : k = W.heap.size) : (W.alloc o).heap[k]? = some o := by subst h; exact heap_alloc_new W o
theorem at_old {W : World} {o : Obj} {k : Nat} {x : Option Obj} (h : k < W.heap.size) (hx : W.heap[k]? = x) : (W.alloc o).heap[k]? = x := by rw [← hx]; exact Below.heap_alloc W o k h
theorem max2_i (k k' : IntKind) (x y : Int) : Builtin.max2 (.int k x) (.int k' y) = pure (.int k (max x y)) := by
  simp only [Builtin.max2, gt_iff_lt, Int.max_def]
  congr 2
  split <;> split <;> omega
theorem min2_i (k k' : IntKind) (x y : Int) : Builtin.min2 (.int k x) (.int k' y) = pure (.int k (min x y)) := by
  simp only [Builtin.min2, Int.min_def]
  congr 2
  split <;> split <;> omega
theorem max_two (ats : Array TypeId) (ty : TypeId) (a b : Value) : Builtin.max_ ats ty #[a, b] = (Builtin.max2 a b >>= fun s => pure s) := by simp only [Builtin.max_, List.foldlM_cons, List.foldlM_nil]
theorem min_two (ats : Array TypeId) (ty : TypeId) (a b : Value) : Builtin.min_ ats ty #[a, b] = (Builtin.min2 a b >>= fun s => pure s) := by simp only [Builtin.min_, List.foldlM_cons, List.foldlM_nil]
theorem info_u32 : (Tryz.prog.info? 58).map (fun i => (i.zero, i.size, i.bytes)) = some (some (.int .u32 0), 1, 4) := by kernel_rfl

theorem mk32 (l c : Int) (h0 : 0 ≤ l) (h : l ≤ c) (hc : c ≤ 35184372088832) : ∀ W : World, (Instr.makeSlice 22 (.int .i64 l) (.int .i64 c)).run Tryz.prog W =
    .ok (.slice (some ⟨W.heap.size, 0, none⟩) l.toNat c.toNat) (W.alloc (.cells (madeCells #[.int .u32 0] c.toNat) 58)) := fun W => by
  obtain ⟨i0, hi, hz0, hz1, hz2⟩ := info_parts info_u32
  have := run_make (P := Tryz.prog) W 22 58 i0 _ Tryz.underlying22 hi hz0 .i64 .i64 l c h0 h (by rw [hz2]; omega) (by omega)
  rw [hz1, Nat.mul_one] at this
  exact this
theorem ownsMade32 (W : World) (base c : Nat) (hb : base ≤ W.heap.size) (hc : c ≤ 35184372088832) :
    (W.alloc (.cells (madeCells #[.int .u32 0] c) 58)).ownsRow base 58 1 (.slice (some ⟨W.heap.size, 0, none⟩) c c) c (vals (List.replicate c 0)) := by
  have h2 := World.ownsRow_lit (e := 58) (size := 1) (base := base) W (madeCells #[.int .u32 0] c) c hb (by simp only [maxLen]; omega) (by rw [size_madeCells, Nat.mul_one])
  rw [toList_madeCells_one] at h2
  rw [show vals (List.replicate c 0) = List.replicate c (Value.int .u32 0) by simp [vals]]
  exact h2

end Go.Proofs.YtacjfpibilolnaaGreatDoor

/- The layer of naturals, first part: Clone, Make, at. -/
set_option linter.unusedVariables false
set_option linter.unusedSimpArgs false
namespace Go.Proofs.YtacjfpibilolnaaGreatDoor
open Go.RowKit

/-- A slice that holds the limbs of a natural. -/
structure NatV (w : World) (A : Option Addr) (c n : Nat) : Prop where
  rd : Rd w A (limbs n)
  cap : nl n ≤ c
  cmax : c ≤ maxLen
theorem NatV.below {w w' A c n} (h : NatV w A c n) (hb : Below w.heap.size w w') : NatV w' A c n := ⟨h.rd.below hb, h.cap, h.cmax⟩
/-- What a call that makes a natural leaves. -/
def RetN (w : World) (n : Nat) (e : Ending) (w' : World) : Prop := ∃ A c, e = .returned (.slice A (nl n) c) ∧ NatV w' A c n ∧ Below w.heap.size w w'

set_option maxRecDepth 100000 in
set_option maxHeartbeats 400000 in
theorem clone_c (A : Option Addr) (n c : Nat) (l : List Nat) (w : World) (hn : l.length = n) (h : Rd w A l) (hl : n ≤ 1099511627776) :
  Calls Tryz.prog 130 #[.slice A n c] w fun e w' => ∃ B d, e = .returned (.slice B n d) ∧ n ≤ d ∧ d ≤ maxLen ∧ Rd w' B l ∧ Below w.heap.size w w' := by
  subst hn
  have hnil := fun (a : Option Addr) (n : Nat) (w : World) => Lib.run_eql_slice_nil (P := Tryz.prog) w 22 58 a n c 0 0 Tryz.underlying22
  obtain ⟨i0, hi, hz0, hz1, hz2⟩ := info_parts info_u32
  cases A with
  | none =>
    have hl0 : l = [] := by
      rcases h with h | ⟨ad, e, _⟩
      · exact List.map_eq_nil_iff.1 h
      · cases e
    subst hl0
    go_enter Tryz.func130, Tryz.ntmps130
    go_wp2
    go_ret
    exact ⟨none, 0, rfl, by simp, by decide, .inl rfl, Below.refl _ _⟩
  | some ad =>
    go_enter Tryz.func130, Tryz.ntmps130
    have hb1 : Below w.heap.size w (w.alloc (.cells #[] 58)) := (Below.refl _ _).alloc (Nat.le_refl _) _
    go_wp2_with (at_builtin; refine wpList_append_own_at _ rfl _ _ 22 rfl w.heap.size 58 i0 (.int .u32 0) 1 4 Tryz.underlying22 hi hz0 hz1 hz2 rfl (by decide) _ 0 [] rfl (World.ownsRow_lit w #[] 0 (Nat.le_refl _) (by decide) rfl) ad l.length c (vals l) rfl (by simp [vals]) (h.below hb1).cells (vals_one l) (by simp only [maxLen]; omega) (by omega) (by simp) ?_)
    intro v' w1 hown hg _ _
    (try simp only [Nat.zero_add, List.nil_append] at hown)
    obtain ⟨B, d, rfl, h1, h2, h3⟩ := ownV_rd hown
    have hb2 : Below w.heap.size w w1 := hb1.grown hg (by simp) (fun k hk => by simp [Value.ownBlock] at hk; omega)
    clear hg
    go_wp2
    go_ret
    exact ⟨B, d, rfl, h1, h2, h3, hb2⟩

set_option maxRecDepth 100000 in
set_option maxHeartbeats 400000 in
theorem make_c (A : Option Addr) (n c : Nat) (l : List Nat) (w : World) (hn : l.length = n) (h : Rd w A l) (hL : Lim l) (hl : n ≤ 1099511627776) (hc : n ≤ c) :
    Calls Tryz.prog 109 #[.slice A n c] w (RetN w (val l)) := by
  subst hn
  have fin : ∀ k, k ≤ l.length → (∀ i, k ≤ i → i < l.length → gl l i = 0) → (k = 0 ∨ gl l (k - 1) ≠ 0) → Calls Tryz.prog 130 #[.slice A k c] w (RetN w (val l)) := fun k hk h0 h1 => by
    have e := take_make hL hk h0 h1
    have e2 : k = nl (val l) := by unfold nl; rw [← e, List.length_take, Nat.min_eq_left hk]
    refine (clone_c A k c (l.take k) w (by simp [hk]) ?_ (by omega)).mono ?_
    · rcases h with h | ⟨ad, rfl, h⟩
      · exact .inl (by simp [vals] at h ⊢; simp [h])
      · refine .inr ⟨ad, rfl, fun i u hu => h i u ?_⟩
        simp only [vals, List.map_take] at hu ⊢
        by_cases hik : i < k
        · rwa [List.getElem?_take_of_lt hik] at hu
        · rw [List.getElem?_take_eq_none (by omega)] at hu; cases hu
    · rintro e' w' ⟨B, d, rfl, h1, h2, h3, h4⟩
      exact ⟨B, d, by rw [← e2], ⟨by rw [← e]; exact h3, by omega, h2⟩, h4⟩
  go_enter Tryz.func109, Tryz.ntmps109
  go_wp2_with (fail)
  go_loop [3] (fun v => ∃ k : Nat, v = .int .i64 k ∧ k ≤ l.length ∧ ∀ i, k ≤ i → i < l.length → gl l i = 0) (fun v => (intOf v).toNat)
  case atStart => exact ⟨l.length, rfl, Nat.le_refl _, fun i h1 h2 => by omega⟩
  case round =>
    obtain ⟨k, rfl, hk, h0⟩ := hrel
    have H0 := Lib.hid h0
    have FIN := Lib.hid fin
    clear h0 fin
    cases k with
    | zero =>
      go_wp2_with (fail)
      refine (FIN.out 0 (by omega) H0.out (.inl rfl)).mono ?_
      rintro e w1 ⟨B, d, rfl, h1, h2⟩
      go_wp2_with (fail)
      go_ret
      exact ⟨B, d, rfl, h1, h2⟩
    | succ k =>
      obtain ⟨ad, rfl, hcell⟩ := h.get k (by omega)
      by_cases hz : gl l k = 0
      · have hb : ((gl l k : Int) == 0) = true := ieqT (by omega)
        have HZ := Lib.hid hz
        clear hz
        go_wp2_with (fail)
        go_round
        case rel => exact ⟨k, by go_num, by omega, fun i h1 h2 => by
          by_cases e : i = k
          · rw [e]; exact HZ.out
          · exact H0.out i (by omega) h2⟩
        case measure => simp [intOf] <;> omega
      · have hb : ((gl l k : Int) == 0) = false := ieqF (by omega)
        go_wp2_with (fail)
        refine (FIN.out (k + 1) (by omega) H0.out (.inr hz)).mono ?_
        rintro e w1 ⟨B, d, rfl, h1, h2⟩
        go_wp2_with (fail)
        go_ret
        exact ⟨B, d, rfl, h1, h2⟩
end Go.Proofs.YtacjfpibilolnaaGreatDoor

/- math/bits: Add32, Sub32. -/
set_option linter.unusedVariables false
set_option linter.unusedSimpArgs false
namespace Go.Proofs.YtacjfpibilolnaaGreatDoor
open Go.RowKit

/-- What is borrowed. -/
def brw (x y b : Nat) : Nat := if x < y + b then 1 else 0
def dif (x y b : Nat) : Nat := (x + (4294967296 - y - b)) % 4294967296
theorem dif_lt (x y b : Nat) : dif x y b < 4294967296 := Nat.mod_lt _ (by decide)
theorem brw_le (x y b : Nat) : brw x y b ≤ 1 := by unfold brw; split <;> omega
theorem dif_eq {x y b : Nat} (hx : x < 4294967296) (hy : y < 4294967296) (hb : b ≤ 1) : x + 4294967296 * brw x y b = dif x y b + y + b := by
  unfold dif brw
  split <;> omega
theorem top_bit {n : Nat} (h : n < 4294967296) : n / 2147483648 = (n.testBit 31).toNat := by
  rw [Nat.toNat_testBit]
  omega
theorem tb31 {n : Nat} (h : n < 4294967296) : n.testBit 31 = decide (2147483648 ≤ n) := by
  have := top_bit h
  cases e : n.testBit 31 <;> rw [e] at this <;> simp at this ⊢ <;> omega
theorem brw_bits (x y b : Nat) (hx : x < 4294967296) (hy : y < 4294967296) (hb : b ≤ 1) :
    (((4294967295 ^^^ x) &&& y) ||| ((4294967295 ^^^ (x ^^^ y)) &&& dif x y b)) / 2147483648 = brw x y b := by
  have hd := dif_lt x y b
  have l1 : (4294967295 ^^^ x) &&& y < 4294967296 := Nat.and_lt_two_pow (n := 32) _ hy
  have l2 : (4294967295 ^^^ (x ^^^ y)) &&& dif x y b < 4294967296 := Nat.and_lt_two_pow (n := 32) _ hd
  have e1 : Nat.testBit 4294967295 31 = true := by decide
  rw [top_bit (Nat.or_lt_two_pow (n := 32) l1 l2), Nat.testBit_or, Nat.testBit_and, Nat.testBit_and, Nat.testBit_xor, Nat.testBit_xor, Nat.testBit_xor, e1, tb31 hx, tb31 hy, tb31 hd]
  have e := dif_eq hx hy hb
  have hbw := brw_le x y b
  by_cases h1 : 2147483648 ≤ x <;> by_cases h2 : 2147483648 ≤ y <;> by_cases h3 : 2147483648 ≤ dif x y b <;> simp [h1, h2, h3] <;> omega
theorem brw_int (x y b : Nat) (d : Int) (hd : d = ((dif x y b : Nat) : Int)) (hx : x < 4294967296) (hy : y < 4294967296) (hb : b ≤ 1) :
    bits .or .u32 (bits .and .u32 (bits .xor .u32 IntKind.u32.max (x : Int)) (y : Int)) (bits .and .u32 (bits .xor .u32 IntKind.u32.max (bits .xor .u32 (x : Int) (y : Int))) d) / 2147483648 = (brw x y b : Int) := by
  have hm : IntKind.u32.max = ((4294967295 : Nat) : Int) := by decide
  have hdl := dif_lt x y b
  have a1 : 4294967295 ^^^ x < 4294967296 := Nat.xor_lt_two_pow (n := 32) (by decide) hx
  have a2 : x ^^^ y < 4294967296 := Nat.xor_lt_two_pow (n := 32) hx hy
  have a3 : 4294967295 ^^^ (x ^^^ y) < 4294967296 := Nat.xor_lt_two_pow (n := 32) (by decide) a2
  have a4 : (4294967295 ^^^ x) &&& y < 4294967296 := Nat.and_lt_two_pow (n := 32) _ hy
  have a5 : (4294967295 ^^^ (x ^^^ y)) &&& dif x y b < 4294967296 := Nat.and_lt_two_pow (n := 32) _ hdl
  rw [hm, hd, u32_xor_nat _ _ (by decide) hx, u32_xor_nat _ _ hx hy, u32_xor_nat _ _ (by decide) a2, u32_and_nat _ _ a1 hy, u32_and_nat _ _ a3 hdl, u32_or_nat _ _ a4 a5, ← brw_bits x y b hx hy hb]
  simp

set_option maxRecDepth 100000 in
set_option maxHeartbeats 400000 in
theorem sub32_c (x y b : Nat) (w : World) (hx : x < 4294967296) (hy : y < 4294967296) (hb : b ≤ 1) :
    Calls Tryz.prog 133 #[.int .u32 x, .int .u32 y, .int .u32 b] w fun e w' => e = .returned (.tuple #[.int .u32 (dif x y b : Nat), .int .u32 (brw x y b : Nat)]) ∧ w = w' := by
  have HD := Lib.hid (show ((((x : Int) - y) % 4294967296 - b) % 4294967296) = ((dif x y b : Nat) : Int) by unfold dif; omega)
  have HB := Lib.hid (brw_int x y b _ (show (((x : Int) - y - b) % 4294967296) = ((dif x y b : Nat) : Int) by unfold dif; omega) hx hy hb)
  have hs : IntKind.u32.signed = false := rfl
  go_enter Tryz.func133, Tryz.ntmps133
  go_wp2
  go_ret2
  exact ⟨ret2_int HD.out HB.out, rfl⟩
theorem add32_c (x y b : Nat) (w : World) (hx : x < 4294967296) (hy : y < 4294967296) (hb : b ≤ 1) :
    Calls Tryz.prog 129 #[.int .u32 x, .int .u32 y, .int .u32 b] w fun e w' => e = .returned (.tuple #[.int .u32 ((x + y + b) % 4294967296 : Nat), .int .u32 ((x + y + b) / 4294967296 : Nat)]) ∧ w = w' := by
  go_enter Tryz.func129, Tryz.ntmps129
  go_wp2
  go_ret2
  exact ⟨by simp, rfl⟩
end Go.Proofs.YtacjfpibilolnaaGreatDoor

/- The layer of naturals: limbs of two beside each other, a step that keeps what is carried. -/
set_option linter.unusedVariables false
set_option linter.unusedSimpArgs false
namespace Go.Proofs.YtacjfpibilolnaaGreatDoor
open Go.RowKit Go.Shelf

attribute [local go_sem] Oper.semAt_some

set_option maxRecDepth 100000 in
set_option maxHeartbeats 400000 in
theorem at_c (A : Option Addr) (n c : Nat) (l : List Nat) (j : Nat) (w : World) (hn : l.length = n) (h : Rd w A l) (h0 : j ≤ 1099511627776) (hl : n ≤ 1099511627776) :
    Calls Tryz.prog 127 #[.slice A n c, .int .i64 (j : Int)] w fun e w' => e = .returned (.int .u32 (gl l j : Nat)) ∧ w = w' := by
  subst hn
  by_cases hj : j < l.length
  · obtain ⟨ad, rfl, hc⟩ := h.get j hj
    go_enter Tryz.func127, Tryz.ntmps127
    go_wp2
    go_ret
    exact ⟨rfl, rfl⟩
  · have e := gl_of_le (l := l) (i := j) (by omega)
    have E := Lib.hid e
    clear e
    go_enter Tryz.func127, Tryz.ntmps127
    go_wp2
    go_ret
    exact ⟨by rw [E.out]; rfl, rfl⟩

/-- What a step of limbs makes of two limbs and what is carried: a limb, and what is carried on. -/
def StepC (fs : Nat) (st : Nat → Nat → Nat → Nat × Nat) : Prop :=
  (∀ args w, (callFunc fs args).run Tryz.prog w = .ok (.enter fs args) w) ∧
  (∀ x y c, x < 4294967296 → y < 4294967296 → c ≤ 1 → (st x y c).1 < 4294967296 ∧ (st x y c).2 ≤ 1) ∧
  ∀ (x y c : Nat) (w : World), x < 4294967296 → y < 4294967296 → c ≤ 1 →
    Calls Tryz.prog fs #[.int .u32 x, .int .u32 y, .int .u32 c] w fun e w' => e = .returned (.tuple #[.int .u32 ((st x y c).1 : Nat), .int .u32 ((st x y c).2 : Nat)]) ∧ w = w'

set_option maxRecDepth 100000 in
set_option maxHeartbeats 400000 in
theorem carried1_c (fs : Nat) (st : Nat → Nat → Nat → Nat × Nat) (hs : StepC fs st) (x y c Bs Bc : Nat) (w : World) (hx : x < 4294967296) (hy : y < 4294967296) (hc : c ≤ 1)
    (h1 : Boxed w Bs 119 (.func (.func fs) #[] #[])) (h2 : Boxed w Bc 58 (.int .u32 c)) :
    Calls Tryz.prog 154 #[.int .u32 x, .int .u32 y, .pointer (some ⟨Bs, 0, none⟩), .pointer (some ⟨Bc, 0, none⟩)] w fun e w' =>
      e = .returned (.int .u32 ((st x y c).1 : Nat)) ∧ w' = w.setCell ⟨Bc, 0, none⟩ (.int .u32 ((st x y c).2 : Nat)) := by
  have c1 := h1.cell
  have c2 := h2.cell
  have f2 := h2.frozen
  obtain ⟨heg, hbd, hst⟩ := hs
  have HST := Lib.hid hst
  have HBD := Lib.hid (hbd x y c hx hy hc)
  clear hst hbd h1 h2
  go_enter Tryz.func154, Tryz.ntmps154
  go_wp2_with (fail)
  refine (HST.out _ _ _ _ hx hy hc).mono ?_
  rintro e w1 ⟨rfl, rfl⟩
  go_wp2_with (fail)
  go_ret
  exact ⟨rfl, rfl⟩

theorem carried_c (fs : Nat) (w : World) :
    Calls Tryz.prog 139 #[.func (.func fs) #[] #[]] w fun e w' =>
      e = .returned (.func (.func 154) #[] #[.pointer (some ⟨w.heap.size, 0, none⟩), .pointer (some ⟨w.heap.size + 1, 0, none⟩)]) ∧
      w' = (w.alloc (.cells #[.func (.func fs) #[] #[]] 119)).alloc (.cells #[.int .u32 0] 58) := by
  go_enter Tryz.func139, Tryz.ntmps139
  go_wp2_with (fail)
  go_ret
  exact ⟨rfl, rfl⟩

theorem pairs_c (A : Option Addr) (la ca : Nat) (B : Option Addr) (lb cb : Nat) (n : Int) (w : World) :
    Calls Tryz.prog 140 #[.slice A la ca, .slice B lb cb, .int .i64 n] w fun e w' =>
      e = .returned (.func (.func 155) #[] #[.pointer (some ⟨w.heap.size + 2, 0, none⟩), .pointer (some ⟨w.heap.size, 0, none⟩), .pointer (some ⟨w.heap.size + 1, 0, none⟩)]) ∧
      w' = ((w.alloc (.cells #[.slice A la ca] 22)).alloc (.cells #[.slice B lb cb] 22)).alloc (.cells #[.int .i64 n] 3) := by
  go_enter Tryz.func140, Tryz.ntmps140
  go_wp2_with (fail)
  go_ret
  exact ⟨rfl, rfl⟩

/-- Cells of the blocks of S read on as they did. -/
def KeepC (S : Nat → Prop) (W W' : World) : Prop := ∀ (p : Addr) (v : Value), S p.block → W.cell? p = some v → W'.cell? p = some v
theorem KeepC.t {S : Nat → Prop} {A B C : World} (h : KeepC S A B) (k : KeepC S B C) : KeepC S A C := fun p v hp hv => k p v hp (h p v hp hv)
theorem KeepC.b {S : Nat → Prop} {w : World} (W : World) (l : Nat) (o o' : Obj) (_ : w.heap.size ≤ l) (h : W.heap[l]? = some o) (ho : o.isCells = false) (_ : o.isWalk = false) : KeepC S W (W.putObj l o') := fun p v _ hv =>
  cell_kept hv (grownBy_putObj' W l o') (fun r e => by cases e; exact ⟨o, h, ho⟩)
theorem KeepC.rd {S : Nat → Prop} {W W' : World} {A : Option Addr} {l : List Nat} (h : KeepC S W W') (hA : ∀ ad i, A = some ad → i < l.length → S (ad.add i).block) (hr : Rd W A l) : Rd W' A l := by
  rcases hr with hr | ⟨ad, rfl, hr⟩
  · exact .inl hr
  · refine .inr ⟨ad, rfl, fun i u hu => h _ _ (hA ad i rfl ?_) (hr i u hu)⟩
    have := (List.getElem?_eq_some_iff.1 hu).1
    simpa [vals] using this

set_option maxRecDepth 100000 in
set_option maxHeartbeats 1000000 in
set_option maxRecDepth 100000 in
theorem pairs1_in (l Ba Bb Bn : Nat) (n₀ : Nat) (S : Nat → Prop) (A : Option Addr) (na ca : Nat) (a : List Nat) (B : Option Addr) (nb cb : Nat) (b : List Nat) (n : Nat)
    (hn : n ≤ 1099511627776) (hna : a.length = na) (hnb : b.length = nb) (hla : na ≤ 1099511627776) (hlb : nb ≤ 1099511627776)
    (hSa : S Ba) (hSb : S Bb) (hSA : ∀ ad i, A = some ad → i < a.length → S (ad.add i).block) (hSB : ∀ ad i, B = some ad → i < b.length → S (ad.add i).block)
    (J Jx : List Nat → World → Prop) (hJd : ∀ pre W, J pre W → J pre W.drew)
    (hY : ∀ pre x W, J pre W → pre.length < n → YieldAt Fence.wide 2 Tryz.prog l #[.int .u32 (gl a x : Nat), .int .u32 (gl b x : Nat)] W fun e W' =>
      (e = .returned (.bool true) ∧ J (pre ++ [x]) W' ∧ KeepC S W W') ∨ (e = .returned (.bool false) ∧ Jx (pre ++ [x]) W'))
    (W : World) (h1 : W.cell? ⟨Ba, 0, none⟩ = some (.slice A na ca)) (h2 : W.cell? ⟨Bb, 0, none⟩ = some (.slice B nb cb)) (h3 : W.cell? ⟨Bn, 0, none⟩ = some (.int .i64 n))
    (hA : Rd W A a) (hB : Rd W B b) (h0 : J [] W) :
    CallsIn Fence.wide 3 Tryz.prog 155 #[.func (.yield l) #[] #[], .pointer (some ⟨Bn, 0, none⟩), .pointer (some ⟨Ba, 0, none⟩), .pointer (some ⟨Bb, 0, none⟩)] W fun e W' =>
      (∃ v, e = .returned v) ∧ ((∃ xs, xs = List.range n ∧ J xs W') ∨ (∃ pre, pre.length ≤ n ∧ Jx pre W')) := by
  refine callsIn_of_wp Tryz.func155 rfl trivial ?_ rfl
  simp only [Tryz.ntmps155, List.size_toArray, List.length_cons, List.length_nil, Nat.reduceAdd, Nat.reduceSub, Array.replicate_succ, Array.replicate_zero, List.push_toArray, List.append_toArray, List.nil_append, List.cons_append]
  have HY := Lib.hid hY
  clear hY
  gi_wp2_with (fail)
  gi_loopw [7, 5] (fun i u wr => ∃ k : Nat, i = .int .i64 k ∧ k ≤ n ∧ J (List.range k) wr ∧ KeepC S W wr) (fun i u wr => n - (intOf i).toNat)
  case atStart => exact ⟨0, rfl, Nat.zero_le _, h0, fun p v _ h => h⟩
  case round =>
    obtain ⟨k, rfl, hk, hJ, hK⟩ := hrel
    by_cases hkn : k < n
    · have g1 := hK _ _ hSa h1
      have g2 := hK _ _ hSb h2
      obtain ⟨fn, tmps, assign, body, hy, hR⟩ := HY.out _ k wr.drew (hJd _ _ hJ) (by simpa using hkn)
      have cA := fun (W : World) (hA : Rd W A a) => (callsIn_wide (n := 2)).2 (at_c A na ca a k W hna hA (by omega) hla)
      have cB := fun (W : World) (hB : Rd W B b) => (callsIn_wide (n := 2)).2 (at_c B nb cb b k W hnb hB (by omega) hlb)
      have HA : Rd wr.drew A a := hK.rd hSA hA
      have HB : Rd wr.drew B b := hK.rd hSB hB
      have CA : ∀ (X : Option Addr) (m d : Nat) (r : List Nat), ((X, m, d, r) = (A, na, ca, a) ∨ (X, m, d, r) = (B, nb, cb, b)) → CallsIn Fence.wide 2 Tryz.prog 127 #[.slice X m d, .int .i64 (k : Int)] wr.drew fun e w' => e = .returned (.int .u32 (gl r k : Nat)) ∧ wr.drew = w' := fun X m d r h => by
        rcases h with h | h <;> cases h
        · exact cA wr.drew HA
        · exact cB wr.drew HB
      have HR := Lib.hid (hR.mono (R' := fun e W' => ∃ b, e = .returned (.bool b) ∧ Hid ((b = true ∧ J (List.range k ++ [k]) W' ∧ KeepC S wr.drew W') ∨ (b = false ∧ Jx (List.range k ++ [k]) W'))) (by
        rintro e W' (⟨rfl, h⟩ | ⟨rfl, h⟩)
        · exact ⟨true, rfl, Lib.hid (.inl ⟨rfl, h⟩)⟩
        · exact ⟨false, rfl, Lib.hid (.inr ⟨rfl, h⟩)⟩))
      have HK := Lib.hid hK
      have HCA := Lib.hid CA
      clear cA cB hA hB hK hR hSA hSB hJ hJd CA
      gi_wp2_with (fail)
      gi_region_with (first | (refine (Hid.out HR).mono ?_; rintro e W' ⟨y, rfl, hy⟩) | (refine ⟨trivial, ?_⟩; gi_at_call 127; (first | (with_reducible refine (Hid.out HCA A na ca a (.inl rfl)).mono ?_) | (with_reducible refine (Hid.out HCA B nb cb b (.inr rfl)).mono ?_)); rintro e w' ⟨rfl, rfl⟩))
      all_goals
        cases y with
        | true =>
          obtain ⟨_, hJ2, hK2⟩ | ⟨h, _⟩ := hy.out
          · gi_wp2_with (fail)
            go_roundw
            case rel => exact ⟨k + 1, by go_num, by omega, by rw [List.range_succ]; exact hJ2, HK.out.t (KeepC.t (fun p v _ h => h) hK2)⟩
            case measure => simp [intOf] <;> omega
          · cases h
        | false =>
          obtain ⟨h, _⟩ | ⟨_, hx⟩ := hy.out
          · cases h
          · gi_wp2_with (fail)
            refine bodyPost_ret (results_none rfl _ _ _) rfl ?_
            exact ⟨⟨_, rfl⟩, .inr ⟨_, by simp; omega, hx⟩⟩
    · gi_wp2_with (fail)
      refine bodyPost_end (results_none rfl _ _ _) rfl ?_
      obtain rfl : k = n := by omega
      exact ⟨⟨_, rfl⟩, .inl ⟨_, rfl, hJ⟩⟩

theorem pairs_stops (Ba Bb Bn : Nat) (S : Nat → Prop) (A : Option Addr) (na ca : Nat) (a : List Nat) (B : Option Addr) (nb cb : Nat) (b : List Nat) (n : Nat) (w : World)
    (hn : n ≤ 1099511627776) (hna : a.length = na) (hnb : b.length = nb) (hla : na ≤ 1099511627776) (hlb : nb ≤ 1099511627776)
    (hSa : S Ba) (hSb : S Bb) (hSA : ∀ ad i, A = some ad → i < a.length → S (ad.add i).block) (hSB : ∀ ad i, B = some ad → i < b.length → S (ad.add i).block)
    (h1 : w.cell? ⟨Ba, 0, none⟩ = some (.slice A na ca)) (h2 : w.cell? ⟨Bb, 0, none⟩ = some (.slice B nb cb)) (h3 : w.cell? ⟨Bn, 0, none⟩ = some (.int .i64 n))
    (hA : Rd w A a) (hB : Rd w B b) :
    SeqStopsK Fence.wide 3 Tryz.prog 155 #[.pointer (some ⟨Bn, 0, none⟩), .pointer (some ⟨Ba, 0, none⟩), .pointer (some ⟨Bb, 0, none⟩)]
      (fun x : Nat => #[.int .u32 (gl a x : Nat), .int .u32 (gl b x : Nat)]) (KeepC S) (fun xs => xs = List.range n) (fun pre => pre.length ≤ n) n w := fun l J Jx W hW hJ _ hY h0 =>
  pairs1_in l Ba Bb Bn 0 S A na ca a B nb cb b n hn hna hnb hla hlb hSa hSb hSA hSB J Jx (fun pre W h => hJ pre W W.drew none h ⟨rfl, rfl, rfl, Nat.le_refl _, fun _ _ _ => rfl⟩ (fun r e => by cases e))
    hY W (cell_below hW h1) (cell_below hW h2) (cell_below hW h3) (hA.below hW) (hB.below hW) h0
end Go.Proofs.YtacjfpibilolnaaGreatDoor

/- A region that draws its order: by an invariant on what has come up. -/
set_option linter.unusedVariables false
set_option linter.unusedSimpArgs false
namespace Go.Proofs.YtacjfpibilolnaaGreatDoor
open Go.RowKit

theorem count_set {L : List Bool} {i : Nat} (h : L[i]? = some false) : (L.set i true).count false + 1 = L.count false := by
  induction L generalizing i with
  | nil => simp at h
  | cons x L ih =>
    cases i with
    | zero =>
      simp only [List.getElem?_cons_zero, Option.some.injEq] at h
      subst h
      simp [List.count_cons]
    | succ i =>
      have := ih (i := i) (by simpa using h)
      simp only [List.set_cons_succ, List.count_cons]
      omega

/-- Whatever comes up next keeps the invariant; when all has come up, it gives what is asked. -/
theorem wpAnyIn_inv {F : Fence} {n : Nat} {P : Program} {ops : Array Oper} {Q : Exit → Act → World → Prop} {md : Region.Mode} (Inv : Array Bool → Act → World → Prop)
    (hdone : ∀ L a w, Inv L a w → Region.ready md ops L = [] → Q .normal a w)
    (hstep : ∀ L a w i, Inv L a w → i < ops.size → L.getD i true = false → (∀ o, ops[i]? = some o → ∀ e ∈ o.after, Region.binds md e = true → L.getD e.on false = true) →
      wpOpIn F n P ops Q i (fun a' w' => Inv (L.setIfInBounds i true) a' w') a w) :
    ∀ fuel L a w, Inv L a w → L.size = ops.size → L.toList.count false ≤ fuel → wpAnyIn F n P md ops Q fuel L a w := by
  intro fuel
  induction fuel with
  | zero =>
    intro L a w hI hs hc
    have hr : Region.ready md ops L = [] := by
      rw [List.eq_nil_iff_forall_not_mem]
      intro i hi
      obtain ⟨h0, o, ho, _⟩ := mem_ready.1 hi
      have hlt : i < L.size := by rw [hs]; exact (Array.getElem?_eq_some_iff.1 ho).1
      have h1 : L.toList.count false = 0 := by omega
      rw [List.count_eq_zero] at h1
      refine h1 ?_
      have h2 : L[i] = false := by simpa [Array.getD, hlt] using h0
      exact h2 ▸ Array.getElem_mem_toList hlt
    exact ⟨hr, hdone L a w hI hr⟩
  | succ fuel ih =>
    intro L a w hI hs hc
    refine ⟨fun hr => hdone L a w hI hr, fun i hi => ?_⟩
    obtain ⟨h0, o, ho, hd⟩ := mem_ready.1 hi
    have hlt : i < ops.size := (Array.getElem?_eq_some_iff.1 ho).1
    refine wpOpIn_mono (fun a' w' hI' => ih _ a' w' hI' (by simpa using hs) ?_) (hstep L a w i hI hlt h0 (fun o' ho' e he hb => by
      rw [ho] at ho'; cases ho'; exact hd e he hb))
    have hl : i < L.size := by omega
    have h2 : L[i] = false := by simpa [Array.getD, hl] using h0
    have h3 := count_set (L := L.toList) (i := i) (by rw [Array.getElem?_toList, Array.getElem?_eq_getElem hl, h2])
    rw [Array.toList_setIfInBounds]
    omega

def edgesDown (ops : Array Oper) : Bool := ops.toList.zipIdx.all fun (o, i) => o.after.all fun e => !Region.binds .any e || decide (e.on < i)
theorem edgesDown_spec {ops : Array Oper} (h : edgesDown ops = true) {i : Nat} {o : Oper} (ho : ops[i]? = some o) {e : Edge} (he : e ∈ o.after) (hb : Region.binds .any e = true) : e.on < i := by
  unfold edgesDown at h
  rw [List.all_eq_true] at h
  have hm : (o, i) ∈ ops.toList.zipIdx := by
    rw [List.mem_zipIdx_iff_getElem?]; simpa using ho
  have := h _ hm
  simp only [Array.all_eq_true_iff_forall_mem, Bool.or_eq_true, Bool.not_eq_true', decide_eq_true_eq] at this
  exact (this e he).resolve_left (by simp [hb])
theorem ready_nil {ops : Array Oper} (hd : edgesDown ops = true) {L : Array Bool} (hs : L.size = ops.size) (h : Region.ready .any ops L = []) : ∀ i, i < ops.size → L.getD i false = true := by
  intro i
  induction i using Nat.strongRecOn with
  | _ i ih =>
    intro hi
    cases hb : L.getD i false with
    | true => rfl
    | false =>
      exfalso
      have : i ∈ Region.ready .any ops L := mem_ready.2 ⟨by
        have hl : i < L.size := by omega
        simp only [Array.getD, hl, dite_true] at hb ⊢; exact hb, ops[i], Array.getElem?_eq_getElem hi, fun e he hbe => by
          have hlt := edgesDown_spec hd (Array.getElem?_eq_getElem hi) he hbe
          exact ih e.on hlt (by omega)⟩
      rw [h] at this
      simp at this
theorem bit_set {L : Array Bool} {i : Nat} (hi : i < L.size) (k : Nat) : (L.setIfInBounds i true).getD k false = if k = i then true else L.getD k false := by
  by_cases h : k = i
  · subst h; simp [Array.getD, hi]
  · rw [if_neg h, getD_set_ne false (fun e => h e.symm)]

/-- A region that draws, by an invariant on which operations have come up ('D k': number k has). -/
theorem wpIn_region_inv {F : Fence} {n : Nat} {P : Program} {ops : Array Oper} {Q : Exit → Act → World → Prop} {id : Nat} {a : Act} {w : World} (Inv : (Nat → Bool) → Act → World → Prop) (hm : P.follows .mixedOrders = true)
    (hd : edgesDown ops = true)
    (h0 : Inv (fun _ => false) a w.drew)
    (hdone : ∀ D a w, Inv D a w → (∀ i, i < ops.size → D i = true) → Q .normal a w)
    (hstep : ∀ D a w i, Inv D a w → i < ops.size → D i = false → (∀ o, ops[i]? = some o → ∀ e ∈ o.after, Region.binds .any e = true → D e.on = true) →
      wpOpIn F n P ops Q i (fun a' w' => Inv (fun k => if k = i then true else D k) a' w') a w) :
    (Code.region id ops true).wpIn F n P Q a w := by
  refine wpIn_region_any hm (wpAnyIn_inv (fun L a w => L.size = ops.size ∧ Inv (fun k => L.getD k false) a w) ?_ ?_ _ _ _ _ ⟨by simp, ?_⟩ (by simp) (by simp))
  · rintro L a w ⟨hs, hI⟩ hr
    exact hdone _ a w hI (ready_nil hd hs hr)
  · rintro L a w i ⟨hs, hI⟩ hi hL he
    have hl : i < L.size := by omega
    refine wpOpIn_mono (fun a' w' h' => ⟨by simpa using hs, ?_⟩) (hstep (fun k => L.getD k false) a w i hI hi (by simp only [Array.getD, hl, dite_true] at hL ⊢; exact hL) he)
    have : (fun k => (L.setIfInBounds i true).getD k false) = (fun k => if k = i then true else L.getD k false) := funext (bit_set hl)
    rw [this]
    exact h'
  · have : (fun k => (Array.replicate ops.size false).getD k false) = (fun _ : Nat => false) := by
      funext k
      by_cases hk : k < ops.size <;> simp [Array.getD, hk]
    rw [this]
    exact h0
end Go.Proofs.YtacjfpibilolnaaGreatDoor

/- The layer of naturals: the limbs that a step makes of two naturals. -/
set_option linter.unusedVariables false
set_option linter.unusedSimpArgs false
namespace Go.Proofs.YtacjfpibilolnaaGreatDoor
open Go.RowKit Go.Shelf

attribute [local go_sem] Oper.semAt_some

def runS (st : Nat → Nat → Nat → Nat × Nat) (a b : List Nat) (pre : List Nat) : List Nat × Nat :=
  pre.foldl (fun s i => (s.1 ++ [(st (gl a i) (gl b i) s.2).1], (st (gl a i) (gl b i) s.2).2)) ([], 0)
theorem runS_snoc (st a b pre i) : runS st a b (pre ++ [i]) = ((runS st a b pre).1 ++ [(st (gl a i) (gl b i) (runS st a b pre).2).1], (st (gl a i) (gl b i) (runS st a b pre).2).2) := by
  simp [runS]
theorem snoc_ind {P : List Nat → Prop} (h0 : P []) (h1 : ∀ l x, P l → P (l ++ [x])) : ∀ l, P l := fun l => by
  rw [← List.reverse_reverse l]
  induction l.reverse with
  | nil => exact h0
  | cons x l ih => rw [List.reverse_cons]; exact h1 _ _ ih
theorem runS_len (st a b pre) : (runS st a b pre).1.length = pre.length := by
  induction pre using snoc_ind with
  | h0 => rfl
  | h1 pre i ih => rw [runS_snoc]; simp [ih]
theorem runS_ok {fs st} (hs : StepC fs st) {a b : List Nat} (ha : Lim a) (hb : Lim b) (pre) : Lim (runS st a b pre).1 ∧ (runS st a b pre).2 ≤ 1 := by
  induction pre using snoc_ind with
  | h0 => exact ⟨Lim.nil, Nat.zero_le _⟩
  | h1 pre i ih =>
    have := hs.2.1 _ _ _ (ha.gl i) (hb.gl i) ih.2
    rw [runS_snoc]
    exact ⟨ih.1.append (Lim.cons this.1 Lim.nil), this.2⟩

theorem keepD {D : Nat → Bool} {i k : Nat} {p : Prop} (hne : k ≠ i) (h : D k = true → p) : (if k = i then true else D k) = true → p := by rw [if_neg hne]; exact h

set_option maxRecDepth 100000 in
set_option maxHeartbeats 1000000 in
set_option maxRecDepth 100000 in
theorem all_c (fs : Nat) (st : Nat → Nat → Nat → Nat × Nat) (hs : StepC fs st) (A : Option Addr) (na ca : Nat) (a : List Nat) (B : Option Addr) (nb cb : Nat) (b : List Nat) (n : Nat) (w : World)
    (hn : n ≤ 1099511627776) (hna : a.length = na) (hnb : b.length = nb) (hla : na ≤ 1099511627776) (hlb : nb ≤ 1099511627776) (hA : Rd w A a) (hB : Rd w B b) (ha : Lim a) (hb : Lim b) :
    Calls Tryz.prog 128 #[.slice A na ca, .slice B nb cb, .int .i64 (n : Int), .func (.func fs) #[] #[]] w (RetN w (val (runS st a b (List.range n)).1)) := by
  refine (callsIn_wide (n := 4)).1 ?_
  obtain ⟨i0, hi', hz0, hz1, hz2⟩ := info_parts info_u32
  have hmk := mk32 0 n (by omega) (by omega) (by omega)
  simp only [Int.toNat_zero, Int.toNat_natCast] at hmk
  refine callsIn_of_wp_marks Tryz.func128 rfl trivial ?_ rfl
  simp only [Tryz.ntmps128, List.size_toArray, List.length_cons, List.length_nil, Nat.reduceAdd, Nat.reduceSub, Array.replicate_succ, Array.replicate_zero, List.push_toArray, List.append_toArray, List.nil_append, List.cons_append]
  gi_wp2_with (first
    | (refine ⟨trivial, ?_⟩; gi_at_call 139; refine (callsIn_wide.2 (carried_c fs _)).mono ?_; rintro e w' ⟨rfl, rfl⟩)
    | (refine ⟨trivial, ?_⟩; gi_at_call 140; refine (callsIn_wide.2 (pairs_c A na ca B nb cb n _)).mono ?_; rintro e w' ⟨rfl, rfl⟩))
  -- the world as the loop begins
  obtain ⟨s, hs0⟩ : ∃ s, s = w.heap.size := ⟨_, rfl⟩
  obtain ⟨W8, hW8⟩ : ∃ W8, ((((((((w.alloc (.cells #[.func (.func fs) #[] #[]] 119)).alloc (.cells #[.int .u32 0] 58)).alloc (.cells #[.func (.func 154) #[] #[.pointer (some ⟨s, 0, none⟩), .pointer (some ⟨s + 1, 0, none⟩)]] 126)).alloc (.cells (madeCells #[.int .u32 0] n) 58)).alloc (.cells #[.slice (some ⟨s + 3, 0, none⟩) 0 n] 22)).alloc (.cells #[.slice A na ca] 22)).alloc (.cells #[.slice B nb cb] 22)).alloc (.cells #[.int .i64 n] 3)) = W8 := ⟨_, rfl⟩
  have bS : Boxed W8 s 119 (.func (.func fs) #[] #[]) := by
    subst hs0 hW8; unfold Boxed; repeat (first | exact at_new (by simp) | refine at_old (by simp <;> omega) ?_)
  have bC : Boxed W8 (s + 1) 58 (.int .u32 0) := by
    subst hs0 hW8; unfold Boxed; repeat (first | exact at_new (by simp) | refine at_old (by simp <;> omega) ?_)
  have bD : Boxed W8 (s + 2) 126 (.func (.func 154) #[] #[.pointer (some ⟨s, 0, none⟩), .pointer (some ⟨s + 1, 0, none⟩)]) := by
    subst hs0 hW8; unfold Boxed; repeat (first | exact at_new (by simp) | refine at_old (by simp <;> omega) ?_)
  have bO : Boxed W8 (s + 4) 22 (.slice (some ⟨s + 3, 0, none⟩) 0 n) := by
    subst hs0 hW8; unfold Boxed; repeat (first | exact at_new (by simp) | refine at_old (by simp <;> omega) ?_)
  have bA : Boxed W8 (s + 5) 22 (.slice A na ca) := by
    subst hs0 hW8; unfold Boxed; repeat (first | exact at_new (by simp) | refine at_old (by simp <;> omega) ?_)
  have bB : Boxed W8 (s + 6) 22 (.slice B nb cb) := by
    subst hs0 hW8; unfold Boxed; repeat (first | exact at_new (by simp) | refine at_old (by simp <;> omega) ?_)
  have bN : Boxed W8 (s + 7) 3 (.int .i64 n) := by
    subst hs0 hW8; unfold Boxed; repeat (first | exact at_new (by simp) | refine at_old (by simp <;> omega) ?_)
  have hR8 : W8.heap[s + 3]? = some (.cells (madeCells #[.int .u32 0] n) 58 (0, 0)) := by
    subst hs0 hW8; repeat (first | exact at_new (by simp) | refine at_old (by simp <;> omega) ?_)
  have hsz : W8.heap.size = s + 8 := by subst hs0 hW8; simp
  have hB0 : Below s w W8 := by
    subst hs0 hW8
    exact (((((((((Below.refl _ w).alloc (Nat.le_refl _) _).alloc (by simp) _).alloc (by simp; omega) _).alloc (by simp; omega) _).alloc (by simp; omega) _).alloc (by simp; omega) _).alloc (by simp; omega) _).alloc (by simp; omega) _)
  have hown0 : W8.ownsRow s 58 1 (.slice (some ⟨s + 3, 0, none⟩) 0 n) 0 [] :=
    ⟨rfl, .inr ⟨s + 3, n, _, rfl, by omega, hR8, Nat.zero_le _, by simp only [maxLen]; omega, by rw [size_madeCells, Nat.mul_one], by simp⟩⟩
  rw [← hs0]
  simp only [Nat.add_assoc, Nat.reduceAdd]
  rw [hW8]
  clear hW8
  have HS := Lib.hid hs0
  have hlt : ∀ (X : Option Addr) (l : List Nat), Rd w X l → ∀ ad i, X = some ad → i < l.length → (ad.add i).block < s := fun X l hX ad i e hi => by
    subst e
    obtain ⟨ad', e', hc⟩ := hX.get i hi
    cases e'
    rw [hs0]; exact World.block_lt_of_cell? w _ hc
  clear hs0
  refine wpIn_rangeFunc_ownF (Kp := KeepC (fun k => k < s ∨ s + 5 ≤ k ∧ k < s + 8)) (w0 := W8) rfl (by omega) (gf := 155) (lb := #[.pointer (some ⟨s + 7, 0, none⟩), .pointer (some ⟨s + 5, 0, none⟩), .pointer (some ⟨s + 6, 0, none⟩)]) rfl trivial (enters_of Tryz.func155 (by kernel_rfl) rfl)
    (pairs_stops (s + 5) (s + 6) (s + 7) _ A na ca a B nb cb b n W8 hn hna hnb hla hlb (.inr (by omega)) (.inr (by omega)) (fun ad i e hi => .inl (hlt A a hA ad i e hi)) (fun ad i e hi => .inl (hlt B b hB ad i e hi)) bA.cell bB.cell bN.cell (hA.below (HS.out ▸ hB0)) (hB.below (HS.out ▸ hB0)))
    KeepC.t KeepC.b (Below.refl _ _) (fun _ => rfl)
    (fun pre W => (Boxed W (s + 4) 22 (.slice (some ⟨s + 3, 0, none⟩) pre.length n) ∧ W.ownsRow s 58 1 (.slice (some ⟨s + 3, 0, none⟩) pre.length n) pre.length (vals (runS st a b pre).1)) ∧ Boxed W (s + 1) 58 (.int .u32 ((runS st a b pre).2 : Nat)) ∧
      Boxed W (s + 2) 126 (.func (.func 154) #[] #[.pointer (some ⟨s, 0, none⟩), .pointer (some ⟨s + 1, 0, none⟩)]) ∧ Boxed W s 119 (.func (.func fs) #[] #[]) ∧ Below s w W)
    (fun _ _ _ => False) ?own (fun _ _ _ _ _ hs _ _ => hs) ?start
    (fun x => { tmps := #[.slice A na ca, .slice B nb cb, .int .i64 n, .func (.func fs) #[] #[], undef, undef, undef, undef, .slice none 0 0, .pointer (some ⟨s + 2, 0, none⟩), .pointer (some ⟨s + 4, 0, none⟩), .int .u32 (gl a x : Nat), .int .u32 (gl b x : Nat),
      .func (.func fs) #[] #[], .func (.func 154) #[] #[.pointer (some ⟨s, 0, none⟩), .pointer (some ⟨s + 1, 0, none⟩)], .int .i64 n, .slice (some ⟨s + 3, 0, none⟩) 0 n, .slice A na ca, .slice B nb cb, .int .i64 n,
      .func (.func 155) #[] #[.pointer (some ⟨s + 7, 0, none⟩), .pointer (some ⟨s + 5, 0, none⟩), .pointer (some ⟨s + 6, 0, none⟩)], .int .u32 (gl a x : Nat), .int .u32 (gl b x : Nat), undef, undef, undef, undef, undef, undef, undef, undef, undef], defers := [] }) ?assign ?body ?done ?stop
  case own =>
    refine OwnFrom.and (Own.from ?_ _) (OwnFrom.and (Own.from (boxed_own _ _ _) _) (OwnFrom.and (Own.from (boxed_own _ _ _) _) (OwnFrom.and (Own.from (boxed_own _ _ _) _) (ownFrom_below (Nat.le_of_eq HS.out) (by omega)))))
    intro pre Y Z row h hg hr
    obtain ⟨h1, h2⟩ := h
    refine ⟨boxed_own _ _ (fun _ : Unit => _) () Y Z row h1 hg hr, h2.kept hg (.inr (fun e => ?_))⟩
    obtain ⟨o, ho, hc⟩ := hr (s + 3) e.symm
    rcases h2.2 with ⟨h, _⟩ | ⟨g, cap, cur, h, _, hgb, _⟩
    · cases h
    · cases h; rw [hgb] at ho; cases ho; cases hc
  case start => exact ⟨⟨bO, hown0⟩, bC, bD, bS, hB0⟩
  case assign =>
    intro l x W K hK
    gi_wp2
    exact hK
  case stop =>
    rintro D c pre W _ _ h _
    exact h.elim
  case done =>
    rintro D ys W hD rfl ⟨⟨hv, hrow⟩, _, _, _, hB⟩ hK
    rw [List.length_range] at hrow hv
    obtain ⟨X, cx, hXe, hcx, hcm, hrd⟩ := ownV_rd hrow
    cases hXe
    have hc := hv.cell
    have hmake := make_c (some ⟨s + 3, 0, none⟩) n n (runS st a b (List.range n)).1 W (by rw [runS_len, List.length_range]) hrd (runS_ok hs ha hb _).1 hn hcx
    have HM := Lib.hid hmake
    clear hmake hrow hrd hv
    gi_wp2_with (refine ⟨trivial, ?_⟩; gi_at_call 109; (with_reducible refine (callsIn_wide.2 (Hid.out HM)).mono ?_); rintro e w1 ⟨Y, cy, rfl, hY, hbY⟩)
    have hDlt : D < W.heap.size := (Array.getElem?_eq_some_iff.1 hK).1
    have hK1 := (hbY.block D hDlt).trans hK
    refine ⟨by simp, .inl ⟨_, _, rfl, run_takeDeferred hK1, ?_⟩⟩
    have hDs : s ≤ D := by omega
    have hWs : s ≤ W.heap.size := by omega
    have hp : Below s w (w1.putObj D (.deferred none)) := (hB.trans (hbY.mono hWs)).trans (belowK_b (w := W8) (by omega) w1 D _ _ hD hK1 rfl rfl)
    have hp2 : Below w.heap.size w (w1.putObj D (.deferred none)) := hp.mono (Nat.le_of_eq HS.out.symm)
    refine ⟨_, results_tmp rfl _ _ _, ?_⟩
    refine ⟨Y, cy, rfl, ⟨?_, hY.cap, hY.cmax⟩, hp2⟩
    rcases hY.rd with h | ⟨ad, rfl, h⟩
    · exact .inl h
    · exact .inr ⟨ad, rfl, fun i u hu => cell_kept (h i u hu) (grownBy_putObj' w1 D _) (fun r e => by cases e; exact ⟨_, hK1, rfl⟩)⟩
  case body =>
    rintro l pre x W ⟨⟨hv, hrow⟩, hC, hDo, hS, hB⟩ hlen
    have hx := ha.gl x
    have hy := hb.gl x
    have hc := (runS_ok hs ha hb pre).2
    have hcall := carried1_c fs st hs (gl a x) (gl b x) (runS st a b pre).2 s (s + 1) W.drew hx hy hc hS hC
    have hst := hs.2.1 _ _ _ hx hy hc
    generalize hr : (st (gl a x) (gl b x) (runS st a b pre).2).1 = r at *
    generalize hc' : (st (gl a x) (gl b x) (runS st a b pre).2).2 = c' at *
    have hrun := runS_snoc st a b pre x
    rw [hr, hc'] at hrun
    have HR := Lib.hid hrun
    have HC := Lib.hid hcall
    clear hr hc' hrun hcall hmk
    obtain ⟨W1, hW1⟩ : ∃ W1, W.drew.setCell ⟨s + 1, 0, none⟩ (.int .u32 (c' : Nat)) = W1 := ⟨_, rfl⟩
    rw [hW1] at HC
    have hlt4 := hv.lt
    have hzw : W1.heap.size = W.heap.size := by rw [← hW1]; exact World.size_setCell _ _ _
    have hB1 : Boxed W1 (s + 4) 22 (.slice (some ⟨s + 3, 0, none⟩) pre.length n) := by rw [← hW1]; exact Boxed.other (W := W.drew) hv (by omega) _
    have hCne : (Value.slice (some ⟨s + 3, 0, none⟩) pre.length n).ownBlock = none ∨ (Value.slice (some ⟨s + 3, 0, none⟩) pre.length n).ownBlock ≠ some (s + 1) := .inr (by simp [Value.ownBlock])
    have hrow1 : W1.ownsRow s 58 1 (.slice (some ⟨s + 3, 0, none⟩) pre.length n) pre.length (vals (runS st a b pre).1) := by
      rw [← hW1]
      exact World.ownsRow.kept (w := W.drew) hrow (grownBy_setCell' W.drew (s + 1) _) (hCne)
    gi_wp2_with (fail)
    refine wpIn_region_inv (fun D a' w' => ∃ u23 u24 u25 u26 u27 u28 u29 : Value,
      a' = { tmps := #[.slice A na ca, .slice B nb cb, .int .i64 n, .func (.func fs) #[] #[], undef, undef, undef, undef, .slice none 0 0, .pointer (some ⟨s + 2, 0, none⟩), .pointer (some ⟨s + 4, 0, none⟩), .int .u32 (gl a x : Nat), .int .u32 (gl b x : Nat),
        .func (.func fs) #[] #[], .func (.func 154) #[] #[.pointer (some ⟨s, 0, none⟩), .pointer (some ⟨s + 1, 0, none⟩)], .int .i64 n, .slice (some ⟨s + 3, 0, none⟩) 0 n, .slice A na ca, .slice B nb cb, .int .i64 n,
        .func (.func 155) #[] #[.pointer (some ⟨s + 7, 0, none⟩), .pointer (some ⟨s + 5, 0, none⟩), .pointer (some ⟨s + 6, 0, none⟩)], .int .u32 (gl a x : Nat), .int .u32 (gl b x : Nat), u23, u24, u25, u26, u27, u28, u29, undef, undef], defers := [] } ∧
      (D 0 = true → u23 = .slice (some ⟨s + 3, 0, none⟩) pre.length n) ∧ (D 1 = true → u24 = .func (.func 154) #[] #[.pointer (some ⟨s, 0, none⟩), .pointer (some ⟨s + 1, 0, none⟩)]) ∧ (D 2 = true → u25 = .int .u32 (gl a x : Nat)) ∧ (D 3 = true → u26 = .int .u32 (gl b x : Nat)) ∧
      (D 4 = true → u27 = .int .u32 (r : Nat)) ∧ (D 5 = true → u28 = .slice (some ⟨W1.heap.size, 0, none⟩) 1 1) ∧
      ((D 4 = false ∧ D 5 = false ∧ D 6 = false ∧ D 7 = false ∧ w' = W.drew) ∨ (D 1 = true ∧ D 2 = true ∧ D 3 = true ∧ D 4 = true ∧ D 5 = false ∧ D 6 = false ∧ D 7 = false ∧ w' = W1) ∨
       (D 1 = true ∧ D 2 = true ∧ D 3 = true ∧ D 4 = true ∧ D 5 = true ∧ D 6 = false ∧ D 7 = false ∧ w' = W1.alloc (.cells #[.int .u32 (r : Nat)] 58)) ∨
       (D 0 = true ∧ D 1 = true ∧ D 2 = true ∧ D 3 = true ∧ D 4 = true ∧ D 5 = true ∧ D 6 = true ∧ D 7 = false ∧ u29 = .slice (some ⟨s + 3, 0, none⟩) (pre.length + 1) n ∧ w'.ownsRow s 58 1 (.slice (some ⟨s + 3, 0, none⟩) (pre.length + 1) n) (pre.length + 1) (vals ((runS st a b pre).1 ++ [r])) ∧ (W1.alloc (.cells #[.int .u32 (r : Nat)] 58)).grownBy w' (some (s + 3))) ∨
       (D 0 = true ∧ D 1 = true ∧ D 2 = true ∧ D 3 = true ∧ D 4 = true ∧ D 5 = true ∧ D 6 = true ∧ D 7 = true ∧ ∃ w3, w' = w3.setCell ⟨s + 4, 0, none⟩ (.slice (some ⟨s + 3, 0, none⟩) (pre.length + 1) n) ∧ w3.ownsRow s 58 1 (.slice (some ⟨s + 3, 0, none⟩) (pre.length + 1) n) (pre.length + 1) (vals ((runS st a b pre).1 ++ [r])) ∧ (W1.alloc (.cells #[.int .u32 (r : Nat)] 58)).grownBy w3 (some (s + 3)))))
      (by kernel_rfl) (by kernel_rfl) ?init ?fin ?step
    case init => exact ⟨_, _, _, _, _, _, _, rfl, by simp, by simp, by simp, by simp, by simp, by simp, .inl ⟨rfl, rfl, rfl, rfl, rfl⟩⟩
    case fin =>
      rintro D a' w' ⟨u23, u24, u25, u26, u27, u28, u29, rfl, h0, h1, h2, h3, h4, h5, hw⟩ hall
      have d7 := hall 7 (by decide)
      obtain ⟨w3, rfl, hown3, hgrow⟩ : ∃ w3, w' = w3.setCell ⟨s + 4, 0, none⟩ (.slice (some ⟨s + 3, 0, none⟩) (pre.length + 1) n) ∧ w3.ownsRow s 58 1 (.slice (some ⟨s + 3, 0, none⟩) (pre.length + 1) n) (pre.length + 1) (vals ((runS st a b pre).1 ++ [r])) ∧ (W1.alloc (.cells #[.int .u32 (r : Nat)] 58)).grownBy w3 (some (s + 3)) := by
        rcases hw with h | h | h | h | ⟨_, _, _, _, _, _, _, _, h⟩
        · simp [d7] at h
        · simp [d7] at h
        · simp [d7] at h
        · simp [d7] at h
        · exact h
      have hC1 : Boxed W1 (s + 1) 58 (.int .u32 (c' : Nat)) := by rw [← hW1]; exact Boxed.set _ (W := W.drew) hC
      have hD1 : Boxed W1 (s + 2) 126 (.func (.func 154) #[] #[.pointer (some ⟨s, 0, none⟩), .pointer (some ⟨s + 1, 0, none⟩)]) := by rw [← hW1]; exact Boxed.other (W := W.drew) hDo (by omega) _
      have hS1 : Boxed W1 s 119 (.func (.func fs) #[] #[]) := by rw [← hW1]; exact Boxed.other (W := W.drew) hS (by omega) _
      have hK0 := KeepsOthers.setCell W.drew ⟨s + 1, 0, none⟩ (.int .u32 (c' : Nat))
      have hK1 : KeepsOthers W W1 := by rw [← hW1]; exact ⟨hK0.size, fun k o hk ho => hK0.same k o hk ho⟩
      have hKe1 : KeepC (fun k => k < s ∨ s + 5 ≤ k ∧ k < s + 8) W W1 := by
        rw [← hW1]
        intro p v hp hv
        rw [World.cell?_of_block (w := W) (a := p) (Below.heap_setCell W.drew ⟨s + 1, 0, none⟩ _ p.block (by simp; omega))]
        exact hv
      have hBe1 : Below s w W1 := by rw [← hW1]; exact hB.drew.setCell (p := ⟨s + 1, 0, none⟩) (by simp) _
      have hg : ∀ {B t v}, B ≠ s + 3 → Boxed W1 B t v → Boxed w3 B t v := fun hne h => (h.alloc _).kept hgrow (by simpa using hne)
      have b4 := hg (by omega) hB1
      show KeepsOthers W _ ∧ KeepC _ W _ ∧ _
      refine ⟨?_, ?_, ⟨⟨?_, ?_⟩, ?_, ?_, ?_, ?_⟩⟩
      · refine hK1.trans ((KeepsOthers.alloc _ _).trans ((KeepsOthers.of_grownBy hgrow fun j o ej hj => ?_).trans (KeepsOthers.setCell _ _ _)))
        cases ej
        have := (hrow1.alloc (.cells #[.int .u32 (r : Nat)] 58)).2
        rcases this with ⟨h, _⟩ | ⟨g, cap, cur, h, _, hgb, _⟩
        · cases h
        · cases h; rw [hgb] at hj; cases hj; rfl
      · intro p v hp hv
        have := hKe1 p v hp hv
        have hlt1 := World.block_lt_of_cell? W1 p this
        rw [World.cell?_of_block (w := w3) (a := p) (Below.heap_setCell w3 ⟨s + 4, 0, none⟩ _ p.block (by simp; omega))]
        refine hgrow.cell (a := p) ?_ (by simp; omega)
        exact cell_below ((Below.refl _ _).alloc (Nat.le_refl _) _) this
      · have := b4.set (.slice (some ⟨s + 3, 0, none⟩) (pre.length + 1) n)
        simpa using this
      · have := hown3.kept (grownBy_setCell' w3 (s + 4) (.slice (some ⟨s + 3, 0, none⟩) (pre.length + 1) n)) (.inr (by simp [Value.ownBlock]))
        rw [HR.out]
        simpa using this
      · rw [HR.out]; exact (hg (by omega) hC1).other (by omega) _
      · exact (hg (by omega) hD1).other (by omega) _
      · exact (hg (by omega) hS1).other (by omega) _
      · exact ((hBe1.alloc (by omega) _).grown hgrow (by simp; omega) (fun k e => by cases e; omega)).setCell (p := ⟨s + 4, 0, none⟩) (by simp) _
    case step =>
      rintro D a' w' i ⟨u23, u24, u25, u26, u27, u28, u29, rfl, h0, h1, h2, h3, h4, h5, hw⟩ hi hDi hdep
      obtain rfl | rfl | rfl | rfl | rfl | rfl | rfl | rfl : i = 0 ∨ i = 1 ∨ i = 2 ∨ i = 3 ∨ i = 4 ∨ i = 5 ∨ i = 6 ∨ i = 7 := by
        simp at hi; omega
      · simp only [hDi, Bool.false_eq_true, false_and, or_false] at hw
        have hcell : w'.cell? ⟨s + 4, 0, none⟩ = some (.slice (some ⟨s + 3, 0, none⟩) pre.length n) := by
          rcases hw with h | h | h
          · rw [h.2.2.2.2]; exact hv.cell
          · rw [h.2.2.2.2.2.2.2]; exact hB1.cell
          · rw [h.2.2.2.2.2.2.2]; exact (hB1.alloc _).cell
        refine wpOpIn_step rfl (fun K' hK' => ?_)
        go_simp
        refine hK' _ _ ?_
        refine ⟨_, _, _, _, _, _, _, rfl, fun _ => rfl, (by first | exact keepD (by decide) h1 | exact fun _ => rfl | exact fun _ => by simp [hzw]), (by first | exact keepD (by decide) h2 | exact fun _ => rfl | exact fun _ => by simp [hzw]), (by first | exact keepD (by decide) h3 | exact fun _ => rfl | exact fun _ => by simp [hzw]), (by first | exact keepD (by decide) h4 | exact fun _ => rfl | exact fun _ => by simp [hzw]), (by first | exact keepD (by decide) h5 | exact fun _ => rfl | exact fun _ => by simp [hzw]), ?_⟩
        rcases hw with h | h | h
        · exact .inl (by simpa using h)
        · exact .inr (.inl (by simpa using h))
        · exact .inr (.inr (.inl (by simpa using h)))
      · simp only [hDi, Bool.false_eq_true, false_and, and_false, or_false] at hw
        have hcell : w'.cell? ⟨s + 2, 0, none⟩ = some (.func (.func 154) #[] #[.pointer (some ⟨s, 0, none⟩), .pointer (some ⟨s + 1, 0, none⟩)]) := by
          rw [hw.2.2.2.2]; exact hDo.cell
        obtain ⟨e4, e5, e6, e7, rfl⟩ := hw
        refine wpOpIn_step rfl (fun K' hK' => ?_)
        go_simp
        refine hK' _ _ ?_
        exact ⟨_, _, _, _, _, _, _, rfl, (by first | exact keepD (by decide) h0 | exact fun _ => rfl | exact fun _ => by simp [hzw]), fun _ => rfl, (by first | exact keepD (by decide) h2 | exact fun _ => rfl | exact fun _ => by simp [hzw]), (by first | exact keepD (by decide) h3 | exact fun _ => rfl | exact fun _ => by simp [hzw]), (by first | exact keepD (by decide) h4 | exact fun _ => rfl | exact fun _ => by simp [hzw]), (by first | exact keepD (by decide) h5 | exact fun _ => rfl | exact fun _ => by simp [hzw]), .inl (by simp [e4, e5, e6, e7])⟩
      · simp only [hDi, Bool.false_eq_true, false_and, and_false, or_false] at hw
        obtain ⟨e4, e5, e6, e7, rfl⟩ := hw
        refine wpOpIn_step rfl (fun K' hK' => ?_)
        go_simp
        refine hK' _ _ ?_
        exact ⟨_, _, _, _, _, _, _, rfl, (by first | exact keepD (by decide) h0 | exact fun _ => rfl | exact fun _ => by simp [hzw]), (by first | exact keepD (by decide) h1 | exact fun _ => rfl | exact fun _ => by simp [hzw]), fun _ => rfl, (by first | exact keepD (by decide) h3 | exact fun _ => rfl | exact fun _ => by simp [hzw]), (by first | exact keepD (by decide) h4 | exact fun _ => rfl | exact fun _ => by simp [hzw]), (by first | exact keepD (by decide) h5 | exact fun _ => rfl | exact fun _ => by simp [hzw]), .inl (by simp [e4, e5, e6, e7])⟩
      · simp only [hDi, Bool.false_eq_true, false_and, and_false, or_false] at hw
        obtain ⟨e4, e5, e6, e7, rfl⟩ := hw
        refine wpOpIn_step rfl (fun K' hK' => ?_)
        go_simp
        refine hK' _ _ ?_
        exact ⟨_, _, _, _, _, _, _, rfl, (by first | exact keepD (by decide) h0 | exact fun _ => rfl | exact fun _ => by simp [hzw]), (by first | exact keepD (by decide) h1 | exact fun _ => rfl | exact fun _ => by simp [hzw]), (by first | exact keepD (by decide) h2 | exact fun _ => rfl | exact fun _ => by simp [hzw]), fun _ => rfl, (by first | exact keepD (by decide) h4 | exact fun _ => rfl | exact fun _ => by simp [hzw]), (by first | exact keepD (by decide) h5 | exact fun _ => rfl | exact fun _ => by simp [hzw]), .inl (by simp [e4, e5, e6, e7])⟩
      · have d1 := hdep _ rfl ⟨1, .data⟩ (by simp) rfl
        have d2 := hdep _ rfl ⟨2, .data⟩ (by simp) rfl
        have d3 := hdep _ rfl ⟨3, .data⟩ (by simp) rfl
        obtain rfl := h1 d1
        obtain rfl := h2 d2
        obtain rfl := h3 d3
        simp only [hDi, Bool.false_eq_true, false_and, and_false, or_false] at hw
        obtain ⟨_, e5, e6, e7, rfl⟩ := hw
        refine wpOpIn_step rfl (fun K' hK' => ?_)
        go_simp
        refine ⟨trivial, ?_⟩
        refine (CallsIn.inRound l (callsIn_wide.2 HC.out)).mono ?_
        rintro e w' ⟨rfl, rfl⟩
        refine hK' _ _ ?_
        exact ⟨_, _, _, _, _, _, _, rfl, (by first | exact keepD (by decide) h0 | exact fun _ => rfl | exact fun _ => by simp [hzw]), fun _ => rfl, fun _ => rfl, fun _ => rfl, fun _ => rfl, (by first | exact keepD (by decide) h5 | exact fun _ => rfl | exact fun _ => by simp [hzw]), .inr (.inl (by simp [d1, d2, d3, e5, e6, e7]))⟩
      · have d4 := hdep _ rfl ⟨4, .data⟩ (by simp) rfl
        obtain rfl := h4 d4
        simp only [hDi, d4, Bool.true_eq_false, Bool.false_eq_true, false_and, and_false, or_false, false_or, true_and] at hw
        obtain ⟨d1, d2, d3, e6, e7, rfl⟩ := hw
        refine wpOpIn_step rfl (fun K' hK' => ?_)
        go_simp
        refine hK' _ _ ?_
        exact ⟨_, _, _, _, _, _, _, rfl, (by first | exact keepD (by decide) h0 | exact fun _ => rfl | exact fun _ => by simp [hzw]), (by first | exact keepD (by decide) h1 | exact fun _ => rfl | exact fun _ => by simp [hzw]), (by first | exact keepD (by decide) h2 | exact fun _ => rfl | exact fun _ => by simp [hzw]), (by first | exact keepD (by decide) h3 | exact fun _ => rfl | exact fun _ => by simp [hzw]), fun _ => rfl, fun _ => by simp [hzw], .inr (.inr (.inl (by simp [d1, d2, d3, d4, e6, e7])))⟩
      · have d0 := hdep _ rfl ⟨0, .data⟩ (by simp) rfl
        have d5 := hdep _ rfl ⟨5, .data⟩ (by simp) rfl
        obtain rfl := h0 d0
        obtain rfl := h5 d5
        simp only [hDi, d5, Bool.true_eq_false, Bool.false_eq_true, false_and, and_false, or_false, false_or, true_and] at hw
        obtain ⟨d1, d2, d3, d4, e7, rfl⟩ := hw
        obtain ⟨w3, hrun, r1, r2⟩ := run_append_fits (P := Tryz.prog) (W1.alloc (.cells #[.int .u32 (r : Nat)] 58)) s 22 22 58 i0 1 Tryz.underlying22 hi' hz1 (s + 3) _ _ _ (hrow1.alloc _) ⟨W1.heap.size, 0, none⟩ 1 1 [.int .u32 (r : Nat)] rfl (cell_one_new _ _ _) (by simp [Value.oneCell']) (by omega)
        refine wpOpIn_step rfl (fun K' hK' => ?_)
        rw [if_pos (by simp [Region.wanted])]
        unfold Oper.wpIn
        refine ⟨by simp [Oper.about, resolve, Target.leads, Sem.run_pure], ?_⟩
        rw [Oper.semAt_plain (Fence.wide.inRound l) _ _ (by intro c hc'; cases hc')]
        simp [execOp, resolve, invoke, builtin, Act.eval, hrun, Result.andThen, Oper.uponIn]
        refine hK' _ _ ?_
        refine ⟨_, _, _, _, _, _, _, rfl, fun _ => rfl, (by first | exact keepD (by decide) h1 | exact fun _ => rfl | exact fun _ => by simp [hzw]), (by first | exact keepD (by decide) h2 | exact fun _ => rfl | exact fun _ => by simp [hzw]), (by first | exact keepD (by decide) h3 | exact fun _ => rfl | exact fun _ => by simp [hzw]), (by first | exact keepD (by decide) h4 | exact fun _ => rfl | exact fun _ => by simp [hzw]), fun _ => rfl, .inr (.inr (.inr (.inl (by simp [d0, d1, d2, d3, d4, d5, e7]; exact ⟨by rw [vals_append]; exact r1, r2⟩))))⟩
      · have d6 := hdep _ rfl ⟨6, .data⟩ (by simp) rfl
        simp only [hDi, d6, Bool.true_eq_false, Bool.false_eq_true, false_and, and_false, or_false, false_or, true_and] at hw
        obtain ⟨d0, d1, d2, d3, d4, d5, rfl, hown3, hgrow⟩ := hw
        have b4 : Boxed w' (s + 4) 22 _ := (hB1.alloc _).kept hgrow (by simp)
        have hc4 := b4.cell
        have hf4 := b4.frozen
        refine wpOpIn_step rfl (fun K' hK' => ?_)
        go_simp
        refine hK' _ _ ?_
        exact ⟨_, _, _, _, _, _, _, rfl, (by first | exact keepD (by decide) h0 | exact fun _ => rfl | exact fun _ => by simp [hzw]), (by first | exact keepD (by decide) h1 | exact fun _ => rfl | exact fun _ => by simp [hzw]), (by first | exact keepD (by decide) h2 | exact fun _ => rfl | exact fun _ => by simp [hzw]), (by first | exact keepD (by decide) h3 | exact fun _ => rfl | exact fun _ => by simp [hzw]), (by first | exact keepD (by decide) h4 | exact fun _ => rfl | exact fun _ => by simp [hzw]), (by first | exact keepD (by decide) h5 | exact fun _ => rfl | exact fun _ => by simp [hzw]), .inr (.inr (.inr (.inr (by simp [d0, d1, d2, d3, d4, d5, d6]; exact ⟨w', rfl, hown3, hgrow⟩))))⟩
end Go.Proofs.YtacjfpibilolnaaGreatDoor

/- The layer of naturals: sums, comparisons, differences. -/
set_option linter.unusedVariables false
set_option linter.unusedSimpArgs false
namespace Go.Proofs.YtacjfpibilolnaaGreatDoor
open Go.RowKit Go.Shelf

theorem val_take_any (l : List Nat) (k : Nat) : val (l.take (k + 1)) = val (l.take k) + 4294967296 ^ k * gl l k := by
  by_cases h : k < l.length
  · exact val_take_succ l k h
  · rw [List.take_of_length_le (by omega), List.take_of_length_le (by omega), gl_of_le (by omega)]; simp

def stA (x y c : Nat) : Nat × Nat := ((x + y + c) % 4294967296, (x + y + c) / 4294967296)
def stS (x y c : Nat) : Nat × Nat := (dif x y c, brw x y c)
theorem stepA : StepC 129 stA :=
  ⟨enters_of Tryz.func129 (by kernel_rfl) rfl, fun x y c hx hy hc => ⟨Nat.mod_lt _ (by decide), by show (x + y + c) / 4294967296 ≤ 1; omega⟩, fun x y c w hx hy hc => add32_c x y c w hx hy hc⟩
theorem runA (a b : List Nat) (n : Nat) : val (runS stA a b (List.range n)).1 + 4294967296 ^ n * (runS stA a b (List.range n)).2 = val (a.take n) + val (b.take n) := by
  induction n with
  | zero => simp [runS, val]
  | succ n ih =>
    rw [List.range_succ, runS_snoc, val_take_any, val_take_any, val_snoc, runS_len, List.length_range]
    simp only [stA]
    have e := Nat.div_add_mod (gl a n + gl b n + (runS stA a b (List.range n)).2) 4294967296
    generalize (gl a n + gl b n + (runS stA a b (List.range n)).2) / 4294967296 = q at *
    generalize (gl a n + gl b n + (runS stA a b (List.range n)).2) % 4294967296 = r at *
    generalize (runS stA a b (List.range n)).2 = c at *
    rw [Nat.pow_succ]
    grind
theorem runS_sub {fs : Nat} (a b : List Nat) (ha : Lim a) (hb : Lim b) (hs : StepC fs stS) (n : Nat) : val (runS stS a b (List.range n)).1 + val (b.take n) = val (a.take n) + 4294967296 ^ n * (runS stS a b (List.range n)).2 := by
  induction n with
  | zero => simp [runS, val]
  | succ n ih =>
    rw [List.range_succ, runS_snoc, val_take_any, val_take_any, val_snoc, runS_len, List.length_range]
    simp only [stS]
    have e := dif_eq (ha.gl n) (hb.gl n) (runS_ok hs ha hb (List.range n)).2
    generalize dif (gl a n) (gl b n) (runS stS a b (List.range n)).2 = q at *
    generalize brw (gl a n) (gl b n) (runS stS a b (List.range n)).2 = r at *
    generalize (runS stS a b (List.range n)).2 = c at *
    rw [Nat.pow_succ]
    grind
theorem stepS : StepC 133 stS :=
  ⟨enters_of Tryz.func133 (by kernel_rfl) rfl, fun x y c hx hy hc => ⟨dif_lt _ _ _, brw_le _ _ _⟩, fun x y c w hx hy hc => sub32_c x y c w hx hy hc⟩
theorem take_limbs {n k : Nat} (h : nl n ≤ k) : val ((limbs n).take k) = n := by rw [List.take_of_length_le h, val_limbs]

theorem add_val (a b m : Nat) (hm : max (nl a) (nl b) ≤ m) : val (runS stA (limbs a) (limbs b) (List.range (m + 1))).1 = a + b := by
  have e := runA (limbs a) (limbs b) (m + 1)
  rw [take_limbs (by omega), take_limbs (by omega)] at e
  have h1 : a < 4294967296 ^ m := nl_le.1 (by omega)
  have h2 : b < 4294967296 ^ m := nl_le.1 (by omega)
  rw [Nat.pow_succ] at e
  generalize 4294967296 ^ m = p at *
  generalize (runS stA (limbs a) (limbs b) (List.range (m + 1))).2 = q at *
  have h3 : q = 0 := by
    by_cases hq : q = 0
    · exact hq
    · have := Nat.mul_le_mul_left (p * 4294967296) (show 1 ≤ q by omega)
      omega
  rw [h3, Nat.mul_zero, Nat.add_zero] at e
  exact e
theorem sub_val (a b : Nat) (h : b ≤ a) : val (runS stS (limbs a) (limbs b) (List.range (nl a))).1 = a - b := by
  have e := runS_sub (limbs a) (limbs b) (lim_limbs a) (lim_limbs b) stepS (nl a)
  rw [take_limbs (Nat.le_refl _), take_limbs (nl_mono h)] at e
  have hl := val_lt (runS_ok stepS (lim_limbs a) (lim_limbs b) (List.range (nl a))).1
  rw [runS_len, List.length_range] at hl
  generalize 4294967296 ^ nl a = p at *
  generalize (runS stS (limbs a) (limbs b) (List.range (nl a))).2 = q at *
  have h3 : q = 0 := by
    by_cases hq : q = 0
    · exact hq
    · have := Nat.mul_le_mul_left p (show 1 ≤ q by omega)
      omega
  subst h3
  simp only [Nat.mul_zero, Nat.add_zero] at e
  omega

attribute [local go_sem] max2_i min2_i max_two min_two

set_option maxRecDepth 100000 in
set_option maxHeartbeats 400000 in
theorem add_c (A : Option Addr) (c a : Nat) (B : Option Addr) (d b : Nat) (w : World) (hA : NatV w A c a) (hB : NatV w B d b) (ha : nl a ≤ 1073741824) (hb : nl b ≤ 1073741824) :
    Calls Tryz.prog 107 #[.slice A (nl a) c, .slice B (nl b) d] w (RetN w (a + b)) := by
  have hc := all_c _ _ stepA A (nl a) c (limbs a) B (nl b) d (limbs b) (max (nl a) (nl b) + 1) w (by omega) rfl rfl (by omega) (by omega) hA.rd hB.rd (lim_limbs a) (lim_limbs b)
  rw [add_val a b _ (Nat.le_refl _)] at hc
  have HC := Lib.hid hc
  clear hc
  go_enter Tryz.func107, Tryz.ntmps107
  go_wp2_with (fail)
  rw [show (max (nl a : Int) (nl b : Int) + 1) = ((max (nl a) (nl b) + 1 : Nat) : Int) by omega]
  refine HC.out.mono ?_
  rintro e w1 ⟨X, cx, rfl, h1, h2⟩
  go_wp2_with (fail)
  go_ret
  exact ⟨X, cx, rfl, h1, h2⟩

def cmpN (a b : Nat) : Int := if a < b then -1 else if b < a then 1 else 0
theorem cmpN_lt {a b : Nat} (h : a < b) : cmpN a b = -1 := by simp [cmpN, h]
theorem cmpN_gt {a b : Nat} (h : b < a) : cmpN a b = 1 := by
  unfold cmpN; rw [if_neg (by omega), if_pos h]
theorem cmpN_eq {a b : Nat} (h : a = b) : cmpN a b = 0 := by simp [cmpN, h]
theorem cmpN_neg {a b : Nat} : cmpN a b < 0 ↔ a < b := by unfold cmpN; split <;> (try split) <;> omega
theorem cmpN_zero {a b : Nat} : cmpN a b = 0 ↔ a = b := by unfold cmpN; split <;> (try split) <;> omega

theorem split_at (l : List Nat) (k : Nat) (h : k < l.length) : val l = val (l.take k) + 4294967296 ^ k * gl l k + 4294967296 ^ (k + 1) * val (l.drop (k + 1)) := by
  conv => lhs; rw [← List.take_append_drop (k + 1) l]
  rw [val_append, val_take_succ l k h, List.length_take, Nat.min_eq_left (by omega)]
theorem drop_eq {l m : List Nat} (hl : l.length = m.length) {k : Nat} (h : ∀ j, k ≤ j → j < l.length → gl l j = gl m j) : l.drop k = m.drop k := by
  apply List.ext_getElem
  · simp [hl]
  · intro i h1 h2
    have h1' : k + i < l.length := by simp at h1; omega
    have := h (k + i) (by omega) h1'
    rw [gl_get h1', gl_get (by omega)] at this
    simpa using this
theorem val_lt_of {l m : List Nat} (hl : l.length = m.length) (ha : Lim l) {k : Nat} (hk : k < l.length) (h : ∀ j, k + 1 ≤ j → j < l.length → gl l j = gl m j) (hlt : gl l k < gl m k) : val l < val m := by
  have e1 := split_at l k hk
  have e2 := split_at m k (by omega)
  rw [drop_eq hl h] at e1
  have h1 := val_lt (ha.take k)
  rw [List.length_take, Nat.min_eq_left (by omega)] at h1
  have h2 : 4294967296 ^ k * gl l k + 4294967296 ^ k ≤ 4294967296 ^ k * gl m k := by
    rw [← Nat.mul_succ]; exact Nat.mul_le_mul_left _ hlt
  omega
theorem val_eq_of {l m : List Nat} (hl : l.length = m.length) (h : ∀ j, 0 ≤ j → j < l.length → gl l j = gl m j) : l = m := by
  have := drop_eq hl (k := 0) h
  simpa using this

theorem _root_.Go.RowKit.Below.drewN {B : Nat} {w W : World} (h : Below B w W) (n : Nat) : Below B w (W.drewN n) := ⟨h.os, h.tape, h.output, h.size, h.block⟩

set_option maxRecDepth 100000 in
set_option maxHeartbeats 1000000 in
theorem cmp_c (A : Option Addr) (c a : Nat) (B : Option Addr) (d b : Nat) (w : World) (hA : NatV w A c a) (hB : NatV w B d b) (ha : nl a ≤ 1099511627776) (hb : nl b ≤ 1099511627776) :
    Calls Tryz.prog 106 #[.slice A (nl a) c, .slice B (nl b) d] w fun e w' => e = .returned (.int .i64 (cmpN a b)) ∧ Below w.heap.size w w' := by
  by_cases hl : nl a = nl b
  · have fin : ∀ k, k < nl a → (∀ j, k + 1 ≤ j → j < nl a → gl (limbs a) j = gl (limbs b) j) → (gl (limbs a) k < gl (limbs b) k → cmpN a b = -1) ∧ (gl (limbs b) k < gl (limbs a) k → cmpN a b = 1) := fun k hk hj =>
      ⟨fun h => cmpN_lt (by have := val_lt_of (l := limbs a) (m := limbs b) hl (lim_limbs a) hk hj h; rwa [val_limbs, val_limbs] at this),
       fun h => cmpN_gt (by have := val_lt_of (l := limbs b) (m := limbs a) hl.symm (lim_limbs b) (k := k) (by unfold nl at *; omega) (fun j h1 h2 => (hj j h1 (by unfold nl at *; omega)).symm) h; rwa [val_limbs, val_limbs] at this)⟩
    have fin0 : (∀ j, 0 ≤ j → j < nl a → gl (limbs a) j = gl (limbs b) j) → cmpN a b = 0 := fun h => cmpN_eq (limbs_inj (val_eq_of hl h))
    have FIN := Lib.hid fin
    have FIN0 := Lib.hid fin0
    have hb1 : ((nl a : Int) != (nl b : Int)) = false := ineF (by omega)
    have hb2 : (nl a != nl b) = false := by simp [hl]
    have HL := Lib.hid hl
    clear fin fin0 hl
    go_enter Tryz.func106, Tryz.ntmps106
    go_wp2_with (fail)
    go_loopw [5] (fun i wr => ∃ k : Nat, i = .int .i64 ((k : Int) - 1) ∧ k ≤ nl a ∧ (∀ j, k ≤ j → j < nl a → gl (limbs a) j = gl (limbs b) j) ∧ ∃ m, wr = w.drewN m) (fun i wr => (intOf i + 1).toNat)
    case atStart => exact ⟨nl a, rfl, Nat.le_refl _, fun j h1 h2 => by omega, 0, rfl⟩
    case round =>
      obtain ⟨k, rfl, hk, hj, m, rfl⟩ := hrel
      have HJ := Lib.hid hj
      clear hj
      cases k with
      | zero =>
        go_wp2_with (fail)
        go_ret
        exact ⟨ret_int (FIN0.out HJ.out).symm, (Below.refl _ _).drewN _⟩
      | succ k =>
        rw [show (((k + 1 : Nat) : Int) - 1) = (k : Int) by omega]
        obtain ⟨ad, rfl, hcA⟩ := hA.rd.get k hk
        obtain ⟨bd, rfl, hcB⟩ := hB.rd.get k (by have := HL.out; unfold nl at *; omega)
        have i1 : k < nl a := hk
        have i2 : k < nl b := by have := HL.out; omega
        have hF := FIN.out k hk (fun j h1 h2 => HJ.out j h1 h2)
        obtain ⟨x, hx⟩ : ∃ x, gl (limbs a) k = x := ⟨_, rfl⟩
        obtain ⟨y, hy⟩ : ∃ y, gl (limbs b) k = y := ⟨_, rfl⟩
        rw [hx] at hcA
        rw [hy] at hcB
        rw [hx, hy] at hF
        have HF := Lib.hid hF
        have HX := Lib.hid hx
        have HY := Lib.hid hy
        clear hF hx hy
        rcases Nat.lt_trichotomy x y with h | h | h
        · have b1 : decide ((x : Int) < (y : Int)) = true := by simp; omega
          have b2 : decide (x < y) = true := by simp; omega
          have HV := Lib.hid (HF.out.1 h)
          clear h
          go_wp2_with (fail)
          go_quiet (fail)
          go_wp2_with (fail)
          go_ret
          exact ⟨ret_int HV.out.symm, ((Below.refl _ _).drewN _).drewN _⟩
        · have b1 : decide ((x : Int) < (y : Int)) = false := by simp; omega
          have b2 : decide (x < y) = false := by simp; omega
          have b3 : decide ((y : Int) < (x : Int)) = false := by simp; omega
          have b4 : decide (y < x) = false := by simp; omega
          have HV := Lib.hid h
          clear h
          go_wp2_with (fail)
          go_quiet (fail)
          go_wp2_with (fail)
          go_quiet (fail)
          go_wp2_with (fail)
          go_roundw
          case rel => exact ⟨k, by go_num, by omega, fun j h1 h2 => by
            by_cases e : j = k
            · rw [e, HX.out, HY.out, HV.out]
            · exact HJ.out j (by omega) h2, _, World.drewN_drewN .. ▸ World.drewN_drewN ..⟩
          case measure => simp [intOf] <;> omega
        · have b1 : decide ((x : Int) < (y : Int)) = false := by simp; omega
          have b2 : decide (x < y) = false := by simp; omega
          have b3 : decide ((y : Int) < (x : Int)) = true := by simp; omega
          have b4 : decide (y < x) = true := by simp; omega
          have HV := Lib.hid (HF.out.2 h)
          clear h
          go_wp2_with (fail)
          go_quiet (fail)
          go_wp2_with (fail)
          go_quiet (fail)
          go_wp2_with (fail)
          go_ret
          exact ⟨ret_int HV.out.symm, (((Below.refl _ _).drewN _).drewN _).drewN _⟩
  · have hb1 : ((nl a : Int) != (nl b : Int)) = true := ineT (by omega)
    have hb2 : (nl a != nl b) = true := by simp [hl]
    go_enter Tryz.func106, Tryz.ntmps106
    go_wp2_with (fail)
    go_ret
    refine ⟨ret_int ?_, Below.refl _ _⟩
    rcases Nat.lt_or_ge (nl a) (nl b) with h | h
    · rw [cmpN_lt (show a < b by have := lt_nl.1 h; have := nl_lt a; omega)]; omega
    · rw [cmpN_gt (show b < a by have := lt_nl.1 (show nl b < nl a by omega); have := nl_lt b; omega)]; omega

set_option maxRecDepth 100000 in
set_option maxHeartbeats 400000 in
theorem sub_c (A : Option Addr) (c a : Nat) (B : Option Addr) (d b : Nat) (w : World) (hA : NatV w A c a) (hB : NatV w B d b) (ha : nl a ≤ 1073741824) (hb : nl b ≤ 1073741824) (h : b ≤ a) :
    Calls Tryz.prog 119 #[.slice A (nl a) c, .slice B (nl b) d] w fun e w' => ∃ X cx, e = .returned (.tuple #[.slice X (nl (a - b)) cx, .bool true]) ∧ NatV w' X cx (a - b) ∧ Below w.heap.size w w' := by
  have hb1 : decide (cmpN a b < 0) = false := by rw [decide_eq_false_iff_not, cmpN_neg]; omega
  go_enter Tryz.func119, Tryz.ntmps119
  go_wp2_with (fail)
  refine (cmp_c A c a B d b w hA hB (by omega) (by omega)).mono ?_
  rintro e w1 ⟨rfl, hb1⟩
  have hA1 := hA.below hb1
  have hB1 := hB.below hb1
  have hc := all_c _ _ stepS A (nl a) c (limbs a) B (nl b) d (limbs b) (nl a) w1 (by omega) rfl rfl (by omega) (by omega) hA1.rd hB1.rd (lim_limbs a) (lim_limbs b)
  rw [sub_val a b h] at hc
  go_wp2_with (fail)
  refine hc.mono ?_
  rintro e w2 ⟨X, cx, rfl, h1, h2⟩
  go_wp2_with (fail)
  go_ret2
  exact ⟨X, cx, rfl, h1, hb1.trans (h2.mono hb1.size)⟩
end Go.Proofs.YtacjfpibilolnaaGreatDoor
