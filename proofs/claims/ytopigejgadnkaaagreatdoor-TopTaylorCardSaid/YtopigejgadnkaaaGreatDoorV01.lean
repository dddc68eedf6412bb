/- Plain numbers: a natural as a row of limbs (base 2^32), its limbs again, how many there are. No Go in it. -/
import Derived.WalkKit
import Derived.Test.YtopigejgadnkaaaGreatDoorProg
import Derived.BigQuiet
import Derived.Deep.QuietTactic
import Derived.Maps.AppendAt
import Derived.Deep.AppendLies
import Derived.WalkSpells
import Derived.DataElems
import Derived.Lib.Hide
import Derived.RangeFuncBox
import Derived.RangeFuncLeaves
import Derived.RangeFuncFrom
import Derived.Shelf.Abstract
import Derived.OwnWalkIn
import Derived.TacticsInMore
import Derived.LoopNIn
import Derived.LoopIn
import Derived.Stop.RegionWithIn
import Derived.OrdersIn
import Derived.RangeFuncNested
import Derived.Laws.EntriesVeiled
import Derived.Deep.RegionHeld3
import Derived.Laws.AppendOwnNone
import Derived.Shelf.Small.Bits
import Derived.Shelf.Spec.BitsCarry
import Derived.Shelf.Bits.Mul64
import Derived.Lib.ItoaNum
set_option maxRecDepth 100000
set_option maxHeartbeats 4000000
set_option linter.unusedVariables false
set_option linter.unusedSimpArgs false
namespace Go.Proofs.YtopigejgadnkaaaGreatDoor

def val : List Nat → Nat
  | [] => 0
  | x :: l => x + 4294967296 * val l
def Lim (l : List Nat) : Prop := ∀ x ∈ l, x < 4294967296
def limbs (n : Nat) : List Nat := if h : n = 0 then [] else n % 4294967296 :: limbs (n / 4294967296)
  termination_by n
  decreasing_by omega
def nl (n : Nat) : Nat := (limbs n).length

def gl (l : List Nat) (i : Nat) : Nat := l.getD i 0
theorem gl_eq (l : List Nat) (i : Nat) : gl l i = l.getD i 0 := rfl
theorem gl_of_le {l : List Nat} {i : Nat} (h : l.length ≤ i) : gl l i = 0 := by simp [gl, h]
theorem gl_get {l : List Nat} {i : Nat} (h : i < l.length) : gl l i = l[i] := by simp [gl, h]
theorem Lim.nil : Lim [] := fun _ h => by simp at h
theorem Lim.cons {x l} (h : x < 4294967296) (k : Lim l) : Lim (x :: l) := fun y hy => by
  rcases List.mem_cons.1 hy with rfl | hy
  · exact h
  · exact k y hy
theorem Lim.head {x l} (h : Lim (x :: l)) : x < 4294967296 := h x (by simp)
theorem Lim.tail {x l} (h : Lim (x :: l)) : Lim l := fun y hy => h y (by simp [hy])
theorem Lim.append {l m} (h : Lim l) (k : Lim m) : Lim (l ++ m) := fun y hy => by
  rcases List.mem_append.1 hy with hy | hy
  · exact h y hy
  · exact k y hy
theorem Lim.take {l} (h : Lim l) (n) : Lim (l.take n) := fun y hy => h y (List.mem_of_mem_take hy)
theorem Lim.drop {l} (h : Lim l) (n) : Lim (l.drop n) := fun y hy => h y (List.mem_of_mem_drop hy)
theorem Lim.getD {l} (h : Lim l) (i : Nat) : l.getD i 0 < 4294967296 := by
  by_cases hi : i < l.length
  · rw [List.getD_eq_getElem?_getD, List.getElem?_eq_getElem hi]; exact h _ (List.getElem_mem hi)
  · rw [List.getD_eq_getElem?_getD, List.getElem?_eq_none (by omega)]; simp
theorem Lim.set {l} (h : Lim l) (i x) (hx : x < 4294967296) : Lim (l.set i x) := fun y hy => by
  rcases List.mem_or_eq_of_mem_set hy with hy | rfl
  · exact h y hy
  · exact hx
theorem Lim.replicate (n x) (hx : x < 4294967296) : Lim (List.replicate n x) := fun y hy => by
  rw [(List.mem_replicate.1 hy).2]; exact hx

theorem val_append (l m : List Nat) : val (l ++ m) = val l + 4294967296 ^ l.length * val m := by
  induction l with
  | nil => simp [val]
  | cons x l ih => simp only [List.cons_append, val, ih, List.length_cons, Nat.pow_succ]; grind
theorem val_lt {l : List Nat} (h : Lim l) : val l < 4294967296 ^ l.length := by
  induction l with
  | nil => simp [val]
  | cons x l ih =>
    have := ih h.tail
    have := h.head
    simp only [val, List.length_cons, Nat.pow_succ]
    omega
theorem val_replicate (n : Nat) : val (List.replicate n 0) = 0 := by
  induction n with
  | zero => rfl
  | succ n ih => simp [List.replicate_succ, val, ih]
theorem val_snoc (l : List Nat) (x : Nat) : val (l ++ [x]) = val l + 4294967296 ^ l.length * x := by
  rw [val_append]; simp [val]
theorem val_take {l : List Nat} (h : Lim l) (i : Nat) : val (l.take i) = val l % 4294967296 ^ i := by
  by_cases hi : i ≤ l.length
  · have e : val l = val (l.take i) + 4294967296 ^ i * val (l.drop i) := by
      conv => lhs; rw [← List.take_append_drop i l]
      rw [val_append, List.length_take, Nat.min_eq_left hi]
    have hl := val_lt (h.take i)
    rw [List.length_take, Nat.min_eq_left hi] at hl
    rw [e, Nat.add_mul_mod_self_left, Nat.mod_eq_of_lt hl]
  · rw [List.take_of_length_le (by omega), Nat.mod_eq_of_lt]
    exact Nat.lt_of_lt_of_le (val_lt h) (Nat.pow_le_pow_right (by decide) (by omega))
theorem val_getD {l : List Nat} (h : Lim l) (i : Nat) : l.getD i 0 = val l / 4294967296 ^ i % 4294967296 := by
  induction l generalizing i with
  | nil => simp [val]
  | cons x l ih =>
    have hx := h.head
    cases i with
    | zero => simp only [List.getD_cons_zero, val, Nat.pow_zero, Nat.div_one]; omega
    | succ i =>
      rw [List.getD_cons_succ, ih h.tail, val, Nat.pow_succ, Nat.mul_comm (4294967296 ^ i), ← Nat.div_div_eq_div_mul]
      congr 2
      omega
theorem val_set {l : List Nat} (i x : Nat) (hi : i < l.length) : val (l.set i x) + 4294967296 ^ i * l.getD i 0 = val l + 4294967296 ^ i * x := by
  induction l generalizing i with
  | nil => simp at hi
  | cons y l ih =>
    cases i with
    | zero => simp [val]; omega
    | succ i =>
      have := ih i (by simpa using hi)
      simp only [List.set_cons_succ, val, List.getD_cons_succ, Nat.pow_succ]
      grind

theorem limbs_zero : limbs 0 = [] := by rw [limbs]; simp
theorem limbs_pos {n : Nat} (h : n ≠ 0) : limbs n = n % 4294967296 :: limbs (n / 4294967296) := by rw [limbs]; simp [h]
theorem val_limbs (n : Nat) : val (limbs n) = n := by
  induction n using Nat.strongRecOn with
  | _ n ih =>
    by_cases h : n = 0
    · subst h; rw [limbs_zero]; rfl
    · rw [limbs_pos h, val, ih (n / 4294967296) (by omega)]; omega
theorem lim_limbs (n : Nat) : Lim (limbs n) := by
  induction n using Nat.strongRecOn with
  | _ n ih =>
    by_cases h : n = 0
    · subst h; rw [limbs_zero]; exact Lim.nil
    · rw [limbs_pos h]; exact Lim.cons (by omega) (ih _ (by omega))
theorem limbs_val {l : List Nat} (h : Lim l) (hl : l = [] ∨ l.getD (l.length - 1) 0 ≠ 0) : limbs (val l) = l := by
  induction l with
  | nil => exact limbs_zero
  | cons x l ih =>
    have hx := h.head
    have e1 : (x + 4294967296 * val l) % 4294967296 = x := by omega
    have e2 : (x + 4294967296 * val l) / 4294967296 = val l := by omega
    cases l with
    | nil =>
      have : x ≠ 0 := by simpa using hl
      rw [val, limbs_pos (by omega), e1, e2]; simp [val, limbs_zero]
    | cons y l =>
      have ih' := ih h.tail (.inr (by rcases hl with hl | hl; · simp at hl
                                      · simpa using hl))
      have hne : val (y :: l) ≠ 0 := by
        intro e; rw [e, limbs_zero] at ih'; simp at ih'
      rw [val, limbs_pos (by omega), e1, e2, ih']
theorem limbs_last (n : Nat) (h : n ≠ 0) : (limbs n).getD (nl n - 1) 0 ≠ 0 := by
  induction n using Nat.strongRecOn with
  | _ n ih =>
    unfold nl
    rw [limbs_pos h]
    by_cases h2 : n / 4294967296 = 0
    · rw [h2, limbs_zero]; simp; omega
    · have := ih (n / 4294967296) (by omega) h2
      unfold nl at this
      have hp : 0 < (limbs (n / 4294967296)).length := by rw [limbs_pos h2]; simp
      simp only [List.length_cons]
      rw [show (limbs (n / 4294967296)).length + 1 - 1 = ((limbs (n / 4294967296)).length - 1) + 1 by omega, List.getD_cons_succ]
      exact this
theorem limbs_inj {a b : Nat} (h : limbs a = limbs b) : a = b := by rw [← val_limbs a, h, val_limbs]
theorem limbs_getD (n i : Nat) : (limbs n).getD i 0 = n / 4294967296 ^ i % 4294967296 := by rw [val_getD (lim_limbs n), val_limbs]
theorem nl_zero : nl 0 = 0 := by simp [nl, limbs_zero]
theorem nl_lt (n : Nat) : n < 4294967296 ^ nl n := by have := val_lt (lim_limbs n); rwa [val_limbs] at this
theorem nl_le {n k : Nat} : nl n ≤ k ↔ n < 4294967296 ^ k := by
  constructor
  · intro h; exact Nat.lt_of_lt_of_le (nl_lt n) (Nat.pow_le_pow_right (by decide) h)
  · induction k generalizing n with
    | zero => intro h; obtain rfl : n = 0 := by simpa using h
              simp [nl_zero]
    | succ k ih =>
      intro h
      by_cases h0 : n = 0
      · subst h0; simp [nl_zero]
      · have := ih (n := n / 4294967296) (by rw [Nat.pow_succ] at h; omega)
        unfold nl at *
        rw [limbs_pos h0]; simp; omega
theorem lt_nl {n k : Nat} : k < nl n ↔ 4294967296 ^ k ≤ n := by
  have := @nl_le n k; omega
theorem nl_pos {n : Nat} : 0 < nl n ↔ n ≠ 0 := by rw [lt_nl]; simp; omega
theorem nl_eq_zero {n : Nat} : nl n = 0 ↔ n = 0 := by have := @nl_pos n; omega
theorem nl_mono {a b : Nat} (h : a ≤ b) : nl a ≤ nl b := nl_le.2 (Nat.lt_of_le_of_lt h (nl_lt b))
theorem nl_ge {n : Nat} (h : n ≠ 0) : 4294967296 ^ (nl n - 1) ≤ n := lt_nl.1 (by have := nl_pos.2 h; omega)
theorem nl_mul (a b : Nat) : nl (a * b) ≤ nl a + nl b := by
  rw [nl_le, Nat.pow_add]
  by_cases ha : a = 0
  · subst ha; simp only [Nat.zero_mul]; exact Nat.mul_pos (Nat.pow_pos (by decide)) (Nat.pow_pos (by decide))
  · exact Nat.mul_lt_mul'' (nl_lt a) (nl_lt b)
theorem nl_add (a b : Nat) : nl (a + b) ≤ max (nl a) (nl b) + 1 := by
  have h1 := nl_le.1 (Nat.le_max_left (nl a) (nl b))
  have h2 := nl_le.1 (Nat.le_max_right (nl a) (nl b))
  rw [nl_le, Nat.pow_succ]; omega
theorem nl_sub (a b : Nat) : nl (a - b) ≤ nl a := nl_mono (Nat.sub_le _ _)
theorem pow32 (k : Nat) : 2 ^ (32 * k) = 4294967296 ^ k := by rw [Nat.pow_mul]
theorem nl_two_pow (k : Nat) : nl (2 ^ k) = k / 32 + 1 := by
  have h1 : nl (2 ^ k) ≤ k / 32 + 1 := by
    rw [nl_le, ← pow32]; exact Nat.pow_lt_pow_right (by decide) (by omega)
  have h2 : k / 32 < nl (2 ^ k) := by
    rw [lt_nl, ← pow32]; exact Nat.pow_le_pow_right (by decide) (by omega)
  omega
theorem nl_shl (a k : Nat) : nl (a * 2 ^ k) ≤ nl a + k / 32 + 1 := by
  have := nl_mul a (2 ^ k); rw [nl_two_pow] at this; omega
theorem nl_div (a b : Nat) : nl (a / b) ≤ nl a := nl_mono (Nat.div_le_self _ _)
theorem nl_mod_le (a b : Nat) : nl (a % b) ≤ nl a := nl_mono (Nat.mod_le _ _)
theorem nl_one : nl 1 = 1 := by simpa using nl_two_pow 0
theorem nl_shr32 (a k : Nat) : nl (a / 2 ^ (32 * k)) ≤ nl a - k := by
  rw [nl_le, ← pow32]
  by_cases h : k ≤ nl a
  · rw [Nat.div_lt_iff_lt_mul (Nat.pow_pos (by decide)), ← Nat.pow_add, show 32 * (nl a - k) + 32 * k = 32 * nl a by omega, pow32]; exact nl_lt a
  · rw [Nat.div_eq_of_lt]
    · exact Nat.pow_pos (by decide)
    · rw [pow32]; exact nl_le.1 (by omega)

theorem Lim.gl {l} (h : Lim l) (i : Nat) : gl l i < 4294967296 := h.getD i
theorem val_gl {l : List Nat} (h : Lim l) (i : Nat) : gl l i = val l / 4294967296 ^ i % 4294967296 := val_getD h i
theorem limbs_gl (n i : Nat) : gl (limbs n) i = n / 4294967296 ^ i % 4294967296 := limbs_getD n i
theorem take_snoc (l : List Nat) (k : Nat) (h : k < l.length) : l.take (k + 1) = l.take k ++ [gl l k] := by
  rw [List.take_succ_eq_append_getElem h, gl_get h]
theorem val_take_succ (l : List Nat) (k : Nat) (h : k < l.length) : val (l.take (k + 1)) = val (l.take k) + 4294967296 ^ k * gl l k := by
  rw [take_snoc l k h, val_snoc, List.length_take, Nat.min_eq_left (by omega)]
theorem take_make {l : List Nat} (hL : Lim l) {k : Nat} (hk : k ≤ l.length) (h0 : ∀ i, k ≤ i → i < l.length → gl l i = 0) (h1 : k = 0 ∨ gl l (k - 1) ≠ 0) : l.take k = limbs (val l) := by
  have e : val l = val (l.take k) := by
    have h2 : ∀ m : List Nat, (∀ i, i < m.length → gl m i = 0) → val m = 0 := by
      intro m
      induction m with
      | nil => intro _; rfl
      | cons x m ih =>
        intro hm
        have := hm 0 (by simp)
        have h3 := ih (fun i hi => by have := hm (i + 1) (by simpa using hi); simpa [Go.Proofs.YtopigejgadnkaaaGreatDoor.gl] using this)
        simp only [Go.Proofs.YtopigejgadnkaaaGreatDoor.gl, List.getD_cons_zero] at this
        simp [val, this, h3]
    have h3 : val (l.drop k) = 0 := h2 _ (fun i hi => by
      have := h0 (k + i) (by omega) (by simp at hi; omega)
      simpa [Go.Proofs.YtopigejgadnkaaaGreatDoor.gl, List.getD_eq_getElem?_getD] using this)
    conv => lhs; rw [← List.take_append_drop k l]
    rw [val_append, h3]; simp
  rw [e, limbs_val (hL.take k)]
  rcases h1 with rfl | h1
  · exact .inl (by simp)
  · by_cases hk0 : k = 0
    · subst hk0; exact .inl (by simp)
    · refine .inr ?_
      rw [List.length_take, Nat.min_eq_left hk]
      simpa [Go.Proofs.YtopigejgadnkaaaGreatDoor.gl, List.getD_eq_getElem?_getD, List.getElem?_take, show k - 1 < k by omega] using h1

def sg (z : Int) : Bool := decide (z < 0)
def mg (z : Int) : Nat := z.natAbs
theorem sg_t {z : Int} (h : z < 0) : sg z = true := decide_eq_true h
theorem sg_f {z : Int} (h : 0 ≤ z) : sg z = false := decide_eq_false (by omega)
theorem mg_neg (z : Int) : mg (-z) = mg z := Int.natAbs_neg z
theorem mg_nat (n : Nat) : mg (n : Int) = n := Int.natAbs_natCast n
theorem mg_zero {z : Int} : mg z = 0 ↔ z = 0 := Int.natAbs_eq_zero
theorem mg_pos {z : Int} : 0 < mg z ↔ z ≠ 0 := by unfold mg; omega
theorem mg_mul (x y : Int) : mg (x * y) = mg x * mg y := Int.natAbs_mul x y

def v2f : Nat → Nat → Nat
  | 0, _ => 0
  | f + 1, a => if a % 2 = 0 then v2f f (a / 2) + 1 else 0
def v2 (a : Nat) : Nat := if a = 0 then 0 else v2f a a
theorem v2f_spec : ∀ f a, 0 < a → a ≤ f → ∃ b, a = 2 ^ v2f f a * b ∧ b % 2 = 1
  | 0, a, h, k => by omega
  | f + 1, a, h, k => by
    unfold v2f
    split
    · obtain ⟨b, h1, h2⟩ := v2f_spec f (a / 2) (by omega) (by omega)
      refine ⟨b, ?_, h2⟩
      rw [Nat.pow_succ, Nat.mul_right_comm, ← h1]; omega
    · exact ⟨a, by rw [Nat.pow_zero, Nat.one_mul], by omega⟩
theorem v2_spec {a : Nat} (h : a ≠ 0) : ∃ b, a = 2 ^ v2 a * b ∧ b % 2 = 1 := by
  unfold v2; rw [if_neg h]; exact v2f_spec a a (by omega) (Nat.le_refl _)
theorem pow2_odd {i j b c : Nat} (h : 2 ^ i * b = 2 ^ j * c) (hb : b % 2 = 1) (hc : c % 2 = 1) : i = j ∧ b = c := by
  rcases Nat.lt_trichotomy i j with k | k | k
  · exfalso
    obtain ⟨d, rfl⟩ : ∃ d, j = i + (d + 1) := ⟨j - i - 1, by omega⟩
    rw [Nat.pow_add, Nat.mul_assoc] at h
    have := Nat.eq_of_mul_eq_mul_left (Nat.two_pow_pos i) h
    rw [Nat.pow_succ, Nat.mul_right_comm] at this
    omega
  · subst k
    exact ⟨rfl, Nat.eq_of_mul_eq_mul_left (Nat.two_pow_pos i) h⟩
  · exfalso
    obtain ⟨d, rfl⟩ : ∃ d, i = j + (d + 1) := ⟨i - j - 1, by omega⟩
    rw [Nat.pow_add, Nat.mul_assoc] at h
    have := Nat.eq_of_mul_eq_mul_left (Nat.two_pow_pos j) h.symm
    rw [Nat.pow_succ, Nat.mul_right_comm] at this
    omega
theorem v2_eq {a k b : Nat} (h : a = 2 ^ k * b) (hb : b % 2 = 1) : v2 a = k := by
  have h0 : a ≠ 0 := by rw [h]; exact Nat.mul_ne_zero (Nat.pos_iff_ne_zero.1 (Nat.two_pow_pos k)) (by omega)
  obtain ⟨c, h1, h2⟩ := v2_spec h0
  exact (pow2_odd (h1.symm.trans h) h2 hb).1
theorem v2_lt {a : Nat} (h : a ≠ 0) : 2 ^ v2 a ≤ a := by
  obtain ⟨b, h1, h2⟩ := v2_spec h
  conv => rhs; rw [h1]
  exact Nat.le_mul_of_pos_right _ (by omega)

def dm (m : Int) : Int := m / 2 ^ v2 (mg m)
def de (m e : Int) : Int := if m = 0 then 0 else e + v2 (mg m)
theorem dm_spec (m : Int) : m = dm m * 2 ^ v2 (mg m) ∧ (m ≠ 0 → dm m % 2 = 1) := by
  by_cases h : m = 0
  · subst h
    exact ⟨by simp [dm], fun h => absurd rfl h⟩
  · obtain ⟨b, h1, h2⟩ := v2_spec (a := mg m) (by unfold mg; omega)
    have hd : (2 ^ v2 (mg m) : Int) ∣ m := by
      rw [← Int.dvd_natAbs]
      refine ⟨(b : Int), ?_⟩
      have : ((mg m : Nat) : Int) = ((2 ^ v2 (mg m) * b : Nat) : Int) := by rw [← h1]
      rw [Int.natCast_mul, Int.natCast_pow] at this
      exact this
    have h3 : m = dm m * 2 ^ v2 (mg m) := (Int.ediv_mul_cancel hd).symm
    refine ⟨h3, fun _ => ?_⟩
    have h4 : mg m = mg (dm m) * 2 ^ v2 (mg m) := by
      have := congrArg mg h3
      rw [mg_mul] at this
      have e : mg ((2 : Int) ^ v2 (mg m)) = 2 ^ v2 (mg m) := by unfold mg; rw [Int.natAbs_pow]; rfl
      rw [e] at this; exact this
    have h5 : b = mg (dm m) := by
      have h6 : 2 ^ v2 (mg m) * b = 2 ^ v2 (mg m) * mg (dm m) := by rw [← h1, Nat.mul_comm _ (mg (dm m))]; exact h4
      exact Nat.eq_of_mul_eq_mul_left (Nat.two_pow_pos _) h6
    unfold mg at h5
    omega
def Nz (m e : Int) : Prop := m % 2 = 1 ∨ m = 0 ∧ e = 0
theorem nz_make (m e : Int) : Nz (dm m) (de m e) := by
  by_cases h : m = 0
  · subst h; exact .inr ⟨by simp [dm], by simp [de]⟩
  · exact .inl ((dm_spec m).2 h)
def dval (m e : Int) : Rat := (m : Rat) * (2 : Rat) ^ e
theorem two_ne : (2 : Rat) ≠ 0 := by decide
theorem zp_pos (e : Int) : (0 : Rat) < (2 : Rat) ^ e := Rat.zpow_pos (by decide)
theorem zp_add (i j : Int) : (2 : Rat) ^ (i + j) = (2 : Rat) ^ i * (2 : Rat) ^ j := Rat.zpow_add two_ne i j
theorem zp_nat (n : Nat) : (2 : Rat) ^ (n : Int) = ((2 ^ n : Nat) : Rat) := by
  rw [Rat.zpow_natCast]
  induction n with
  | zero => rfl
  | succ n ih => rw [Rat.pow_succ, ih, Nat.pow_succ, Rat.natCast_mul]; rfl
theorem zp_neg (n : Int) : (2 : Rat) ^ (-n) = ((2 : Rat) ^ n)⁻¹ := Rat.zpow_neg 2 n
theorem dval_zero (e : Int) : dval 0 e = 0 := by unfold dval; simp
theorem dval_shift (m e : Int) (k : Nat) : dval (m * 2 ^ k) e = dval m (e + k) := by
  unfold dval
  rw [Int.add_comm, zp_add, zp_nat, Rat.intCast_mul]
  rw [← Rat.mul_assoc]
  congr 2
theorem dval_make (m e : Int) : dval (dm m) (de m e) = dval m e := by
  by_cases h : m = 0
  · subst h; rw [show dm 0 = 0 by simp [dm], dval_zero, dval_zero]
  · have := (dm_spec m).1
    conv => rhs; rw [this]
    rw [dval_shift]; unfold de; rw [if_neg h]
theorem dval_eq_zero {m e : Int} : dval m e = 0 ↔ m = 0 := by
  unfold dval
  rw [Rat.mul_eq_zero]
  constructor
  · rintro (h | h)
    · exact Rat.intCast_eq_zero_iff.1 h
    · exact absurd h (Rat.ne_of_gt (zp_pos e))
  · intro h; subst h; exact .inl rfl
theorem dval_inj {m n e : Int} (h : dval m e = dval n e) : m = n := by
  unfold dval at h
  have h2 : (m : Rat) * 2 ^ e * (2 ^ e)⁻¹ = (n : Rat) * 2 ^ e * (2 ^ e)⁻¹ := by rw [h]
  rw [Rat.mul_assoc, Rat.mul_assoc, Rat.mul_inv_cancel _ (Rat.ne_of_gt (zp_pos e)), Rat.mul_one, Rat.mul_one] at h2
  exact Rat.intCast_inj.1 h2
theorem odd_shift {m n : Int} {k : Nat} (h : m = n * 2 ^ k) (hm : m % 2 = 1) : k = 0 := by
  cases k with
  | zero => rfl
  | succ k =>
    rw [Int.pow_succ, ← Int.mul_assoc] at h
    omega
theorem dval_uniq {m e n f : Int} (h1 : Nz m e) (h2 : Nz n f) (h : dval m e = dval n f) : m = n ∧ e = f := by
  rcases h1 with h1 | ⟨rfl, rfl⟩
  · rcases h2 with h2 | ⟨rfl, rfl⟩
    · rcases Int.le_total e f with k | k
      · obtain ⟨d, hd⟩ : ∃ d : Nat, f = e + d := ⟨(f - e).toNat, by omega⟩
        subst hd
        rw [← dval_shift] at h
        have h3 := dval_inj h
        have h4 := odd_shift h3 h1
        subst h4
        exact ⟨by simpa using h3, by simp⟩
      · obtain ⟨d, hd⟩ : ∃ d : Nat, e = f + d := ⟨(e - f).toNat, by omega⟩
        subst hd
        rw [← dval_shift] at h
        have h3 := dval_inj h
        have h4 := odd_shift h3.symm h2
        subst h4
        exact ⟨by simpa using h3, by simp⟩
    · rw [dval_zero] at h
      have := dval_eq_zero.1 h
      omega
  · rw [dval_zero] at h
    have := dval_eq_zero.1 h.symm
    rcases h2 with h2 | ⟨_, rfl⟩
    · omega
    · exact ⟨this.symm, rfl⟩
theorem dvd_two_pow {d n : Nat} (h : d ∣ 2 ^ n) : ∃ k, d = 2 ^ k := by
  have hd : d ≠ 0 := fun e => by subst e; have := Nat.eq_zero_of_zero_dvd h; have := Nat.two_pow_pos n; omega
  obtain ⟨b, h1, h2⟩ := v2_spec hd
  have hb : b ∣ 2 ^ n := Nat.dvd_trans ⟨2 ^ v2 d, by rw [Nat.mul_comm]; exact h1⟩ h
  have hc : Nat.Coprime b (2 ^ n) := Nat.Coprime.pow_right n (by
    unfold Nat.Coprime
    rw [Nat.gcd_comm, Nat.gcd_rec, h2]; rfl)
  have h3 : b = 1 := Nat.Coprime.eq_one_of_dvd hc hb
  exact ⟨v2 d, by rw [h3, Nat.mul_one] at h1; exact h1⟩
def Dyd (q : Rat) : Prop := ∃ m e, q = dval m e
def dmn (q : Rat) : Int := dm q.num
def dex (q : Rat) : Int := de q.num (-(v2 q.den : Int))
theorem dval_den (m : Int) (n : Nat) : dval m (-(n : Int)) = mkRat m (2 ^ n) := by
  unfold dval
  rw [zp_neg, zp_nat, Rat.mkRat_eq_div, Rat.div_def]
theorem dyd_den {q : Rat} (h : Dyd q) : q.den = 2 ^ v2 q.den := by
  obtain ⟨m, e, rfl⟩ := h
  have key : ∀ (m : Int) (n : Nat), ∃ k, (mkRat m (2 ^ n)).den = 2 ^ k := by
    intro m n
    rw [Rat.den_mkRat, if_neg (Nat.pos_iff_ne_zero.1 (Nat.two_pow_pos n))]
    have h1 : 2 ^ n / (2 ^ n).gcd m.natAbs ∣ 2 ^ n := Nat.div_dvd_of_dvd (Nat.gcd_dvd_left _ _)
    exact dvd_two_pow h1
  have h2 : ∃ k, (dval m e).den = 2 ^ k := by
    rcases Int.le_total 0 e with h | h
    · obtain ⟨n, rfl⟩ := Int.eq_ofNat_of_zero_le h
      have : dval m (n : Int) = ((m * 2 ^ n : Int) : Rat) := by
        have h1 := dval_shift m 0 n
        rw [Int.zero_add] at h1
        rw [← h1]; unfold dval; rw [Rat.zpow_zero, Rat.mul_one]
      rw [this]
      exact ⟨0, by rw [Rat.den_intCast, Nat.pow_zero]⟩
    · obtain ⟨n, hn⟩ := Int.eq_ofNat_of_zero_le (show 0 ≤ -e by omega)
      have : e = -(n : Int) := by omega
      rw [this, dval_den]
      exact key m n
  obtain ⟨k, hk⟩ := h2
  rw [hk, v2_eq (k := k) (b := 1) (by rw [Nat.mul_one]) rfl]
theorem dval_q {q : Rat} (h : Dyd q) : dval (dmn q) (dex q) = q := by
  have h1 := dyd_den h
  unfold dmn dex
  rw [dval_make, dval_den, ← h1, Rat.mkRat_self]
theorem nz_q (q : Rat) : Nz (dmn q) (dex q) := nz_make _ _
theorem dyd_val (m e : Int) : Dyd (dval m e) := ⟨m, e, rfl⟩
theorem make_form (m e : Int) : dm m = dmn (dval m e) ∧ de m e = dex (dval m e) :=
  dval_uniq (nz_make m e) (nz_q _) (by rw [dval_make, dval_q (dyd_val m e)])
theorem form_of_nz {m e : Int} (h : Nz m e) : dmn (dval m e) = m ∧ dex (dval m e) = e :=
  dval_uniq (nz_q _) h (dval_q (dyd_val m e))
def upw (neg odd : Bool) (half : Int) (dir : Int) : Bool :=
  if dir = 0 then false else if dir = 1 then true else if dir = 2 then neg else if dir = 3 then !neg else decide (0 < half) || (decide (half = 0) && odd)
def ovr (a b : Int) (dir : Int) : Int := if a % b = 0 then a / b else if upw (sg a) (decide (a / b % 2 = 1)) (2 * (a % b) - b) dir then a / b + 1 else a / b
def rnd (dir : Int) (x : Rat) : Int :=
  if dir = 0 ∨ dir = 2 ∧ ¬ x < 0 ∨ dir = 3 ∧ x < 0 then x.floor
  else if dir ≠ 4 then x.ceil
  else if x - x.floor < x.ceil - x ∨ x - x.floor = x.ceil - x ∧ x.floor % 2 = 0 then x.floor else x.ceil
theorem floor_eq {x : Rat} {n : Int} (h1 : (n : Rat) ≤ x) (h2 : x < ((n + 1 : Int) : Rat)) : x.floor = n := by
  have h3 := Rat.le_floor_iff.2 h1
  have h4 := Rat.floor_lt_iff.2 h2
  omega
theorem ceil_eq {x : Rat} {n : Int} (h1 : ((n - 1 : Int) : Rat) < x) (h2 : x ≤ (n : Rat)) : x.ceil = n := by
  have h3 := Rat.ceil_le_iff.2 h2
  have h4 := Rat.lt_ceil_iff.2 h1
  omega
theorem quo_parts {a b : Int} (hb : 0 < b) : (a : Rat) / (b : Rat) * (b : Rat) = a := Rat.div_mul_cancel (by
  intro h; have := Rat.intCast_eq_zero_iff.1 h; omega)
theorem castpos {b : Int} (hb : 0 < b) : (0 : Rat) < (b : Rat) := Rat.intCast_pos.2 hb
theorem quo_floor {a b : Int} (hb : 0 < b) : ((a : Rat) / (b : Rat)).floor = a / b := by
  have hp := castpos hb
  apply floor_eq
  · apply Rat.le_of_mul_le_mul_right _ hp
    rw [quo_parts hb, ← Rat.intCast_mul]
    exact Rat.intCast_le_intCast.2 (Int.ediv_mul_le a (by omega))
  · apply Rat.lt_of_mul_lt_mul_right _ (Rat.le_of_lt hp)
    rw [quo_parts hb, ← Rat.intCast_mul]
    exact Rat.intCast_lt_intCast.2 (Int.lt_ediv_add_one_mul_self a hb)
theorem quo_ceil0 {a b : Int} (hb : 0 < b) (h : a % b = 0) : ((a : Rat) / (b : Rat)).ceil = a / b := by
  have hp := castpos hb
  have e : a = a / b * b := by have := Int.ediv_mul_add_emod a b; omega
  have e2 : (a : Rat) / (b : Rat) = ((a / b : Int) : Rat) := by
    conv => lhs; rw [e]
    rw [Rat.intCast_mul, Rat.mul_div_cancel]
    exact Rat.ne_of_gt hp
  rw [e2, Rat.ceil_intCast]
theorem quo_ceil1 {a b : Int} (hb : 0 < b) (h : a % b ≠ 0) : ((a : Rat) / (b : Rat)).ceil = a / b + 1 := by
  have hp := castpos hb
  have h1 := Int.ediv_mul_add_emod a b
  have h2 := Int.emod_nonneg a (show b ≠ 0 by omega)
  have h3 := Int.emod_lt_of_pos a hb
  apply ceil_eq
  · apply Rat.lt_of_mul_lt_mul_right _ (Rat.le_of_lt hp)
    rw [quo_parts hb, ← Rat.intCast_mul]
    refine Rat.intCast_lt_intCast.2 ?_
    rw [show a / b + 1 - 1 = a / b by omega]
    omega
  · apply Rat.le_of_mul_le_mul_right _ hp
    rw [quo_parts hb, ← Rat.intCast_mul]
    refine Rat.intCast_le_intCast.2 ?_
    rw [Int.add_mul, Int.one_mul]
    omega
theorem quo_neg {a b : Int} (hb : 0 < b) : (a : Rat) / (b : Rat) < 0 ↔ a < 0 := by
  rw [Rat.div_lt_iff (castpos hb), Rat.zero_mul]
  exact Rat.intCast_lt_intCast (a := a) (b := 0)
theorem quo_frac {a b : Int} (hb : 0 < b) : (a : Rat) / (b : Rat) - ((a / b : Int) : Rat) = ((a % b : Int) : Rat) / (b : Rat) := by
  have hp := castpos hb
  have h1 := Int.ediv_mul_add_emod a b
  have h2 : (a : Rat) = ((a / b : Int) : Rat) * (b : Rat) + ((a % b : Int) : Rat) := by
    rw [← Rat.intCast_mul, ← Rat.intCast_add, h1]
  have hne : (b : Rat) ≠ 0 := Rat.ne_of_gt hp
  conv => lhs; rw [h2]
  rw [Rat.div_def, Rat.add_mul, Rat.mul_assoc, Rat.mul_inv_cancel _ hne, Rat.mul_one, ← Rat.div_def]
  grind
theorem ovr_rnd {a b dir : Int} (hb : 0 < b) (h0 : 0 ≤ dir) (h4 : dir ≤ 4) : ovr a b dir = rnd dir ((a : Rat) / (b : Rat)) := by
  have hp := castpos hb
  unfold ovr rnd
  rw [quo_floor hb]
  by_cases hr : a % b = 0
  · rw [if_pos hr, quo_ceil0 hb hr]
    split
    · rfl
    · split
      · rfl
      · split <;> rfl
  · rw [if_neg hr, quo_ceil1 hb hr]
    have hn := quo_neg (a := a) hb
    have hf := quo_frac (a := a) hb
    have hr2 := Int.emod_nonneg a (show b ≠ 0 by omega)
    have hlt := Int.emod_lt_of_pos a hb
    have hsum : ((a / b + 1 : Int) : Rat) - (a : Rat) / (b : Rat) = ((b - a % b : Int) : Rat) / (b : Rat) := by
      have hne : (b : Rat) ≠ 0 := Rat.ne_of_gt hp
      have h1 : ((b - a % b : Int) : Rat) / (b : Rat) = 1 - ((a % b : Int) : Rat) / (b : Rat) := by
        rw [Rat.div_def, Rat.intCast_sub, Rat.sub_eq_add_neg, Rat.add_mul, Rat.mul_inv_cancel _ hne, Rat.neg_mul, ← Rat.div_def, ← Rat.sub_eq_add_neg]
      rw [h1, ← hf, Rat.intCast_add]
      have : ((1 : Int) : Rat) = 1 := rfl
      rw [this]
      grind
    have hcl : ((a : Rat) / (b : Rat) - ((a / b : Int) : Rat) < ((a / b + 1 : Int) : Rat) - (a : Rat) / (b : Rat)) ↔ a % b < b - a % b := by
      rw [hf, hsum, Rat.div_lt_iff hp, Rat.div_mul_cancel (Rat.ne_of_gt hp)]
      exact Rat.intCast_lt_intCast
    have hce : ((a : Rat) / (b : Rat) - ((a / b : Int) : Rat) = ((a / b + 1 : Int) : Rat) - (a : Rat) / (b : Rat)) ↔ a % b = b - a % b := by
      rw [hf, hsum]
      constructor
      · intro h
        have h2 : ((a % b : Int) : Rat) / (b : Rat) * (b : Rat) = ((b - a % b : Int) : Rat) / (b : Rat) * (b : Rat) := by rw [h]
        rw [Rat.div_mul_cancel (Rat.ne_of_gt hp), Rat.div_mul_cancel (Rat.ne_of_gt hp)] at h2
        exact Rat.intCast_inj.1 h2
      · intro h; rw [← h]
    obtain rfl | rfl | rfl | rfl | rfl : dir = 0 ∨ dir = 1 ∨ dir = 2 ∨ dir = 3 ∨ dir = 4 := by omega
    · simp [upw]
    · simp [upw]
    · simp only [upw, sg]
      by_cases ha : a < 0
      · have := hn.2 ha; simp [ha, this]
      · have h2 : ¬ (a : Rat) / (b : Rat) < 0 := fun h => ha (hn.1 h)
        simp [ha, h2]
    · simp only [upw, sg]
      by_cases ha : a < 0
      · have := hn.2 ha; simp [ha, this]
      · have h2 : ¬ (a : Rat) / (b : Rat) < 0 := fun h => ha (hn.1 h)
        simp [ha, h2]
    · have e1 : ¬ ((4 : Int) = 0 ∨ (4 : Int) = 2 ∧ ¬ (a : Rat) / (b : Rat) < 0 ∨ (4 : Int) = 3 ∧ (a : Rat) / (b : Rat) < 0) := by
        rintro (h | ⟨h, _⟩ | ⟨h, _⟩) <;> exact absurd h (by decide)
      have hu : (upw (sg a) (decide (a / b % 2 = 1)) (2 * (a % b) - b) 4 = true) ↔ (0 < 2 * (a % b) - b ∨ 2 * (a % b) - b = 0 ∧ a / b % 2 = 1) := by
        simp [upw]
      rw [if_neg e1, if_neg (show ¬ ((4 : Int) ≠ 4) by decide)]
      simp only [hu, hcl, hce]
      generalize a % b = r at *
      generalize a / b = q at *
      by_cases c : 0 < 2 * r - b ∨ 2 * r - b = 0 ∧ q % 2 = 1
      · rw [if_pos c, if_neg (by omega)]
      · rw [if_neg c, if_pos (by omega)]
def shf (z n : Int) : Int := if 0 ≤ n then z * 2 ^ n.toNat else z / 2 ^ (-n).toNat
theorem zp_int (n : Nat) : (2 : Rat) ^ (n : Int) = ((2 ^ n : Int) : Rat) := by
  rw [zp_nat, Rat.natCast_pow, Rat.intCast_pow]; rfl
end Go.Proofs.YtopigejgadnkaaaGreatDoor

namespace Go.Proofs.YtopigejgadnkaaaGreatDoor
open Go.RowKit

def vals (l : List Nat) : List Value := l.map fun n => .int .u32 (n : Nat)
theorem vals_length (l) : (vals l).length = l.length := by simp [vals]
theorem vals_append (l m) : vals (l ++ m) = vals l ++ vals m := by simp [vals]
theorem vals_one (l) : ∀ u ∈ vals l, u.oneCell' = true := fun u hu => by
  obtain ⟨_, _, rfl⟩ := List.mem_map.1 hu
  rfl
theorem vals_get (l : List Nat) (i : Nat) (hi : i < l.length) : (vals l)[i]? = some (.int .u32 (gl l i : Nat)) := by
  simp [vals, hi, gl]
def RdV (w : World) (A : Option Addr) (xs : List Value) : Prop :=
  xs = [] ∨ ∃ ad, A = some ad ∧ ∀ i u, xs[i]? = some u → w.cell? (ad.add i) = some u
def Rd (w : World) (A : Option Addr) (l : List Nat) : Prop := RdV w A (vals l)
theorem Rd.get {w A l} (h : Rd w A l) (i : Nat) (hi : i < l.length) : ∃ ad, A = some ad ∧ w.cell? (ad.add i) = some (.int .u32 (gl l i : Nat)) := by
  rcases h with h | ⟨ad, rfl, h⟩
  · have := congrArg List.length h; simp [vals] at this; simp [this] at hi
  · exact ⟨ad, rfl, h i _ (vals_get l i hi)⟩
theorem cell_below {w w1 : World} (h : Below w.heap.size w w1) {a : Addr} {v : Value} (hc : w.cell? a = some v) : w1.cell? a = some v := (h.cell (World.block_lt_of_cell? w a hc)).trans hc
theorem RdV.below {w w' A l} (h : RdV w A l) (hb : Below w.heap.size w w') : RdV w' A l := by
  rcases h with rfl | ⟨ad, rfl, h⟩
  · exact .inl rfl
  · exact .inr ⟨ad, rfl, fun i u hi => cell_below hb (h i u hi)⟩
theorem Rd.below {w w' A l} (h : Rd w A l) (hb : Below w.heap.size w w') : Rd w' A l := RdV.below h hb
theorem Rd.nil {w A} : Rd w A [] := .inl rfl
theorem Rd.cells {w ad l} (h : Rd w (some ad) l) : ∀ i u, (vals l)[i]? = some u → w.cell? (ad.add i) = some u := by
  rcases h with h | ⟨ad', e, h⟩
  · intro i u hu; rw [h] at hu; simp at hu
  · cases e; exact h
theorem ownV_rd {w : World} {base : Nat} {e : TypeId} {size n : Nat} {v : Value} {xs : List Value} (h : w.ownsRow base e size v n xs) : ∃ A c, v = .slice A n c ∧ n ≤ c ∧ c ≤ maxLen ∧ RdV w A xs := by
  rcases h.2 with ⟨rfl, rfl⟩ | ⟨g, cap, cur, rfl, _, _, h1, h2, _⟩
  · exact ⟨none, 0, rfl, Nat.le_refl _, by decide, .inl (List.eq_nil_of_length_eq_zero (by simpa using h.1))⟩
  · exact ⟨_, cap, rfl, h1, h2, .inr ⟨_, rfl, h.cells rfl⟩⟩
theorem own_base' {w : World} {base : Nat} {e : TypeId} {size n : Nat} {v : Value} {xs : List Value} (h : w.ownsRow base e size v n xs) (k : Nat) (hk : v.ownBlock = some k) : base ≤ k := by
  rcases h.2 with ⟨rfl, _⟩ | ⟨g, cap, cur, rfl, hb, _⟩
  · simp [Value.ownBlock] at hk
  · have : g = k := by simpa [Value.ownBlock] using hk
    omega
theorem _root_.Go.RowKit.Below.cons {w w1 w2 : World} (h : Below w.heap.size w w1) (k : Below w1.heap.size w1 w2) : Below w.heap.size w w2 :=
  h.trans (k.mono h.size)

theorem ieqT {a b : Int} (h : a = b) : (a == b) = true := beq_iff_eq.mpr h
theorem ieqF {a b : Int} (h : a ≠ b) : (a == b) = false := beq_eq_false_iff_ne.mpr h
theorem ineT {a b : Int} (h : a ≠ b) : (a != b) = true := bne_iff_ne.mpr h
theorem ineF {a b : Int} (h : a = b) : (a != b) = false := bne_eq_false_iff_eq.mpr h
theorem ret_int {k : IntKind} {a b : Int} (h : a = b) : Ending.returned (.int k a) = .returned (.int k b) := by rw [h]
theorem ret2_int {k k' : IntKind} {a b c d : Int} (h : a = b) (h' : c = d) : Ending.returned (.tuple #[.int k a, .int k' c]) = .returned (.tuple #[.int k b, .int k' d]) := by rw [h, h']
theorem at_new {W : World} {o : Obj} {k : Nat} (h : k = W.heap.size) : (W.alloc o).heap[k]? = some o := by subst h; exact heap_alloc_new W o
theorem at_old {W : World} {o : Obj} {k : Nat} {x : Option Obj} (h : k < W.heap.size) (hx : W.heap[k]? = x) : (W.alloc o).heap[k]? = x := by rw [← hx]; exact Below.heap_alloc W o k h
theorem max2_i (k k' : IntKind) (x y : Int) : Builtin.max2 (.int k x) (.int k' y) = pure (.int k (max x y)) := by
  simp only [Builtin.max2, gt_iff_lt, Int.max_def]
  congr 2
  split <;> split <;> omega
theorem min2_i (k k' : IntKind) (x y : Int) : Builtin.min2 (.int k x) (.int k' y) = pure (.int k (min x y)) := by
  simp only [Builtin.min2, Int.min_def]
  congr 2
  split <;> split <;> omega
theorem max_two (ats : Array TypeId) (ty : TypeId) (a b : Value) : Builtin.max_ ats ty #[a, b] = (Builtin.max2 a b >>= fun s => pure s) := by simp only [Builtin.max_, List.foldlM_cons, List.foldlM_nil]
theorem min_two (ats : Array TypeId) (ty : TypeId) (a b : Value) : Builtin.min_ ats ty #[a, b] = (Builtin.min2 a b >>= fun s => pure s) := by simp only [Builtin.min_, List.foldlM_cons, List.foldlM_nil]
theorem info_u32 : (Tryz.prog.info? 62).map (fun i => (i.zero, i.size, i.bytes)) = some (some (.int .u32 0), 1, 4) := by kernel_rfl

theorem mk32 (l c : Int) (h0 : 0 ≤ l) (h : l ≤ c) (hc : c ≤ 35184372088832) : ∀ W : World, (Instr.makeSlice 22 (.int .i64 l) (.int .i64 c)).run Tryz.prog W =
    .ok (.slice (some ⟨W.heap.size, 0, none⟩) l.toNat c.toNat) (W.alloc (.cells (madeCells #[.int .u32 0] c.toNat) 62)) := fun W => by
  obtain ⟨i0, hi, hz0, hz1, hz2⟩ := info_parts info_u32
  have := run_make (P := Tryz.prog) W 22 62 i0 _ Tryz.underlying22 hi hz0 .i64 .i64 l c h0 h (by rw [hz2]; omega) (by omega)
  rw [hz1, Nat.mul_one] at this
  exact this
theorem ownsMade32 (W : World) (base c : Nat) (hb : base ≤ W.heap.size) (hc : c ≤ 35184372088832) :
    (W.alloc (.cells (madeCells #[.int .u32 0] c) 62)).ownsRow base 62 1 (.slice (some ⟨W.heap.size, 0, none⟩) c c) c (vals (List.replicate c 0)) := by
  have h2 := World.ownsRow_lit (e := 62) (size := 1) (base := base) W (madeCells #[.int .u32 0] c) c hb (by simp only [maxLen]; omega) (by rw [size_madeCells, Nat.mul_one])
  rw [toList_madeCells_one] at h2
  rw [show vals (List.replicate c 0) = List.replicate c (Value.int .u32 0) by simp [vals]]
  exact h2

structure NatV (w : World) (A : Option Addr) (c n : Nat) : Prop where
  rd : Rd w A (limbs n)
  cap : nl n ≤ c
  cmax : c ≤ maxLen
theorem NatV.below {w w' A c n} (h : NatV w A c n) (hb : Below w.heap.size w w') : NatV w' A c n := ⟨h.rd.below hb, h.cap, h.cmax⟩
def RetN (w : World) (n : Nat) (e : Ending) (w' : World) : Prop := ∃ A c, e = .returned (.slice A (nl n) c) ∧ NatV w' A c n ∧ Below w.heap.size w w'

theorem clone_c (A : Option Addr) (n c : Nat) (l : List Nat) (w : World) (hn : l.length = n) (h : Rd w A l) (hl : n ≤ 1099511627776) :
  Calls Tryz.prog 117 #[.slice A n c] w fun e w' => ∃ B d, e = .returned (.slice B n d) ∧ n ≤ d ∧ d ≤ maxLen ∧ Rd w' B l ∧ Below w.heap.size w w' := by
  subst hn
  have hnil := fun (a : Option Addr) (n : Nat) (w : World) => Lib.run_eql_slice_nil (P := Tryz.prog) w 22 62 a n c 0 0 Tryz.underlying22
  obtain ⟨i0, hi, hz0, hz1, hz2⟩ := info_parts info_u32
  cases A with
  | none =>
    have hl0 : l = [] := by
      rcases h with h | ⟨ad, e, _⟩
      · exact List.map_eq_nil_iff.1 h
      · cases e
    subst hl0
    go_enter Tryz.func117, Tryz.ntmps117
    go_wp2
    go_ret
    exact ⟨none, 0, rfl, by simp, by decide, .inl rfl, Below.refl _ _⟩
  | some ad =>
    go_enter Tryz.func117, Tryz.ntmps117
    have hb1 : Below w.heap.size w (w.alloc (.cells #[] 62)) := (Below.refl _ _).alloc (Nat.le_refl _) _
    go_wp2_with (at_builtin; refine wpList_append_own_at _ rfl _ _ 22 rfl w.heap.size 62 i0 (.int .u32 0) 1 4 Tryz.underlying22 hi hz0 hz1 hz2 rfl (by decide) _ 0 [] rfl (World.ownsRow_lit w #[] 0 (Nat.le_refl _) (by decide) rfl) ad l.length c (vals l) rfl (by simp [vals]) (h.below hb1).cells (vals_one l) (by simp only [maxLen]; omega) (by omega) (by simp) ?_)
    intro v' w1 hown hg _ _
    (try simp only [Nat.zero_add, List.nil_append] at hown)
    obtain ⟨B, d, rfl, h1, h2, h3⟩ := ownV_rd hown
    have hb2 : Below w.heap.size w w1 := hb1.grown hg (by simp) (fun k hk => by simp [Value.ownBlock] at hk; omega)
    clear hg
    go_wp2
    go_ret
    exact ⟨B, d, rfl, h1, h2, h3, hb2⟩

theorem make_c (A : Option Addr) (n c : Nat) (l : List Nat) (w : World) (hn : l.length = n) (h : Rd w A l) (hL : Lim l) (hl : n ≤ 1099511627776) (hc : n ≤ c) :
    Calls Tryz.prog 79 #[.slice A n c] w (RetN w (val l)) := by
  subst hn
  have fin : ∀ k, k ≤ l.length → (∀ i, k ≤ i → i < l.length → gl l i = 0) → (k = 0 ∨ gl l (k - 1) ≠ 0) → Calls Tryz.prog 117 #[.slice A k c] w (RetN w (val l)) := fun k hk h0 h1 => by
    have e := take_make hL hk h0 h1
    have e2 : k = nl (val l) := by unfold nl; rw [← e, List.length_take, Nat.min_eq_left hk]
    refine (clone_c A k c (l.take k) w (by simp [hk]) ?_ (by omega)).mono ?_
    · rcases h with h | ⟨ad, rfl, h⟩
      · exact .inl (by simp [vals] at h ⊢; simp [h])
      · refine .inr ⟨ad, rfl, fun i u hu => h i u ?_⟩
        simp only [vals, List.map_take] at hu ⊢
        by_cases hik : i < k
        · rwa [List.getElem?_take_of_lt hik] at hu
        · rw [List.getElem?_take_eq_none (by omega)] at hu; cases hu
    · rintro e' w' ⟨B, d, rfl, h1, h2, h3, h4⟩
      exact ⟨B, d, by rw [← e2], ⟨by rw [← e]; exact h3, by omega, h2⟩, h4⟩
  go_enter Tryz.func79, Tryz.ntmps79
  go_wp2_with (fail)
  go_loop [3] (fun v => ∃ k : Nat, v = .int .i64 k ∧ k ≤ l.length ∧ ∀ i, k ≤ i → i < l.length → gl l i = 0) (fun v => (intOf v).toNat)
  case atStart => exact ⟨l.length, rfl, Nat.le_refl _, fun i h1 h2 => by omega⟩
  case round =>
    obtain ⟨k, rfl, hk, h0⟩ := hrel
    have H0 := Lib.hid h0
    have FIN := Lib.hid fin
    clear h0 fin
    cases k with
    | zero =>
      go_wp2_with (fail)
      refine (FIN.out 0 (by omega) H0.out (.inl rfl)).mono ?_
      rintro e w1 ⟨B, d, rfl, h1, h2⟩
      go_wp2_with (fail)
      go_ret
      exact ⟨B, d, rfl, h1, h2⟩
    | succ k =>
      obtain ⟨ad, rfl, hcell⟩ := h.get k (by omega)
      by_cases hz : gl l k = 0
      · have hb : ((gl l k : Int) == 0) = true := ieqT (by omega)
        have HZ := Lib.hid hz
        clear hz
        go_wp2_with (fail)
        go_round
        case rel => exact ⟨k, by go_num, by omega, fun i h1 h2 => by
          by_cases e : i = k
          · rw [e]; exact HZ.out
          · exact H0.out i (by omega) h2⟩
        case measure => simp [intOf] <;> omega
      · have hb : ((gl l k : Int) == 0) = false := ieqF (by omega)
        go_wp2_with (fail)
        refine (FIN.out (k + 1) (by omega) H0.out (.inr hz)).mono ?_
        rintro e w1 ⟨B, d, rfl, h1, h2⟩
        go_wp2_with (fail)
        go_ret
        exact ⟨B, d, rfl, h1, h2⟩
def brw (x y b : Nat) : Nat := if x < y + b then 1 else 0
def dif (x y b : Nat) : Nat := (x + (4294967296 - y - b)) % 4294967296
theorem dif_lt (x y b : Nat) : dif x y b < 4294967296 := Nat.mod_lt _ (by decide)
theorem brw_le (x y b : Nat) : brw x y b ≤ 1 := by unfold brw; split <;> omega
theorem dif_eq {x y b : Nat} (hx : x < 4294967296) (hy : y < 4294967296) (hb : b ≤ 1) : x + 4294967296 * brw x y b = dif x y b + y + b := by
  unfold dif brw
  split <;> omega
theorem top_bit {n : Nat} (h : n < 4294967296) : n / 2147483648 = (n.testBit 31).toNat := by
  rw [Nat.toNat_testBit]
  omega
theorem tb31 {n : Nat} (h : n < 4294967296) : n.testBit 31 = decide (2147483648 ≤ n) := by
  have := top_bit h
  cases e : n.testBit 31 <;> rw [e] at this <;> simp at this ⊢ <;> omega
theorem brw_bits (x y b : Nat) (hx : x < 4294967296) (hy : y < 4294967296) (hb : b ≤ 1) :
    (((4294967295 ^^^ x) &&& y) ||| ((4294967295 ^^^ (x ^^^ y)) &&& dif x y b)) / 2147483648 = brw x y b := by
  have hd := dif_lt x y b
  have l1 : (4294967295 ^^^ x) &&& y < 4294967296 := Nat.and_lt_two_pow (n := 32) _ hy
  have l2 : (4294967295 ^^^ (x ^^^ y)) &&& dif x y b < 4294967296 := Nat.and_lt_two_pow (n := 32) _ hd
  have e1 : Nat.testBit 4294967295 31 = true := by decide
  rw [top_bit (Nat.or_lt_two_pow (n := 32) l1 l2), Nat.testBit_or, Nat.testBit_and, Nat.testBit_and, Nat.testBit_xor, Nat.testBit_xor, Nat.testBit_xor, e1, tb31 hx, tb31 hy, tb31 hd]
  have e := dif_eq hx hy hb
  have hbw := brw_le x y b
  by_cases h1 : 2147483648 ≤ x <;> by_cases h2 : 2147483648 ≤ y <;> by_cases h3 : 2147483648 ≤ dif x y b <;> simp [h1, h2, h3] <;> omega
theorem brw_int (x y b : Nat) (d : Int) (hd : d = ((dif x y b : Nat) : Int)) (hx : x < 4294967296) (hy : y < 4294967296) (hb : b ≤ 1) :
    bits .or .u32 (bits .and .u32 (bits .xor .u32 IntKind.u32.max (x : Int)) (y : Int)) (bits .and .u32 (bits .xor .u32 IntKind.u32.max (bits .xor .u32 (x : Int) (y : Int))) d) / 2147483648 = (brw x y b : Int) := by
  have hm : IntKind.u32.max = ((4294967295 : Nat) : Int) := by decide
  have hdl := dif_lt x y b
  have a1 : 4294967295 ^^^ x < 4294967296 := Nat.xor_lt_two_pow (n := 32) (by decide) hx
  have a2 : x ^^^ y < 4294967296 := Nat.xor_lt_two_pow (n := 32) hx hy
  have a3 : 4294967295 ^^^ (x ^^^ y) < 4294967296 := Nat.xor_lt_two_pow (n := 32) (by decide) a2
  have a4 : (4294967295 ^^^ x) &&& y < 4294967296 := Nat.and_lt_two_pow (n := 32) _ hy
  have a5 : (4294967295 ^^^ (x ^^^ y)) &&& dif x y b < 4294967296 := Nat.and_lt_two_pow (n := 32) _ hdl
  rw [hm, hd, u32_xor_nat _ _ (by decide) hx, u32_xor_nat _ _ hx hy, u32_xor_nat _ _ (by decide) a2, u32_and_nat _ _ a1 hy, u32_and_nat _ _ a3 hdl, u32_or_nat _ _ a4 a5, ← brw_bits x y b hx hy hb]
  simp

theorem sub32_c (x y b : Nat) (w : World) (hx : x < 4294967296) (hy : y < 4294967296) (hb : b ≤ 1) :
    Calls Tryz.prog 128 #[.int .u32 x, .int .u32 y, .int .u32 b] w fun e w' => e = .returned (.tuple #[.int .u32 (dif x y b : Nat), .int .u32 (brw x y b : Nat)]) ∧ w = w' := by
  have HD := Lib.hid (show ((((x : Int) - y) % 4294967296 - b) % 4294967296) = ((dif x y b : Nat) : Int) by unfold dif; omega)
  have HB := Lib.hid (brw_int x y b _ (show (((x : Int) - y - b) % 4294967296) = ((dif x y b : Nat) : Int) by unfold dif; omega) hx hy hb)
  have hs : IntKind.u32.signed = false := rfl
  go_enter Tryz.func128, Tryz.ntmps128
  go_wp2
  go_ret2
  exact ⟨ret2_int HD.out HB.out, rfl⟩
theorem add32_c (x y b : Nat) (w : World) (hx : x < 4294967296) (hy : y < 4294967296) (hb : b ≤ 1) :
    Calls Tryz.prog 120 #[.int .u32 x, .int .u32 y, .int .u32 b] w fun e w' => e = .returned (.tuple #[.int .u32 ((x + y + b) % 4294967296 : Nat), .int .u32 ((x + y + b) / 4294967296 : Nat)]) ∧ w = w' := by
  go_enter Tryz.func120, Tryz.ntmps120
  go_wp2
  go_ret2
  exact ⟨by simp, rfl⟩
end Go.Proofs.YtopigejgadnkaaaGreatDoor

namespace Go.Proofs.YtopigejgadnkaaaGreatDoor
open Go.RowKit Go.Shelf

attribute [local go_sem] Oper.semAt_some

theorem at_c (A : Option Addr) (n c : Nat) (l : List Nat) (j : Nat) (w : World) (hn : l.length = n) (h : Rd w A l) (h0 : j ≤ 1099511627776) (hl : n ≤ 1099511627776) :
    Calls Tryz.prog 118 #[.slice A n c, .int .i64 (j : Int)] w fun e w' => e = .returned (.int .u32 (gl l j : Nat)) ∧ w = w' := by
  subst hn
  by_cases hj : j < l.length
  · obtain ⟨ad, rfl, hc⟩ := h.get j hj
    go_enter Tryz.func118, Tryz.ntmps118
    go_wp2
    go_ret
    exact ⟨rfl, rfl⟩
  · have e := gl_of_le (l := l) (i := j) (by omega)
    have E := Lib.hid e
    clear e
    go_enter Tryz.func118, Tryz.ntmps118
    go_wp2
    go_ret
    exact ⟨by rw [E.out]; rfl, rfl⟩

def StepC (fs : Nat) (st : Nat → Nat → Nat → Nat × Nat) : Prop :=
  (∀ args w, (callFunc fs args).run Tryz.prog w = .ok (.enter fs args) w) ∧
  (∀ x y c, x < 4294967296 → y < 4294967296 → c ≤ 1 → (st x y c).1 < 4294967296 ∧ (st x y c).2 ≤ 1) ∧
  ∀ (x y c : Nat) (w : World), x < 4294967296 → y < 4294967296 → c ≤ 1 →
    Calls Tryz.prog fs #[.int .u32 x, .int .u32 y, .int .u32 c] w fun e w' => e = .returned (.tuple #[.int .u32 ((st x y c).1 : Nat), .int .u32 ((st x y c).2 : Nat)]) ∧ w = w'

theorem carried1_c (fs : Nat) (st : Nat → Nat → Nat → Nat × Nat) (hs : StepC fs st) (x y c Bs Bc : Nat) (w : World) (hx : x < 4294967296) (hy : y < 4294967296) (hc : c ≤ 1)
    (h1 : Boxed w Bs 127 (.func (.func fs) #[] #[])) (h2 : Boxed w Bc 62 (.int .u32 c)) :
    Calls Tryz.prog 157 #[.int .u32 x, .int .u32 y, .pointer (some ⟨Bs, 0, none⟩), .pointer (some ⟨Bc, 0, none⟩)] w fun e w' =>
      e = .returned (.int .u32 ((st x y c).1 : Nat)) ∧ w' = w.setCell ⟨Bc, 0, none⟩ (.int .u32 ((st x y c).2 : Nat)) := by
  have c1 := h1.cell
  have c2 := h2.cell
  have f2 := h2.frozen
  obtain ⟨heg, hbd, hst⟩ := hs
  have HST := Lib.hid hst
  have HBD := Lib.hid (hbd x y c hx hy hc)
  clear hst hbd h1 h2
  go_enter Tryz.func157, Tryz.ntmps157
  go_wp2_with (fail)
  refine (HST.out _ _ _ _ hx hy hc).mono ?_
  rintro e w1 ⟨rfl, rfl⟩
  go_wp2_with (fail)
  go_ret
  exact ⟨rfl, rfl⟩

theorem carried_c (fs : Nat) (w : World) :
    Calls Tryz.prog 138 #[.func (.func fs) #[] #[]] w fun e w' =>
      e = .returned (.func (.func 157) #[] #[.pointer (some ⟨w.heap.size, 0, none⟩), .pointer (some ⟨w.heap.size + 1, 0, none⟩)]) ∧
      w' = (w.alloc (.cells #[.func (.func fs) #[] #[]] 127)).alloc (.cells #[.int .u32 0] 62) := by
  go_enter Tryz.func138, Tryz.ntmps138
  go_wp2_with (fail)
  go_ret
  exact ⟨rfl, rfl⟩

theorem pairs_c (A : Option Addr) (la ca : Nat) (B : Option Addr) (lb cb : Nat) (n : Int) (w : World) :
    Calls Tryz.prog 139 #[.slice A la ca, .slice B lb cb, .int .i64 n] w fun e w' =>
      e = .returned (.func (.func 158) #[] #[.pointer (some ⟨w.heap.size + 2, 0, none⟩), .pointer (some ⟨w.heap.size, 0, none⟩), .pointer (some ⟨w.heap.size + 1, 0, none⟩)]) ∧
      w' = ((w.alloc (.cells #[.slice A la ca] 22)).alloc (.cells #[.slice B lb cb] 22)).alloc (.cells #[.int .i64 n] 3) := by
  go_enter Tryz.func139, Tryz.ntmps139
  go_wp2_with (fail)
  go_ret
  exact ⟨rfl, rfl⟩

def KeepC (S : Nat → Prop) (W W' : World) : Prop := ∀ (p : Addr) (v : Value), S p.block → W.cell? p = some v → W'.cell? p = some v
theorem KeepC.t {S : Nat → Prop} {A B C : World} (h : KeepC S A B) (k : KeepC S B C) : KeepC S A C := fun p v hp hv => k p v hp (h p v hp hv)
theorem KeepC.b {S : Nat → Prop} {w : World} (W : World) (l : Nat) (o o' : Obj) (_ : w.heap.size ≤ l) (h : W.heap[l]? = some o) (ho : o.isCells = false) (_ : o.isWalk = false) : KeepC S W (W.putObj l o') := fun p v _ hv =>
  cell_kept hv (grownBy_putObj' W l o') (fun r e => by cases e; exact ⟨o, h, ho⟩)
theorem KeepC.rd {S : Nat → Prop} {W W' : World} {A : Option Addr} {l : List Nat} (h : KeepC S W W') (hA : ∀ ad i, A = some ad → i < l.length → S (ad.add i).block) (hr : Rd W A l) : Rd W' A l := by
  rcases hr with hr | ⟨ad, rfl, hr⟩
  · exact .inl hr
  · refine .inr ⟨ad, rfl, fun i u hu => h _ _ (hA ad i rfl ?_) (hr i u hu)⟩
    have := (List.getElem?_eq_some_iff.1 hu).1
    simpa [vals] using this

theorem pairs1_in (l Ba Bb Bn : Nat) (n₀ : Nat) (S : Nat → Prop) (A : Option Addr) (na ca : Nat) (a : List Nat) (B : Option Addr) (nb cb : Nat) (b : List Nat) (n : Nat)
    (hn : n ≤ 1099511627776) (hna : a.length = na) (hnb : b.length = nb) (hla : na ≤ 1099511627776) (hlb : nb ≤ 1099511627776)
    (hSa : S Ba) (hSb : S Bb) (hSA : ∀ ad i, A = some ad → i < a.length → S (ad.add i).block) (hSB : ∀ ad i, B = some ad → i < b.length → S (ad.add i).block)
    (J Jx : List Nat → World → Prop) (hJd : ∀ pre W, J pre W → J pre W.drew)
    (hY : ∀ pre x W, J pre W → pre.length < n → YieldAt Fence.wide 2 Tryz.prog l #[.int .u32 (gl a x : Nat), .int .u32 (gl b x : Nat)] W fun e W' =>
      (e = .returned (.bool true) ∧ J (pre ++ [x]) W' ∧ KeepC S W W') ∨ (e = .returned (.bool false) ∧ Jx (pre ++ [x]) W'))
    (W : World) (h1 : W.cell? ⟨Ba, 0, none⟩ = some (.slice A na ca)) (h2 : W.cell? ⟨Bb, 0, none⟩ = some (.slice B nb cb)) (h3 : W.cell? ⟨Bn, 0, none⟩ = some (.int .i64 n))
    (hA : Rd W A a) (hB : Rd W B b) (h0 : J [] W) :
    CallsIn Fence.wide 3 Tryz.prog 158 #[.func (.yield l) #[] #[], .pointer (some ⟨Bn, 0, none⟩), .pointer (some ⟨Ba, 0, none⟩), .pointer (some ⟨Bb, 0, none⟩)] W fun e W' =>
      (∃ v, e = .returned v) ∧ ((∃ xs, xs = List.range n ∧ J xs W') ∨ (∃ pre, pre.length ≤ n ∧ Jx pre W')) := by
  refine callsIn_of_wp Tryz.func158 rfl trivial ?_ rfl
  simp only [Tryz.ntmps158, List.size_toArray, List.length_cons, List.length_nil, Nat.reduceAdd, Nat.reduceSub, Array.replicate_succ, Array.replicate_zero, List.push_toArray, List.append_toArray, List.nil_append, List.cons_append]
  have HY := Lib.hid hY
  clear hY
  gi_wp2_with (fail)
  gi_loopw [7, 5] (fun i u wr => ∃ k : Nat, i = .int .i64 k ∧ k ≤ n ∧ J (List.range k) wr ∧ KeepC S W wr) (fun i u wr => n - (intOf i).toNat)
  case atStart => exact ⟨0, rfl, Nat.zero_le _, h0, fun p v _ h => h⟩
  case round =>
    obtain ⟨k, rfl, hk, hJ, hK⟩ := hrel
    by_cases hkn : k < n
    · have g1 := hK _ _ hSa h1
      have g2 := hK _ _ hSb h2
      obtain ⟨fn, tmps, assign, body, hy, hR⟩ := HY.out _ k wr.drew (hJd _ _ hJ) (by simpa using hkn)
      have cA := fun (W : World) (hA : Rd W A a) => (callsIn_wide (n := 2)).2 (at_c A na ca a k W hna hA (by omega) hla)
      have cB := fun (W : World) (hB : Rd W B b) => (callsIn_wide (n := 2)).2 (at_c B nb cb b k W hnb hB (by omega) hlb)
      have HA : Rd wr.drew A a := hK.rd hSA hA
      have HB : Rd wr.drew B b := hK.rd hSB hB
      have CA : ∀ (X : Option Addr) (m d : Nat) (r : List Nat), ((X, m, d, r) = (A, na, ca, a) ∨ (X, m, d, r) = (B, nb, cb, b)) → CallsIn Fence.wide 2 Tryz.prog 118 #[.slice X m d, .int .i64 (k : Int)] wr.drew fun e w' => e = .returned (.int .u32 (gl r k : Nat)) ∧ wr.drew = w' := fun X m d r h => by
        rcases h with h | h <;> cases h
        · exact cA wr.drew HA
        · exact cB wr.drew HB
      have HR := Lib.hid (hR.mono (R' := fun e W' => ∃ b, e = .returned (.bool b) ∧ Hid ((b = true ∧ J (List.range k ++ [k]) W' ∧ KeepC S wr.drew W') ∨ (b = false ∧ Jx (List.range k ++ [k]) W'))) (by
        rintro e W' (⟨rfl, h⟩ | ⟨rfl, h⟩)
        · exact ⟨true, rfl, Lib.hid (.inl ⟨rfl, h⟩)⟩
        · exact ⟨false, rfl, Lib.hid (.inr ⟨rfl, h⟩)⟩))
      have HK := Lib.hid hK
      have HCA := Lib.hid CA
      clear cA cB hA hB hK hR hSA hSB hJ hJd CA
      gi_wp2_with (fail)
      gi_region_with (first | (refine (Hid.out HR).mono ?_; rintro e W' ⟨y, rfl, hy⟩) | (refine ⟨trivial, ?_⟩; gi_at_call 118; (first | (with_reducible refine (Hid.out HCA A na ca a (.inl rfl)).mono ?_) | (with_reducible refine (Hid.out HCA B nb cb b (.inr rfl)).mono ?_)); rintro e w' ⟨rfl, rfl⟩))
      all_goals
        cases y with
        | true =>
          obtain ⟨_, hJ2, hK2⟩ | ⟨h, _⟩ := hy.out
          · gi_wp2_with (fail)
            go_roundw
            case rel => exact ⟨k + 1, by go_num, by omega, by rw [List.range_succ]; exact hJ2, HK.out.t (KeepC.t (fun p v _ h => h) hK2)⟩
            case measure => simp [intOf] <;> omega
          · cases h
        | false =>
          obtain ⟨h, _⟩ | ⟨_, hx⟩ := hy.out
          · cases h
          · gi_wp2_with (fail)
            refine bodyPost_ret (results_none rfl _ _ _) rfl ?_
            exact ⟨⟨_, rfl⟩, .inr ⟨_, by simp; omega, hx⟩⟩
    · gi_wp2_with (fail)
      refine bodyPost_end (results_none rfl _ _ _) rfl ?_
      obtain rfl : k = n := by omega
      exact ⟨⟨_, rfl⟩, .inl ⟨_, rfl, hJ⟩⟩

theorem pairs_stops (Ba Bb Bn : Nat) (S : Nat → Prop) (A : Option Addr) (na ca : Nat) (a : List Nat) (B : Option Addr) (nb cb : Nat) (b : List Nat) (n : Nat) (w : World)
    (hn : n ≤ 1099511627776) (hna : a.length = na) (hnb : b.length = nb) (hla : na ≤ 1099511627776) (hlb : nb ≤ 1099511627776)
    (hSa : S Ba) (hSb : S Bb) (hSA : ∀ ad i, A = some ad → i < a.length → S (ad.add i).block) (hSB : ∀ ad i, B = some ad → i < b.length → S (ad.add i).block)
    (h1 : w.cell? ⟨Ba, 0, none⟩ = some (.slice A na ca)) (h2 : w.cell? ⟨Bb, 0, none⟩ = some (.slice B nb cb)) (h3 : w.cell? ⟨Bn, 0, none⟩ = some (.int .i64 n))
    (hA : Rd w A a) (hB : Rd w B b) :
    SeqStopsK Fence.wide 3 Tryz.prog 158 #[.pointer (some ⟨Bn, 0, none⟩), .pointer (some ⟨Ba, 0, none⟩), .pointer (some ⟨Bb, 0, none⟩)]
      (fun x : Nat => #[.int .u32 (gl a x : Nat), .int .u32 (gl b x : Nat)]) (KeepC S) (fun xs => xs = List.range n) (fun pre => pre.length ≤ n) n w := fun l J Jx W hW hJ _ hY h0 =>
  pairs1_in l Ba Bb Bn 0 S A na ca a B nb cb b n hn hna hnb hla hlb hSa hSb hSA hSB J Jx (fun pre W h => hJ pre W W.drew none h ⟨rfl, rfl, rfl, Nat.le_refl _, fun _ _ _ => rfl⟩ (fun r e => by cases e))
    hY W (cell_below hW h1) (cell_below hW h2) (cell_below hW h3) (hA.below hW) (hB.below hW) h0
end Go.Proofs.YtopigejgadnkaaaGreatDoor

namespace Go.Proofs.YtopigejgadnkaaaGreatDoor
open Go.RowKit

theorem count_set {L : List Bool} {i : Nat} (h : L[i]? = some false) : (L.set i true).count false + 1 = L.count false := by
  induction L generalizing i with
  | nil => simp at h
  | cons x L ih =>
    cases i with
    | zero =>
      simp only [List.getElem?_cons_zero, Option.some.injEq] at h
      subst h
      simp [List.count_cons]
    | succ i =>
      have := ih (i := i) (by simpa using h)
      simp only [List.set_cons_succ, List.count_cons]
      omega

theorem wpAnyIn_inv {F : Fence} {n : Nat} {P : Program} {ops : Array Oper} {Q : Exit → Act → World → Prop} {md : Region.Mode} (Inv : Array Bool → Act → World → Prop)
    (hdone : ∀ L a w, Inv L a w → Region.ready md ops L = [] → Q .normal a w)
    (hstep : ∀ L a w i, Inv L a w → i < ops.size → L.getD i true = false → (∀ o, ops[i]? = some o → ∀ e ∈ o.after, Region.binds md e = true → L.getD e.on false = true) →
      wpOpIn F n P ops Q i (fun a' w' => Inv (L.setIfInBounds i true) a' w') a w) :
    ∀ fuel L a w, Inv L a w → L.size = ops.size → L.toList.count false ≤ fuel → wpAnyIn F n P md ops Q fuel L a w := by
  intro fuel
  induction fuel with
  | zero =>
    intro L a w hI hs hc
    have hr : Region.ready md ops L = [] := by
      rw [List.eq_nil_iff_forall_not_mem]
      intro i hi
      obtain ⟨h0, o, ho, _⟩ := mem_ready.1 hi
      have hlt : i < L.size := by rw [hs]; exact (Array.getElem?_eq_some_iff.1 ho).1
      have h1 : L.toList.count false = 0 := by omega
      rw [List.count_eq_zero] at h1
      refine h1 ?_
      have h2 : L[i] = false := by simpa [Array.getD, hlt] using h0
      exact h2 ▸ Array.getElem_mem_toList hlt
    exact ⟨hr, hdone L a w hI hr⟩
  | succ fuel ih =>
    intro L a w hI hs hc
    refine ⟨fun hr => hdone L a w hI hr, fun i hi => ?_⟩
    obtain ⟨h0, o, ho, hd⟩ := mem_ready.1 hi
    have hlt : i < ops.size := (Array.getElem?_eq_some_iff.1 ho).1
    refine wpOpIn_mono (fun a' w' hI' => ih _ a' w' hI' (by simpa using hs) ?_) (hstep L a w i hI hlt h0 (fun o' ho' e he hb => by
      rw [ho] at ho'; cases ho'; exact hd e he hb))
    have hl : i < L.size := by omega
    have h2 : L[i] = false := by simpa [Array.getD, hl] using h0
    have h3 := count_set (L := L.toList) (i := i) (by rw [Array.getElem?_toList, Array.getElem?_eq_getElem hl, h2])
    rw [Array.toList_setIfInBounds]
    omega

def edgesDown (ops : Array Oper) : Bool := ops.toList.zipIdx.all fun (o, i) => o.after.all fun e => !Region.binds .any e || decide (e.on < i)
theorem edgesDown_spec {ops : Array Oper} (h : edgesDown ops = true) {i : Nat} {o : Oper} (ho : ops[i]? = some o) {e : Edge} (he : e ∈ o.after) (hb : Region.binds .any e = true) : e.on < i := by
  unfold edgesDown at h
  rw [List.all_eq_true] at h
  have hm : (o, i) ∈ ops.toList.zipIdx := by
    rw [List.mem_zipIdx_iff_getElem?]; simpa using ho
  have := h _ hm
  simp only [Array.all_eq_true_iff_forall_mem, Bool.or_eq_true, Bool.not_eq_true', decide_eq_true_eq] at this
  exact (this e he).resolve_left (by simp [hb])
theorem ready_nil {ops : Array Oper} (hd : edgesDown ops = true) {L : Array Bool} (hs : L.size = ops.size) (h : Region.ready .any ops L = []) : ∀ i, i < ops.size → L.getD i false = true := by
  intro i
  induction i using Nat.strongRecOn with
  | _ i ih =>
    intro hi
    cases hb : L.getD i false with
    | true => rfl
    | false =>
      exfalso
      have : i ∈ Region.ready .any ops L := mem_ready.2 ⟨by
        have hl : i < L.size := by omega
        simp only [Array.getD, hl, dite_true] at hb ⊢; exact hb, ops[i], Array.getElem?_eq_getElem hi, fun e he hbe => by
          have hlt := edgesDown_spec hd (Array.getElem?_eq_getElem hi) he hbe
          exact ih e.on hlt (by omega)⟩
      rw [h] at this
      simp at this
theorem bit_set {L : Array Bool} {i : Nat} (hi : i < L.size) (k : Nat) : (L.setIfInBounds i true).getD k false = if k = i then true else L.getD k false := by
  by_cases h : k = i
  · subst h; simp [Array.getD, hi]
  · rw [if_neg h, getD_set_ne false (fun e => h e.symm)]

theorem wpIn_region_inv {F : Fence} {n : Nat} {P : Program} {ops : Array Oper} {Q : Exit → Act → World → Prop} {id : Nat} {a : Act} {w : World} (Inv : (Nat → Bool) → Act → World → Prop) (hm : P.follows .mixedOrders = true)
    (hd : edgesDown ops = true)
    (h0 : Inv (fun _ => false) a w.drew)
    (hdone : ∀ D a w, Inv D a w → (∀ i, i < ops.size → D i = true) → Q .normal a w)
    (hstep : ∀ D a w i, Inv D a w → i < ops.size → D i = false → (∀ o, ops[i]? = some o → ∀ e ∈ o.after, Region.binds .any e = true → D e.on = true) →
      wpOpIn F n P ops Q i (fun a' w' => Inv (fun k => if k = i then true else D k) a' w') a w) :
    (Code.region id ops true).wpIn F n P Q a w := by
  refine wpIn_region_any hm (wpAnyIn_inv (fun L a w => L.size = ops.size ∧ Inv (fun k => L.getD k false) a w) ?_ ?_ _ _ _ _ ⟨by simp, ?_⟩ (by simp) (by simp))
  · rintro L a w ⟨hs, hI⟩ hr
    exact hdone _ a w hI (ready_nil hd hs hr)
  · rintro L a w i ⟨hs, hI⟩ hi hL he
    have hl : i < L.size := by omega
    refine wpOpIn_mono (fun a' w' h' => ⟨by simpa using hs, ?_⟩) (hstep (fun k => L.getD k false) a w i hI hi (by simp only [Array.getD, hl, dite_true] at hL ⊢; exact hL) he)
    have : (fun k => (L.setIfInBounds i true).getD k false) = (fun k => if k = i then true else L.getD k false) := funext (bit_set hl)
    rw [this]
    exact h'
  · have : (fun k => (Array.replicate ops.size false).getD k false) = (fun _ : Nat => false) := by
      funext k
      by_cases hk : k < ops.size <;> simp [Array.getD, hk]
    rw [this]
    exact h0
end Go.Proofs.YtopigejgadnkaaaGreatDoor

namespace Go.Proofs.YtopigejgadnkaaaGreatDoor
open Go.RowKit Go.Shelf

attribute [local go_sem] Oper.semAt_some

def runS (st : Nat → Nat → Nat → Nat × Nat) (a b : List Nat) (pre : List Nat) : List Nat × Nat :=
  pre.foldl (fun s i => (s.1 ++ [(st (gl a i) (gl b i) s.2).1], (st (gl a i) (gl b i) s.2).2)) ([], 0)
theorem runS_snoc (st a b pre i) : runS st a b (pre ++ [i]) = ((runS st a b pre).1 ++ [(st (gl a i) (gl b i) (runS st a b pre).2).1], (st (gl a i) (gl b i) (runS st a b pre).2).2) := by
  simp [runS]
theorem snoc_ind {P : List Nat → Prop} (h0 : P []) (h1 : ∀ l x, P l → P (l ++ [x])) : ∀ l, P l := fun l => by
  rw [← List.reverse_reverse l]
  induction l.reverse with
  | nil => exact h0
  | cons x l ih => rw [List.reverse_cons]; exact h1 _ _ ih
theorem runS_len (st a b pre) : (runS st a b pre).1.length = pre.length := by
  induction pre using snoc_ind with
  | h0 => rfl
  | h1 pre i ih => rw [runS_snoc]; simp [ih]
theorem runS_ok {fs st} (hs : StepC fs st) {a b : List Nat} (ha : Lim a) (hb : Lim b) (pre) : Lim (runS st a b pre).1 ∧ (runS st a b pre).2 ≤ 1 := by
  induction pre using snoc_ind with
  | h0 => exact ⟨Lim.nil, Nat.zero_le _⟩
  | h1 pre i ih =>
    have := hs.2.1 _ _ _ (ha.gl i) (hb.gl i) ih.2
    rw [runS_snoc]
    exact ⟨ih.1.append (Lim.cons this.1 Lim.nil), this.2⟩

theorem keepD {D : Nat → Bool} {i k : Nat} {p : Prop} (hne : k ≠ i) (h : D k = true → p) : (if k = i then true else D k) = true → p := by rw [if_neg hne]; exact h
theorem kd {D : Nat → Bool} {i k : Nat} {p : Prop} (h : D k = true → p) (hne : k ≠ i := by decide) : (if k = i then true else D k) = true → p := keepD hne h

theorem all_c (fs : Nat) (st : Nat → Nat → Nat → Nat × Nat) (hs : StepC fs st) (A : Option Addr) (na ca : Nat) (a : List Nat) (B : Option Addr) (nb cb : Nat) (b : List Nat) (n : Nat) (w : World)
    (hn : n ≤ 1099511627776) (hna : a.length = na) (hnb : b.length = nb) (hla : na ≤ 1099511627776) (hlb : nb ≤ 1099511627776) (hA : Rd w A a) (hB : Rd w B b) (ha : Lim a) (hb : Lim b) :
    Calls Tryz.prog 119 #[.slice A na ca, .slice B nb cb, .int .i64 (n : Int), .func (.func fs) #[] #[]] w (RetN w (val (runS st a b (List.range n)).1)) := by
  refine (callsIn_wide (n := 4)).1 ?_
  obtain ⟨i0, hi', hz0, hz1, hz2⟩ := info_parts info_u32
  have hmk := mk32 0 n (by omega) (by omega) (by omega)
  simp only [Int.toNat_zero, Int.toNat_natCast] at hmk
  refine callsIn_of_wp_marks Tryz.func119 rfl trivial ?_ rfl
  simp only [Tryz.ntmps119, List.size_toArray, List.length_cons, List.length_nil, Nat.reduceAdd, Nat.reduceSub, Array.replicate_succ, Array.replicate_zero, List.push_toArray, List.append_toArray, List.nil_append, List.cons_append]
  gi_wp2_with (first
    | (refine ⟨trivial, ?_⟩; gi_at_call 138; refine (callsIn_wide.2 (carried_c fs _)).mono ?_; rintro e w' ⟨rfl, rfl⟩)
    | (refine ⟨trivial, ?_⟩; gi_at_call 139; refine (callsIn_wide.2 (pairs_c A na ca B nb cb n _)).mono ?_; rintro e w' ⟨rfl, rfl⟩))
  -- the world as the loop begins
  obtain ⟨s, hs0⟩ : ∃ s, s = w.heap.size := ⟨_, rfl⟩
  obtain ⟨W8, hW8⟩ : ∃ W8, ((((((((w.alloc (.cells #[.func (.func fs) #[] #[]] 127)).alloc (.cells #[.int .u32 0] 62)).alloc (.cells #[.func (.func 157) #[] #[.pointer (some ⟨s, 0, none⟩), .pointer (some ⟨s + 1, 0, none⟩)]] 145)).alloc (.cells (madeCells #[.int .u32 0] n) 62)).alloc (.cells #[.slice (some ⟨s + 3, 0, none⟩) 0 n] 22)).alloc (.cells #[.slice A na ca] 22)).alloc (.cells #[.slice B nb cb] 22)).alloc (.cells #[.int .i64 n] 3)) = W8 := ⟨_, rfl⟩
  have bS : Boxed W8 s 127 (.func (.func fs) #[] #[]) := by
    subst hs0 hW8; unfold Boxed; repeat (first | exact at_new (by simp) | refine at_old (by simp <;> omega) ?_)
  have bC : Boxed W8 (s + 1) 62 (.int .u32 0) := by
    subst hs0 hW8; unfold Boxed; repeat (first | exact at_new (by simp) | refine at_old (by simp <;> omega) ?_)
  have bD : Boxed W8 (s + 2) 145 (.func (.func 157) #[] #[.pointer (some ⟨s, 0, none⟩), .pointer (some ⟨s + 1, 0, none⟩)]) := by
    subst hs0 hW8; unfold Boxed; repeat (first | exact at_new (by simp) | refine at_old (by simp <;> omega) ?_)
  have bO : Boxed W8 (s + 4) 22 (.slice (some ⟨s + 3, 0, none⟩) 0 n) := by
    subst hs0 hW8; unfold Boxed; repeat (first | exact at_new (by simp) | refine at_old (by simp <;> omega) ?_)
  have bA : Boxed W8 (s + 5) 22 (.slice A na ca) := by
    subst hs0 hW8; unfold Boxed; repeat (first | exact at_new (by simp) | refine at_old (by simp <;> omega) ?_)
  have bB : Boxed W8 (s + 6) 22 (.slice B nb cb) := by
    subst hs0 hW8; unfold Boxed; repeat (first | exact at_new (by simp) | refine at_old (by simp <;> omega) ?_)
  have bN : Boxed W8 (s + 7) 3 (.int .i64 n) := by
    subst hs0 hW8; unfold Boxed; repeat (first | exact at_new (by simp) | refine at_old (by simp <;> omega) ?_)
  have hR8 : W8.heap[s + 3]? = some (.cells (madeCells #[.int .u32 0] n) 62 (0, 0)) := by
    subst hs0 hW8; repeat (first | exact at_new (by simp) | refine at_old (by simp <;> omega) ?_)
  have hsz : W8.heap.size = s + 8 := by subst hs0 hW8; simp
  have hB0 : Below s w W8 := by
    subst hs0 hW8
    exact (((((((((Below.refl _ w).alloc (Nat.le_refl _) _).alloc (by simp) _).alloc (by simp; omega) _).alloc (by simp; omega) _).alloc (by simp; omega) _).alloc (by simp; omega) _).alloc (by simp; omega) _).alloc (by simp; omega) _)
  have hown0 : W8.ownsRow s 62 1 (.slice (some ⟨s + 3, 0, none⟩) 0 n) 0 [] :=
    ⟨rfl, .inr ⟨s + 3, n, _, rfl, by omega, hR8, Nat.zero_le _, by simp only [maxLen]; omega, by rw [size_madeCells, Nat.mul_one], by simp⟩⟩
  rw [← hs0]
  simp only [Nat.add_assoc, Nat.reduceAdd]
  rw [hW8]
  clear hW8
  have HS := Lib.hid hs0
  have hlt : ∀ (X : Option Addr) (l : List Nat), Rd w X l → ∀ ad i, X = some ad → i < l.length → (ad.add i).block < s := fun X l hX ad i e hi => by
    subst e
    obtain ⟨ad', e', hc⟩ := hX.get i hi
    cases e'
    rw [hs0]; exact World.block_lt_of_cell? w _ hc
  clear hs0
  refine wpIn_rangeFunc_ownF (Kp := KeepC (fun k => k < s ∨ s + 5 ≤ k ∧ k < s + 8)) (w0 := W8) rfl (by omega) (gf := 158) (lb := #[.pointer (some ⟨s + 7, 0, none⟩), .pointer (some ⟨s + 5, 0, none⟩), .pointer (some ⟨s + 6, 0, none⟩)]) rfl trivial (enters_of Tryz.func158 (by kernel_rfl) rfl)
    (pairs_stops (s + 5) (s + 6) (s + 7) _ A na ca a B nb cb b n W8 hn hna hnb hla hlb (.inr (by omega)) (.inr (by omega)) (fun ad i e hi => .inl (hlt A a hA ad i e hi)) (fun ad i e hi => .inl (hlt B b hB ad i e hi)) bA.cell bB.cell bN.cell (hA.below (HS.out ▸ hB0)) (hB.below (HS.out ▸ hB0)))
    KeepC.t KeepC.b (Below.refl _ _) (fun _ => rfl)
    (fun pre W => (Boxed W (s + 4) 22 (.slice (some ⟨s + 3, 0, none⟩) pre.length n) ∧ W.ownsRow s 62 1 (.slice (some ⟨s + 3, 0, none⟩) pre.length n) pre.length (vals (runS st a b pre).1)) ∧ Boxed W (s + 1) 62 (.int .u32 ((runS st a b pre).2 : Nat)) ∧
      Boxed W (s + 2) 145 (.func (.func 157) #[] #[.pointer (some ⟨s, 0, none⟩), .pointer (some ⟨s + 1, 0, none⟩)]) ∧ Boxed W s 127 (.func (.func fs) #[] #[]) ∧ Below s w W)
    (fun _ _ _ => False) ?own (fun _ _ _ _ _ hs _ _ => hs) ?start
    (fun x => { tmps := #[.slice A na ca, .slice B nb cb, .int .i64 n, .func (.func fs) #[] #[], undef, undef, undef, undef, .slice none 0 0, .pointer (some ⟨s + 2, 0, none⟩), .pointer (some ⟨s + 4, 0, none⟩), .int .u32 (gl a x : Nat), .int .u32 (gl b x : Nat),
      .func (.func fs) #[] #[], .func (.func 157) #[] #[.pointer (some ⟨s, 0, none⟩), .pointer (some ⟨s + 1, 0, none⟩)], .int .i64 n, .slice (some ⟨s + 3, 0, none⟩) 0 n, .slice A na ca, .slice B nb cb, .int .i64 n,
      .func (.func 158) #[] #[.pointer (some ⟨s + 7, 0, none⟩), .pointer (some ⟨s + 5, 0, none⟩), .pointer (some ⟨s + 6, 0, none⟩)], .int .u32 (gl a x : Nat), .int .u32 (gl b x : Nat), undef, undef, undef, undef, undef, undef, undef, undef, undef], defers := [] }) ?assign ?body ?done ?stop
  case own =>
    refine OwnFrom.and (Own.from ?_ _) (OwnFrom.and (Own.from (boxed_own _ _ _) _) (OwnFrom.and (Own.from (boxed_own _ _ _) _) (OwnFrom.and (Own.from (boxed_own _ _ _) _) (ownFrom_below (Nat.le_of_eq HS.out) (by omega)))))
    intro pre Y Z row h hg hr
    obtain ⟨h1, h2⟩ := h
    refine ⟨boxed_own _ _ (fun _ : Unit => _) () Y Z row h1 hg hr, h2.kept hg (.inr (fun e => ?_))⟩
    obtain ⟨o, ho, hc⟩ := hr (s + 3) e.symm
    rcases h2.2 with ⟨h, _⟩ | ⟨g, cap, cur, h, _, hgb, _⟩
    · cases h
    · cases h; rw [hgb] at ho; cases ho; cases hc
  case start => exact ⟨⟨bO, hown0⟩, bC, bD, bS, hB0⟩
  case assign =>
    intro l x W K hK
    gi_wp2
    exact hK
  case stop =>
    rintro D c pre W _ _ h _
    exact h.elim
  case done =>
    rintro D ys W hD rfl ⟨⟨hv, hrow⟩, _, _, _, hB⟩ hK
    rw [List.length_range] at hrow hv
    obtain ⟨X, cx, hXe, hcx, hcm, hrd⟩ := ownV_rd hrow
    cases hXe
    have hc := hv.cell
    have hmake := make_c (some ⟨s + 3, 0, none⟩) n n (runS st a b (List.range n)).1 W (by rw [runS_len, List.length_range]) hrd (runS_ok hs ha hb _).1 hn hcx
    have HM := Lib.hid hmake
    clear hmake hrow hrd hv
    gi_wp2_with (refine ⟨trivial, ?_⟩; gi_at_call 79; (with_reducible refine (callsIn_wide.2 (Hid.out HM)).mono ?_); rintro e w1 ⟨Y, cy, rfl, hY, hbY⟩)
    have hDlt : D < W.heap.size := (Array.getElem?_eq_some_iff.1 hK).1
    have hK1 := (hbY.block D hDlt).trans hK
    refine ⟨by simp, .inl ⟨_, _, rfl, run_takeDeferred hK1, ?_⟩⟩
    have hDs : s ≤ D := by omega
    have hWs : s ≤ W.heap.size := by omega
    have hp : Below s w (w1.putObj D (.deferred none)) := (hB.trans (hbY.mono hWs)).trans (belowK_b (w := W8) (by omega) w1 D _ _ hD hK1 rfl rfl)
    have hp2 : Below w.heap.size w (w1.putObj D (.deferred none)) := hp.mono (Nat.le_of_eq HS.out.symm)
    refine ⟨_, results_tmp rfl _ _ _, ?_⟩
    refine ⟨Y, cy, rfl, ⟨?_, hY.cap, hY.cmax⟩, hp2⟩
    rcases hY.rd with h | ⟨ad, rfl, h⟩
    · exact .inl h
    · exact .inr ⟨ad, rfl, fun i u hu => cell_kept (h i u hu) (grownBy_putObj' w1 D _) (fun r e => by cases e; exact ⟨_, hK1, rfl⟩)⟩
  case body =>
    rintro l pre x W ⟨⟨hv, hrow⟩, hC, hDo, hS, hB⟩ hlen
    have hx := ha.gl x
    have hy := hb.gl x
    have hc := (runS_ok hs ha hb pre).2
    have hcall := carried1_c fs st hs (gl a x) (gl b x) (runS st a b pre).2 s (s + 1) W.drew hx hy hc hS hC
    have hst := hs.2.1 _ _ _ hx hy hc
    generalize hr : (st (gl a x) (gl b x) (runS st a b pre).2).1 = r at *
    generalize hc' : (st (gl a x) (gl b x) (runS st a b pre).2).2 = c' at *
    have hrun := runS_snoc st a b pre x
    rw [hr, hc'] at hrun
    have HR := Lib.hid hrun
    have HC := Lib.hid hcall
    clear hr hc' hrun hcall hmk
    obtain ⟨W1, hW1⟩ : ∃ W1, W.drew.setCell ⟨s + 1, 0, none⟩ (.int .u32 (c' : Nat)) = W1 := ⟨_, rfl⟩
    rw [hW1] at HC
    have hlt4 := hv.lt
    have hzw : W1.heap.size = W.heap.size := by rw [← hW1]; exact World.size_setCell _ _ _
    have hB1 : Boxed W1 (s + 4) 22 (.slice (some ⟨s + 3, 0, none⟩) pre.length n) := by rw [← hW1]; exact Boxed.other (W := W.drew) hv (by omega) _
    have hCne : (Value.slice (some ⟨s + 3, 0, none⟩) pre.length n).ownBlock = none ∨ (Value.slice (some ⟨s + 3, 0, none⟩) pre.length n).ownBlock ≠ some (s + 1) := .inr (by simp [Value.ownBlock])
    have hrow1 : W1.ownsRow s 62 1 (.slice (some ⟨s + 3, 0, none⟩) pre.length n) pre.length (vals (runS st a b pre).1) := by
      rw [← hW1]
      exact World.ownsRow.kept (w := W.drew) hrow (grownBy_setCell' W.drew (s + 1) _) (hCne)
    gi_wp2_with (fail)
    refine wpIn_region_inv (fun D a' w' => ∃ u23 u24 u25 u26 u27 u28 u29 : Value,
      a' = { tmps := #[.slice A na ca, .slice B nb cb, .int .i64 n, .func (.func fs) #[] #[], undef, undef, undef, undef, .slice none 0 0, .pointer (some ⟨s + 2, 0, none⟩), .pointer (some ⟨s + 4, 0, none⟩), .int .u32 (gl a x : Nat), .int .u32 (gl b x : Nat),
        .func (.func fs) #[] #[], .func (.func 157) #[] #[.pointer (some ⟨s, 0, none⟩), .pointer (some ⟨s + 1, 0, none⟩)], .int .i64 n, .slice (some ⟨s + 3, 0, none⟩) 0 n, .slice A na ca, .slice B nb cb, .int .i64 n,
        .func (.func 158) #[] #[.pointer (some ⟨s + 7, 0, none⟩), .pointer (some ⟨s + 5, 0, none⟩), .pointer (some ⟨s + 6, 0, none⟩)], .int .u32 (gl a x : Nat), .int .u32 (gl b x : Nat), u23, u24, u25, u26, u27, u28, u29, undef, undef], defers := [] } ∧
      (D 0 = true → u23 = .slice (some ⟨s + 3, 0, none⟩) pre.length n) ∧ (D 1 = true → u24 = .func (.func 157) #[] #[.pointer (some ⟨s, 0, none⟩), .pointer (some ⟨s + 1, 0, none⟩)]) ∧ (D 2 = true → u25 = .int .u32 (gl a x : Nat)) ∧ (D 3 = true → u26 = .int .u32 (gl b x : Nat)) ∧
      (D 4 = true → u27 = .int .u32 (r : Nat)) ∧ (D 5 = true → u28 = .slice (some ⟨W1.heap.size, 0, none⟩) 1 1) ∧
      ((D 4 = false ∧ D 5 = false ∧ D 6 = false ∧ D 7 = false ∧ w' = W.drew) ∨ (D 1 = true ∧ D 2 = true ∧ D 3 = true ∧ D 4 = true ∧ D 5 = false ∧ D 6 = false ∧ D 7 = false ∧ w' = W1) ∨
       (D 1 = true ∧ D 2 = true ∧ D 3 = true ∧ D 4 = true ∧ D 5 = true ∧ D 6 = false ∧ D 7 = false ∧ w' = W1.alloc (.cells #[.int .u32 (r : Nat)] 62)) ∨
       (D 0 = true ∧ D 1 = true ∧ D 2 = true ∧ D 3 = true ∧ D 4 = true ∧ D 5 = true ∧ D 6 = true ∧ D 7 = false ∧ u29 = .slice (some ⟨s + 3, 0, none⟩) (pre.length + 1) n ∧ w'.ownsRow s 62 1 (.slice (some ⟨s + 3, 0, none⟩) (pre.length + 1) n) (pre.length + 1) (vals ((runS st a b pre).1 ++ [r])) ∧ (W1.alloc (.cells #[.int .u32 (r : Nat)] 62)).grownBy w' (some (s + 3))) ∨
       (D 0 = true ∧ D 1 = true ∧ D 2 = true ∧ D 3 = true ∧ D 4 = true ∧ D 5 = true ∧ D 6 = true ∧ D 7 = true ∧ ∃ w3, w' = w3.setCell ⟨s + 4, 0, none⟩ (.slice (some ⟨s + 3, 0, none⟩) (pre.length + 1) n) ∧ w3.ownsRow s 62 1 (.slice (some ⟨s + 3, 0, none⟩) (pre.length + 1) n) (pre.length + 1) (vals ((runS st a b pre).1 ++ [r])) ∧ (W1.alloc (.cells #[.int .u32 (r : Nat)] 62)).grownBy w3 (some (s + 3)))))
      (by kernel_rfl) (by kernel_rfl) ?init ?fin ?step
    case init => exact ⟨_, _, _, _, _, _, _, rfl, by simp, by simp, by simp, by simp, by simp, by simp, .inl ⟨rfl, rfl, rfl, rfl, rfl⟩⟩
    case fin =>
      rintro D a' w' ⟨u23, u24, u25, u26, u27, u28, u29, rfl, h0, h1, h2, h3, h4, h5, hw⟩ hall
      have d7 := hall 7 (by decide)
      obtain ⟨w3, rfl, hown3, hgrow⟩ : ∃ w3, w' = w3.setCell ⟨s + 4, 0, none⟩ (.slice (some ⟨s + 3, 0, none⟩) (pre.length + 1) n) ∧ w3.ownsRow s 62 1 (.slice (some ⟨s + 3, 0, none⟩) (pre.length + 1) n) (pre.length + 1) (vals ((runS st a b pre).1 ++ [r])) ∧ (W1.alloc (.cells #[.int .u32 (r : Nat)] 62)).grownBy w3 (some (s + 3)) := by
        rcases hw with h | h | h | h | ⟨_, _, _, _, _, _, _, _, h⟩
        · simp [d7] at h
        · simp [d7] at h
        · simp [d7] at h
        · simp [d7] at h
        · exact h
      have hC1 : Boxed W1 (s + 1) 62 (.int .u32 (c' : Nat)) := by rw [← hW1]; exact Boxed.set _ (W := W.drew) hC
      have hD1 : Boxed W1 (s + 2) 145 (.func (.func 157) #[] #[.pointer (some ⟨s, 0, none⟩), .pointer (some ⟨s + 1, 0, none⟩)]) := by rw [← hW1]; exact Boxed.other (W := W.drew) hDo (by omega) _
      have hS1 : Boxed W1 s 127 (.func (.func fs) #[] #[]) := by rw [← hW1]; exact Boxed.other (W := W.drew) hS (by omega) _
      have hK0 := KeepsOthers.setCell W.drew ⟨s + 1, 0, none⟩ (.int .u32 (c' : Nat))
      have hK1 : KeepsOthers W W1 := by rw [← hW1]; exact ⟨hK0.size, fun k o hk ho => hK0.same k o hk ho⟩
      have hKe1 : KeepC (fun k => k < s ∨ s + 5 ≤ k ∧ k < s + 8) W W1 := by
        rw [← hW1]
        intro p v hp hv
        rw [World.cell?_of_block (w := W) (a := p) (Below.heap_setCell W.drew ⟨s + 1, 0, none⟩ _ p.block (by simp; omega))]
        exact hv
      have hBe1 : Below s w W1 := by rw [← hW1]; exact hB.drew.setCell (p := ⟨s + 1, 0, none⟩) (by simp) _
      have hg : ∀ {B t v}, B ≠ s + 3 → Boxed W1 B t v → Boxed w3 B t v := fun hne h => (h.alloc _).kept hgrow (by simpa using hne)
      have b4 := hg (by omega) hB1
      show KeepsOthers W _ ∧ KeepC _ W _ ∧ _
      refine ⟨?_, ?_, ⟨⟨?_, ?_⟩, ?_, ?_, ?_, ?_⟩⟩
      · refine hK1.trans ((KeepsOthers.alloc _ _).trans ((KeepsOthers.of_grownBy hgrow fun j o ej hj => ?_).trans (KeepsOthers.setCell _ _ _)))
        cases ej
        have := (hrow1.alloc (.cells #[.int .u32 (r : Nat)] 62)).2
        rcases this with ⟨h, _⟩ | ⟨g, cap, cur, h, _, hgb, _⟩
        · cases h
        · cases h; rw [hgb] at hj; cases hj; rfl
      · intro p v hp hv
        have := hKe1 p v hp hv
        have hlt1 := World.block_lt_of_cell? W1 p this
        rw [World.cell?_of_block (w := w3) (a := p) (Below.heap_setCell w3 ⟨s + 4, 0, none⟩ _ p.block (by simp; omega))]
        refine hgrow.cell (a := p) ?_ (by simp; omega)
        exact cell_below ((Below.refl _ _).alloc (Nat.le_refl _) _) this
      · have := b4.set (.slice (some ⟨s + 3, 0, none⟩) (pre.length + 1) n)
        simpa using this
      · have := hown3.kept (grownBy_setCell' w3 (s + 4) (.slice (some ⟨s + 3, 0, none⟩) (pre.length + 1) n)) (.inr (by simp [Value.ownBlock]))
        rw [HR.out]
        simpa using this
      · rw [HR.out]; exact (hg (by omega) hC1).other (by omega) _
      · exact (hg (by omega) hD1).other (by omega) _
      · exact (hg (by omega) hS1).other (by omega) _
      · exact ((hBe1.alloc (by omega) _).grown hgrow (by simp; omega) (fun k e => by cases e; omega)).setCell (p := ⟨s + 4, 0, none⟩) (by simp) _
    case step =>
      rintro D a' w' i ⟨u23, u24, u25, u26, u27, u28, u29, rfl, h0, h1, h2, h3, h4, h5, hw⟩ hi hDi hdep
      obtain rfl | rfl | rfl | rfl | rfl | rfl | rfl | rfl : i = 0 ∨ i = 1 ∨ i = 2 ∨ i = 3 ∨ i = 4 ∨ i = 5 ∨ i = 6 ∨ i = 7 := by
        simp at hi; omega
      · simp only [hDi, Bool.false_eq_true, false_and, or_false] at hw
        have hcell : w'.cell? ⟨s + 4, 0, none⟩ = some (.slice (some ⟨s + 3, 0, none⟩) pre.length n) := by
          rcases hw with h | h | h
          · rw [h.2.2.2.2]; exact hv.cell
          · rw [h.2.2.2.2.2.2.2]; exact hB1.cell
          · rw [h.2.2.2.2.2.2.2]; exact (hB1.alloc _).cell
        refine wpOpIn_step rfl (fun K' hK' => ?_)
        go_simp
        refine hK' _ _ ?_
        refine ⟨_, _, _, _, _, _, _, rfl, fun _ => rfl, (by first | exact kd h1 | exact fun _ => rfl | exact fun _ => by simp [hzw]), (by first | exact kd h2 | exact fun _ => rfl | exact fun _ => by simp [hzw]), (by first | exact kd h3 | exact fun _ => rfl | exact fun _ => by simp [hzw]), (by first | exact kd h4 | exact fun _ => rfl | exact fun _ => by simp [hzw]), (by first | exact kd h5 | exact fun _ => rfl | exact fun _ => by simp [hzw]), ?_⟩
        rcases hw with h | h | h
        · exact .inl (by simpa using h)
        · exact .inr (.inl (by simpa using h))
        · exact .inr (.inr (.inl (by simpa using h)))
      · simp only [hDi, Bool.false_eq_true, false_and, and_false, or_false] at hw
        have hcell : w'.cell? ⟨s + 2, 0, none⟩ = some (.func (.func 157) #[] #[.pointer (some ⟨s, 0, none⟩), .pointer (some ⟨s + 1, 0, none⟩)]) := by
          rw [hw.2.2.2.2]; exact hDo.cell
        obtain ⟨e4, e5, e6, e7, rfl⟩ := hw
        refine wpOpIn_step rfl (fun K' hK' => ?_)
        go_simp
        refine hK' _ _ ?_
        exact ⟨_, _, _, _, _, _, _, rfl, (by first | exact kd h0 | exact fun _ => rfl | exact fun _ => by simp [hzw]), fun _ => rfl, (by first | exact kd h2 | exact fun _ => rfl | exact fun _ => by simp [hzw]), (by first | exact kd h3 | exact fun _ => rfl | exact fun _ => by simp [hzw]), (by first | exact kd h4 | exact fun _ => rfl | exact fun _ => by simp [hzw]), (by first | exact kd h5 | exact fun _ => rfl | exact fun _ => by simp [hzw]), .inl (by simp [e4, e5, e6, e7])⟩
      · simp only [hDi, Bool.false_eq_true, false_and, and_false, or_false] at hw
        obtain ⟨e4, e5, e6, e7, rfl⟩ := hw
        refine wpOpIn_step rfl (fun K' hK' => ?_)
        go_simp
        refine hK' _ _ ?_
        exact ⟨_, _, _, _, _, _, _, rfl, (by first | exact kd h0 | exact fun _ => rfl | exact fun _ => by simp [hzw]), (by first | exact kd h1 | exact fun _ => rfl | exact fun _ => by simp [hzw]), fun _ => rfl, (by first | exact kd h3 | exact fun _ => rfl | exact fun _ => by simp [hzw]), (by first | exact kd h4 | exact fun _ => rfl | exact fun _ => by simp [hzw]), (by first | exact kd h5 | exact fun _ => rfl | exact fun _ => by simp [hzw]), .inl (by simp [e4, e5, e6, e7])⟩
      · simp only [hDi, Bool.false_eq_true, false_and, and_false, or_false] at hw
        obtain ⟨e4, e5, e6, e7, rfl⟩ := hw
        refine wpOpIn_step rfl (fun K' hK' => ?_)
        go_simp
        refine hK' _ _ ?_
        exact ⟨_, _, _, _, _, _, _, rfl, (by first | exact kd h0 | exact fun _ => rfl | exact fun _ => by simp [hzw]), (by first | exact kd h1 | exact fun _ => rfl | exact fun _ => by simp [hzw]), (by first | exact kd h2 | exact fun _ => rfl | exact fun _ => by simp [hzw]), fun _ => rfl, (by first | exact kd h4 | exact fun _ => rfl | exact fun _ => by simp [hzw]), (by first | exact kd h5 | exact fun _ => rfl | exact fun _ => by simp [hzw]), .inl (by simp [e4, e5, e6, e7])⟩
      · have d1 := hdep _ rfl ⟨1, .data⟩ (by simp) rfl
        have d2 := hdep _ rfl ⟨2, .data⟩ (by simp) rfl
        have d3 := hdep _ rfl ⟨3, .data⟩ (by simp) rfl
        obtain rfl := h1 d1
        obtain rfl := h2 d2
        obtain rfl := h3 d3
        simp only [hDi, Bool.false_eq_true, false_and, and_false, or_false] at hw
        obtain ⟨_, e5, e6, e7, rfl⟩ := hw
        refine wpOpIn_step rfl (fun K' hK' => ?_)
        go_simp
        refine ⟨trivial, ?_⟩
        refine (CallsIn.inRound l (callsIn_wide.2 HC.out)).mono ?_
        rintro e w' ⟨rfl, rfl⟩
        refine hK' _ _ ?_
        exact ⟨_, _, _, _, _, _, _, rfl, (by first | exact kd h0 | exact fun _ => rfl | exact fun _ => by simp [hzw]), fun _ => rfl, fun _ => rfl, fun _ => rfl, fun _ => rfl, (by first | exact kd h5 | exact fun _ => rfl | exact fun _ => by simp [hzw]), .inr (.inl (by simp [d1, d2, d3, e5, e6, e7]))⟩
      · have d4 := hdep _ rfl ⟨4, .data⟩ (by simp) rfl
        obtain rfl := h4 d4
        simp only [hDi, d4, Bool.true_eq_false, Bool.false_eq_true, false_and, and_false, or_false, false_or, true_and] at hw
        obtain ⟨d1, d2, d3, e6, e7, rfl⟩ := hw
        refine wpOpIn_step rfl (fun K' hK' => ?_)
        go_simp
        refine hK' _ _ ?_
        exact ⟨_, _, _, _, _, _, _, rfl, (by first | exact kd h0 | exact fun _ => rfl | exact fun _ => by simp [hzw]), (by first | exact kd h1 | exact fun _ => rfl | exact fun _ => by simp [hzw]), (by first | exact kd h2 | exact fun _ => rfl | exact fun _ => by simp [hzw]), (by first | exact kd h3 | exact fun _ => rfl | exact fun _ => by simp [hzw]), fun _ => rfl, fun _ => by simp [hzw], .inr (.inr (.inl (by simp [d1, d2, d3, d4, e6, e7])))⟩
      · have d0 := hdep _ rfl ⟨0, .data⟩ (by simp) rfl
        have d5 := hdep _ rfl ⟨5, .data⟩ (by simp) rfl
        obtain rfl := h0 d0
        obtain rfl := h5 d5
        simp only [hDi, d5, Bool.true_eq_false, Bool.false_eq_true, false_and, and_false, or_false, false_or, true_and] at hw
        obtain ⟨d1, d2, d3, d4, e7, rfl⟩ := hw
        obtain ⟨w3, hrun, r1, r2⟩ := run_append_fits (P := Tryz.prog) (W1.alloc (.cells #[.int .u32 (r : Nat)] 62)) s 22 22 62 i0 1 Tryz.underlying22 hi' hz1 (s + 3) _ _ _ (hrow1.alloc _) ⟨W1.heap.size, 0, none⟩ 1 1 [.int .u32 (r : Nat)] rfl (cell_one_new _ _ _) (by simp [Value.oneCell']) (by omega)
        refine wpOpIn_step rfl (fun K' hK' => ?_)
        rw [if_pos (by simp [Region.wanted])]
        unfold Oper.wpIn
        refine ⟨by simp [Oper.about, resolve, Target.leads, Sem.run_pure], ?_⟩
        rw [Oper.semAt_plain (Fence.wide.inRound l) _ _ (by intro c hc'; cases hc')]
        simp [execOp, resolve, invoke, builtin, Act.eval, hrun, Result.andThen, Oper.uponIn]
        refine hK' _ _ ?_
        refine ⟨_, _, _, _, _, _, _, rfl, fun _ => rfl, (by first | exact kd h1 | exact fun _ => rfl | exact fun _ => by simp [hzw]), (by first | exact kd h2 | exact fun _ => rfl | exact fun _ => by simp [hzw]), (by first | exact kd h3 | exact fun _ => rfl | exact fun _ => by simp [hzw]), (by first | exact kd h4 | exact fun _ => rfl | exact fun _ => by simp [hzw]), fun _ => rfl, .inr (.inr (.inr (.inl (by simp [d0, d1, d2, d3, d4, d5, e7]; exact ⟨by rw [vals_append]; exact r1, r2⟩))))⟩
      · have d6 := hdep _ rfl ⟨6, .data⟩ (by simp) rfl
        simp only [hDi, d6, Bool.true_eq_false, Bool.false_eq_true, false_and, and_false, or_false, false_or, true_and] at hw
        obtain ⟨d0, d1, d2, d3, d4, d5, rfl, hown3, hgrow⟩ := hw
        have b4 : Boxed w' (s + 4) 22 _ := (hB1.alloc _).kept hgrow (by simp)
        have hc4 := b4.cell
        have hf4 := b4.frozen
        refine wpOpIn_step rfl (fun K' hK' => ?_)
        go_simp
        refine hK' _ _ ?_
        exact ⟨_, _, _, _, _, _, _, rfl, (by first | exact kd h0 | exact fun _ => rfl | exact fun _ => by simp [hzw]), (by first | exact kd h1 | exact fun _ => rfl | exact fun _ => by simp [hzw]), (by first | exact kd h2 | exact fun _ => rfl | exact fun _ => by simp [hzw]), (by first | exact kd h3 | exact fun _ => rfl | exact fun _ => by simp [hzw]), (by first | exact kd h4 | exact fun _ => rfl | exact fun _ => by simp [hzw]), (by first | exact kd h5 | exact fun _ => rfl | exact fun _ => by simp [hzw]), .inr (.inr (.inr (.inr (by simp [d0, d1, d2, d3, d4, d5, d6]; exact ⟨w', rfl, hown3, hgrow⟩))))⟩
end Go.Proofs.YtopigejgadnkaaaGreatDoor

namespace Go.Proofs.YtopigejgadnkaaaGreatDoor
open Go.RowKit Go.Shelf

theorem val_take_any (l : List Nat) (k : Nat) : val (l.take (k + 1)) = val (l.take k) + 4294967296 ^ k * gl l k := by
  by_cases h : k < l.length
  · exact val_take_succ l k h
  · rw [List.take_of_length_le (by omega), List.take_of_length_le (by omega), gl_of_le (by omega)]; simp

def stA (x y c : Nat) : Nat × Nat := ((x + y + c) % 4294967296, (x + y + c) / 4294967296)
def stS (x y c : Nat) : Nat × Nat := (dif x y c, brw x y c)
theorem stepA : StepC 120 stA :=
  ⟨enters_of Tryz.func120 (by kernel_rfl) rfl, fun x y c hx hy hc => ⟨Nat.mod_lt _ (by decide), by show (x + y + c) / 4294967296 ≤ 1; omega⟩, fun x y c w hx hy hc => add32_c x y c w hx hy hc⟩
theorem runA (a b : List Nat) (n : Nat) : val (runS stA a b (List.range n)).1 + 4294967296 ^ n * (runS stA a b (List.range n)).2 = val (a.take n) + val (b.take n) := by
  induction n with
  | zero => simp [runS, val]
  | succ n ih =>
    rw [List.range_succ, runS_snoc, val_take_any, val_take_any, val_snoc, runS_len, List.length_range]
    simp only [stA]
    have e := Nat.div_add_mod (gl a n + gl b n + (runS stA a b (List.range n)).2) 4294967296
    generalize (gl a n + gl b n + (runS stA a b (List.range n)).2) / 4294967296 = q at *
    generalize (gl a n + gl b n + (runS stA a b (List.range n)).2) % 4294967296 = r at *
    generalize (runS stA a b (List.range n)).2 = c at *
    rw [Nat.pow_succ]
    grind
theorem runS_sub {fs : Nat} (a b : List Nat) (ha : Lim a) (hb : Lim b) (hs : StepC fs stS) (n : Nat) : val (runS stS a b (List.range n)).1 + val (b.take n) = val (a.take n) + 4294967296 ^ n * (runS stS a b (List.range n)).2 := by
  induction n with
  | zero => simp [runS, val]
  | succ n ih =>
    rw [List.range_succ, runS_snoc, val_take_any, val_take_any, val_snoc, runS_len, List.length_range]
    simp only [stS]
    have e := dif_eq (ha.gl n) (hb.gl n) (runS_ok hs ha hb (List.range n)).2
    generalize dif (gl a n) (gl b n) (runS stS a b (List.range n)).2 = q at *
    generalize brw (gl a n) (gl b n) (runS stS a b (List.range n)).2 = r at *
    generalize (runS stS a b (List.range n)).2 = c at *
    rw [Nat.pow_succ]
    grind
theorem stepS : StepC 128 stS :=
  ⟨enters_of Tryz.func128 (by kernel_rfl) rfl, fun x y c hx hy hc => ⟨dif_lt _ _ _, brw_le _ _ _⟩, fun x y c w hx hy hc => sub32_c x y c w hx hy hc⟩
theorem take_limbs {n k : Nat} (h : nl n ≤ k) : val ((limbs n).take k) = n := by rw [List.take_of_length_le h, val_limbs]

theorem add_val (a b m : Nat) (hm : max (nl a) (nl b) ≤ m) : val (runS stA (limbs a) (limbs b) (List.range (m + 1))).1 = a + b := by
  have e := runA (limbs a) (limbs b) (m + 1)
  rw [take_limbs (by omega), take_limbs (by omega)] at e
  have h1 : a < 4294967296 ^ m := nl_le.1 (by omega)
  have h2 : b < 4294967296 ^ m := nl_le.1 (by omega)
  rw [Nat.pow_succ] at e
  generalize 4294967296 ^ m = p at *
  generalize (runS stA (limbs a) (limbs b) (List.range (m + 1))).2 = q at *
  have h3 : q = 0 := by
    by_cases hq : q = 0
    · exact hq
    · have := Nat.mul_le_mul_left (p * 4294967296) (show 1 ≤ q by omega)
      omega
  rw [h3, Nat.mul_zero, Nat.add_zero] at e
  exact e
theorem sub_val (a b : Nat) (h : b ≤ a) : val (runS stS (limbs a) (limbs b) (List.range (nl a))).1 = a - b := by
  have e := runS_sub (limbs a) (limbs b) (lim_limbs a) (lim_limbs b) stepS (nl a)
  rw [take_limbs (Nat.le_refl _), take_limbs (nl_mono h)] at e
  have hl := val_lt (runS_ok stepS (lim_limbs a) (lim_limbs b) (List.range (nl a))).1
  rw [runS_len, List.length_range] at hl
  generalize 4294967296 ^ nl a = p at *
  generalize (runS stS (limbs a) (limbs b) (List.range (nl a))).2 = q at *
  have h3 : q = 0 := by
    by_cases hq : q = 0
    · exact hq
    · have := Nat.mul_le_mul_left p (show 1 ≤ q by omega)
      omega
  subst h3
  simp only [Nat.mul_zero, Nat.add_zero] at e
  omega

attribute [local go_sem] max2_i min2_i max_two min_two

theorem add_c (A : Option Addr) (c a : Nat) (B : Option Addr) (d b : Nat) (w : World) (hA : NatV w A c a) (hB : NatV w B d b) (ha : nl a ≤ 1073741824) (hb : nl b ≤ 1073741824) :
    Calls Tryz.prog 88 #[.slice A (nl a) c, .slice B (nl b) d] w (RetN w (a + b)) := by
  have hc := all_c _ _ stepA A (nl a) c (limbs a) B (nl b) d (limbs b) (max (nl a) (nl b) + 1) w (by omega) rfl rfl (by omega) (by omega) hA.rd hB.rd (lim_limbs a) (lim_limbs b)
  rw [add_val a b _ (Nat.le_refl _)] at hc
  have HC := Lib.hid hc
  clear hc
  go_enter Tryz.func88, Tryz.ntmps88
  go_wp2_with (fail)
  rw [show (max (nl a : Int) (nl b : Int) + 1) = ((max (nl a) (nl b) + 1 : Nat) : Int) by omega]
  refine HC.out.mono ?_
  rintro e w1 ⟨X, cx, rfl, h1, h2⟩
  go_wp2_with (fail)
  go_ret
  exact ⟨X, cx, rfl, h1, h2⟩

def cmpN (a b : Nat) : Int := if a < b then -1 else if b < a then 1 else 0
theorem cmpN_lt {a b : Nat} (h : a < b) : cmpN a b = -1 := by simp [cmpN, h]
theorem cmpN_gt {a b : Nat} (h : b < a) : cmpN a b = 1 := by
  unfold cmpN; rw [if_neg (by omega), if_pos h]
theorem cmpN_eq {a b : Nat} (h : a = b) : cmpN a b = 0 := by simp [cmpN, h]
theorem cmpN_neg {a b : Nat} : cmpN a b < 0 ↔ a < b := by unfold cmpN; split <;> (try split) <;> omega
theorem cmpN_zero {a b : Nat} : cmpN a b = 0 ↔ a = b := by unfold cmpN; split <;> (try split) <;> omega

theorem split_at (l : List Nat) (k : Nat) (h : k < l.length) : val l = val (l.take k) + 4294967296 ^ k * gl l k + 4294967296 ^ (k + 1) * val (l.drop (k + 1)) := by
  conv => lhs; rw [← List.take_append_drop (k + 1) l]
  rw [val_append, val_take_succ l k h, List.length_take, Nat.min_eq_left (by omega)]
theorem drop_eq {l m : List Nat} (hl : l.length = m.length) {k : Nat} (h : ∀ j, k ≤ j → j < l.length → gl l j = gl m j) : l.drop k = m.drop k := by
  apply List.ext_getElem
  · simp [hl]
  · intro i h1 h2
    have h1' : k + i < l.length := by simp at h1; omega
    have := h (k + i) (by omega) h1'
    rw [gl_get h1', gl_get (by omega)] at this
    simpa using this
theorem val_lt_of {l m : List Nat} (hl : l.length = m.length) (ha : Lim l) {k : Nat} (hk : k < l.length) (h : ∀ j, k + 1 ≤ j → j < l.length → gl l j = gl m j) (hlt : gl l k < gl m k) : val l < val m := by
  have e1 := split_at l k hk
  have e2 := split_at m k (by omega)
  rw [drop_eq hl h] at e1
  have h1 := val_lt (ha.take k)
  rw [List.length_take, Nat.min_eq_left (by omega)] at h1
  have h2 : 4294967296 ^ k * gl l k + 4294967296 ^ k ≤ 4294967296 ^ k * gl m k := by
    rw [← Nat.mul_succ]; exact Nat.mul_le_mul_left _ hlt
  omega
theorem val_eq_of {l m : List Nat} (hl : l.length = m.length) (h : ∀ j, 0 ≤ j → j < l.length → gl l j = gl m j) : l = m := by
  have := drop_eq hl (k := 0) h
  simpa using this

theorem _root_.Go.RowKit.Below.drewN {B : Nat} {w W : World} (h : Below B w W) (n : Nat) : Below B w (W.drewN n) := ⟨h.os, h.tape, h.output, h.size, h.block⟩

theorem cmp_c (A : Option Addr) (c a : Nat) (B : Option Addr) (d b : Nat) (w : World) (hA : NatV w A c a) (hB : NatV w B d b) (ha : nl a ≤ 1099511627776) (hb : nl b ≤ 1099511627776) :
    Calls Tryz.prog 87 #[.slice A (nl a) c, .slice B (nl b) d] w fun e w' => e = .returned (.int .i64 (cmpN a b)) ∧ Below w.heap.size w w' := by
  by_cases hl : nl a = nl b
  · have fin : ∀ k, k < nl a → (∀ j, k + 1 ≤ j → j < nl a → gl (limbs a) j = gl (limbs b) j) → (gl (limbs a) k < gl (limbs b) k → cmpN a b = -1) ∧ (gl (limbs b) k < gl (limbs a) k → cmpN a b = 1) := fun k hk hj =>
      ⟨fun h => cmpN_lt (by have := val_lt_of (l := limbs a) (m := limbs b) hl (lim_limbs a) hk hj h; rwa [val_limbs, val_limbs] at this),
       fun h => cmpN_gt (by have := val_lt_of (l := limbs b) (m := limbs a) hl.symm (lim_limbs b) (k := k) (by unfold nl at *; omega) (fun j h1 h2 => (hj j h1 (by unfold nl at *; omega)).symm) h; rwa [val_limbs, val_limbs] at this)⟩
    have fin0 : (∀ j, 0 ≤ j → j < nl a → gl (limbs a) j = gl (limbs b) j) → cmpN a b = 0 := fun h => cmpN_eq (limbs_inj (val_eq_of hl h))
    have FIN := Lib.hid fin
    have FIN0 := Lib.hid fin0
    have hb1 : ((nl a : Int) != (nl b : Int)) = false := ineF (by omega)
    have hb2 : (nl a != nl b) = false := by simp [hl]
    have HL := Lib.hid hl
    clear fin fin0 hl
    go_enter Tryz.func87, Tryz.ntmps87
    go_wp2_with (fail)
    go_loopw [5] (fun i wr => ∃ k : Nat, i = .int .i64 ((k : Int) - 1) ∧ k ≤ nl a ∧ (∀ j, k ≤ j → j < nl a → gl (limbs a) j = gl (limbs b) j) ∧ ∃ m, wr = w.drewN m) (fun i wr => (intOf i + 1).toNat)
    case atStart => exact ⟨nl a, rfl, Nat.le_refl _, fun j h1 h2 => by omega, 0, rfl⟩
    case round =>
      obtain ⟨k, rfl, hk, hj, m, rfl⟩ := hrel
      have HJ := Lib.hid hj
      clear hj
      cases k with
      | zero =>
        go_wp2_with (fail)
        go_ret
        exact ⟨ret_int (FIN0.out HJ.out).symm, (Below.refl _ _).drewN _⟩
      | succ k =>
        rw [show (((k + 1 : Nat) : Int) - 1) = (k : Int) by omega]
        obtain ⟨ad, rfl, hcA⟩ := hA.rd.get k hk
        obtain ⟨bd, rfl, hcB⟩ := hB.rd.get k (by have := HL.out; unfold nl at *; omega)
        have i1 : k < nl a := hk
        have i2 : k < nl b := by have := HL.out; omega
        have hF := FIN.out k hk (fun j h1 h2 => HJ.out j h1 h2)
        obtain ⟨x, hx⟩ : ∃ x, gl (limbs a) k = x := ⟨_, rfl⟩
        obtain ⟨y, hy⟩ : ∃ y, gl (limbs b) k = y := ⟨_, rfl⟩
        rw [hx] at hcA
        rw [hy] at hcB
        rw [hx, hy] at hF
        have HF := Lib.hid hF
        have HX := Lib.hid hx
        have HY := Lib.hid hy
        clear hF hx hy
        rcases Nat.lt_trichotomy x y with h | h | h
        · have b1 : decide ((x : Int) < (y : Int)) = true := by simp; omega
          have b2 : decide (x < y) = true := by simp; omega
          have HV := Lib.hid (HF.out.1 h)
          clear h
          go_wp2_with (fail)
          go_quiet (fail)
          go_wp2_with (fail)
          go_ret
          exact ⟨ret_int HV.out.symm, ((Below.refl _ _).drewN _).drewN _⟩
        · have b1 : decide ((x : Int) < (y : Int)) = false := by simp; omega
          have b2 : decide (x < y) = false := by simp; omega
          have b3 : decide ((y : Int) < (x : Int)) = false := by simp; omega
          have b4 : decide (y < x) = false := by simp; omega
          have HV := Lib.hid h
          clear h
          go_wp2_with (fail)
          go_quiet (fail)
          go_wp2_with (fail)
          go_quiet (fail)
          go_wp2_with (fail)
          go_roundw
          case rel => exact ⟨k, by go_num, by omega, fun j h1 h2 => by
            by_cases e : j = k
            · rw [e, HX.out, HY.out, HV.out]
            · exact HJ.out j (by omega) h2, _, World.drewN_drewN .. ▸ World.drewN_drewN ..⟩
          case measure => simp [intOf] <;> omega
        · have b1 : decide ((x : Int) < (y : Int)) = false := by simp; omega
          have b2 : decide (x < y) = false := by simp; omega
          have b3 : decide ((y : Int) < (x : Int)) = true := by simp; omega
          have b4 : decide (y < x) = true := by simp; omega
          have HV := Lib.hid (HF.out.2 h)
          clear h
          go_wp2_with (fail)
          go_quiet (fail)
          go_wp2_with (fail)
          go_quiet (fail)
          go_wp2_with (fail)
          go_ret
          exact ⟨ret_int HV.out.symm, (((Below.refl _ _).drewN _).drewN _).drewN _⟩
  · have hb1 : ((nl a : Int) != (nl b : Int)) = true := ineT (by omega)
    have hb2 : (nl a != nl b) = true := by simp [hl]
    go_enter Tryz.func87, Tryz.ntmps87
    go_wp2_with (fail)
    go_ret
    refine ⟨ret_int ?_, Below.refl _ _⟩
    rcases Nat.lt_or_ge (nl a) (nl b) with h | h
    · rw [cmpN_lt (show a < b by have := lt_nl.1 h; have := nl_lt a; omega)]; omega
    · rw [cmpN_gt (show b < a by have := lt_nl.1 (show nl b < nl a by omega); have := nl_lt b; omega)]; omega

theorem sub_c (A : Option Addr) (c a : Nat) (B : Option Addr) (d b : Nat) (w : World) (hA : NatV w A c a) (hB : NatV w B d b) (ha : nl a ≤ 1073741824) (hb : nl b ≤ 1073741824) (h : b ≤ a) :
    Calls Tryz.prog 99 #[.slice A (nl a) c, .slice B (nl b) d] w fun e w' => ∃ X cx, e = .returned (.tuple #[.slice X (nl (a - b)) cx, .bool true]) ∧ NatV w' X cx (a - b) ∧ Below w.heap.size w w' := by
  have hb1 : decide (cmpN a b < 0) = false := by rw [decide_eq_false_iff_not, cmpN_neg]; omega
  go_enter Tryz.func99, Tryz.ntmps99
  go_wp2_with (fail)
  refine (cmp_c A c a B d b w hA hB (by omega) (by omega)).mono ?_
  rintro e w1 ⟨rfl, hb1⟩
  have hA1 := hA.below hb1
  have hB1 := hB.below hb1
  have hc := all_c _ _ stepS A (nl a) c (limbs a) B (nl b) d (limbs b) (nl a) w1 (by omega) rfl rfl (by omega) (by omega) hA1.rd hB1.rd (lim_limbs a) (lim_limbs b)
  rw [sub_val a b h] at hc
  go_wp2_with (fail)
  refine hc.mono ?_
  rintro e w2 ⟨X, cx, rfl, h1, h2⟩
  go_wp2_with (fail)
  go_ret2
  exact ⟨X, cx, rfl, h1, hb1.trans (h2.mono hb1.size)⟩
end Go.Proofs.YtopigejgadnkaaaGreatDoor

namespace Go.Proofs.YtopigejgadnkaaaGreatDoor
open Go.RowKit Go.Shelf
attribute [local go_sem] max2_i min2_i max_two min_two

theorem or_low (x low s : Nat) (hx : x < 4294967296) (hs : s < 32) (hl : low < 2 ^ s) :
    bits .or .u32 ((x : Int) * 2 ^ s % 4294967296) (low : Int) = ((x * 2 ^ s % 4294967296 + low : Nat) : Int) ∧ x * 2 ^ s % 4294967296 + low < 4294967296 := by
  have hp : (2 : Nat) ^ s ≤ 2 ^ 31 := Nat.pow_le_pow_right (by decide) (by omega)
  have e1 : ((x : Int) * 2 ^ s % 4294967296) = ((x * 2 ^ s % 4294967296 : Nat) : Int) := by simp
  have hm : x * 2 ^ s % 4294967296 < 4294967296 := Nat.mod_lt _ (by decide)
  have e2 : (2 : Nat) ^ 32 = 2 ^ (32 - s) * 2 ^ s := by rw [← Nat.pow_add]; congr 1; omega
  have e3 : x * 2 ^ s % 4294967296 = 2 ^ s * (x % 2 ^ (32 - s)) := by
    rw [show 4294967296 = 2 ^ 32 from rfl, e2, Nat.mul_mod_mul_right, Nat.mul_comm]
  have h1 : x % 2 ^ (32 - s) + 1 ≤ 2 ^ (32 - s) := Nat.mod_lt _ (Nat.pow_pos (by decide))
  have h2 := Nat.mul_le_mul_left (2 ^ s) h1
  rw [← Nat.pow_add, show s + (32 - s) = 32 by omega, Nat.mul_add] at h2
  refine ⟨?_, ?_⟩
  · rw [e1, u32_or_nat _ _ hm (by omega), e3, ← Nat.two_pow_add_eq_or_of_lt hl]
  · rw [e3]; omega
theorem hi_low (x s : Nat) (hx : x < 4294967296) (hs : s < 32) : x * 2 ^ s / 4294967296 < 2 ^ s := by
  rw [Nat.div_lt_iff_lt_mul (by decide), Nat.mul_comm]
  exact Nat.mul_lt_mul_of_pos_left hx (Nat.pow_pos (by decide))

theorem shl_c (A : Option Addr) (c a : Nat) (n : Nat) (w : World) (hA : NatV w A c a) (ha : nl a ≤ 1073741824) (hn : n ≤ 1073741824) (h0 : a ≠ 0) :
    Calls Tryz.prog 85 #[.slice A (nl a) c, .int .i64 (n : Int)] w (RetN w (a * 2 ^ n)) := by
  have hp := nl_pos.2 h0
  have hb0 : ((nl a : Int) == 0) = false := ieqF (by omega)
  have hmk := mk32 ((n : Int) / 32) ((n : Int) / 32 + nl a + 1) (by omega) (by omega) (by omega)
  obtain ⟨i0, hi, hz0, hz1, hz2⟩ := info_parts info_u32
  go_enter Tryz.func85, Tryz.ntmps85
  go_wp2_with (fail)
  have hs := Nat.mod_lt n (show 0 < 32 by decide)
  go_loopw [5, 7, 9, 26] (fun o lo x i wr => ∃ (k low : Nat) (L : List Nat), o = .slice (some ⟨w.heap.size, 0, none⟩) (n / 32 + k) (n / 32 + nl a + 1) ∧ i = .int .i64 k ∧ lo = .int .u32 low ∧ k ≤ nl a ∧ Below w.heap.size w wr ∧
    wr.ownsRow w.heap.size 62 1 (.slice (some ⟨w.heap.size, 0, none⟩) (n / 32 + k) (n / 32 + nl a + 1)) (n / 32 + k) (vals L) ∧ L.length = n / 32 + k ∧ Lim L ∧ Hid (val L + 4294967296 ^ (n / 32 + k) * low = val ((limbs a).take k) * 2 ^ (n % 32) * 4294967296 ^ (n / 32)) ∧ low < 2 ^ (n % 32)) (fun o lo x i wr => nl a - (intOf i).toNat)
  case atStart =>
    have e1 : ((n : Int) / 32).toNat = n / 32 := by omega
    have e2 : ((n : Int) / 32 + nl a + 1).toNat = n / 32 + nl a + 1 := by omega
    refine ⟨0, 0, List.replicate (n / 32) 0, by simp, rfl, rfl, Nat.zero_le _, ((Below.refl _ _).alloc (Nat.le_refl _) _), ?_, by simp, Lim.replicate _ _ (by decide), Lib.hid (by rw [val_replicate]; simp [val]), Nat.pow_pos (by decide)⟩
    simp only [Nat.add_zero, e2]
    refine ⟨by simp [vals], .inr ⟨w.heap.size, n / 32 + nl a + 1, _, rfl, Nat.le_refl _, heap_alloc_new w _, by omega, by simp only [maxLen]; omega, by rw [size_madeCells, Nat.mul_one], ?_⟩⟩
    rw [toList_madeCells_one, List.take_replicate, Nat.min_eq_left (by omega)]
    simp [vals]
  case round =>
    obtain ⟨k, low, L, rfl, rfl, rfl, hk, hb, hown, hlen, hlim, hval, hlow⟩ := hrel
    by_cases hlt : k < nl a
    · obtain ⟨ad, rfl, hc⟩ := (hA.rd.below hb).get k hlt
      obtain ⟨x, hx⟩ : ∃ x, gl (limbs a) k = x := ⟨_, rfl⟩
      have hxl := (lim_limbs a).gl k
      rw [hx] at hc hxl
      obtain ⟨hor, hvl⟩ := or_low x low (n % 32) hxl hs hlow
      generalize hv : x * 2 ^ (n % 32) % 4294967296 + low = v at *
      have HV := Lib.hid hv
      have HX := Lib.hid hx
      have HL := Lib.hid hlen
      clear hv hx hlen
      have hxl2 : (x : Int) < 4294967296 := by omega
      go_wp2_with (at_builtin; refine wpList_append_fits _ rfl _ _ 22 rfl w.heap.size 62 i0 1 Tryz.underlying22 hi hz1 w.heap.size (n / 32 + k) (n / 32 + nl a + 1) (vals L) rfl (hown.alloc _) ⟨wr.heap.size, 0, none⟩ 1 1 [.int .u32 (v : Nat)] rfl rfl (cell_one_new _ _ _) (by simp [Value.oneCell']) (by omega) ?_)
      intro w1 hown1 hg1
      go_wp2_with (fail)
      go_roundw
      case rel =>
        have hq : x * 2 ^ (n % 32) / 4294967296 < 2 ^ (n % 32) := hi_low x _ hxl hs
        refine ⟨k + 1, x * 2 ^ (n % 32) / 4294967296, L ++ [v], by rw [Nat.add_assoc], by go_num, ?_, by omega, ?_, ?_, ?_, ?_, Lib.hid ?_, hq⟩
        · have hp31 : (2 : Nat) ^ (n % 32) ≤ 2 ^ 31 := Nat.pow_le_pow_right (by decide) (by omega)
          have h64 : x * 2 ^ (n % 32) ≤ 4294967296 * 2 ^ 31 := Nat.mul_le_mul (by omega) hp31
          have e1 : ((x : Int) * 2 ^ (n % 32)) = ((x * 2 ^ (n % 32) : Nat) : Int) := by simp
          congr 1
          rw [e1]
          generalize x * 2 ^ (n % 32) = y at *
          have : IntKind.u64.wrap (y : Int) = (y : Int) := by
            simp only [IntKind.wrap, IntKind.bits, IntKind.signed]
            simp
            omega
          rw [this]
          omega
        · exact (hb.alloc hb.size _).grown hg1 (by simp; have := hb.size; omega) (fun k e => by cases e; exact Nat.le_refl _)
        · rw [vals_append]; exact hown1
        · simp [HL.out]; omega
        · exact hlim.append (Lim.cons hvl Lim.nil)
        · have hval := hval.out
          have hv := HV.out
          have hx := HX.out
          rw [val_snoc, HL.out, val_take_succ _ _ hlt, hx, ← hv]
          have e := Nat.div_add_mod (x * 2 ^ (n % 32)) 4294967296
          generalize x * 2 ^ (n % 32) / 4294967296 = d at *
          rw [← Nat.add_assoc, Nat.pow_succ]
          rw [Nat.pow_add] at hval ⊢
          generalize val ((limbs a).take k) = t at *
          generalize 4294967296 ^ k = p at *
          generalize 4294967296 ^ (n / 32) = r at *
          generalize x * 2 ^ (n % 32) % 4294967296 = m at *
          generalize 2 ^ (n % 32) = z at *
          grind
      case measure => simp [intOf] <;> omega
    · obtain rfl : k = nl a := by omega
      have HV := hval
      go_wp2_with (first
        | (go_at_call 79; fail)
        | (at_builtin; refine wpList_append_fits _ rfl _ _ 22 rfl w.heap.size 62 i0 1 Tryz.underlying22 hi hz1 w.heap.size (n / 32 + nl a) (n / 32 + nl a + 1) (vals L) rfl (hown.alloc _) ⟨wr.heap.size, 0, none⟩ 1 1 [.int .u32 (low : Nat)] rfl rfl (cell_one_new _ _ _) (by simp [Value.oneCell']) (by omega) ?_))
      intro w1 hown1 hg1
      obtain ⟨Y, cy, hYe, hcy, hcm, hrd⟩ := ownV_rd hown1
      cases hYe
      have hll : low < 4294967296 := by
        have : (2 : Nat) ^ (n % 32) ≤ 2 ^ 31 := Nat.pow_le_pow_right (by decide) (by omega)
        omega
      have hb2 : Below w.heap.size w w1 := (hb.alloc hb.size _).grown hg1 (by simp; have := hb.size; omega) (fun k e => by cases e; exact Nat.le_refl _)
      have hmake := make_c (some ⟨w.heap.size, 0, none⟩) (n / 32 + nl a + 1) (n / 32 + nl a + 1) (L ++ [low]) w1 (by simp [hlen]) (by unfold Rd; rw [vals_append]; exact hrd) (hlim.append (Lim.cons hll Lim.nil)) (by omega) (Nat.le_refl _)
      have hvv : val (L ++ [low]) = a * 2 ^ n := by
        have h := HV.out
        rw [take_limbs (Nat.le_refl _)] at h
        rw [val_snoc, hlen, h, Nat.mul_assoc, ← pow32, ← Nat.pow_add]
        congr 2
        omega
      rw [hvv] at hmake
      have HM := Lib.hid hmake
      clear hmake hown1 hown hrd hg1 hval hlen
      go_wp2_with (fail)
      refine HM.out.mono ?_
      rintro e w2 ⟨X, cx, rfl, h1, h2⟩
      go_wp2_with (fail)
      go_ret
      exact ⟨X, cx, rfl, h1, hb2.trans (h2.mono hb2.size)⟩
theorem nat_mod_pow_split (t s : Nat) (hs : s ≤ 32) : t / 2 ^ s % 4294967296 = t % 4294967296 / 2 ^ s + (t / 4294967296 % 4294967296) * 2 ^ (32 - s) % 4294967296 := by
  have e2 : (4294967296 : Nat) = 2 ^ s * 2 ^ (32 - s) := by rw [← Nat.pow_add, show s + (32 - s) = 32 by omega]
  have h1 : t % 4294967296 / 2 ^ s = t / 2 ^ s % 2 ^ (32 - s) := by
    rw [e2, Nat.mod_mul_right_div_self]
  have h2 : (t / 4294967296 % 4294967296) * 2 ^ (32 - s) % 4294967296 = (t / 4294967296 % 2 ^ s) * 2 ^ (32 - s) := by
    generalize t / 4294967296 = u
    rw [e2, Nat.mul_mod_mul_right, Nat.mod_mul_right_mod]
  have h3 : t / 2 ^ s % 4294967296 = t / 2 ^ s % 2 ^ (32 - s) + 2 ^ (32 - s) * (t / 2 ^ s / 2 ^ (32 - s) % 2 ^ s) := by
    rw [show (4294967296 : Nat) = 2 ^ (32 - s) * 2 ^ s by rw [Nat.mul_comm]; exact e2, Nat.mod_mul]
  rw [h1, h2, h3, Nat.div_div_eq_div_mul, ← e2, Nat.mul_comm (2 ^ (32 - s))]
theorem or_high (x y s : Nat) (hx : x < 4294967296) (hs : s ≤ 32) :
    x / 2 ^ s ||| y * 2 ^ (32 - s) % 4294967296 = x / 2 ^ s + y * 2 ^ (32 - s) % 4294967296 := by
  have e2 : (4294967296 : Nat) = 2 ^ s * 2 ^ (32 - s) := by rw [← Nat.pow_add, show s + (32 - s) = 32 by omega]
  have h1 : x / 2 ^ s < 2 ^ (32 - s) := by rw [Nat.div_lt_iff_lt_mul (Nat.pow_pos (by decide)), Nat.mul_comm, ← e2]; exact hx
  have h2 : y * 2 ^ (32 - s) % 4294967296 = 2 ^ (32 - s) * (y % 2 ^ s) := by rw [e2, Nat.mul_mod_mul_right, Nat.mul_comm]
  rw [h2, Nat.or_comm, ← Nat.two_pow_add_eq_or_of_lt h1, Nat.add_comm]

def digs (n m : Nat) : List Nat := (List.range m).map fun i => n / 4294967296 ^ i % 4294967296
theorem digs_len (n m) : (digs n m).length = m := by simp [digs]
theorem digs_succ (n m) : digs n (m + 1) = digs n m ++ [n / 4294967296 ^ m % 4294967296] := by simp [digs, List.range_succ]
theorem digs_lim (n m) : Lim (digs n m) := fun x hx => by
  obtain ⟨i, _, rfl⟩ := List.mem_map.1 hx
  exact Nat.mod_lt _ (by decide)
theorem digs_val (n m : Nat) : val (digs n m) = n % 4294967296 ^ m := by
  induction m with
  | zero => simp [digs, val, Nat.mod_one]
  | succ m ih => rw [digs_succ, val_snoc, digs_len, ih, Nat.pow_succ, Nat.mod_mul]

theorem shr_or (x y s : Nat) (hx : x < 4294967296) (hy : y < 4294967296) (hs : s < 32) :
    bits .or .u32 ((x : Int) / 2 ^ s) (IntKind.u32.wrap (IntKind.u64.wrap (IntKind.u64.wrap (y : Int) * 4294967296) / 2 ^ s)) = ((x / 2 ^ s + y * 2 ^ (32 - s) % 4294967296 : Nat) : Int) := by
  have w1 : IntKind.u64.wrap (y : Int) = (y : Int) := by
    simp only [IntKind.wrap, IntKind.bits, IntKind.signed]; simp; omega
  have w2 : IntKind.u64.wrap ((y : Int) * 4294967296) = ((y * 4294967296 : Nat) : Int) := by
    simp only [IntKind.wrap, IntKind.bits, IntKind.signed]; simp; omega
  have e2 : (4294967296 : Nat) = 2 ^ (32 - s) * 2 ^ s := by rw [← Nat.pow_add, show (32 - s) + s = 32 by omega]
  have w3 : (((y * 4294967296 : Nat) : Int) / 2 ^ s) = ((y * 2 ^ (32 - s) : Nat) : Int) := by
    have : ((y * 4294967296 : Nat) : Int) / 2 ^ s = ((y * 4294967296 / 2 ^ s : Nat) : Int) := by simp
    rw [this]
    congr 1
    conv => lhs; rw [e2]
    rw [← Nat.mul_assoc, Nat.mul_div_cancel _ (Nat.pow_pos (by decide))]
  have w4 : ((x : Int) / 2 ^ s) = ((x / 2 ^ s : Nat) : Int) := by simp
  have w5 : IntKind.u32.wrap ((y * 2 ^ (32 - s) : Nat) : Int) = ((y * 2 ^ (32 - s) % 4294967296 : Nat) : Int) := by
    rw [IntKind.wrap_u32]; omega
  have hx2 : x / 2 ^ s < 4294967296 := Nat.lt_of_le_of_lt (Nat.div_le_self _ _) hx
  rw [w1, w2, w3, w4, w5, u32_or_nat _ _ hx2 (Nat.mod_lt _ (by decide)), or_high x y s hx (by omega)]
theorem shr_c0 (A : Option Addr) (c a : Nat) (n q s : Nat) (w : World) (hA : NatV w A c a) (ha : nl a ≤ 1073741824) (hs : s < 32) (hn : n = 32 * q + s) (hq : q < nl a) :
    Calls Tryz.prog 86 #[.slice A (nl a) c, .int .i64 (n : Int)] w (RetN w (a / 2 ^ n)) := by
  obtain ⟨i0, hi, hz0, hz1, hz2⟩ := info_parts info_u32
  have hn1 : (n : Int) / 32 = (q : Int) := by omega
  have hn2 : (n : Int) % 32 = (s : Int) := by omega
  have hn3 : n / 32 = q := by omega
  have hn4 : n % 32 = s := by omega
  have hb0 : decide ((nl a : Int) ≤ (q : Int)) = false := by simp; omega
  have hb1 : decide (nl a ≤ q) = false := by simp; omega
  have HN := Lib.hid hn
  clear hn
  go_enter Tryz.func86, Tryz.ntmps86
  go_wp2_with (fail)
  simp only [hn2]
  go_loopw [7, 8, 21] (fun o j i wr => ∃ k : Nat, i = .int .i64 k ∧ k ≤ nl a - q ∧ Below w.heap.size w wr ∧ wr.ownsRow w.heap.size 62 1 o k (vals (digs (a / 2 ^ n) k))) (fun o j i wr => nl a - q - (intOf i).toNat)
  case atStart => exact ⟨0, rfl, Nat.zero_le _, Below.refl _ _, World.ownsRow_nil _ _ _ _⟩
  case round =>
    obtain ⟨k, rfl, hk, hb, hown⟩ := hrel
    obtain ⟨X, cx, rfl, hcx, hcm, _⟩ := ownV_rd hown
    by_cases hlt : k < nl a - q
    · have hA1 := hA.below hb
      obtain ⟨ad, rfl, hc⟩ := hA1.rd.get (q + k) (by unfold nl at *; omega)
      have HAT := Lib.hid (at_c (some ad) (nl a) c (limbs a) (q + k + 1) wr.drew rfl hA1.rd (by omega) (by omega))
      have i2 : q + k < nl a := by omega
      have i3 : (q : Int) + (k : Int) < (nl a : Int) := by omega
      have i4 : (0 : Int) ≤ (q : Int) + (k : Int) := by omega
      obtain ⟨x, hx⟩ : ∃ x, gl (limbs a) (q + k) = x := ⟨_, rfl⟩
      obtain ⟨y, hy⟩ : ∃ y, gl (limbs a) (q + k + 1) = y := ⟨_, rfl⟩
      rw [hx] at hc
      rw [hy] at HAT
      have hxl := (lim_limbs a).gl (q + k)
      have hyl := (lim_limbs a).gl (q + k + 1)
      rw [hx] at hxl
      rw [hy] at hyl
      have HX := Lib.hid hx
      have HY := Lib.hid hy
      clear hx hy
      have hd : (k : Int) < (nl a : Int) - (q : Int) := by omega
      have z1 : IntKind.i64.wrap ((q : Int) + (k : Int)) = (q : Int) + (k : Int) := IntWalk.i64_in _ (by omega)
      have z2 : ((q : Int) + (k : Int)).toNat = q + k := by omega
      have z3 : IntKind.i64.wrap ((q : Int) + (k : Int) + 1) = (q : Int) + (k : Int) + 1 := IntWalk.i64_in _ (by omega)
      have hor := shr_or x y s hxl hyl hs
      obtain ⟨v, hv⟩ : ∃ v, x / 2 ^ s + y * 2 ^ (32 - s) % 4294967296 = v := ⟨_, rfl⟩
      rw [hv] at hor
      have HV := Lib.hid hv
      clear hv
      have hown2 := (hown.alloc (.cells #[.int .u32 (v : Nat)] 62)).drew
      have KP2 : some (ad.add (q + k)).block ≠ (Value.slice X k cx).ownBlock := fun e => by
        have h1 := own_base' hown _ e.symm
        obtain ⟨ad', e', hc'⟩ := hA.rd.get (q + k) (by unfold nl at *; omega)
        cases e'
        have h2 := World.block_lt_of_cell? w _ hc'
        omega
      have KP1 : (ad.add (q + k)).block < ((wr.alloc (.cells #[.int .u32 (v : Nat)] 62)).drew).heap.size := by
        have := World.block_lt_of_cell? wr _ hc
        show _ < (wr.alloc _).heap.size
        simp; omega
      have HB := Lib.hid hb
      clear hb
      go_wp2_with (fail)
      go_region_held3 (fun w' => w'.cell? (ad.add (q + k)) = some (.int .u32 (x : Nat))) (first | go_keep | (rw [hgrow.cell_far _ KP1 KP2]; assumption)) (first
        | (go_at_call 118; refine (Hid.out HAT).mono ?_; rintro e w' ⟨rfl, rfl⟩)
        | (refine step_append_lies _ (by rfl) _ _ _ (by rfl) w.heap.size 62 i0 _ 1 4 Tryz.underlying22 hi hz0 hz1 hz2 rfl (by omega) (.slice X k cx) k _ (by rfl) hown2 ⟨wr.heap.size, 0, none⟩ 1 1 [.int .u32 (v : Nat)] (by rfl) (by rfl) (World.news_of_block (cs := #[.int .u32 (v : Nat)]) (t := 62) (fr := (0, 0)) (heap_alloc_new wr _)) (by simp [Value.oneCell']) (by omega) (by simp only [maxLen]; omega) (by omega) (by simp; have := HB.out.size; omega) (wr.heap.size + 1) (by simp) ?_; intro gg cap w1 hown1 hgrow hat hlt))
      go_wp2_with (fail)
      go_roundw
      case rel =>
        have r1 : Below w.heap.size w w1 := ((HB.out.alloc HB.out.size _).drew).grown hgrow (by show _ ≤ (wr.alloc _).heap.size; simp; have := HB.out.size; omega) (own_base' hown)
        have e : a / 2 ^ n / 4294967296 ^ k % 4294967296 = v := by
          rw [← HV.out, ← HX.out, ← HY.out, limbs_gl, limbs_gl, HN.out, Nat.pow_add, pow32, Nat.div_div_eq_div_mul, show 4294967296 ^ q * 2 ^ s * 4294967296 ^ k = 4294967296 ^ (q + k) * 2 ^ s by rw [Nat.pow_add]; grind, ← Nat.div_div_eq_div_mul, nat_mod_pow_split _ s (by omega), Nat.pow_succ, ← Nat.div_div_eq_div_mul]
        have r2 : w1.ownsRow w.heap.size 62 1 (.slice (some ⟨gg, 0, none⟩) (k + 1) cap) (k + 1) (vals (digs (a / 2 ^ n) (k + 1))) := by
          rw [digs_succ, vals_append, e]; exact hown1
        exact ⟨k + 1, by go_num, by omega, r1, r2⟩
      case measure => simp [intOf] <;> omega
    · obtain rfl : k = nl a - q := by omega
      have hmake := make_c X (nl a - q) cx (digs (a / 2 ^ n) (nl a - q)) wr (digs_len _ _) (by obtain ⟨A', c', e, _, _, h⟩ := ownV_rd hown; cases e; exact h) (digs_lim _ _) (by omega) hcx
      have hv : val (digs (a / 2 ^ n) (nl a - q)) = a / 2 ^ n := by
        rw [digs_val, Nat.mod_eq_of_lt]
        rw [HN.out, Nat.pow_add, ← Nat.div_div_eq_div_mul]
        refine Nat.lt_of_le_of_lt (Nat.div_le_self _ _) ?_
        exact nl_le.1 (nl_shr32 a q)
      rw [hv] at hmake
      have HM := Lib.hid hmake
      have HD : (((nl a - q : Nat) : Int)) = (nl a : Int) - (q : Int) := by omega
      have HDD := Lib.hid HD
      clear hmake hown hv HD
      have hd : decide ((((nl a - q : Nat) : Int)) < (nl a : Int) - (q : Int)) = false := by simp; omega
      go_wp2_with (fail)
      refine HM.out.mono ?_
      rintro e w2 ⟨Y, cy, rfl, h1, h2⟩
      go_wp2_with (fail)
      go_ret
      exact ⟨Y, cy, rfl, h1, hb.trans (h2.mono hb.size)⟩

theorem natV_nil (w : World) : NatV w none 0 0 := ⟨by rw [limbs_zero]; exact Rd.nil, by rw [nl_zero]; exact Nat.le_refl _, by decide⟩
theorem retN_nil (w : World) : RetN w 0 (.returned (.slice none 0 0)) w := ⟨none, 0, by rw [nl_zero], natV_nil w, Below.refl _ _⟩
theorem shl_ci (A : Option Addr) (c a : Nat) (n : Int) (w : World) (hA : NatV w A c a) (ha : nl a ≤ 1073741824) (h0 : 0 ≤ n) (hn : n ≤ 1073741824) :
    Calls Tryz.prog 85 #[.slice A (nl a) c, .int .i64 n] w (RetN w (a * 2 ^ n.toNat)) := by
  obtain ⟨m, rfl⟩ := Int.eq_ofNat_of_zero_le h0
  rw [Int.toNat_natCast]
  by_cases h : a = 0
  · subst h
    have hb0 : ((nl 0 : Int) == 0) = true := ieqT (by rw [nl_zero]; rfl)
    go_enter Tryz.func85, Tryz.ntmps85
    go_wp2_with (fail)
    go_ret
    rw [Nat.zero_mul]
    exact retN_nil w
  · exact shl_c A c a m w hA ha (by omega) h
theorem shr_ci (A : Option Addr) (c a : Nat) (n : Int) (w : World) (hA : NatV w A c a) (ha : nl a ≤ 1073741824) (h0 : 0 ≤ n) (hn : n ≤ 1099511627776) :
    Calls Tryz.prog 86 #[.slice A (nl a) c, .int .i64 n] w (RetN w (a / 2 ^ n.toNat)) := by
  obtain ⟨m, rfl⟩ := Int.eq_ofNat_of_zero_le h0
  rw [Int.toNat_natCast]
  by_cases h : m / 32 < nl a
  · exact shr_c0 A c a m (m / 32) (m % 32) w hA ha (Nat.mod_lt _ (by decide)) (by omega) h
  · have hn1 : (m : Int) / 32 = ((m / 32 : Nat) : Int) := by omega
    have hb0 : decide ((nl a : Int) ≤ ((m / 32 : Nat) : Int)) = true := by simp; omega
    have hb1 : decide (nl a ≤ m / 32) = true := by simp; omega
    have e : a / 2 ^ m = 0 := by
      rw [Nat.div_eq_of_lt]
      refine Nat.lt_of_lt_of_le (nl_lt a) ?_
      rw [← pow32]
      exact Nat.pow_le_pow_right (by decide) (by omega)
    rw [e]
    have HN := Lib.hid hn1
    clear hn1
    have hb2 : decide ((nl a : Int) ≤ (m : Int) / 32) = true := by simp; omega
    go_enter Tryz.func86, Tryz.ntmps86
    go_wp2_with (fail)
    go_ret
    exact retN_nil w
end Go.Proofs.YtopigejgadnkaaaGreatDoor

namespace Go.Proofs.YtopigejgadnkaaaGreatDoor
open Go.RowKit Go.Shelf
attribute [local go_sem] max2_i min2_i max_two min_two

def RetI (w : World) (z : Int) (e : Ending) (w' : World) : Prop := ∃ A c, e = .returned (.agg #[.bool (sg z), .slice A (nl (mg z)) c]) ∧ NatV w' A c (mg z) ∧ Below w.heap.size w w'
theorem heap_below {w w1 : World} {k : Nat} {o : Obj} (h : Below w.heap.size w w1) (hk : w.heap[k]? = some o) : w1.heap[k]? = some o := (h.block k (Array.getElem?_eq_some_iff.1 hk).1).trans hk
def NotU (u : Value) : Prop := ∀ x : Nat, u ≠ .int .u32 (x : Nat)
theorem notU_bool (b : Bool) : NotU (.bool b) := fun _ h => by cases h
theorem notU_slice (A : Option Addr) (n c : Nat) : NotU (.slice A n c) := fun _ h => by cases h
theorem notU_i64 (z : Int) : NotU (.int .i64 z) := fun _ h => by cases h
structure BoxA (W : World) (k : Nat) (t : TypeId) (us : Array Value) : Prop where
  at_ : W.heap[k]? = some (.cells us t (0, 0))
section
variable {W W' : World} {k : Nat} {t : TypeId} {us : Array Value}
theorem BoxA.below (h : BoxA W k t us) (hb : Below W.heap.size W W') : BoxA W' k t us := ⟨heap_below hb h.at_⟩
theorem BoxA.c {i : Nat} {u : Value} (h : BoxA W k t us) (hi : us[i]? = some u) : W.cell? ⟨k, i, none⟩ = some u := by simp [World.cell?, h.at_, hi]
theorem BoxA.f {i : Nat} (h : BoxA W k t us) : W.frozen? ⟨k, i, none⟩ = false := by simp [World.frozen?, h.at_]
theorem BoxA.lt (h : BoxA W k t us) : k < W.heap.size := (Array.getElem?_eq_some_iff.1 h.at_).1
theorem BoxA.keep (h : BoxA W k t us) (hu : ∀ u ∈ us.toList, NotU u) (hW : ∀ j, j ≠ k → W'.heap[j]? = W.heap[j]?) {A : Option Addr} {c n : Nat} (hN : NatV W A c n) : NatV W' A c n := by
  refine ⟨?_, hN.cap, hN.cmax⟩
  rcases hN.rd with h1 | ⟨ad, rfl, h1⟩
  · exact .inl h1
  · refine .inr ⟨ad, rfl, fun i u hi => ?_⟩
    have h2 := h1 i u hi
    obtain ⟨hl, he⟩ := List.getElem?_eq_some_iff.1 hi
    have hil : i < (limbs n).length := by simpa [vals] using hl
    rw [vals_get _ i hil] at hi
    cases hi
    have hne : (ad.add i).block ≠ k := fun e => by
      unfold World.cell? at h2
      rw [e, h.at_] at h2
      simp only at h2
      split at h2
      · cases h2
      · have hm := Array.mem_of_getElem? h2
        exact hu _ (Array.mem_def.1 hm) _ rfl
    rw [World.cell?_of_block (w := W) (a := ad.add i) (hW _ hne)]
    exact h2
theorem set2_far {v0 v1 : Value} (j : Nat) (hj : j ≠ k) : ((W.setCell ⟨k, 0, none⟩ v0).setCell ⟨k, 1, none⟩ v1).heap[j]? = W.heap[j]? := by
  rw [Below.heap_setCell _ _ _ _ (by simpa using hj), Below.heap_setCell _ _ _ _ (by simpa using hj)]
theorem set3_far {v0 v1 v2 : Value} (j : Nat) (hj : j ≠ k) : (((W.setCell ⟨k, 0, none⟩ v0).setCell ⟨k, 1, none⟩ v1).setCell ⟨k, 2, none⟩ v2).heap[j]? = W.heap[j]? := by
  rw [Below.heap_setCell _ _ _ _ (by simpa using hj), Below.heap_setCell _ _ _ _ (by simpa using hj), Below.heap_setCell _ _ _ _ (by simpa using hj)]
theorem BoxA.store2 {u0 u1 : Value} (h : BoxA W k t #[u0, u1]) (v0 v1 : Value) : BoxA ((W.setCell ⟨k, 0, none⟩ v0).setCell ⟨k, 1, none⟩ v1) k t #[v0, v1] := by
  have h0 := heap_setCell_same W k 0 _ _ v0 h.at_
  have h1 := heap_setCell_same _ k 1 _ _ v1 h0
  exact ⟨by simpa using h1⟩
theorem BoxA.store3 {u0 u1 u2 : Value} (h : BoxA W k t #[u0, u1, u2]) (v0 v1 v2 : Value) : BoxA (((W.setCell ⟨k, 0, none⟩ v0).setCell ⟨k, 1, none⟩ v1).setCell ⟨k, 2, none⟩ v2) k t #[v0, v1, v2] := by
  have h0 := heap_setCell_same W k 0 _ _ v0 h.at_
  have h1 := heap_setCell_same _ k 1 _ _ v1 h0
  have h2 := heap_setCell_same _ k 2 _ _ v2 h1
  exact ⟨by simpa using h2⟩
theorem BoxA.keep2 {u0 u1 v0 v1 : Value} (h : BoxA W k t #[u0, u1]) (hu : ∀ u ∈ (#[u0, u1] : Array Value).toList, NotU u) {A : Option Addr} {c n : Nat} (hN : NatV W A c n) : NatV ((W.setCell ⟨k, 0, none⟩ v0).setCell ⟨k, 1, none⟩ v1) A c n := h.keep hu (fun j hj => set2_far j hj) hN
theorem BoxA.keep3 {u0 u1 u2 v0 v1 v2 : Value} (h : BoxA W k t #[u0, u1, u2]) (hu : ∀ u ∈ (#[u0, u1, u2] : Array Value).toList, NotU u) {A : Option Addr} {c n : Nat} (hN : NatV W A c n) : NatV (((W.setCell ⟨k, 0, none⟩ v0).setCell ⟨k, 1, none⟩ v1).setCell ⟨k, 2, none⟩ v2) A c n := h.keep hu (fun j hj => set3_far j hj) hN
theorem Below.store2 {w : World} {v0 v1 : Value} (h : Below w.heap.size w W) (hk : w.heap.size ≤ k) : Below w.heap.size w ((W.setCell ⟨k, 0, none⟩ v0).setCell ⟨k, 1, none⟩ v1) := (h.setCell (p := ⟨k, 0, none⟩) hk _).setCell (p := ⟨k, 1, none⟩) hk _
theorem Below.store3 {w : World} {v0 v1 v2 : Value} (h : Below w.heap.size w W) (hk : w.heap.size ≤ k) : Below w.heap.size w (((W.setCell ⟨k, 0, none⟩ v0).setCell ⟨k, 1, none⟩ v1).setCell ⟨k, 2, none⟩ v2) := ((h.setCell (p := ⟨k, 0, none⟩) hk _).setCell (p := ⟨k, 1, none⟩) hk _).setCell (p := ⟨k, 2, none⟩) hk _
end

theorem drb (w : World) : Below w.heap.size w w.drew := (Below.refl _ _).drew
theorem cbl {w w' : World} {a : Addr} {v : Value} (hb : Below w.heap.size w w') (h : w.cell? a = some v) : w'.cell? a = some v := cell_below hb h
def isU : Value → Bool
  | .int .u32 _ => true
  | _ => false
theorem nuB {us : Array Value} (h : us.toList.all (fun u => !isU u) = true) : ∀ u ∈ us.toList, NotU u := by
  intro u hu x e
  have := List.all_eq_true.1 h u hu
  rw [e] at this
  cases this
theorem bx1 (w : World) (c0 : Array Value) (t0 : TypeId) : Below w.heap.size w (w.alloc (.cells c0 t0)) ∧ BoxA (w.alloc (.cells c0 t0)) (w.heap.size) t0 c0 :=
  ⟨(Below.alloc (Below.refl _ _) (Nat.le_refl _) _), ⟨by repeat (first | exact at_new (by first | (simp; done) | (simp; omega)) | refine at_old (by first | (simp; done) | (simp; omega)) ?_)⟩⟩
theorem bx2 (w : World) (c0 : Array Value) (t0 : TypeId) (c1 : Array Value) (t1 : TypeId) : Below w.heap.size w ((w.alloc (.cells c0 t0)).alloc (.cells c1 t1)) ∧ BoxA ((w.alloc (.cells c0 t0)).alloc (.cells c1 t1)) (w.heap.size) t0 c0 ∧ BoxA ((w.alloc (.cells c0 t0)).alloc (.cells c1 t1)) (w.heap.size + 1) t1 c1 :=
  ⟨(Below.alloc (Below.alloc (Below.refl _ _) (Nat.le_refl _) _) (by simp <;> omega) _), ⟨by repeat (first | exact at_new (by first | (simp; done) | (simp; omega)) | refine at_old (by first | (simp; done) | (simp; omega)) ?_)⟩, ⟨by repeat (first | exact at_new (by first | (simp; done) | (simp; omega)) | refine at_old (by first | (simp; done) | (simp; omega)) ?_)⟩⟩
theorem bx3 (w : World) (c0 : Array Value) (t0 : TypeId) (c1 : Array Value) (t1 : TypeId) (c2 : Array Value) (t2 : TypeId) : Below w.heap.size w (((w.alloc (.cells c0 t0)).alloc (.cells c1 t1)).alloc (.cells c2 t2)) ∧ BoxA (((w.alloc (.cells c0 t0)).alloc (.cells c1 t1)).alloc (.cells c2 t2)) (w.heap.size) t0 c0 ∧ BoxA (((w.alloc (.cells c0 t0)).alloc (.cells c1 t1)).alloc (.cells c2 t2)) (w.heap.size + 1) t1 c1 ∧ BoxA (((w.alloc (.cells c0 t0)).alloc (.cells c1 t1)).alloc (.cells c2 t2)) (w.heap.size + 1 + 1) t2 c2 :=
  ⟨(Below.alloc (Below.alloc (Below.alloc (Below.refl _ _) (Nat.le_refl _) _) (by simp <;> omega) _) (by simp <;> omega) _), ⟨by repeat (first | exact at_new (by first | (simp; done) | (simp; omega)) | refine at_old (by first | (simp; done) | (simp; omega)) ?_)⟩, ⟨by repeat (first | exact at_new (by first | (simp; done) | (simp; omega)) | refine at_old (by first | (simp; done) | (simp; omega)) ?_)⟩, ⟨by repeat (first | exact at_new (by first | (simp; done) | (simp; omega)) | refine at_old (by first | (simp; done) | (simp; omega)) ?_)⟩⟩
theorem bx4 (w : World) (c0 : Array Value) (t0 : TypeId) (c1 : Array Value) (t1 : TypeId) (c2 : Array Value) (t2 : TypeId) (c3 : Array Value) (t3 : TypeId) : Below w.heap.size w ((((w.alloc (.cells c0 t0)).alloc (.cells c1 t1)).alloc (.cells c2 t2)).alloc (.cells c3 t3)) ∧ BoxA ((((w.alloc (.cells c0 t0)).alloc (.cells c1 t1)).alloc (.cells c2 t2)).alloc (.cells c3 t3)) (w.heap.size) t0 c0 ∧ BoxA ((((w.alloc (.cells c0 t0)).alloc (.cells c1 t1)).alloc (.cells c2 t2)).alloc (.cells c3 t3)) (w.heap.size + 1) t1 c1 ∧ BoxA ((((w.alloc (.cells c0 t0)).alloc (.cells c1 t1)).alloc (.cells c2 t2)).alloc (.cells c3 t3)) (w.heap.size + 1 + 1) t2 c2 ∧ BoxA ((((w.alloc (.cells c0 t0)).alloc (.cells c1 t1)).alloc (.cells c2 t2)).alloc (.cells c3 t3)) (w.heap.size + 1 + 1 + 1) t3 c3 :=
  ⟨(Below.alloc (Below.alloc (Below.alloc (Below.alloc (Below.refl _ _) (Nat.le_refl _) _) (by simp <;> omega) _) (by simp <;> omega) _) (by simp <;> omega) _), ⟨by repeat (first | exact at_new (by first | (simp; done) | (simp; omega)) | refine at_old (by first | (simp; done) | (simp; omega)) ?_)⟩, ⟨by repeat (first | exact at_new (by first | (simp; done) | (simp; omega)) | refine at_old (by first | (simp; done) | (simp; omega)) ?_)⟩, ⟨by repeat (first | exact at_new (by first | (simp; done) | (simp; omega)) | refine at_old (by first | (simp; done) | (simp; omega)) ?_)⟩, ⟨by repeat (first | exact at_new (by first | (simp; done) | (simp; omega)) | refine at_old (by first | (simp; done) | (simp; omega)) ?_)⟩⟩
theorem bx5 (w : World) (c0 : Array Value) (t0 : TypeId) (c1 : Array Value) (t1 : TypeId) (c2 : Array Value) (t2 : TypeId) (c3 : Array Value) (t3 : TypeId) (c4 : Array Value) (t4 : TypeId) : Below w.heap.size w (((((w.alloc (.cells c0 t0)).alloc (.cells c1 t1)).alloc (.cells c2 t2)).alloc (.cells c3 t3)).alloc (.cells c4 t4)) ∧ BoxA (((((w.alloc (.cells c0 t0)).alloc (.cells c1 t1)).alloc (.cells c2 t2)).alloc (.cells c3 t3)).alloc (.cells c4 t4)) (w.heap.size) t0 c0 ∧ BoxA (((((w.alloc (.cells c0 t0)).alloc (.cells c1 t1)).alloc (.cells c2 t2)).alloc (.cells c3 t3)).alloc (.cells c4 t4)) (w.heap.size + 1) t1 c1 ∧ BoxA (((((w.alloc (.cells c0 t0)).alloc (.cells c1 t1)).alloc (.cells c2 t2)).alloc (.cells c3 t3)).alloc (.cells c4 t4)) (w.heap.size + 1 + 1) t2 c2 ∧ BoxA (((((w.alloc (.cells c0 t0)).alloc (.cells c1 t1)).alloc (.cells c2 t2)).alloc (.cells c3 t3)).alloc (.cells c4 t4)) (w.heap.size + 1 + 1 + 1) t3 c3 ∧ BoxA (((((w.alloc (.cells c0 t0)).alloc (.cells c1 t1)).alloc (.cells c2 t2)).alloc (.cells c3 t3)).alloc (.cells c4 t4)) (w.heap.size + 1 + 1 + 1 + 1) t4 c4 :=
  ⟨(Below.alloc (Below.alloc (Below.alloc (Below.alloc (Below.alloc (Below.refl _ _) (Nat.le_refl _) _) (by simp <;> omega) _) (by simp <;> omega) _) (by simp <;> omega) _) (by simp <;> omega) _), ⟨by repeat (first | exact at_new (by first | (simp; done) | (simp; omega)) | refine at_old (by first | (simp; done) | (simp; omega)) ?_)⟩, ⟨by repeat (first | exact at_new (by first | (simp; done) | (simp; omega)) | refine at_old (by first | (simp; done) | (simp; omega)) ?_)⟩, ⟨by repeat (first | exact at_new (by first | (simp; done) | (simp; omega)) | refine at_old (by first | (simp; done) | (simp; omega)) ?_)⟩, ⟨by repeat (first | exact at_new (by first | (simp; done) | (simp; omega)) | refine at_old (by first | (simp; done) | (simp; omega)) ?_)⟩, ⟨by repeat (first | exact at_new (by first | (simp; done) | (simp; omega)) | refine at_old (by first | (simp; done) | (simp; omega)) ?_)⟩⟩
theorem imake_t (aA : Option Addr) (ac a : Nat) (z : Int) (w : World) (ha : NatV w aA ac a) (hl : nl a ≤ 1073741824) (hz : mg z = a) (hs : sg z = decide (0 < nl a)) :
    Calls Tryz.prog 35 #[.bool true, .slice aA (nl a) ac] w (RetI w z) := by
  replace hz := Lib.hid hz
  replace hs := Lib.hid hs
  obtain ⟨hb1, Rr⟩ := bx1 w #[.bool false, .slice none 0 0] 24
  replace ha := ha.below hb1
  have HBT := hb1
  clear hb1
  have qr0 := Rr.c (i := 0) rfl
  have qr1 := Rr.c (i := 1) rfl
  have C := make_c aA (nl a) ac (limbs a) _ rfl ha.rd (lim_limbs a) (by omega) ha.cap
  rw [val_limbs] at C
  replace C := Lib.hid C
  go_enter Tryz.func35, Tryz.ntmps35
  go_wp2_with (fail)
  refine C.out.mono ?_
  clear C
  rintro e W1 ⟨X, cx, rfl, hX, hb1⟩
  replace ha := ha.below hb1
  replace Rr := Rr.below hb1
  replace qr0 := cell_below hb1 qr0
  replace qr1 := cell_below hb1 qr1
  replace HBT := Below.cons HBT hb1
  clear hb1
  have fr0 := Rr.f (i := 0)
  have fr1 := Rr.f (i := 1)
  go_wp2_with (fail)
  have RS := Rr.store2 (.bool (decide (0 < nl a))) (.slice X (nl a) cx)
  have e0 := RS.c (i := 0) rfl
  have e1 := RS.c (i := 1) rfl
  refine bodyPost_ret (v := .agg #[.bool (decide (0 < nl a)), .slice X (nl a) cx]) (by simp [results, Tryz.results35, go_sem, e0, e1]) rfl ?_
  exact ⟨X, cx, by rw [hz.out, hs.out], by rw [hz.out]; exact (Rr.keep2 (by intro u hu; simp at hu; rcases hu with rfl | rfl <;> first | exact notU_bool _ | exact notU_slice _ _ _ | exact notU_i64 _) hX), (Below.store2 HBT (by first | exact Nat.le_refl _ | omega))⟩
theorem imake_f (aA : Option Addr) (ac a : Nat) (z : Int) (w : World) (ha : NatV w aA ac a) (hl : nl a ≤ 1073741824) (hz : mg z = a) (hs : sg z = false) :
    Calls Tryz.prog 35 #[.bool false, .slice aA (nl a) ac] w (RetI w z) := by
  replace hz := Lib.hid hz
  replace hs := Lib.hid hs
  obtain ⟨hb1, Rr⟩ := bx1 w #[.bool false, .slice none 0 0] 24
  replace ha := ha.below hb1
  have HBT := hb1
  clear hb1
  have qr0 := Rr.c (i := 0) rfl
  have qr1 := Rr.c (i := 1) rfl
  have C := make_c aA (nl a) ac (limbs a) _ rfl ha.rd (lim_limbs a) (by omega) ha.cap
  rw [val_limbs] at C
  replace C := Lib.hid C
  go_enter Tryz.func35, Tryz.ntmps35
  go_wp2_with (fail)
  refine C.out.mono ?_
  clear C
  rintro e W1 ⟨X, cx, rfl, hX, hb1⟩
  replace ha := ha.below hb1
  replace Rr := Rr.below hb1
  replace qr0 := cell_below hb1 qr0
  replace qr1 := cell_below hb1 qr1
  replace HBT := Below.cons HBT hb1
  clear hb1
  have fr0 := Rr.f (i := 0)
  have fr1 := Rr.f (i := 1)
  go_wp2_with (fail)
  have RS := Rr.store2 (.bool false) (.slice X (nl a) cx)
  have e0 := RS.c (i := 0) rfl
  have e1 := RS.c (i := 1) rfl
  refine bodyPost_ret (v := .agg #[.bool false, .slice X (nl a) cx]) (by simp [results, Tryz.results35, go_sem, e0, e1]) rfl ?_
  exact ⟨X, cx, by rw [hz.out, hs.out], by rw [hz.out]; exact (Rr.keep2 (by intro u hu; simp at hu; rcases hu with rfl | rfl <;> first | exact notU_bool _ | exact notU_slice _ _ _ | exact notU_i64 _) hX), (Below.store2 HBT (by first | exact Nat.le_refl _ | omega))⟩
def ival (s : Bool) (a : Nat) : Int := if s then -(a : Int) else a
theorem mg_ival (s : Bool) (a : Nat) : mg (ival s a) = a := by
  unfold mg ival; cases s <;> simp
theorem sg_ival_t (a : Nat) : sg (ival true a) = decide (0 < nl a) := by
  unfold sg ival
  have := @nl_pos a
  simp only [if_true]
  rw [decide_eq_decide, this]; omega
theorem sg_ival_f (a : Nat) : sg (ival false a) = false := by
  unfold sg ival; simp
theorem imake_c (s : Bool) (aA : Option Addr) (ac a : Nat) (w : World) (ha : NatV w aA ac a) (hl : nl a ≤ 1073741824) :
    Calls Tryz.prog 35 #[.bool s, .slice aA (nl a) ac] w (RetI w (ival s a)) := by
  cases s
  · exact imake_f aA ac a _ w ha hl (mg_ival _ _) (sg_ival_f a)
  · exact imake_t aA ac a _ w ha hl (mg_ival _ _) (sg_ival_t a)
theorem ival_sm (z : Int) : ival (sg z) (mg z) = z := by
  unfold ival sg mg
  by_cases h : z < 0
  · simp [h]; omega
  · simp [h]; omega
end Go.Proofs.YtopigejgadnkaaaGreatDoor

namespace Go.Proofs.YtopigejgadnkaaaGreatDoor
open Go.RowKit Go.Shelf
attribute [local go_sem] max2_i min2_i max_two min_two

theorem gl_set_ne {l : List Nat} {i j x : Nat} (h : i ≠ j) : gl (l.set i x) j = gl l j := by
  simp [gl, List.getD_eq_getElem?_getD, List.getElem?_set_ne h]
theorem vals_set (l : List Nat) (i x : Nat) : vals (l.set i x) = (vals l).set i (.int .u32 (x : Nat)) := by simp [vals, List.map_set]
theorem mul_bdI {x y : Nat} (hx : x < 4294967296) (hy : y < 4294967296) : 0 ≤ (x : Int) * (y : Int) ∧ (x : Int) * (y : Int) ≤ 18446744065119617025 := by
  have h : x * y ≤ 18446744065119617025 := Nat.mul_le_mul (show x ≤ 4294967295 by omega) (show y ≤ 4294967295 by omega)
  rw [← Int.natCast_mul]
  generalize x * y = z at *
  omega
theorem mul_bd {x y : Nat} (hx : x < 4294967296) (hy : y < 4294967296) : x * y ≤ 18446744065119617025 :=
  Nat.mul_le_mul (show x ≤ 4294967295 by omega) (show y ≤ 4294967295 by omega)

theorem school_c (A : Option Addr) (c a : Nat) (B : Option Addr) (d b : Nat) (w : World) (hA : NatV w A c a) (hB : NatV w B d b) (ha : nl a ≤ 1073741824) (hb : nl b ≤ 1073741824) :
    Calls Tryz.prog 105 #[.slice A (nl a) c, .slice B (nl b) d] w (RetN w (a * b)) := by
  have hmk := mk32 ((nl a : Int) + nl b) ((nl a : Int) + nl b) (by omega) (by omega) (by omega)
  have hown0 := ownsMade32 w w.heap.size (nl a + nl b) (Nat.le_refl _) (by omega)
  have hb0 : Below w.heap.size w (w.alloc (.cells (madeCells #[.int .u32 0] (nl a + nl b)) 62)) := (Below.refl _ _).alloc (Nat.le_refl _) _
  have e0 : ((nl a : Int) + nl b).toNat = nl a + nl b := by omega
  rw [e0] at hmk
  go_enter Tryz.func105, Tryz.ntmps105
  go_wp2_with (fail)
  go_loopw [6, 7, 8, 9, 10, 19] (fun vi vx vc vk vy ct wr => ∃ (i : Nat) (L : List Nat), ct = .int .i64 i ∧ i ≤ nl a ∧ Below w.heap.size w wr ∧ wr.ownsRow w.heap.size 62 1 (.slice (some ⟨w.heap.size, 0, none⟩) (nl a + nl b) (nl a + nl b)) (nl a + nl b) (vals L) ∧
    L.length = nl a + nl b ∧ Lim L ∧ Hid (val L = val ((limbs a).take i) * b) ∧ Hid (∀ j, i + nl b ≤ j → gl L j = 0)) (fun vi vx vc vk vy ct wr => nl a - (intOf ct).toNat)
  case atStart =>
    exact ⟨0, _, rfl, Nat.zero_le _, hb0, hown0, by simp, Lim.replicate _ _ (by decide), Lib.hid (by rw [val_replicate]; simp [val]), Lib.hid (fun j _ => by simp [gl, List.getElem?_replicate]; split <;> rfl)⟩
  case round =>
    obtain ⟨i, L, rfl, hi, hb, hown, hlen, hlim, hval, hz⟩ := hrel
    by_cases hlt : i < nl a
    · obtain ⟨ad, rfl, hcx⟩ := (hA.rd.below hb).get i hlt
      have hxl := (lim_limbs a).gl i
      obtain ⟨x, hx⟩ : ∃ x, gl (limbs a) i = x := ⟨_, rfl⟩
      rw [hx] at hcx hxl
      have HX := Lib.hid hx
      clear hx
      have HL := Lib.hid hlen
      clear hlen hmk
      obtain ⟨wo, rfl⟩ : ∃ wo : World, wo = wr := ⟨_, rfl⟩
      go_wp2_with (fail)
      go_loopw [8, 9, 10, 26] (fun vc vk vy ct w2 => ∃ (k cr : Nat) (M : List Nat), ct = .int .i64 k ∧ vc = .int .u64 cr ∧ k ≤ nl b ∧ cr < 4294967296 ∧ Below w.heap.size w w2 ∧ w2.ownsRow w.heap.size 62 1 (.slice (some ⟨w.heap.size, 0, none⟩) (nl a + nl b) (nl a + nl b)) (nl a + nl b) (vals M) ∧
        Hid (M.length = nl a + nl b) ∧ Lim M ∧ Hid (val M + 4294967296 ^ (i + k) * cr = val L + 4294967296 ^ i * (x * val ((limbs b).take k))) ∧ Hid (∀ j, i + nl b ≤ j → gl M j = 0)) (fun vc vk vy ct w2 => nl b - (intOf ct).toNat)
      case atStart => exact ⟨0, 0, L, rfl, rfl, Nat.zero_le _, by decide, hb, hown, HL, hlim, Lib.hid (by simp [val]), hz⟩
      case round =>
        obtain ⟨k, cr, M, rfl, rfl, hk, hcr, hb2, hown2, hlen2, hlim2, hval2, hz2⟩ := hrel
        by_cases hlt2 : k < nl b
        · obtain ⟨bd, rfl, hcy⟩ := (hB.rd.below hb2).get k hlt2
          have hyl := (lim_limbs b).gl k
          obtain ⟨y, hy⟩ : ∃ y, gl (limbs b) k = y := ⟨_, rfl⟩
          rw [hy] at hcy hyl
          have HY := Lib.hid hy
          clear hy
          have hM : i + k < M.length := by rw [hlen2.out]; omega
          have hco := hown2.cellAt (i + k) (by omega)
          rw [vals_get M (i + k) hM] at hco
          have hfo := hown2.frozenAt (i + k)
          have hol := hlim2.gl (i + k)
          obtain ⟨o, ho⟩ : ∃ o, gl M (i + k) = o := ⟨_, rfl⟩
          rw [ho] at hco hol
          have HO := Lib.hid ho
          have HM := Lib.hid hM
          clear ho hM
          obtain ⟨hp1, hp2⟩ := mul_bdI hxl hyl
          have i1 : i + k < nl a + nl b := by omega
          go_wp2_with (fail)
          go_roundw
          case rel =>
            have et : ((cr : Int) + ((x : Int) * (y : Int) + (o : Int))) = ((cr + (x * y + o) : Nat) : Int) := by simp
            have hbd := mul_bd hxl hyl
            obtain ⟨t, ht⟩ : ∃ t, cr + (x * y + o) = t := ⟨_, rfl⟩
            rw [et, ht]
            have htb : t < 18446744073709551616 := by rw [← ht]; omega
            obtain ⟨r1, r2⟩ := hown2.stored (i + k) (.int .u32 ((t % 4294967296 : Nat) : Int))
            have hmod : t % 4294967296 < 4294967296 := Nat.mod_lt _ (by decide)
            have ec : ((t : Int) % 4294967296) = ((t % 4294967296 : Nat) : Int) := by omega
            rw [ec]
            refine ⟨k + 1, t / 4294967296, M.set (i + k) (t % 4294967296), by go_num, by congr 1, by omega, by omega, ?_, ?_, Lib.hid ?_, hlim2.set _ _ hmod, Lib.hid ?_, Lib.hid ?_⟩
            · exact hb2.setCell (p := ⟨w.heap.size, i + k, none⟩) (Nat.le_refl _) _
            · rw [vals_set]; exact r1
            · simp [hlen2.out]
            · have hv := hval2.out
              have hs := val_set (i + k) (t % 4294967296) HM.out
              rw [← gl_eq, HO.out] at hs
              rw [val_take_succ _ _ hlt2, HY.out]
              have e := Nat.div_add_mod t 4294967296
              rw [← Nat.add_assoc, Nat.pow_succ]
              rw [Nat.pow_add] at hv hs ⊢
              generalize val (M.set (i + k) (t % 4294967296)) = V at *
              generalize val M = U at *
              generalize val L = S at *
              generalize val ((limbs b).take k) = T at *
              generalize t / 4294967296 = q at *
              generalize t % 4294967296 = r at *
              generalize 4294967296 ^ i = p at *
              generalize 4294967296 ^ k = z at *
              grind
            · intro j hj
              rw [gl_set_ne (by omega)]
              exact hz2.out j hj
          case measure => simp [intOf] <;> omega
        · obtain rfl : k = nl b := by omega
          have hcell : wr.cell? ⟨w.heap.size, i + nl b, none⟩ = some (.int .u32 (gl M (i + nl b) : Nat)) := by
            rw [hown2.cellAt (i + nl b) (by omega), vals_get M _ (by rw [hlen2.out]; omega)]
          have hfo := hown2.frozenAt (i + nl b)
          have hg0 := hz2.out (i + nl b) (by omega)
          have i1 : i + nl b < nl a + nl b := by omega
          go_wp2_with (fail)
          go_roundw
          case rel =>
            have hM : i + nl b < M.length := by rw [hlen2.out]; omega
            obtain ⟨r1, r2⟩ := hown2.stored (i + nl b) (.int .u32 (cr : Nat))
            refine ⟨i + 1, M.set (i + nl b) cr, by go_num, by omega, hb2.setCell (p := ⟨w.heap.size, i + nl b, none⟩) (Nat.le_refl _) _, by rw [vals_set]; exact r1, by simp [hlen2.out], hlim2.set _ _ (by omega), Lib.hid ?_, Lib.hid ?_⟩
            · have hs := val_set (i + nl b) cr hM
              rw [← gl_eq, hg0, Nat.mul_zero, Nat.add_zero] at hs
              have hv := hval2.out
              rw [take_limbs (Nat.le_refl _)] at hv
              rw [hs, hv, hval.out, val_take_succ _ _ hlt, HX.out]
              grind
            · intro j hj
              rw [gl_set_ne (by omega)]
              exact hz2.out j (by omega)
          case measure => simp [intOf] <;> omega
    · obtain rfl : i = nl a := by omega
      obtain ⟨X, cx, e, hcx, hcm, hrd⟩ := ownV_rd hown
      cases e
      have hv := hval.out
      rw [take_limbs (Nat.le_refl _)] at hv
      have hmake := make_c (some ⟨w.heap.size, 0, none⟩) (nl a + nl b) (nl a + nl b) L wr hlen hrd hlim (by omega) (Nat.le_refl _)
      rw [hv] at hmake
      have HM := Lib.hid hmake
      clear hmake hown hrd hv hlen
      go_wp2_with (fail)
      refine HM.out.mono ?_
      rintro e w2 ⟨Y, cy, rfl, h1, h2⟩
      go_wp2_with (fail)
      go_ret
      exact ⟨Y, cy, rfl, h1, hb.trans (h2.mono hb.size)⟩



theorem shl_e (A : Option Addr) (c a : Nat) (n : Int) (m : Nat) (w : World) (hA : NatV w A c a) (ha : nl a ≤ 1073741824) (hn : n = (m : Int)) (hm : m ≤ 1073741824) :
    Calls Tryz.prog 85 #[.slice A (nl a) c, .int .i64 n] w (RetN w (a * 2 ^ m)) := by
  subst hn
  have := shl_ci A c a (m : Int) w hA ha (by omega) (by omega)
  rwa [Int.toNat_natCast] at this
theorem shr_e (A : Option Addr) (c a : Nat) (n : Int) (m : Nat) (w : World) (hA : NatV w A c a) (ha : nl a ≤ 1073741824) (hn : n = (m : Int)) (hm : m ≤ 1099511627776) :
    Calls Tryz.prog 86 #[.slice A (nl a) c, .int .i64 n] w (RetN w (a / 2 ^ m)) := by
  subst hn
  have := shr_ci A c a (m : Int) w hA ha (by omega) (by omega)
  rwa [Int.toNat_natCast] at this



end Go.Proofs.YtopigejgadnkaaaGreatDoor

namespace Go.Proofs.YtopigejgadnkaaaGreatDoor

def wnd (X : List Nat) (i : Nat) : Nat → Nat
  | 0 => 0
  | m + 1 => wnd X i m + 4294967296 ^ m * gl X (i + m)
theorem wnd_lt {X : List Nat} (h : Lim X) (i m : Nat) : wnd X i m < 4294967296 ^ m := by
  induction m with
  | zero => simp [wnd]
  | succ m ih =>
    have := h.gl (i + m)
    have h2 := Nat.mul_le_mul_left (4294967296 ^ m) (show gl X (i + m) + 1 ≤ 4294967296 by omega)
    rw [wnd, Nat.pow_succ]
    rw [Nat.mul_add, Nat.mul_one] at h2
    omega
theorem wnd_congr {X Y : List Nat} {i m : Nat} (h : ∀ j, j < m → gl X (i + j) = gl Y (i + j)) : wnd X i m = wnd Y i m := by
  induction m with
  | zero => rfl
  | succ m ih => rw [wnd, wnd, ih (fun j hj => h j (by omega)), h m (by omega)]
theorem wnd_add (X : List Nat) (i m k : Nat) : wnd X i (m + k) = wnd X i m + 4294967296 ^ m * wnd X (i + m) k := by
  induction k with
  | zero => simp [wnd]
  | succ k ih => rw [← Nat.add_assoc, wnd, ih, wnd, Nat.mul_add, Nat.pow_add, Nat.add_assoc i m k]; grind
theorem wnd_val (X : List Nat) (m : Nat) (h : X.length ≤ m) : wnd X 0 m = val X := by
  have key : ∀ m, m ≤ X.length → wnd X 0 m = val (X.take m) := by
    intro m
    induction m with
    | zero => intro _; simp [wnd, val]
    | succ m ih => intro hm; rw [wnd, ih (by omega), val_take_succ _ _ (by omega), Nat.zero_add]
  have h0 : ∀ k, wnd X X.length k = 0 := by
    intro k
    induction k with
    | zero => rfl
    | succ k ih => rw [wnd, ih, gl_of_le (by omega)]; simp
  obtain ⟨k, rfl⟩ : ∃ k, m = X.length + k := ⟨m - X.length, by omega⟩
  rw [wnd_add, Nat.zero_add, h0, key _ (Nat.le_refl _), List.take_of_length_le (Nat.le_refl _)]; simp
theorem wnd_zero {X : List Nat} {i m : Nat} (h : ∀ j, j < m → gl X (i + j) = 0) : wnd X i m = 0 := by
  induction m with
  | zero => rfl
  | succ m ih => rw [wnd, ih (fun j hj => h j (by omega)), h m (by omega)]; simp
theorem wnd_eq_div {X : List Nat} (h : Lim X) (i m : Nat) (hz : ∀ j, i + m ≤ j → gl X j = 0) : wnd X i m = val X / 4294967296 ^ i := by
  have e : val X = wnd X 0 i + 4294967296 ^ i * wnd X i m := by
    rw [← wnd_val X (i + m + X.length) (by omega), wnd_add, wnd_add, Nat.zero_add, Nat.zero_add, wnd_zero (i := i + m) (fun j _ => hz _ (by omega))]; simp
  have hl := wnd_lt h 0 i
  rw [e, Nat.add_mul_div_left _ _ (Nat.pow_pos (by decide)), Nat.div_eq_of_lt hl]; omega

/-! A digit, guessed of three limbs and two. -/
def dig3 (x2 x1 x0 y1 y0 : Nat) : Nat := min ((x2 * 4294967296 * 4294967296 + x1 * 4294967296 + x0) / (y1 * 4294967296 + y0)) 4294967295
theorem dig3_lt (x2 x1 x0 y1 y0 : Nat) : dig3 x2 x1 x0 y1 y0 < 4294967296 := by unfold dig3; omega
theorem dig3_start {x2 x1 x0 y1 y0 : Nat} (hy : 0 < y1) (hx0 : x0 < 4294967296) : dig3 x2 x1 x0 y1 y0 ≤ (x2 * 4294967296 + x1) / y1 := by
  refine Nat.le_trans (Nat.min_le_left _ _) ?_
  have h1 : (x2 * 4294967296 * 4294967296 + x1 * 4294967296 + x0) / (y1 * 4294967296 + y0) ≤ (x2 * 4294967296 * 4294967296 + x1 * 4294967296 + x0) / (y1 * 4294967296) := Nat.div_le_div_left (by omega) (by omega)
  refine Nat.le_trans h1 ?_
  rw [Nat.mul_comm y1, ← Nat.div_div_eq_div_mul]
  have e : (x2 * 4294967296 * 4294967296 + x1 * 4294967296 + x0) / 4294967296 = x2 * 4294967296 + x1 := by omega
  rw [e]; exact Nat.le_refl _
theorem dig3_step {q r x2 x1 x0 y1 y0 : Nat} (hi : q * y1 + r = x2 * 4294967296 + x1) (hq : dig3 x2 x1 x0 y1 y0 ≤ q) (h : 4294967296 ≤ q ∨ r * 4294967296 + x0 < q * y0) (hy : 0 < y1) :
    1 ≤ q ∧ dig3 x2 x1 x0 y1 y0 ≤ q - 1 ∧ (q - 1) * y1 + (r + y1) = x2 * 4294967296 + x1 := by
  have h1 : 1 ≤ q := by
    rcases h with h | h
    · omega
    · rcases Nat.eq_zero_or_pos q with e | e
      · subst e; simp at h
      · exact e
  refine ⟨h1, ?_, ?_⟩
  · have : dig3 x2 x1 x0 y1 y0 < q := by
      rcases h with h | h
      · have := dig3_lt x2 x1 x0 y1 y0; omega
      · refine Nat.lt_of_le_of_lt (Nat.min_le_left _ _) ?_
        rw [Nat.div_lt_iff_lt_mul (by omega), Nat.mul_add, ← Nat.mul_assoc q y1]
        generalize q * y1 = u at *
        generalize q * y0 = v at *
        have e : x2 * 4294967296 * 4294967296 + x1 * 4294967296 = u * 4294967296 + r * 4294967296 := by rw [← Nat.add_mul, ← hi, Nat.add_mul]
        rw [e, Nat.add_assoc]
        exact Nat.add_lt_add_left h _
    omega
  · obtain ⟨k, rfl⟩ : ∃ k, q = k + 1 := ⟨q - 1, by omega⟩
    rw [Nat.add_sub_cancel, ← hi, Nat.succ_mul]; omega
theorem dig3_done {q r x2 x1 x0 y1 y0 : Nat} (hi : q * y1 + r = x2 * 4294967296 + x1) (hq : dig3 x2 x1 x0 y1 y0 ≤ q) (h : q < 4294967296) (h2 : q * y0 ≤ r * 4294967296 + x0) (hy : 0 < y1) : q = dig3 x2 x1 x0 y1 y0 := by
  refine Nat.le_antisymm ?_ hq
  unfold dig3
  rw [Nat.le_min]
  refine ⟨?_, by omega⟩
  rw [Nat.le_div_iff_mul_le (by omega), Nat.mul_add, ← Nat.mul_assoc q y1]
  generalize q * y1 = u at *
  generalize q * y0 = v at *
  omega
theorem dig3_brk {q r x2 x1 x0 y1 y0 : Nat} (hi : q * y1 + r = x2 * 4294967296 + x1) (hq : dig3 x2 x1 x0 y1 y0 ≤ q) (h : 4294967296 ≤ r) (hx : x2 ≤ y1) (hx1 : x1 < 4294967296) (hy0 : y0 < 4294967296) (hy : 0 < y1) : q = dig3 x2 x1 x0 y1 y0 := by
  have h1 : q * y1 < 4294967296 * y1 := by omega
  have h2 : q < 4294967296 := Nat.lt_of_mul_lt_mul_right h1
  refine dig3_done hi hq h2 ?_ hy
  have := Nat.mul_le_mul (show q ≤ 4294967295 by omega) (show y0 ≤ 4294967295 by omega)
  omega
theorem dig3_ok {W y x2 x1 x0 y1 y0 P wl yl : Nat} (hW : W = (x2 * 4294967296 * 4294967296 + x1 * 4294967296 + x0) * P + wl) (hy : y = (y1 * 4294967296 + y0) * P + yl) (hwl : wl < P) (hyl : yl < P) (h1 : 0 < y1) (hlt : W < y * 4294967296) :
    W / y ≤ dig3 x2 x1 x0 y1 y0 ∧ dig3 x2 x1 x0 y1 y0 ≤ W / y + 1 := by
  obtain ⟨X, hX⟩ : ∃ X, X = x2 * 4294967296 * 4294967296 + x1 * 4294967296 + x0 := ⟨_, rfl⟩
  obtain ⟨Y, hY⟩ : ∃ Y, Y = y1 * 4294967296 + y0 := ⟨_, rfl⟩
  have hYb : 4294967296 ≤ Y := by omega
  have hP : 0 < P := by omega
  unfold dig3
  rw [← hX] at hW ⊢
  rw [← hY] at hy ⊢
  clear hX hY
  have hy0 : 0 < y := by rw [hy]; have := Nat.mul_pos (show 0 < Y by omega) hP; omega
  constructor
  · rw [Nat.le_min]
    refine ⟨?_, ?_⟩
    · rw [Nat.le_div_iff_mul_le (by omega)]
      have h2 := Nat.div_mul_le_self W y
      generalize W / y = Q at *
      have h3 : Q * Y * P ≤ X * P + wl := by
        rw [← hW, Nat.mul_assoc]
        refine Nat.le_trans (Nat.mul_le_mul_left Q (show Y * P ≤ y by omega)) h2
      have h4 : Q * Y * P < (X + 1) * P := by rw [Nat.succ_mul]; omega
      have := Nat.lt_of_mul_lt_mul_right h4
      omega
    · have : W / y < 4294967296 := (Nat.div_lt_iff_lt_mul hy0).2 (by rw [Nat.mul_comm]; exact hlt)
      omega
  · obtain ⟨g, hg⟩ : ∃ g, g = min (X / Y) 4294967295 := ⟨_, rfl⟩
    rw [← hg]
    by_cases g0 : g = 0
    · rw [g0]; exact Nat.zero_le _
    have g1 : g ≤ X / Y := by omega
    have g2 : g ≤ 4294967295 := by omega
    have g3 : g * Y ≤ X := (Nat.le_div_iff_mul_le (by omega)).1 g1
    have : g - 1 ≤ W / y := by
      rw [Nat.le_div_iff_mul_le hy0]
      obtain ⟨k, rfl⟩ : ∃ k, g = k + 1 := ⟨g - 1, by omega⟩
      rw [Nat.add_sub_cancel, hy, hW, Nat.mul_add]
      rw [Nat.succ_mul] at g3
      have h5 : k * yl ≤ k * P := Nat.mul_le_mul_left k (by omega)
      have h6 : k * (Y * P) + k * P ≤ X * P := by
        rw [← Nat.mul_assoc, ← Nat.add_mul]
        exact Nat.mul_le_mul_right P (by omega)
      omega
    omega
/-! One step of division by school. -/
theorem take_fin0 {W y g w : Nat} (h : w + g * y = W) (h1 : W / y ≤ g) (hy : 0 < y) : g = W / y ∧ w = W % y := by
  have h2 : g ≤ W / y := by rw [Nat.le_div_iff_mul_le hy]; omega
  have e : g = W / y := Nat.le_antisymm h2 h1
  refine ⟨e, ?_⟩
  have h3 := Nat.div_add_mod W y
  rw [← e, Nat.mul_comm] at h3
  omega
theorem take_fin1 {W y g w w2 c P : Nat} (h : w + g * y = W + P) (hw : w < P) (h1 : g ≤ W / y + 1) (hb : w2 + P * c = w + y) (hw2 : w2 < P) (hyP : y ≤ P) (hy : 0 < y) : 1 ≤ g ∧ g - 1 = W / y ∧ w2 = W % y := by
  have h2 : W / y < g := by
    rw [Nat.div_lt_iff_lt_mul hy]; omega
  have e : g = W / y + 1 := by omega
  have h3 := Nat.div_add_mod W y
  have h4 := Nat.mod_lt W hy
  rw [Nat.mul_comm] at h3
  rw [e, Nat.succ_mul] at h
  generalize W / y * y = z at *
  have h5 : w + y = W % y + P := by omega
  refine ⟨by rw [e]; exact Nat.le_add_left 1 _, by rw [e, Nat.add_sub_cancel], ?_⟩
  rw [h5] at hb
  have hc : c = 1 := by
    rcases c with _ | _ | c
    · simp at hb; omega
    · rfl
    · rw [Nat.mul_add, Nat.mul_add] at hb
      have := Nat.zero_le (P * c)
      omega
  subst hc
  omega
theorem digit_split (V y P : Nat) : V = V / P / y * y * P + (V % P + P * (V / P % y)) := by
  have h1 := Nat.div_add_mod V P
  have h2 := Nat.div_add_mod (V / P) y
  generalize V % P = r at *
  generalize V / P % y = s at *
  generalize V / P / y = q at *
  generalize V / P = d at *
  rw [← h1, ← h2]
  grind
theorem digit_less {V y P : Nat} (hy : 0 < y) (hP : 0 < P) : V % P + P * (V / P % y) < y * P := by
  have h1 := Nat.mod_lt V hP
  have h2 := Nat.mod_lt (V / P) hy
  generalize V % P = r at *
  generalize V / P % y = s at *
  have := Nat.mul_le_mul_right P (show s + 1 ≤ y from h2)
  rw [Nat.succ_mul] at this
  rw [Nat.mul_comm P s]
  omega
theorem rest_shift {a b Q R s : Nat} (h : a * 2 ^ s = Q * (b * 2 ^ s) + R) (hR : R < b * 2 ^ s) (hb : 0 < b) : Q = a / b ∧ R / 2 ^ s = a % b := by
  have hp := Nat.two_pow_pos s
  have h1 : a * 2 ^ s / (b * 2 ^ s) = Q := by
    rw [h, Nat.mul_comm Q, Nat.mul_add_div (by exact Nat.mul_pos hb hp), Nat.div_eq_of_lt hR]; omega
  have h2 : a * 2 ^ s % (b * 2 ^ s) = R := by rw [h, Nat.mul_comm Q, Nat.mul_add_mod, Nat.mod_eq_of_lt hR]
  rw [Nat.mul_div_mul_right _ _ hp] at h1
  rw [Nat.mul_mod_mul_right] at h2
  exact ⟨h1.symm, by rw [← h2, Nat.mul_div_cancel _ hp]⟩
end Go.Proofs.YtopigejgadnkaaaGreatDoor

namespace Go.Proofs.YtopigejgadnkaaaGreatDoor
open Go.RowKit Go.Shelf
attribute [local go_sem] max2_i min2_i max_two min_two

def RetO (w : World) (n : Nat) (e : Ending) (w' : World) : Prop := ∃ v, e = .returned v ∧ w'.ownsRow w.heap.size 62 1 v (nl n) (vals (limbs n)) ∧ Below w.heap.size w w'
theorem own_le {w : World} {b b' n : Nat} {v : Value} {xs : List Value} (h : w.ownsRow b 62 1 v n xs) (hb : b' ≤ b) : w.ownsRow b' 62 1 v n xs := by
  rcases h with ⟨h1, h2 | ⟨g, cap, cur, e, h3, h4⟩⟩
  · exact ⟨h1, .inl h2⟩
  · exact ⟨h1, .inr ⟨g, cap, cur, e, Nat.le_trans hb h3, h4⟩⟩
theorem clone_o (A : Option Addr) (n c : Nat) (l : List Nat) (w : World) (hn : l.length = n) (h : Rd w A l) (hl : n ≤ 1099511627776) :
  Calls Tryz.prog 117 #[.slice A n c] w fun e w' => ∃ v, e = .returned v ∧ w'.ownsRow w.heap.size 62 1 v n (vals l) ∧ Below w.heap.size w w' := by
  subst hn
  have hnil := fun (a : Option Addr) (n : Nat) (w : World) => Lib.run_eql_slice_nil (P := Tryz.prog) w 22 62 a n c 0 0 Tryz.underlying22
  obtain ⟨i0, hi, hz0, hz1, hz2⟩ := info_parts info_u32
  cases A with
  | none =>
    have hl0 : l = [] := by
      rcases h with h | ⟨ad, e, _⟩
      · exact List.map_eq_nil_iff.1 h
      · cases e
    subst hl0
    go_enter Tryz.func117, Tryz.ntmps117
    go_wp2
    go_ret
    exact ⟨.slice none 0 0, rfl, World.ownsRow_nil _ _ _ _, Below.refl _ _⟩
  | some ad =>
    go_enter Tryz.func117, Tryz.ntmps117
    have hb1 : Below w.heap.size w (w.alloc (.cells #[] 62)) := (Below.refl _ _).alloc (Nat.le_refl _) _
    go_wp2_with (at_builtin; refine wpList_append_own_at _ rfl _ _ 22 rfl w.heap.size 62 i0 (.int .u32 0) 1 4 Tryz.underlying22 hi hz0 hz1 hz2 rfl (by decide) _ 0 [] rfl (World.ownsRow_lit w #[] 0 (Nat.le_refl _) (by decide) rfl) ad l.length c (vals l) rfl (by simp [vals]) (h.below hb1).cells (vals_one l) (by simp only [maxLen]; omega) (by omega) (by simp) ?_)
    intro v' w1 hown hg _ _
    (try simp only [Nat.zero_add, List.nil_append] at hown)
    have HOWN := Lib.hid hown
    clear hown
    have hb2 : Below w.heap.size w w1 := hb1.grown hg (by simp) (fun k hk => by simp [Value.ownBlock] at hk; omega)
    clear hg
    go_wp2
    go_ret
    exact ⟨_, rfl, HOWN.out, hb2⟩

theorem make_o (A : Option Addr) (n c : Nat) (l : List Nat) (w : World) (hn : l.length = n) (h : Rd w A l) (hL : Lim l) (hl : n ≤ 1099511627776) (hc : n ≤ c) :
    Calls Tryz.prog 79 #[.slice A n c] w (RetO w (val l)) := by
  subst hn
  have fin : ∀ k, k ≤ l.length → (∀ i, k ≤ i → i < l.length → gl l i = 0) → (k = 0 ∨ gl l (k - 1) ≠ 0) → Calls Tryz.prog 117 #[.slice A k c] w (RetO w (val l)) := fun k hk h0 h1 => by
    have e := take_make hL hk h0 h1
    have e2 : k = nl (val l) := by unfold nl; rw [← e, List.length_take, Nat.min_eq_left hk]
    refine (clone_o A k c (l.take k) w (by simp [hk]) ?_ (by omega)).mono ?_
    · rcases h with h | ⟨ad, rfl, h⟩
      · exact .inl (by simp [vals] at h ⊢; simp [h])
      · refine .inr ⟨ad, rfl, fun i u hu => h i u ?_⟩
        simp only [vals, List.map_take] at hu ⊢
        by_cases hik : i < k
        · rwa [List.getElem?_take_of_lt hik] at hu
        · rw [List.getElem?_take_eq_none (by omega)] at hu; cases hu
    · rintro e' w' ⟨v, rfl, h3, h4⟩
      exact ⟨v, rfl, by rw [← e2, ← e]; exact h3, h4⟩
  go_enter Tryz.func79, Tryz.ntmps79
  go_wp2_with (fail)
  go_loop [3] (fun v => ∃ k : Nat, v = .int .i64 k ∧ k ≤ l.length ∧ ∀ i, k ≤ i → i < l.length → gl l i = 0) (fun v => (intOf v).toNat)
  case atStart => exact ⟨l.length, rfl, Nat.le_refl _, fun i h1 h2 => by omega⟩
  case round =>
    obtain ⟨k, rfl, hk, h0⟩ := hrel
    have H0 := Lib.hid h0
    have FIN := Lib.hid fin
    clear h0 fin
    cases k with
    | zero =>
      go_wp2_with (fail)
      refine (FIN.out 0 (by omega) H0.out (.inl rfl)).mono ?_
      rintro e w1 ⟨v, rfl, h1, h2⟩
      replace h1 := Lib.hid h1
      go_wp2_with (fail)
      go_ret
      exact ⟨v, rfl, h1.out, h2⟩
    | succ k =>
      obtain ⟨ad, rfl, hcell⟩ := h.get k (by omega)
      by_cases hz : gl l k = 0
      · have hb : ((gl l k : Int) == 0) = true := ieqT (by omega)
        have HZ := Lib.hid hz
        clear hz
        go_wp2_with (fail)
        go_round
        case rel => exact ⟨k, by go_num, by omega, fun i h1 h2 => by
          by_cases e : i = k
          · rw [e]; exact HZ.out
          · exact H0.out i (by omega) h2⟩
        case measure => simp [intOf] <;> omega
      · have hb : ((gl l k : Int) == 0) = false := ieqF (by omega)
        go_wp2_with (fail)
        refine (FIN.out (k + 1) (by omega) H0.out (.inr hz)).mono ?_
        rintro e w1 ⟨v, rfl, h1, h2⟩
        replace h1 := Lib.hid h1
        go_wp2_with (fail)
        go_ret
        exact ⟨v, rfl, h1.out, h2⟩
theorem shl_o (A : Option Addr) (c a : Nat) (n : Nat) (w : World) (hA : NatV w A c a) (ha : nl a ≤ 1073741824) (hn : n ≤ 1073741824) (h0 : a ≠ 0) :
    Calls Tryz.prog 85 #[.slice A (nl a) c, .int .i64 (n : Int)] w (RetO w (a * 2 ^ n)) := by
  have hp := nl_pos.2 h0
  have hb0 : ((nl a : Int) == 0) = false := ieqF (by omega)
  have hmk := mk32 ((n : Int) / 32) ((n : Int) / 32 + nl a + 1) (by omega) (by omega) (by omega)
  obtain ⟨i0, hi, hz0, hz1, hz2⟩ := info_parts info_u32
  go_enter Tryz.func85, Tryz.ntmps85
  go_wp2_with (fail)
  have hs := Nat.mod_lt n (show 0 < 32 by decide)
  go_loopw [5, 7, 9, 26] (fun o lo x i wr => ∃ (k low : Nat) (L : List Nat), o = .slice (some ⟨w.heap.size, 0, none⟩) (n / 32 + k) (n / 32 + nl a + 1) ∧ i = .int .i64 k ∧ lo = .int .u32 low ∧ k ≤ nl a ∧ Below w.heap.size w wr ∧
    wr.ownsRow w.heap.size 62 1 (.slice (some ⟨w.heap.size, 0, none⟩) (n / 32 + k) (n / 32 + nl a + 1)) (n / 32 + k) (vals L) ∧ L.length = n / 32 + k ∧ Lim L ∧ Hid (val L + 4294967296 ^ (n / 32 + k) * low = val ((limbs a).take k) * 2 ^ (n % 32) * 4294967296 ^ (n / 32)) ∧ low < 2 ^ (n % 32)) (fun o lo x i wr => nl a - (intOf i).toNat)
  case atStart =>
    have e1 : ((n : Int) / 32).toNat = n / 32 := by omega
    have e2 : ((n : Int) / 32 + nl a + 1).toNat = n / 32 + nl a + 1 := by omega
    refine ⟨0, 0, List.replicate (n / 32) 0, by simp, rfl, rfl, Nat.zero_le _, ((Below.refl _ _).alloc (Nat.le_refl _) _), ?_, by simp, Lim.replicate _ _ (by decide), Lib.hid (by rw [val_replicate]; simp [val]), Nat.pow_pos (by decide)⟩
    simp only [Nat.add_zero, e2]
    refine ⟨by simp [vals], .inr ⟨w.heap.size, n / 32 + nl a + 1, _, rfl, Nat.le_refl _, heap_alloc_new w _, by omega, by simp only [maxLen]; omega, by rw [size_madeCells, Nat.mul_one], ?_⟩⟩
    rw [toList_madeCells_one, List.take_replicate, Nat.min_eq_left (by omega)]
    simp [vals]
  case round =>
    obtain ⟨k, low, L, rfl, rfl, rfl, hk, hb, hown, hlen, hlim, hval, hlow⟩ := hrel
    by_cases hlt : k < nl a
    · obtain ⟨ad, rfl, hc⟩ := (hA.rd.below hb).get k hlt
      obtain ⟨x, hx⟩ : ∃ x, gl (limbs a) k = x := ⟨_, rfl⟩
      have hxl := (lim_limbs a).gl k
      rw [hx] at hc hxl
      obtain ⟨hor, hvl⟩ := or_low x low (n % 32) hxl hs hlow
      generalize hv : x * 2 ^ (n % 32) % 4294967296 + low = v at *
      have HV := Lib.hid hv
      have HX := Lib.hid hx
      have HL := Lib.hid hlen
      clear hv hx hlen
      have hxl2 : (x : Int) < 4294967296 := by omega
      go_wp2_with (at_builtin; refine wpList_append_fits _ rfl _ _ 22 rfl w.heap.size 62 i0 1 Tryz.underlying22 hi hz1 w.heap.size (n / 32 + k) (n / 32 + nl a + 1) (vals L) rfl (hown.alloc _) ⟨wr.heap.size, 0, none⟩ 1 1 [.int .u32 (v : Nat)] rfl rfl (cell_one_new _ _ _) (by simp [Value.oneCell']) (by omega) ?_)
      intro w1 hown1 hg1
      go_wp2_with (fail)
      go_roundw
      case rel =>
        have hq : x * 2 ^ (n % 32) / 4294967296 < 2 ^ (n % 32) := hi_low x _ hxl hs
        refine ⟨k + 1, x * 2 ^ (n % 32) / 4294967296, L ++ [v], by rw [Nat.add_assoc], by go_num, ?_, by omega, ?_, ?_, ?_, ?_, Lib.hid ?_, hq⟩
        · have hp31 : (2 : Nat) ^ (n % 32) ≤ 2 ^ 31 := Nat.pow_le_pow_right (by decide) (by omega)
          have h64 : x * 2 ^ (n % 32) ≤ 4294967296 * 2 ^ 31 := Nat.mul_le_mul (by omega) hp31
          have e1 : ((x : Int) * 2 ^ (n % 32)) = ((x * 2 ^ (n % 32) : Nat) : Int) := by simp
          congr 1
          rw [e1]
          generalize x * 2 ^ (n % 32) = y at *
          have : IntKind.u64.wrap (y : Int) = (y : Int) := by
            simp only [IntKind.wrap, IntKind.bits, IntKind.signed]
            simp
            omega
          rw [this]
          omega
        · exact (hb.alloc hb.size _).grown hg1 (by simp; have := hb.size; omega) (fun k e => by cases e; exact Nat.le_refl _)
        · rw [vals_append]; exact hown1
        · simp [HL.out]; omega
        · exact hlim.append (Lim.cons hvl Lim.nil)
        · have hval := hval.out
          have hv := HV.out
          have hx := HX.out
          rw [val_snoc, HL.out, val_take_succ _ _ hlt, hx, ← hv]
          have e := Nat.div_add_mod (x * 2 ^ (n % 32)) 4294967296
          generalize x * 2 ^ (n % 32) / 4294967296 = d at *
          rw [← Nat.add_assoc, Nat.pow_succ]
          rw [Nat.pow_add] at hval ⊢
          generalize val ((limbs a).take k) = t at *
          generalize 4294967296 ^ k = p at *
          generalize 4294967296 ^ (n / 32) = r at *
          generalize x * 2 ^ (n % 32) % 4294967296 = m at *
          generalize 2 ^ (n % 32) = z at *
          grind
      case measure => simp [intOf] <;> omega
    · obtain rfl : k = nl a := by omega
      have HV := hval
      go_wp2_with (first
        | (go_at_call 79; fail)
        | (at_builtin; refine wpList_append_fits _ rfl _ _ 22 rfl w.heap.size 62 i0 1 Tryz.underlying22 hi hz1 w.heap.size (n / 32 + nl a) (n / 32 + nl a + 1) (vals L) rfl (hown.alloc _) ⟨wr.heap.size, 0, none⟩ 1 1 [.int .u32 (low : Nat)] rfl rfl (cell_one_new _ _ _) (by simp [Value.oneCell']) (by omega) ?_))
      intro w1 hown1 hg1
      obtain ⟨Y, cy, hYe, hcy, hcm, hrd⟩ := ownV_rd hown1
      cases hYe
      have hll : low < 4294967296 := by
        have : (2 : Nat) ^ (n % 32) ≤ 2 ^ 31 := Nat.pow_le_pow_right (by decide) (by omega)
        omega
      have hb2 : Below w.heap.size w w1 := (hb.alloc hb.size _).grown hg1 (by simp; have := hb.size; omega) (fun k e => by cases e; exact Nat.le_refl _)
      have hmake := make_o (some ⟨w.heap.size, 0, none⟩) (n / 32 + nl a + 1) (n / 32 + nl a + 1) (L ++ [low]) w1 (by simp [hlen]) (by unfold Rd; rw [vals_append]; exact hrd) (hlim.append (Lim.cons hll Lim.nil)) (by omega) (Nat.le_refl _)
      have hvv : val (L ++ [low]) = a * 2 ^ n := by
        have h := HV.out
        rw [take_limbs (Nat.le_refl _)] at h
        rw [val_snoc, hlen, h, Nat.mul_assoc, ← pow32, ← Nat.pow_add]
        congr 2
        omega
      rw [hvv] at hmake
      have HM := Lib.hid hmake
      clear hmake hown1 hown hrd hg1 hval hlen
      go_wp2_with (fail)
      refine HM.out.mono ?_
      rintro e w2 ⟨v, rfl, h1, h2⟩
      replace h1 := Lib.hid (own_le h1 hb2.size)
      go_wp2_with (fail)
      go_ret
      exact ⟨v, rfl, h1.out, hb2.trans (h2.mono hb2.size)⟩
def Fr (b : Nat) (A : Option Addr) (c : Nat) : Prop := (∀ ad, A = some ad → b ≤ ad.block) ∧ (A = none → c = 0)
theorem Fr.le {b b' : Nat} {A : Option Addr} {c : Nat} (h : Fr b A c) (hb : b' ≤ b) : Fr b' A c := ⟨fun ad e => Nat.le_trans hb (h.1 ad e), h.2⟩
theorem Fr.own {w : World} {base n c : Nat} {X : Option Addr} {xs : List Value} (h : w.ownsRow base 62 1 (.slice X n c) n xs) : Fr base X c := by
  refine ⟨fun ad e => own_base' h _ (by subst e; rfl), fun e => ?_⟩
  subst e
  rcases h.2 with ⟨e, _⟩ | ⟨_, _, _, e, _⟩
  · simp only [Value.slice.injEq] at e; exact e.2.2
  · simp at e
def RetF (w : World) (n : Nat) (e : Ending) (w' : World) : Prop := ∃ A c, e = .returned (.slice A (nl n) c) ∧ NatV w' A c n ∧ Below w.heap.size w w' ∧ Fr w.heap.size A c
theorem RetF.toN {w w' : World} {n : Nat} {e : Ending} (h : RetF w n e w') : RetN w n e w' := by
  obtain ⟨A, c, h1, h2, h3, _⟩ := h
  exact ⟨A, c, h1, h2, h3⟩
theorem rmake_f (A : Option Addr) (n c : Nat) (l : List Nat) (w : World) (hn : l.length = n) (h : Rd w A l) (hL : Lim l) (hl : n ≤ 1099511627776) (hc : n ≤ c) (hnil : A = none → c = 0) :
    Calls Tryz.prog 78 #[.slice A n c] w (RetF w (val l)) := by
  subst hn
  obtain ⟨i0, hi, hz0, hz1, hz2⟩ := info_parts info_u32
  have fin : ∀ k, k ≤ l.length → (∀ i, k ≤ i → i < l.length → gl l i = 0) → (k = 0 ∨ gl l (k - 1) ≠ 0) → l.take k = limbs (val l) ∧ k = nl (val l) := fun k hk h0 h1 => by
    have e := take_make hL hk h0 h1
    exact ⟨e, by unfold nl; rw [← e, List.length_take, Nat.min_eq_left hk]⟩
  have hb1 : Below w.heap.size w (w.alloc (.cells #[] 62)) := (Below.refl _ _).alloc (Nat.le_refl _) _
  go_enter Tryz.func78, Tryz.ntmps78
  go_wp2_with (fail)
  go_loop [3] (fun v => ∃ k : Nat, v = .int .i64 k ∧ k ≤ l.length ∧ ∀ i, k ≤ i → i < l.length → gl l i = 0) (fun v => (intOf v).toNat)
  case atStart => exact ⟨l.length, rfl, Nat.le_refl _, fun i h1 h2 => by omega⟩
  case round =>
    obtain ⟨k, rfl, hk, h0⟩ := hrel
    have H0 := Lib.hid h0
    have FIN := Lib.hid fin
    clear h0 fin
    cases k with
    | zero =>
      obtain ⟨e1, e2⟩ := FIN.out 0 (by omega) H0.out (.inl rfl)
      have ev : val l = 0 := nl_eq_zero.1 e2.symm
      replace ev := Lib.hid ev
      clear e1 e2
      rcases A with _ | ad
      · obtain rfl : c = 0 := hnil rfl
        go_wp2_with (at_builtin; refine wpList_append_own_none rfl _ _ 22 rfl w.heap.size 62 i0 1 Tryz.underlying22 hi _ 0 [] rfl (World.ownsRow_lit w #[] 0 (Nat.le_refl _) (by decide) rfl) rfl ?_)
        go_wp2
        go_ret
        exact ⟨some ⟨w.heap.size, 0, none⟩, 0, by rw [ev.out, nl_zero]; rfl, ⟨by rw [ev.out, limbs_zero]; exact .inl rfl, by rw [ev.out, nl_zero]; exact Nat.le_refl _, by decide⟩, hb1, ⟨fun ad e => by cases e; exact Nat.le_refl _, fun e => by cases e⟩⟩
      · go_wp2_with (at_builtin; refine wpList_append_own_at _ rfl _ _ 22 rfl w.heap.size 62 i0 (.int .u32 0) 1 4 Tryz.underlying22 hi hz0 hz1 hz2 rfl (by decide) _ 0 [] rfl (World.ownsRow_lit w #[] 0 (Nat.le_refl _) (by decide) rfl) ad 0 c [] rfl (by simp) (fun i u hu => by simp at hu) (fun u hu => by simp at hu) (by simp only [maxLen]; omega) (by omega) (by simp) ?_)
        intro v' w1 hown hg _ _
        (try simp only [Nat.zero_add, List.nil_append, Nat.add_zero] at hown)
        obtain ⟨B, d, rfl, h1, h2, h3⟩ := ownV_rd hown
        have hfr := Lib.hid (Fr.own hown)
        have hb2 : Below w.heap.size w w1 := hb1.grown hg (by simp) (fun k hk => by simp [Value.ownBlock] at hk; omega)
        clear hg
        go_wp2
        go_ret
        exact ⟨B, d, by rw [ev.out, nl_zero]; rfl, ⟨by rw [ev.out, limbs_zero]; exact .inl rfl, by rw [ev.out, nl_zero]; exact h1, h2⟩, hb2, hfr.out⟩
    | succ k =>
      obtain ⟨ad, rfl, hcell⟩ := h.get k (by omega)
      by_cases hz : gl l k = 0
      · have hb : ((gl l k : Int) == 0) = true := ieqT (by omega)
        have HZ := Lib.hid hz
        clear hz
        go_wp2_with (fail)
        go_round
        case rel => exact ⟨k, by go_num, by omega, fun i h1 h2 => by
          by_cases e : i = k
          · rw [e]; exact HZ.out
          · exact H0.out i (by omega) h2⟩
        case measure => simp [intOf] <;> omega
      · have hb : ((gl l k : Int) == 0) = false := ieqF (by omega)
        obtain ⟨e1, e2⟩ := FIN.out (k + 1) (by omega) H0.out (.inr hz)
        replace e1 := Lib.hid e1
        replace e2 := Lib.hid e2
        have hcut : ∀ i u, (vals (l.take (k + 1)))[i]? = some u → (w.alloc (.cells #[] 62)).cell? (ad.add i) = some u := fun i u hu => by
          refine (h.below hb1).cells i u ?_
          simp only [vals, List.map_take] at hu ⊢
          by_cases hik : i < k + 1
          · rwa [List.getElem?_take_of_lt hik] at hu
          · rw [List.getElem?_take_eq_none (by omega)] at hu; cases hu
        go_wp2_with (at_builtin; refine wpList_append_own_at _ rfl _ _ 22 rfl w.heap.size 62 i0 (.int .u32 0) 1 4 Tryz.underlying22 hi hz0 hz1 hz2 rfl (by decide) _ 0 [] rfl (World.ownsRow_lit w #[] 0 (Nat.le_refl _) (by decide) rfl) ad (k + 1) c (vals (l.take (k + 1))) rfl (by simp [vals, hk]) hcut (vals_one _) (by simp only [maxLen]; omega) (by omega) (by simp) ?_)
        intro v' w1 hown hg _ _
        (try simp only [Nat.zero_add, List.nil_append] at hown)
        obtain ⟨B, d, rfl, h1, h2, h3⟩ := ownV_rd hown
        have hfr := Lib.hid (Fr.own hown)
        have hb2 : Below w.heap.size w w1 := hb1.grown hg (by simp) (fun k hk => by simp [Value.ownBlock] at hk; omega)
        clear hg
        go_wp2
        go_ret
        exact ⟨B, d, by rw [← e2.out]; rfl, ⟨by rw [← e1.out]; exact h3, by rw [← e2.out]; exact h1, h2⟩, hb2, hfr.out⟩
theorem rmake_c (A : Option Addr) (n c : Nat) (l : List Nat) (w : World) (hn : l.length = n) (h : Rd w A l) (hL : Lim l) (hl : n ≤ 1099511627776) (hc : n ≤ c) (hnil : A = none → c = 0) :
    Calls Tryz.prog 78 #[.slice A n c] w (RetN w (val l)) :=
  (rmake_f A n c l w hn h hL hl hc hnil).mono fun _ _ h => h.toN
theorem Lim.one {x : Nat} (h : x < 4294967296) : Lim [x] := Lim.cons h Lim.nil
theorem dig_lt (a i : Nat) : a / 4294967296 ^ i % 4294967296 < 4294967296 := Nat.mod_lt _ (by decide)
theorem div_dig (a k : Nat) : a / 4294967296 ^ k = 4294967296 * (a / 4294967296 ^ (k + 1)) + a / 4294967296 ^ k % 4294967296 := by
  rw [Nat.pow_succ, ← Nat.div_div_eq_div_mul]; omega
theorem lt_of_div {a b P : Nat} (h : a / P < b / P) : a < b := by
  refine Nat.lt_of_not_le fun h2 => ?_
  have := Nat.div_le_div_right (c := P) h2
  omega
theorem mod_dig (a i : Nat) : a % 4294967296 ^ (i + 1) = a % 4294967296 ^ i + 4294967296 ^ i * (a / 4294967296 ^ i % 4294967296) := by rw [Nat.pow_succ, Nat.mod_mul]
theorem div_nl {a i : Nat} (h : nl a ≤ i) : a / 4294967296 ^ i = 0 := Nat.div_eq_of_lt (nl_le.1 h)
theorem mod_nl {a i : Nat} (h : nl a ≤ i) : a % 4294967296 ^ i = a := Nat.mod_eq_of_lt (nl_le.1 h)

theorem limb_c (A : Option Addr) (c a : Nat) (j : Nat) (w : World) (hA : NatV w A c a) (h0 : j ≤ 1099511627776) (hl : nl a ≤ 1099511627776) :
    Calls Tryz.prog 97 #[.slice A (nl a) c, .int .i64 (j : Int)] w fun e w' => e = .returned (.int .u64 (a / 4294967296 ^ j % 4294967296 : Nat)) ∧ w = w' := by
  obtain ⟨x, hx⟩ : ∃ x, x = a / 4294967296 ^ j % 4294967296 := ⟨_, rfl⟩
  have hxl : x < 4294967296 := by rw [hx]; exact dig_lt _ _
  rw [← hx]
  by_cases hj : j < nl a
  · obtain ⟨ad, rfl, hc⟩ := hA.rd.get j hj
    rw [limbs_gl, ← hx] at hc
    replace hx := Lib.hid hx
    go_enter Tryz.func97, Tryz.ntmps97
    go_wp2_with (fail)
    go_ret
    exact ⟨rfl, rfl⟩
  · have e : x = 0 := by rw [hx, div_nl (by omega), Nat.zero_mod]
    replace hx := Lib.hid hx
    replace e := Lib.hid e
    go_enter Tryz.func97, Tryz.ntmps97
    go_wp2_with (fail)
    go_ret
    exact ⟨by rw [e.out]; rfl, rfl⟩

theorem rcmp_c (A : Option Addr) (c a : Nat) (B : Option Addr) (d b : Nat) (w : World) (hA : NatV w A c a) (hB : NatV w B d b) (ha : nl a ≤ 1073741824) (hb : nl b ≤ 1073741824) :
    Calls Tryz.prog 50 #[.slice A (nl a) c, .slice B (nl b) d] w fun e w' => e = .returned (.int .i64 (cmpN a b)) ∧ w = w' := by
  obtain ⟨M, hM⟩ : ∃ M, M = max (nl a) (nl b) := ⟨_, rfl⟩
  have hMI : max (nl a : Int) (nl b : Int) = (M : Int) := by omega
  have hMb : M ≤ 1073741824 := by omega
  have h0 : a / 4294967296 ^ M = b / 4294967296 ^ M := by rw [div_nl (by omega), div_nl (by omega)]
  replace hM := Lib.hid hM
  replace h0 := Lib.hid h0
  go_enter Tryz.func50, Tryz.ntmps50
  go_wp2_with (fail)
  go_loop [5] (fun vi => ∃ k : Nat, vi = .int .i64 ((k : Int) - 1) ∧ k ≤ M ∧ Hid (a / 4294967296 ^ k = b / 4294967296 ^ k)) (fun vi => (intOf vi + 1).toNat)
  case atStart => exact ⟨M, rfl, Nat.le_refl _, h0⟩
  case round =>
    obtain ⟨k, rfl, hk, heq⟩ := hrel
    cases k with
    | zero =>
      have h2 : a = b := by have := heq.out; simpa using this
      have h3 : cmpN a b = 0 := cmpN_eq h2
      replace h2 := Lib.hid h2
      replace h3 := Lib.hid h3
      go_wp2_with (fail)
      go_ret
      exact ⟨by rw [h3.out]; rfl, rfl⟩
    | succ k =>
      rw [show (((k + 1 : Nat) : Int) - 1) = (k : Int) by omega]
      have CA := limb_c A c a k w hA (by omega) (by omega)
      have CB := limb_c B d b k w hB (by omega) (by omega)
      have da := div_dig a k
      have db := div_dig b k
      obtain ⟨x, hx⟩ : ∃ x, x = a / 4294967296 ^ k % 4294967296 := ⟨_, rfl⟩
      obtain ⟨y, hy⟩ : ∃ y, y = b / 4294967296 ^ k % 4294967296 := ⟨_, rfl⟩
      have hxl : x < 4294967296 := by rw [hx]; exact dig_lt _ _
      have hyl : y < 4294967296 := by rw [hy]; exact dig_lt _ _
      rw [← hx] at CA da
      rw [← hy] at CB db
      rw [heq.out] at da
      replace CA := Lib.hid CA
      replace CB := Lib.hid CB
      rcases Nat.lt_trichotomy x y with hxy | hxy | hxy
      · have h3 : cmpN a b = -1 := cmpN_lt (lt_of_div (P := 4294967296 ^ k) (by omega))
        replace h3 := Lib.hid h3
        clear hx hy da db
        go_wp2_with (first
          | (go_at_call 97; (with_reducible refine CA.out.mono ?_); rintro e w' ⟨rfl, rfl⟩)
          | (go_at_call 97; (with_reducible refine CB.out.mono ?_); rintro e w' ⟨rfl, rfl⟩))
        go_ret
        exact ⟨by rw [h3.out]; rfl, rfl⟩
      · have h3 : a / 4294967296 ^ k = b / 4294967296 ^ k := by rw [da, db, hxy]
        replace h3 := Lib.hid h3
        have hn1 : ¬ x < y := by omega
        have hn2 : ¬ y < x := by omega
        replace hxy := Lib.hid hxy
        clear hx hy da db
        go_wp2_with (first
          | (go_at_call 97; (with_reducible refine CA.out.mono ?_); rintro e w' ⟨rfl, rfl⟩)
          | (go_at_call 97; (with_reducible refine CB.out.mono ?_); rintro e w' ⟨rfl, rfl⟩))
        go_round
        case rel => exact ⟨k, rfl, by omega, h3⟩
        case measure => simp only [intOf]; omega
      · have h3 : cmpN a b = 1 := cmpN_gt (lt_of_div (P := 4294967296 ^ k) (by omega))
        replace h3 := Lib.hid h3
        have hn1 : ¬ x < y := by omega
        clear hx hy da db
        go_wp2_with (first
          | (go_at_call 97; (with_reducible refine CA.out.mono ?_); rintro e w' ⟨rfl, rfl⟩)
          | (go_at_call 97; (with_reducible refine CB.out.mono ?_); rintro e w' ⟨rfl, rfl⟩))
        go_ret
        exact ⟨by rw [h3.out]; rfl, rfl⟩
theorem radd_f (A : Option Addr) (c a : Nat) (B : Option Addr) (d b : Nat) (w : World) (hA : NatV w A c a) (hB : NatV w B d b) (ha : nl a ≤ 1073741824) (hb : nl b ≤ 1073741824) :
    Calls Tryz.prog 155 #[.slice A (nl a) c, .slice B (nl b) d] w (RetF w (a + b)) := by
  obtain ⟨i0, hi, hz0, hz1, hz2⟩ := info_parts info_u32
  obtain ⟨M, hM⟩ : ∃ M, M = max (nl a) (nl b) := ⟨_, rfl⟩
  have hMa : nl a ≤ M := by omega
  have hMb : nl b ≤ M := by omega
  have hMc : M ≤ 1073741824 := by omega
  have hMd : M = nl a ∨ M = nl b := by omega
  replace hM := Lib.hid hM
  replace hMd := Lib.hid hMd
  go_enter Tryz.func155, Tryz.ntmps155
  go_wp2_with (fail)
  go_loopw [5, 6, 7, 8] (fun vo vc vi vn wr => ∃ (i cr : Nat) (L : List Nat), vc = .int .u64 cr ∧ vi = .int .i64 i ∧ i ≤ M + 1 ∧ cr ≤ 1 ∧ Below w.heap.size w wr ∧ wr.ownsRow w.heap.size 62 1 vo i (vals L) ∧ Hid (L.length = i) ∧ Lim L ∧ Hid (val L + 4294967296 ^ i * cr = a % 4294967296 ^ i + b % 4294967296 ^ i)) (fun vo vc vi vn wr => M + 1 - (intOf vi).toNat)
  case atStart => exact ⟨0, 0, [], rfl, rfl, Nat.zero_le _, by decide, (Below.refl _ _).alloc (Nat.le_refl _) _, World.ownsRow_lit w #[] 0 (Nat.le_refl _) (by decide) rfl, Lib.hid rfl, Lim.nil, Lib.hid (by simp [val, Nat.mod_one])⟩
  case round =>
    obtain ⟨i, cr, L, rfl, rfl, hi1, hcr, hb, hown, hlen, hlim, hval⟩ := hrel
    obtain ⟨X, cx, rfl, hcx, hcm, hrd⟩ := ownV_rd hown
    by_cases hlt : i ≤ nl a
    · skip
      have hlt0 : i ≤ M := by omega
      have CA := limb_c A c a i wr (hA.below hb) (by omega) (by omega)
      have CB := limb_c B d b i wr (hB.below hb) (by omega) (by omega)
      have ma := mod_dig a i
      have mb := mod_dig b i
      obtain ⟨x, hx⟩ : ∃ x, x = a / 4294967296 ^ i % 4294967296 := ⟨_, rfl⟩
      obtain ⟨y, hy⟩ : ∃ y, y = b / 4294967296 ^ i % 4294967296 := ⟨_, rfl⟩
      have hxl : x < 4294967296 := by rw [hx]; exact dig_lt _ _
      have hyl : y < 4294967296 := by rw [hy]; exact dig_lt _ _
      rw [← hx] at CA ma
      rw [← hy] at CB mb
      replace CA := Lib.hid CA
      replace CB := Lib.hid CB
      replace ma := Lib.hid ma
      replace mb := Lib.hid mb
      obtain ⟨t, ht⟩ : ∃ t, t = x + y + cr := ⟨_, rfl⟩
      have htI : (x : Int) + (y : Int) + (cr : Int) = (t : Int) := by omega
      have htb : t < 18446744073709551616 := by omega
      obtain ⟨o, ho⟩ : ∃ o, o = t % 4294967296 := ⟨_, rfl⟩
      have hoI : (t : Int) % 4294967296 = (o : Int) := by omega
      have hol : o < 4294967296 := by omega
      obtain ⟨q, hq⟩ : ∃ q, q = t / 4294967296 := ⟨_, rfl⟩
      have hqI : (t : Int) / 4294967296 = (q : Int) := by omega
      have hql : q ≤ 1 := by omega
      have hoq : o + 4294967296 * q = x + y + cr := by omega
      replace hoq := Lib.hid hoq
      replace ht := Lib.hid ht
      replace ho := Lib.hid ho
      replace hq := Lib.hid hq
      replace hx := Lib.hid hx
      replace hy := Lib.hid hy
      go_wp2_with (first
        | (go_at_call 97; (with_reducible refine CA.out.mono ?_); rintro e w' ⟨rfl, rfl⟩)
        | (go_at_call 97; (with_reducible refine CB.out.mono ?_); rintro e w' ⟨rfl, rfl⟩)
        | (at_builtin; refine wpList_append_own_at _ rfl _ _ 22 rfl w.heap.size 62 i0 (.int .u32 0) 1 4 Tryz.underlying22 hi hz0 hz1 hz2 rfl (by decide) _ i (vals L) rfl (hown.alloc _) ⟨wr.heap.size, 0, none⟩ 1 1 [.int .u32 (o : Nat)] rfl rfl (cell_one_new _ _ _) (by simp [Value.oneCell']) (by simp only [maxLen]; omega) (by omega) (by simp; have := hb.size; omega) ?_))
      intro v' w1 hown1 hg1 _ _
      have hown2 := Lib.hid hown1
      have hg2 := Lib.hid hg1
      clear hown1 hg1
      go_wp2_with (fail)
      go_roundw
      case rel =>
        refine ⟨i + 1, q, L ++ [o], rfl, by go_num, by omega, hql, ?_, ?_, Lib.hid (by simp [hlen.out]), hlim.append (Lim.one hol), Lib.hid ?_⟩
        · exact (hb.alloc hb.size _).grown hg2.out (by simp; have := hb.size; omega) (fun k e => own_base' hown k e)
        · rw [vals_append]; exact hown2.out
        · have h1 := hval.out
          have h2 := hoq.out
          rw [val_snoc, hlen.out, ma.out, mb.out, Nat.pow_succ]
          generalize 4294967296 ^ i = p at *
          generalize a % p = a1 at *
          generalize b % p = b1 at *
          grind
      case measure => simp only [intOf]; omega
    by_cases hlt2 : i ≤ nl b
    · skip
      have hlt0 : i ≤ M := by omega
      have CA := limb_c A c a i wr (hA.below hb) (by omega) (by omega)
      have CB := limb_c B d b i wr (hB.below hb) (by omega) (by omega)
      have ma := mod_dig a i
      have mb := mod_dig b i
      obtain ⟨x, hx⟩ : ∃ x, x = a / 4294967296 ^ i % 4294967296 := ⟨_, rfl⟩
      obtain ⟨y, hy⟩ : ∃ y, y = b / 4294967296 ^ i % 4294967296 := ⟨_, rfl⟩
      have hxl : x < 4294967296 := by rw [hx]; exact dig_lt _ _
      have hyl : y < 4294967296 := by rw [hy]; exact dig_lt _ _
      rw [← hx] at CA ma
      rw [← hy] at CB mb
      replace CA := Lib.hid CA
      replace CB := Lib.hid CB
      replace ma := Lib.hid ma
      replace mb := Lib.hid mb
      obtain ⟨t, ht⟩ : ∃ t, t = x + y + cr := ⟨_, rfl⟩
      have htI : (x : Int) + (y : Int) + (cr : Int) = (t : Int) := by omega
      have htb : t < 18446744073709551616 := by omega
      obtain ⟨o, ho⟩ : ∃ o, o = t % 4294967296 := ⟨_, rfl⟩
      have hoI : (t : Int) % 4294967296 = (o : Int) := by omega
      have hol : o < 4294967296 := by omega
      obtain ⟨q, hq⟩ : ∃ q, q = t / 4294967296 := ⟨_, rfl⟩
      have hqI : (t : Int) / 4294967296 = (q : Int) := by omega
      have hql : q ≤ 1 := by omega
      have hoq : o + 4294967296 * q = x + y + cr := by omega
      replace hoq := Lib.hid hoq
      replace ht := Lib.hid ht
      replace ho := Lib.hid ho
      replace hq := Lib.hid hq
      replace hx := Lib.hid hx
      replace hy := Lib.hid hy
      go_wp2_with (first
        | (go_at_call 97; (with_reducible refine CA.out.mono ?_); rintro e w' ⟨rfl, rfl⟩)
        | (go_at_call 97; (with_reducible refine CB.out.mono ?_); rintro e w' ⟨rfl, rfl⟩)
        | (at_builtin; refine wpList_append_own_at _ rfl _ _ 22 rfl w.heap.size 62 i0 (.int .u32 0) 1 4 Tryz.underlying22 hi hz0 hz1 hz2 rfl (by decide) _ i (vals L) rfl (hown.alloc _) ⟨wr.heap.size, 0, none⟩ 1 1 [.int .u32 (o : Nat)] rfl rfl (cell_one_new _ _ _) (by simp [Value.oneCell']) (by simp only [maxLen]; omega) (by omega) (by simp; have := hb.size; omega) ?_))
      intro v' w1 hown1 hg1 _ _
      have hown2 := Lib.hid hown1
      have hg2 := Lib.hid hg1
      clear hown1 hg1
      go_wp2_with (fail)
      go_roundw
      case rel =>
        refine ⟨i + 1, q, L ++ [o], rfl, by go_num, by omega, hql, ?_, ?_, Lib.hid (by simp [hlen.out]), hlim.append (Lim.one hol), Lib.hid ?_⟩
        · exact (hb.alloc hb.size _).grown hg2.out (by simp; have := hb.size; omega) (fun k e => own_base' hown k e)
        · rw [vals_append]; exact hown2.out
        · have h1 := hval.out
          have h2 := hoq.out
          rw [val_snoc, hlen.out, ma.out, mb.out, Nat.pow_succ]
          generalize 4294967296 ^ i = p at *
          generalize a % p = a1 at *
          generalize b % p = b1 at *
          grind
      case measure => simp only [intOf]; omega
    · have hiM : i = M + 1 := by rcases hMd.out with h | h <;> omega
      have h1 := hval.out
      rw [mod_nl (show nl a ≤ i by omega), mod_nl (show nl b ≤ i by omega)] at h1
      have h2 := val_lt hlim
      rw [hlen.out] at h2
      have h3 : a + b < 4294967296 ^ i := by
        have h4 := nl_le.1 hMa
        have h5 := nl_le.1 hMb
        rw [hiM, Nat.pow_succ]; omega
      have h6 : cr = 0 := by
        rcases Nat.eq_zero_or_pos cr with h | h
        · exact h
        · have := Nat.le_mul_of_pos_right (4294967296 ^ i) h
          omega
      rw [h6, Nat.mul_zero, Nat.add_zero] at h1
      have hmk := rmake_f X i cx L wr hlen.out hrd hlim (by omega) hcx (fun e => by subst e; rcases hown.2 with ⟨e, _⟩ | ⟨_, _, _, e, _⟩ <;> cases e; rfl)
      rw [h1] at hmk
      replace hmk := Lib.hid hmk
      clear h1 h2 h3 h6
      replace hiM := Lib.hid hiM
      go_wp2_with (fail)
      refine hmk.out.mono ?_
      rintro e w2 ⟨Y, cy, rfl, k1, k2, k3⟩
      go_wp2_with (fail)
      go_ret
      exact ⟨Y, cy, rfl, k1, hb.cons k2, k3.le hb.size⟩
theorem radd_c (A : Option Addr) (c a : Nat) (B : Option Addr) (d b : Nat) (w : World) (hA : NatV w A c a) (hB : NatV w B d b) (ha : nl a ≤ 1073741824) (hb : nl b ≤ 1073741824) :
    Calls Tryz.prog 155 #[.slice A (nl a) c, .slice B (nl b) d] w (RetN w (a + b)) :=
  (radd_f A c a B d b w hA hB ha hb).mono fun _ _ h => h.toN
theorem own_nilcap {w : World} {base n cx : Nat} {X : Option Addr} {xs : List Value} (h : w.ownsRow base 62 1 (.slice X n cx) n xs) (e : X = none) : cx = 0 := by
  subst e
  rcases h.2 with ⟨e, _⟩ | ⟨_, _, _, e, _⟩
  · simp only [Value.slice.injEq] at e; exact e.2.2
  · simp at e
theorem sub_step {x y br t q : Nat} (hx : x < 4294967296) (hy : y < 4294967296) (hb : br ≤ 1) (ht : t = 4294967296 + x - y - br) (hq : q = 1 - t / 4294967296) : t % 4294967296 + y + br = x + 4294967296 * q ∧ q ≤ 1 ∧ t < 8589934592 := by
  have : t / 4294967296 = 0 ∨ t / 4294967296 = 1 := by omega
  omega
theorem rsub_f (A : Option Addr) (c a : Nat) (B : Option Addr) (d b : Nat) (w : World) (hA : NatV w A c a) (hB : NatV w B d b) (ha : nl a ≤ 1073741824) (hb : nl b ≤ 1073741824) (h : b ≤ a) :
    Calls Tryz.prog 156 #[.slice A (nl a) c, .slice B (nl b) d] w fun e w' => ∃ X cx, e = .returned (.tuple #[.slice X (nl (a - b)) cx, .bool true]) ∧ NatV w' X cx (a - b) ∧ Below w.heap.size w w' ∧ Fr w.heap.size X cx := by
  obtain ⟨i0, hi, hz0, hz1, hz2⟩ := info_parts info_u32
  have hb1 : decide (cmpN a b < 0) = false := by rw [decide_eq_false_iff_not, cmpN_neg]; omega
  have CC := rcmp_c A c a B d b w hA hB ha hb
  have hba := nl_mono h
  replace CC := Lib.hid CC
  replace h := Lib.hid h
  go_enter Tryz.func156, Tryz.ntmps156
  go_wp2_with (fail)
  refine CC.out.mono ?_
  rintro e w' ⟨rfl, rfl⟩
  go_wp2_with (fail)
  go_loopw [6, 7, 8, 9] (fun vo vc vi vn wr => ∃ (i br : Nat) (L : List Nat), vc = .int .u64 br ∧ vi = .int .i64 i ∧ i ≤ nl a ∧ br ≤ 1 ∧ Below w.heap.size w wr ∧ wr.ownsRow w.heap.size 62 1 vo i (vals L) ∧ Hid (L.length = i) ∧ Lim L ∧ Hid (val L + b % 4294967296 ^ i = a % 4294967296 ^ i + 4294967296 ^ i * br)) (fun vo vc vi vn wr => nl a - (intOf vi).toNat)
  case atStart => exact ⟨0, 0, [], rfl, rfl, Nat.zero_le _, by decide, (Below.refl _ _).alloc (Nat.le_refl _) _, World.ownsRow_lit w #[] 0 (Nat.le_refl _) (by decide) rfl, Lib.hid rfl, Lim.nil, Lib.hid (by simp [val, Nat.mod_one])⟩
  case round =>
    obtain ⟨i, br, L, rfl, rfl, hi1, hbr, hb, hown, hlen, hlim, hval⟩ := hrel
    obtain ⟨X, cx, rfl, hcx, hcm, hrd⟩ := ownV_rd hown
    by_cases hlt : i < nl a
    · have CA := limb_c A c a i wr (hA.below hb) (by omega) (by omega)
      have CB := limb_c B d b i wr (hB.below hb) (by omega) (by omega)
      have ma := mod_dig a i
      have mb := mod_dig b i
      obtain ⟨x, hx⟩ : ∃ x, x = a / 4294967296 ^ i % 4294967296 := ⟨_, rfl⟩
      obtain ⟨y, hy⟩ : ∃ y, y = b / 4294967296 ^ i % 4294967296 := ⟨_, rfl⟩
      have hxl : x < 4294967296 := by rw [hx]; exact dig_lt _ _
      have hyl : y < 4294967296 := by rw [hy]; exact dig_lt _ _
      rw [← hx] at CA ma
      rw [← hy] at CB mb
      replace CA := Lib.hid CA
      replace CB := Lib.hid CB
      replace ma := Lib.hid ma
      replace mb := Lib.hid mb
      obtain ⟨t, ht⟩ : ∃ t, t = 4294967296 + x - y - br := ⟨_, rfl⟩
      have htI : 4294967296 + (x : Int) - (y : Int) - (br : Int) = (t : Int) := by omega
      obtain ⟨q, hq⟩ : ∃ q, q = 1 - t / 4294967296 := ⟨_, rfl⟩
      obtain ⟨hoq, hql, htb⟩ := sub_step hxl hyl hbr ht hq
      have hqI : 1 - (t : Int) / 4294967296 = (q : Int) := by omega
      obtain ⟨o, ho⟩ : ∃ o, o = t % 4294967296 := ⟨_, rfl⟩
      have hoI : (t : Int) % 4294967296 = (o : Int) := by omega
      have hol : o < 4294967296 := by omega
      rw [← ho] at hoq
      replace hoq := Lib.hid hoq
      replace ht := Lib.hid ht
      replace ho := Lib.hid ho
      replace hq := Lib.hid hq
      replace hx := Lib.hid hx
      replace hy := Lib.hid hy
      go_wp2_with (first
        | (go_at_call 97; (with_reducible refine CA.out.mono ?_); rintro e w' ⟨rfl, rfl⟩)
        | (go_at_call 97; (with_reducible refine CB.out.mono ?_); rintro e w' ⟨rfl, rfl⟩)
        | (at_builtin; refine wpList_append_own_at _ rfl _ _ 22 rfl w.heap.size 62 i0 (.int .u32 0) 1 4 Tryz.underlying22 hi hz0 hz1 hz2 rfl (by decide) _ (i) (vals L) rfl (hown.alloc _) ⟨wr.heap.size, 0, none⟩ 1 1 [.int .u32 (o : Nat)] rfl rfl (cell_one_new _ _ _) (by simp [Value.oneCell']) (by simp only [maxLen]; omega) (by omega) (by simp; have := hb.size; omega) ?_))
      intro v' w1 hown1 hg1 _ _
      have hown2 := Lib.hid hown1
      have hg2 := Lib.hid hg1
      clear hown1 hg1
      go_wp2_with (fail)
      go_roundw
      case rel =>
        refine ⟨i + 1, q, L ++ [o], rfl, by go_num, by omega, hql, ?_, ?_, Lib.hid (by simp [hlen.out]), hlim.append (Lim.one hol), Lib.hid ?_⟩
        · exact (hb.alloc hb.size _).grown hg2.out (by simp; have := hb.size; omega) (fun k e => own_base' hown k e)
        · rw [vals_append]; exact hown2.out
        · have h1 := hval.out
          have h2 := hoq.out
          rw [val_snoc, hlen.out, ma.out, mb.out, Nat.pow_succ]
          generalize 4294967296 ^ i = p at *
          generalize a % p = a1 at *
          generalize b % p = b1 at *
          grind
      case measure => simp only [intOf]; omega
    · obtain rfl : i = nl a := by omega
      have h1 := hval.out
      rw [mod_nl (Nat.le_refl _), mod_nl hba] at h1
      have h2 := val_lt hlim
      rw [hlen.out] at h2
      have h6 : br = 0 := by
        rcases Nat.eq_zero_or_pos br with hz | hz
        · exact hz
        · have := Nat.le_mul_of_pos_right (4294967296 ^ nl a) hz
          have := h.out
          omega
      rw [h6, Nat.mul_zero, Nat.add_zero] at h1
      have hmk := rmake_f X (nl a) cx L wr hlen.out hrd hlim (by omega) hcx (own_nilcap hown)
      rw [show val L = a - b by omega] at hmk
      replace hmk := Lib.hid hmk
      clear h1 h2 h6
      go_wp2_with (fail)
      refine hmk.out.mono ?_
      rintro e w2 ⟨Y, cy, rfl, k1, k2, k3⟩
      go_wp2_with (fail)
      exact bodyPost_ret (v := .tuple #[.slice Y (nl (a - b)) cy, .bool true]) (by simp [results, Tryz.results156, go_sem]) rfl ⟨Y, cy, rfl, k1, hb.cons k2, k3.le hb.size⟩
theorem rsub_c (A : Option Addr) (c a : Nat) (B : Option Addr) (d b : Nat) (w : World) (hA : NatV w A c a) (hB : NatV w B d b) (ha : nl a ≤ 1073741824) (hb : nl b ≤ 1073741824) (h : b ≤ a) :
    Calls Tryz.prog 156 #[.slice A (nl a) c, .slice B (nl b) d] w fun e w' => ∃ X cx, e = .returned (.tuple #[.slice X (nl (a - b)) cx, .bool true]) ∧ NatV w' X cx (a - b) ∧ Below w.heap.size w w' :=
  (rsub_f A c a B d b w hA hB ha hb h).mono fun _ _ ⟨X, cx, h1, h2, h3, _⟩ => ⟨X, cx, h1, h2, h3⟩
theorem rsubNot_c (A : Option Addr) (c a : Nat) (B : Option Addr) (d b : Nat) (w : World) (hA : NatV w A c a) (hB : NatV w B d b) (ha : nl a ≤ 1073741824) (hb : nl b ≤ 1073741824) (h : a < b) :
    Calls Tryz.prog 156 #[.slice A (nl a) c, .slice B (nl b) d] w fun e w' => e = .returned (.tuple #[.slice none 0 0, .bool false]) ∧ w = w' := by
  have hb1 : decide (cmpN a b < 0) = true := by rw [decide_eq_true_eq, cmpN_neg]; omega
  have CC := rcmp_c A c a B d b w hA hB ha hb
  replace CC := Lib.hid CC
  replace h := Lib.hid h
  go_enter Tryz.func156, Tryz.ntmps156
  go_wp2_with (fail)
  refine CC.out.mono ?_
  rintro e w' ⟨rfl, rfl⟩
  go_wp2_with (fail)
  exact bodyPost_ret (v := .tuple #[.slice none 0 0, .bool false]) (by simp [results, Tryz.results156, go_sem]) rfl ⟨rfl, rfl⟩
theorem zeros_snoc (i : Nat) : List.replicate i 0 ++ [0] = List.replicate (i + 1) (0 : Nat) := by rw [List.replicate_succ']
theorem rshl_f (A : Option Addr) (c a n : Nat) (w : World) (hA : NatV w A c a) (ha : nl a ≤ 1073741824) (hn : n ≤ 1073741824) :
    Calls Tryz.prog 153 #[.slice A (nl a) c, .int .i64 (n : Nat)] w (RetF w (a * 2 ^ n)) := by
  obtain ⟨i0, hi, hz0, hz1, hz2⟩ := info_parts info_u32
  obtain ⟨q, hq⟩ : ∃ q, q = n / 32 := ⟨_, rfl⟩
  obtain ⟨s, hs⟩ : ∃ s, s = n % 32 := ⟨_, rfl⟩
  have hqI : (n : Int) / 32 = (q : Int) := by omega
  have hsI : (n : Int) % 32 = (s : Int) := by omega
  have hql : q ≤ 33554432 := by omega
  have hsl : s < 32 := by omega
  have hns : n = s + 32 * q := by omega
  have hs31 : 2 ^ s ≤ 2147483648 := Nat.pow_le_pow_right (by decide) (show s ≤ 31 by omega)
  replace hns := Lib.hid hns
  replace hs := Lib.hid hs
  replace hq := Lib.hid hq
  replace hs31 := Lib.hid hs31
  go_enter Tryz.func153, Tryz.ntmps153
  go_wp2_with (fail)
  go_loopw [5, 8] (fun vo vi wr => ∃ i : Nat, vi = .int .i64 i ∧ i ≤ q ∧ Below w.heap.size w wr ∧ wr.ownsRow w.heap.size 62 1 vo i (vals (List.replicate i 0))) (fun vo vi wr => q - (intOf vi).toNat)
  case atStart => exact ⟨0, rfl, Nat.zero_le _, (Below.refl _ _).alloc (Nat.le_refl _) _, World.ownsRow_lit w #[] 0 (Nat.le_refl _) (by decide) rfl⟩
  case round =>
    obtain ⟨i, rfl, hi1, hb, hown⟩ := hrel
    obtain ⟨X, cx, rfl, hcx, hcm, hrd⟩ := ownV_rd hown
    by_cases hlt : i < q
    · go_wp2_with (at_builtin; refine wpList_append_own_at _ rfl _ _ 22 rfl w.heap.size 62 i0 (.int .u32 0) 1 4 Tryz.underlying22 hi hz0 hz1 hz2 rfl (by decide) _ (i) (vals (List.replicate i 0)) rfl (hown.alloc _) ⟨wr.heap.size, 0, none⟩ 1 1 [.int .u32 0] rfl rfl (cell_one_new _ _ _) (by simp [Value.oneCell']) (by simp only [maxLen]; omega) (by omega) (by simp; have := hb.size; omega) ?_)
      intro v' w1 hown1 hg1 _ _
      have hown2 := Lib.hid hown1
      have hg2 := Lib.hid hg1
      clear hown1 hg1
      go_wp2_with (fail)
      go_roundw
      case rel =>
        refine ⟨i + 1, by go_num, by omega, ?_, ?_⟩
        · exact (hb.alloc hb.size _).grown hg2.out (by simp; have := hb.size; omega) (fun k e => own_base' hown k e)
        · rw [← zeros_snoc, vals_append]; exact hown2.out
      case measure => simp only [intOf]; omega
    · obtain rfl : i = q := by omega
      obtain ⟨wo, rfl⟩ : ∃ wo : World, wo = wr := ⟨_, rfl⟩
      go_wp2_with (fail)
      go_loopw [7, 9] (fun vb vi w2 => ∃ j bb : Nat, vb = .int .u64 bb ∧ vi = .int .i64 j ∧ j ≤ s ∧ Hid (bb = 2 ^ j) ∧ bb ≤ 2147483648 ∧ w2 = wo) (fun vb vi w2 => s - (intOf vi).toNat)
      case atStart => exact ⟨0, 1, rfl, rfl, Nat.zero_le _, Lib.hid rfl, by decide, rfl⟩
      case round =>
        obtain ⟨j, bb, rfl, rfl, hj, hbb, hbl, hw2⟩ := hrel
        rw [hw2]
        clear hw2
        by_cases hlt2 : j < s
        · have hb2 : 2 * bb = 2 ^ (j + 1) := by rw [hbb.out, Nat.pow_succ, Nat.mul_comm]
          have hb3 : 2 * bb ≤ 2147483648 := by rw [hb2]; exact Nat.le_trans (Nat.pow_le_pow_right (by decide) (show j + 1 ≤ s by omega)) hs31.out
          replace hb2 := Lib.hid hb2
          go_wp2_with (fail)
          go_roundw
          case rel => exact ⟨j + 1, 2 * bb, by go_num, by go_num, by omega, hb2, hb3, by first | rfl | trivial⟩
          case measure => simp only [intOf]; omega
        · obtain rfl : j = s := by omega
          go_wp2_with (fail)
          simp only [hsI]
          go_loopw [5, 6, 10, 11] (fun vo vc vi vx wr => ∃ (k cr : Nat) (L : List Nat), vc = .int .u64 cr ∧ vi = .int .i64 k ∧ k ≤ nl a + 1 ∧ cr < 4294967296 ∧ Below w.heap.size w wr ∧ wr.ownsRow w.heap.size 62 1 vo (i + k) (vals L) ∧ Hid (L.length = i + k) ∧ Lim L ∧ Hid (val L + 4294967296 ^ (i + k) * cr = a % 4294967296 ^ k * bb * 4294967296 ^ i)) (fun vo vc vi vx wr => nl a + 1 - (intOf vi).toNat)
          case atStart => exact ⟨0, 0, _, rfl, rfl, Nat.zero_le _, by decide, hb, hown, Lib.hid (by simp), Lim.replicate _ _ (by decide), Lib.hid (by rw [val_replicate]; simp [Nat.mod_one])⟩
          case round =>
            obtain ⟨k, cr, L, rfl, rfl, hk1, hcr, hb, hown, hlen, hlim, hval⟩ := hrel
            obtain ⟨X, cx, rfl, hcx, hcm, hrd⟩ := ownV_rd hown
            by_cases hlt3 : k ≤ nl a
            · have CA := limb_c A c a k wr (hA.below hb) (by omega) (by omega)
              have ma := mod_dig a k
              obtain ⟨x, hx⟩ : ∃ x, x = a / 4294967296 ^ k % 4294967296 := ⟨_, rfl⟩
              have hxl : x < 4294967296 := by rw [hx]; exact dig_lt _ _
              rw [← hx] at CA ma
              replace CA := Lib.hid CA
              replace ma := Lib.hid ma
              obtain ⟨p, hp⟩ : ∃ p, p = x * bb := ⟨_, rfl⟩
              have hpI : (x : Int) * (bb : Int) = (p : Int) := by rw [hp]; exact (Int.natCast_mul x bb).symm
              have hpl : p ≤ 4294967295 * 2147483648 := by rw [hp]; exact Nat.mul_le_mul (by omega) hbl
              obtain ⟨t, ht⟩ : ∃ t, t = p + cr := ⟨_, rfl⟩
              have htI : (p : Int) + (cr : Int) = (t : Int) := by omega
              have htb : t < 18446744073709551616 := by omega
              obtain ⟨o, ho⟩ : ∃ o, o = t % 4294967296 := ⟨_, rfl⟩
              have hoI : (t : Int) % 4294967296 = (o : Int) := by omega
              have hol : o < 4294967296 := by omega
              obtain ⟨e, he⟩ : ∃ e, e = t / 4294967296 := ⟨_, rfl⟩
              have heI : (t : Int) / 4294967296 = (e : Int) := by omega
              have hel : e < 4294967296 := by omega
              have hoe : o + 4294967296 * e = x * bb + cr := by rw [← hp]; omega
              replace hoe := Lib.hid hoe
              replace hp := Lib.hid hp
              replace ht := Lib.hid ht
              replace ho := Lib.hid ho
              replace he := Lib.hid he
              replace hx := Lib.hid hx
              go_wp2_with (first
                | (go_at_call 97; (with_reducible refine CA.out.mono ?_); rintro e w' ⟨rfl, rfl⟩)
                | (at_builtin; refine wpList_append_own_at _ rfl _ _ 22 rfl w.heap.size 62 i0 (.int .u32 0) 1 4 Tryz.underlying22 hi hz0 hz1 hz2 rfl (by decide) _ (i + k) (vals L) rfl (hown.alloc _) ⟨wr.heap.size, 0, none⟩ 1 1 [.int .u32 (o : Nat)] rfl rfl (cell_one_new _ _ _) (by simp [Value.oneCell']) (by simp only [maxLen]; omega) (by omega) (by simp; have := hb.size; omega) ?_))
              intro v' w1 hown1 hg1 _ _
              have hown2 := Lib.hid hown1
              have hg2 := Lib.hid hg1
              clear hown1 hg1
              go_wp2_with (fail)
              go_roundw
              case rel =>
                refine ⟨k + 1, e, L ++ [o], rfl, by go_num, by omega, hel, ?_, ?_, Lib.hid (by simp [hlen.out]; omega), hlim.append (Lim.one hol), Lib.hid ?_⟩
                · exact (hb.alloc hb.size _).grown hg2.out (by simp; have := hb.size; omega) (fun k e => own_base' hown k e)
                · rw [vals_append]; exact hown2.out
                · have h1 := hval.out
                  have h2 := hoe.out
                  rw [val_snoc, hlen.out, ma.out, ← Nat.add_assoc, Nat.pow_succ]
                  rw [Nat.pow_add] at h1 ⊢
                  generalize 4294967296 ^ k = pk at *
                  generalize 4294967296 ^ i = pi at *
                  generalize a % pk = a1 at *
                  generalize val L = vl at *
                  grind
              case measure => simp only [intOf]; omega
            · obtain rfl : k = nl a + 1 := by omega
              have h1 := hval.out
              rw [mod_nl (show nl a ≤ nl a + 1 by omega)] at h1
              have h2 := val_lt hlim
              rw [hlen.out] at h2
              have h3 : a * bb * 4294967296 ^ i < 4294967296 ^ (i + (nl a + 1)) := by
                have h4 := nl_lt a
                have h5 : a * bb < 4294967296 ^ nl a * 4294967296 := Nat.mul_lt_mul'' h4 (by omega)
                rw [Nat.pow_add, Nat.mul_comm (4294967296 ^ i), Nat.pow_succ]
                exact Nat.mul_lt_mul_of_pos_right h5 (Nat.pow_pos (by decide))
              have h6 : cr = 0 := by
                rcases Nat.eq_zero_or_pos cr with h | h
                · exact h
                · have := Nat.le_mul_of_pos_right (4294967296 ^ (i + (nl a + 1))) h
                  omega
              rw [h6, Nat.mul_zero, Nat.add_zero, hbb.out, Nat.mul_assoc, ← pow32, ← Nat.pow_add, ← hns.out] at h1
              have hmk := rmake_f X (i + (nl a + 1)) cx L wr hlen.out hrd hlim (by omega) hcx (own_nilcap hown)
              rw [h1] at hmk
              replace hmk := Lib.hid hmk
              clear h1 h2 h3 h6
              go_wp2_with (fail)
              refine hmk.out.mono ?_
              rintro e w2 ⟨Y, cy, rfl, k1, k2, k3⟩
              go_wp2_with (fail)
              go_ret
              exact ⟨Y, cy, rfl, k1, hb.cons k2, k3.le hb.size⟩
end Go.Proofs.YtopigejgadnkaaaGreatDoor

namespace Go.Proofs.YtopigejgadnkaaaGreatDoor
open Go.Shelf
def rens : Ren :=
  { f := fun x => match x with
    | 125 => 144
    | 128 => 143
    | 129 => 160
    | 264 => 149
    | n => n
    t := fun x => match x with
    | 3 => 3
    | 4 => 4
    | 5 => 5
    | 9 => 9
    | 46 => 107
    | 51 => 62
    | 53 => 67
    | n => n
    g := fun x => x }
theorem lays128 : Lays.n128 Tryz.prog rens :=
  { mixed := rfl, f128 := Tryz.func143.trans (congrArg some rfl), t3 := Tryz.underlying3, a3 := Tryz.isAgg3, z3 := Tryz.sizeOf3, v3 := Tryz.zeroValue3, t4 := Tryz.underlying4, a4 := Tryz.isAgg4, z4 := Tryz.sizeOf4, v4 := Tryz.zeroValue4, t5 := Tryz.underlying5, a5 := Tryz.isAgg5, z5 := Tryz.sizeOf5, v5 := Tryz.zeroValue5, t9 := Tryz.underlying9, a9 := Tryz.isAgg9, z9 := Tryz.sizeOf9, v9 := Tryz.zeroValue9, t46 := Tryz.underlying107, a46 := Tryz.isAgg107, z46 := Tryz.sizeOf107, v46 := Tryz.zeroValue107, t51 := Tryz.underlying62, a51 := Tryz.isAgg62, z51 := Tryz.sizeOf62, v51 := Tryz.zeroValue62 }
theorem len32_c (x : Nat) (w : World) (h1 : x < 4294967296) :
    Calls Tryz.prog 143 #[.int .u32 (x : Nat)] w fun e w' => e = .returned (.int .i64 (Lib.bitLen x)) ∧ w' = w := by
  have := Any.bits_Len32 lays128 (x : Int) w (by omega) (by omega)
  rwa [Int.toNat_natCast] at this
end Go.Proofs.YtopigejgadnkaaaGreatDoor

namespace Go.Proofs.YtopigejgadnkaaaGreatDoor
open Go.RowKit Go.Shelf
attribute [local go_sem] max2_i min2_i max_two min_two

def bl (a : Nat) : Nat := if a = 0 then 0 else 32 * (nl a - 1) + Lib.bitLen (gl (limbs a) (nl a - 1))
theorem pow32_top {a : Nat} (h : a ≠ 0) : a / 4294967296 ^ (nl a - 1) = gl (limbs a) (nl a - 1) := by
  rw [limbs_gl, Nat.mod_eq_of_lt]
  rw [Nat.div_lt_iff_lt_mul (Nat.pow_pos (by decide)), Nat.mul_comm, ← Nat.pow_succ]
  have := nl_lt a
  have := nl_pos.2 h
  rwa [show (nl a - 1).succ = nl a by omega]
theorem bl_top {a : Nat} (h : a ≠ 0) : ∃ L, bl a = 32 * (nl a - 1) + L ∧ 1 ≤ L ∧ 2 ^ (L - 1) ≤ a / 4294967296 ^ (nl a - 1) ∧ a / 4294967296 ^ (nl a - 1) < 2 ^ L := by
  have h1 := limbs_last a h
  have h2 := (lim_limbs a).gl (nl a - 1)
  rw [pow32_top h]
  refine ⟨Lib.bitLen (gl (limbs a) (nl a - 1)), by unfold bl; rw [if_neg h], ?_⟩
  exact Lib.bitLenAux_bounds 64 _ (Nat.lt_trans h2 (by decide)) h1
theorem bl_lt (a : Nat) : a < 2 ^ bl a := by
  by_cases h : a = 0
  · subst h; exact Nat.two_pow_pos _
  · obtain ⟨L, e, h1, h2, h3⟩ := bl_top h
    rw [e, Nat.pow_add, pow32, Nat.mul_comm]
    exact (Nat.div_lt_iff_lt_mul (Nat.pow_pos (by decide))).1 h3
theorem bl_ge {a : Nat} (h : a ≠ 0) : 2 ^ (bl a - 1) ≤ a := by
  obtain ⟨L, e, h1, h2, h3⟩ := bl_top h
  rw [e, show 32 * (nl a - 1) + L - 1 = 32 * (nl a - 1) + (L - 1) by omega, Nat.pow_add, pow32, Nat.mul_comm]
  exact (Nat.le_div_iff_mul_le (Nat.pow_pos (by decide))).1 h2
theorem bl_le (a : Nat) : bl a ≤ 32 * nl a := by
  by_cases h : a = 0
  · subst h; unfold bl; simp
  · have h1 := bl_ge h
    have h2 := nl_lt a
    rw [← pow32] at h2
    have := (Nat.pow_lt_pow_iff_right (by decide : 1 < 2)).1 (Nat.lt_of_le_of_lt h1 h2)
    omega
theorem Rd.take {w : World} {A : Option Addr} {l : List Nat} (h : Rd w A l) (k : Nat) : Rd w A (l.take k) := by
  rcases h with h | ⟨ad, rfl, h⟩
  · exact .inl (by simp [vals] at h ⊢; simp [h])
  · refine .inr ⟨ad, rfl, fun i u hu => h i u ?_⟩
    simp only [vals, List.map_take] at hu ⊢
    by_cases hik : i < k
    · rwa [List.getElem?_take_of_lt hik] at hu
    · rw [List.getElem?_take_eq_none (by omega)] at hu; cases hu

theorem made_n_c (A : Option Addr) (c m : Nat) (l : List Nat) (w : World) (h : Rd w A l) (hL : Lim l) (hl : l.length ≤ maxLen) (hc : l.length ≤ c) (hnil : A = none → c = 0) (hm : m ≤ 1099511627776) :
    Calls Tryz.prog 32 #[.slice A l.length c, .int .i64 (m : Nat)] w (RetN w (val (l.take m))) := by
  obtain ⟨k, hk⟩ : ∃ k, k = min l.length m := ⟨_, rfl⟩
  have hkI : min (l.length : Int) (m : Int) = (k : Int) := by omega
  have hkl : k ≤ l.length := by omega
  have hkm : k ≤ m := by omega
  have e : l.take m = l.take k := by
    rw [hk]
    rcases Nat.le_total l.length m with h1 | h1
    · rw [Nat.min_eq_left h1, List.take_of_length_le h1, List.take_of_length_le (Nat.le_refl _)]
    · rw [Nat.min_eq_right h1]
  rw [e]
  have hmk := rmake_c A k c (l.take k) w (by simp [hkl]) (h.take k) (hL.take k) (by omega) (by omega) hnil
  have HM := Lib.hid hmk
  have HK := Lib.hid hk
  clear hmk hk e
  go_enter Tryz.func32, Tryz.ntmps32
  go_wp2_with (fail)
  refine HM.out.mono ?_
  rintro e w1 ⟨X, cx, rfl, h1, h2⟩
  go_wp2_with (fail)
  go_ret
  exact ⟨X, cx, rfl, h1, h2⟩

theorem made_nl (l : List Nat) (h : Lim l) (n : Nat) : nl (val (l.take n)) ≤ n := by
  have h1 := val_lt (h.take n)
  refine nl_le.2 (Nat.lt_of_lt_of_le h1 (Nat.pow_le_pow_right (by decide) ?_))
  rw [List.length_take]; exact Nat.min_le_left _ _
end Go.Proofs.YtopigejgadnkaaaGreatDoor

namespace Go.Proofs.YtopigejgadnkaaaGreatDoor
open Go.RowKit Go.Shelf

end Go.Proofs.YtopigejgadnkaaaGreatDoor

namespace Go.Proofs.YtopigejgadnkaaaGreatDoor
open Go.RowKit Go.Shelf
attribute [local go_sem] max2_i min2_i max_two min_two

theorem bitLen_half2 {x : Nat} (h0 : x ≠ 0) (h : x < 4294967296) : Lib.bitLen x = 1 + Lib.bitLen (x / 2) := Lib.bitLen_half x h0 (Nat.lt_trans h (by decide))
theorem rbits_c (A : Option Addr) (c a : Nat) (w : World) (hA : NatV w A c a) (ha : nl a ≤ 1073741824) :
    Calls Tryz.prog 152 #[.slice A (nl a) c] w fun e w' => e = .returned (.int .i64 (bl a : Nat)) ∧ Below w.heap.size w w' := by
  by_cases h : nl a = 0
  · have h0 : a = 0 := nl_eq_zero.1 h
    have hb : bl a = 0 := by unfold bl; rw [if_pos h0]
    rw [h, hb]
    go_enter Tryz.func152, Tryz.ntmps152
    go_wp2_with (fail)
    go_ret
    exact ⟨rfl, Below.refl _ _⟩
  · obtain ⟨k, hk⟩ : ∃ k, nl a = k + 1 := ⟨nl a - 1, by omega⟩
    obtain ⟨ad, rfl, hcx⟩ := hA.rd.get k (by show k < nl a; omega)
    obtain ⟨x, hx⟩ : ∃ x, x = gl (limbs a) k := ⟨_, rfl⟩
    have hxl := (lim_limbs a).gl k
    rw [← hx] at hcx hxl
    have h1 : ((nl a : Int) == 0) = false := ieqF (by omega)
    have hkI : (nl a : Int) - 1 = (k : Int) := by omega
    have hkl : k < nl a := by omega
    have hb : bl a = 32 * k + Lib.bitLen x := by unfold bl; rw [if_neg (fun e => h (by rw [e, nl_zero])), hk, Nat.add_sub_cancel, ← hx]
    have hb32 : Lib.bitLen x ≤ 32 := Lib.bitLen_le x 32 (by decide) hxl
    rw [hb]
    obtain ⟨v, hv⟩ : ∃ v, v = Lib.bitLen x := ⟨_, rfl⟩
    rw [← hv] at hb32 ⊢
    replace hx := Lib.hid hx
    replace hv := Lib.hid hv
    clear h hb
    replace hk := Lib.hid hk
    go_enter Tryz.func152, Tryz.ntmps152
    go_wp2_with (fail)
    go_quiet (fail)
    go_wp2_with (fail)
    go_loopw [3, 4] (fun vn vt w2 => ∃ m t : Nat, vn = .int .i64 m ∧ vt = .int .u32 t ∧ t < 4294967296 ∧ m ≤ v ∧ Hid (m + Lib.bitLen t = v) ∧ Below w.heap.size w w2) (fun vn vt w2 => (intOf vt).toNat)
    case atStart => exact ⟨0, x, rfl, rfl, hxl, Nat.zero_le _, Lib.hid (by rw [Nat.zero_add, hv.out]), (Below.refl _ _).drewN _⟩
    case round =>
      obtain ⟨m, t, rfl, rfl, ht, hm, hmt, hb2⟩ := hrel
      by_cases ht0 : 0 < t
      · have h2 := bitLen_half2 (show t ≠ 0 by omega) ht
        have h3 := hmt.out
        have h4 : m + 1 + Lib.bitLen (t / 2) = v := by omega
        have h5 : m + 1 ≤ v := by omega
        replace h4 := Lib.hid h4
        clear h2 h3
        go_wp2_with (fail)
        go_roundw
        case rel => exact ⟨m + 1, t / 2, by go_num, by first | rfl | (congr 1), by omega, h5, h4, hb2⟩
        case measure => simp only [intOf]; omega
      · have h2 : t = 0 := by omega
        have h3 := hmt.out
        rw [h2] at h3
        have h4 : Lib.bitLen 0 = 0 := rfl
        have h5 : m = v := by omega
        clear h3 h4
        subst h5
        replace h2 := Lib.hid h2
        go_wp2_with (fail)
        go_ret
        exact ⟨by congr 1, hb2⟩
theorem bit_mid (a q s : Nat) (hs : s < 32) : a / 4294967296 ^ q % 4294967296 / 2 ^ s % 2 = a / 2 ^ (32 * q + s) % 2 := by
  rw [Nat.pow_add, pow32, ← Nat.div_div_eq_div_mul]
  generalize a / 4294967296 ^ q = t
  have e2 : (4294967296 : Nat) = 2 ^ s * (2 * 2 ^ (31 - s)) := by rw [← Nat.pow_succ', ← Nat.pow_add, show s + (31 - s).succ = 32 by omega]
  have h1 := Nat.div_add_mod t 4294967296
  conv => rhs; rw [← h1]; arg 1; arg 1; arg 1; arg 1; rw [e2]
  rw [Nat.mul_assoc, Nat.mul_add_div (Nat.two_pow_pos s), Nat.mul_assoc, Nat.mul_add_mod]
theorem rbit_c (A : Option Addr) (c a i : Nat) (w : World) (hA : NatV w A c a) (ha : nl a ≤ 1073741824) (hi1 : i ≤ 1099511627776) :
    Calls Tryz.prog 154 #[.slice A (nl a) c, .int .i64 (i : Nat)] w fun e w' => e = .returned (.int .u32 (a / 2 ^ i % 2 : Nat)) ∧ w = w' := by
  obtain ⟨q, hq⟩ : ∃ q, q = i / 32 := ⟨_, rfl⟩
  obtain ⟨s, hs⟩ : ∃ s, s = i % 32 := ⟨_, rfl⟩
  have hqI : (i : Int) / 32 = (q : Int) := by omega
  have hsI : (i : Int) % 32 = (s : Int) := by omega
  have hsl : s < 32 := by omega
  have his : i = 32 * q + s := by omega
  have hv := bit_mid a q s hsl
  rw [← his] at hv
  obtain ⟨v, hvv⟩ : ∃ v, v = a / 2 ^ i % 2 := ⟨_, rfl⟩
  have hv2 : v < 2 := by rw [hvv]; exact Nat.mod_lt _ (by decide)
  rw [← hvv] at hv ⊢
  by_cases hj : q < nl a
  · obtain ⟨ad, rfl, hc⟩ := hA.rd.get q hj
    obtain ⟨x, hx⟩ : ∃ x, x = gl (limbs a) q := ⟨_, rfl⟩
    have hxl := (lim_limbs a).gl q
    rw [← hx] at hc hxl
    rw [limbs_gl] at hx
    rw [← hx] at hv
    have hd : decide ((nl a : Int) ≤ (q : Int)) = false := by simp; omega
    replace hx := Lib.hid hx
    replace hv := Lib.hid hv
    replace hvv := Lib.hid hvv
    replace hq := Lib.hid hq
    replace hs := Lib.hid hs
    replace his := Lib.hid his
    go_enter Tryz.func154, Tryz.ntmps154
    go_wp2_with (fail)
    go_loop [5, 6] (fun vx vi => ∃ j t : Nat, vx = .int .u32 t ∧ vi = .int .i64 j ∧ t < 4294967296 ∧ j ≤ s ∧ Hid (t = x / 2 ^ j)) (fun vx vi => s - (intOf vi).toNat)
    case atStart => exact ⟨0, x, rfl, rfl, hxl, Nat.zero_le _, Lib.hid (by simp)⟩
    case round =>
      obtain ⟨j, t, rfl, rfl, ht, hj2, hjt⟩ := hrel
      by_cases hjs : j < s
      · have h2 : t / 2 = x / 2 ^ (j + 1) := by rw [hjt.out, Nat.pow_succ, Nat.div_div_eq_div_mul]
        replace h2 := Lib.hid h2
        go_wp2_with (fail)
        go_round
        case rel => exact ⟨j + 1, t / 2, by first | rfl | (congr 1), by go_num, by omega, by omega, h2⟩
        case measure => simp only [intOf]; omega
      · obtain rfl : j = s := by omega
        have h3 : t % 2 = v := by rw [hjt.out, hv.out]
        have h4 : (t : Int) % 2 = (v : Int) := by omega
        clear h3
        go_wp2_with (fail)
        go_ret
        exact ⟨by first | rfl | (rw [h4]; rfl), rfl⟩
  · have h0 : v = 0 := by rw [← hv, div_nl (by omega)]; simp
    have hd : decide ((nl a : Int) ≤ (q : Int)) = true := by simp; omega
    replace hv := Lib.hid hv
    replace hvv := Lib.hid hvv
    replace h0 := Lib.hid h0
    replace hq := Lib.hid hq
    replace hs := Lib.hid hs
    replace his := Lib.hid his
    go_enter Tryz.func154, Tryz.ntmps154
    go_wp2_with (fail)
    go_ret
    exact ⟨by rw [h0.out]; rfl, rfl⟩
theorem nat_one (W : World) (s : Nat) (h : W.heap[s]? = some (.cells #[.int .u32 1] 62 (0, 0))) : NatV W (some ⟨s, 0, none⟩) 1 1 := by
  have e : limbs 1 = [1] := by rw [limbs_pos (by decide)]; simp [limbs_zero]
  refine ⟨?_, by rw [nl_one]; exact Nat.le_refl _, by decide⟩
  rw [e]
  refine .inr ⟨_, rfl, fun i u hu => ?_⟩
  rcases i with _ | i
  · unfold World.cell?
    rw [show (Addr.add ⟨s, 0, none⟩ 0) = ⟨s, 0, none⟩ from rfl, h]
    simpa [vals] using hu
  · simp [vals] at hu
theorem own_below {w w' : World} {b n : Nat} {v : Value} {xs : List Value} (h : w.ownsRow b 62 1 v n xs) (hb : Below w.heap.size w w') : w'.ownsRow b 62 1 v n xs := by
  rcases h with ⟨h1, h2 | ⟨g, cap, cur, e, h3, h4, h5⟩⟩
  · exact ⟨h1, .inl h2⟩
  · exact ⟨h1, .inr ⟨g, cap, cur, e, h3, (hb.block g (Array.getElem?_eq_some_iff.1 h4).1).trans h4, h5⟩⟩
def RetQR (w : World) (q r : Nat) (e : Ending) (w' : World) : Prop := ∃ X cx Y cy, e = .returned (.tuple #[.slice X (nl q) cx, .slice Y (nl r) cy, .int .i64 0]) ∧ NatV w' X cx q ∧ NatV w' Y cy r ∧ Below w.heap.size w w'
theorem bit_div (a k : Nat) : a / 2 ^ k = 2 * (a / 2 ^ (k + 1)) + a / 2 ^ k % 2 := by
  rw [Nat.pow_succ, ← Nat.div_div_eq_div_mul]; omega
theorem set_bit {L : List Nat} (hL : Lim L) {Q k n : Nat} (hl : L.length = n) (hv : val L = Q * 2 ^ (k + 1)) (hk : k / 32 < n) :
    gl L (k / 32) + 2 ^ (k % 32) < 4294967296 ∧ val (L.set (k / 32) (gl L (k / 32) + 2 ^ (k % 32))) = (2 * Q + 1) * 2 ^ k := by
  have hs : k % 32 < 32 := Nat.mod_lt _ (by decide)
  have e1 : 2 ^ k = 4294967296 ^ (k / 32) * 2 ^ (k % 32) := by
    rw [← pow32, ← Nat.pow_add]; congr 1; omega
  constructor
  · rw [val_gl hL, hv, Nat.pow_succ, e1]
    have e2 : Q * (4294967296 ^ (k / 32) * 2 ^ (k % 32) * 2) / 4294967296 ^ (k / 32) = 2 ^ (k % 32) * 2 * Q := by
      rw [show Q * (4294967296 ^ (k / 32) * 2 ^ (k % 32) * 2) = 4294967296 ^ (k / 32) * (2 ^ (k % 32) * 2 * Q) by grind]
      exact Nat.mul_div_cancel_left _ (Nat.pow_pos (by decide))
    rw [e2]
    have e3 : (4294967296 : Nat) = 2 ^ (k % 32) * 2 * 2 ^ (31 - k % 32) := by
      rw [← Nat.pow_succ, ← Nat.pow_add]
      rw [show (k % 32).succ + (31 - k % 32) = 32 by omega]
    generalize 2 ^ (k % 32) = p at *
    rw [e3, Nat.mul_mod_mul_left]
    have h1 := Nat.mod_lt Q (Nat.two_pow_pos (31 - k % 32))
    have hp : 0 < p := by
      rcases Nat.eq_zero_or_pos p with h | h
      · subst h; simp at e3
      · exact h
    have h2 := Nat.mul_le_mul_left (p * 2) (Nat.succ_le_of_lt h1)
    rw [Nat.mul_succ] at h2
    omega
  · have h := val_set (k / 32) (gl L (k / 32) + 2 ^ (k % 32)) (by rw [hl]; exact hk)
    rw [← gl_eq, Nat.mul_add, ← e1, hv] at h
    rw [Nat.pow_succ] at h
    generalize 2 ^ k = P at *
    have : Q * (P * 2) + P = (2 * Q + 1) * P := by grind
    omega
theorem NatV.set {W : World} {X : Option Addr} {c n g : Nat} (h : NatV W X c n) (far : ∀ ad, X = some ad → ad.block ≠ g) (j : Nat) (u : Value) : NatV (W.setCell ⟨g, j, none⟩ u) X c n := by
  refine ⟨?_, h.cap, h.cmax⟩
  rcases h.rd with h1 | ⟨ad, rfl, h1⟩
  · exact .inl h1
  · refine .inr ⟨ad, rfl, fun i v hv => ?_⟩
    have h2 := h1 i v hv
    refine (World.cell?_of_block (w := W) (a := ad.add i) ?_).trans h2
    refine Below.heap_setCell W ⟨g, j, none⟩ u _ ?_
    show (Addr.add ad i).block ≠ g
    unfold Addr.add; split <;> exact far ad rfl
theorem own_lt {w : World} {b g n c : Nat} {xs : List Value} (h : w.ownsRow b 62 1 (.slice (some ⟨g, 0, none⟩) n c) n xs) : g < w.heap.size := by
  rcases h.2 with ⟨e, _⟩ | ⟨g', cap, cur, e, _, h4, _⟩
  · simp at e
  · simp only [Value.slice.injEq, Option.some.injEq, Addr.mk.injEq, and_true, true_and] at e
    obtain ⟨rfl, _⟩ := e
    exact (Array.getElem?_eq_some_iff.1 h4).1
theorem rdiv_c (A : Option Addr) (c a : Nat) (B : Option Addr) (d b : Nat) (w : World) (hA : NatV w A c a) (hB : NatV w B d b) (ha : nl a ≤ 16777216) (hb : nl b ≤ 16777216) (hb0 : 0 < b) :
    Calls Tryz.prog 136 #[.slice A (nl a) c, .slice B (nl b) d] w (RetQR w (a / b) (a % b)) := by
  have hn1 : ((nl b : Int) == 0) = false := ieqF (by have := nl_pos.2 (show b ≠ 0 by omega); omega)
  have hmk := mk32 (nl a) (nl a) (by omega) (by omega) (by omega)
  rw [Int.toNat_natCast] at hmk
  have hown0 := ownsMade32 w w.heap.size (nl a) (Nat.le_refl _) (by omega)
  have hb1 : Below w.heap.size w (w.alloc (.cells (madeCells #[.int .u32 0] (nl a)) 62)) := (Below.refl _ _).alloc (Nat.le_refl _) _
  have hb2 : Below w.heap.size w ((w.alloc (.cells (madeCells #[.int .u32 0] (nl a)) 62)).alloc (.cells #[] 62)) := hb1.alloc hb1.size _
  replace hown0 := own_below hown0 ((Below.refl _ _).alloc (Nat.le_refl _) (.cells #[] 62))
  have CB := rbits_c A c a _ (hA.below hb2) (by omega)
  have hbl := bl_le a
  obtain ⟨K, hK⟩ : ∃ K, K = bl a := ⟨_, rfl⟩
  have hK0 : a / 2 ^ K = 0 := by rw [hK]; exact Nat.div_eq_of_lt (bl_lt a)
  rw [← hK] at CB hbl
  replace CB := Lib.hid CB
  replace hK := Lib.hid hK
  replace hK0 := Lib.hid hK0
  go_enter Tryz.func136, Tryz.ntmps136
  go_wp2_with (fail)
  refine CB.out.mono ?_
  rintro e WB ⟨rfl, hbB⟩
  replace hown0 := own_below hown0 hbB
  replace hb2 := Below.cons hb2 hbB
  have hRN : NatV WB (some ⟨w.heap.size + 1, 0, none⟩) 0 0 := ⟨by rw [limbs_zero]; exact Rd.nil, by rw [nl_zero]; exact Nat.le_refl _, by decide⟩
  clear hmk
  go_wp2_with (fail)
  go_loopw [8, 9, 10, 11] (fun v8 v9 v10 v11 wr => ∃ (k r : Nat) (L : List Nat) (R : Option Addr) (cr Q : Nat), v8 = .slice R (nl r) cr ∧ v9 = .int .i64 ((k : Int) - 1) ∧ k ≤ K ∧ NatV wr R cr r ∧ r < b ∧ Below w.heap.size w wr ∧ wr.ownsRow w.heap.size 62 1 (.slice (some ⟨w.heap.size, 0, none⟩) (nl a) (nl a)) (nl a) (vals L) ∧ Hid (L.length = nl a) ∧ Lim L ∧ Hid (val L = Q * 2 ^ k ∧ a / 2 ^ k = Q * b + r) ∧ Fr (w.heap.size + 1) R cr) (fun v8 v9 v10 v11 wr => (intOf v9 + 1).toNat)
  case atStart => exact ⟨K, 0, List.replicate (nl a) 0, some ⟨w.heap.size + 1, 0, none⟩, 0, 0, by rw [nl_zero], rfl, Nat.le_refl _, hRN, hb0, hb2, hown0, Lib.hid (by simp), Lim.replicate _ _ (by decide), Lib.hid ⟨by rw [val_replicate]; simp, by rw [hK0.out]; simp⟩, ⟨fun ad e => by cases e; exact Nat.le_refl _, fun e => by cases e⟩⟩
  case round =>
    obtain ⟨k, r, L, R, cr, Q, rfl, rfl, hk, hR, hrb, hbr, hown, hlen, hlim, hQR, hFr⟩ := hrel
    have hsz := own_lt hown
    cases k with
    | zero =>
      have h1 := hQR.out
      rw [Nat.pow_zero, Nat.mul_one, Nat.div_one] at h1
      have e1 : Q = a / b := by
        rw [h1.2, Nat.mul_comm, Nat.mul_add_div hb0, Nat.div_eq_of_lt hrb]; omega
      have e2 : r = a % b := by rw [h1.2, Nat.mul_comm, Nat.mul_add_mod, Nat.mod_eq_of_lt hrb]
      obtain ⟨X, cx, e, hcx, hcm, hrd⟩ := ownV_rd hown
      cases e
      have CM := rmake_c _ (nl a) (nl a) L wr hlen.out hrd hlim (by omega) (Nat.le_refl _) (fun e => by cases e)
      rw [h1.1, e1] at CM
      have CN := fun (W : World) (hW : NatV W R cr r) => rmake_c R (nl r) cr (limbs r) W rfl hW.rd (lim_limbs r) (by have := nl_mono (Nat.le_of_lt hrb); omega) hW.cap hFr.2
      rw [val_limbs, e2] at CN
      rw [← e2] at CN
      replace CM := Lib.hid CM
      replace CN := Lib.hid CN
      clear h1 e1
      replace e2 := Lib.hid e2
      go_wp2_with (fail)
      refine CM.out.mono ?_
      rintro e w2 ⟨X2, x2, rfl, k1, k2⟩
      go_wp2_with (fail)
      refine (CN.out w2 (hR.below k2)).mono ?_
      rintro e w3 ⟨X3, x3, rfl, k3, k4⟩
      go_wp2_with (fail)
      refine bodyPost_ret (v := .tuple #[.slice X2 (nl (a / b)) x2, .slice X3 (nl r) x3, .int .i64 0]) (by simp [results, Tryz.results136, go_sem]) rfl ?_
      rw [e2.out] at k3 ⊢
      exact ⟨X2, x2, X3, x3, rfl, k1.below k4, k3, (hbr.cons k2).cons k4⟩
    | succ k =>
      rw [show (((k + 1 : Nat) : Int) - 1) = (k : Int) by omega]
      have hA0 := hA.below hbr
      have hB0 := hB.below hbr
      have ho0 := hown
      have hb0' := hbr
      have hrl := nl_mono (Nat.le_of_lt hrb)
      have hk32 : k / 32 < nl a := by omega
      obtain ⟨t, ht⟩ : ∃ t, t = a / 2 ^ k % 2 := ⟨_, rfl⟩
      have ht2 : t = 0 ∨ t = 1 := by omega
      rcases ht2 with ht0 | ht1
      · skip
        have C1 := rshl_f R cr r 1 wr hR (by omega) (by decide)
        obtain ⟨r1, hr1⟩ : ∃ z, z = r * 2 ^ 1 := ⟨_, rfl⟩
        rw [← hr1] at C1
        have hr1l : nl r1 ≤ nl b + 2 := by rw [hr1]; have := nl_shl r 1; omega
        replace C1 := Lib.hid C1
        replace hr1 := Lib.hid hr1
        have htt : ((t : Int) == 1) = false := ieqF (by omega)
        replace ht := Lib.hid ht
        go_wp2_with (fail)
        refine C1.out.mono ?_
        rintro e W1 ⟨X1, c1, rfl, h1, b1, f1⟩
        have zb1 := b1.size
        have hB1 := hB0.below b1
        have hA1 := hA0.below b1
        have ho1 := own_below ho0 b1
        have hb1 := Below.cons hb0' b1
        have C2 := rbit_c A c a k W1 hA1 (by omega) (by omega)
        rw [← ht.out] at C2
        replace C2 := Lib.hid C2
        go_wp2_with (fail)
        refine C2.out.mono ?_
        rintro e w' ⟨rfl, rfl⟩
        have hrr : r1 = 2 * r + t := by rw [hr1.out, ht0]; omega
        have hk1 := bit_div a k
        rw [← ht.out, hQR.out.2] at hk1
        by_cases hge : b ≤ r1
        · have C4 := rsub_f X1 c1 r1 B d b W1 h1 hB1 (by omega) (by omega) hge
          obtain ⟨r3, hr3⟩ : ∃ z, z = r1 - b := ⟨_, rfl⟩
          rw [← hr3] at C4
          replace C4 := Lib.hid C4
          have hr3b : r3 < b := by omega
          have hfin : a / 2 ^ k = (2 * Q + 1) * b + r3 := by rw [hk1, hr3, Nat.add_mul, Nat.mul_add, Nat.mul_assoc]; omega
          obtain ⟨s1, s2⟩ := set_bit hlim hlen.out hQR.out.1 hk32
          obtain ⟨old, hold⟩ : ∃ z, z = gl L (k / 32) := ⟨_, rfl⟩
          rw [← hold] at s1 s2
          obtain ⟨pw', hpw⟩ : ∃ z, z = 2 ^ (k % 32) := ⟨_, rfl⟩
          rw [← hpw] at s1 s2
          obtain ⟨new, hnew⟩ : ∃ z, z = old + pw' := ⟨_, rfl⟩
          rw [← hnew] at s1 s2
          obtain ⟨kq, hkq⟩ : ∃ z, z = k / 32 := ⟨_, rfl⟩
          obtain ⟨ks, hks⟩ : ∃ z, z = k % 32 := ⟨_, rfl⟩
          rw [← hkq] at s2 hold
          rw [← hks] at hpw
          have hksl : ks < 32 := by omega
          have hkql : kq < nl a := by omega
          have kqI : (k : Int) / 32 = (kq : Int) := by omega
          have ksI : (k : Int) % 32 = (ks : Int) := by omega
          have pwI : (2 : Int) ^ ks = (pw' : Int) := by rw [hpw]; simp
          have pwl : pw' ≤ 2147483648 := by rw [hpw]; exact Nat.pow_le_pow_right (by decide) (show ks ≤ 31 by omega)
          have kqT : (k : Int).tdiv 32 = (kq : Int) := by rw [Int.tdiv_eq_ediv_of_nonneg (by omega)]; exact kqI
          have ksT : (k : Int).tmod 32 = (ks : Int) := by rw [Int.tmod_eq_emod_of_nonneg (by omega)]; exact ksI
          have kqW : IntKind.i64.wrap (kq : Int) = (kq : Int) := IntWalk.i64_in _ (by omega)
          have ksW : IntKind.i64.wrap (ks : Int) = (ks : Int) := IntWalk.i64_in _ (by omega)
          have pwW : IntKind.u32.wrap (pw' : Int) = (pw' : Int) := IntWalk.u32_in _ (by omega)
          have nwW : IntKind.u32.wrap (new : Int) = (new : Int) := IntWalk.u32_in _ (by omega)
          have nwO : IntKind.u32.wrap ((old : Int) + (pw' : Int)) = (new : Int) := by rw [show (old : Int) + (pw' : Int) = (new : Int) by omega]; exact nwW
          have nwI : (old : Int) + (pw' : Int) = (new : Int) := by omega
          replace hfin := Lib.hid hfin
          replace s2 := Lib.hid s2
          replace hold := Lib.hid hold
          replace hpw := Lib.hid hpw
          replace hnew := Lib.hid hnew
          replace hkq := Lib.hid hkq
          replace hks := Lib.hid hks
          replace hr3 := Lib.hid hr3
          clear hk1 hrr hge
          go_wp2_with (fail)
          refine C4.out.mono ?_
          rintro e W5 ⟨X5, c5, rfl, h5, b5, f5⟩
          have hB5 := hB1.below b5
          have hA5 := hA1.below b5
          have ho5 := own_below ho1 b5
          have hb5 := Below.cons hb1 b5
          have hcell : W5.drew.cell? ⟨w.heap.size, kq, none⟩ = some (.int .u32 (old : Nat)) := by
            have hz := ho5.cellAt kq (by omega)
            rw [vals_get L kq (by rw [hlen.out]; exact hkql), ← hold.out] at hz
            exact hz
          have hfz : W5.drew.frozen? ⟨w.heap.size, kq, none⟩ = false := ho5.frozenAt kq
          have ho5d := own_below ho5 (Below.refl _ _).drew
          obtain ⟨st1, st2⟩ := ho5d.stored kq (.int .u32 (new : Nat))
          have z5 := b5.size
          go_wp2_with (fail)
          go_region_with (fail)
          all_goals
            go_wp2_with (fail)
            go_roundw
            case rel =>
              refine ⟨k, r3, L.set kq new, X5, c5, 2 * Q + 1, by first | rfl | trivial, by first | rfl | trivial, by omega, ?_, hr3b, ?_, ?_, Lib.hid (by rw [List.length_set]; exact hlen.out), hlim.set _ _ s1, Lib.hid ⟨s2.out, hfin.out⟩, f5.le (by omega)⟩
              · exact (h5.below (Below.refl _ _).drew).set (fun ad e => by have := f5.1 ad e; omega) _ _
              · exact (hb5.drew).setCell (p := ⟨w.heap.size, kq, none⟩) (Nat.le_refl _) _
              · rw [vals_set]; exact st1
            case measure => simp only [intOf]; omega
        · have C4 := rsubNot_c X1 c1 r1 B d b W1 h1 hB1 (by omega) (by omega) (by omega)
          replace C4 := Lib.hid C4
          have hrb : r1 < b := by omega
          have hfin : a / 2 ^ k = 2 * Q * b + r1 := by rw [hk1, hrr, Nat.mul_add, Nat.mul_assoc]; omega
          have hvv : val L = 2 * Q * 2 ^ k := by rw [hQR.out.1, Nat.pow_succ, Nat.mul_comm (2 ^ k) 2, ← Nat.mul_assoc, Nat.mul_comm Q 2]
          replace hfin := Lib.hid hfin
          replace hvv := Lib.hid hvv
          clear hk1 hrr hge
          go_wp2_with (fail)
          refine C4.out.mono ?_
          rintro e w' ⟨rfl, rfl⟩
          go_wp2_with (fail)
          go_roundw
          case rel => exact ⟨k, r1, L, X1, c1, 2 * Q, by first | rfl | trivial, by first | rfl | trivial, by omega, h1, hrb, hb1, ho1, hlen, hlim, Lib.hid ⟨hvv.out, hfin.out⟩, f1.le (by omega)⟩
          case measure => simp only [intOf]; omega
      · skip
        have C1 := rshl_f R cr r 1 wr hR (by omega) (by decide)
        obtain ⟨r1, hr1⟩ : ∃ z, z = r * 2 ^ 1 := ⟨_, rfl⟩
        rw [← hr1] at C1
        have hr1l : nl r1 ≤ nl b + 2 := by rw [hr1]; have := nl_shl r 1; omega
        replace C1 := Lib.hid C1
        replace hr1 := Lib.hid hr1
        have htt : ((t : Int) == 1) = true := ieqT (by omega)
        replace ht := Lib.hid ht
        go_wp2_with (fail)
        refine C1.out.mono ?_
        rintro e W1 ⟨X1, c1, rfl, h1, b1, f1⟩
        have zb1 := b1.size
        have hB1 := hB0.below b1
        have hA1 := hA0.below b1
        have ho1 := own_below ho0 b1
        have hb1 := Below.cons hb0' b1
        have C2 := rbit_c A c a k W1 hA1 (by omega) (by omega)
        rw [← ht.out] at C2
        replace C2 := Lib.hid C2
        go_wp2_with (fail)
        refine C2.out.mono ?_
        rintro e w' ⟨rfl, rfl⟩
        have b2 : Below W1.heap.size W1 (W1.alloc (.cells #[.int .u32 1] 62)) := (Below.refl _ _).alloc (Nat.le_refl _) _
        have h2 := nat_one _ _ (heap_alloc_new W1 (.cells #[.int .u32 1] 62))
        have h1' := h1.below b2
        have zb2 := b2.size
        have hB2 := hB1.below b2
        have hA2 := hA1.below b2
        have ho2 := own_below ho1 b2
        have hb2 := Below.cons hb1 b2
        obtain ⟨r2, hr2⟩ : ∃ z, z = r1 + 1 := ⟨_, rfl⟩
        have hr2l : nl r2 ≤ nl b + 3 := by rw [hr2]; have := nl_add r1 1; rw [nl_one] at this; omega
        have C3 := radd_f X1 c1 r1 _ 1 1 _ h1' h2 (by omega) (by rw [nl_one]; decide)
        rw [← hr2, nl_one] at C3
        replace C3 := Lib.hid C3
        replace hr2 := Lib.hid hr2
        go_wp2_with (fail)
        refine C3.out.mono ?_
        rintro e W3 ⟨X3, c3, rfl, h3, b3, f3⟩
        have zb3 := b3.size
        have hB3 := hB2.below b3
        have hA3 := hA2.below b3
        have ho3 := own_below ho2 b3
        have hb3 := Below.cons hb2 b3
        have hrr : r2 = 2 * r + t := by rw [hr2.out, hr1.out, ht1]; omega
        have hk1 := bit_div a k
        rw [← ht.out, hQR.out.2] at hk1
        by_cases hge : b ≤ r2
        · have C4 := rsub_f X3 c3 r2 B d b W3 h3 hB3 (by omega) (by omega) hge
          obtain ⟨r3, hr3⟩ : ∃ z, z = r2 - b := ⟨_, rfl⟩
          rw [← hr3] at C4
          replace C4 := Lib.hid C4
          have hr3b : r3 < b := by omega
          have hfin : a / 2 ^ k = (2 * Q + 1) * b + r3 := by rw [hk1, hr3, Nat.add_mul, Nat.mul_add, Nat.mul_assoc]; omega
          obtain ⟨s1, s2⟩ := set_bit hlim hlen.out hQR.out.1 hk32
          obtain ⟨old, hold⟩ : ∃ z, z = gl L (k / 32) := ⟨_, rfl⟩
          rw [← hold] at s1 s2
          obtain ⟨pw', hpw⟩ : ∃ z, z = 2 ^ (k % 32) := ⟨_, rfl⟩
          rw [← hpw] at s1 s2
          obtain ⟨new, hnew⟩ : ∃ z, z = old + pw' := ⟨_, rfl⟩
          rw [← hnew] at s1 s2
          obtain ⟨kq, hkq⟩ : ∃ z, z = k / 32 := ⟨_, rfl⟩
          obtain ⟨ks, hks⟩ : ∃ z, z = k % 32 := ⟨_, rfl⟩
          rw [← hkq] at s2 hold
          rw [← hks] at hpw
          have hksl : ks < 32 := by omega
          have hkql : kq < nl a := by omega
          have kqI : (k : Int) / 32 = (kq : Int) := by omega
          have ksI : (k : Int) % 32 = (ks : Int) := by omega
          have pwI : (2 : Int) ^ ks = (pw' : Int) := by rw [hpw]; simp
          have pwl : pw' ≤ 2147483648 := by rw [hpw]; exact Nat.pow_le_pow_right (by decide) (show ks ≤ 31 by omega)
          have kqT : (k : Int).tdiv 32 = (kq : Int) := by rw [Int.tdiv_eq_ediv_of_nonneg (by omega)]; exact kqI
          have ksT : (k : Int).tmod 32 = (ks : Int) := by rw [Int.tmod_eq_emod_of_nonneg (by omega)]; exact ksI
          have kqW : IntKind.i64.wrap (kq : Int) = (kq : Int) := IntWalk.i64_in _ (by omega)
          have ksW : IntKind.i64.wrap (ks : Int) = (ks : Int) := IntWalk.i64_in _ (by omega)
          have pwW : IntKind.u32.wrap (pw' : Int) = (pw' : Int) := IntWalk.u32_in _ (by omega)
          have nwW : IntKind.u32.wrap (new : Int) = (new : Int) := IntWalk.u32_in _ (by omega)
          have nwO : IntKind.u32.wrap ((old : Int) + (pw' : Int)) = (new : Int) := by rw [show (old : Int) + (pw' : Int) = (new : Int) by omega]; exact nwW
          have nwI : (old : Int) + (pw' : Int) = (new : Int) := by omega
          replace hfin := Lib.hid hfin
          replace s2 := Lib.hid s2
          replace hold := Lib.hid hold
          replace hpw := Lib.hid hpw
          replace hnew := Lib.hid hnew
          replace hkq := Lib.hid hkq
          replace hks := Lib.hid hks
          replace hr3 := Lib.hid hr3
          clear hk1 hrr hge
          go_wp2_with (fail)
          refine C4.out.mono ?_
          rintro e W5 ⟨X5, c5, rfl, h5, b5, f5⟩
          have hB5 := hB3.below b5
          have hA5 := hA3.below b5
          have ho5 := own_below ho3 b5
          have hb5 := Below.cons hb3 b5
          have hcell : W5.drew.cell? ⟨w.heap.size, kq, none⟩ = some (.int .u32 (old : Nat)) := by
            have hz := ho5.cellAt kq (by omega)
            rw [vals_get L kq (by rw [hlen.out]; exact hkql), ← hold.out] at hz
            exact hz
          have hfz : W5.drew.frozen? ⟨w.heap.size, kq, none⟩ = false := ho5.frozenAt kq
          have ho5d := own_below ho5 (Below.refl _ _).drew
          obtain ⟨st1, st2⟩ := ho5d.stored kq (.int .u32 (new : Nat))
          have z5 := b5.size
          go_wp2_with (fail)
          go_region_with (fail)
          all_goals
            go_wp2_with (fail)
            go_roundw
            case rel =>
              refine ⟨k, r3, L.set kq new, X5, c5, 2 * Q + 1, by first | rfl | trivial, by first | rfl | trivial, by omega, ?_, hr3b, ?_, ?_, Lib.hid (by rw [List.length_set]; exact hlen.out), hlim.set _ _ s1, Lib.hid ⟨s2.out, hfin.out⟩, f5.le (by omega)⟩
              · exact (h5.below (Below.refl _ _).drew).set (fun ad e => by have := f5.1 ad e; omega) _ _
              · exact (hb5.drew).setCell (p := ⟨w.heap.size, kq, none⟩) (Nat.le_refl _) _
              · rw [vals_set]; exact st1
            case measure => simp only [intOf]; omega
        · have C4 := rsubNot_c X3 c3 r2 B d b W3 h3 hB3 (by omega) (by omega) (by omega)
          replace C4 := Lib.hid C4
          have hrb : r2 < b := by omega
          have hfin : a / 2 ^ k = 2 * Q * b + r2 := by rw [hk1, hrr, Nat.mul_add, Nat.mul_assoc]; omega
          have hvv : val L = 2 * Q * 2 ^ k := by rw [hQR.out.1, Nat.pow_succ, Nat.mul_comm (2 ^ k) 2, ← Nat.mul_assoc, Nat.mul_comm Q 2]
          replace hfin := Lib.hid hfin
          replace hvv := Lib.hid hvv
          clear hk1 hrr hge
          go_wp2_with (fail)
          refine C4.out.mono ?_
          rintro e w' ⟨rfl, rfl⟩
          go_wp2_with (fail)
          go_roundw
          case rel => exact ⟨k, r2, L, X3, c3, 2 * Q, by first | rfl | trivial, by first | rfl | trivial, by omega, h3, hrb, hb3, ho3, hlen, hlim, Lib.hid ⟨hvv.out, hfin.out⟩, f3.le (by omega)⟩
          case measure => simp only [intOf]; omega
def RetS (w : World) (q r : Nat) (e : Ending) (w' : World) : Prop := ∃ X cx, e = .returned (.tuple #[.slice X (nl q) cx, .int .u32 (r : Nat), .int .i64 0]) ∧ NatV w' X cx q ∧ Below w.heap.size w w'
theorem rd_one (W : World) (s m : Nat) (h : W.heap[s]? = some (.cells #[.int .u32 (m : Nat)] 62 (0, 0))) : Rd W (some ⟨s, 0, none⟩) [m] := by
  refine .inr ⟨_, rfl, fun i u hu => ?_⟩
  rcases i with _ | i
  · unfold World.cell?
    rw [show (Addr.add ⟨s, 0, none⟩ 0) = ⟨s, 0, none⟩ from rfl, h]
    simpa [vals] using hu
  · simp [vals] at hu
theorem rd_two (W : World) (s a b : Nat) (h : W.heap[s]? = some (.cells #[.int .u32 (a : Nat), .int .u32 (b : Nat)] 62 (0, 0))) : Rd W (some ⟨s, 0, none⟩) [a, b] := by
  refine .inr ⟨_, rfl, fun i u hu => ?_⟩
  unfold World.cell?
  have e : (Addr.add ⟨s, 0, none⟩ i) = ⟨s, i, none⟩ := by simp only [Addr.add]; split <;> simp_all
  rw [e]
  simp only [h]
  match i, hu with
  | 0, hu => simpa [vals] using hu
  | 1, hu => simpa [vals] using hu
theorem two_limbs {n : Nat} (h : n < 18446744073709551616) : val [n % 4294967296, n / 4294967296] = n := by simp [val]; omega
theorem nof_c (n : Nat) (w : World) (hn : n < 18446744073709551616) :
    Calls Tryz.prog 94 #[.int .u64 (n : Nat)] w (RetN w n) := by
  obtain ⟨a, Ea⟩ : ∃ a, a = n % 4294967296 := ⟨_, rfl⟩
  obtain ⟨b, Eb⟩ : ∃ b, b = n / 4294967296 := ⟨_, rfl⟩
  have Ia : (n : Int) % 4294967296 = (a : Int) := by omega
  have Ib : (n : Int) / 4294967296 = (b : Int) := by omega
  have Ba : a < 4294967296 := by omega
  have Bb : b < 4294967296 := by omega
  have Jb : (b : Int) % 4294967296 = (b : Int) := by omega
  have ev : val [a, b] = n := by rw [Ea, Eb]; exact two_limbs hn
  replace ev := Lib.hid ev
  replace Ea := Lib.hid Ea
  replace Eb := Lib.hid Eb
  have hb0 : Below w.heap.size w (w.alloc (.cells #[.int .u32 (a : Nat), .int .u32 (b : Nat)] 62)) := (Below.refl _ _).alloc (Nat.le_refl _) _
  have hr := rd_two _ _ a b (heap_alloc_new w (.cells #[.int .u32 (a : Nat), .int .u32 (b : Nat)] 62))
  have C := make_c _ 2 2 [a, b] _ rfl hr (Lim.cons Ba (Lim.cons Bb Lim.nil)) (by decide) (Nat.le_refl _)
  rw [ev.out] at C
  replace C := Lib.hid C
  have HBT := hb0
  go_enter Tryz.func94, Tryz.ntmps94
  go_wp2_with (fail)
  refine C.out.mono ?_
  rintro e W1 ⟨X, cx, rfl, hX, hb1⟩
  replace HBT := Below.cons HBT hb1
  go_wp2_with (fail)
  go_ret
  exact ⟨X, cx, rfl, hX, HBT⟩
theorem ione_c (w : World) :
    Calls Tryz.prog 89 #[] w (RetN w 1) := by
  have b1 : Below w.heap.size w (w.alloc (.cells #[.int .u32 1] 62)) := (Below.refl _ _).alloc (Nat.le_refl _) _
  have h1 := nat_one _ _ (heap_alloc_new w (.cells #[.int .u32 1] 62))
  replace h1 := Lib.hid h1
  go_enter Tryz.func89, Tryz.ntmps89
  go_wp2_with (fail)
  go_ret
  exact ⟨some ⟨w.heap.size, 0, none⟩, 1, by rw [nl_one]; rfl, h1.out, b1⟩
theorem iof_c (n : Nat) (w : World) (hn : n < 9223372036854775808) :
    Calls Tryz.prog 46 #[.int .i64 (n : Nat)] w (RetI w n) := by
  have t1 : decide ((n : Int) < 0) = false := by simp
  have I1 : (n : Int) % 18446744073709551616 = (n : Int) := by omega
  obtain ⟨hb1, Rr⟩ := bx1 w #[.bool false, .slice none 0 0] 24
  have HBT := hb1
  clear hb1
  have qr0 := Rr.c (i := 0) rfl
  have qr1 := Rr.c (i := 1) rfl
  have W1' : IntKind.u64.wrap (n : Int) = (n : Int) := by simp [IntKind.wrap, IntKind.signed, IntKind.bits]; omega
  go_enter Tryz.func46, Tryz.ntmps46
  go_wp2_with (fail)
  obtain ⟨m, Em⟩ : ∃ zq : Nat, zq = n := ⟨_, rfl⟩
  have Bm : nl m ≤ 2 := by rw [Em]; exact nl_le.2 (Nat.lt_trans hn (by decide))
  refine (Calls.mono (R := RetN (w.alloc (.cells #[.bool false, .slice none 0 0] 24)) m) (by rw [Em]; exact (nof_c n _  (by omega))) ?_)
  replace Em := Lib.hid Em
  rintro e W2 ⟨Xm, cm, rfl, hm, hb2⟩
  replace Rr := Rr.below hb2
  replace qr0 := cbl hb2 qr0
  replace qr1 := cbl hb2 qr1
  replace HBT := Below.cons HBT hb2
  clear hb2
  go_wp2_with (fail)
  obtain ⟨z, Ez⟩ : ∃ zq : Int, zq = ival false m := ⟨_, rfl⟩
  refine (Calls.mono (R := RetI W2 z) (by rw [Ez]; exact (imake_c false Xm cm m _ hm (by omega))) ?_)
  replace Ez := Lib.hid Ez
  rintro e W3 ⟨Xz, cz, rfl, hz, hb3⟩
  replace Rr := Rr.below hb3
  replace qr0 := cbl hb3 qr0
  replace qr1 := cbl hb3 qr1
  replace hm := hm.below hb3
  replace HBT := Below.cons HBT hb3
  clear hb3
  have fr0 := Rr.f (i := 0)
  have fr1 := Rr.f (i := 1)
  go_wp2_with (fail)
  have RS := Rr.store2 (.bool (sg z)) (.slice Xz (nl (mg z)) cz)
  have e0 := RS.c (i := 0) rfl
  have e1 := RS.c (i := 1) rfl
  refine bodyPost_ret (v := .agg #[.bool (sg z), .slice Xz (nl (mg z)) cz]) (by simp [results, Tryz.results46, go_sem, e0, e1]) rfl ?_
  have hz : z = (n : Int) := by rw [Ez.out, Em.out]; rfl
  subst hz
  exact ⟨Xz, cz, rfl, (Rr.keep2 (nuB rfl) hz), (Below.store2 HBT (by first | exact Nat.le_refl _ | omega))⟩
theorem isign_c (aA : Option Addr) (ac : Nat) (a : Int) (w : World) :
    Calls Tryz.prog 77 #[.agg #[.bool (sg a), .slice aA (nl (mg a)) ac]] w fun e w' => e = .returned (.int .i64 a.sign) ∧ Below w.heap.size w w' := by
  obtain hc | hc | hc : a = 0 ∨ a < 0 ∨ 0 < a := by omega
  · have t1 : ((nl (mg a) : Int) == 0) = true := ieqT (by rw [show mg a = 0 from mg_zero.2 hc, nl_zero]; rfl)
    have t3 : a.sign = 0 := by rw [hc]; rfl
    rw [t3]
    obtain ⟨hb1, Ra⟩ := bx1 w #[.bool (sg a), .slice aA (nl (mg a)) ac] 24
    have HBT := hb1
    clear hb1
    have qa0 := Ra.c (i := 0) rfl
    have qa1 := Ra.c (i := 1) rfl
    replace hc := Lib.hid hc
    go_enter Tryz.func77, Tryz.ntmps77
    go_wp2_with (fail)
    go_ret
    exact ⟨rfl, HBT⟩
  · have t1 : ((nl (mg a) : Int) == 0) = false := ieqF (by have := nl_pos.2 (show mg a ≠ 0 from fun e => by have := mg_zero.1 e; omega); omega)
    have t2 : sg a = true := sg_t hc
    have t3 : a.sign = -1 := by exact Int.sign_eq_neg_one_of_neg hc
    rw [t3]
    obtain ⟨hb1, Ra⟩ := bx1 w #[.bool true, .slice aA (nl (mg a)) ac] 24
    have HBT := hb1
    clear hb1
    have qa0 := Ra.c (i := 0) rfl
    have qa1 := Ra.c (i := 1) rfl
    replace hc := Lib.hid hc
    go_enter Tryz.func77, Tryz.ntmps77
    go_wp2_with (fail)
    go_ret
    exact ⟨rfl, HBT⟩
  · have t1 : ((nl (mg a) : Int) == 0) = false := ieqF (by have := nl_pos.2 (show mg a ≠ 0 from fun e => by have := mg_zero.1 e; omega); omega)
    have t2 : sg a = false := sg_f (by omega)
    have t3 : a.sign = 1 := by exact Int.sign_eq_one_of_pos hc
    rw [t3]
    obtain ⟨hb1, Ra⟩ := bx1 w #[.bool false, .slice aA (nl (mg a)) ac] 24
    have HBT := hb1
    clear hb1
    have qa0 := Ra.c (i := 0) rfl
    have qa1 := Ra.c (i := 1) rfl
    replace hc := Lib.hid hc
    go_enter Tryz.func77, Tryz.ntmps77
    go_wp2_with (fail)
    go_ret
    exact ⟨rfl, HBT⟩
def icmp (a b : Int) : Int := if a < b then -1 else if b < a then 1 else 0
theorem icmp_zero {a b : Int} : icmp a b = 0 ↔ a = b := by unfold icmp; split <;> (try split) <;> omega
theorem icmp_nn {a b : Int} (ha : 0 ≤ a) (hb : 0 ≤ b) : icmp a b = cmpN (mg a) (mg b) := by
  unfold icmp cmpN mg
  have h1 : (a < b) ↔ (a.natAbs < b.natAbs) := by omega
  have h2 : (b < a) ↔ (b.natAbs < a.natAbs) := by omega
  simp only [h1, h2]
theorem icmp_bb {a b : Int} (ha : a < 0) (hb : b < 0) : icmp a b = cmpN (mg b) (mg a) := by
  unfold icmp cmpN mg
  have h1 : (a < b) ↔ (b.natAbs < a.natAbs) := by omega
  have h2 : (b < a) ↔ (a.natAbs < b.natAbs) := by omega
  simp only [h1, h2]
theorem icmp_c (aA : Option Addr) (ac : Nat) (a : Int) (bA : Option Addr) (bc : Nat) (b : Int) (w : World) (ha : NatV w aA ac (mg a)) (hb : NatV w bA bc (mg b)) (la : nl (mg a) ≤ 1073741824) (lb : nl (mg b) ≤ 1073741824) :
    Calls Tryz.prog 91 #[.agg #[.bool (sg a), .slice aA (nl (mg a)) ac], .agg #[.bool (sg b), .slice bA (nl (mg b)) bc]] w fun e w' => e = .returned (.int .i64 (icmp a b)) ∧ Below w.heap.size w w' := by
  by_cases h1 : a < 0
  · by_cases h2 : b < 0
    · have ta : sg a = true := sg_t h1
      have tb : sg b = true := sg_t h2
      rw [icmp_bb h1 h2]
      obtain ⟨hb1, Ra, Rb⟩ := bx2 w #[.bool true, .slice aA (nl (mg a)) ac] 24 #[.bool true, .slice bA (nl (mg b)) bc] 24
      replace ha := ha.below hb1
      replace hb := hb.below hb1
      have HBT := hb1
      clear hb1
      have qa0 := Ra.c (i := 0) rfl
      have qa1 := Ra.c (i := 1) rfl
      have qb0 := Rb.c (i := 0) rfl
      have qb1 := Rb.c (i := 1) rfl
      replace h1 := Lib.hid h1
      replace h2 := Lib.hid h2
      go_enter Tryz.func91, Tryz.ntmps91
      go_wp2_with (fail)
      refine (Calls.mono (cmp_c bA bc (mg b) aA ac (mg a) _ hb ha (by omega) (by omega)) ?_)
      rintro e W2 ⟨rfl, hb2⟩
      replace ha := ha.below hb2
      replace hb := hb.below hb2
      replace Ra := Ra.below hb2
      replace qa0 := cbl hb2 qa0
      replace qa1 := cbl hb2 qa1
      replace Rb := Rb.below hb2
      replace qb0 := cbl hb2 qb0
      replace qb1 := cbl hb2 qb1
      replace HBT := Below.cons HBT hb2
      clear hb2
      go_wp2_with (fail)
      go_ret
      exact ⟨rfl, HBT⟩
    · have ta : sg a = true := sg_t h1
      have tb : sg b = false := sg_f (by omega)
      rw [show icmp a b = -1 by unfold icmp; rw [if_pos (by omega)]]
      obtain ⟨hb1, Ra, Rb⟩ := bx2 w #[.bool true, .slice aA (nl (mg a)) ac] 24 #[.bool false, .slice bA (nl (mg b)) bc] 24
      replace ha := ha.below hb1
      replace hb := hb.below hb1
      have HBT := hb1
      clear hb1
      have qa0 := Ra.c (i := 0) rfl
      have qa1 := Ra.c (i := 1) rfl
      have qb0 := Rb.c (i := 0) rfl
      have qb1 := Rb.c (i := 1) rfl
      replace h1 := Lib.hid h1
      replace h2 := Lib.hid h2
      go_enter Tryz.func91, Tryz.ntmps91
      go_wp2_with (fail)
      go_ret
      exact ⟨rfl, HBT⟩
  · by_cases h2 : b < 0
    · have ta : sg a = false := sg_f (by omega)
      have tb : sg b = true := sg_t h2
      rw [show icmp a b = 1 by unfold icmp; rw [if_neg (by omega), if_pos (by omega)]]
      obtain ⟨hb1, Ra, Rb⟩ := bx2 w #[.bool false, .slice aA (nl (mg a)) ac] 24 #[.bool true, .slice bA (nl (mg b)) bc] 24
      replace ha := ha.below hb1
      replace hb := hb.below hb1
      have HBT := hb1
      clear hb1
      have qa0 := Ra.c (i := 0) rfl
      have qa1 := Ra.c (i := 1) rfl
      have qb0 := Rb.c (i := 0) rfl
      have qb1 := Rb.c (i := 1) rfl
      replace h1 := Lib.hid h1
      replace h2 := Lib.hid h2
      go_enter Tryz.func91, Tryz.ntmps91
      go_wp2_with (fail)
      go_ret
      exact ⟨rfl, HBT⟩
    · have ta : sg a = false := sg_f (by omega)
      have tb : sg b = false := sg_f (by omega)
      rw [icmp_nn (by omega) (by omega)]
      obtain ⟨hb1, Ra, Rb⟩ := bx2 w #[.bool false, .slice aA (nl (mg a)) ac] 24 #[.bool false, .slice bA (nl (mg b)) bc] 24
      replace ha := ha.below hb1
      replace hb := hb.below hb1
      have HBT := hb1
      clear hb1
      have qa0 := Ra.c (i := 0) rfl
      have qa1 := Ra.c (i := 1) rfl
      have qb0 := Rb.c (i := 0) rfl
      have qb1 := Rb.c (i := 1) rfl
      replace h1 := Lib.hid h1
      replace h2 := Lib.hid h2
      go_enter Tryz.func91, Tryz.ntmps91
      go_wp2_with (fail)
      refine (Calls.mono (cmp_c aA ac (mg a) bA bc (mg b) _ ha hb (by omega) (by omega)) ?_)
      rintro e W2 ⟨rfl, hb2⟩
      replace ha := ha.below hb2
      replace hb := hb.below hb2
      replace Ra := Ra.below hb2
      replace qa0 := cbl hb2 qa0
      replace qa1 := cbl hb2 qa1
      replace Rb := Rb.below hb2
      replace qb0 := cbl hb2 qb0
      replace qb1 := cbl hb2 qb1
      replace HBT := Below.cons HBT hb2
      clear hb2
      go_wp2_with (fail)
      go_ret
      exact ⟨rfl, HBT⟩
theorem ineg_c (aA : Option Addr) (ac : Nat) (a : Int) (w : World) (ha : NatV w aA ac (mg a)) (la : nl (mg a) ≤ 1073741824) :
    Calls Tryz.prog 52 #[.agg #[.bool (sg a), .slice aA (nl (mg a)) ac]] w (RetI w (-a)) := by
  obtain ⟨n, En⟩ : ∃ n : Bool, n = !sg a := ⟨_, rfl⟩
  have In : (!sg a) = n := En.symm
  have hv : ival n (mg a) = -a := by rw [En]; unfold ival sg mg; by_cases h : a < 0 <;> simp [h] <;> omega
  replace En := Lib.hid En
  replace hv := Lib.hid hv
  obtain ⟨hb1, Ra, Rr⟩ := bx2 w #[.bool (sg a), .slice aA (nl (mg a)) ac] 24 #[.bool false, .slice none 0 0] 24
  replace ha := ha.below hb1
  have HBT := hb1
  clear hb1
  have qa0 := Ra.c (i := 0) rfl
  have qa1 := Ra.c (i := 1) rfl
  have qr0 := Rr.c (i := 0) rfl
  have qr1 := Rr.c (i := 1) rfl
  go_enter Tryz.func52, Tryz.ntmps52
  go_wp2_with (fail)
  obtain ⟨z, Ez⟩ : ∃ zq : Int, zq = ival n (mg a) := ⟨_, rfl⟩
  refine (Calls.mono (R := RetI ((w.alloc (.cells #[.bool (sg a), .slice aA (nl (mg a)) ac] 24)).alloc (.cells #[.bool false, .slice none 0 0] 24)) z) (by rw [Ez]; exact (imake_c n aA ac (mg a) _ ha (by omega))) ?_)
  replace Ez := Lib.hid Ez
  rintro e W2 ⟨Xz, cz, rfl, hz, hb2⟩
  replace ha := ha.below hb2
  replace Ra := Ra.below hb2
  replace qa0 := cbl hb2 qa0
  replace qa1 := cbl hb2 qa1
  replace Rr := Rr.below hb2
  replace qr0 := cbl hb2 qr0
  replace qr1 := cbl hb2 qr1
  replace HBT := Below.cons HBT hb2
  clear hb2
  have fr0 := Rr.f (i := 0)
  have fr1 := Rr.f (i := 1)
  go_wp2_with (fail)
  have hz : z = -a := by rw [Ez.out]; exact hv.out
  subst hz
  have RS := Rr.store2 (.bool (sg ((-a)))) (.slice Xz (nl (mg ((-a)))) cz)
  have e0 := RS.c (i := 0) rfl
  have e1 := RS.c (i := 1) rfl
  refine bodyPost_ret (v := .agg #[.bool (sg ((-a))), .slice Xz (nl (mg ((-a)))) cz]) (by simp [results, Tryz.results52, go_sem, e0, e1]) rfl ?_
  exact ⟨Xz, cz, rfl, (Rr.keep2 (nuB rfl) hz), (Below.store2 HBT (by first | exact Nat.le_refl _ | omega))⟩
theorem run_append_none {P : Program} {w : World} (base : Nat) (t ty e : TypeId) (i : TypeInfo) (size : Nat) (ht : P.underlying t = some (.slice e)) (hi : P.info? e = some i)
    (v : Value) (n : Nat) (xs : List Value) (hown : w.ownsRow base e size v n xs) (k : Nat) :
    (Builtin.append_ #[t, t] ty #[v, .slice none 0 k]).run P w = .ok v w := by
  rcases hown.2 with ⟨rfl, rfl⟩ | ⟨g, cap, cur, rfl, _, _, hnc, _⟩
  · simp [Builtin.append_, run_underlying ht, sizeOf, typeInfo, hi, Builtin.lenOf, Builtin.firstCells]
  · simp [Builtin.append_, run_underlying ht, sizeOf, typeInfo, hi, Builtin.lenOf, Builtin.firstCells, hnc, storeCells]
theorem wpList_append_none {P : Program} {w : World} {ops : Array Oper} {rest : List Oper} {o : Oper} {a : Act} {Q : Exit → Act → World → Prop} (hgd : o.guard = none) (s x : Operand) (t : TypeId)
    (ho : o.op = .call { callee := .builtin .append, args := #[s, x], argTypes := #[t, t] })
    (base : Nat) (e : TypeId) (i : TypeInfo) (size : Nat) (ht : P.underlying t = some (.slice e)) (hi : P.info? e = some i)
    (v : Value) (n : Nat) (xs : List Value) (hs : a.eval s = v) (hown : w.ownsRow base e size v n xs) (k : Nat) (hx : a.eval x = .slice none 0 k)
    (h : wpList P ops Q rest (a.put o.dst v) w) : wpList P ops Q (o :: rest) a w := by
  refine wpList_plain hgd fun K hK => ?_
  have hrun := run_append_none (P := P) (w := w) base t o.type e i size ht hi v n xs hown k
  unfold Oper.wp
  simp [execOp, ho, resolve, invoke, builtin, hs, hx, hrun, Result.andThen]
  exact hK _ _ h
theorem rmake_none (c : Nat) (w : World) :
    Calls Tryz.prog 78 #[.slice none 0 c] w (RetN w 0) := by
  obtain ⟨i0, hi, hz0, hz1, hz2⟩ := info_parts info_u32
  have hb1 : Below w.heap.size w (w.alloc (.cells #[] 62)) := (Below.refl _ _).alloc (Nat.le_refl _) _
  go_enter Tryz.func78, Tryz.ntmps78
  go_wp2_with (fail)
  go_loop [3] (fun v => v = .int .i64 0) (fun v => (intOf v).toNat)
  case atStart => rfl
  case round =>
    obtain rfl := hrel
    go_wp2_with (at_builtin; refine wpList_append_none rfl _ _ 22 rfl w.heap.size 62 i0 1 Tryz.underlying22 hi _ 0 [] rfl (World.ownsRow_lit w #[] 0 (Nat.le_refl _) (by decide) rfl) c rfl ?_)
    go_wp2
    go_ret
    exact ⟨some ⟨w.heap.size, 0, none⟩, 0, by rw [nl_zero]; rfl, ⟨by rw [limbs_zero]; exact .inl rfl, by rw [nl_zero]; exact Nat.le_refl _, by decide⟩, hb1⟩
theorem rmake_n (A : Option Addr) (c a : Nat) (w : World) (hA : NatV w A c a) (ha : nl a ≤ 1099511627776) :
    Calls Tryz.prog 78 #[.slice A (nl a) c] w (RetN w a) := by
  cases A with
  | some ad =>
    have := rmake_c (some ad) (nl a) c (limbs a) w rfl hA.rd (lim_limbs a) ha hA.cap (fun e => by cases e)
    rwa [val_limbs] at this
  | none =>
    have h0 : nl a = 0 := by
      rcases Nat.eq_zero_or_pos (nl a) with h | h
      · exact h
      · obtain ⟨ad, e, _⟩ := hA.rd.get 0 h; cases e
    have h1 : a = 0 := nl_eq_zero.1 h0
    subst h1
    rw [h0]
    exact rmake_none c w
theorem rof_c (n : Nat) (w : World) (hn : n < 18446744073709551616) :
    Calls Tryz.prog 38 #[.int .u64 (n : Nat)] w (RetN w n) := by
  obtain ⟨a, Ea⟩ : ∃ a, a = n % 4294967296 := ⟨_, rfl⟩
  obtain ⟨b, Eb⟩ : ∃ b, b = n / 4294967296 := ⟨_, rfl⟩
  have Ia : (n : Int) % 4294967296 = (a : Int) := by omega
  have Ib : (n : Int) / 4294967296 = (b : Int) := by omega
  have Ba : a < 4294967296 := by omega
  have Bb : b < 4294967296 := by omega
  have Ja : (a : Int) % 4294967296 = (a : Int) := by omega
  have Jb : (b : Int) % 4294967296 = (b : Int) := by omega
  have Ka : Int.tmod (n : Int) 4294967296 = (a : Int) := by rw [Int.tmod_eq_emod_of_nonneg (Int.natCast_nonneg n)]; exact Ia
  have Kb : Int.tdiv (n : Int) 4294967296 = (b : Int) := by rw [Int.tdiv_eq_ediv_of_nonneg (Int.natCast_nonneg n)]; exact Ib
  have ev : val [a, b] = n := by rw [Ea, Eb]; exact two_limbs hn
  replace ev := Lib.hid ev
  replace Ea := Lib.hid Ea
  replace Eb := Lib.hid Eb
  have hb0 : Below w.heap.size w (w.alloc (.cells #[.int .u32 (a : Nat), .int .u32 (b : Nat)] 62)) := (Below.refl _ _).alloc (Nat.le_refl _) _
  have hr := rd_two _ _ a b (heap_alloc_new w (.cells #[.int .u32 (a : Nat), .int .u32 (b : Nat)] 62))
  have C := rmake_c _ 2 2 [a, b] _ rfl hr (Lim.cons Ba (Lim.cons Bb Lim.nil)) (by decide) (Nat.le_refl _) (fun e => by cases e)
  rw [ev.out] at C
  replace C := Lib.hid C
  have HBT := hb0
  go_enter Tryz.func38, Tryz.ntmps38
  go_wp2_with (fail)
  refine C.out.mono ?_
  rintro e W1 ⟨X, cx, rfl, hX, hb1⟩
  replace HBT := Below.cons HBT hb1
  go_wp2_with (fail)
  go_ret
  exact ⟨X, cx, rfl, hX, HBT⟩
theorem rz_f (aA : Option Addr) (ac a : Nat) (z : Int) (w : World) (ha : NatV w aA ac a) (hl : nl a ≤ 1099511627776) (ez : mg z = a) (es : sg z = false) :
    Calls Tryz.prog 37 #[.bool false, .slice aA (nl a) ac] w (RetI w z) := by
  obtain ⟨sb, Esb⟩ : ∃ x, x = sg z := ⟨_, rfl⟩
  rw [← Esb] at es
  replace es := Lib.hid es
  replace Esb := Lib.hid Esb
  replace ez := Lib.hid ez
  obtain ⟨hb1, Rr⟩ := bx1 w #[.bool false, .slice none 0 0] 24
  replace ha := ha.below hb1
  have HBT := hb1
  clear hb1
  have qr0 := Rr.c (i := 0) rfl
  have qr1 := Rr.c (i := 1) rfl
  go_enter Tryz.func37, Tryz.ntmps37
  go_wp2_with (fail)
  refine (Calls.mono (rmake_n aA ac a _ ha hl) ?_)
  rintro e W2 ⟨X, cx, rfl, hX, hb2⟩
  replace ha := ha.below hb2
  replace Rr := Rr.below hb2
  replace qr0 := cbl hb2 qr0
  replace qr1 := cbl hb2 qr1
  replace HBT := Below.cons HBT hb2
  clear hb2
  have fzr0 := Rr.f (i := 0)
  have fzr1 := Rr.f (i := 1)
  go_wp2_with (fail)
  have RS := Rr.store2 (.bool false) (.slice X (nl a) cx)
  have e0 := RS.c (i := 0) rfl
  have e1 := RS.c (i := 1) rfl
  refine bodyPost_ret (v := .agg #[.bool false, .slice X (nl a) cx]) (by simp [results, Tryz.results37, go_sem, e0, e1]) rfl ?_
  exact ⟨X, cx, by rw [ez.out, ← Esb.out, es.out], by rw [ez.out]; exact Rr.keep2 (nuB rfl) hX, Below.store2 HBT (by first | exact Nat.le_refl _ | omega)⟩
theorem rz_t (aA : Option Addr) (ac a : Nat) (z : Int) (w : World) (ha : NatV w aA ac a) (hl : nl a ≤ 1099511627776) (ez : mg z = a) (es : sg z = decide (0 < nl a)) :
    Calls Tryz.prog 37 #[.bool true, .slice aA (nl a) ac] w (RetI w z) := by
  obtain ⟨sb, Esb⟩ : ∃ x, x = sg z := ⟨_, rfl⟩
  rw [← Esb] at es
  have t1 : decide (0 < nl a) = sb := es.symm
  have t2 : decide ((0 : Int) < (nl a : Int)) = sb := by rw [es, decide_eq_decide]; omega
  replace es := Lib.hid es
  replace Esb := Lib.hid Esb
  replace ez := Lib.hid ez
  obtain ⟨hb1, Rr⟩ := bx1 w #[.bool false, .slice none 0 0] 24
  replace ha := ha.below hb1
  have HBT := hb1
  clear hb1
  have qr0 := Rr.c (i := 0) rfl
  have qr1 := Rr.c (i := 1) rfl
  go_enter Tryz.func37, Tryz.ntmps37
  go_wp2_with (fail)
  refine (Calls.mono (rmake_n aA ac a _ ha hl) ?_)
  rintro e W2 ⟨X, cx, rfl, hX, hb2⟩
  replace ha := ha.below hb2
  replace Rr := Rr.below hb2
  replace qr0 := cbl hb2 qr0
  replace qr1 := cbl hb2 qr1
  replace HBT := Below.cons HBT hb2
  clear hb2
  have fzr0 := Rr.f (i := 0)
  have fzr1 := Rr.f (i := 1)
  go_wp2_with (fail)
  have RS := Rr.store2 (.bool sb) (.slice X (nl a) cx)
  have e0 := RS.c (i := 0) rfl
  have e1 := RS.c (i := 1) rfl
  refine bodyPost_ret (v := .agg #[.bool sb, .slice X (nl a) cx]) (by simp [results, Tryz.results37, go_sem, e0, e1]) rfl ?_
  exact ⟨X, cx, by rw [ez.out, ← Esb.out], by rw [ez.out]; exact Rr.keep2 (nuB rfl) hX, Below.store2 HBT (by first | exact Nat.le_refl _ | omega)⟩
theorem rz_c (s : Bool) (aA : Option Addr) (ac a : Nat) (w : World) (ha : NatV w aA ac a) (hl : nl a ≤ 1099511627776) :
    Calls Tryz.prog 37 #[.bool s, .slice aA (nl a) ac] w (RetI w (ival s a)) := by
  cases s
  · exact rz_f aA ac a _ w ha hl (mg_ival _ _) (sg_ival_f a)
  · exact rz_t aA ac a _ w ha hl (mg_ival _ _) (sg_ival_t a)
theorem zof_nn (n : Nat) (w : World) (hn : n < 9223372036854775808) :
    Calls Tryz.prog 9 #[.int .i64 (n : Nat)] w (RetI w n) := by
  have t1 : decide ((n : Int) < 0) = false := by simp
  have I1 : (n : Int) % 18446744073709551616 = (n : Int) := by omega
  have W1' : IntKind.u64.wrap (n : Int) = (n : Int) := by simp [IntKind.wrap, IntKind.signed, IntKind.bits]; omega
  obtain ⟨hb1, Rr⟩ := bx1 w #[.bool false, .slice none 0 0] 24
  have HBT := hb1
  clear hb1
  have qr0 := Rr.c (i := 0) rfl
  have qr1 := Rr.c (i := 1) rfl
  go_enter Tryz.func9, Tryz.ntmps9
  go_wp2_with (fail)
  obtain ⟨m, Em⟩ : ∃ zq : Nat, zq = n := ⟨_, rfl⟩
  have Bm : nl m ≤ 2 := by rw [Em]; exact nl_le.2 (Nat.lt_trans hn (by decide))
  refine (Calls.mono (R := RetN (w.alloc (.cells #[.bool false, .slice none 0 0] 24)) m) (by rw [Em]; with_reducible exact (rof_c n _  (by omega))) ?_)
  replace Em := Lib.hid Em
  rintro e W2 ⟨Xm, cm, rfl, hm, hb2⟩
  replace Rr := Rr.below hb2
  replace qr0 := cbl hb2 qr0
  replace qr1 := cbl hb2 qr1
  replace HBT := Below.cons HBT hb2
  clear hb2
  go_wp2_with (fail)
  obtain ⟨z, Ez⟩ : ∃ zq : Int, zq = ival false m := ⟨_, rfl⟩
  refine (Calls.mono (R := RetI W2 z) (by rw [Ez]; with_reducible exact (rz_c false Xm cm m _ hm (by omega))) ?_)
  replace Ez := Lib.hid Ez
  rintro e W3 ⟨Xz, cz, rfl, hz, hb3⟩
  replace Rr := Rr.below hb3
  replace qr0 := cbl hb3 qr0
  replace qr1 := cbl hb3 qr1
  replace hm := hm.below hb3
  replace HBT := Below.cons HBT hb3
  clear hb3
  have fzr0 := Rr.f (i := 0)
  have fzr1 := Rr.f (i := 1)
  go_wp2_with (fail)
  have hzz : z = (n : Int) := by rw [Ez.out, Em.out]; rfl
  subst hzz
  have RS := Rr.store2 (.bool (sg (((n : Int))))) (.slice Xz (nl (mg (((n : Int))))) cz)
  have e0 := RS.c (i := 0) rfl
  have e1 := RS.c (i := 1) rfl
  refine bodyPost_ret (v := .agg #[.bool (sg (((n : Int)))), .slice Xz (nl (mg (((n : Int))))) cz]) (by simp [results, Tryz.results9, go_sem, e0, e1]) rfl ?_
  exact ⟨Xz, cz, rfl, (Rr.keep2 (nuB rfl) hz), (Below.store2 HBT (by first | exact Nat.le_refl _ | omega))⟩
theorem zof_neg (n : Nat) (w : World) (hn : n ≤ 9223372036854775808) (h0 : 0 < n) :
    Calls Tryz.prog 9 #[.int .i64 (-(n : Int))] w (RetI w (-(n : Int))) := by
  have t1 : decide (-(n : Int) < 0) = true := by simp; omega
  have t1b : decide (0 < n) = true := by simp; exact h0
  have I1 : (-(n : Int)) % 18446744073709551616 = 18446744073709551616 - (n : Int) := by omega
  have W1' : IntKind.u64.wrap (-(n : Int)) = 18446744073709551616 - (n : Int) := by simp [IntKind.wrap, IntKind.signed, IntKind.bits]; omega
  have W2' : IntKind.u64.wrap (-(18446744073709551616 - (n : Int))) = (n : Int) := by simp [IntKind.wrap, IntKind.signed, IntKind.bits]; omega
  have I2 : (-(18446744073709551616 - (n : Int))) % 18446744073709551616 = (n : Int) := by omega
  have I3 : ((n : Int) - 18446744073709551616) % 18446744073709551616 = (n : Int) := by omega
  obtain ⟨hb1, Rr⟩ := bx1 w #[.bool false, .slice none 0 0] 24
  have HBT := hb1
  clear hb1
  have qr0 := Rr.c (i := 0) rfl
  have qr1 := Rr.c (i := 1) rfl
  go_enter Tryz.func9, Tryz.ntmps9
  go_wp2_with (fail)
  obtain ⟨m, Em⟩ : ∃ zq : Nat, zq = n := ⟨_, rfl⟩
  have Bm : nl m ≤ 2 := by rw [Em]; exact nl_le.2 (Nat.lt_of_le_of_lt hn (by decide))
  refine (Calls.mono (R := RetN (w.alloc (.cells #[.bool false, .slice none 0 0] 24)) m) (by rw [Em]; with_reducible exact (rof_c n _  (by omega))) ?_)
  replace Em := Lib.hid Em
  rintro e W2 ⟨Xm, cm, rfl, hm, hb2⟩
  replace Rr := Rr.below hb2
  replace qr0 := cbl hb2 qr0
  replace qr1 := cbl hb2 qr1
  replace HBT := Below.cons HBT hb2
  clear hb2
  go_wp2_with (fail)
  obtain ⟨z, Ez⟩ : ∃ zq : Int, zq = ival true m := ⟨_, rfl⟩
  refine (Calls.mono (R := RetI W2 z) (by rw [Ez]; with_reducible exact (rz_c true Xm cm m _ hm (by omega))) ?_)
  replace Ez := Lib.hid Ez
  rintro e W3 ⟨Xz, cz, rfl, hz, hb3⟩
  replace Rr := Rr.below hb3
  replace qr0 := cbl hb3 qr0
  replace qr1 := cbl hb3 qr1
  replace hm := hm.below hb3
  replace HBT := Below.cons HBT hb3
  clear hb3
  have fzr0 := Rr.f (i := 0)
  have fzr1 := Rr.f (i := 1)
  go_wp2_with (fail)
  have hzz : z = (-(n : Int)) := by rw [Ez.out, Em.out]; rfl
  subst hzz
  have RS := Rr.store2 (.bool (sg (((-(n : Int)))))) (.slice Xz (nl (mg (((-(n : Int)))))) cz)
  have e0 := RS.c (i := 0) rfl
  have e1 := RS.c (i := 1) rfl
  refine bodyPost_ret (v := .agg #[.bool (sg (((-(n : Int))))), .slice Xz (nl (mg (((-(n : Int)))))) cz]) (by simp [results, Tryz.results9, go_sem, e0, e1]) rfl ?_
  exact ⟨Xz, cz, rfl, (Rr.keep2 (nuB rfl) hz), (Below.store2 HBT (by first | exact Nat.le_refl _ | omega))⟩
theorem zof_c (z : Int) (w : World) (h0 : -9223372036854775808 ≤ z) (h1 : z < 9223372036854775808) :
    Calls Tryz.prog 9 #[.int .i64 z] w (RetI w z) := by
  rcases Int.lt_or_le z 0 with h | h
  · obtain ⟨n, rfl⟩ := Int.exists_eq_neg_ofNat (show z ≤ 0 by omega)
    exact zof_neg n w (by omega) (by omega)
  · obtain ⟨n, rfl⟩ := Int.eq_ofNat_of_zero_le h
    exact zof_nn n w (by omega)
theorem zcmp_c (aA : Option Addr) (ac : Nat) (a : Int) (bA : Option Addr) (bc : Nat) (b : Int) (w : World) (ha : NatV w aA ac (mg a)) (hb : NatV w bA bc (mg b)) (la : nl (mg a) ≤ 1073741824) (lb : nl (mg b) ≤ 1073741824) :
    Calls Tryz.prog 69 #[.agg #[.bool (sg a), .slice aA (nl (mg a)) ac], .agg #[.bool (sg b), .slice bA (nl (mg b)) bc]] w fun e w' => e = .returned (.int .i64 (icmp a b)) ∧ Below w.heap.size w w' := by
  by_cases h1 : a < 0
  · by_cases h2 : b < 0
    · have ta : sg a = true := sg_t h1
      have tb : sg b = true := sg_t h2
      rw [icmp_bb h1 h2]
      obtain ⟨hb1, Ra, Rb⟩ := bx2 w #[.bool true, .slice aA (nl (mg a)) ac] 24 #[.bool true, .slice bA (nl (mg b)) bc] 24
      replace ha := ha.below hb1
      replace hb := hb.below hb1
      have HBT := hb1
      clear hb1
      have qa0 := Ra.c (i := 0) rfl
      have qa1 := Ra.c (i := 1) rfl
      have qb0 := Rb.c (i := 0) rfl
      have qb1 := Rb.c (i := 1) rfl
      replace h1 := Lib.hid h1
      replace h2 := Lib.hid h2
      go_enter Tryz.func69, Tryz.ntmps69
      go_wp2_with (fail)
      refine (Calls.mono (rcmp_c bA bc (mg b) aA ac (mg a) _ hb ha (by omega) (by omega)) ?_)
      rintro e w' ⟨rfl, hw⟩
      subst hw
      go_wp2_with (fail)
      go_ret
      exact ⟨rfl, HBT⟩
    · have ta : sg a = true := sg_t h1
      have tb : sg b = false := sg_f (by omega)
      rw [show icmp a b = -1 by unfold icmp; rw [if_pos (by omega)]]
      obtain ⟨hb1, Ra, Rb⟩ := bx2 w #[.bool true, .slice aA (nl (mg a)) ac] 24 #[.bool false, .slice bA (nl (mg b)) bc] 24
      replace ha := ha.below hb1
      replace hb := hb.below hb1
      have HBT := hb1
      clear hb1
      have qa0 := Ra.c (i := 0) rfl
      have qa1 := Ra.c (i := 1) rfl
      have qb0 := Rb.c (i := 0) rfl
      have qb1 := Rb.c (i := 1) rfl
      replace h1 := Lib.hid h1
      replace h2 := Lib.hid h2
      go_enter Tryz.func69, Tryz.ntmps69
      go_wp2_with (fail)
      go_ret
      exact ⟨rfl, HBT⟩
  · by_cases h2 : b < 0
    · have ta : sg a = false := sg_f (by omega)
      have tb : sg b = true := sg_t h2
      rw [show icmp a b = 1 by unfold icmp; rw [if_neg (by omega), if_pos (by omega)]]
      obtain ⟨hb1, Ra, Rb⟩ := bx2 w #[.bool false, .slice aA (nl (mg a)) ac] 24 #[.bool true, .slice bA (nl (mg b)) bc] 24
      replace ha := ha.below hb1
      replace hb := hb.below hb1
      have HBT := hb1
      clear hb1
      have qa0 := Ra.c (i := 0) rfl
      have qa1 := Ra.c (i := 1) rfl
      have qb0 := Rb.c (i := 0) rfl
      have qb1 := Rb.c (i := 1) rfl
      replace h1 := Lib.hid h1
      replace h2 := Lib.hid h2
      go_enter Tryz.func69, Tryz.ntmps69
      go_wp2_with (fail)
      go_ret
      exact ⟨rfl, HBT⟩
    · have ta : sg a = false := sg_f (by omega)
      have tb : sg b = false := sg_f (by omega)
      rw [icmp_nn (by omega) (by omega)]
      obtain ⟨hb1, Ra, Rb⟩ := bx2 w #[.bool false, .slice aA (nl (mg a)) ac] 24 #[.bool false, .slice bA (nl (mg b)) bc] 24
      replace ha := ha.below hb1
      replace hb := hb.below hb1
      have HBT := hb1
      clear hb1
      have qa0 := Ra.c (i := 0) rfl
      have qa1 := Ra.c (i := 1) rfl
      have qb0 := Rb.c (i := 0) rfl
      have qb1 := Rb.c (i := 1) rfl
      replace h1 := Lib.hid h1
      replace h2 := Lib.hid h2
      go_enter Tryz.func69, Tryz.ntmps69
      go_wp2_with (fail)
      refine (Calls.mono (rcmp_c aA ac (mg a) bA bc (mg b) _ ha hb (by omega) (by omega)) ?_)
      rintro e w' ⟨rfl, hw⟩
      subst hw
      go_wp2_with (fail)
      go_ret
      exact ⟨rfl, HBT⟩
theorem nat0 (W : World) : NatV W none 0 (mg 0) := ⟨.inl (by simp [vals, limbs_zero, mg]), by simp [mg, nl_zero], by decide⟩
theorem icmp_sign (a : Int) : icmp a 0 = a.sign := by
  unfold icmp
  rcases Int.lt_trichotomy a 0 with h | h | h
  · rw [if_pos h, Int.sign_eq_neg_one_of_neg h]
  · rw [h]; rfl
  · rw [if_neg (by omega), if_pos h, Int.sign_eq_one_of_pos h]
theorem zsign_c (aA : Option Addr) (ac : Nat) (a : Int) (w : World) (ha : NatV w aA ac (mg a)) (la : nl (mg a) ≤ 1073741824) :
    Calls Tryz.prog 101 #[.agg #[.bool (sg a), .slice aA (nl (mg a)) ac]] w (fun e w' => e = .returned (.int .i64 a.sign) ∧ Below w.heap.size w w') := by
  obtain ⟨hb1, Ra⟩ := bx1 w #[.bool (sg a), .slice aA (nl (mg a)) ac] 24
  replace ha := ha.below hb1
  have HBT := hb1
  clear hb1
  have qa0 := Ra.c (i := 0) rfl
  have qa1 := Ra.c (i := 1) rfl
  have CC := zcmp_c aA ac a none 0 0 (w.alloc (.cells #[.bool (sg a), .slice aA (nl (mg a)) ac] 24)) ha (nat0 _) (by omega) (by simp [mg, nl_zero])
  rw [icmp_sign, show sg 0 = false from rfl, show nl (mg 0) = 0 from nl_zero] at CC
  replace CC := Lib.hid CC
  go_enter Tryz.func101, Tryz.ntmps101
  go_wp2_with (fail)
  refine (Calls.mono (CC.out) ?_)
  rintro e W2 ⟨rfl, hb2⟩
  replace ha := ha.below hb2
  replace Ra := Ra.below hb2
  replace qa0 := cbl hb2 qa0
  replace qa1 := cbl hb2 qa1
  replace HBT := Below.cons HBT hb2
  clear hb2
  go_wp2_with (fail)
  go_ret
  exact ⟨rfl, HBT⟩
theorem zsame_y (aA : Option Addr) (ac : Nat) (a : Int) (bA : Option Addr) (bc : Nat) (b : Int) (w : World) (ha : NatV w aA ac (mg a)) (hb : NatV w bA bc (mg b)) (la : nl (mg a) ≤ 1073741824) (lb : nl (mg b) ≤ 1073741824) (h0 : a = b) :
    Calls Tryz.prog 29 #[.agg #[.bool (sg a), .slice aA (nl (mg a)) ac], .agg #[.bool (sg b), .slice bA (nl (mg b)) bc]] w (fun e w' => e = .returned (.bool true) ∧ Below w.heap.size w w') := by
  have ic : icmp a b = 0 := icmp_zero.2 h0
  have es : (sg a == sg b) = true := by rw [h0]; simp
  obtain ⟨ib, Eib⟩ : ∃ z, z = icmp a b := ⟨_, rfl⟩
  rw [← Eib] at ic
  have CC := fun W => zcmp_c aA ac a bA bc b W
  rw [← Eib] at CC
  replace CC := Lib.hid CC
  replace Eib := Lib.hid Eib
  replace h0 := Lib.hid h0
  obtain ⟨hb1, Ra, Rb⟩ := bx2 w #[.bool (sg a), .slice aA (nl (mg a)) ac] 24 #[.bool (sg b), .slice bA (nl (mg b)) bc] 24
  replace ha := ha.below hb1
  replace hb := hb.below hb1
  have HBT := hb1
  clear hb1
  have qa0 := Ra.c (i := 0) rfl
  have qa1 := Ra.c (i := 1) rfl
  have qb0 := Rb.c (i := 0) rfl
  have qb1 := Rb.c (i := 1) rfl
  go_enter Tryz.func29, Tryz.ntmps29
  go_wp2_with (fail)
  refine (Calls.mono (CC.out _ ha hb la lb) ?_)
  rintro e W2 ⟨rfl, hb2⟩
  replace ha := ha.below hb2
  replace hb := hb.below hb2
  replace Ra := Ra.below hb2
  replace qa0 := cbl hb2 qa0
  replace qa1 := cbl hb2 qa1
  replace Rb := Rb.below hb2
  replace qb0 := cbl hb2 qb0
  replace qb1 := cbl hb2 qb1
  replace HBT := Below.cons HBT hb2
  clear hb2
  go_wp2_with (fail)
  go_ret
  exact ⟨rfl, HBT⟩
theorem zsame_n (aA : Option Addr) (ac : Nat) (a : Int) (bA : Option Addr) (bc : Nat) (b : Int) (w : World) (ha : NatV w aA ac (mg a)) (hb : NatV w bA bc (mg b)) (la : nl (mg a) ≤ 1073741824) (lb : nl (mg b) ≤ 1073741824) (h0 : a ≠ b) :
    Calls Tryz.prog 29 #[.agg #[.bool (sg a), .slice aA (nl (mg a)) ac], .agg #[.bool (sg b), .slice bA (nl (mg b)) bc]] w (fun e w' => e = .returned (.bool false) ∧ Below w.heap.size w w') := by
  have ic : (icmp a b == 0) = false := by simp; exact fun e => h0 (icmp_zero.1 e)
  obtain ⟨ib, Eib⟩ : ∃ z, z = icmp a b := ⟨_, rfl⟩
  rw [← Eib] at ic
  have CC := fun W => zcmp_c aA ac a bA bc b W
  rw [← Eib] at CC
  replace CC := Lib.hid CC
  replace Eib := Lib.hid Eib
  replace h0 := Lib.hid h0
  obtain ⟨hb1, Ra, Rb⟩ := bx2 w #[.bool (sg a), .slice aA (nl (mg a)) ac] 24 #[.bool (sg b), .slice bA (nl (mg b)) bc] 24
  replace ha := ha.below hb1
  replace hb := hb.below hb1
  have HBT := hb1
  clear hb1
  have qa0 := Ra.c (i := 0) rfl
  have qa1 := Ra.c (i := 1) rfl
  have qb0 := Rb.c (i := 0) rfl
  have qb1 := Rb.c (i := 1) rfl
  go_enter Tryz.func29, Tryz.ntmps29
  go_wp2_with (fail)
  refine (Calls.mono (CC.out _ ha hb la lb) ?_)
  rintro e W2 ⟨rfl, hb2⟩
  replace ha := ha.below hb2
  replace hb := hb.below hb2
  replace Ra := Ra.below hb2
  replace qa0 := cbl hb2 qa0
  replace qa1 := cbl hb2 qa1
  replace Rb := Rb.below hb2
  replace qb0 := cbl hb2 qb0
  replace qb1 := cbl hb2 qb1
  replace HBT := Below.cons HBT hb2
  clear hb2
  go_wp2_with (fail)
  go_ret
  exact ⟨rfl, HBT⟩
theorem zsame_c (aA : Option Addr) (ac : Nat) (a : Int) (bA : Option Addr) (bc : Nat) (b : Int) (w : World) (ha : NatV w aA ac (mg a)) (hb : NatV w bA bc (mg b)) (la : nl (mg a) ≤ 1073741824) (lb : nl (mg b) ≤ 1073741824) :
    Calls Tryz.prog 29 #[.agg #[.bool (sg a), .slice aA (nl (mg a)) ac], .agg #[.bool (sg b), .slice bA (nl (mg b)) bc]] w fun e w' => e = .returned (.bool (decide (a = b))) ∧ Below w.heap.size w w' := by
  by_cases h : a = b
  · rw [decide_eq_true h]; exact zsame_y aA ac a bA bc b w ha hb la lb h
  · rw [decide_eq_false h]; exact zsame_n aA ac a bA bc b w ha hb la lb h
end Go.Proofs.YtopigejgadnkaaaGreatDoor
