/- Plain numbers: a natural as a row of limbs (base 2^32), its limbs again, how many there are. No Go in it. -/
import Derived.WalkKit
set_option linter.unusedVariables false
set_option linter.unusedSimpArgs false
namespace Go.Proofs.YtmcekbmmpdpbmaaDoor

def val : List Nat → Nat
  | [] => 0
  | x :: l => x + 4294967296 * val l
def Lim (l : List Nat) : Prop := ∀ x ∈ l, x < 4294967296
def limbs (n : Nat) : List Nat := if h : n = 0 then [] else n % 4294967296 :: limbs (n / 4294967296)
  termination_by n
  decreasing_by omega
def nl (n : Nat) : Nat := (limbs n).length

/-- A limb of a row; 0 beyond. -/
def gl (l : List Nat) (i : Nat) : Nat := l.getD i 0
theorem gl_eq (l : List Nat) (i : Nat) : gl l i = l.getD i 0 := rfl
theorem gl_of_le {l : List Nat} {i : Nat} (h : l.length ≤ i) : gl l i = 0 := by simp [gl, h]
theorem gl_get {l : List Nat} {i : Nat} (h : i < l.length) : gl l i = l[i] := by simp [gl, h]
theorem Lim.nil : Lim [] := fun _ h => by simp at h
theorem Lim.cons {x l} (h : x < 4294967296) (k : Lim l) : Lim (x :: l) := fun y hy => by
  rcases List.mem_cons.1 hy with rfl | hy
  · exact h
  · exact k y hy
theorem Lim.head {x l} (h : Lim (x :: l)) : x < 4294967296 := h x (by simp)
theorem Lim.tail {x l} (h : Lim (x :: l)) : Lim l := fun y hy => h y (by simp [hy])
theorem Lim.append {l m} (h : Lim l) (k : Lim m) : Lim (l ++ m) := fun y hy => by
  rcases List.mem_append.1 hy with hy | hy
  · exact h y hy
  · exact k y hy
theorem Lim.take {l} (h : Lim l) (n) : Lim (l.take n) := fun y hy => h y (List.mem_of_mem_take hy)
theorem Lim.drop {l} (h : Lim l) (n) : Lim (l.drop n) := fun y hy => h y (List.mem_of_mem_drop hy)
theorem Lim.getD {l} (h : Lim l) (i : Nat) : l.getD i 0 < 4294967296 := by
  by_cases hi : i < l.length
  · rw [List.getD_eq_getElem?_getD, List.getElem?_eq_getElem hi]; exact h _ (List.getElem_mem hi)
  · rw [List.getD_eq_getElem?_getD, List.getElem?_eq_none (by omega)]; simp
theorem Lim.set {l} (h : Lim l) (i x) (hx : x < 4294967296) : Lim (l.set i x) := fun y hy => by
  rcases List.mem_or_eq_of_mem_set hy with hy | rfl
  · exact h y hy
  · exact hx
theorem Lim.replicate (n x) (hx : x < 4294967296) : Lim (List.replicate n x) := fun y hy => by
  rw [(List.mem_replicate.1 hy).2]; exact hx

theorem val_append (l m : List Nat) : val (l ++ m) = val l + 4294967296 ^ l.length * val m := by
  induction l with
  | nil => simp [val]
  | cons x l ih => simp only [List.cons_append, val, ih, List.length_cons, Nat.pow_succ]; grind
theorem val_lt {l : List Nat} (h : Lim l) : val l < 4294967296 ^ l.length := by
  induction l with
  | nil => simp [val]
  | cons x l ih =>
    have := ih h.tail
    have := h.head
    simp only [val, List.length_cons, Nat.pow_succ]
    omega
theorem val_replicate (n : Nat) : val (List.replicate n 0) = 0 := by
  induction n with
  | zero => rfl
  | succ n ih => simp [List.replicate_succ, val, ih]
theorem val_snoc (l : List Nat) (x : Nat) : val (l ++ [x]) = val l + 4294967296 ^ l.length * x := by
  rw [val_append]; simp [val]
theorem val_take {l : List Nat} (h : Lim l) (i : Nat) : val (l.take i) = val l % 4294967296 ^ i := by
  by_cases hi : i ≤ l.length
  · have e : val l = val (l.take i) + 4294967296 ^ i * val (l.drop i) := by
      conv => lhs; rw [← List.take_append_drop i l]
      rw [val_append, List.length_take, Nat.min_eq_left hi]
    have hl := val_lt (h.take i)
    rw [List.length_take, Nat.min_eq_left hi] at hl
    rw [e, Nat.add_mul_mod_self_left, Nat.mod_eq_of_lt hl]
  · rw [List.take_of_length_le (by omega), Nat.mod_eq_of_lt]
    exact Nat.lt_of_lt_of_le (val_lt h) (Nat.pow_le_pow_right (by decide) (by omega))
theorem val_drop {l : List Nat} (h : Lim l) (i : Nat) : val (l.drop i) = val l / 4294967296 ^ i := by
  by_cases hi : i ≤ l.length
  · have e : val l = val (l.take i) + 4294967296 ^ i * val (l.drop i) := by
      conv => lhs; rw [← List.take_append_drop i l]
      rw [val_append, List.length_take, Nat.min_eq_left hi]
    have hl := val_lt (h.take i)
    rw [List.length_take, Nat.min_eq_left hi] at hl
    rw [e, Nat.add_mul_div_left _ _ (Nat.pow_pos (by decide)), Nat.div_eq_of_lt hl]; omega
  · rw [List.drop_of_length_le (by omega), Nat.div_eq_of_lt]
    · rfl
    exact Nat.lt_of_lt_of_le (val_lt h) (Nat.pow_le_pow_right (by decide) (by omega))
theorem val_getD {l : List Nat} (h : Lim l) (i : Nat) : l.getD i 0 = val l / 4294967296 ^ i % 4294967296 := by
  induction l generalizing i with
  | nil => simp [val]
  | cons x l ih =>
    have hx := h.head
    cases i with
    | zero => simp only [List.getD_cons_zero, val, Nat.pow_zero, Nat.div_one]; omega
    | succ i =>
      rw [List.getD_cons_succ, ih h.tail, val, Nat.pow_succ, Nat.mul_comm (4294967296 ^ i), ← Nat.div_div_eq_div_mul]
      congr 2
      omega
theorem val_set {l : List Nat} (i x : Nat) (hi : i < l.length) : val (l.set i x) + 4294967296 ^ i * l.getD i 0 = val l + 4294967296 ^ i * x := by
  induction l generalizing i with
  | nil => simp at hi
  | cons y l ih =>
    cases i with
    | zero => simp [val]; omega
    | succ i =>
      have := ih i (by simpa using hi)
      simp only [List.set_cons_succ, val, List.getD_cons_succ, Nat.pow_succ]
      grind

theorem limbs_zero : limbs 0 = [] := by rw [limbs]; simp
theorem limbs_pos {n : Nat} (h : n ≠ 0) : limbs n = n % 4294967296 :: limbs (n / 4294967296) := by rw [limbs]; simp [h]
theorem val_limbs (n : Nat) : val (limbs n) = n := by
  induction n using Nat.strongRecOn with
  | _ n ih =>
    by_cases h : n = 0
    · subst h; rw [limbs_zero]; rfl
    · rw [limbs_pos h, val, ih (n / 4294967296) (by omega)]; omega
theorem lim_limbs (n : Nat) : Lim (limbs n) := by
  induction n using Nat.strongRecOn with
  | _ n ih =>
    by_cases h : n = 0
    · subst h; rw [limbs_zero]; exact Lim.nil
    · rw [limbs_pos h]; exact Lim.cons (by omega) (ih _ (by omega))
/-- A row whose last limb is not 0 is the row of its own value. -/
theorem limbs_val {l : List Nat} (h : Lim l) (hl : l = [] ∨ l.getD (l.length - 1) 0 ≠ 0) : limbs (val l) = l := by
  induction l with
  | nil => exact limbs_zero
  | cons x l ih =>
    have hx := h.head
    have e1 : (x + 4294967296 * val l) % 4294967296 = x := by omega
    have e2 : (x + 4294967296 * val l) / 4294967296 = val l := by omega
    cases l with
    | nil =>
      have : x ≠ 0 := by simpa using hl
      rw [val, limbs_pos (by omega), e1, e2]; simp [val, limbs_zero]
    | cons y l =>
      have ih' := ih h.tail (.inr (by rcases hl with hl | hl; · simp at hl
                                      · simpa using hl))
      have hne : val (y :: l) ≠ 0 := by
        intro e; rw [e, limbs_zero] at ih'; simp at ih'
      rw [val, limbs_pos (by omega), e1, e2, ih']
theorem limbs_last (n : Nat) (h : n ≠ 0) : (limbs n).getD (nl n - 1) 0 ≠ 0 := by
  induction n using Nat.strongRecOn with
  | _ n ih =>
    unfold nl
    rw [limbs_pos h]
    by_cases h2 : n / 4294967296 = 0
    · rw [h2, limbs_zero]; simp; omega
    · have := ih (n / 4294967296) (by omega) h2
      unfold nl at this
      have hp : 0 < (limbs (n / 4294967296)).length := by rw [limbs_pos h2]; simp
      simp only [List.length_cons]
      rw [show (limbs (n / 4294967296)).length + 1 - 1 = ((limbs (n / 4294967296)).length - 1) + 1 by omega, List.getD_cons_succ]
      exact this
theorem limbs_inj {a b : Nat} (h : limbs a = limbs b) : a = b := by rw [← val_limbs a, h, val_limbs]
theorem limbs_getD (n i : Nat) : (limbs n).getD i 0 = n / 4294967296 ^ i % 4294967296 := by rw [val_getD (lim_limbs n), val_limbs]
theorem nl_zero : nl 0 = 0 := by simp [nl, limbs_zero]
theorem nl_lt (n : Nat) : n < 4294967296 ^ nl n := by have := val_lt (lim_limbs n); rwa [val_limbs] at this
theorem nl_le {n k : Nat} : nl n ≤ k ↔ n < 4294967296 ^ k := by
  constructor
  · intro h; exact Nat.lt_of_lt_of_le (nl_lt n) (Nat.pow_le_pow_right (by decide) h)
  · induction k generalizing n with
    | zero => intro h; obtain rfl : n = 0 := by simpa using h
              simp [nl_zero]
    | succ k ih =>
      intro h
      by_cases h0 : n = 0
      · subst h0; simp [nl_zero]
      · have := ih (n := n / 4294967296) (by rw [Nat.pow_succ] at h; omega)
        unfold nl at *
        rw [limbs_pos h0]; simp; omega
theorem lt_nl {n k : Nat} : k < nl n ↔ 4294967296 ^ k ≤ n := by
  have := @nl_le n k; omega
theorem nl_pos {n : Nat} : 0 < nl n ↔ n ≠ 0 := by rw [lt_nl]; simp; omega
theorem nl_eq_zero {n : Nat} : nl n = 0 ↔ n = 0 := by have := @nl_pos n; omega
theorem nl_mono {a b : Nat} (h : a ≤ b) : nl a ≤ nl b := nl_le.2 (Nat.lt_of_le_of_lt h (nl_lt b))
theorem nl_ge {n : Nat} (h : n ≠ 0) : 4294967296 ^ (nl n - 1) ≤ n := lt_nl.1 (by have := nl_pos.2 h; omega)
theorem nl_mul (a b : Nat) : nl (a * b) ≤ nl a + nl b := by
  rw [nl_le, Nat.pow_add]
  by_cases ha : a = 0
  · subst ha; simp only [Nat.zero_mul]; exact Nat.mul_pos (Nat.pow_pos (by decide)) (Nat.pow_pos (by decide))
  · exact Nat.mul_lt_mul'' (nl_lt a) (nl_lt b)
theorem nl_mul_ge {a b : Nat} (ha : a ≠ 0) (hb : b ≠ 0) : nl a + nl b ≤ nl (a * b) + 1 := by
  have h1 := nl_ge ha
  have h2 := nl_ge hb
  have p1 := nl_pos.2 ha
  have p2 := nl_pos.2 hb
  have : nl a - 1 + (nl b - 1) < nl (a * b) := by
    rw [lt_nl, Nat.pow_add]; exact Nat.mul_le_mul h1 h2
  omega
theorem nl_add (a b : Nat) : nl (a + b) ≤ max (nl a) (nl b) + 1 := by
  have h1 := nl_le.1 (Nat.le_max_left (nl a) (nl b))
  have h2 := nl_le.1 (Nat.le_max_right (nl a) (nl b))
  rw [nl_le, Nat.pow_succ]; omega
theorem nl_sub (a b : Nat) : nl (a - b) ≤ nl a := nl_mono (Nat.sub_le _ _)
theorem pow32 (k : Nat) : 2 ^ (32 * k) = 4294967296 ^ k := by rw [Nat.pow_mul]
theorem nl_two_pow (k : Nat) : nl (2 ^ k) = k / 32 + 1 := by
  have h1 : nl (2 ^ k) ≤ k / 32 + 1 := by
    rw [nl_le, ← pow32]; exact Nat.pow_lt_pow_right (by decide) (by omega)
  have h2 : k / 32 < nl (2 ^ k) := by
    rw [lt_nl, ← pow32]; exact Nat.pow_le_pow_right (by decide) (by omega)
  omega
theorem nl_shl (a k : Nat) : nl (a * 2 ^ k) ≤ nl a + k / 32 + 1 := by
  have := nl_mul a (2 ^ k); rw [nl_two_pow] at this; omega
theorem nl_shl32 (a k : Nat) : nl (a * 2 ^ (32 * k)) ≤ nl a + k := by
  rw [nl_le, pow32, Nat.pow_add]; exact Nat.mul_lt_mul_of_pos_right (nl_lt a) (Nat.pow_pos (by decide))
theorem nl_div (a b : Nat) : nl (a / b) ≤ nl a := nl_mono (Nat.div_le_self _ _)
theorem nl_mod_le (a b : Nat) : nl (a % b) ≤ nl a := nl_mono (Nat.mod_le _ _)
theorem nl_mod_lt (a : Nat) {b : Nat} (h : b ≠ 0) : nl (a % b) ≤ nl b := nl_mono (Nat.le_of_lt (Nat.mod_lt _ (by omega)))
theorem nl_one : nl 1 = 1 := by simpa using nl_two_pow 0
theorem nl_mod_pow (a k : Nat) : nl (a % 2 ^ (32 * k)) ≤ k := by
  rw [nl_le, ← pow32]; exact Nat.mod_lt _ (Nat.pow_pos (by decide))
theorem nl_shr32 (a k : Nat) : nl (a / 2 ^ (32 * k)) ≤ nl a - k := by
  rw [nl_le, ← pow32]
  by_cases h : k ≤ nl a
  · rw [Nat.div_lt_iff_lt_mul (Nat.pow_pos (by decide)), ← Nat.pow_add, show 32 * (nl a - k) + 32 * k = 32 * nl a by omega, pow32]; exact nl_lt a
  · rw [Nat.div_eq_of_lt]
    · exact Nat.pow_pos (by decide)
    · rw [pow32]; exact nl_le.1 (by omega)

theorem Lim.gl {l} (h : Lim l) (i : Nat) : gl l i < 4294967296 := h.getD i
theorem val_gl {l : List Nat} (h : Lim l) (i : Nat) : gl l i = val l / 4294967296 ^ i % 4294967296 := val_getD h i
theorem limbs_gl (n i : Nat) : gl (limbs n) i = n / 4294967296 ^ i % 4294967296 := limbs_getD n i
theorem val_cons (x l) : val (x :: l) = x + 4294967296 * val l := rfl
theorem take_snoc (l : List Nat) (k : Nat) (h : k < l.length) : l.take (k + 1) = l.take k ++ [gl l k] := by
  rw [List.take_succ_eq_append_getElem h, gl_get h]
theorem val_take_succ (l : List Nat) (k : Nat) (h : k < l.length) : val (l.take (k + 1)) = val (l.take k) + 4294967296 ^ k * gl l k := by
  rw [take_snoc l k h, val_snoc, List.length_take, Nat.min_eq_left (by omega)]
theorem drop_cons (l : List Nat) (k : Nat) (h : k < l.length) : l.drop k = gl l k :: l.drop (k + 1) := by
  rw [List.drop_eq_getElem_cons h, gl_get h]
theorem take_make {l : List Nat} (hL : Lim l) {k : Nat} (hk : k ≤ l.length) (h0 : ∀ i, k ≤ i → i < l.length → gl l i = 0) (h1 : k = 0 ∨ gl l (k - 1) ≠ 0) : l.take k = limbs (val l) := by
  have e : val l = val (l.take k) := by
    have h2 : ∀ m : List Nat, (∀ i, i < m.length → gl m i = 0) → val m = 0 := by
      intro m
      induction m with
      | nil => intro _; rfl
      | cons x m ih =>
        intro hm
        have := hm 0 (by simp)
        have h3 := ih (fun i hi => by have := hm (i + 1) (by simpa using hi); simpa [Go.Proofs.YtmcekbmmpdpbmaaDoor.gl] using this)
        simp only [Go.Proofs.YtmcekbmmpdpbmaaDoor.gl, List.getD_cons_zero] at this
        simp [val, this, h3]
    have h3 : val (l.drop k) = 0 := h2 _ (fun i hi => by
      have := h0 (k + i) (by omega) (by simp at hi; omega)
      simpa [Go.Proofs.YtmcekbmmpdpbmaaDoor.gl, List.getD_eq_getElem?_getD] using this)
    conv => lhs; rw [← List.take_append_drop k l]
    rw [val_append, h3]; simp
  rw [e, limbs_val (hL.take k)]
  rcases h1 with rfl | h1
  · exact .inl (by simp)
  · by_cases hk0 : k = 0
    · subst hk0; exact .inl (by simp)
    · refine .inr ?_
      rw [List.length_take, Nat.min_eq_left hk]
      simpa [Go.Proofs.YtmcekbmmpdpbmaaDoor.gl, List.getD_eq_getElem?_getD, List.getElem?_take, show k - 1 < k by omega] using h1

end Go.Proofs.YtmcekbmmpdpbmaaDoor
