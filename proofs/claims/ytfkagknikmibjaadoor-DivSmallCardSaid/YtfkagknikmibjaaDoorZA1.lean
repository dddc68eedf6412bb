/- Plain numbers: a natural as a row of limbs (base 2^32), its limbs again, how many there are. No Go in it. -/
import Derived.WalkKit
import Derived.Test.YtfkagknikmibjaaDoorProg
import Derived.BigQuiet
import Derived.Deep.QuietTactic
import Derived.Maps.AppendAt
import Derived.Deep.AppendLies
import Derived.WalkSpells
import Derived.DataElems
import Derived.Lib.Hide
set_option linter.unusedVariables false
set_option linter.unusedSimpArgs false
namespace Go.Proofs.YtfkagknikmibjaaDoor

def val : List Nat → Nat
  | [] => 0
  | x :: l => x + 4294967296 * val l
def Lim (l : List Nat) : Prop := ∀ x ∈ l, x < 4294967296
def limbs (n : Nat) : List Nat := if h : n = 0 then [] else n % 4294967296 :: limbs (n / 4294967296)
  termination_by n
  decreasing_by omega
def nl (n : Nat) : Nat := (limbs n).length

/-- A limb of a row; 0 beyond. -/
def gl (l : List Nat) (i : Nat) : Nat := l.getD i 0
theorem gl_eq (l : List Nat) (i : Nat) : gl l i = l.getD i 0 := rfl
theorem gl_of_le {l : List Nat} {i : Nat} (h : l.length ≤ i) : gl l i = 0 := by simp [gl, h]
theorem gl_get {l : List Nat} {i : Nat} (h : i < l.length) : gl l i = l[i] := by simp [gl, h]
theorem Lim.nil : Lim [] := fun _ h => by simp at h
theorem Lim.cons {x l} (h : x < 4294967296) (k : Lim l) : Lim (x :: l) := fun y hy => by
  rcases List.mem_cons.1 hy with rfl | hy
  · exact h
  · exact k y hy
theorem Lim.head {x l} (h : Lim (x :: l)) : x < 4294967296 := h x (by simp)
theorem Lim.tail {x l} (h : Lim (x :: l)) : Lim l := fun y hy => h y (by simp [hy])
theorem Lim.append {l m} (h : Lim l) (k : Lim m) : Lim (l ++ m) := fun y hy => by
  rcases List.mem_append.1 hy with hy | hy
  · exact h y hy
  · exact k y hy
theorem Lim.take {l} (h : Lim l) (n) : Lim (l.take n) := fun y hy => h y (List.mem_of_mem_take hy)
theorem Lim.drop {l} (h : Lim l) (n) : Lim (l.drop n) := fun y hy => h y (List.mem_of_mem_drop hy)
theorem Lim.getD {l} (h : Lim l) (i : Nat) : l.getD i 0 < 4294967296 := by
  by_cases hi : i < l.length
  · rw [List.getD_eq_getElem?_getD, List.getElem?_eq_getElem hi]; exact h _ (List.getElem_mem hi)
  · rw [List.getD_eq_getElem?_getD, List.getElem?_eq_none (by omega)]; simp
theorem Lim.set {l} (h : Lim l) (i x) (hx : x < 4294967296) : Lim (l.set i x) := fun y hy => by
  rcases List.mem_or_eq_of_mem_set hy with hy | rfl
  · exact h y hy
  · exact hx
theorem Lim.replicate (n x) (hx : x < 4294967296) : Lim (List.replicate n x) := fun y hy => by
  rw [(List.mem_replicate.1 hy).2]; exact hx

theorem val_append (l m : List Nat) : val (l ++ m) = val l + 4294967296 ^ l.length * val m := by
  induction l with
  | nil => simp [val]
  | cons x l ih => simp only [List.cons_append, val, ih, List.length_cons, Nat.pow_succ]; grind
theorem val_lt {l : List Nat} (h : Lim l) : val l < 4294967296 ^ l.length := by
  induction l with
  | nil => simp [val]
  | cons x l ih =>
    have := ih h.tail
    have := h.head
    simp only [val, List.length_cons, Nat.pow_succ]
    omega
theorem val_replicate (n : Nat) : val (List.replicate n 0) = 0 := by
  induction n with
  | zero => rfl
  | succ n ih => simp [List.replicate_succ, val, ih]
theorem val_snoc (l : List Nat) (x : Nat) : val (l ++ [x]) = val l + 4294967296 ^ l.length * x := by
  rw [val_append]; simp [val]
theorem val_take {l : List Nat} (h : Lim l) (i : Nat) : val (l.take i) = val l % 4294967296 ^ i := by
  by_cases hi : i ≤ l.length
  · have e : val l = val (l.take i) + 4294967296 ^ i * val (l.drop i) := by
      conv => lhs; rw [← List.take_append_drop i l]
      rw [val_append, List.length_take, Nat.min_eq_left hi]
    have hl := val_lt (h.take i)
    rw [List.length_take, Nat.min_eq_left hi] at hl
    rw [e, Nat.add_mul_mod_self_left, Nat.mod_eq_of_lt hl]
  · rw [List.take_of_length_le (by omega), Nat.mod_eq_of_lt]
    exact Nat.lt_of_lt_of_le (val_lt h) (Nat.pow_le_pow_right (by decide) (by omega))
theorem val_drop {l : List Nat} (h : Lim l) (i : Nat) : val (l.drop i) = val l / 4294967296 ^ i := by
  by_cases hi : i ≤ l.length
  · have e : val l = val (l.take i) + 4294967296 ^ i * val (l.drop i) := by
      conv => lhs; rw [← List.take_append_drop i l]
      rw [val_append, List.length_take, Nat.min_eq_left hi]
    have hl := val_lt (h.take i)
    rw [List.length_take, Nat.min_eq_left hi] at hl
    rw [e, Nat.add_mul_div_left _ _ (Nat.pow_pos (by decide)), Nat.div_eq_of_lt hl]; omega
  · rw [List.drop_of_length_le (by omega), Nat.div_eq_of_lt]
    · rfl
    exact Nat.lt_of_lt_of_le (val_lt h) (Nat.pow_le_pow_right (by decide) (by omega))
theorem val_getD {l : List Nat} (h : Lim l) (i : Nat) : l.getD i 0 = val l / 4294967296 ^ i % 4294967296 := by
  induction l generalizing i with
  | nil => simp [val]
  | cons x l ih =>
    have hx := h.head
    cases i with
    | zero => simp only [List.getD_cons_zero, val, Nat.pow_zero, Nat.div_one]; omega
    | succ i =>
      rw [List.getD_cons_succ, ih h.tail, val, Nat.pow_succ, Nat.mul_comm (4294967296 ^ i), ← Nat.div_div_eq_div_mul]
      congr 2
      omega
theorem val_set {l : List Nat} (i x : Nat) (hi : i < l.length) : val (l.set i x) + 4294967296 ^ i * l.getD i 0 = val l + 4294967296 ^ i * x := by
  induction l generalizing i with
  | nil => simp at hi
  | cons y l ih =>
    cases i with
    | zero => simp [val]; omega
    | succ i =>
      have := ih i (by simpa using hi)
      simp only [List.set_cons_succ, val, List.getD_cons_succ, Nat.pow_succ]
      grind

theorem limbs_zero : limbs 0 = [] := by rw [limbs]; simp
theorem limbs_pos {n : Nat} (h : n ≠ 0) : limbs n = n % 4294967296 :: limbs (n / 4294967296) := by rw [limbs]; simp [h]
theorem val_limbs (n : Nat) : val (limbs n) = n := by
  induction n using Nat.strongRecOn with
  | _ n ih =>
    by_cases h : n = 0
    · subst h; rw [limbs_zero]; rfl
    · rw [limbs_pos h, val, ih (n / 4294967296) (by omega)]; omega
theorem lim_limbs (n : Nat) : Lim (limbs n) := by
  induction n using Nat.strongRecOn with
  | _ n ih =>
    by_cases h : n = 0
    · subst h; rw [limbs_zero]; exact Lim.nil
    · rw [limbs_pos h]; exact Lim.cons (by omega) (ih _ (by omega))
/-- A row whose last limb is not 0 is the row of its own value. -/
theorem limbs_val {l : List Nat} (h : Lim l) (hl : l = [] ∨ l.getD (l.length - 1) 0 ≠ 0) : limbs (val l) = l := by
  induction l with
  | nil => exact limbs_zero
  | cons x l ih =>
    have hx := h.head
    have e1 : (x + 4294967296 * val l) % 4294967296 = x := by omega
    have e2 : (x + 4294967296 * val l) / 4294967296 = val l := by omega
    cases l with
    | nil =>
      have : x ≠ 0 := by simpa using hl
      rw [val, limbs_pos (by omega), e1, e2]; simp [val, limbs_zero]
    | cons y l =>
      have ih' := ih h.tail (.inr (by rcases hl with hl | hl; · simp at hl
                                      · simpa using hl))
      have hne : val (y :: l) ≠ 0 := by
        intro e; rw [e, limbs_zero] at ih'; simp at ih'
      rw [val, limbs_pos (by omega), e1, e2, ih']
theorem limbs_last (n : Nat) (h : n ≠ 0) : (limbs n).getD (nl n - 1) 0 ≠ 0 := by
  induction n using Nat.strongRecOn with
  | _ n ih =>
    unfold nl
    rw [limbs_pos h]
    by_cases h2 : n / 4294967296 = 0
    · rw [h2, limbs_zero]; simp; omega
    · have := ih (n / 4294967296) (by omega) h2
      unfold nl at this
      have hp : 0 < (limbs (n / 4294967296)).length := by rw [limbs_pos h2]; simp
      simp only [List.length_cons]
      rw [show (limbs (n / 4294967296)).length + 1 - 1 = ((limbs (n / 4294967296)).length - 1) + 1 by omega, List.getD_cons_succ]
      exact this
theorem limbs_inj {a b : Nat} (h : limbs a = limbs b) : a = b := by rw [← val_limbs a, h, val_limbs]
theorem limbs_getD (n i : Nat) : (limbs n).getD i 0 = n / 4294967296 ^ i % 4294967296 := by rw [val_getD (lim_limbs n), val_limbs]
theorem nl_zero : nl 0 = 0 := by simp [nl, limbs_zero]
theorem nl_lt (n : Nat) : n < 4294967296 ^ nl n := by have := val_lt (lim_limbs n); rwa [val_limbs] at this
theorem nl_le {n k : Nat} : nl n ≤ k ↔ n < 4294967296 ^ k := by
  constructor
  · intro h; exact Nat.lt_of_lt_of_le (nl_lt n) (Nat.pow_le_pow_right (by decide) h)
  · induction k generalizing n with
    | zero => intro h; obtain rfl : n = 0 := by simpa using h
              simp [nl_zero]
    | succ k ih =>
      intro h
      by_cases h0 : n = 0
      · subst h0; simp [nl_zero]
      · have := ih (n := n / 4294967296) (by rw [Nat.pow_succ] at h; omega)
        unfold nl at *
        rw [limbs_pos h0]; simp; omega
theorem lt_nl {n k : Nat} : k < nl n ↔ 4294967296 ^ k ≤ n := by
  have := @nl_le n k; omega
theorem nl_pos {n : Nat} : 0 < nl n ↔ n ≠ 0 := by rw [lt_nl]; simp; omega
theorem nl_eq_zero {n : Nat} : nl n = 0 ↔ n = 0 := by have := @nl_pos n; omega
theorem nl_mono {a b : Nat} (h : a ≤ b) : nl a ≤ nl b := nl_le.2 (Nat.lt_of_le_of_lt h (nl_lt b))
theorem nl_ge {n : Nat} (h : n ≠ 0) : 4294967296 ^ (nl n - 1) ≤ n := lt_nl.1 (by have := nl_pos.2 h; omega)
theorem nl_mul (a b : Nat) : nl (a * b) ≤ nl a + nl b := by
  rw [nl_le, Nat.pow_add]
  by_cases ha : a = 0
  · subst ha; simp only [Nat.zero_mul]; exact Nat.mul_pos (Nat.pow_pos (by decide)) (Nat.pow_pos (by decide))
  · exact Nat.mul_lt_mul'' (nl_lt a) (nl_lt b)
theorem nl_mul_ge {a b : Nat} (ha : a ≠ 0) (hb : b ≠ 0) : nl a + nl b ≤ nl (a * b) + 1 := by
  have h1 := nl_ge ha
  have h2 := nl_ge hb
  have p1 := nl_pos.2 ha
  have p2 := nl_pos.2 hb
  have : nl a - 1 + (nl b - 1) < nl (a * b) := by
    rw [lt_nl, Nat.pow_add]; exact Nat.mul_le_mul h1 h2
  omega
theorem nl_add (a b : Nat) : nl (a + b) ≤ max (nl a) (nl b) + 1 := by
  have h1 := nl_le.1 (Nat.le_max_left (nl a) (nl b))
  have h2 := nl_le.1 (Nat.le_max_right (nl a) (nl b))
  rw [nl_le, Nat.pow_succ]; omega
theorem nl_sub (a b : Nat) : nl (a - b) ≤ nl a := nl_mono (Nat.sub_le _ _)
theorem pow32 (k : Nat) : 2 ^ (32 * k) = 4294967296 ^ k := by rw [Nat.pow_mul]
theorem nl_two_pow (k : Nat) : nl (2 ^ k) = k / 32 + 1 := by
  have h1 : nl (2 ^ k) ≤ k / 32 + 1 := by
    rw [nl_le, ← pow32]; exact Nat.pow_lt_pow_right (by decide) (by omega)
  have h2 : k / 32 < nl (2 ^ k) := by
    rw [lt_nl, ← pow32]; exact Nat.pow_le_pow_right (by decide) (by omega)
  omega
theorem nl_shl (a k : Nat) : nl (a * 2 ^ k) ≤ nl a + k / 32 + 1 := by
  have := nl_mul a (2 ^ k); rw [nl_two_pow] at this; omega
theorem nl_shl32 (a k : Nat) : nl (a * 2 ^ (32 * k)) ≤ nl a + k := by
  rw [nl_le, pow32, Nat.pow_add]; exact Nat.mul_lt_mul_of_pos_right (nl_lt a) (Nat.pow_pos (by decide))
theorem nl_div (a b : Nat) : nl (a / b) ≤ nl a := nl_mono (Nat.div_le_self _ _)
theorem nl_mod_le (a b : Nat) : nl (a % b) ≤ nl a := nl_mono (Nat.mod_le _ _)
theorem nl_mod_lt (a : Nat) {b : Nat} (h : b ≠ 0) : nl (a % b) ≤ nl b := nl_mono (Nat.le_of_lt (Nat.mod_lt _ (by omega)))
theorem nl_one : nl 1 = 1 := by simpa using nl_two_pow 0
theorem nl_mod_pow (a k : Nat) : nl (a % 2 ^ (32 * k)) ≤ k := by
  rw [nl_le, ← pow32]; exact Nat.mod_lt _ (Nat.pow_pos (by decide))
theorem nl_shr32 (a k : Nat) : nl (a / 2 ^ (32 * k)) ≤ nl a - k := by
  rw [nl_le, ← pow32]
  by_cases h : k ≤ nl a
  · rw [Nat.div_lt_iff_lt_mul (Nat.pow_pos (by decide)), ← Nat.pow_add, show 32 * (nl a - k) + 32 * k = 32 * nl a by omega, pow32]; exact nl_lt a
  · rw [Nat.div_eq_of_lt]
    · exact Nat.pow_pos (by decide)
    · rw [pow32]; exact nl_le.1 (by omega)

theorem Lim.gl {l} (h : Lim l) (i : Nat) : gl l i < 4294967296 := h.getD i
theorem val_gl {l : List Nat} (h : Lim l) (i : Nat) : gl l i = val l / 4294967296 ^ i % 4294967296 := val_getD h i
theorem limbs_gl (n i : Nat) : gl (limbs n) i = n / 4294967296 ^ i % 4294967296 := limbs_getD n i
theorem val_cons (x l) : val (x :: l) = x + 4294967296 * val l := rfl
theorem take_snoc (l : List Nat) (k : Nat) (h : k < l.length) : l.take (k + 1) = l.take k ++ [gl l k] := by
  rw [List.take_succ_eq_append_getElem h, gl_get h]
theorem val_take_succ (l : List Nat) (k : Nat) (h : k < l.length) : val (l.take (k + 1)) = val (l.take k) + 4294967296 ^ k * gl l k := by
  rw [take_snoc l k h, val_snoc, List.length_take, Nat.min_eq_left (by omega)]
theorem drop_cons (l : List Nat) (k : Nat) (h : k < l.length) : l.drop k = gl l k :: l.drop (k + 1) := by
  rw [List.drop_eq_getElem_cons h, gl_get h]
theorem take_make {l : List Nat} (hL : Lim l) {k : Nat} (hk : k ≤ l.length) (h0 : ∀ i, k ≤ i → i < l.length → gl l i = 0) (h1 : k = 0 ∨ gl l (k - 1) ≠ 0) : l.take k = limbs (val l) := by
  have e : val l = val (l.take k) := by
    have h2 : ∀ m : List Nat, (∀ i, i < m.length → gl m i = 0) → val m = 0 := by
      intro m
      induction m with
      | nil => intro _; rfl
      | cons x m ih =>
        intro hm
        have := hm 0 (by simp)
        have h3 := ih (fun i hi => by have := hm (i + 1) (by simpa using hi); simpa [Go.Proofs.YtfkagknikmibjaaDoor.gl] using this)
        simp only [Go.Proofs.YtfkagknikmibjaaDoor.gl, List.getD_cons_zero] at this
        simp [val, this, h3]
    have h3 : val (l.drop k) = 0 := h2 _ (fun i hi => by
      have := h0 (k + i) (by omega) (by simp at hi; omega)
      simpa [Go.Proofs.YtfkagknikmibjaaDoor.gl, List.getD_eq_getElem?_getD] using this)
    conv => lhs; rw [← List.take_append_drop k l]
    rw [val_append, h3]; simp
  rw [e, limbs_val (hL.take k)]
  rcases h1 with rfl | h1
  · exact .inl (by simp)
  · by_cases hk0 : k = 0
    · subst hk0; exact .inl (by simp)
    · refine .inr ?_
      rw [List.length_take, Nat.min_eq_left hk]
      simpa [Go.Proofs.YtfkagknikmibjaaDoor.gl, List.getD_eq_getElem?_getD, List.getElem?_take, show k - 1 < k by omega] using h1

end Go.Proofs.YtfkagknikmibjaaDoor

/- What a slice of limbs holds, and how it lasts while memory grows. -/
set_option linter.unusedVariables false
set_option linter.unusedSimpArgs false
namespace Go.Proofs.YtfkagknikmibjaaDoor
open Go.RowKit

def vals (l : List Nat) : List Value := l.map fun n => .int .u32 (n : Nat)
theorem vals_length (l) : (vals l).length = l.length := by simp [vals]
theorem vals_append (l m) : vals (l ++ m) = vals l ++ vals m := by simp [vals]
theorem vals_one (l) : ∀ u ∈ vals l, u.oneCell' = true := fun u hu => by
  obtain ⟨_, _, rfl⟩ := List.mem_map.1 hu
  rfl
theorem vals_get (l : List Nat) (i : Nat) (hi : i < l.length) : (vals l)[i]? = some (.int .u32 (gl l i : Nat)) := by
  simp [vals, hi, gl]
/-- The cells from A on hold the values xs. -/
def RdV (w : World) (A : Option Addr) (xs : List Value) : Prop :=
  xs = [] ∨ ∃ ad, A = some ad ∧ ∀ i u, xs[i]? = some u → w.cell? (ad.add i) = some u
/-- The cells from A on hold the limbs of l. -/
def Rd (w : World) (A : Option Addr) (l : List Nat) : Prop := RdV w A (vals l)
theorem Rd.get {w A l} (h : Rd w A l) (i : Nat) (hi : i < l.length) : ∃ ad, A = some ad ∧ w.cell? (ad.add i) = some (.int .u32 (gl l i : Nat)) := by
  rcases h with h | ⟨ad, rfl, h⟩
  · have := congrArg List.length h; simp [vals] at this; simp [this] at hi
  · exact ⟨ad, rfl, h i _ (vals_get l i hi)⟩
theorem cell_below {w w1 : World} (h : Below w.heap.size w w1) {a : Addr} {v : Value} (hc : w.cell? a = some v) : w1.cell? a = some v := (h.cell (World.block_lt_of_cell? w a hc)).trans hc
theorem RdV.below {w w' A l} (h : RdV w A l) (hb : Below w.heap.size w w') : RdV w' A l := by
  rcases h with rfl | ⟨ad, rfl, h⟩
  · exact .inl rfl
  · exact .inr ⟨ad, rfl, fun i u hi => cell_below hb (h i u hi)⟩
theorem Rd.below {w w' A l} (h : Rd w A l) (hb : Below w.heap.size w w') : Rd w' A l := RdV.below h hb
theorem Rd.nil {w A} : Rd w A [] := .inl rfl
theorem Rd.cells {w ad l} (h : Rd w (some ad) l) : ∀ i u, (vals l)[i]? = some u → w.cell? (ad.add i) = some u := by
  rcases h with h | ⟨ad', e, h⟩
  · intro i u hu; rw [h] at hu; simp at hu
  · cases e; exact h
theorem ownV_rd {w : World} {base : Nat} {e : TypeId} {size n : Nat} {v : Value} {xs : List Value} (h : w.ownsRow base e size v n xs) : ∃ A c, v = .slice A n c ∧ n ≤ c ∧ c ≤ maxLen ∧ RdV w A xs := by
  rcases h.2 with ⟨rfl, rfl⟩ | ⟨g, cap, cur, rfl, _, _, h1, h2, _⟩
  · exact ⟨none, 0, rfl, Nat.le_refl _, by decide, .inl (List.eq_nil_of_length_eq_zero (by simpa using h.1))⟩
  · exact ⟨_, cap, rfl, h1, h2, .inr ⟨_, rfl, h.cells rfl⟩⟩
theorem own_base' {w : World} {base : Nat} {e : TypeId} {size n : Nat} {v : Value} {xs : List Value} (h : w.ownsRow base e size v n xs) (k : Nat) (hk : v.ownBlock = some k) : base ≤ k := by
  rcases h.2 with ⟨rfl, _⟩ | ⟨g, cap, cur, rfl, hb, _⟩
  · simp [Value.ownBlock] at hk
  · have : g = k := by simpa [Value.ownBlock] using hk
    omega
theorem _root_.Go.RowKit.Below.cons {w w1 w2 : World} (h : Below w.heap.size w w1) (k : Below w1.heap.size w1 w2) : Below w.heap.size w w2 :=
  h.trans (k.mono h.size)

theorem ieqT {a b : Int} (h : a = b) : (a == b) = true := beq_iff_eq.mpr h
theorem ieqF {a b : Int} (h : a ≠ b) : (a == b) = false := beq_eq_false_iff_ne.mpr h
theorem ineT {a b : Int} (h : a ≠ b) : (a != b) = true := bne_iff_ne.mpr h
theorem ineF {a b : Int} (h : a = b) : (a != b) = false := bne_eq_false_iff_eq.mpr h
theorem ret_int {k : IntKind} {a b : Int} (h : a = b) : Ending.returned (.int k a) = .returned (.int k b) := by rw [h]
theorem ret2_int {k k' : IntKind} {a b c d : Int} (h : a = b) (h' : c = d) : Ending.returned (.tuple #[.int k a, .int k' c]) = .returned (.tuple #[.int k b, .int k' d]) := by rw [h, h']
theorem ret_bool {a b : Bool} (h : a = b) : Ending.returned (.bool a) = .returned (.bool b) := by rw [h]
theorem at_new {W : World} {o : Obj} {k : Nat} (h : k = W.heap.size) : (W.alloc o).heap[k]? = some o := by subst h; exact heap_alloc_new W o
theorem at_old {W : World} {o : Obj} {k : Nat} {x : Option Obj} (h : k < W.heap.size) (hx : W.heap[k]? = x) : (W.alloc o).heap[k]? = x := by rw [← hx]; exact Below.heap_alloc W o k h
theorem max2_i (k k' : IntKind) (x y : Int) : Builtin.max2 (.int k x) (.int k' y) = pure (.int k (max x y)) := by
  simp only [Builtin.max2, gt_iff_lt, Int.max_def]
  congr 2
  split <;> split <;> omega
theorem min2_i (k k' : IntKind) (x y : Int) : Builtin.min2 (.int k x) (.int k' y) = pure (.int k (min x y)) := by
  simp only [Builtin.min2, Int.min_def]
  congr 2
  split <;> split <;> omega
theorem max_two (ats : Array TypeId) (ty : TypeId) (a b : Value) : Builtin.max_ ats ty #[a, b] = (Builtin.max2 a b >>= fun s => pure s) := by simp only [Builtin.max_, List.foldlM_cons, List.foldlM_nil]
theorem min_two (ats : Array TypeId) (ty : TypeId) (a b : Value) : Builtin.min_ ats ty #[a, b] = (Builtin.min2 a b >>= fun s => pure s) := by simp only [Builtin.min_, List.foldlM_cons, List.foldlM_nil]
theorem info_u32 : (Tryd.prog.info? 23).map (fun i => (i.zero, i.size, i.bytes)) = some (some (.int .u32 0), 1, 4) := by kernel_rfl
theorem info_u64 : (Tryd.prog.info? 51).map (fun i => (i.zero, i.size, i.bytes)) = some (some (.int .u64 0), 1, 8) := by kernel_rfl

theorem mk32 (l c : Int) (h0 : 0 ≤ l) (h : l ≤ c) (hc : c ≤ 35184372088832) : ∀ W : World, (Instr.makeSlice 22 (.int .i64 l) (.int .i64 c)).run Tryd.prog W =
    .ok (.slice (some ⟨W.heap.size, 0, none⟩) l.toNat c.toNat) (W.alloc (.cells (madeCells #[.int .u32 0] c.toNat) 23)) := fun W => by
  obtain ⟨i0, hi, hz0, hz1, hz2⟩ := info_parts info_u32
  have := run_make (P := Tryd.prog) W 22 23 i0 _ Tryd.underlying22 hi hz0 .i64 .i64 l c h0 h (by rw [hz2]; omega) (by omega)
  rw [hz1, Nat.mul_one] at this
  exact this
theorem ownsMade32 (W : World) (base c : Nat) (hb : base ≤ W.heap.size) (hc : c ≤ 35184372088832) :
    (W.alloc (.cells (madeCells #[.int .u32 0] c) 23)).ownsRow base 23 1 (.slice (some ⟨W.heap.size, 0, none⟩) c c) c (vals (List.replicate c 0)) := by
  have h2 := World.ownsRow_lit (e := 23) (size := 1) (base := base) W (madeCells #[.int .u32 0] c) c hb (by simp only [maxLen]; omega) (by rw [size_madeCells, Nat.mul_one])
  rw [toList_madeCells_one] at h2
  rw [show vals (List.replicate c 0) = List.replicate c (Value.int .u32 0) by simp [vals]]
  exact h2

end Go.Proofs.YtfkagknikmibjaaDoor

/- The layer of naturals, first part: Clone, Make, at. -/
set_option linter.unusedVariables false
set_option linter.unusedSimpArgs false
namespace Go.Proofs.YtfkagknikmibjaaDoor
open Go.RowKit

/-- A slice that holds the limbs of a natural. -/
structure NatV (w : World) (A : Option Addr) (c n : Nat) : Prop where
  rd : Rd w A (limbs n)
  cap : nl n ≤ c
  cmax : c ≤ maxLen
theorem NatV.below {w w' A c n} (h : NatV w A c n) (hb : Below w.heap.size w w') : NatV w' A c n := ⟨h.rd.below hb, h.cap, h.cmax⟩
/-- What a call that makes a natural leaves. -/
def RetN (w : World) (n : Nat) (e : Ending) (w' : World) : Prop := ∃ A c, e = .returned (.slice A (nl n) c) ∧ NatV w' A c n ∧ Below w.heap.size w w'

set_option maxRecDepth 100000 in
set_option maxHeartbeats 400000 in
theorem clone_c (A : Option Addr) (n c : Nat) (l : List Nat) (w : World) (hn : l.length = n) (h : Rd w A l) (hl : n ≤ 1099511627776) :
  Calls Tryd.prog 59 #[.slice A n c] w fun e w' => ∃ B d, e = .returned (.slice B n d) ∧ n ≤ d ∧ d ≤ maxLen ∧ Rd w' B l ∧ Below w.heap.size w w' := by
  subst hn
  have hnil := fun (a : Option Addr) (n : Nat) (w : World) => Lib.run_eql_slice_nil (P := Tryd.prog) w 22 23 a n c 0 0 Tryd.underlying22
  obtain ⟨i0, hi, hz0, hz1, hz2⟩ := info_parts info_u32
  cases A with
  | none =>
    have hl0 : l = [] := by
      rcases h with h | ⟨ad, e, _⟩
      · exact List.map_eq_nil_iff.1 h
      · cases e
    subst hl0
    go_enter Tryd.func59, Tryd.ntmps59
    go_wp2
    go_ret
    exact ⟨none, 0, rfl, by simp, by decide, .inl rfl, Below.refl _ _⟩
  | some ad =>
    go_enter Tryd.func59, Tryd.ntmps59
    have hb1 : Below w.heap.size w (w.alloc (.cells #[] 23)) := (Below.refl _ _).alloc (Nat.le_refl _) _
    go_wp2_with (at_builtin; refine wpList_append_own_at _ rfl _ _ 22 rfl w.heap.size 23 i0 (.int .u32 0) 1 4 Tryd.underlying22 hi hz0 hz1 hz2 rfl (by decide) _ 0 [] rfl (World.ownsRow_lit w #[] 0 (Nat.le_refl _) (by decide) rfl) ad l.length c (vals l) rfl (by simp [vals]) (h.below hb1).cells (vals_one l) (by simp only [maxLen]; omega) (by omega) (by simp) ?_)
    intro v' w1 hown hg _ _
    (try simp only [Nat.zero_add, List.nil_append] at hown)
    obtain ⟨B, d, rfl, h1, h2, h3⟩ := ownV_rd hown
    have hb2 : Below w.heap.size w w1 := hb1.grown hg (by simp) (fun k hk => by simp [Value.ownBlock] at hk; omega)
    clear hg
    go_wp2
    go_ret
    exact ⟨B, d, rfl, h1, h2, h3, hb2⟩

set_option maxRecDepth 100000 in
set_option maxHeartbeats 400000 in
theorem make_c (A : Option Addr) (n c : Nat) (l : List Nat) (w : World) (hn : l.length = n) (h : Rd w A l) (hL : Lim l) (hl : n ≤ 1099511627776) (hc : n ≤ c) :
    Calls Tryd.prog 36 #[.slice A n c] w (RetN w (val l)) := by
  subst hn
  have fin : ∀ k, k ≤ l.length → (∀ i, k ≤ i → i < l.length → gl l i = 0) → (k = 0 ∨ gl l (k - 1) ≠ 0) → Calls Tryd.prog 59 #[.slice A k c] w (RetN w (val l)) := fun k hk h0 h1 => by
    have e := take_make hL hk h0 h1
    have e2 : k = nl (val l) := by unfold nl; rw [← e, List.length_take, Nat.min_eq_left hk]
    refine (clone_c A k c (l.take k) w (by simp [hk]) ?_ (by omega)).mono ?_
    · rcases h with h | ⟨ad, rfl, h⟩
      · exact .inl (by simp [vals] at h ⊢; simp [h])
      · refine .inr ⟨ad, rfl, fun i u hu => h i u ?_⟩
        simp only [vals, List.map_take] at hu ⊢
        by_cases hik : i < k
        · rwa [List.getElem?_take_of_lt hik] at hu
        · rw [List.getElem?_take_eq_none (by omega)] at hu; cases hu
    · rintro e' w' ⟨B, d, rfl, h1, h2, h3, h4⟩
      exact ⟨B, d, by rw [← e2], ⟨by rw [← e]; exact h3, by omega, h2⟩, h4⟩
  go_enter Tryd.func36, Tryd.ntmps36
  go_wp2_with (fail)
  go_loop [3] (fun v => ∃ k : Nat, v = .int .i64 k ∧ k ≤ l.length ∧ ∀ i, k ≤ i → i < l.length → gl l i = 0) (fun v => (intOf v).toNat)
  case atStart => exact ⟨l.length, rfl, Nat.le_refl _, fun i h1 h2 => by omega⟩
  case round =>
    obtain ⟨k, rfl, hk, h0⟩ := hrel
    have H0 := Lib.hid h0
    have FIN := Lib.hid fin
    clear h0 fin
    cases k with
    | zero =>
      go_wp2_with (fail)
      refine (FIN.out 0 (by omega) H0.out (.inl rfl)).mono ?_
      rintro e w1 ⟨B, d, rfl, h1, h2⟩
      go_wp2_with (fail)
      go_ret
      exact ⟨B, d, rfl, h1, h2⟩
    | succ k =>
      obtain ⟨ad, rfl, hcell⟩ := h.get k (by omega)
      by_cases hz : gl l k = 0
      · have hb : ((gl l k : Int) == 0) = true := ieqT (by omega)
        have HZ := Lib.hid hz
        clear hz
        go_wp2_with (fail)
        go_round
        case rel => exact ⟨k, by go_num, by omega, fun i h1 h2 => by
          by_cases e : i = k
          · rw [e]; exact HZ.out
          · exact H0.out i (by omega) h2⟩
        case measure => simp [intOf] <;> omega
      · have hb : ((gl l k : Int) == 0) = false := ieqF (by omega)
        go_wp2_with (fail)
        refine (FIN.out (k + 1) (by omega) H0.out (.inr hz)).mono ?_
        rintro e w1 ⟨B, d, rfl, h1, h2⟩
        go_wp2_with (fail)
        go_ret
        exact ⟨B, d, rfl, h1, h2⟩
end Go.Proofs.YtfkagknikmibjaaDoor

/- math/bits: Add32, Sub32. -/
set_option linter.unusedVariables false
set_option linter.unusedSimpArgs false
namespace Go.Proofs.YtfkagknikmibjaaDoor
open Go.RowKit

/-- What is borrowed. -/
def brw (x y b : Nat) : Nat := if x < y + b then 1 else 0
def dif (x y b : Nat) : Nat := (x + (4294967296 - y - b)) % 4294967296
theorem dif_lt (x y b : Nat) : dif x y b < 4294967296 := Nat.mod_lt _ (by decide)
theorem brw_le (x y b : Nat) : brw x y b ≤ 1 := by unfold brw; split <;> omega
theorem dif_eq {x y b : Nat} (hx : x < 4294967296) (hy : y < 4294967296) (hb : b ≤ 1) : x + 4294967296 * brw x y b = dif x y b + y + b := by
  unfold dif brw
  split <;> omega
theorem top_bit {n : Nat} (h : n < 4294967296) : n / 2147483648 = (n.testBit 31).toNat := by
  rw [Nat.toNat_testBit]
  omega
theorem tb31 {n : Nat} (h : n < 4294967296) : n.testBit 31 = decide (2147483648 ≤ n) := by
  have := top_bit h
  cases e : n.testBit 31 <;> rw [e] at this <;> simp at this ⊢ <;> omega
theorem brw_bits (x y b : Nat) (hx : x < 4294967296) (hy : y < 4294967296) (hb : b ≤ 1) :
    (((4294967295 ^^^ x) &&& y) ||| ((4294967295 ^^^ (x ^^^ y)) &&& dif x y b)) / 2147483648 = brw x y b := by
  have hd := dif_lt x y b
  have l1 : (4294967295 ^^^ x) &&& y < 4294967296 := Nat.and_lt_two_pow (n := 32) _ hy
  have l2 : (4294967295 ^^^ (x ^^^ y)) &&& dif x y b < 4294967296 := Nat.and_lt_two_pow (n := 32) _ hd
  have e1 : Nat.testBit 4294967295 31 = true := by decide
  rw [top_bit (Nat.or_lt_two_pow (n := 32) l1 l2), Nat.testBit_or, Nat.testBit_and, Nat.testBit_and, Nat.testBit_xor, Nat.testBit_xor, Nat.testBit_xor, e1, tb31 hx, tb31 hy, tb31 hd]
  have e := dif_eq hx hy hb
  have hbw := brw_le x y b
  by_cases h1 : 2147483648 ≤ x <;> by_cases h2 : 2147483648 ≤ y <;> by_cases h3 : 2147483648 ≤ dif x y b <;> simp [h1, h2, h3] <;> omega
theorem brw_int (x y b : Nat) (d : Int) (hd : d = ((dif x y b : Nat) : Int)) (hx : x < 4294967296) (hy : y < 4294967296) (hb : b ≤ 1) :
    bits .or .u32 (bits .and .u32 (bits .xor .u32 IntKind.u32.max (x : Int)) (y : Int)) (bits .and .u32 (bits .xor .u32 IntKind.u32.max (bits .xor .u32 (x : Int) (y : Int))) d) / 2147483648 = (brw x y b : Int) := by
  have hm : IntKind.u32.max = ((4294967295 : Nat) : Int) := by decide
  have hdl := dif_lt x y b
  have a1 : 4294967295 ^^^ x < 4294967296 := Nat.xor_lt_two_pow (n := 32) (by decide) hx
  have a2 : x ^^^ y < 4294967296 := Nat.xor_lt_two_pow (n := 32) hx hy
  have a3 : 4294967295 ^^^ (x ^^^ y) < 4294967296 := Nat.xor_lt_two_pow (n := 32) (by decide) a2
  have a4 : (4294967295 ^^^ x) &&& y < 4294967296 := Nat.and_lt_two_pow (n := 32) _ hy
  have a5 : (4294967295 ^^^ (x ^^^ y)) &&& dif x y b < 4294967296 := Nat.and_lt_two_pow (n := 32) _ hdl
  rw [hm, hd, u32_xor_nat _ _ (by decide) hx, u32_xor_nat _ _ hx hy, u32_xor_nat _ _ (by decide) a2, u32_and_nat _ _ a1 hy, u32_and_nat _ _ a3 hdl, u32_or_nat _ _ a4 a5, ← brw_bits x y b hx hy hb]
  simp

set_option maxRecDepth 100000 in
set_option maxHeartbeats 400000 in
theorem sub32_c (x y b : Nat) (w : World) (hx : x < 4294967296) (hy : y < 4294967296) (hb : b ≤ 1) :
    Calls Tryd.prog 61 #[.int .u32 x, .int .u32 y, .int .u32 b] w fun e w' => e = .returned (.tuple #[.int .u32 (dif x y b : Nat), .int .u32 (brw x y b : Nat)]) ∧ w = w' := by
  have HD := Lib.hid (show ((((x : Int) - y) % 4294967296 - b) % 4294967296) = ((dif x y b : Nat) : Int) by unfold dif; omega)
  have HB := Lib.hid (brw_int x y b _ (show (((x : Int) - y - b) % 4294967296) = ((dif x y b : Nat) : Int) by unfold dif; omega) hx hy hb)
  have hs : IntKind.u32.signed = false := rfl
  go_enter Tryd.func61, Tryd.ntmps61
  go_wp2
  go_ret2
  exact ⟨ret2_int HD.out HB.out, rfl⟩
theorem add32_c (x y b : Nat) (w : World) (hx : x < 4294967296) (hy : y < 4294967296) (hb : b ≤ 1) :
    Calls Tryd.prog 62 #[.int .u32 x, .int .u32 y, .int .u32 b] w fun e w' => e = .returned (.tuple #[.int .u32 ((x + y + b) % 4294967296 : Nat), .int .u32 ((x + y + b) / 4294967296 : Nat)]) ∧ w = w' := by
  go_enter Tryd.func62, Tryd.ntmps62
  go_wp2
  go_ret2
  exact ⟨by simp, rfl⟩
end Go.Proofs.YtfkagknikmibjaaDoor
