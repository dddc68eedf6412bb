/- What a region that draws its order has made so far: numbers in slots, variables in memory. -/
import Derived.Test.YtacjfpibilolnaaGreatDoorSC30
set_option maxRecDepth 100000
set_option maxHeartbeats 4000000
set_option linter.unusedVariables false
set_option linter.unusedSimpArgs false
namespace Go.Proofs.YtacjfpibilolnaaGreatDoor
open Go.RowKit Go.Shelf

theorem keepP {D : Nat → Bool} {i k : Nat} {p q : Prop} (hne : k ≠ i) (h : D k = true → p) (hpq : p → q) : (if k = i then true else D k) = true → q := by rw [if_neg hne]; exact fun e => hpq (h e)
theorem keepP' {D : Nat → Bool} {i k : Nat} {p q : Prop} (hne : k ≠ i) (h : D k = true → p) (hpq : D k = true → p → q) : (if k = i then true else D k) = true → q := by rw [if_neg hne]; exact fun e => hpq e (h e)
def PI (u : Value) (z : Int) (W : World) : Prop := ∃ X c, u = .agg #[.bool (sg z), .slice X (nl (mg z)) c] ∧ NatV W X c (mg z)
def PR (u : Value) (q : Rat) (W : World) : Prop := ∃ X c Y d, u = .agg #[.bool (sg q.num), .slice X (nl (mg q.num)) c, .slice Y (nl q.den) d] ∧ NatV W X c (mg q.num) ∧ NatV W Y d q.den
def PRt (u : Value) (q : Rat) (W : World) : Prop := ∃ X c Y d, u = .tuple #[.agg #[.bool (sg q.num), .slice X (nl (mg q.num)) c, .slice Y (nl q.den) d], .int .i64 0] ∧ NatV W X c (mg q.num) ∧ NatV W Y d q.den
/-- A variable that the region has made; one that it has written. -/
def PB3 (t : TypeId) (n0 : Nat) (u : Value) (W : World) : Prop := ∃ nb u0 u1 u2, u = .pointer (some ⟨nb, 0, none⟩) ∧ n0 ≤ nb ∧ BoxA W nb t #[u0, u1, u2] ∧ NotU u0 ∧ NotU u1 ∧ NotU u2
def PB2 (t : TypeId) (n0 : Nat) (u : Value) (W : World) : Prop := ∃ nb u0 u1, u = .pointer (some ⟨nb, 0, none⟩) ∧ n0 ≤ nb ∧ BoxA W nb t #[u0, u1] ∧ NotU u0 ∧ NotU u1
theorem notU3 {u0 u1 u2 : Value} (h0 : NotU u0) (h1 : NotU u1) (h2 : NotU u2) : ∀ x ∈ (#[u0, u1, u2] : Array Value).toList, NotU x := by
  intro x hx; simp at hx; rcases hx with rfl | rfl | rfl <;> assumption
theorem notU2 {u0 u1 : Value} (h0 : NotU u0) (h1 : NotU u1) : ∀ x ∈ (#[u0, u1] : Array Value).toList, NotU x := by
  intro x hx; simp at hx; rcases hx with rfl | rfl <;> assumption
def PBI (n0 : Nat) (u : Value) (z : Int) (W : World) : Prop := ∃ nb X c, u = .pointer (some ⟨nb, 0, none⟩) ∧ n0 ≤ nb ∧ BoxA W nb 24 #[.bool (sg z), .slice X (nl (mg z)) c] ∧ NatV W X c (mg z)
def PBR (n0 : Nat) (u : Value) (q : Rat) (W : World) : Prop := ∃ nb X c Y d, u = .pointer (some ⟨nb, 0, none⟩) ∧ n0 ≤ nb ∧ BoxA W nb 26 #[.bool (sg q.num), .slice X (nl (mg q.num)) c, .slice Y (nl q.den) d] ∧ NatV W X c (mg q.num) ∧ NatV W Y d q.den
section
variable {W W' : World} {u : Value} {z : Int} {q : Rat} {t : TypeId} {n0 : Nat}
theorem PI.below (h : PI u z W) (hb : Below W.heap.size W W') : PI u z W' := by
  obtain ⟨X, c, h1, h2⟩ := h; exact ⟨X, c, h1, h2.below hb⟩
theorem PR.below (h : PR u q W) (hb : Below W.heap.size W W') : PR u q W' := by
  obtain ⟨X, c, Y, d, h1, h2, h3⟩ := h; exact ⟨X, c, Y, d, h1, h2.below hb, h3.below hb⟩
theorem PRt.below (h : PRt u q W) (hb : Below W.heap.size W W') : PRt u q W' := by
  obtain ⟨X, c, Y, d, h1, h2, h3⟩ := h; exact ⟨X, c, Y, d, h1, h2.below hb, h3.below hb⟩
theorem PB3.below (h : PB3 t n0 u W) (hb : Below W.heap.size W W') : PB3 t n0 u W' := by
  obtain ⟨nb, u0, u1, u2, h1, h2, h3, h4⟩ := h; exact ⟨nb, u0, u1, u2, h1, h2, h3.below hb, h4⟩
theorem PB2.below (h : PB2 t n0 u W) (hb : Below W.heap.size W W') : PB2 t n0 u W' := by
  obtain ⟨nb, u0, u1, h1, h2, h3, h4⟩ := h; exact ⟨nb, u0, u1, h1, h2, h3.below hb, h4⟩
theorem PB3.lt (h : PB3 t n0 u W) : ∃ nb, u = .pointer (some ⟨nb, 0, none⟩) ∧ nb < W.heap.size := by
  obtain ⟨nb, u0, u1, u2, h1, h2, h3, h4⟩ := h; exact ⟨nb, h1, h3.lt⟩
theorem PB2.lt (h : PB2 t n0 u W) : ∃ nb, u = .pointer (some ⟨nb, 0, none⟩) ∧ nb < W.heap.size := by
  obtain ⟨nb, u0, u1, h1, h2, h3, h4⟩ := h; exact ⟨nb, h1, h3.lt⟩
theorem PBI.below (h : PBI n0 u z W) (hb : Below W.heap.size W W') : PBI n0 u z W' := by
  obtain ⟨nb, X, c, h1, h2, h3, h4⟩ := h; exact ⟨nb, X, c, h1, h2, h3.below hb, h4.below hb⟩
theorem PBR.below (h : PBR n0 u q W) (hb : Below W.heap.size W W') : PBR n0 u q W' := by
  obtain ⟨nb, X, c, Y, d, h1, h2, h3, h4, h5⟩ := h; exact ⟨nb, X, c, Y, d, h1, h2, h3.below hb, h4.below hb, h5.below hb⟩
/-- What a store into a variable without limbs leaves as it was. -/
structure Put (W W' : World) (k : Nat) : Prop where
  nat : ∀ {A : Option Addr} {c n : Nat}, NatV W A c n → NatV W' A c n
  far : ∀ j, j ≠ k → W'.heap[j]? = W.heap[j]?
theorem BoxA.put3 {u0 u1 u2 : Value} {k : Nat} (h : BoxA W k t #[u0, u1, u2]) (hu : ∀ x ∈ (#[u0, u1, u2] : Array Value).toList, NotU x) (v0 v1 v2 : Value) : Put W (((W.setCell ⟨k, 0, none⟩ v0).setCell ⟨k, 1, none⟩ v1).setCell ⟨k, 2, none⟩ v2) k := ⟨fun hN => h.keep3 hu hN, fun j hj => set3_far j hj⟩
theorem BoxA.put2 {u0 u1 : Value} {k : Nat} (h : BoxA W k t #[u0, u1]) (hu : ∀ x ∈ (#[u0, u1] : Array Value).toList, NotU x) (v0 v1 : Value) : Put W ((W.setCell ⟨k, 0, none⟩ v0).setCell ⟨k, 1, none⟩ v1) k := ⟨fun hN => h.keep2 hu hN, fun j hj => set2_far j hj⟩
theorem PI.put {k : Nat} (h : PI u z W) (hp : Put W W' k) : PI u z W' := by
  obtain ⟨X, c, h1, h2⟩ := h; exact ⟨X, c, h1, hp.nat h2⟩
theorem PR.put {k : Nat} (h : PR u q W) (hp : Put W W' k) : PR u q W' := by
  obtain ⟨X, c, Y, d, h1, h2, h3⟩ := h; exact ⟨X, c, Y, d, h1, hp.nat h2, hp.nat h3⟩
theorem PRt.put {k : Nat} (h : PRt u q W) (hp : Put W W' k) : PRt u q W' := by
  obtain ⟨X, c, Y, d, h1, h2, h3⟩ := h; exact ⟨X, c, Y, d, h1, hp.nat h2, hp.nat h3⟩
theorem PB3.put {k : Nat} (h : PB3 t n0 u W) (hp : Put W W' k) (hne : u ≠ .pointer (some ⟨k, 0, none⟩)) : PB3 t n0 u W' := by
  obtain ⟨nb, u0, u1, u2, h1, h2, h3, h4⟩ := h
  exact ⟨nb, u0, u1, u2, h1, h2, ⟨(hp.far nb (fun e => hne (by rw [h1, e]))).trans h3.at_⟩, h4⟩
theorem PB2.put {k : Nat} (h : PB2 t n0 u W) (hp : Put W W' k) (hne : u ≠ .pointer (some ⟨k, 0, none⟩)) : PB2 t n0 u W' := by
  obtain ⟨nb, u0, u1, h1, h2, h3, h4⟩ := h
  exact ⟨nb, u0, u1, h1, h2, ⟨(hp.far nb (fun e => hne (by rw [h1, e]))).trans h3.at_⟩, h4⟩
theorem PBI.put {k : Nat} (h : PBI n0 u z W) (hp : Put W W' k) (hne : u ≠ .pointer (some ⟨k, 0, none⟩)) : PBI n0 u z W' := by
  obtain ⟨nb, X, c, h1, h2, h3, h4⟩ := h
  exact ⟨nb, X, c, h1, h2, ⟨(hp.far nb (fun e => hne (by rw [h1, e]))).trans h3.at_⟩, hp.nat h4⟩
end
end Go.Proofs.YtacjfpibilolnaaGreatDoor
