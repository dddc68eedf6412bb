/- What a slice of limbs holds, and how it lasts while memory grows. -/
import Derived.Test.YtmcekbmmpdpbmaaDoorNum
import Derived.Test.YtmcekbmmpdpbmaaDoorProg
import Derived.WalkKit
import Derived.BigQuiet
import Derived.Deep.QuietTactic
import Derived.Maps.AppendAt
import Derived.Deep.AppendLies
import Derived.WalkSpells
import Derived.DataElems
import Derived.Lib.Hide
set_option linter.unusedVariables false
set_option linter.unusedSimpArgs false
namespace Go.Proofs.YtmcekbmmpdpbmaaDoor
open Go.RowKit

def vals (l : List Nat) : List Value := l.map fun n => .int .u32 (n : Nat)
theorem vals_length (l) : (vals l).length = l.length := by simp [vals]
theorem vals_append (l m) : vals (l ++ m) = vals l ++ vals m := by simp [vals]
theorem vals_one (l) : ∀ u ∈ vals l, u.oneCell' = true := fun u hu => by
  obtain ⟨_, _, rfl⟩ := List.mem_map.1 hu
  rfl
theorem vals_get (l : List Nat) (i : Nat) (hi : i < l.length) : (vals l)[i]? = some (.int .u32 (gl l i : Nat)) := by
  simp [vals, hi, gl]
/-- The cells from A on hold the values xs. -/
def RdV (w : World) (A : Option Addr) (xs : List Value) : Prop :=
  xs = [] ∨ ∃ ad, A = some ad ∧ ∀ i u, xs[i]? = some u → w.cell? (ad.add i) = some u
/-- The cells from A on hold the limbs of l. -/
def Rd (w : World) (A : Option Addr) (l : List Nat) : Prop := RdV w A (vals l)
theorem Rd.get {w A l} (h : Rd w A l) (i : Nat) (hi : i < l.length) : ∃ ad, A = some ad ∧ w.cell? (ad.add i) = some (.int .u32 (gl l i : Nat)) := by
  rcases h with h | ⟨ad, rfl, h⟩
  · have := congrArg List.length h; simp [vals] at this; simp [this] at hi
  · exact ⟨ad, rfl, h i _ (vals_get l i hi)⟩
theorem cell_below {w w1 : World} (h : Below w.heap.size w w1) {a : Addr} {v : Value} (hc : w.cell? a = some v) : w1.cell? a = some v := (h.cell (World.block_lt_of_cell? w a hc)).trans hc
theorem RdV.below {w w' A l} (h : RdV w A l) (hb : Below w.heap.size w w') : RdV w' A l := by
  rcases h with rfl | ⟨ad, rfl, h⟩
  · exact .inl rfl
  · exact .inr ⟨ad, rfl, fun i u hi => cell_below hb (h i u hi)⟩
theorem Rd.below {w w' A l} (h : Rd w A l) (hb : Below w.heap.size w w') : Rd w' A l := RdV.below h hb
theorem Rd.nil {w A} : Rd w A [] := .inl rfl
theorem Rd.cells {w ad l} (h : Rd w (some ad) l) : ∀ i u, (vals l)[i]? = some u → w.cell? (ad.add i) = some u := by
  rcases h with h | ⟨ad', e, h⟩
  · intro i u hu; rw [h] at hu; simp at hu
  · cases e; exact h
theorem ownV_rd {w : World} {base : Nat} {e : TypeId} {size n : Nat} {v : Value} {xs : List Value} (h : w.ownsRow base e size v n xs) : ∃ A c, v = .slice A n c ∧ n ≤ c ∧ c ≤ maxLen ∧ RdV w A xs := by
  rcases h.2 with ⟨rfl, rfl⟩ | ⟨g, cap, cur, rfl, _, _, h1, h2, _⟩
  · exact ⟨none, 0, rfl, Nat.le_refl _, by decide, .inl (List.eq_nil_of_length_eq_zero (by simpa using h.1))⟩
  · exact ⟨_, cap, rfl, h1, h2, .inr ⟨_, rfl, h.cells rfl⟩⟩
theorem own_base' {w : World} {base : Nat} {e : TypeId} {size n : Nat} {v : Value} {xs : List Value} (h : w.ownsRow base e size v n xs) (k : Nat) (hk : v.ownBlock = some k) : base ≤ k := by
  rcases h.2 with ⟨rfl, _⟩ | ⟨g, cap, cur, rfl, hb, _⟩
  · simp [Value.ownBlock] at hk
  · have : g = k := by simpa [Value.ownBlock] using hk
    omega
theorem _root_.Go.RowKit.Below.cons {w w1 w2 : World} (h : Below w.heap.size w w1) (k : Below w1.heap.size w1 w2) : Below w.heap.size w w2 :=
  h.trans (k.mono h.size)

theorem ieqT {a b : Int} (h : a = b) : (a == b) = true := beq_iff_eq.mpr h
theorem ieqF {a b : Int} (h : a ≠ b) : (a == b) = false := beq_eq_false_iff_ne.mpr h
theorem ineT {a b : Int} (h : a ≠ b) : (a != b) = true := bne_iff_ne.mpr h
theorem ineF {a b : Int} (h : a = b) : (a != b) = false := bne_eq_false_iff_eq.mpr h
theorem ret_int {k : IntKind} {a b : Int} (h : a = b) : Ending.returned (.int k a) = .returned (.int k b) := by rw [h]
theorem ret2_int {k k' : IntKind} {a b c d : Int} (h : a = b) (h' : c = d) : Ending.returned (.tuple #[.int k a, .int k' c]) = .returned (.tuple #[.int k b, .int k' d]) := by rw [h, h']
theorem ret_bool {a b : Bool} (h : a = b) : Ending.returned (.bool a) = .returned (.bool b) := by rw [h]
theorem at_new {W : World} {o : Obj} {k : Nat} (h : k = W.heap.size) : (W.alloc o).heap[k]? = some o := by subst h; exact heap_alloc_new W o
theorem at_old {W : World} {o : Obj} {k : Nat} {x : Option Obj} (h : k < W.heap.size) (hx : W.heap[k]? = x) : (W.alloc o).heap[k]? = x := by rw [← hx]; exact Below.heap_alloc W o k h
theorem max2_i (k k' : IntKind) (x y : Int) : Builtin.max2 (.int k x) (.int k' y) = pure (.int k (max x y)) := by
  simp only [Builtin.max2, gt_iff_lt, Int.max_def]
  congr 2
  split <;> split <;> omega
theorem min2_i (k k' : IntKind) (x y : Int) : Builtin.min2 (.int k x) (.int k' y) = pure (.int k (min x y)) := by
  simp only [Builtin.min2, Int.min_def]
  congr 2
  split <;> split <;> omega
theorem max_two (ats : Array TypeId) (ty : TypeId) (a b : Value) : Builtin.max_ ats ty #[a, b] = (Builtin.max2 a b >>= fun s => pure s) := by simp only [Builtin.max_, List.foldlM_cons, List.foldlM_nil]
theorem min_two (ats : Array TypeId) (ty : TypeId) (a b : Value) : Builtin.min_ ats ty #[a, b] = (Builtin.min2 a b >>= fun s => pure s) := by simp only [Builtin.min_, List.foldlM_cons, List.foldlM_nil]
theorem info_u32 : (Tryd.prog.info? 35).map (fun i => (i.zero, i.size, i.bytes)) = some (some (.int .u32 0), 1, 4) := by kernel_rfl
theorem info_u64 : (Tryd.prog.info? 36).map (fun i => (i.zero, i.size, i.bytes)) = some (some (.int .u64 0), 1, 8) := by kernel_rfl

theorem mk32 (l c : Int) (h0 : 0 ≤ l) (h : l ≤ c) (hc : c ≤ 35184372088832) : ∀ W : World, (Instr.makeSlice 22 (.int .i64 l) (.int .i64 c)).run Tryd.prog W =
    .ok (.slice (some ⟨W.heap.size, 0, none⟩) l.toNat c.toNat) (W.alloc (.cells (madeCells #[.int .u32 0] c.toNat) 35)) := fun W => by
  obtain ⟨i0, hi, hz0, hz1, hz2⟩ := info_parts info_u32
  have := run_make (P := Tryd.prog) W 22 35 i0 _ Tryd.underlying22 hi hz0 .i64 .i64 l c h0 h (by rw [hz2]; omega) (by omega)
  rw [hz1, Nat.mul_one] at this
  exact this
theorem ownsMade32 (W : World) (base c : Nat) (hb : base ≤ W.heap.size) (hc : c ≤ 35184372088832) :
    (W.alloc (.cells (madeCells #[.int .u32 0] c) 35)).ownsRow base 35 1 (.slice (some ⟨W.heap.size, 0, none⟩) c c) c (vals (List.replicate c 0)) := by
  have h2 := World.ownsRow_lit (e := 35) (size := 1) (base := base) W (madeCells #[.int .u32 0] c) c hb (by simp only [maxLen]; omega) (by rw [size_madeCells, Nat.mul_one])
  rw [toList_madeCells_one] at h2
  rw [show vals (List.replicate c 0) = List.replicate c (Value.int .u32 0) by simp [vals]]
  exact h2

end Go.Proofs.YtmcekbmmpdpbmaaDoor
