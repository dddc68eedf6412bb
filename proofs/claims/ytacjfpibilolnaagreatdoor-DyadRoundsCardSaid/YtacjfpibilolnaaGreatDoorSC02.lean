/- What a slice of limbs holds, and how it lasts while memory grows. -/
import Derived.Test.YtacjfpibilolnaaGreatDoorSC01
import Derived.Test.YtacjfpibilolnaaGreatDoorProg
import Derived.WalkKit
import Derived.BigQuiet
import Derived.Deep.QuietTactic
import Derived.Maps.AppendAt
import Derived.Deep.AppendLies
import Derived.WalkSpells
import Derived.DataElems
import Derived.Lib.Hide
import Derived.RangeFuncBox
import Derived.RangeFuncLeaves
import Derived.RangeFuncFrom
import Derived.Shelf.Abstract
import Derived.OwnWalkIn
import Derived.TacticsInMore
import Derived.LoopNIn
import Derived.LoopIn
import Derived.Stop.RegionWithIn
set_option maxRecDepth 100000
set_option maxHeartbeats 4000000
set_option linter.unusedVariables false
set_option linter.unusedSimpArgs false
namespace Go.Proofs.YtacjfpibilolnaaGreatDoor
open Go.RowKit

def vals (l : List Nat) : List Value := l.map fun n => .int .u32 (n : Nat)
theorem vals_length (l) : (vals l).length = l.length := by simp [vals]
theorem vals_append (l m) : vals (l ++ m) = vals l ++ vals m := by simp [vals]
theorem vals_one (l) : ∀ u ∈ vals l, u.oneCell' = true := fun u hu => by
  obtain ⟨_, _, rfl⟩ := List.mem_map.1 hu
  rfl
theorem vals_get (l : List Nat) (i : Nat) (hi : i < l.length) : (vals l)[i]? = some (.int .u32 (gl l i : Nat)) := by
  simp [vals, hi, gl]
/-- The cells from A on hold the values xs. -/
def RdV (w : World) (A : Option Addr) (xs : List Value) : Prop :=
  xs = [] ∨ ∃ ad, A = some ad ∧ ∀ i u, xs[i]? = some u → w.cell? (ad.add i) = some u
/-- The cells from A on hold the limbs of l. -/
def Rd (w : World) (A : Option Addr) (l : List Nat) : Prop := RdV w A (vals l)
theorem Rd.get {w A l} (h : Rd w A l) (i : Nat) (hi : i < l.length) : ∃ ad, A = some ad ∧ w.cell? (ad.add i) = some (.int .u32 (gl l i : Nat)) := by
  rcases h with h | ⟨ad, rfl, h⟩
  · have := congrArg List.length h; simp [vals] at this; simp [this] at hi
  · exact ⟨ad, rfl, h i _ (vals_get l i hi)⟩
theorem cell_below {w w1 : World} (h : Below w.heap.size w w1) {a : Addr} {v : Value} (hc : w.cell? a = some v) : w1.cell? a = some v := (h.cell (World.block_lt_of_cell? w a hc)).trans hc
theorem RdV.below {w w' A l} (h : RdV w A l) (hb : Below w.heap.size w w') : RdV w' A l := by
  rcases h with rfl | ⟨ad, rfl, h⟩
  · exact .inl rfl
  · exact .inr ⟨ad, rfl, fun i u hi => cell_below hb (h i u hi)⟩
theorem Rd.below {w w' A l} (h : Rd w A l) (hb : Below w.heap.size w w') : Rd w' A l := RdV.below h hb
theorem Rd.nil {w A} : Rd w A [] := .inl rfl
theorem Rd.cells {w ad l} (h : Rd w (some ad) l) : ∀ i u, (vals l)[i]? = some u → w.cell? (ad.add i) = some u := by
  rcases h with h | ⟨ad', e, h⟩
  · intro i u hu; rw [h] at hu; simp at hu
  · cases e; exact h
theorem ownV_rd {w : World} {base : Nat} {e : TypeId} {size n : Nat} {v : Value} {xs : List Value} (h : w.ownsRow base e size v n xs) : ∃ A c, v = .slice A n c ∧ n ≤ c ∧ c ≤ maxLen ∧ RdV w A xs := by
  rcases h.2 with ⟨rfl, rfl⟩ | ⟨g, cap, cur, rfl, _, _, h1, h2, _⟩
  · exact ⟨none, 0, rfl, Nat.le_refl _, by decide, .inl (List.eq_nil_of_length_eq_zero (by simpa using h.1))⟩
  · exact ⟨_, cap, rfl, h1, h2, .inr ⟨_, rfl, h.cells rfl⟩⟩
theorem own_base' {w : World} {base : Nat} {e : TypeId} {size n : Nat} {v : Value} {xs : List Value} (h : w.ownsRow base e size v n xs) (k : Nat) (hk : v.ownBlock = some k) : base ≤ k := by
  rcases h.2 with ⟨rfl, _⟩ | ⟨g, cap, cur, rfl, hb, _⟩
  · simp [Value.ownBlock] at hk
  · have : g = k := by simpa [Value.ownBlock] using hk
    omega
theorem _root_.Go.RowKit.Below.cons {w w1 w2 : World} (h : Below w.heap.size w w1) (k : Below w1.heap.size w1 w2) : Below w.heap.size w w2 :=
  h.trans (k.mono h.size)

theorem ieqT {a b : Int} (h : a = b) : (a == b) = true := beq_iff_eq.mpr h
theorem ieqF {a b : Int} (h : a ≠ b) : (a == b) = false := beq_eq_false_iff_ne.mpr h
theorem ineT {a b : Int} (h : a ≠ b) : (a != b) = true := bne_iff_ne.mpr h
theorem ineF {a b : Int} (h : a = b) : (a != b) = false := bne_eq_false_iff_eq.mpr h
theorem ret_int {k : IntKind} {a b : Int} (h : a = b) : Ending.returned (.int k a) = .returned (.int k b) := by rw [h]
theorem ret2_int {k k' : IntKind} {a b c d : Int} (h : a = b) (h' : c = d) : Ending.returned (.tuple #[.int k a, .int k' c]) = .returned (.tuple #[.int k b, .int k' d]) := by rw [h, h']
theorem at_new {W : World} {o : Obj} {k : Nat} (h : k = W.heap.size) : (W.alloc o).heap[k]? = some o := by subst h; exact heap_alloc_new W o
theorem at_old {W : World} {o : Obj} {k : Nat} {x : Option Obj} (h : k < W.heap.size) (hx : W.heap[k]? = x) : (W.alloc o).heap[k]? = x := by rw [← hx]; exact Below.heap_alloc W o k h
theorem max2_i (k k' : IntKind) (x y : Int) : Builtin.max2 (.int k x) (.int k' y) = pure (.int k (max x y)) := by
  simp only [Builtin.max2, gt_iff_lt, Int.max_def]
  congr 2
  split <;> split <;> omega
theorem min2_i (k k' : IntKind) (x y : Int) : Builtin.min2 (.int k x) (.int k' y) = pure (.int k (min x y)) := by
  simp only [Builtin.min2, Int.min_def]
  congr 2
  split <;> split <;> omega
theorem max_two (ats : Array TypeId) (ty : TypeId) (a b : Value) : Builtin.max_ ats ty #[a, b] = (Builtin.max2 a b >>= fun s => pure s) := by simp only [Builtin.max_, List.foldlM_cons, List.foldlM_nil]
theorem min_two (ats : Array TypeId) (ty : TypeId) (a b : Value) : Builtin.min_ ats ty #[a, b] = (Builtin.min2 a b >>= fun s => pure s) := by simp only [Builtin.min_, List.foldlM_cons, List.foldlM_nil]
theorem info_u32 : (Tryz.prog.info? 58).map (fun i => (i.zero, i.size, i.bytes)) = some (some (.int .u32 0), 1, 4) := by kernel_rfl

theorem mk32 (l c : Int) (h0 : 0 ≤ l) (h : l ≤ c) (hc : c ≤ 35184372088832) : ∀ W : World, (Instr.makeSlice 22 (.int .i64 l) (.int .i64 c)).run Tryz.prog W =
    .ok (.slice (some ⟨W.heap.size, 0, none⟩) l.toNat c.toNat) (W.alloc (.cells (madeCells #[.int .u32 0] c.toNat) 58)) := fun W => by
  obtain ⟨i0, hi, hz0, hz1, hz2⟩ := info_parts info_u32
  have := run_make (P := Tryz.prog) W 22 58 i0 _ Tryz.underlying22 hi hz0 .i64 .i64 l c h0 h (by rw [hz2]; omega) (by omega)
  rw [hz1, Nat.mul_one] at this
  exact this
theorem ownsMade32 (W : World) (base c : Nat) (hb : base ≤ W.heap.size) (hc : c ≤ 35184372088832) :
    (W.alloc (.cells (madeCells #[.int .u32 0] c) 58)).ownsRow base 58 1 (.slice (some ⟨W.heap.size, 0, none⟩) c c) c (vals (List.replicate c 0)) := by
  have h2 := World.ownsRow_lit (e := 58) (size := 1) (base := base) W (madeCells #[.int .u32 0] c) c hb (by simp only [maxLen]; omega) (by rw [size_madeCells, Nat.mul_one])
  rw [toList_madeCells_one] at h2
  rw [show vals (List.replicate c 0) = List.replicate c (Value.int .u32 0) by simp [vals]]
  exact h2

end Go.Proofs.YtacjfpibilolnaaGreatDoor

/- The layer of naturals, first part: Clone, Make, at. -/
set_option linter.unusedVariables false
set_option linter.unusedSimpArgs false
namespace Go.Proofs.YtacjfpibilolnaaGreatDoor
open Go.RowKit

/-- A slice that holds the limbs of a natural. -/
structure NatV (w : World) (A : Option Addr) (c n : Nat) : Prop where
  rd : Rd w A (limbs n)
  cap : nl n ≤ c
  cmax : c ≤ maxLen
theorem NatV.below {w w' A c n} (h : NatV w A c n) (hb : Below w.heap.size w w') : NatV w' A c n := ⟨h.rd.below hb, h.cap, h.cmax⟩
/-- What a call that makes a natural leaves. -/
def RetN (w : World) (n : Nat) (e : Ending) (w' : World) : Prop := ∃ A c, e = .returned (.slice A (nl n) c) ∧ NatV w' A c n ∧ Below w.heap.size w w'

theorem clone_c (A : Option Addr) (n c : Nat) (l : List Nat) (w : World) (hn : l.length = n) (h : Rd w A l) (hl : n ≤ 1099511627776) :
  Calls Tryz.prog 130 #[.slice A n c] w fun e w' => ∃ B d, e = .returned (.slice B n d) ∧ n ≤ d ∧ d ≤ maxLen ∧ Rd w' B l ∧ Below w.heap.size w w' := by
  subst hn
  have hnil := fun (a : Option Addr) (n : Nat) (w : World) => Lib.run_eql_slice_nil (P := Tryz.prog) w 22 58 a n c 0 0 Tryz.underlying22
  obtain ⟨i0, hi, hz0, hz1, hz2⟩ := info_parts info_u32
  cases A with
  | none =>
    have hl0 : l = [] := by
      rcases h with h | ⟨ad, e, _⟩
      · exact List.map_eq_nil_iff.1 h
      · cases e
    subst hl0
    go_enter Tryz.func130, Tryz.ntmps130
    go_wp2
    go_ret
    exact ⟨none, 0, rfl, by simp, by decide, .inl rfl, Below.refl _ _⟩
  | some ad =>
    go_enter Tryz.func130, Tryz.ntmps130
    have hb1 : Below w.heap.size w (w.alloc (.cells #[] 58)) := (Below.refl _ _).alloc (Nat.le_refl _) _
    go_wp2_with (at_builtin; refine wpList_append_own_at _ rfl _ _ 22 rfl w.heap.size 58 i0 (.int .u32 0) 1 4 Tryz.underlying22 hi hz0 hz1 hz2 rfl (by decide) _ 0 [] rfl (World.ownsRow_lit w #[] 0 (Nat.le_refl _) (by decide) rfl) ad l.length c (vals l) rfl (by simp [vals]) (h.below hb1).cells (vals_one l) (by simp only [maxLen]; omega) (by omega) (by simp) ?_)
    intro v' w1 hown hg _ _
    (try simp only [Nat.zero_add, List.nil_append] at hown)
    obtain ⟨B, d, rfl, h1, h2, h3⟩ := ownV_rd hown
    have hb2 : Below w.heap.size w w1 := hb1.grown hg (by simp) (fun k hk => by simp [Value.ownBlock] at hk; omega)
    clear hg
    go_wp2
    go_ret
    exact ⟨B, d, rfl, h1, h2, h3, hb2⟩

theorem make_c (A : Option Addr) (n c : Nat) (l : List Nat) (w : World) (hn : l.length = n) (h : Rd w A l) (hL : Lim l) (hl : n ≤ 1099511627776) (hc : n ≤ c) :
    Calls Tryz.prog 109 #[.slice A n c] w (RetN w (val l)) := by
  subst hn
  have fin : ∀ k, k ≤ l.length → (∀ i, k ≤ i → i < l.length → gl l i = 0) → (k = 0 ∨ gl l (k - 1) ≠ 0) → Calls Tryz.prog 130 #[.slice A k c] w (RetN w (val l)) := fun k hk h0 h1 => by
    have e := take_make hL hk h0 h1
    have e2 : k = nl (val l) := by unfold nl; rw [← e, List.length_take, Nat.min_eq_left hk]
    refine (clone_c A k c (l.take k) w (by simp [hk]) ?_ (by omega)).mono ?_
    · rcases h with h | ⟨ad, rfl, h⟩
      · exact .inl (by simp [vals] at h ⊢; simp [h])
      · refine .inr ⟨ad, rfl, fun i u hu => h i u ?_⟩
        simp only [vals, List.map_take] at hu ⊢
        by_cases hik : i < k
        · rwa [List.getElem?_take_of_lt hik] at hu
        · rw [List.getElem?_take_eq_none (by omega)] at hu; cases hu
    · rintro e' w' ⟨B, d, rfl, h1, h2, h3, h4⟩
      exact ⟨B, d, by rw [← e2], ⟨by rw [← e]; exact h3, by omega, h2⟩, h4⟩
  go_enter Tryz.func109, Tryz.ntmps109
  go_wp2_with (fail)
  go_loop [3] (fun v => ∃ k : Nat, v = .int .i64 k ∧ k ≤ l.length ∧ ∀ i, k ≤ i → i < l.length → gl l i = 0) (fun v => (intOf v).toNat)
  case atStart => exact ⟨l.length, rfl, Nat.le_refl _, fun i h1 h2 => by omega⟩
  case round =>
    obtain ⟨k, rfl, hk, h0⟩ := hrel
    have H0 := Lib.hid h0
    have FIN := Lib.hid fin
    clear h0 fin
    cases k with
    | zero =>
      go_wp2_with (fail)
      refine (FIN.out 0 (by omega) H0.out (.inl rfl)).mono ?_
      rintro e w1 ⟨B, d, rfl, h1, h2⟩
      go_wp2_with (fail)
      go_ret
      exact ⟨B, d, rfl, h1, h2⟩
    | succ k =>
      obtain ⟨ad, rfl, hcell⟩ := h.get k (by omega)
      by_cases hz : gl l k = 0
      · have hb : ((gl l k : Int) == 0) = true := ieqT (by omega)
        have HZ := Lib.hid hz
        clear hz
        go_wp2_with (fail)
        go_round
        case rel => exact ⟨k, by go_num, by omega, fun i h1 h2 => by
          by_cases e : i = k
          · rw [e]; exact HZ.out
          · exact H0.out i (by omega) h2⟩
        case measure => simp [intOf] <;> omega
      · have hb : ((gl l k : Int) == 0) = false := ieqF (by omega)
        go_wp2_with (fail)
        refine (FIN.out (k + 1) (by omega) H0.out (.inr hz)).mono ?_
        rintro e w1 ⟨B, d, rfl, h1, h2⟩
        go_wp2_with (fail)
        go_ret
        exact ⟨B, d, rfl, h1, h2⟩
end Go.Proofs.YtacjfpibilolnaaGreatDoor

/- math/bits: Add32, Sub32. -/
set_option linter.unusedVariables false
set_option linter.unusedSimpArgs false
namespace Go.Proofs.YtacjfpibilolnaaGreatDoor
open Go.RowKit

/-- What is borrowed. -/
def brw (x y b : Nat) : Nat := if x < y + b then 1 else 0
def dif (x y b : Nat) : Nat := (x + (4294967296 - y - b)) % 4294967296
theorem dif_lt (x y b : Nat) : dif x y b < 4294967296 := Nat.mod_lt _ (by decide)
theorem brw_le (x y b : Nat) : brw x y b ≤ 1 := by unfold brw; split <;> omega
theorem dif_eq {x y b : Nat} (hx : x < 4294967296) (hy : y < 4294967296) (hb : b ≤ 1) : x + 4294967296 * brw x y b = dif x y b + y + b := by
  unfold dif brw
  split <;> omega
theorem top_bit {n : Nat} (h : n < 4294967296) : n / 2147483648 = (n.testBit 31).toNat := by
  rw [Nat.toNat_testBit]
  omega
theorem tb31 {n : Nat} (h : n < 4294967296) : n.testBit 31 = decide (2147483648 ≤ n) := by
  have := top_bit h
  cases e : n.testBit 31 <;> rw [e] at this <;> simp at this ⊢ <;> omega
theorem brw_bits (x y b : Nat) (hx : x < 4294967296) (hy : y < 4294967296) (hb : b ≤ 1) :
    (((4294967295 ^^^ x) &&& y) ||| ((4294967295 ^^^ (x ^^^ y)) &&& dif x y b)) / 2147483648 = brw x y b := by
  have hd := dif_lt x y b
  have l1 : (4294967295 ^^^ x) &&& y < 4294967296 := Nat.and_lt_two_pow (n := 32) _ hy
  have l2 : (4294967295 ^^^ (x ^^^ y)) &&& dif x y b < 4294967296 := Nat.and_lt_two_pow (n := 32) _ hd
  have e1 : Nat.testBit 4294967295 31 = true := by decide
  rw [top_bit (Nat.or_lt_two_pow (n := 32) l1 l2), Nat.testBit_or, Nat.testBit_and, Nat.testBit_and, Nat.testBit_xor, Nat.testBit_xor, Nat.testBit_xor, e1, tb31 hx, tb31 hy, tb31 hd]
  have e := dif_eq hx hy hb
  have hbw := brw_le x y b
  by_cases h1 : 2147483648 ≤ x <;> by_cases h2 : 2147483648 ≤ y <;> by_cases h3 : 2147483648 ≤ dif x y b <;> simp [h1, h2, h3] <;> omega
theorem brw_int (x y b : Nat) (d : Int) (hd : d = ((dif x y b : Nat) : Int)) (hx : x < 4294967296) (hy : y < 4294967296) (hb : b ≤ 1) :
    bits .or .u32 (bits .and .u32 (bits .xor .u32 IntKind.u32.max (x : Int)) (y : Int)) (bits .and .u32 (bits .xor .u32 IntKind.u32.max (bits .xor .u32 (x : Int) (y : Int))) d) / 2147483648 = (brw x y b : Int) := by
  have hm : IntKind.u32.max = ((4294967295 : Nat) : Int) := by decide
  have hdl := dif_lt x y b
  have a1 : 4294967295 ^^^ x < 4294967296 := Nat.xor_lt_two_pow (n := 32) (by decide) hx
  have a2 : x ^^^ y < 4294967296 := Nat.xor_lt_two_pow (n := 32) hx hy
  have a3 : 4294967295 ^^^ (x ^^^ y) < 4294967296 := Nat.xor_lt_two_pow (n := 32) (by decide) a2
  have a4 : (4294967295 ^^^ x) &&& y < 4294967296 := Nat.and_lt_two_pow (n := 32) _ hy
  have a5 : (4294967295 ^^^ (x ^^^ y)) &&& dif x y b < 4294967296 := Nat.and_lt_two_pow (n := 32) _ hdl
  rw [hm, hd, u32_xor_nat _ _ (by decide) hx, u32_xor_nat _ _ hx hy, u32_xor_nat _ _ (by decide) a2, u32_and_nat _ _ a1 hy, u32_and_nat _ _ a3 hdl, u32_or_nat _ _ a4 a5, ← brw_bits x y b hx hy hb]
  simp

theorem sub32_c (x y b : Nat) (w : World) (hx : x < 4294967296) (hy : y < 4294967296) (hb : b ≤ 1) :
    Calls Tryz.prog 133 #[.int .u32 x, .int .u32 y, .int .u32 b] w fun e w' => e = .returned (.tuple #[.int .u32 (dif x y b : Nat), .int .u32 (brw x y b : Nat)]) ∧ w = w' := by
  have HD := Lib.hid (show ((((x : Int) - y) % 4294967296 - b) % 4294967296) = ((dif x y b : Nat) : Int) by unfold dif; omega)
  have HB := Lib.hid (brw_int x y b _ (show (((x : Int) - y - b) % 4294967296) = ((dif x y b : Nat) : Int) by unfold dif; omega) hx hy hb)
  have hs : IntKind.u32.signed = false := rfl
  go_enter Tryz.func133, Tryz.ntmps133
  go_wp2
  go_ret2
  exact ⟨ret2_int HD.out HB.out, rfl⟩
theorem add32_c (x y b : Nat) (w : World) (hx : x < 4294967296) (hy : y < 4294967296) (hb : b ≤ 1) :
    Calls Tryz.prog 129 #[.int .u32 x, .int .u32 y, .int .u32 b] w fun e w' => e = .returned (.tuple #[.int .u32 ((x + y + b) % 4294967296 : Nat), .int .u32 ((x + y + b) / 4294967296 : Nat)]) ∧ w = w' := by
  go_enter Tryz.func129, Tryz.ntmps129
  go_wp2
  go_ret2
  exact ⟨by simp, rfl⟩
end Go.Proofs.YtacjfpibilolnaaGreatDoor

/- The layer of naturals: limbs of two beside each other, a step that keeps what is carried. -/
set_option linter.unusedVariables false
set_option linter.unusedSimpArgs false
namespace Go.Proofs.YtacjfpibilolnaaGreatDoor
open Go.RowKit Go.Shelf

attribute [local go_sem] Oper.semAt_some

theorem at_c (A : Option Addr) (n c : Nat) (l : List Nat) (j : Nat) (w : World) (hn : l.length = n) (h : Rd w A l) (h0 : j ≤ 1099511627776) (hl : n ≤ 1099511627776) :
    Calls Tryz.prog 127 #[.slice A n c, .int .i64 (j : Int)] w fun e w' => e = .returned (.int .u32 (gl l j : Nat)) ∧ w = w' := by
  subst hn
  by_cases hj : j < l.length
  · obtain ⟨ad, rfl, hc⟩ := h.get j hj
    go_enter Tryz.func127, Tryz.ntmps127
    go_wp2
    go_ret
    exact ⟨rfl, rfl⟩
  · have e := gl_of_le (l := l) (i := j) (by omega)
    have E := Lib.hid e
    clear e
    go_enter Tryz.func127, Tryz.ntmps127
    go_wp2
    go_ret
    exact ⟨by rw [E.out]; rfl, rfl⟩

/-- What a step of limbs makes of two limbs and what is carried: a limb, and what is carried on. -/
def StepC (fs : Nat) (st : Nat → Nat → Nat → Nat × Nat) : Prop :=
  (∀ args w, (callFunc fs args).run Tryz.prog w = .ok (.enter fs args) w) ∧
  (∀ x y c, x < 4294967296 → y < 4294967296 → c ≤ 1 → (st x y c).1 < 4294967296 ∧ (st x y c).2 ≤ 1) ∧
  ∀ (x y c : Nat) (w : World), x < 4294967296 → y < 4294967296 → c ≤ 1 →
    Calls Tryz.prog fs #[.int .u32 x, .int .u32 y, .int .u32 c] w fun e w' => e = .returned (.tuple #[.int .u32 ((st x y c).1 : Nat), .int .u32 ((st x y c).2 : Nat)]) ∧ w = w'

theorem carried1_c (fs : Nat) (st : Nat → Nat → Nat → Nat × Nat) (hs : StepC fs st) (x y c Bs Bc : Nat) (w : World) (hx : x < 4294967296) (hy : y < 4294967296) (hc : c ≤ 1)
    (h1 : Boxed w Bs 119 (.func (.func fs) #[] #[])) (h2 : Boxed w Bc 58 (.int .u32 c)) :
    Calls Tryz.prog 154 #[.int .u32 x, .int .u32 y, .pointer (some ⟨Bs, 0, none⟩), .pointer (some ⟨Bc, 0, none⟩)] w fun e w' =>
      e = .returned (.int .u32 ((st x y c).1 : Nat)) ∧ w' = w.setCell ⟨Bc, 0, none⟩ (.int .u32 ((st x y c).2 : Nat)) := by
  have c1 := h1.cell
  have c2 := h2.cell
  have f2 := h2.frozen
  obtain ⟨heg, hbd, hst⟩ := hs
  have HST := Lib.hid hst
  have HBD := Lib.hid (hbd x y c hx hy hc)
  clear hst hbd h1 h2
  go_enter Tryz.func154, Tryz.ntmps154
  go_wp2_with (fail)
  refine (HST.out _ _ _ _ hx hy hc).mono ?_
  rintro e w1 ⟨rfl, rfl⟩
  go_wp2_with (fail)
  go_ret
  exact ⟨rfl, rfl⟩

theorem carried_c (fs : Nat) (w : World) :
    Calls Tryz.prog 139 #[.func (.func fs) #[] #[]] w fun e w' =>
      e = .returned (.func (.func 154) #[] #[.pointer (some ⟨w.heap.size, 0, none⟩), .pointer (some ⟨w.heap.size + 1, 0, none⟩)]) ∧
      w' = (w.alloc (.cells #[.func (.func fs) #[] #[]] 119)).alloc (.cells #[.int .u32 0] 58) := by
  go_enter Tryz.func139, Tryz.ntmps139
  go_wp2_with (fail)
  go_ret
  exact ⟨rfl, rfl⟩

theorem pairs_c (A : Option Addr) (la ca : Nat) (B : Option Addr) (lb cb : Nat) (n : Int) (w : World) :
    Calls Tryz.prog 140 #[.slice A la ca, .slice B lb cb, .int .i64 n] w fun e w' =>
      e = .returned (.func (.func 155) #[] #[.pointer (some ⟨w.heap.size + 2, 0, none⟩), .pointer (some ⟨w.heap.size, 0, none⟩), .pointer (some ⟨w.heap.size + 1, 0, none⟩)]) ∧
      w' = ((w.alloc (.cells #[.slice A la ca] 22)).alloc (.cells #[.slice B lb cb] 22)).alloc (.cells #[.int .i64 n] 3) := by
  go_enter Tryz.func140, Tryz.ntmps140
  go_wp2_with (fail)
  go_ret
  exact ⟨rfl, rfl⟩

/-- Cells of the blocks of S read on as they did. -/
def KeepC (S : Nat → Prop) (W W' : World) : Prop := ∀ (p : Addr) (v : Value), S p.block → W.cell? p = some v → W'.cell? p = some v
theorem KeepC.t {S : Nat → Prop} {A B C : World} (h : KeepC S A B) (k : KeepC S B C) : KeepC S A C := fun p v hp hv => k p v hp (h p v hp hv)
theorem KeepC.b {S : Nat → Prop} {w : World} (W : World) (l : Nat) (o o' : Obj) (_ : w.heap.size ≤ l) (h : W.heap[l]? = some o) (ho : o.isCells = false) (_ : o.isWalk = false) : KeepC S W (W.putObj l o') := fun p v _ hv =>
  cell_kept hv (grownBy_putObj' W l o') (fun r e => by cases e; exact ⟨o, h, ho⟩)
theorem KeepC.rd {S : Nat → Prop} {W W' : World} {A : Option Addr} {l : List Nat} (h : KeepC S W W') (hA : ∀ ad i, A = some ad → i < l.length → S (ad.add i).block) (hr : Rd W A l) : Rd W' A l := by
  rcases hr with hr | ⟨ad, rfl, hr⟩
  · exact .inl hr
  · refine .inr ⟨ad, rfl, fun i u hu => h _ _ (hA ad i rfl ?_) (hr i u hu)⟩
    have := (List.getElem?_eq_some_iff.1 hu).1
    simpa [vals] using this

theorem pairs1_in (l Ba Bb Bn : Nat) (n₀ : Nat) (S : Nat → Prop) (A : Option Addr) (na ca : Nat) (a : List Nat) (B : Option Addr) (nb cb : Nat) (b : List Nat) (n : Nat)
    (hn : n ≤ 1099511627776) (hna : a.length = na) (hnb : b.length = nb) (hla : na ≤ 1099511627776) (hlb : nb ≤ 1099511627776)
    (hSa : S Ba) (hSb : S Bb) (hSA : ∀ ad i, A = some ad → i < a.length → S (ad.add i).block) (hSB : ∀ ad i, B = some ad → i < b.length → S (ad.add i).block)
    (J Jx : List Nat → World → Prop) (hJd : ∀ pre W, J pre W → J pre W.drew)
    (hY : ∀ pre x W, J pre W → pre.length < n → YieldAt Fence.wide 2 Tryz.prog l #[.int .u32 (gl a x : Nat), .int .u32 (gl b x : Nat)] W fun e W' =>
      (e = .returned (.bool true) ∧ J (pre ++ [x]) W' ∧ KeepC S W W') ∨ (e = .returned (.bool false) ∧ Jx (pre ++ [x]) W'))
    (W : World) (h1 : W.cell? ⟨Ba, 0, none⟩ = some (.slice A na ca)) (h2 : W.cell? ⟨Bb, 0, none⟩ = some (.slice B nb cb)) (h3 : W.cell? ⟨Bn, 0, none⟩ = some (.int .i64 n))
    (hA : Rd W A a) (hB : Rd W B b) (h0 : J [] W) :
    CallsIn Fence.wide 3 Tryz.prog 155 #[.func (.yield l) #[] #[], .pointer (some ⟨Bn, 0, none⟩), .pointer (some ⟨Ba, 0, none⟩), .pointer (some ⟨Bb, 0, none⟩)] W fun e W' =>
      (∃ v, e = .returned v) ∧ ((∃ xs, xs = List.range n ∧ J xs W') ∨ (∃ pre, pre.length ≤ n ∧ Jx pre W')) := by
  refine callsIn_of_wp Tryz.func155 rfl trivial ?_ rfl
  simp only [Tryz.ntmps155, List.size_toArray, List.length_cons, List.length_nil, Nat.reduceAdd, Nat.reduceSub, Array.replicate_succ, Array.replicate_zero, List.push_toArray, List.append_toArray, List.nil_append, List.cons_append]
  have HY := Lib.hid hY
  clear hY
  gi_wp2_with (fail)
  gi_loopw [7, 5] (fun i u wr => ∃ k : Nat, i = .int .i64 k ∧ k ≤ n ∧ J (List.range k) wr ∧ KeepC S W wr) (fun i u wr => n - (intOf i).toNat)
  case atStart => exact ⟨0, rfl, Nat.zero_le _, h0, fun p v _ h => h⟩
  case round =>
    obtain ⟨k, rfl, hk, hJ, hK⟩ := hrel
    by_cases hkn : k < n
    · have g1 := hK _ _ hSa h1
      have g2 := hK _ _ hSb h2
      obtain ⟨fn, tmps, assign, body, hy, hR⟩ := HY.out _ k wr.drew (hJd _ _ hJ) (by simpa using hkn)
      have cA := fun (W : World) (hA : Rd W A a) => (callsIn_wide (n := 2)).2 (at_c A na ca a k W hna hA (by omega) hla)
      have cB := fun (W : World) (hB : Rd W B b) => (callsIn_wide (n := 2)).2 (at_c B nb cb b k W hnb hB (by omega) hlb)
      have HA : Rd wr.drew A a := hK.rd hSA hA
      have HB : Rd wr.drew B b := hK.rd hSB hB
      have CA : ∀ (X : Option Addr) (m d : Nat) (r : List Nat), ((X, m, d, r) = (A, na, ca, a) ∨ (X, m, d, r) = (B, nb, cb, b)) → CallsIn Fence.wide 2 Tryz.prog 127 #[.slice X m d, .int .i64 (k : Int)] wr.drew fun e w' => e = .returned (.int .u32 (gl r k : Nat)) ∧ wr.drew = w' := fun X m d r h => by
        rcases h with h | h <;> cases h
        · exact cA wr.drew HA
        · exact cB wr.drew HB
      have HR := Lib.hid (hR.mono (R' := fun e W' => ∃ b, e = .returned (.bool b) ∧ Hid ((b = true ∧ J (List.range k ++ [k]) W' ∧ KeepC S wr.drew W') ∨ (b = false ∧ Jx (List.range k ++ [k]) W'))) (by
        rintro e W' (⟨rfl, h⟩ | ⟨rfl, h⟩)
        · exact ⟨true, rfl, Lib.hid (.inl ⟨rfl, h⟩)⟩
        · exact ⟨false, rfl, Lib.hid (.inr ⟨rfl, h⟩)⟩))
      have HK := Lib.hid hK
      have HCA := Lib.hid CA
      clear cA cB hA hB hK hR hSA hSB hJ hJd CA
      gi_wp2_with (fail)
      gi_region_with (first | (refine (Hid.out HR).mono ?_; rintro e W' ⟨y, rfl, hy⟩) | (refine ⟨trivial, ?_⟩; gi_at_call 127; (first | (with_reducible refine (Hid.out HCA A na ca a (.inl rfl)).mono ?_) | (with_reducible refine (Hid.out HCA B nb cb b (.inr rfl)).mono ?_)); rintro e w' ⟨rfl, rfl⟩))
      all_goals
        cases y with
        | true =>
          obtain ⟨_, hJ2, hK2⟩ | ⟨h, _⟩ := hy.out
          · gi_wp2_with (fail)
            go_roundw
            case rel => exact ⟨k + 1, by go_num, by omega, by rw [List.range_succ]; exact hJ2, HK.out.t (KeepC.t (fun p v _ h => h) hK2)⟩
            case measure => simp [intOf] <;> omega
          · cases h
        | false =>
          obtain ⟨h, _⟩ | ⟨_, hx⟩ := hy.out
          · cases h
          · gi_wp2_with (fail)
            refine bodyPost_ret (results_none rfl _ _ _) rfl ?_
            exact ⟨⟨_, rfl⟩, .inr ⟨_, by simp; omega, hx⟩⟩
    · gi_wp2_with (fail)
      refine bodyPost_end (results_none rfl _ _ _) rfl ?_
      obtain rfl : k = n := by omega
      exact ⟨⟨_, rfl⟩, .inl ⟨_, rfl, hJ⟩⟩

theorem pairs_stops (Ba Bb Bn : Nat) (S : Nat → Prop) (A : Option Addr) (na ca : Nat) (a : List Nat) (B : Option Addr) (nb cb : Nat) (b : List Nat) (n : Nat) (w : World)
    (hn : n ≤ 1099511627776) (hna : a.length = na) (hnb : b.length = nb) (hla : na ≤ 1099511627776) (hlb : nb ≤ 1099511627776)
    (hSa : S Ba) (hSb : S Bb) (hSA : ∀ ad i, A = some ad → i < a.length → S (ad.add i).block) (hSB : ∀ ad i, B = some ad → i < b.length → S (ad.add i).block)
    (h1 : w.cell? ⟨Ba, 0, none⟩ = some (.slice A na ca)) (h2 : w.cell? ⟨Bb, 0, none⟩ = some (.slice B nb cb)) (h3 : w.cell? ⟨Bn, 0, none⟩ = some (.int .i64 n))
    (hA : Rd w A a) (hB : Rd w B b) :
    SeqStopsK Fence.wide 3 Tryz.prog 155 #[.pointer (some ⟨Bn, 0, none⟩), .pointer (some ⟨Ba, 0, none⟩), .pointer (some ⟨Bb, 0, none⟩)]
      (fun x : Nat => #[.int .u32 (gl a x : Nat), .int .u32 (gl b x : Nat)]) (KeepC S) (fun xs => xs = List.range n) (fun pre => pre.length ≤ n) n w := fun l J Jx W hW hJ _ hY h0 =>
  pairs1_in l Ba Bb Bn 0 S A na ca a B nb cb b n hn hna hnb hla hlb hSa hSb hSA hSB J Jx (fun pre W h => hJ pre W W.drew none h ⟨rfl, rfl, rfl, Nat.le_refl _, fun _ _ _ => rfl⟩ (fun r e => by cases e))
    hY W (cell_below hW h1) (cell_below hW h2) (cell_below hW h3) (hA.below hW) (hB.below hW) h0
end Go.Proofs.YtacjfpibilolnaaGreatDoor
