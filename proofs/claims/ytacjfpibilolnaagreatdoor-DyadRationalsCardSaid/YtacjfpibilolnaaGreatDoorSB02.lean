/- The layer of naturals, first part: Clone, Make, at. -/
import Derived.Test.YtacjfpibilolnaaGreatDoorSB01
import Derived.RangeFuncBox
import Derived.RangeFuncLeaves
import Derived.RangeFuncFrom
import Derived.Shelf.Abstract
import Derived.OwnWalkIn
import Derived.TacticsInMore
import Derived.LoopNIn
import Derived.LoopIn
import Derived.Stop.RegionWithIn
import Derived.OrdersIn
set_option maxRecDepth 100000
set_option maxHeartbeats 4000000
set_option linter.unusedVariables false
set_option linter.unusedSimpArgs false
namespace Go.Proofs.YtacjfpibilolnaaGreatDoor
open Go.RowKit

/-- A slice that holds the limbs of a natural. -/
structure NatV (w : World) (A : Option Addr) (c n : Nat) : Prop where
  rd : Rd w A (limbs n)
  cap : nl n ≤ c
  cmax : c ≤ maxLen
theorem NatV.below {w w' A c n} (h : NatV w A c n) (hb : Below w.heap.size w w') : NatV w' A c n := ⟨h.rd.below hb, h.cap, h.cmax⟩
/-- What a call that makes a natural leaves. -/
def RetN (w : World) (n : Nat) (e : Ending) (w' : World) : Prop := ∃ A c, e = .returned (.slice A (nl n) c) ∧ NatV w' A c n ∧ Below w.heap.size w w'

theorem clone_c (A : Option Addr) (n c : Nat) (l : List Nat) (w : World) (hn : l.length = n) (h : Rd w A l) (hl : n ≤ 1099511627776) :
  Calls Tryz.prog 130 #[.slice A n c] w fun e w' => ∃ B d, e = .returned (.slice B n d) ∧ n ≤ d ∧ d ≤ maxLen ∧ Rd w' B l ∧ Below w.heap.size w w' := by
  subst hn
  have hnil := fun (a : Option Addr) (n : Nat) (w : World) => Lib.run_eql_slice_nil (P := Tryz.prog) w 22 58 a n c 0 0 Tryz.underlying22
  obtain ⟨i0, hi, hz0, hz1, hz2⟩ := info_parts info_u32
  cases A with
  | none =>
    have hl0 : l = [] := by
      rcases h with h | ⟨ad, e, _⟩
      · exact List.map_eq_nil_iff.1 h
      · cases e
    subst hl0
    go_enter Tryz.func130, Tryz.ntmps130
    go_wp2
    go_ret
    exact ⟨none, 0, rfl, by simp, by decide, .inl rfl, Below.refl _ _⟩
  | some ad =>
    go_enter Tryz.func130, Tryz.ntmps130
    have hb1 : Below w.heap.size w (w.alloc (.cells #[] 58)) := (Below.refl _ _).alloc (Nat.le_refl _) _
    go_wp2_with (at_builtin; refine wpList_append_own_at _ rfl _ _ 22 rfl w.heap.size 58 i0 (.int .u32 0) 1 4 Tryz.underlying22 hi hz0 hz1 hz2 rfl (by decide) _ 0 [] rfl (World.ownsRow_lit w #[] 0 (Nat.le_refl _) (by decide) rfl) ad l.length c (vals l) rfl (by simp [vals]) (h.below hb1).cells (vals_one l) (by simp only [maxLen]; omega) (by omega) (by simp) ?_)
    intro v' w1 hown hg _ _
    (try simp only [Nat.zero_add, List.nil_append] at hown)
    obtain ⟨B, d, rfl, h1, h2, h3⟩ := ownV_rd hown
    have hb2 : Below w.heap.size w w1 := hb1.grown hg (by simp) (fun k hk => by simp [Value.ownBlock] at hk; omega)
    clear hg
    go_wp2
    go_ret
    exact ⟨B, d, rfl, h1, h2, h3, hb2⟩

theorem make_c (A : Option Addr) (n c : Nat) (l : List Nat) (w : World) (hn : l.length = n) (h : Rd w A l) (hL : Lim l) (hl : n ≤ 1099511627776) (hc : n ≤ c) :
    Calls Tryz.prog 109 #[.slice A n c] w (RetN w (val l)) := by
  subst hn
  have fin : ∀ k, k ≤ l.length → (∀ i, k ≤ i → i < l.length → gl l i = 0) → (k = 0 ∨ gl l (k - 1) ≠ 0) → Calls Tryz.prog 130 #[.slice A k c] w (RetN w (val l)) := fun k hk h0 h1 => by
    have e := take_make hL hk h0 h1
    have e2 : k = nl (val l) := by unfold nl; rw [← e, List.length_take, Nat.min_eq_left hk]
    refine (clone_c A k c (l.take k) w (by simp [hk]) ?_ (by omega)).mono ?_
    · rcases h with h | ⟨ad, rfl, h⟩
      · exact .inl (by simp [vals] at h ⊢; simp [h])
      · refine .inr ⟨ad, rfl, fun i u hu => h i u ?_⟩
        simp only [vals, List.map_take] at hu ⊢
        by_cases hik : i < k
        · rwa [List.getElem?_take_of_lt hik] at hu
        · rw [List.getElem?_take_eq_none (by omega)] at hu; cases hu
    · rintro e' w' ⟨B, d, rfl, h1, h2, h3, h4⟩
      exact ⟨B, d, by rw [← e2], ⟨by rw [← e]; exact h3, by omega, h2⟩, h4⟩
  go_enter Tryz.func109, Tryz.ntmps109
  go_wp2_with (fail)
  go_loop [3] (fun v => ∃ k : Nat, v = .int .i64 k ∧ k ≤ l.length ∧ ∀ i, k ≤ i → i < l.length → gl l i = 0) (fun v => (intOf v).toNat)
  case atStart => exact ⟨l.length, rfl, Nat.le_refl _, fun i h1 h2 => by omega⟩
  case round =>
    obtain ⟨k, rfl, hk, h0⟩ := hrel
    have H0 := Lib.hid h0
    have FIN := Lib.hid fin
    clear h0 fin
    cases k with
    | zero =>
      go_wp2_with (fail)
      refine (FIN.out 0 (by omega) H0.out (.inl rfl)).mono ?_
      rintro e w1 ⟨B, d, rfl, h1, h2⟩
      go_wp2_with (fail)
      go_ret
      exact ⟨B, d, rfl, h1, h2⟩
    | succ k =>
      obtain ⟨ad, rfl, hcell⟩ := h.get k (by omega)
      by_cases hz : gl l k = 0
      · have hb : ((gl l k : Int) == 0) = true := ieqT (by omega)
        have HZ := Lib.hid hz
        clear hz
        go_wp2_with (fail)
        go_round
        case rel => exact ⟨k, by go_num, by omega, fun i h1 h2 => by
          by_cases e : i = k
          · rw [e]; exact HZ.out
          · exact H0.out i (by omega) h2⟩
        case measure => simp [intOf] <;> omega
      · have hb : ((gl l k : Int) == 0) = false := ieqF (by omega)
        go_wp2_with (fail)
        refine (FIN.out (k + 1) (by omega) H0.out (.inr hz)).mono ?_
        rintro e w1 ⟨B, d, rfl, h1, h2⟩
        go_wp2_with (fail)
        go_ret
        exact ⟨B, d, rfl, h1, h2⟩
end Go.Proofs.YtacjfpibilolnaaGreatDoor

/- math/bits: Add32, Sub32. -/
set_option linter.unusedVariables false
set_option linter.unusedSimpArgs false
namespace Go.Proofs.YtacjfpibilolnaaGreatDoor
open Go.RowKit

/-- What is borrowed. -/
def brw (x y b : Nat) : Nat := if x < y + b then 1 else 0
def dif (x y b : Nat) : Nat := (x + (4294967296 - y - b)) % 4294967296
theorem dif_lt (x y b : Nat) : dif x y b < 4294967296 := Nat.mod_lt _ (by decide)
theorem brw_le (x y b : Nat) : brw x y b ≤ 1 := by unfold brw; split <;> omega
theorem dif_eq {x y b : Nat} (hx : x < 4294967296) (hy : y < 4294967296) (hb : b ≤ 1) : x + 4294967296 * brw x y b = dif x y b + y + b := by
  unfold dif brw
  split <;> omega
theorem top_bit {n : Nat} (h : n < 4294967296) : n / 2147483648 = (n.testBit 31).toNat := by
  rw [Nat.toNat_testBit]
  omega
theorem tb31 {n : Nat} (h : n < 4294967296) : n.testBit 31 = decide (2147483648 ≤ n) := by
  have := top_bit h
  cases e : n.testBit 31 <;> rw [e] at this <;> simp at this ⊢ <;> omega
theorem brw_bits (x y b : Nat) (hx : x < 4294967296) (hy : y < 4294967296) (hb : b ≤ 1) :
    (((4294967295 ^^^ x) &&& y) ||| ((4294967295 ^^^ (x ^^^ y)) &&& dif x y b)) / 2147483648 = brw x y b := by
  have hd := dif_lt x y b
  have l1 : (4294967295 ^^^ x) &&& y < 4294967296 := Nat.and_lt_two_pow (n := 32) _ hy
  have l2 : (4294967295 ^^^ (x ^^^ y)) &&& dif x y b < 4294967296 := Nat.and_lt_two_pow (n := 32) _ hd
  have e1 : Nat.testBit 4294967295 31 = true := by decide
  rw [top_bit (Nat.or_lt_two_pow (n := 32) l1 l2), Nat.testBit_or, Nat.testBit_and, Nat.testBit_and, Nat.testBit_xor, Nat.testBit_xor, Nat.testBit_xor, e1, tb31 hx, tb31 hy, tb31 hd]
  have e := dif_eq hx hy hb
  have hbw := brw_le x y b
  by_cases h1 : 2147483648 ≤ x <;> by_cases h2 : 2147483648 ≤ y <;> by_cases h3 : 2147483648 ≤ dif x y b <;> simp [h1, h2, h3] <;> omega
theorem brw_int (x y b : Nat) (d : Int) (hd : d = ((dif x y b : Nat) : Int)) (hx : x < 4294967296) (hy : y < 4294967296) (hb : b ≤ 1) :
    bits .or .u32 (bits .and .u32 (bits .xor .u32 IntKind.u32.max (x : Int)) (y : Int)) (bits .and .u32 (bits .xor .u32 IntKind.u32.max (bits .xor .u32 (x : Int) (y : Int))) d) / 2147483648 = (brw x y b : Int) := by
  have hm : IntKind.u32.max = ((4294967295 : Nat) : Int) := by decide
  have hdl := dif_lt x y b
  have a1 : 4294967295 ^^^ x < 4294967296 := Nat.xor_lt_two_pow (n := 32) (by decide) hx
  have a2 : x ^^^ y < 4294967296 := Nat.xor_lt_two_pow (n := 32) hx hy
  have a3 : 4294967295 ^^^ (x ^^^ y) < 4294967296 := Nat.xor_lt_two_pow (n := 32) (by decide) a2
  have a4 : (4294967295 ^^^ x) &&& y < 4294967296 := Nat.and_lt_two_pow (n := 32) _ hy
  have a5 : (4294967295 ^^^ (x ^^^ y)) &&& dif x y b < 4294967296 := Nat.and_lt_two_pow (n := 32) _ hdl
  rw [hm, hd, u32_xor_nat _ _ (by decide) hx, u32_xor_nat _ _ hx hy, u32_xor_nat _ _ (by decide) a2, u32_and_nat _ _ a1 hy, u32_and_nat _ _ a3 hdl, u32_or_nat _ _ a4 a5, ← brw_bits x y b hx hy hb]
  simp

theorem sub32_c (x y b : Nat) (w : World) (hx : x < 4294967296) (hy : y < 4294967296) (hb : b ≤ 1) :
    Calls Tryz.prog 133 #[.int .u32 x, .int .u32 y, .int .u32 b] w fun e w' => e = .returned (.tuple #[.int .u32 (dif x y b : Nat), .int .u32 (brw x y b : Nat)]) ∧ w = w' := by
  have HD := Lib.hid (show ((((x : Int) - y) % 4294967296 - b) % 4294967296) = ((dif x y b : Nat) : Int) by unfold dif; omega)
  have HB := Lib.hid (brw_int x y b _ (show (((x : Int) - y - b) % 4294967296) = ((dif x y b : Nat) : Int) by unfold dif; omega) hx hy hb)
  have hs : IntKind.u32.signed = false := rfl
  go_enter Tryz.func133, Tryz.ntmps133
  go_wp2
  go_ret2
  exact ⟨ret2_int HD.out HB.out, rfl⟩
theorem add32_c (x y b : Nat) (w : World) (hx : x < 4294967296) (hy : y < 4294967296) (hb : b ≤ 1) :
    Calls Tryz.prog 129 #[.int .u32 x, .int .u32 y, .int .u32 b] w fun e w' => e = .returned (.tuple #[.int .u32 ((x + y + b) % 4294967296 : Nat), .int .u32 ((x + y + b) / 4294967296 : Nat)]) ∧ w = w' := by
  go_enter Tryz.func129, Tryz.ntmps129
  go_wp2
  go_ret2
  exact ⟨by simp, rfl⟩
end Go.Proofs.YtacjfpibilolnaaGreatDoor

/- The layer of naturals: limbs of two beside each other, a step that keeps what is carried. -/
set_option linter.unusedVariables false
set_option linter.unusedSimpArgs false
namespace Go.Proofs.YtacjfpibilolnaaGreatDoor
open Go.RowKit Go.Shelf

attribute [local go_sem] Oper.semAt_some

theorem at_c (A : Option Addr) (n c : Nat) (l : List Nat) (j : Nat) (w : World) (hn : l.length = n) (h : Rd w A l) (h0 : j ≤ 1099511627776) (hl : n ≤ 1099511627776) :
    Calls Tryz.prog 127 #[.slice A n c, .int .i64 (j : Int)] w fun e w' => e = .returned (.int .u32 (gl l j : Nat)) ∧ w = w' := by
  subst hn
  by_cases hj : j < l.length
  · obtain ⟨ad, rfl, hc⟩ := h.get j hj
    go_enter Tryz.func127, Tryz.ntmps127
    go_wp2
    go_ret
    exact ⟨rfl, rfl⟩
  · have e := gl_of_le (l := l) (i := j) (by omega)
    have E := Lib.hid e
    clear e
    go_enter Tryz.func127, Tryz.ntmps127
    go_wp2
    go_ret
    exact ⟨by rw [E.out]; rfl, rfl⟩

/-- What a step of limbs makes of two limbs and what is carried: a limb, and what is carried on. -/
def StepC (fs : Nat) (st : Nat → Nat → Nat → Nat × Nat) : Prop :=
  (∀ args w, (callFunc fs args).run Tryz.prog w = .ok (.enter fs args) w) ∧
  (∀ x y c, x < 4294967296 → y < 4294967296 → c ≤ 1 → (st x y c).1 < 4294967296 ∧ (st x y c).2 ≤ 1) ∧
  ∀ (x y c : Nat) (w : World), x < 4294967296 → y < 4294967296 → c ≤ 1 →
    Calls Tryz.prog fs #[.int .u32 x, .int .u32 y, .int .u32 c] w fun e w' => e = .returned (.tuple #[.int .u32 ((st x y c).1 : Nat), .int .u32 ((st x y c).2 : Nat)]) ∧ w = w'

theorem carried1_c (fs : Nat) (st : Nat → Nat → Nat → Nat × Nat) (hs : StepC fs st) (x y c Bs Bc : Nat) (w : World) (hx : x < 4294967296) (hy : y < 4294967296) (hc : c ≤ 1)
    (h1 : Boxed w Bs 119 (.func (.func fs) #[] #[])) (h2 : Boxed w Bc 58 (.int .u32 c)) :
    Calls Tryz.prog 154 #[.int .u32 x, .int .u32 y, .pointer (some ⟨Bs, 0, none⟩), .pointer (some ⟨Bc, 0, none⟩)] w fun e w' =>
      e = .returned (.int .u32 ((st x y c).1 : Nat)) ∧ w' = w.setCell ⟨Bc, 0, none⟩ (.int .u32 ((st x y c).2 : Nat)) := by
  have c1 := h1.cell
  have c2 := h2.cell
  have f2 := h2.frozen
  obtain ⟨heg, hbd, hst⟩ := hs
  have HST := Lib.hid hst
  have HBD := Lib.hid (hbd x y c hx hy hc)
  clear hst hbd h1 h2
  go_enter Tryz.func154, Tryz.ntmps154
  go_wp2_with (fail)
  refine (HST.out _ _ _ _ hx hy hc).mono ?_
  rintro e w1 ⟨rfl, rfl⟩
  go_wp2_with (fail)
  go_ret
  exact ⟨rfl, rfl⟩

theorem carried_c (fs : Nat) (w : World) :
    Calls Tryz.prog 139 #[.func (.func fs) #[] #[]] w fun e w' =>
      e = .returned (.func (.func 154) #[] #[.pointer (some ⟨w.heap.size, 0, none⟩), .pointer (some ⟨w.heap.size + 1, 0, none⟩)]) ∧
      w' = (w.alloc (.cells #[.func (.func fs) #[] #[]] 119)).alloc (.cells #[.int .u32 0] 58) := by
  go_enter Tryz.func139, Tryz.ntmps139
  go_wp2_with (fail)
  go_ret
  exact ⟨rfl, rfl⟩

theorem pairs_c (A : Option Addr) (la ca : Nat) (B : Option Addr) (lb cb : Nat) (n : Int) (w : World) :
    Calls Tryz.prog 140 #[.slice A la ca, .slice B lb cb, .int .i64 n] w fun e w' =>
      e = .returned (.func (.func 155) #[] #[.pointer (some ⟨w.heap.size + 2, 0, none⟩), .pointer (some ⟨w.heap.size, 0, none⟩), .pointer (some ⟨w.heap.size + 1, 0, none⟩)]) ∧
      w' = ((w.alloc (.cells #[.slice A la ca] 22)).alloc (.cells #[.slice B lb cb] 22)).alloc (.cells #[.int .i64 n] 3) := by
  go_enter Tryz.func140, Tryz.ntmps140
  go_wp2_with (fail)
  go_ret
  exact ⟨rfl, rfl⟩

/-- Cells of the blocks of S read on as they did. -/
def KeepC (S : Nat → Prop) (W W' : World) : Prop := ∀ (p : Addr) (v : Value), S p.block → W.cell? p = some v → W'.cell? p = some v
theorem KeepC.t {S : Nat → Prop} {A B C : World} (h : KeepC S A B) (k : KeepC S B C) : KeepC S A C := fun p v hp hv => k p v hp (h p v hp hv)
theorem KeepC.b {S : Nat → Prop} {w : World} (W : World) (l : Nat) (o o' : Obj) (_ : w.heap.size ≤ l) (h : W.heap[l]? = some o) (ho : o.isCells = false) (_ : o.isWalk = false) : KeepC S W (W.putObj l o') := fun p v _ hv =>
  cell_kept hv (grownBy_putObj' W l o') (fun r e => by cases e; exact ⟨o, h, ho⟩)
theorem KeepC.rd {S : Nat → Prop} {W W' : World} {A : Option Addr} {l : List Nat} (h : KeepC S W W') (hA : ∀ ad i, A = some ad → i < l.length → S (ad.add i).block) (hr : Rd W A l) : Rd W' A l := by
  rcases hr with hr | ⟨ad, rfl, hr⟩
  · exact .inl hr
  · refine .inr ⟨ad, rfl, fun i u hu => h _ _ (hA ad i rfl ?_) (hr i u hu)⟩
    have := (List.getElem?_eq_some_iff.1 hu).1
    simpa [vals] using this

theorem pairs1_in (l Ba Bb Bn : Nat) (n₀ : Nat) (S : Nat → Prop) (A : Option Addr) (na ca : Nat) (a : List Nat) (B : Option Addr) (nb cb : Nat) (b : List Nat) (n : Nat)
    (hn : n ≤ 1099511627776) (hna : a.length = na) (hnb : b.length = nb) (hla : na ≤ 1099511627776) (hlb : nb ≤ 1099511627776)
    (hSa : S Ba) (hSb : S Bb) (hSA : ∀ ad i, A = some ad → i < a.length → S (ad.add i).block) (hSB : ∀ ad i, B = some ad → i < b.length → S (ad.add i).block)
    (J Jx : List Nat → World → Prop) (hJd : ∀ pre W, J pre W → J pre W.drew)
    (hY : ∀ pre x W, J pre W → pre.length < n → YieldAt Fence.wide 2 Tryz.prog l #[.int .u32 (gl a x : Nat), .int .u32 (gl b x : Nat)] W fun e W' =>
      (e = .returned (.bool true) ∧ J (pre ++ [x]) W' ∧ KeepC S W W') ∨ (e = .returned (.bool false) ∧ Jx (pre ++ [x]) W'))
    (W : World) (h1 : W.cell? ⟨Ba, 0, none⟩ = some (.slice A na ca)) (h2 : W.cell? ⟨Bb, 0, none⟩ = some (.slice B nb cb)) (h3 : W.cell? ⟨Bn, 0, none⟩ = some (.int .i64 n))
    (hA : Rd W A a) (hB : Rd W B b) (h0 : J [] W) :
    CallsIn Fence.wide 3 Tryz.prog 155 #[.func (.yield l) #[] #[], .pointer (some ⟨Bn, 0, none⟩), .pointer (some ⟨Ba, 0, none⟩), .pointer (some ⟨Bb, 0, none⟩)] W fun e W' =>
      (∃ v, e = .returned v) ∧ ((∃ xs, xs = List.range n ∧ J xs W') ∨ (∃ pre, pre.length ≤ n ∧ Jx pre W')) := by
  refine callsIn_of_wp Tryz.func155 rfl trivial ?_ rfl
  simp only [Tryz.ntmps155, List.size_toArray, List.length_cons, List.length_nil, Nat.reduceAdd, Nat.reduceSub, Array.replicate_succ, Array.replicate_zero, List.push_toArray, List.append_toArray, List.nil_append, List.cons_append]
  have HY := Lib.hid hY
  clear hY
  gi_wp2_with (fail)
  gi_loopw [7, 5] (fun i u wr => ∃ k : Nat, i = .int .i64 k ∧ k ≤ n ∧ J (List.range k) wr ∧ KeepC S W wr) (fun i u wr => n - (intOf i).toNat)
  case atStart => exact ⟨0, rfl, Nat.zero_le _, h0, fun p v _ h => h⟩
  case round =>
    obtain ⟨k, rfl, hk, hJ, hK⟩ := hrel
    by_cases hkn : k < n
    · have g1 := hK _ _ hSa h1
      have g2 := hK _ _ hSb h2
      obtain ⟨fn, tmps, assign, body, hy, hR⟩ := HY.out _ k wr.drew (hJd _ _ hJ) (by simpa using hkn)
      have cA := fun (W : World) (hA : Rd W A a) => (callsIn_wide (n := 2)).2 (at_c A na ca a k W hna hA (by omega) hla)
      have cB := fun (W : World) (hB : Rd W B b) => (callsIn_wide (n := 2)).2 (at_c B nb cb b k W hnb hB (by omega) hlb)
      have HA : Rd wr.drew A a := hK.rd hSA hA
      have HB : Rd wr.drew B b := hK.rd hSB hB
      have CA : ∀ (X : Option Addr) (m d : Nat) (r : List Nat), ((X, m, d, r) = (A, na, ca, a) ∨ (X, m, d, r) = (B, nb, cb, b)) → CallsIn Fence.wide 2 Tryz.prog 127 #[.slice X m d, .int .i64 (k : Int)] wr.drew fun e w' => e = .returned (.int .u32 (gl r k : Nat)) ∧ wr.drew = w' := fun X m d r h => by
        rcases h with h | h <;> cases h
        · exact cA wr.drew HA
        · exact cB wr.drew HB
      have HR := Lib.hid (hR.mono (R' := fun e W' => ∃ b, e = .returned (.bool b) ∧ Hid ((b = true ∧ J (List.range k ++ [k]) W' ∧ KeepC S wr.drew W') ∨ (b = false ∧ Jx (List.range k ++ [k]) W'))) (by
        rintro e W' (⟨rfl, h⟩ | ⟨rfl, h⟩)
        · exact ⟨true, rfl, Lib.hid (.inl ⟨rfl, h⟩)⟩
        · exact ⟨false, rfl, Lib.hid (.inr ⟨rfl, h⟩)⟩))
      have HK := Lib.hid hK
      have HCA := Lib.hid CA
      clear cA cB hA hB hK hR hSA hSB hJ hJd CA
      gi_wp2_with (fail)
      gi_region_with (first | (refine (Hid.out HR).mono ?_; rintro e W' ⟨y, rfl, hy⟩) | (refine ⟨trivial, ?_⟩; gi_at_call 127; (first | (with_reducible refine (Hid.out HCA A na ca a (.inl rfl)).mono ?_) | (with_reducible refine (Hid.out HCA B nb cb b (.inr rfl)).mono ?_)); rintro e w' ⟨rfl, rfl⟩))
      all_goals
        cases y with
        | true =>
          obtain ⟨_, hJ2, hK2⟩ | ⟨h, _⟩ := hy.out
          · gi_wp2_with (fail)
            go_roundw
            case rel => exact ⟨k + 1, by go_num, by omega, by rw [List.range_succ]; exact hJ2, HK.out.t (KeepC.t (fun p v _ h => h) hK2)⟩
            case measure => simp [intOf] <;> omega
          · cases h
        | false =>
          obtain ⟨h, _⟩ | ⟨_, hx⟩ := hy.out
          · cases h
          · gi_wp2_with (fail)
            refine bodyPost_ret (results_none rfl _ _ _) rfl ?_
            exact ⟨⟨_, rfl⟩, .inr ⟨_, by simp; omega, hx⟩⟩
    · gi_wp2_with (fail)
      refine bodyPost_end (results_none rfl _ _ _) rfl ?_
      obtain rfl : k = n := by omega
      exact ⟨⟨_, rfl⟩, .inl ⟨_, rfl, hJ⟩⟩

theorem pairs_stops (Ba Bb Bn : Nat) (S : Nat → Prop) (A : Option Addr) (na ca : Nat) (a : List Nat) (B : Option Addr) (nb cb : Nat) (b : List Nat) (n : Nat) (w : World)
    (hn : n ≤ 1099511627776) (hna : a.length = na) (hnb : b.length = nb) (hla : na ≤ 1099511627776) (hlb : nb ≤ 1099511627776)
    (hSa : S Ba) (hSb : S Bb) (hSA : ∀ ad i, A = some ad → i < a.length → S (ad.add i).block) (hSB : ∀ ad i, B = some ad → i < b.length → S (ad.add i).block)
    (h1 : w.cell? ⟨Ba, 0, none⟩ = some (.slice A na ca)) (h2 : w.cell? ⟨Bb, 0, none⟩ = some (.slice B nb cb)) (h3 : w.cell? ⟨Bn, 0, none⟩ = some (.int .i64 n))
    (hA : Rd w A a) (hB : Rd w B b) :
    SeqStopsK Fence.wide 3 Tryz.prog 155 #[.pointer (some ⟨Bn, 0, none⟩), .pointer (some ⟨Ba, 0, none⟩), .pointer (some ⟨Bb, 0, none⟩)]
      (fun x : Nat => #[.int .u32 (gl a x : Nat), .int .u32 (gl b x : Nat)]) (KeepC S) (fun xs => xs = List.range n) (fun pre => pre.length ≤ n) n w := fun l J Jx W hW hJ _ hY h0 =>
  pairs1_in l Ba Bb Bn 0 S A na ca a B nb cb b n hn hna hnb hla hlb hSa hSb hSA hSB J Jx (fun pre W h => hJ pre W W.drew none h ⟨rfl, rfl, rfl, Nat.le_refl _, fun _ _ _ => rfl⟩ (fun r e => by cases e))
    hY W (cell_below hW h1) (cell_below hW h2) (cell_below hW h3) (hA.below hW) (hB.below hW) h0
end Go.Proofs.YtacjfpibilolnaaGreatDoor

/- A region that draws its order: by an invariant on what has come up. -/
set_option linter.unusedVariables false
set_option linter.unusedSimpArgs false
namespace Go.Proofs.YtacjfpibilolnaaGreatDoor
open Go.RowKit

theorem count_set {L : List Bool} {i : Nat} (h : L[i]? = some false) : (L.set i true).count false + 1 = L.count false := by
  induction L generalizing i with
  | nil => simp at h
  | cons x L ih =>
    cases i with
    | zero =>
      simp only [List.getElem?_cons_zero, Option.some.injEq] at h
      subst h
      simp [List.count_cons]
    | succ i =>
      have := ih (i := i) (by simpa using h)
      simp only [List.set_cons_succ, List.count_cons]
      omega

/-- Whatever comes up next keeps the invariant; when all has come up, it gives what is asked. -/
theorem wpAnyIn_inv {F : Fence} {n : Nat} {P : Program} {ops : Array Oper} {Q : Exit → Act → World → Prop} {md : Region.Mode} (Inv : Array Bool → Act → World → Prop)
    (hdone : ∀ L a w, Inv L a w → Region.ready md ops L = [] → Q .normal a w)
    (hstep : ∀ L a w i, Inv L a w → i < ops.size → L.getD i true = false → (∀ o, ops[i]? = some o → ∀ e ∈ o.after, Region.binds md e = true → L.getD e.on false = true) →
      wpOpIn F n P ops Q i (fun a' w' => Inv (L.setIfInBounds i true) a' w') a w) :
    ∀ fuel L a w, Inv L a w → L.size = ops.size → L.toList.count false ≤ fuel → wpAnyIn F n P md ops Q fuel L a w := by
  intro fuel
  induction fuel with
  | zero =>
    intro L a w hI hs hc
    have hr : Region.ready md ops L = [] := by
      rw [List.eq_nil_iff_forall_not_mem]
      intro i hi
      obtain ⟨h0, o, ho, _⟩ := mem_ready.1 hi
      have hlt : i < L.size := by rw [hs]; exact (Array.getElem?_eq_some_iff.1 ho).1
      have h1 : L.toList.count false = 0 := by omega
      rw [List.count_eq_zero] at h1
      refine h1 ?_
      have h2 : L[i] = false := by simpa [Array.getD, hlt] using h0
      exact h2 ▸ Array.getElem_mem_toList hlt
    exact ⟨hr, hdone L a w hI hr⟩
  | succ fuel ih =>
    intro L a w hI hs hc
    refine ⟨fun hr => hdone L a w hI hr, fun i hi => ?_⟩
    obtain ⟨h0, o, ho, hd⟩ := mem_ready.1 hi
    have hlt : i < ops.size := (Array.getElem?_eq_some_iff.1 ho).1
    refine wpOpIn_mono (fun a' w' hI' => ih _ a' w' hI' (by simpa using hs) ?_) (hstep L a w i hI hlt h0 (fun o' ho' e he hb => by
      rw [ho] at ho'; cases ho'; exact hd e he hb))
    have hl : i < L.size := by omega
    have h2 : L[i] = false := by simpa [Array.getD, hl] using h0
    have h3 := count_set (L := L.toList) (i := i) (by rw [Array.getElem?_toList, Array.getElem?_eq_getElem hl, h2])
    rw [Array.toList_setIfInBounds]
    omega

def edgesDown (ops : Array Oper) : Bool := ops.toList.zipIdx.all fun (o, i) => o.after.all fun e => !Region.binds .any e || decide (e.on < i)
theorem edgesDown_spec {ops : Array Oper} (h : edgesDown ops = true) {i : Nat} {o : Oper} (ho : ops[i]? = some o) {e : Edge} (he : e ∈ o.after) (hb : Region.binds .any e = true) : e.on < i := by
  unfold edgesDown at h
  rw [List.all_eq_true] at h
  have hm : (o, i) ∈ ops.toList.zipIdx := by
    rw [List.mem_zipIdx_iff_getElem?]; simpa using ho
  have := h _ hm
  simp only [Array.all_eq_true_iff_forall_mem, Bool.or_eq_true, Bool.not_eq_true', decide_eq_true_eq] at this
  exact (this e he).resolve_left (by simp [hb])
theorem ready_nil {ops : Array Oper} (hd : edgesDown ops = true) {L : Array Bool} (hs : L.size = ops.size) (h : Region.ready .any ops L = []) : ∀ i, i < ops.size → L.getD i false = true := by
  intro i
  induction i using Nat.strongRecOn with
  | _ i ih =>
    intro hi
    cases hb : L.getD i false with
    | true => rfl
    | false =>
      exfalso
      have : i ∈ Region.ready .any ops L := mem_ready.2 ⟨by
        have hl : i < L.size := by omega
        simp only [Array.getD, hl, dite_true] at hb ⊢; exact hb, ops[i], Array.getElem?_eq_getElem hi, fun e he hbe => by
          have hlt := edgesDown_spec hd (Array.getElem?_eq_getElem hi) he hbe
          exact ih e.on hlt (by omega)⟩
      rw [h] at this
      simp at this
theorem bit_set {L : Array Bool} {i : Nat} (hi : i < L.size) (k : Nat) : (L.setIfInBounds i true).getD k false = if k = i then true else L.getD k false := by
  by_cases h : k = i
  · subst h; simp [Array.getD, hi]
  · rw [if_neg h, getD_set_ne false (fun e => h e.symm)]

/-- A region that draws, by an invariant on which operations have come up ('D k': number k has). -/
theorem wpIn_region_inv {F : Fence} {n : Nat} {P : Program} {ops : Array Oper} {Q : Exit → Act → World → Prop} {id : Nat} {a : Act} {w : World} (Inv : (Nat → Bool) → Act → World → Prop) (hm : P.follows .mixedOrders = true)
    (hd : edgesDown ops = true)
    (h0 : Inv (fun _ => false) a w.drew)
    (hdone : ∀ D a w, Inv D a w → (∀ i, i < ops.size → D i = true) → Q .normal a w)
    (hstep : ∀ D a w i, Inv D a w → i < ops.size → D i = false → (∀ o, ops[i]? = some o → ∀ e ∈ o.after, Region.binds .any e = true → D e.on = true) →
      wpOpIn F n P ops Q i (fun a' w' => Inv (fun k => if k = i then true else D k) a' w') a w) :
    (Code.region id ops true).wpIn F n P Q a w := by
  refine wpIn_region_any hm (wpAnyIn_inv (fun L a w => L.size = ops.size ∧ Inv (fun k => L.getD k false) a w) ?_ ?_ _ _ _ _ ⟨by simp, ?_⟩ (by simp) (by simp))
  · rintro L a w ⟨hs, hI⟩ hr
    exact hdone _ a w hI (ready_nil hd hs hr)
  · rintro L a w i ⟨hs, hI⟩ hi hL he
    have hl : i < L.size := by omega
    refine wpOpIn_mono (fun a' w' h' => ⟨by simpa using hs, ?_⟩) (hstep (fun k => L.getD k false) a w i hI hi (by simp only [Array.getD, hl, dite_true] at hL ⊢; exact hL) he)
    have : (fun k => (L.setIfInBounds i true).getD k false) = (fun k => if k = i then true else L.getD k false) := funext (bit_set hl)
    rw [this]
    exact h'
  · have : (fun k => (Array.replicate ops.size false).getD k false) = (fun _ : Nat => false) := by
      funext k
      by_cases hk : k < ops.size <;> simp [Array.getD, hk]
    rw [this]
    exact h0
end Go.Proofs.YtacjfpibilolnaaGreatDoor
