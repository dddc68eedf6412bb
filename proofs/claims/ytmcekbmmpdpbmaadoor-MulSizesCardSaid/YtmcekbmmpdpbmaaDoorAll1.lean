/- The layer of naturals: limbs of two beside each other, a step that keeps what is carried. -/
import Derived.Test.YtmcekbmmpdpbmaaDoorBits
import Derived.RangeFuncBox
import Derived.RangeFuncLeaves
import Derived.RangeFuncFrom
import Derived.Shelf.Abstract
import Derived.OwnWalkIn
import Derived.TacticsInMore
import Derived.LoopNIn
import Derived.LoopIn
import Derived.Stop.RegionWithIn
set_option linter.unusedVariables false
set_option linter.unusedSimpArgs false
namespace Go.Proofs.YtmcekbmmpdpbmaaDoor
open Go.RowKit Go.Shelf

attribute [local go_sem] Oper.semAt_some

set_option maxHeartbeats 400000 in
theorem at_c (A : Option Addr) (n c : Nat) (l : List Nat) (j : Nat) (w : World) (hn : l.length = n) (h : Rd w A l) (h0 : j ≤ 1099511627776) (hl : n ≤ 1099511627776) :
    Calls Tryd.prog 56 #[.slice A n c, .int .i64 (j : Int)] w fun e w' => e = .returned (.int .u32 (gl l j : Nat)) ∧ w = w' := by
  subst hn
  by_cases hj : j < l.length
  · obtain ⟨ad, rfl, hc⟩ := h.get j hj
    go_enter Tryd.func56, Tryd.ntmps56
    go_wp2
    go_ret
    exact ⟨rfl, rfl⟩
  · have e := gl_of_le (l := l) (i := j) (by omega)
    have E := Lib.hid e
    clear e
    go_enter Tryd.func56, Tryd.ntmps56
    go_wp2
    go_ret
    exact ⟨by rw [E.out]; rfl, rfl⟩

/-- What a step of limbs makes of two limbs and what is carried: a limb, and what is carried on. -/
def StepC (fs : Nat) (st : Nat → Nat → Nat → Nat × Nat) : Prop :=
  (∀ args w, (callFunc fs args).run Tryd.prog w = .ok (.enter fs args) w) ∧
  (∀ x y c, x < 4294967296 → y < 4294967296 → c ≤ 1 → (st x y c).1 < 4294967296 ∧ (st x y c).2 ≤ 1) ∧
  ∀ (x y c : Nat) (w : World), x < 4294967296 → y < 4294967296 → c ≤ 1 →
    Calls Tryd.prog fs #[.int .u32 x, .int .u32 y, .int .u32 c] w fun e w' => e = .returned (.tuple #[.int .u32 ((st x y c).1 : Nat), .int .u32 ((st x y c).2 : Nat)]) ∧ w = w'

set_option maxHeartbeats 400000 in
theorem carried1_c (fs : Nat) (st : Nat → Nat → Nat → Nat × Nat) (hs : StepC fs st) (x y c Bs Bc : Nat) (w : World) (hx : x < 4294967296) (hy : y < 4294967296) (hc : c ≤ 1)
    (h1 : Boxed w Bs 61 (.func (.func fs) #[] #[])) (h2 : Boxed w Bc 35 (.int .u32 c)) :
    Calls Tryd.prog 63 #[.int .u32 x, .int .u32 y, .pointer (some ⟨Bs, 0, none⟩), .pointer (some ⟨Bc, 0, none⟩)] w fun e w' =>
      e = .returned (.int .u32 ((st x y c).1 : Nat)) ∧ w' = w.setCell ⟨Bc, 0, none⟩ (.int .u32 ((st x y c).2 : Nat)) := by
  have c1 := h1.cell
  have c2 := h2.cell
  have f2 := h2.frozen
  obtain ⟨heg, hbd, hst⟩ := hs
  have HST := Lib.hid hst
  have HBD := Lib.hid (hbd x y c hx hy hc)
  clear hst hbd h1 h2
  go_enter Tryd.func63, Tryd.ntmps63
  go_wp2_with (fail)
  refine (HST.out _ _ _ _ hx hy hc).mono ?_
  rintro e w1 ⟨rfl, rfl⟩
  go_wp2_with (fail)
  go_ret
  exact ⟨rfl, rfl⟩

theorem carried_c (fs : Nat) (w : World) :
    Calls Tryd.prog 57 #[.func (.func fs) #[] #[]] w fun e w' =>
      e = .returned (.func (.func 63) #[] #[.pointer (some ⟨w.heap.size, 0, none⟩), .pointer (some ⟨w.heap.size + 1, 0, none⟩)]) ∧
      w' = (w.alloc (.cells #[.func (.func fs) #[] #[]] 61)).alloc (.cells #[.int .u32 0] 35) := by
  go_enter Tryd.func57, Tryd.ntmps57
  go_wp2_with (fail)
  go_ret
  exact ⟨rfl, rfl⟩

theorem pairs_c (A : Option Addr) (la ca : Nat) (B : Option Addr) (lb cb : Nat) (n : Int) (w : World) :
    Calls Tryd.prog 58 #[.slice A la ca, .slice B lb cb, .int .i64 n] w fun e w' =>
      e = .returned (.func (.func 64) #[] #[.pointer (some ⟨w.heap.size + 2, 0, none⟩), .pointer (some ⟨w.heap.size, 0, none⟩), .pointer (some ⟨w.heap.size + 1, 0, none⟩)]) ∧
      w' = ((w.alloc (.cells #[.slice A la ca] 22)).alloc (.cells #[.slice B lb cb] 22)).alloc (.cells #[.int .i64 n] 3) := by
  go_enter Tryd.func58, Tryd.ntmps58
  go_wp2_with (fail)
  go_ret
  exact ⟨rfl, rfl⟩

/-- Cells of the blocks of S read on as they did. -/
def KeepC (S : Nat → Prop) (W W' : World) : Prop := ∀ (p : Addr) (v : Value), S p.block → W.cell? p = some v → W'.cell? p = some v
theorem KeepC.t {S : Nat → Prop} {A B C : World} (h : KeepC S A B) (k : KeepC S B C) : KeepC S A C := fun p v hp hv => k p v hp (h p v hp hv)
theorem KeepC.b {S : Nat → Prop} {w : World} (W : World) (l : Nat) (o o' : Obj) (_ : w.heap.size ≤ l) (h : W.heap[l]? = some o) (ho : o.isCells = false) (_ : o.isWalk = false) : KeepC S W (W.putObj l o') := fun p v _ hv =>
  cell_kept hv (grownBy_putObj' W l o') (fun r e => by cases e; exact ⟨o, h, ho⟩)
theorem KeepC.rd {S : Nat → Prop} {W W' : World} {A : Option Addr} {l : List Nat} (h : KeepC S W W') (hA : ∀ ad i, A = some ad → i < l.length → S (ad.add i).block) (hr : Rd W A l) : Rd W' A l := by
  rcases hr with hr | ⟨ad, rfl, hr⟩
  · exact .inl hr
  · refine .inr ⟨ad, rfl, fun i u hu => h _ _ (hA ad i rfl ?_) (hr i u hu)⟩
    have := (List.getElem?_eq_some_iff.1 hu).1
    simpa [vals] using this

set_option maxHeartbeats 1000000 in
set_option maxRecDepth 100000 in
theorem pairs1_in (l Ba Bb Bn : Nat) (n₀ : Nat) (S : Nat → Prop) (A : Option Addr) (na ca : Nat) (a : List Nat) (B : Option Addr) (nb cb : Nat) (b : List Nat) (n : Nat)
    (hn : n ≤ 1099511627776) (hna : a.length = na) (hnb : b.length = nb) (hla : na ≤ 1099511627776) (hlb : nb ≤ 1099511627776)
    (hSa : S Ba) (hSb : S Bb) (hSA : ∀ ad i, A = some ad → i < a.length → S (ad.add i).block) (hSB : ∀ ad i, B = some ad → i < b.length → S (ad.add i).block)
    (J Jx : List Nat → World → Prop) (hJd : ∀ pre W, J pre W → J pre W.drew)
    (hY : ∀ pre x W, J pre W → pre.length < n → YieldAt Fence.wide 2 Tryd.prog l #[.int .u32 (gl a x : Nat), .int .u32 (gl b x : Nat)] W fun e W' =>
      (e = .returned (.bool true) ∧ J (pre ++ [x]) W' ∧ KeepC S W W') ∨ (e = .returned (.bool false) ∧ Jx (pre ++ [x]) W'))
    (W : World) (h1 : W.cell? ⟨Ba, 0, none⟩ = some (.slice A na ca)) (h2 : W.cell? ⟨Bb, 0, none⟩ = some (.slice B nb cb)) (h3 : W.cell? ⟨Bn, 0, none⟩ = some (.int .i64 n))
    (hA : Rd W A a) (hB : Rd W B b) (h0 : J [] W) :
    CallsIn Fence.wide 3 Tryd.prog 64 #[.func (.yield l) #[] #[], .pointer (some ⟨Bn, 0, none⟩), .pointer (some ⟨Ba, 0, none⟩), .pointer (some ⟨Bb, 0, none⟩)] W fun e W' =>
      (∃ v, e = .returned v) ∧ ((∃ xs, xs = List.range n ∧ J xs W') ∨ (∃ pre, pre.length ≤ n ∧ Jx pre W')) := by
  refine callsIn_of_wp Tryd.func64 rfl trivial ?_ rfl
  simp only [Tryd.ntmps64, List.size_toArray, List.length_cons, List.length_nil, Nat.reduceAdd, Nat.reduceSub, Array.replicate_succ, Array.replicate_zero, List.push_toArray, List.append_toArray, List.nil_append, List.cons_append]
  have HY := Lib.hid hY
  clear hY
  gi_wp2_with (fail)
  gi_loopw [7, 5] (fun i u wr => ∃ k : Nat, i = .int .i64 k ∧ k ≤ n ∧ J (List.range k) wr ∧ KeepC S W wr) (fun i u wr => n - (intOf i).toNat)
  case atStart => exact ⟨0, rfl, Nat.zero_le _, h0, fun p v _ h => h⟩
  case round =>
    obtain ⟨k, rfl, hk, hJ, hK⟩ := hrel
    by_cases hkn : k < n
    · have g1 := hK _ _ hSa h1
      have g2 := hK _ _ hSb h2
      obtain ⟨fn, tmps, assign, body, hy, hR⟩ := HY.out _ k wr.drew (hJd _ _ hJ) (by simpa using hkn)
      have cA := fun (W : World) (hA : Rd W A a) => (callsIn_wide (n := 2)).2 (at_c A na ca a k W hna hA (by omega) hla)
      have cB := fun (W : World) (hB : Rd W B b) => (callsIn_wide (n := 2)).2 (at_c B nb cb b k W hnb hB (by omega) hlb)
      have HA : Rd wr.drew A a := hK.rd hSA hA
      have HB : Rd wr.drew B b := hK.rd hSB hB
      have CA : ∀ (X : Option Addr) (m d : Nat) (r : List Nat), ((X, m, d, r) = (A, na, ca, a) ∨ (X, m, d, r) = (B, nb, cb, b)) → CallsIn Fence.wide 2 Tryd.prog 56 #[.slice X m d, .int .i64 (k : Int)] wr.drew fun e w' => e = .returned (.int .u32 (gl r k : Nat)) ∧ wr.drew = w' := fun X m d r h => by
        rcases h with h | h <;> cases h
        · exact cA wr.drew HA
        · exact cB wr.drew HB
      have HR := Lib.hid (hR.mono (R' := fun e W' => ∃ b, e = .returned (.bool b) ∧ Hid ((b = true ∧ J (List.range k ++ [k]) W' ∧ KeepC S wr.drew W') ∨ (b = false ∧ Jx (List.range k ++ [k]) W'))) (by
        rintro e W' (⟨rfl, h⟩ | ⟨rfl, h⟩)
        · exact ⟨true, rfl, Lib.hid (.inl ⟨rfl, h⟩)⟩
        · exact ⟨false, rfl, Lib.hid (.inr ⟨rfl, h⟩)⟩))
      have HK := Lib.hid hK
      have HCA := Lib.hid CA
      clear cA cB hA hB hK hR hSA hSB hJ hJd CA
      gi_wp2_with (fail)
      gi_region_with (first | (refine (Hid.out HR).mono ?_; rintro e W' ⟨y, rfl, hy⟩) | (refine ⟨trivial, ?_⟩; gi_at_call 56; (first | (with_reducible refine (Hid.out HCA A na ca a (.inl rfl)).mono ?_) | (with_reducible refine (Hid.out HCA B nb cb b (.inr rfl)).mono ?_)); rintro e w' ⟨rfl, rfl⟩))
      all_goals
        cases y with
        | true =>
          obtain ⟨_, hJ2, hK2⟩ | ⟨h, _⟩ := hy.out
          · gi_wp2_with (fail)
            go_roundw
            case rel => exact ⟨k + 1, by go_num, by omega, by rw [List.range_succ]; exact hJ2, HK.out.t (KeepC.t (fun p v _ h => h) hK2)⟩
            case measure => simp [intOf] <;> omega
          · cases h
        | false =>
          obtain ⟨h, _⟩ | ⟨_, hx⟩ := hy.out
          · cases h
          · gi_wp2_with (fail)
            refine bodyPost_ret (results_none rfl _ _ _) rfl ?_
            exact ⟨⟨_, rfl⟩, .inr ⟨_, by simp; omega, hx⟩⟩
    · gi_wp2_with (fail)
      refine bodyPost_end (results_none rfl _ _ _) rfl ?_
      obtain rfl : k = n := by omega
      exact ⟨⟨_, rfl⟩, .inl ⟨_, rfl, hJ⟩⟩

theorem pairs_stops (Ba Bb Bn : Nat) (S : Nat → Prop) (A : Option Addr) (na ca : Nat) (a : List Nat) (B : Option Addr) (nb cb : Nat) (b : List Nat) (n : Nat) (w : World)
    (hn : n ≤ 1099511627776) (hna : a.length = na) (hnb : b.length = nb) (hla : na ≤ 1099511627776) (hlb : nb ≤ 1099511627776)
    (hSa : S Ba) (hSb : S Bb) (hSA : ∀ ad i, A = some ad → i < a.length → S (ad.add i).block) (hSB : ∀ ad i, B = some ad → i < b.length → S (ad.add i).block)
    (h1 : w.cell? ⟨Ba, 0, none⟩ = some (.slice A na ca)) (h2 : w.cell? ⟨Bb, 0, none⟩ = some (.slice B nb cb)) (h3 : w.cell? ⟨Bn, 0, none⟩ = some (.int .i64 n))
    (hA : Rd w A a) (hB : Rd w B b) :
    SeqStopsK Fence.wide 3 Tryd.prog 64 #[.pointer (some ⟨Bn, 0, none⟩), .pointer (some ⟨Ba, 0, none⟩), .pointer (some ⟨Bb, 0, none⟩)]
      (fun x : Nat => #[.int .u32 (gl a x : Nat), .int .u32 (gl b x : Nat)]) (KeepC S) (fun xs => xs = List.range n) (fun pre => pre.length ≤ n) n w := fun l J Jx W hW hJ _ hY h0 =>
  pairs1_in l Ba Bb Bn 0 S A na ca a B nb cb b n hn hna hnb hla hlb hSa hSb hSA hSB J Jx (fun pre W h => hJ pre W W.drew none h ⟨rfl, rfl, rfl, Nat.le_refl _, fun _ _ _ => rfl⟩ (fun r e => by cases e))
    hY W (cell_below hW h1) (cell_below hW h2) (cell_below hW h3) (hA.below hW) (hB.below hW) h0
end Go.Proofs.YtmcekbmmpdpbmaaDoor
