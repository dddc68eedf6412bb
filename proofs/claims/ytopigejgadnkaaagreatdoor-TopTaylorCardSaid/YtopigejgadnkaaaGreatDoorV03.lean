/- Euclid's pairs, handed on one by one. -/
import Derived.Test.YtopigejgadnkaaaGreatDoorV02
import Derived.Test.YtopigejgadnkaaaGreatDoorV01
import Derived.RangeFuncNested
import Derived.OwnWalkIn
import Derived.TacticsInMore
import Derived.LoopNIn
import Derived.LoopIn
import Derived.Stop.RegionWithIn
import Derived.Laws.EntriesVeiled
import Derived.Orders
import Derived.Test.YtopigejgadnkaaaGreatDoorRows
import Derived.Deep.Strs
import Derived.ProofKit
import Derived.LaidMore
import Derived.OpenShut
import Derived.Stop.Joined
import Derived.Deep.Slices
import Derived.Below
import Derived.Carry
set_option maxRecDepth 100000
set_option maxHeartbeats 4000000
set_option linter.unusedVariables false
set_option linter.unusedSimpArgs false
namespace Go.Proofs.YtopigejgadnkaaaGreatDoor
open Go.RowKit Go.Shelf
attribute [local go_sem] Oper.semAt_some

def euc (a b : Nat) : Nat → Nat × Nat
  | 0 => (a, b)
  | k + 1 => ((euc a b k).2, (euc a b k).1 % (euc a b k).2)
theorem euc_gcd (a b : Nat) : ∀ k, (∀ i, i < k → (euc a b i).2 ≠ 0) → Nat.gcd (euc a b k).1 (euc a b k).2 = Nat.gcd a b
  | 0, _ => rfl
  | k + 1, h => by
    rw [← euc_gcd a b k (fun i hi => h i (by omega))]
    show Nat.gcd (euc a b k).2 ((euc a b k).1 % (euc a b k).2) = _
    rw [Nat.gcd_comm (euc a b k).1, Nat.gcd_rec (euc a b k).2 (euc a b k).1, Nat.gcd_comm]
structure It where
  A : Option Addr
  c : Nat
  a : Nat
  B : Option Addr
  d : Nat
  b : Nat
def It.enc (x : It) : Array Value := #[.slice x.A (nl x.a) x.c, .slice x.B (nl x.b) x.d]
def It.ok (x : It) (W : World) : Prop := NatV W x.A x.c x.a ∧ NatV W x.B x.d x.b
structure KpU (Ba Bb : Nat) (W W' : World) : Prop where
  u : ∀ (p : Addr) (x : Nat), W.cell? p = some (.int .u32 (x : Nat)) → W'.cell? p = some (.int .u32 (x : Nat))
  a : ∀ o : Obj, o.isCells = true → W.heap[Ba]? = some o → W'.heap[Ba]? = some o
  b : ∀ o : Obj, o.isCells = true → W.heap[Bb]? = some o → W'.heap[Bb]? = some o
theorem KpU.t {Ba Bb : Nat} {A B C : World} (h : KpU Ba Bb A B) (k : KpU Ba Bb B C) : KpU Ba Bb A C := ⟨fun p x e => k.u p x (h.u p x e), fun o ho e => k.a o ho (h.a o ho e), fun o ho e => k.b o ho (h.b o ho e)⟩
theorem KpU.bk {Ba Bb : Nat} {w : World} (W : World) (l : Nat) (o o' : Obj) (_ : w.heap.size ≤ l) (h : W.heap[l]? = some o) (ho : o.isCells = false) (_ : o.isWalk = false) : KpU Ba Bb W (W.putObj l o') := by
  refine ⟨fun p x e => cell_kept e (grownBy_putObj' W l o') (fun r e => by cases e; exact ⟨o, h, ho⟩), fun u hu e => ?_, fun u hu e => ?_⟩
  · have hne : Ba ≠ l := fun e2 => by subst e2; rw [h] at e; cases e; rw [ho] at hu; cases hu
    exact (World.putObj_heap_other hne).trans e
  · have hne : Bb ≠ l := fun e2 => by subst e2; rw [h] at e; cases e; rw [ho] at hu; cases hu
    exact (World.putObj_heap_other hne).trans e
theorem NatV.kpu {Ba Bb : Nat} {W W' : World} {A : Option Addr} {c n : Nat} (h : NatV W A c n) (hk : KpU Ba Bb W W') : NatV W' A c n := by
  refine ⟨?_, h.cap, h.cmax⟩
  rcases h.rd with h1 | ⟨ad, rfl, h1⟩
  · exact .inl h1
  · refine .inr ⟨ad, rfl, fun i u hi => ?_⟩
    have h2 := h1 i u hi
    obtain ⟨hl, he⟩ := List.getElem?_eq_some_iff.1 hi
    have hil : i < (limbs n).length := by simpa [vals] using hl
    rw [vals_get _ i hil] at hi
    cases hi
    exact hk.u _ _ h2
structure MvU (Ba Bb : Nat) (W W' : World) : Prop where
  os : W'.os = W.os
  tape : W'.tape = W.tape
  output : W'.output = W.output
  size : W.heap.size ≤ W'.heap.size
  block : ∀ k, k < W.heap.size → k ≠ Ba → k ≠ Bb → W'.heap[k]? = W.heap[k]?
  u : ∀ (p : Addr) (x : Nat), W.cell? p = some (.int .u32 (x : Nat)) → W'.cell? p = some (.int .u32 (x : Nat))
def EuH (a b : Nat) (pre : List It) (x : It) (W : World) : Prop := x.ok W ∧ (x.a, x.b) = euc a b pre.length ∧ ∀ i, i < pre.length → (euc a b i).2 ≠ 0
def EuS (a b : Nat) (xs : List It) (W : World) : Prop := ∃ pre x, xs = pre ++ [x] ∧ EuH a b pre x W ∧ x.b = 0
def EuP (a b : Nat) (xs : List It) (W : World) : Prop := ∃ pre x, xs = pre ++ [x] ∧ EuH a b pre x W
theorem rests_c (A : Option Addr) (la ca : Nat) (B : Option Addr) (lb cb : Nat) (w : World) :
    Calls Tryz.prog 122 #[.slice A la ca, .slice B lb cb] w fun e w' =>
      e = .returned (.func (.func 140) #[] #[.pointer (some ⟨w.heap.size, 0, none⟩), .pointer (some ⟨w.heap.size + 1, 0, none⟩)]) ∧
      w' = (w.alloc (.cells #[.slice A la ca] 22)).alloc (.cells #[.slice B lb cb] 22) := by
  go_enter Tryz.func122, Tryz.ntmps122
  go_wp2_with (fail)
  go_ret
  exact ⟨rfl, rfl⟩
def natAt (W : World) (v : Option Value) : Nat := match v with
  | some (.slice (some ad) n _) => val ((List.range n).map fun i => match W.cell? (ad.add i) with | some (.int _ x) => x.toNat | _ => 0)
  | _ => 0
theorem NatV.at_ {W : World} {A : Option Addr} {c a : Nat} (h : NatV W A c a) : natAt W (some (.slice A (nl a) c)) = a := by
  rcases h.rd with h1 | ⟨ad, rfl, h1⟩
  · have h0 : limbs a = [] := by simpa [vals] using h1
    have h2 : a = 0 := by rw [← val_limbs a, h0]; rfl
    have h3 : nl a = 0 := by rw [h2, nl_zero]
    unfold natAt
    rw [h3, h2]
    cases A <;> rfl
  · show val _ = a
    rw [show ((List.range (nl a)).map fun i => match W.cell? (ad.add i) with | some (.int _ x) => x.toNat | _ => 0) = limbs a from ?_, val_limbs]
    apply List.ext_getElem
    · simp [nl]
    · intro i h2 h3
      have h4 := h1 i _ (vals_get (limbs a) i h3)
      rw [List.getElem_map, List.getElem_range, h4]
      simp only [Int.toNat_natCast]
      exact gl_get h3
theorem Boxed.keepN {W : World} {k : Nat} {t : TypeId} {A : Option Addr} {n c : Nat} {v : Value} (h : Boxed W k t (.slice A n c)) {X : Option Addr} {x m : Nat} (hN : NatV W X x m) : NatV (W.setCell ⟨k, 0, none⟩ v) X x m :=
  BoxA.keep (W := W) (k := k) (t := t) (us := #[.slice A n c]) ⟨h⟩ (by intro u hu; simp at hu; subst hu; exact notU_slice _ _ _) (fun j hj => Below.heap_setCell _ _ _ _ (by simpa using hj)) hN
theorem nl_max {a b k : Nat} (ha : nl a ≤ k) (hb : nl b ≤ k) : nl (max a b) ≤ k := by
  rcases Nat.le_total a b with h | h
  · rw [Nat.max_eq_right h]; exact hb
  · rw [Nat.max_eq_left h]; exact ha
theorem u_set {W : World} {k : Nat} {t : TypeId} {v u : Value} (h : Boxed W k t v) (hv : NotU v) (p : Addr) (x : Nat) (e : W.cell? p = some (.int .u32 (x : Nat))) : (W.setCell ⟨k, 0, none⟩ u).cell? p = some (.int .u32 (x : Nat)) := by
  have hne : p.block ≠ k := fun e2 => by
    unfold World.cell? at e
    rw [e2, show W.heap[k]? = _ from h] at e
    simp only at e
    split at e
    · cases e
    · have hm := Array.mem_of_getElem? e
      simp at hm
      exact hv x hm.symm
  rw [World.cell?_of_block (w := W) (a := p) (Below.heap_setCell _ _ _ _ (by simpa using hne))]
  exact e
theorem mv_two (W : World) (Ba Bb : Nat) (u v : Value) {t t' : TypeId} {x y : Value} (ha : Boxed W Ba t x) (hb : Boxed (W.setCell ⟨Ba, 0, none⟩ u) Bb t' y) (hx : NotU x) (hy : NotU y) : MvU Ba Bb W ((W.setCell ⟨Ba, 0, none⟩ u).setCell ⟨Bb, 0, none⟩ v) :=
  ⟨rfl, rfl, rfl, by simp [World.setCell], fun k _ h1 h2 => by rw [Below.heap_setCell _ _ _ _ (by simpa using h2), Below.heap_setCell _ _ _ _ (by simpa using h1)], fun p n e => u_set hb hy p n (u_set ha hx p n e)⟩
theorem rests1_in (l Ba Bb : Nat) (a b : Nat) (hla : nl a ≤ 16777216) (hlb : nl b ≤ 16777216) (hne : Ba ≠ Bb)
    (J Jx : List It → World → Prop) (hJd : ∀ pre W W', J pre W → Below W.heap.size W W' → J pre W') (hJm : ∀ s A B, J s A → MvU Ba Bb A B → J s B)
    (hY : ∀ pre x W, J pre W → EuH a b pre x W → YieldAt Fence.wide 2 Tryz.prog l x.enc W fun e W' =>
      (e = .returned (.bool true) ∧ J (pre ++ [x]) W' ∧ KpU Ba Bb W W') ∨ (e = .returned (.bool false) ∧ Jx (pre ++ [x]) W' ∧ KpU Ba Bb W W'))
    (A : Option Addr) (c : Nat) (B : Option Addr) (d : Nat) (W : World) (h1 : Boxed W Ba 22 (.slice A (nl a) c)) (h2 : Boxed W Bb 22 (.slice B (nl b) d))
    (hA : NatV W A c a) (hB : NatV W B d b) (h0 : J [] W) :
    CallsIn Fence.wide 3 Tryz.prog 140 #[.func (.yield l) #[] #[], .pointer (some ⟨Ba, 0, none⟩), .pointer (some ⟨Bb, 0, none⟩)] W fun e W' =>
      (∃ v, e = .returned v) ∧ ((∃ xs, EuS a b xs W' ∧ J xs W') ∨ (∃ pre, EuP a b pre W' ∧ Jx pre W')) := by
  refine callsIn_of_wp Tryz.func140 rfl trivial ?_ rfl
  simp only [Tryz.ntmps140, List.size_toArray, List.length_cons, List.length_nil, Nat.reduceAdd, Nat.reduceSub, Array.replicate_succ, Array.replicate_zero, List.push_toArray, List.append_toArray, List.nil_append, List.cons_append]
  have HY := Lib.hid hY
  clear hY
  gi_wp2_with (fail)
  gi_loopw [4, 5, 6] (fun u4 u5 u6 wr => ∃ (pre : List It) (x : It), J pre wr ∧ EuH a b pre x wr ∧ Boxed wr Ba 22 (.slice x.A (nl x.a) x.c) ∧ Boxed wr Bb 22 (.slice x.B (nl x.b) x.d) ∧ x.a ≤ max a b ∧ x.b ≤ max a b) (fun u4 u5 u6 wr => natAt wr (wr.cell? ⟨Bb, 0, none⟩))
  case atStart => exact ⟨[], ⟨A, c, a, B, d, b⟩, h0, ⟨⟨hA, hB⟩, rfl, fun i h => by simp at h⟩, h1, h2, by simp; omega, by simp; omega⟩
  case round =>
    obtain ⟨pre, ⟨A, c, x, B, d, y⟩, hJ, hH, hba, hbb, hxm, hym⟩ := hrel
    have hxa : nl x ≤ 16777216 := Nat.le_trans (nl_mono hxm) (nl_max hla hlb)
    have hyb : nl y ≤ 16777216 := Nat.le_trans (nl_mono hym) (nl_max hla hlb)
    have ca := hba.cell
    have cb := hbb.cell
    have cm : natAt wr (wr.cell? ⟨Bb, 0, none⟩) = y := by rw [cb]; exact hH.1.2.at_
    obtain ⟨fn, tmps, assign, body, hy, hR⟩ := HY.out pre _ wr hJ hH
    simp only [It.enc] at hy
    have HR := Lib.hid (hR.mono (R' := fun e W' => ∃ t, e = .returned (.bool t) ∧ KpU Ba Bb wr W' ∧ Hid ((t = true ∧ J (pre ++ [⟨A, c, x, B, d, y⟩]) W') ∨ (t = false ∧ Jx (pre ++ [⟨A, c, x, B, d, y⟩]) W'))) (by
      rintro e W' (⟨rfl, h1, h2⟩ | ⟨rfl, h1, h2⟩)
      · exact ⟨true, rfl, h2, Lib.hid (.inl ⟨rfl, h1⟩)⟩
      · exact ⟨false, rfl, h2, Lib.hid (.inr ⟨rfl, h1⟩)⟩))
    have H1 := hH.1.1
    have H2 := hH.1.2
    have H3 := Lib.hid hH.2
    replace hba := Lib.hid hba
    replace hbb := Lib.hid hbb
    replace cm := Lib.hid cm
    replace hJd := Lib.hid hJd
    replace hJm := Lib.hid hJm
    clear hR hJ hH
    gi_wp2_with (fail)
    refine (Hid.out HR).mono ?_
    rintro e W' ⟨t, rfl, K, ht⟩
    have hb2 : Boxed W' Bb 22 (.slice B (nl y) d) := K.b _ rfl hbb.out
    have ha2 : Boxed W' Ba 22 (.slice A (nl x) c) := K.a _ rfl hba.out
    have hX := H1.kpu K
    have hYy := H2.kpu K
    have E' : EuH a b pre ⟨A, c, x, B, d, y⟩ W' := ⟨⟨hX, hYy⟩, H3.out⟩
    have ca2 := ha2.cell
    have cb2 := hb2.cell
    cases t with
    | false =>
      obtain ⟨h, _⟩ | ⟨_, hx⟩ := ht.out
      · cases h
      · replace hx := Lib.hid hx
        replace E' := Lib.hid E'
        gi_wp2_with (fail)
        refine bodyPost_end (results_none rfl _ _ _) rfl ?_
        exact ⟨⟨_, rfl⟩, .inr ⟨_, ⟨_, _, rfl, E'.out⟩, hx.out⟩⟩
    | true =>
      obtain ⟨_, hJ2⟩ | ⟨h, _⟩ := ht.out
      · by_cases hy0 : y = 0
        · have t1 : decide (0 < (nl y : Int)) = false := by rw [hy0, nl_zero]; rfl
          have t2 : decide (0 < nl y) = false := by rw [hy0, nl_zero]; rfl
          replace hy0 := Lib.hid hy0
          replace hJ2 := Lib.hid hJ2
          replace E' := Lib.hid E'
          gi_wp2_with (fail)
          refine bodyPost_end (results_none rfl _ _ _) rfl ?_
          exact ⟨⟨_, rfl⟩, .inl ⟨_, ⟨_, _, rfl, E'.out, hy0.out⟩, hJ2.out⟩⟩
        · have t1 : decide (0 < (nl y : Int)) = true := by have := nl_pos.2 hy0; simp; omega
          have t2 : decide (0 < nl y) = true := by have := nl_pos.2 hy0; simp; omega
          have CD := ddivmod_c A c x B d y W' hX hYy hxa hyb (by omega)
          replace CD := Lib.hid CD
          replace hJ2 := Lib.hid hJ2
          replace E' := Lib.hid E'
          replace hy0 := Lib.hid hy0
          replace ha2 := Lib.hid ha2
          replace hb2 := Lib.hid hb2
          gi_wp2_with (refine ⟨trivial, ?_⟩; gi_at_call 98; (with_reducible refine (callsIn_wide.2 (Hid.out CD)).mono ?_); rintro e W2 ⟨X, cx, Y, cy, rfl, hq, hr, hbd⟩; have ha3 : Boxed W2 Ba 22 (.slice A (nl x) c) := heap_below hbd ha2.out; have hb3 : Boxed W2 Bb 22 (.slice B (nl y) d) := heap_below hbd hb2.out; have ca3 := ha3.cell; have cb3 := hb3.cell; have fa3 := ha3.frozen; have fb3 := hb3.frozen)
          go_roundw
          case rel =>
            have hb4 : Boxed (W2.setCell ⟨Ba, 0, none⟩ (.slice B (nl y) d)) Bb 22 (.slice B (nl y) d) := hb3.other (fun e => hne e.symm) _
            have hJ3 := hJm.out _ _ _ (hJd.out _ _ _ hJ2.out hbd) (mv_two W2 Ba Bb (.slice B (nl y) d) (.slice Y (nl (x % y)) cy) ha3 hb4 (notU_slice _ _ _) (notU_slice _ _ _))
            have n1 := Boxed.keepN hb4 (v := .slice Y (nl (x % y)) cy) (Boxed.keepN ha3 (v := .slice B (nl y) d) (hYy.below hbd))
            have n2 := Boxed.keepN hb4 (v := .slice Y (nl (x % y)) cy) (Boxed.keepN ha3 (v := .slice B (nl y) d) hr)
            refine ⟨_, ⟨B, d, y, Y, cy, x % y⟩, hJ3, ⟨⟨n1, n2⟩, ?_, ?_⟩, (Boxed.set _ ha3).other hne _, Boxed.set _ hb4, hym, Nat.le_trans (Nat.mod_le _ _) hxm⟩
            · have h := H3.out.1
              simp only [List.length_append, List.length_cons, List.length_nil, euc]
              rw [← h]
            · intro i hi
              simp only [List.length_append, List.length_cons, List.length_nil] at hi
              by_cases e : i = pre.length
              · rw [e, ← H3.out.1]; exact hy0.out
              · exact H3.out.2 i (by omega)
          case measure =>
            have hb4 : Boxed (W2.setCell ⟨Ba, 0, none⟩ (.slice B (nl y) d)) Bb 22 (.slice B (nl y) d) := hb3.other (fun e => hne e.symm) _
            have n2 := Boxed.keepN hb4 (v := .slice Y (nl (x % y)) cy) (Boxed.keepN ha3 (v := .slice B (nl y) d) hr)
            rw [cm.out, (Boxed.set _ hb4).cell, n2.at_]
            exact Nat.mod_lt _ (Nat.pos_of_ne_zero hy0.out)
      · cases h
theorem below_grown {W W' : World} (hb : Below W.heap.size W W') : W.grownBy W' none := ⟨hb.os, hb.tape, hb.output, hb.size, fun k hk _ => hb.block k hk⟩
theorem rests_seq (A : Option Addr) (c a : Nat) (B : Option Addr) (d b : Nat) (Ba Bb : Nat) (hne : Ba ≠ Bb) (w : World) (hla : nl a ≤ 16777216) (hlb : nl b ≤ 16777216) (h1 : Boxed w Ba 22 (.slice A (nl a) c)) (h2 : Boxed w Bb 22 (.slice B (nl b) d)) (hA : NatV w A c a) (hB : NatV w B d b) :
    SeqX Fence.wide 3 Tryz.prog 140 #[.pointer (some ⟨Ba, 0, none⟩), .pointer (some ⟨Bb, 0, none⟩)] It.enc (EuH a b) (KpU Ba Bb) (MvU Ba Bb) (EuS a b) (EuP a b) w := by
  intro l J Jx W hW hJ hJx hJm hY h0
  exact rests1_in l Ba Bb a b hla hlb hne J Jx (fun pre W W' h hb => hJ pre W W' none h (below_grown hb) (fun r e => by cases e)) hJm hY A c B d W (heap_below hW h1) (heap_below hW h2) (hA.below hW) (hB.below hW) h0
theorem NatV.kept {W W' : World} {A : Option Addr} {c n : Nat} {row : Option Nat} (h : NatV W A c n) (hg : W.grownBy W' row) (hr : ∀ r, row = some r → ∃ o : Obj, W.heap[r]? = some o ∧ o.isCells = false) : NatV W' A c n := by
  refine ⟨?_, h.cap, h.cmax⟩
  rcases h.rd with h1 | ⟨ad, rfl, h1⟩
  · exact .inl h1
  · exact .inr ⟨ad, rfl, fun i u hi => cell_kept (h1 i u hi) hg hr⟩
theorem EuH.kept {a b : Nat} {pre : List It} {x : It} {W W' : World} {row : Option Nat} (h : EuH a b pre x W) (hg : W.grownBy W' row) (hr : ∀ r, row = some r → ∃ o : Obj, W.heap[r]? = some o ∧ o.isCells = false) : EuH a b pre x W' :=
  ⟨⟨h.1.1.kept hg hr, h.1.2.kept hg hr⟩, h.2⟩
theorem own_euH (a b n : Nat) : OwnFrom n (fun (p : List It × It) W => EuH a b p.1 p.2 W) := fun s W W' row hs hg hr => hs.kept hg (fun r e => (hr r e).2)
theorem own_euS (a b n : Nat) : OwnFrom n (EuS a b) := fun s W W' row hs hg hr => by
  obtain ⟨pre, x, h1, h2, h3⟩ := hs
  exact ⟨pre, x, h1, h2.kept hg (fun r e => (hr r e).2), h3⟩
theorem own_euP (a b n : Nat) : OwnFrom n (EuP a b) := fun s W W' row hs hg hr => by
  obtain ⟨pre, x, h1, h2⟩ := hs
  exact ⟨pre, x, h1, h2.kept hg (fun r e => (hr r e).2)⟩
theorem kpu_set {W : World} {k Ba Bb : Nat} {t : TypeId} {u v : Value} (h : Boxed W k t u) (hu : NotU u) (ha : Ba ≠ k) (hb : Bb ≠ k) : KpU Ba Bb W (W.setCell ⟨k, 0, none⟩ v) := by
  refine ⟨fun p x e => ?_, fun o _ e => (Below.heap_setCell _ _ _ _ (by simpa using ha)).trans e, fun o _ e => (Below.heap_setCell _ _ _ _ (by simpa using hb)).trans e⟩
  have hne : p.block ≠ k := fun e2 => by
    unfold World.cell? at e
    rw [e2, show W.heap[k]? = _ from h] at e
    simp only at e
    split at e
    · cases e
    · have hm := Array.mem_of_getElem? e
      simp at hm
      exact hu x hm.symm
  rw [World.cell?_of_block (w := W) (a := p) (Below.heap_setCell _ _ _ _ (by simpa using hne))]
  exact e
def outv (pre : List It) : Value := match pre.getLast? with
  | none => .slice none 0 0
  | some x => .slice x.A (nl x.a) x.c
theorem outv_snoc (pre : List It) (x : It) : outv (pre ++ [x]) = .slice x.A (nl x.a) x.c := by simp [outv]
theorem outv_notU (pre : List It) : NotU (outv pre) := by
  unfold outv; split <;> exact notU_slice _ _ _
theorem mvu_below {w W W' : World} {s Ba Bb : Nat} (h : Below s w W) (hm : MvU Ba Bb W W') (ha : s ≤ Ba) (hb : s ≤ Bb) (hs : s ≤ W.heap.size) : Below s w W' :=
  h.trans ⟨hm.os, hm.tape, hm.output, hm.size, fun k hk => hm.block k (by omega) (by omega) (by omega)⟩
theorem gcd_c (A : Option Addr) (c a : Nat) (B : Option Addr) (d b : Nat) (w : World) (hA : NatV w A c a) (hB : NatV w B d b) (hla : nl a ≤ 16777216) (hlb : nl b ≤ 16777216) :
    Calls Tryz.prog 92 #[.slice A (nl a) c, .slice B (nl b) d] w (RetN w (Nat.gcd a b)) := by
  refine (callsIn_wide (n := 4)).1 ?_
  refine callsIn_of_wp_marks Tryz.func92 rfl trivial ?_ rfl
  simp only [Tryz.ntmps92, List.size_toArray, List.length_cons, List.length_nil, Nat.reduceAdd, Nat.reduceSub, Array.replicate_succ, Array.replicate_zero, List.push_toArray, List.append_toArray, List.nil_append, List.cons_append]
  gi_wp2_with (refine ⟨trivial, ?_⟩; gi_at_call 122; refine (callsIn_wide.2 (rests_c A (nl a) c B (nl b) d _)).mono ?_; rintro e w' ⟨rfl, rfl⟩)
  obtain ⟨s, hs0⟩ : ∃ s, s = w.heap.size := ⟨_, rfl⟩
  obtain ⟨W8, hW8⟩ : ∃ W8, (((w.alloc (.cells #[.slice none 0 0] 22)).alloc (.cells #[.slice A (nl a) c] 22)).alloc (.cells #[.slice B (nl b) d] 22)) = W8 := ⟨_, rfl⟩
  have bO : Boxed W8 s 22 (.slice none 0 0) := by
    subst hs0 hW8; unfold Boxed; repeat (first | exact at_new (by simp) | refine at_old (by simp <;> omega) ?_)
  have bA : Boxed W8 (s + 1) 22 (.slice A (nl a) c) := by
    subst hs0 hW8; unfold Boxed; repeat (first | exact at_new (by simp) | refine at_old (by simp <;> omega) ?_)
  have bB : Boxed W8 (s + 2) 22 (.slice B (nl b) d) := by
    subst hs0 hW8; unfold Boxed; repeat (first | exact at_new (by simp) | refine at_old (by simp <;> omega) ?_)
  have hsz : W8.heap.size = s + 3 := by subst hs0 hW8; simp
  have hB0 : Below s w W8 := by
    subst hs0 hW8
    exact ((((Below.refl _ w).alloc (Nat.le_refl _) _).alloc (by simp) _).alloc (by simp; omega) _)
  have hA8 := hA.below (hs0 ▸ hB0)
  have hB8 := hB.below (hs0 ▸ hB0)
  rw [← hs0]
  simp only [Nat.add_assoc, Nat.reduceAdd]
  rw [hW8]
  clear hW8
  have HS := Lib.hid hs0
  clear hs0
  refine wpIn_rangeX (w0 := W8) rfl (by omega) (gf := 140) (lb := #[.pointer (some ⟨s + 1, 0, none⟩), .pointer (some ⟨s + 2, 0, none⟩)]) rfl trivial (enters_of Tryz.func140 (by kernel_rfl) rfl)
    (rests_seq A c a B d b (s + 1) (s + 2) (by omega) W8 hla hlb bA bB hA8 hB8) (fun X Y h k h1 h2 => h.block k h2 (by omega) (by omega))
    KpU.t (fun W l o o' h1 h2 h3 h4 => KpU.bk W l o o' h1 h2 h3 h4) (Below.refl _ _) (fun _ => rfl) (own_euH a b _) (own_euS a b _) (own_euP a b _)
    (fun pre W => Boxed W s 22 (outv pre) ∧ Below s w W ∧ s + 3 ≤ W.heap.size) (fun _ _ _ => False)
    ?own (fun _ _ _ _ _ hs _ _ => hs) ?mv ?start
    (fun x => { tmps := #[.slice A (nl a) c, .slice B (nl b) d, undef, undef, .slice none 0 0, .pointer (some ⟨s, 0, none⟩), .slice x.A (nl x.a) x.c, .slice A (nl a) c, .slice B (nl b) d,
      .func (.func 140) #[] #[.pointer (some ⟨s + 1, 0, none⟩), .pointer (some ⟨s + 2, 0, none⟩)], .slice x.A (nl x.a) x.c, .slice x.B (nl x.b) x.d, undef, undef], defers := [] }) ?assign ?body ?done ?stop
  case own =>
    refine OwnFrom.and (Own.from (boxed_own _ _ _) _) (OwnFrom.and (ownFrom_below (Nat.le_of_eq HS.out) (by omega)) ?_)
    intro x Y Z row h hg hr
    exact Nat.le_trans h hg.size
  case mv =>
    rintro x Y Z ⟨h1, h2, h3⟩ hm
    exact ⟨(hm.block s (by omega) (by omega) (by omega)).trans h1, mvu_below h2 hm (by omega) (by omega) (by omega), Nat.le_trans h3 hm.size⟩
  case start => exact ⟨bO, hB0, by omega⟩
  case assign =>
    intro l x W K hK
    simp only [It.enc]
    gi_wp2
    exact hK
  case stop =>
    rintro D c pre W _ _ h _
    exact h.elim
  case done =>
    rintro D ys W hD ⟨pre, x, rfl, hE, hx0⟩ ⟨hv, hB, hs3⟩ hK
    rw [outv_snoc] at hv
    have hc := hv.cell
    have hg : x.a = Nat.gcd a b := by
      have h1 := euc_gcd a b pre.length hE.2.2
      rw [← hE.2.1] at h1
      simp only [hx0, Nat.gcd_zero_right] at h1
      exact h1
    have hX := hE.1.1
    replace hg := Lib.hid hg
    replace hE := Lib.hid hE
    replace hx0 := Lib.hid hx0
    gi_wp2_with (fail)
    have hDlt : D < W.heap.size := (Array.getElem?_eq_some_iff.1 hK).1
    refine ⟨by simp, .inl ⟨_, _, rfl, run_takeDeferred hK, ?_⟩⟩
    have hp : Below s w (W.putObj D (.deferred none)) := hB.trans (belowK_b (w := W8) (by omega) W D _ _ hD hK rfl rfl)
    refine ⟨_, results_tmp rfl _ _ _, ?_⟩
    have hX2 := hX.kept (grownBy_putObj' W D (.deferred none)) (fun r e => by cases e; exact ⟨_, hK, rfl⟩)
    rw [← hg.out]
    exact ⟨x.A, x.c, rfl, hX2, hp.mono (Nat.le_of_eq HS.out.symm)⟩
  case body =>
    rintro l pre x W ⟨hv, hB, hs3⟩ hE
    have hc := hv.cell
    have hf := hv.frozen
    gi_wp2_with (fail)
    refine ⟨KeepsOthers.setCell _ _ _, kpu_set hv (outv_notU pre) (by omega) (by omega), ?_, hB.setCell (p := ⟨s, 0, none⟩) (Nat.le_refl _) _, by simpa [World.setCell] using hs3⟩
    rw [outv_snoc]
    exact Boxed.set _ hv
end Go.Proofs.YtopigejgadnkaaaGreatDoor

namespace Go.Proofs.YtopigejgadnkaaaGreatDoor
open Go.RowKit Go.Shelf
attribute [local go_sem] max2_i min2_i max_two min_two

def RetR (w : World) (q : Rat) (e : Ending) (w' : World) : Prop := ∃ A c B d, e = .returned (.agg #[.bool (sg q.num), .slice A (nl (mg q.num)) c, .slice B (nl q.den) d]) ∧ NatV w' A c (mg q.num) ∧ NatV w' B d q.den ∧ Below w.heap.size w w'
def RetRe (w : World) (q : Rat) (e : Ending) (w' : World) : Prop := ∃ A c B d, e = .returned (.tuple #[.agg #[.bool (sg q.num), .slice A (nl (mg q.num)) c, .slice B (nl q.den) d], .int .i64 0]) ∧ NatV w' A c (mg q.num) ∧ NatV w' B d q.den ∧ Below w.heap.size w w'
theorem rwhole0_c (aA : Option Addr) (ac a : Nat) (w : World) (ha : NatV w aA ac a)  :
    Calls Tryz.prog 44 #[.slice aA (nl a) ac] w (RetI w (a : Int)) := by
  go_enter Tryz.func44, Tryz.ntmps44
  go_wp2_with (fail)
  obtain ⟨hb1, Rr⟩ := bx1 w #[.bool false, .slice aA (nl a) ac] 24
  replace ha := ha.below hb1
  have HBT := hb1
  clear hb1
  have qr0 := Rr.c (i := 0) rfl
  have qr1 := Rr.c (i := 1) rfl
  refine bodyPost_ret (v := .agg #[.bool false, .slice aA (nl a) ac]) (by simp [results, Tryz.results44, go_sem, qr0, qr1]) rfl ?_
  exact ⟨aA, ac, by rw [mg_nat, sg_f (Int.natCast_nonneg a)], by rw [mg_nat]; exact ha, HBT⟩
theorem rwhole_c (aA : Option Addr) (ac : Nat) (a : Int) (w : World) (ha : NatV w aA ac (mg a))  :
    Calls Tryz.prog 7 #[.agg #[.bool (sg a), .slice aA (nl (mg a)) ac]] w (RetR w (a : Rat)) := by
  go_enter Tryz.func7, Tryz.ntmps7
  go_wp2_with (fail)
  obtain ⟨hb1, Ra, Rr, Rl⟩ := bx3 w #[.bool (sg a), .slice aA (nl (mg a)) ac] 24 #[.bool (sg a), .slice aA (nl (mg a)) ac, .slice (some ⟨w.heap.size + 1 + 1, 0, none⟩) 1 1] 26 #[.int .u32 1] 62
  replace ha := ha.below hb1
  have HBT := hb1
  clear hb1
  have qa0 := Ra.c (i := 0) rfl
  have qa1 := Ra.c (i := 1) rfl
  have qr0 := Rr.c (i := 0) rfl
  have qr1 := Rr.c (i := 1) rfl
  have qr2 := Rr.c (i := 2) rfl
  have ql0 := Rl.c (i := 0) rfl
  have hone := nat_one _ _ Rl.at_
  refine bodyPost_ret (v := .agg #[.bool (sg a), .slice aA (nl (mg a)) ac, .slice (some ⟨w.heap.size + 1 + 1, 0, none⟩) 1 1]) (by simp [results, Tryz.results7, go_sem, qr0, qr1, qr2]) rfl ?_
  exact ⟨aA, ac, some ⟨w.heap.size + 1 + 1, 0, none⟩, 1, by rw [Rat.num_intCast, Rat.den_intCast, nl_one], by rw [Rat.num_intCast]; exact ha, by rw [Rat.den_intCast]; exact hone, HBT⟩
theorem gcd_parts {n d : Int} (hd : 0 < d) : n % (Nat.gcd (mg n) (mg d) : Int) = 0 ∧ d % (Nat.gcd (mg n) (mg d) : Int) = 0 ∧ 0 < Nat.gcd (mg n) (mg d) ∧ (Rat.divInt n d).num = n / (Nat.gcd (mg n) (mg d) : Int) ∧ ((Rat.divInt n d).den : Int) = d / (Nat.gcd (mg n) (mg d) : Int) ∧ (Rat.divInt n d).den = mg (d / (Nat.gcd (mg n) (mg d) : Int)) ∧ 0 ≤ d / (Nat.gcd (mg n) (mg d) : Int) := by
  have hg : 0 < Nat.gcd (mg n) (mg d) := Nat.gcd_pos_of_pos_right _ (mg_pos.2 (by omega))
  have h1 : ((Nat.gcd (mg n) (mg d) : Nat) : Int) ∣ n := by rw [← Int.dvd_natAbs]; exact Int.natCast_dvd_natCast.2 (Nat.gcd_dvd_left _ _)
  have h2 : ((Nat.gcd (mg n) (mg d) : Nat) : Int) ∣ d := by rw [← Int.dvd_natAbs]; exact Int.natCast_dvd_natCast.2 (Nat.gcd_dvd_right _ _)
  have hdd : d = ((mg d : Nat) : Int) := by unfold mg; omega
  have hden : (Rat.divInt n d).den = mg d / Nat.gcd (mg n) (mg d) := by
    conv => lhs; rw [hdd]
    rw [Rat.divInt_ofNat, Rat.den_mkRat, if_neg (show mg d ≠ 0 from fun e => by have := mg_zero.1 e; omega), Nat.gcd_comm]; rfl
  have hq : d / ((Nat.gcd (mg n) (mg d) : Nat) : Int) = ((mg d / Nat.gcd (mg n) (mg d) : Nat) : Int) := by
    conv => lhs; lhs; rw [hdd]
    exact (Int.natCast_ediv _ _).symm
  refine ⟨Int.emod_eq_zero_of_dvd h1, Int.emod_eq_zero_of_dvd h2, hg, ?_, ?_, ?_, ?_⟩
  · conv => lhs; rw [hdd]
    rw [Rat.divInt_ofNat, Rat.num_mkRat, if_neg (show mg d ≠ 0 from fun e => by have := mg_zero.1 e; omega), Nat.gcd_comm]; rfl
  · rw [hden, hq]
  · rw [hden, hq, mg_nat]
  · rw [hq]; exact Int.natCast_nonneg _
theorem rmake_q (aA : Option Addr) (ac : Nat) (a : Int) (bA : Option Addr) (bc : Nat) (b : Int) (w : World) (ha : NatV w aA ac (mg a)) (hb : NatV w bA bc (mg b)) (la : nl (mg a) ≤ 262144) (lb : nl (mg b) ≤ 262144) (hb0 : 0 < b) :
    Calls Tryz.prog 45 #[.agg #[.bool (sg a), .slice aA (nl (mg a)) ac], .agg #[.bool (sg b), .slice bA (nl (mg b)) bc]] w (RetRe w (Rat.divInt a b)) := by
  obtain ⟨p1, p2, p3, p4, p5, p6, p7⟩ := gcd_parts (n := a) hb0
  have hne : b ≠ 0 := by omega
  have hsg : b.sign = 1 := Int.sign_eq_one_of_pos hb0
  obtain ⟨g, Eg⟩ : ∃ g, g = Nat.gcd (mg a) (mg b) := ⟨_, rfl⟩
  rw [← Eg] at p1 p2 p3 p4 p5 p6 p7
  have lg : nl g ≤ 262144 := by rw [Eg]; exact Nat.le_trans (nl_mono (Nat.gcd_le_right _ (mg_pos.2 hne))) lb
  have hg0 : (g : Int) ≠ 0 := by omega
  have lg2 : nl (mg (g : Int)) ≤ 1048576 := by rw [mg_nat]; omega
  replace p1 := Lib.hid p1
  replace p2 := Lib.hid p2
  replace p4 := Lib.hid p4
  replace p5 := Lib.hid p5
  replace p6 := Lib.hid p6
  replace p7 := Lib.hid p7
  replace hb0 := Lib.hid hb0
  obtain ⟨hb1, Ra, Rb, Rr⟩ := bx3 w #[.bool (sg a), .slice aA (nl (mg a)) ac] 24 #[.bool (sg b), .slice bA (nl (mg b)) bc] 24 #[.bool false, .slice none 0 0, .slice none 0 0] 26
  replace ha := ha.below hb1
  replace hb := hb.below hb1
  have HBT := hb1
  clear hb1
  have qa0 := Ra.c (i := 0) rfl
  have qa1 := Ra.c (i := 1) rfl
  have qb0 := Rb.c (i := 0) rfl
  have qb1 := Rb.c (i := 1) rfl
  have qr0 := Rr.c (i := 0) rfl
  have qr1 := Rr.c (i := 1) rfl
  have qr2 := Rr.c (i := 2) rfl
  go_enter Tryz.func45, Tryz.ntmps45
  go_wp2_with (fail)
  have CG := isign_c bA bc b (((w.alloc (.cells #[.bool (sg a), .slice aA (nl (mg a)) ac] 24)).alloc (.cells #[.bool (sg b), .slice bA (nl (mg b)) bc] 24)).alloc (.cells #[.bool false, .slice none 0 0, .slice none 0 0] 26))
  rw [hsg] at CG
  replace CG := Lib.hid CG
  refine (Calls.mono (CG.out) ?_)
  rintro e W2 ⟨rfl, hb2⟩
  replace ha := ha.below hb2
  replace hb := hb.below hb2
  replace Ra := Ra.below hb2
  replace qa0 := cbl hb2 qa0
  replace qa1 := cbl hb2 qa1
  replace Rb := Rb.below hb2
  replace qb0 := cbl hb2 qb0
  replace qb1 := cbl hb2 qb1
  replace Rr := Rr.below hb2
  replace qr0 := cbl hb2 qr0
  replace qr1 := cbl hb2 qr1
  replace qr2 := cbl hb2 qr2
  replace HBT := Below.cons HBT hb2
  clear hb2
  go_wp2_with (fail)
  have CC := gcd_c aA ac (mg a) bA bc (mg b) W2 ha hb (by omega) (by omega)
  rw [← Eg] at CC
  replace CC := Lib.hid CC
  replace Eg := Lib.hid Eg
  refine (Calls.mono CC.out ?_)
  rintro e W3 ⟨Xg, cg, rfl, hg, hb3⟩
  replace ha := ha.below hb3
  replace hb := hb.below hb3
  replace Ra := Ra.below hb3
  replace qa0 := cbl hb3 qa0
  replace qa1 := cbl hb3 qa1
  replace Rb := Rb.below hb3
  replace qb0 := cbl hb3 qb0
  replace qb1 := cbl hb3 qb1
  replace Rr := Rr.below hb3
  replace qr0 := cbl hb3 qr0
  replace qr1 := cbl hb3 qr1
  replace qr2 := cbl hb3 qr2
  replace HBT := Below.cons HBT hb3
  clear hb3
  go_wp2_with (fail)
  obtain ⟨gi, Egi⟩ : ∃ zq : Int, zq = (g : Int) := ⟨_, rfl⟩
  refine (Calls.mono (R := RetI W3 gi) (by rw [Egi]; with_reducible exact (rwhole0_c Xg cg g _ hg)) ?_)
  replace Egi := Lib.hid Egi
  rintro e W4 ⟨Xgi, cgi, rfl, hgi, hb4⟩
  replace ha := ha.below hb4
  replace hb := hb.below hb4
  replace Ra := Ra.below hb4
  replace qa0 := cbl hb4 qa0
  replace qa1 := cbl hb4 qa1
  replace Rb := Rb.below hb4
  replace qb0 := cbl hb4 qb0
  replace qb1 := cbl hb4 qb1
  replace Rr := Rr.below hb4
  replace qr0 := cbl hb4 qr0
  replace qr1 := cbl hb4 qr1
  replace qr2 := cbl hb4 qr2
  replace hg := hg.below hb4
  replace HBT := Below.cons HBT hb4
  clear hb4
  have hzgi : gi = (g : Int) := by exact Egi.out
  subst hzgi
  obtain ⟨hb5, Rg⟩ := bx1 W4 #[.bool (sg (((g : Int)))), .slice Xgi (nl (mg (((g : Int))))) cgi] 24
  replace ha := ha.below hb5
  replace hb := hb.below hb5
  replace Ra := Ra.below hb5
  replace qa0 := cbl hb5 qa0
  replace qa1 := cbl hb5 qa1
  replace Rb := Rb.below hb5
  replace qb0 := cbl hb5 qb0
  replace qb1 := cbl hb5 qb1
  replace Rr := Rr.below hb5
  replace qr0 := cbl hb5 qr0
  replace qr1 := cbl hb5 qr1
  replace qr2 := cbl hb5 qr2
  replace hg := hg.below hb5
  replace hgi := hgi.below hb5
  replace HBT := Below.cons HBT hb5
  clear hb5
  have qg0 := Rg.c (i := 0) rfl
  have qg1 := Rg.c (i := 1) rfl
  go_wp2_with (fail)
  obtain ⟨u, Eu⟩ : ∃ zq : Int, zq = a / (g : Int) := ⟨_, rfl⟩
  have CE := iexact_c aA ac a Xgi cgi (g : Int) (W4.alloc (.cells #[.bool (sg (((g : Int)))), .slice Xgi (nl (mg (((g : Int))))) cgi] 24)) ha hgi (by omega) lg2 hg0 p1.out
  rw [← Eu] at CE
  replace Eu := Lib.hid Eu
  replace CE := Lib.hid CE
  refine (Calls.mono CE.out ?_)
  clear CE
  rintro e W6 ⟨Xu, cu, rfl, hu, hb6⟩
  replace ha := ha.below hb6
  replace hb := hb.below hb6
  replace Ra := Ra.below hb6
  replace qa0 := cbl hb6 qa0
  replace qa1 := cbl hb6 qa1
  replace Rb := Rb.below hb6
  replace qb0 := cbl hb6 qb0
  replace qb1 := cbl hb6 qb1
  replace Rr := Rr.below hb6
  replace qr0 := cbl hb6 qr0
  replace qr1 := cbl hb6 qr1
  replace qr2 := cbl hb6 qr2
  replace hg := hg.below hb6
  replace hgi := hgi.below hb6
  replace Rg := Rg.below hb6
  replace qg0 := cbl hb6 qg0
  replace qg1 := cbl hb6 qg1
  replace HBT := Below.cons HBT hb6
  clear hb6
  obtain ⟨hb7, Ru⟩ := bx1 W6 #[.bool (sg u), .slice Xu (nl (mg u)) cu] 24
  replace ha := ha.below hb7
  replace hb := hb.below hb7
  replace Ra := Ra.below hb7
  replace qa0 := cbl hb7 qa0
  replace qa1 := cbl hb7 qa1
  replace Rb := Rb.below hb7
  replace qb0 := cbl hb7 qb0
  replace qb1 := cbl hb7 qb1
  replace Rr := Rr.below hb7
  replace qr0 := cbl hb7 qr0
  replace qr1 := cbl hb7 qr1
  replace qr2 := cbl hb7 qr2
  replace hg := hg.below hb7
  replace hgi := hgi.below hb7
  replace Rg := Rg.below hb7
  replace qg0 := cbl hb7 qg0
  replace qg1 := cbl hb7 qg1
  replace hu := hu.below hb7
  replace HBT := Below.cons HBT hb7
  clear hb7
  have qu0 := Ru.c (i := 0) rfl
  have qu1 := Ru.c (i := 1) rfl
  go_wp2_with (fail)
  obtain ⟨v, Ev⟩ : ∃ zq : Int, zq = b / (g : Int) := ⟨_, rfl⟩
  have CE := iexact_c bA bc b Xgi cgi (g : Int) (W6.alloc (.cells #[.bool (sg u), .slice Xu (nl (mg u)) cu] 24)) hb hgi (by omega) lg2 hg0 p2.out
  rw [← Ev] at CE
  replace Ev := Lib.hid Ev
  replace CE := Lib.hid CE
  refine (Calls.mono CE.out ?_)
  clear CE
  rintro e W8 ⟨Xv, cv, rfl, hv, hb8⟩
  replace ha := ha.below hb8
  replace hb := hb.below hb8
  replace Ra := Ra.below hb8
  replace qa0 := cbl hb8 qa0
  replace qa1 := cbl hb8 qa1
  replace Rb := Rb.below hb8
  replace qb0 := cbl hb8 qb0
  replace qb1 := cbl hb8 qb1
  replace Rr := Rr.below hb8
  replace qr0 := cbl hb8 qr0
  replace qr1 := cbl hb8 qr1
  replace qr2 := cbl hb8 qr2
  replace hg := hg.below hb8
  replace hgi := hgi.below hb8
  replace Rg := Rg.below hb8
  replace qg0 := cbl hb8 qg0
  replace qg1 := cbl hb8 qg1
  replace hu := hu.below hb8
  replace Ru := Ru.below hb8
  replace qu0 := cbl hb8 qu0
  replace qu1 := cbl hb8 qu1
  replace HBT := Below.cons HBT hb8
  clear hb8
  have hvs : sg v = false := sg_f (by rw [Ev.out]; exact p7.out)
  obtain ⟨hb9, Rv⟩ := bx1 W8 #[.bool false, .slice Xv (nl (mg v)) cv] 24
  replace ha := ha.below hb9
  replace hb := hb.below hb9
  replace Ra := Ra.below hb9
  replace qa0 := cbl hb9 qa0
  replace qa1 := cbl hb9 qa1
  replace Rb := Rb.below hb9
  replace qb0 := cbl hb9 qb0
  replace qb1 := cbl hb9 qb1
  replace Rr := Rr.below hb9
  replace qr0 := cbl hb9 qr0
  replace qr1 := cbl hb9 qr1
  replace qr2 := cbl hb9 qr2
  replace hg := hg.below hb9
  replace hgi := hgi.below hb9
  replace Rg := Rg.below hb9
  replace qg0 := cbl hb9 qg0
  replace qg1 := cbl hb9 qg1
  replace hu := hu.below hb9
  replace Ru := Ru.below hb9
  replace qu0 := cbl hb9 qu0
  replace qu1 := cbl hb9 qu1
  replace hv := hv.below hb9
  replace HBT := Below.cons HBT hb9
  clear hb9
  have qv0 := Rv.c (i := 0) rfl
  have qv1 := Rv.c (i := 1) rfl
  have fzr0 := Rr.f (i := 0)
  have fzr1 := Rr.f (i := 1)
  have fzr2 := Rr.f (i := 2)
  go_wp2_with (fail)
  have hnum : u = (Rat.divInt a b).num := by rw [Eu.out]; exact p4.out.symm
  have hden : mg v = (Rat.divInt a b).den := by rw [Ev.out]; exact p6.out.symm
  have RS := Rr.store3 (.bool (sg u)) (.slice Xu (nl (mg u)) cu) (.slice Xv (nl (mg v)) cv)
  have e0 := RS.c (i := 0) rfl
  have e1 := RS.c (i := 1) rfl
  have e2 := RS.c (i := 2) rfl
  refine bodyPost_ret (v := .tuple #[.agg #[.bool (sg u), .slice Xu (nl (mg u)) cu, .slice Xv (nl (mg v)) cv], .int .i64 0]) (by simp [results, Tryz.results45, go_sem, e0, e1, e2]) rfl ?_
  exact ⟨Xu, cu, Xv, cv, by rw [← hnum, ← hden], by rw [← hnum]; exact Rr.keep3 (nuB rfl) hu, by rw [← hden]; exact Rr.keep3 (nuB rfl) hv, Below.store3 HBT (by omega)⟩
end Go.Proofs.YtopigejgadnkaaaGreatDoor

namespace Go.Proofs.YtopigejgadnkaaaGreatDoor
open Go.RowKit

theorem wpAny_inv {P : Program} {ops : Array Oper} {Q : Exit → Act → World → Prop} {md : Region.Mode} (Inv : Array Bool → Act → World → Prop)
    (hdone : ∀ L a w, Inv L a w → Region.ready md ops L = [] → Q .normal a w)
    (hstep : ∀ L a w i, Inv L a w → i < ops.size → L.getD i true = false → (∀ o, ops[i]? = some o → ∀ e ∈ o.after, Region.binds md e = true → L.getD e.on false = true) →
      wpOp P ops Q i (fun a' w' => Inv (L.setIfInBounds i true) a' w') a w) :
    ∀ fuel L a w, Inv L a w → L.size = ops.size → L.toList.count false ≤ fuel → wpAny P md ops Q fuel L a w := by
  intro fuel
  induction fuel with
  | zero =>
    intro L a w hI hs hc
    have hr : Region.ready md ops L = [] := by
      rw [List.eq_nil_iff_forall_not_mem]
      intro i hi
      obtain ⟨h0, o, ho, _⟩ := mem_ready.1 hi
      have hlt : i < L.size := by rw [hs]; exact (Array.getElem?_eq_some_iff.1 ho).1
      have h1 : L.toList.count false = 0 := by omega
      rw [List.count_eq_zero] at h1
      refine h1 ?_
      have h2 : L[i] = false := by simpa [Array.getD, hlt] using h0
      exact h2 ▸ Array.getElem_mem_toList hlt
    exact ⟨hr, hdone L a w hI hr⟩
  | succ fuel ih =>
    intro L a w hI hs hc
    refine ⟨fun hr => hdone L a w hI hr, fun i hi => ?_⟩
    obtain ⟨h0, o, ho, hd⟩ := mem_ready.1 hi
    have hlt : i < ops.size := (Array.getElem?_eq_some_iff.1 ho).1
    refine wpOp_mono (fun a' w' hI' => ih _ a' w' hI' (by simpa using hs) ?_) (hstep L a w i hI hlt h0 (fun o' ho' e he hb => by
      rw [ho] at ho'; cases ho'; exact hd e he hb))
    have hl : i < L.size := by omega
    have h2 : L[i] = false := by simpa [Array.getD, hl] using h0
    have h3 := count_set (L := L.toList) (i := i) (by rw [Array.getElem?_toList, Array.getElem?_eq_getElem hl, h2])
    rw [Array.toList_setIfInBounds]
    omega

theorem wp_region_inv {P : Program} {ops : Array Oper} {Q : Exit → Act → World → Prop} {id : Nat} {a : Act} {w : World} (Inv : (Nat → Bool) → Act → World → Prop) (hm : P.follows .mixedOrders = true)
    (hd : edgesDown ops = true)
    (h0 : Inv (fun _ => false) a w.drew)
    (hdone : ∀ D a w, Inv D a w → (∀ i, i < ops.size → D i = true) → Q .normal a w)
    (hstep : ∀ D a w i, Inv D a w → i < ops.size → D i = false → (∀ o, ops[i]? = some o → ∀ e ∈ o.after, Region.binds .any e = true → D e.on = true) →
      wpOp P ops Q i (fun a' w' => Inv (fun k => if k = i then true else D k) a' w') a w) :
    (Code.region id ops true).wp P Q a w := by
  refine wp_region_any hm (wpAny_inv (fun L a w => L.size = ops.size ∧ Inv (fun k => L.getD k false) a w) ?_ ?_ _ _ _ _ ⟨by simp, ?_⟩ (by simp) (by simp))
  · rintro L a w ⟨hs, hI⟩ hr
    exact hdone _ a w hI (ready_nil hd hs hr)
  · rintro L a w i ⟨hs, hI⟩ hi hL he
    have hl : i < L.size := by omega
    refine wpOp_mono (fun a' w' h' => ⟨by simpa using hs, ?_⟩) (hstep (fun k => L.getD k false) a w i hI hi (by simp only [Array.getD, hl, dite_true] at hL ⊢; exact hL) he)
    have : (fun k => (L.setIfInBounds i true).getD k false) = (fun k => if k = i then true else L.getD k false) := funext (bit_set hl)
    rw [this]
    exact h'
  · have : (fun k => (Array.replicate ops.size false).getD k false) = (fun _ : Nat => false) := by
      funext k
      by_cases hk : k < ops.size <;> simp [Array.getD, hk]
    rw [this]
    exact h0
end Go.Proofs.YtopigejgadnkaaaGreatDoor

namespace Go.Proofs.YtopigejgadnkaaaGreatDoor
open Go.RowKit Go.Shelf

theorem keepP {D : Nat → Bool} {i k : Nat} {p q : Prop} (hne : k ≠ i) (h : D k = true → p) (hpq : p → q) : (if k = i then true else D k) = true → q := by rw [if_neg hne]; exact fun e => hpq (h e)
theorem kp {D : Nat → Bool} {i k : Nat} {p q : Prop} (h : D k = true → p) (hpq : p → q) (hne : k ≠ i := by decide) : (if k = i then true else D k) = true → q := keepP hne h hpq
theorem keepP' {D : Nat → Bool} {i k : Nat} {p q : Prop} (hne : k ≠ i) (h : D k = true → p) (hpq : D k = true → p → q) : (if k = i then true else D k) = true → q := by rw [if_neg hne]; exact fun e => hpq e (h e)
def PI (u : Value) (z : Int) (W : World) : Prop := ∃ X c, u = .agg #[.bool (sg z), .slice X (nl (mg z)) c] ∧ NatV W X c (mg z)
def PR (u : Value) (q : Rat) (W : World) : Prop := ∃ X c Y d, u = .agg #[.bool (sg q.num), .slice X (nl (mg q.num)) c, .slice Y (nl q.den) d] ∧ NatV W X c (mg q.num) ∧ NatV W Y d q.den
def PRt (u : Value) (q : Rat) (W : World) : Prop := ∃ X c Y d, u = .tuple #[.agg #[.bool (sg q.num), .slice X (nl (mg q.num)) c, .slice Y (nl q.den) d], .int .i64 0] ∧ NatV W X c (mg q.num) ∧ NatV W Y d q.den
def PB3 (t : TypeId) (n0 : Nat) (u : Value) (W : World) : Prop := ∃ nb u0 u1 u2, u = .pointer (some ⟨nb, 0, none⟩) ∧ n0 ≤ nb ∧ BoxA W nb t #[u0, u1, u2] ∧ NotU u0 ∧ NotU u1 ∧ NotU u2
def PB2 (t : TypeId) (n0 : Nat) (u : Value) (W : World) : Prop := ∃ nb u0 u1, u = .pointer (some ⟨nb, 0, none⟩) ∧ n0 ≤ nb ∧ BoxA W nb t #[u0, u1] ∧ NotU u0 ∧ NotU u1
theorem notU3 {u0 u1 u2 : Value} (h0 : NotU u0) (h1 : NotU u1) (h2 : NotU u2) : ∀ x ∈ (#[u0, u1, u2] : Array Value).toList, NotU x := by
  intro x hx; simp at hx; rcases hx with rfl | rfl | rfl <;> assumption
theorem notU2 {u0 u1 : Value} (h0 : NotU u0) (h1 : NotU u1) : ∀ x ∈ (#[u0, u1] : Array Value).toList, NotU x := by
  intro x hx; simp at hx; rcases hx with rfl | rfl <;> assumption
def PBI (n0 : Nat) (u : Value) (z : Int) (W : World) : Prop := ∃ nb X c, u = .pointer (some ⟨nb, 0, none⟩) ∧ n0 ≤ nb ∧ BoxA W nb 24 #[.bool (sg z), .slice X (nl (mg z)) c] ∧ NatV W X c (mg z)
def PBR (n0 : Nat) (u : Value) (q : Rat) (W : World) : Prop := ∃ nb X c Y d, u = .pointer (some ⟨nb, 0, none⟩) ∧ n0 ≤ nb ∧ BoxA W nb 26 #[.bool (sg q.num), .slice X (nl (mg q.num)) c, .slice Y (nl q.den) d] ∧ NatV W X c (mg q.num) ∧ NatV W Y d q.den
section
variable {W W' : World} {u : Value} {z : Int} {q : Rat} {t : TypeId} {n0 : Nat}
theorem PI.below (h : PI u z W) (hb : Below W.heap.size W W') : PI u z W' := by
  obtain ⟨X, c, h1, h2⟩ := h; exact ⟨X, c, h1, h2.below hb⟩
theorem PR.below (h : PR u q W) (hb : Below W.heap.size W W') : PR u q W' := by
  obtain ⟨X, c, Y, d, h1, h2, h3⟩ := h; exact ⟨X, c, Y, d, h1, h2.below hb, h3.below hb⟩
theorem PRt.below (h : PRt u q W) (hb : Below W.heap.size W W') : PRt u q W' := by
  obtain ⟨X, c, Y, d, h1, h2, h3⟩ := h; exact ⟨X, c, Y, d, h1, h2.below hb, h3.below hb⟩
theorem PB3.below (h : PB3 t n0 u W) (hb : Below W.heap.size W W') : PB3 t n0 u W' := by
  obtain ⟨nb, u0, u1, u2, h1, h2, h3, h4⟩ := h; exact ⟨nb, u0, u1, u2, h1, h2, h3.below hb, h4⟩
theorem PB2.below (h : PB2 t n0 u W) (hb : Below W.heap.size W W') : PB2 t n0 u W' := by
  obtain ⟨nb, u0, u1, h1, h2, h3, h4⟩ := h; exact ⟨nb, u0, u1, h1, h2, h3.below hb, h4⟩
theorem PB3.lt (h : PB3 t n0 u W) : ∃ nb, u = .pointer (some ⟨nb, 0, none⟩) ∧ nb < W.heap.size := by
  obtain ⟨nb, u0, u1, u2, h1, h2, h3, h4⟩ := h; exact ⟨nb, h1, h3.lt⟩
theorem PB2.lt (h : PB2 t n0 u W) : ∃ nb, u = .pointer (some ⟨nb, 0, none⟩) ∧ nb < W.heap.size := by
  obtain ⟨nb, u0, u1, h1, h2, h3, h4⟩ := h; exact ⟨nb, h1, h3.lt⟩
theorem PBI.below (h : PBI n0 u z W) (hb : Below W.heap.size W W') : PBI n0 u z W' := by
  obtain ⟨nb, X, c, h1, h2, h3, h4⟩ := h; exact ⟨nb, X, c, h1, h2, h3.below hb, h4.below hb⟩
theorem PBR.below (h : PBR n0 u q W) (hb : Below W.heap.size W W') : PBR n0 u q W' := by
  obtain ⟨nb, X, c, Y, d, h1, h2, h3, h4, h5⟩ := h; exact ⟨nb, X, c, Y, d, h1, h2, h3.below hb, h4.below hb, h5.below hb⟩
structure Put (W W' : World) (k : Nat) : Prop where
  nat : ∀ {A : Option Addr} {c n : Nat}, NatV W A c n → NatV W' A c n
  far : ∀ j, j ≠ k → W'.heap[j]? = W.heap[j]?
theorem BoxA.put3 {u0 u1 u2 : Value} {k : Nat} (h : BoxA W k t #[u0, u1, u2]) (hu : ∀ x ∈ (#[u0, u1, u2] : Array Value).toList, NotU x) (v0 v1 v2 : Value) : Put W (((W.setCell ⟨k, 0, none⟩ v0).setCell ⟨k, 1, none⟩ v1).setCell ⟨k, 2, none⟩ v2) k := ⟨fun hN => h.keep3 hu hN, fun j hj => set3_far j hj⟩
theorem BoxA.put2 {u0 u1 : Value} {k : Nat} (h : BoxA W k t #[u0, u1]) (hu : ∀ x ∈ (#[u0, u1] : Array Value).toList, NotU x) (v0 v1 : Value) : Put W ((W.setCell ⟨k, 0, none⟩ v0).setCell ⟨k, 1, none⟩ v1) k := ⟨fun hN => h.keep2 hu hN, fun j hj => set2_far j hj⟩
theorem PI.put {k : Nat} (h : PI u z W) (hp : Put W W' k) : PI u z W' := by
  obtain ⟨X, c, h1, h2⟩ := h; exact ⟨X, c, h1, hp.nat h2⟩
theorem PR.put {k : Nat} (h : PR u q W) (hp : Put W W' k) : PR u q W' := by
  obtain ⟨X, c, Y, d, h1, h2, h3⟩ := h; exact ⟨X, c, Y, d, h1, hp.nat h2, hp.nat h3⟩
theorem PRt.put {k : Nat} (h : PRt u q W) (hp : Put W W' k) : PRt u q W' := by
  obtain ⟨X, c, Y, d, h1, h2, h3⟩ := h; exact ⟨X, c, Y, d, h1, hp.nat h2, hp.nat h3⟩
theorem PB3.put {k : Nat} (h : PB3 t n0 u W) (hp : Put W W' k) (hne : u ≠ .pointer (some ⟨k, 0, none⟩)) : PB3 t n0 u W' := by
  obtain ⟨nb, u0, u1, u2, h1, h2, h3, h4⟩ := h
  exact ⟨nb, u0, u1, u2, h1, h2, ⟨(hp.far nb (fun e => hne (by rw [h1, e]))).trans h3.at_⟩, h4⟩
theorem PB2.put {k : Nat} (h : PB2 t n0 u W) (hp : Put W W' k) (hne : u ≠ .pointer (some ⟨k, 0, none⟩)) : PB2 t n0 u W' := by
  obtain ⟨nb, u0, u1, h1, h2, h3, h4⟩ := h
  exact ⟨nb, u0, u1, h1, h2, ⟨(hp.far nb (fun e => hne (by rw [h1, e]))).trans h3.at_⟩, h4⟩
theorem PBI.put {k : Nat} (h : PBI n0 u z W) (hp : Put W W' k) (hne : u ≠ .pointer (some ⟨k, 0, none⟩)) : PBI n0 u z W' := by
  obtain ⟨nb, X, c, h1, h2, h3, h4⟩ := h
  exact ⟨nb, X, c, h1, h2, ⟨(hp.far nb (fun e => hne (by rw [h1, e]))).trans h3.at_⟩, hp.nat h4⟩
end
end Go.Proofs.YtopigejgadnkaaaGreatDoor

namespace Go.Proofs.YtopigejgadnkaaaGreatDoor
open Go.RowKit Go.Shelf
attribute [local go_sem] max2_i min2_i max_two min_two

def PN (u : Value) (n : Nat) (W : World) : Prop := ∃ X c, u = .slice X (nl n) c ∧ NatV W X c n
def PII (u : Value) (q r : Int) (W : World) : Prop := ∃ X c Y d, u = .tuple #[.agg #[.bool (sg q), .slice X (nl (mg q)) c], .agg #[.bool (sg r), .slice Y (nl (mg r)) d], .int .i64 0] ∧ NatV W X c (mg q) ∧ NatV W Y d (mg r)
theorem PN.below {W W' : World} {u : Value} {n : Nat} (h : PN u n W) (hb : Below W.heap.size W W') : PN u n W' := by
  obtain ⟨X, c, h1, h2⟩ := h; exact ⟨X, c, h1, h2.below hb⟩
theorem PII.below {W W' : World} {u : Value} {q r : Int} (h : PII u q r W) (hb : Below W.heap.size W W') : PII u q r W' := by
  obtain ⟨X, c, Y, d, h1, h2, h3⟩ := h; exact ⟨X, c, Y, d, h1, h2.below hb, h3.below hb⟩
theorem PN.put {W W' : World} {u : Value} {n k : Nat} (h : PN u n W) (hp : Put W W' k) : PN u n W' := by
  obtain ⟨X, c, h1, h2⟩ := h; exact ⟨X, c, h1, hp.nat h2⟩
theorem PII.put {W W' : World} {u : Value} {q r : Int} {k : Nat} (h : PII u q r W) (hp : Put W W' k) : PII u q r W' := by
  obtain ⟨X, c, Y, d, h1, h2, h3⟩ := h; exact ⟨X, c, Y, d, h1, hp.nat h2, hp.nat h3⟩
theorem rgcd_c (aA : Option Addr) (ac a : Nat) (bA : Option Addr) (bc b : Nat) (w : World) (ha : NatV w aA ac a) (hb : NatV w bA bc b) (la : nl a ≤ 16777216) (lb : nl b ≤ 16777216) :
    Calls Tryz.prog 106 #[.slice aA (nl a) ac, .slice bA (nl b) bc] w (RetN w (Nat.gcd a b)) := by
  go_enter Tryz.func106, Tryz.ntmps106
  go_wp2_with (fail)
  go_loopw [0, 1] (fun va vb wr => ∃ (x y : Nat) (X : Option Addr) (cx : Nat) (Y : Option Addr) (cy : Nat), va = .slice X (nl x) cx ∧ vb = .slice Y (nl y) cy ∧ NatV wr X cx x ∧ NatV wr Y cy y ∧ Below w.heap.size w wr ∧ Hid (Nat.gcd x y = Nat.gcd a b) ∧ nl x ≤ 16777216 ∧ nl y ≤ 16777216) (fun va vb wr => natAt wr (some vb))
  case atStart => exact ⟨a, b, aA, ac, bA, bc, rfl, rfl, ha, hb, Below.refl _ _, Lib.hid rfl, la, lb⟩
  case round =>
    obtain ⟨x, y, X, cx, Y, cy, rfl, rfl, hX, hY, hbr, hg, lx, ly⟩ := hrel
    by_cases h0 : y = 0
    · have t1 : decide (0 < (nl y : Int)) = false := by rw [h0, nl_zero]; rfl
      have t2 : decide (0 < nl y) = false := by rw [h0, nl_zero]; rfl
      have ev : x = Nat.gcd a b := by rw [← hg.out, h0, Nat.gcd_zero_right]
      replace ev := Lib.hid ev
      replace h0 := Lib.hid h0
      go_wp2_with (fail)
      go_ret
      rw [← ev.out]
      exact ⟨X, cx, rfl, hX, hbr⟩
    · have t1 : decide (0 < (nl y : Int)) = true := by have := nl_pos.2 h0; simp; omega
      have t2 : decide (0 < nl y) = true := by have := nl_pos.2 h0; simp; omega
      have CD := rdiv_c X cx x Y cy y wr hX hY lx ly (by omega)
      obtain ⟨r, Er⟩ : ∃ z : Nat, z = x % y := ⟨_, rfl⟩
      rw [← Er] at CD
      have lr : nl r ≤ 16777216 := by rw [Er]; exact Nat.le_trans (nl_mod_le x y) lx
      have hr : r < y := by rw [Er]; exact Nat.mod_lt _ (by omega)
      have hg2 : Nat.gcd y r = Nat.gcd a b := by rw [Er, ← hg.out, Nat.gcd_comm x y, Nat.gcd_rec y x, Nat.gcd_comm]
      replace hg2 := Lib.hid hg2
      replace CD := Lib.hid CD
      replace Er := Lib.hid Er
      go_wp2_with (fail)
      refine CD.out.mono ?_
      rintro e w1 ⟨Q, cq, R, cr, rfl, hQ, hR, hb1⟩
      have hY1 := hY.below hb1
      have hmeas : natAt w1 (some (.slice R (nl r) cr)) < natAt wr (some (.slice Y (nl y) cy)) := by rw [hR.at_, hY.at_]; exact hr
      replace hmeas := Lib.hid hmeas
      go_wp2_with (fail)
      go_roundw
      case rel => exact ⟨y, r, Y, cy, R, cr, rfl, rfl, hY1, hR, hbr.cons hb1, hg2, ly, lr⟩
      case measure => exact hmeas.out
def PIb (u : Value) (q : Int) (W : World) : Prop := ∃ X c, u = .tuple #[.agg #[.bool (sg q), .slice X (nl (mg q)) c], .bool true] ∧ NatV W X c (mg q)
theorem PIb.below {W W' : World} {u : Value} {q : Int} (h : PIb u q W) (hb : Below W.heap.size W W') : PIb u q W' := by
  obtain ⟨X, c, h1, h2⟩ := h; exact ⟨X, c, h1, h2.below hb⟩
theorem PIb.put {W W' : World} {u : Value} {q : Int} {k : Nat} (h : PIb u q W) (hp : Put W W' k) : PIb u q W' := by
  obtain ⟨X, c, h1, h2⟩ := h; exact ⟨X, c, h1, hp.nat h2⟩
theorem sg_natc (n : Nat) : sg (n : Int) = false := sg_f (Int.natCast_nonneg n)
theorem r9nat_c (aA : Option Addr) (ac a : Nat) (w : World) (ha : NatV w aA ac a)  :
    Calls Tryz.prog 34 #[.slice aA (nl a) ac] w (RetI w (a : Int)) := by
  obtain ⟨hb1, Rr⟩ := bx1 w #[.bool false, .slice aA (nl a) ac] 24
  replace ha := ha.below hb1
  have HBT := hb1
  clear hb1
  have qr0 := Rr.c (i := 0) rfl
  have qr1 := Rr.c (i := 1) rfl
  go_enter Tryz.func34, Tryz.ntmps34
  go_wp2_with (fail)
  have e0 := Rr.c (i := 0) rfl
  have e1 := Rr.c (i := 1) rfl
  refine bodyPost_ret (v := .agg #[.bool false, .slice aA (nl a) ac]) (by simp [results, Tryz.results34, go_sem, e0, e1]) rfl ?_
  exact ⟨aA, ac, by rw [sg_natc, mg_nat], by rw [mg_nat]; exact ha, HBT⟩
theorem r9make_c (aA : Option Addr) (ac : Nat) (a : Int) (bA : Option Addr) (bc : Nat) (b : Int) (w : World) (ha : NatV w aA ac (mg a)) (hb : NatV w bA bc (mg b)) (la : nl (mg a) ≤ 1048576) (lb : nl (mg b) ≤ 1048576) (hb0 : 0 < b) :
    Calls Tryz.prog 63 #[.agg #[.bool (sg a), .slice aA (nl (mg a)) ac], .agg #[.bool (sg b), .slice bA (nl (mg b)) bc]] w (RetRe w (Rat.divInt a b)) := by
  obtain ⟨p1, p2, p3, p4, p5, p6, p7⟩ := gcd_parts (n := a) hb0
  have hne : b ≠ 0 := by omega
  have sb : sg b = false := sg_f (by omega)
  have t0 : ((nl (mg b) : Int) == 0) = false := ieqF (by have := nl_pos.2 (show mg b ≠ 0 from fun e => hne (mg_zero.1 e)); omega)
  have t1 : (nl (mg b) == 0) = false := by have := nl_pos.2 (show mg b ≠ 0 from fun e => hne (mg_zero.1 e)); simp; omega
  obtain ⟨g, Eg⟩ : ∃ g, g = Nat.gcd (mg a) (mg b) := ⟨_, rfl⟩
  rw [← Eg] at p1 p2 p3 p4 p5 p6 p7
  have lg : nl g ≤ 1048576 := by rw [Eg]; exact Nat.le_trans (nl_mono (Nat.gcd_le_right _ (mg_pos.2 hne))) lb
  have hg0 : (g : Int) ≠ 0 := by omega
  have lg2 : nl (mg (g : Int)) ≤ 1048576 := by rw [mg_nat]; omega
  have bm : ((mg b : Nat) : Int) = b := by unfold mg; omega
  obtain ⟨v, Ev⟩ : ∃ z : Int, z = b / (g : Int) := ⟨_, rfl⟩
  have CX := fun (W : World) (A : Option Addr) (c : Nat) (G : Option Addr) (x : Nat) (h1 : NatV W A c (mg b)) (h2 : NatV W G x (mg (g : Int))) => zexact_c A c b G x (g : Int) W h1 h2 lb lg2 hg0 p2
  rw [← Ev] at CX
  have CN := fun (W : World) (h1 : NatV W bA bc (mg b)) => r9nat_c bA bc (mg b) W h1
  rw [bm] at CN
  replace p1 := Lib.hid p1
  replace p2 := Lib.hid p2
  replace p4 := Lib.hid p4
  replace p5 := Lib.hid p5
  replace p6 := Lib.hid p6
  replace p7 := Lib.hid p7
  replace hb0 := Lib.hid hb0
  replace Ev := Lib.hid Ev
  replace CX := Lib.hid CX
  replace CN := Lib.hid CN
  replace bm := Lib.hid bm
  obtain ⟨hb1, Ra, Rb, Rr⟩ := bx3 w #[.bool (sg a), .slice aA (nl (mg a)) ac] 24 #[.bool false, .slice bA (nl (mg b)) bc] 24 #[.bool false, .slice none 0 0, .slice none 0 0] 26
  replace ha := ha.below hb1
  replace hb := hb.below hb1
  have HBT := hb1
  clear hb1
  have qa0 := Ra.c (i := 0) rfl
  have qa1 := Ra.c (i := 1) rfl
  have qb0 := Rb.c (i := 0) rfl
  have qb1 := Rb.c (i := 1) rfl
  have qr0 := Rr.c (i := 0) rfl
  have qr1 := Rr.c (i := 1) rfl
  have qr2 := Rr.c (i := 2) rfl
  go_enter Tryz.func63, Tryz.ntmps63
  go_wp2_with (fail)
  have CC := rgcd_c aA ac (mg a) bA bc (mg b) (((w.alloc (.cells #[.bool (sg a), .slice aA (nl (mg a)) ac] 24)).alloc (.cells #[.bool false, .slice bA (nl (mg b)) bc] 24)).alloc (.cells #[.bool false, .slice none 0 0, .slice none 0 0] 26)) ha hb (by omega) (by omega)
  rw [← Eg] at CC
  replace CC := Lib.hid CC
  replace Eg := Lib.hid Eg
  refine (Calls.mono CC.out ?_)
  rintro e W2 ⟨Xg, cg, rfl, hg, hb2⟩
  replace ha := ha.below hb2
  replace hb := hb.below hb2
  replace Ra := Ra.below hb2
  replace qa0 := cbl hb2 qa0
  replace qa1 := cbl hb2 qa1
  replace Rb := Rb.below hb2
  replace qb0 := cbl hb2 qb0
  replace qb1 := cbl hb2 qb1
  replace Rr := Rr.below hb2
  replace qr0 := cbl hb2 qr0
  replace qr1 := cbl hb2 qr1
  replace qr2 := cbl hb2 qr2
  replace HBT := Below.cons HBT hb2
  clear hb2
  go_wp2_with (fail)
  obtain ⟨gi, Egi⟩ : ∃ zq : Int, zq = (g : Int) := ⟨_, rfl⟩
  refine (Calls.mono (R := RetI W2 gi) (by rw [Egi]; with_reducible exact (r9nat_c Xg cg g _ hg)) ?_)
  replace Egi := Lib.hid Egi
  rintro e W3 ⟨Xgi, cgi, rfl, hgi, hb3⟩
  replace ha := ha.below hb3
  replace hb := hb.below hb3
  replace Ra := Ra.below hb3
  replace qa0 := cbl hb3 qa0
  replace qa1 := cbl hb3 qa1
  replace Rb := Rb.below hb3
  replace qb0 := cbl hb3 qb0
  replace qb1 := cbl hb3 qb1
  replace Rr := Rr.below hb3
  replace qr0 := cbl hb3 qr0
  replace qr1 := cbl hb3 qr1
  replace qr2 := cbl hb3 qr2
  replace hg := hg.below hb3
  replace HBT := Below.cons HBT hb3
  clear hb3
  have hzgi : gi = (g : Int) := by exact Egi.out
  subst hzgi
  have szr := Rr.lt
  obtain ⟨hb4, Rg⟩ := bx1 W3 #[.bool (sg (((g : Int)))), .slice Xgi (nl (mg (((g : Int))))) cgi] 24
  replace ha := ha.below hb4
  replace hb := hb.below hb4
  replace Ra := Ra.below hb4
  replace qa0 := cbl hb4 qa0
  replace qa1 := cbl hb4 qa1
  replace Rb := Rb.below hb4
  replace qb0 := cbl hb4 qb0
  replace qb1 := cbl hb4 qb1
  replace Rr := Rr.below hb4
  replace qr0 := cbl hb4 qr0
  replace qr1 := cbl hb4 qr1
  replace qr2 := cbl hb4 qr2
  replace hg := hg.below hb4
  replace hgi := hgi.below hb4
  replace HBT := Below.cons HBT hb4
  clear hb4
  have qg0 := Rg.c (i := 0) rfl
  have qg1 := Rg.c (i := 1) rfl
  go_wp2_with (fail)
  obtain ⟨u, Eu⟩ : ∃ zq : Int, zq = a / (g : Int) := ⟨_, rfl⟩
  have CE := zexact_c aA ac a Xgi cgi (g : Int) (W3.alloc (.cells #[.bool (sg (((g : Int)))), .slice Xgi (nl (mg (((g : Int))))) cgi] 24)) ha hgi la lg2 hg0 p1.out
  rw [← Eu] at CE
  replace Eu := Lib.hid Eu
  replace CE := Lib.hid CE
  refine (Calls.mono CE.out ?_)
  clear CE
  rintro e W5 ⟨Xu, cu, rfl, hu, hb5⟩
  replace ha := ha.below hb5
  replace hb := hb.below hb5
  replace Ra := Ra.below hb5
  replace qa0 := cbl hb5 qa0
  replace qa1 := cbl hb5 qa1
  replace Rb := Rb.below hb5
  replace qb0 := cbl hb5 qb0
  replace qb1 := cbl hb5 qb1
  replace Rr := Rr.below hb5
  replace qr0 := cbl hb5 qr0
  replace qr1 := cbl hb5 qr1
  replace qr2 := cbl hb5 qr2
  replace hg := hg.below hb5
  replace hgi := hgi.below hb5
  replace Rg := Rg.below hb5
  replace qg0 := cbl hb5 qg0
  replace qg1 := cbl hb5 qg1
  replace HBT := Below.cons HBT hb5
  clear hb5
  have szg := Rg.lt
  obtain ⟨hb6, Ru⟩ := bx1 W5 #[.bool (sg u), .slice Xu (nl (mg u)) cu] 24
  replace ha := ha.below hb6
  replace hb := hb.below hb6
  replace Ra := Ra.below hb6
  replace qa0 := cbl hb6 qa0
  replace qa1 := cbl hb6 qa1
  replace Rb := Rb.below hb6
  replace qb0 := cbl hb6 qb0
  replace qb1 := cbl hb6 qb1
  replace Rr := Rr.below hb6
  replace qr0 := cbl hb6 qr0
  replace qr1 := cbl hb6 qr1
  replace qr2 := cbl hb6 qr2
  replace hg := hg.below hb6
  replace hgi := hgi.below hb6
  replace Rg := Rg.below hb6
  replace qg0 := cbl hb6 qg0
  replace qg1 := cbl hb6 qg1
  replace hu := hu.below hb6
  replace HBT := Below.cons HBT hb6
  clear hb6
  have qu0 := Ru.c (i := 0) rfl
  have qu1 := Ru.c (i := 1) rfl
  go_wp2_with (fail)
  clear t0 t1
  replace sb := Lib.hid sb
  have szu := Ru.lt
  generalize hW0 : (W5.alloc (.cells #[.bool (sg u), .slice Xu (nl (mg u)) cu] 24)) = W0 at *
  replace hW0 := Lib.hid hW0
  refine wp_region_inv (fun E a' w' => ∃ (u29 u30 u31 u32 u33 u28 u34 u35 u9 u10 : Value),
    a' = { tmps := #[.agg #[.bool (sg a), .slice aA (nl (mg a)) ac], .agg #[.bool false, .slice bA (nl (mg b)) bc], .pointer (some ⟨w.heap.size, 0, none⟩), .pointer (some ⟨(w.heap.size + 1), 0, none⟩), .pointer (some ⟨(w.heap.size + 1 + 1), 0, none⟩), .int .i64 0, .pointer (some ⟨W3.heap.size, 0, none⟩), .pointer (some ⟨W5.heap.size, 0, none⟩), .bool true, u9, u10, .pointer (some ⟨(w.heap.size + 1), 1, none⟩), .slice bA (nl (mg b)) bc, .int .i64 (nl (mg b)), .bool false, undef, .pointer (some ⟨w.heap.size, 1, none⟩), .slice aA (nl (mg a)) ac, .pointer (some ⟨(w.heap.size + 1), 1, none⟩), .slice bA (nl (mg b)) bc, .slice Xg (nl g) cg, .agg #[.bool (sg (((g : Int)))), .slice Xgi (nl (mg (((g : Int))))) cgi], .tuple #[.agg #[.bool (sg u), .slice Xu (nl (mg u)) cu], .bool true], .agg #[.bool (sg a), .slice aA (nl (mg a)) ac], .agg #[.bool (sg (((g : Int)))), .slice Xgi (nl (mg (((g : Int))))) cgi], .tuple #[.agg #[.bool (sg u), .slice Xu (nl (mg u)) cu], .bool true], .agg #[.bool (sg u), .slice Xu (nl (mg u)) cu], .bool true, u28, u29, u30, u31, u32, u33, u34, u35, undef, undef, undef, undef, undef, undef, undef, undef], defers := [] } ∧
    (E 0 = true → u29 = .pointer (some ⟨(w.heap.size + 1), 1, none⟩)) ∧
    (E 1 = true → u30 = .slice bA (nl (mg b)) bc) ∧
    (E 2 = true → PI u31 b w') ∧
    (E 3 = true → u32 = .agg #[.bool (sg (((g : Int)))), .slice Xgi (nl (mg (((g : Int))))) cgi]) ∧
    (E 4 = true → PIb u33 v w') ∧
    (E 5 = true → PIb u28 v w') ∧
    (E 6 = true → PI u34 v w') ∧
    (E 7 = true → u35 = .bool true) ∧
    (E 8 = true → PB2 24 W0.heap.size u9 w') ∧
    (E 9 = true → PBI W0.heap.size u9 v w') ∧
    (E 10 = true → u10 = .bool true) ∧
    (E 9 = true → E 8 = true) ∧
    Below W0.heap.size W0 w') (by kernel_rfl) (by kernel_rfl) ?init ?fin ?step
  case init => exact ⟨_, _, _, _, _, _, _, _, _, _, rfl, by simp, by simp, by simp, by simp, by simp, by simp, by simp, by simp, by simp, by simp, by simp, by simp, (Below.refl _ _).drew⟩
  case step =>
    rintro E a' w' i ⟨u29, u30, u31, u32, u33, u28, u34, u35, u9, u10, rfl, h0, h1, h2, h3, h4, h5, h6, h7, h8, h9, h10, hD9, hB⟩ hi hEi hdep
    have qb1 := cbl hB qb1
    have qg0 := cbl hB qg0
    have qg1 := cbl hB qg1
    obtain rfl | rfl | rfl | rfl | rfl | rfl | rfl | rfl | rfl | rfl | rfl : i = 0 ∨ i = 1 ∨ i = 2 ∨ i = 3 ∨ i = 4 ∨ i = 5 ∨ i = 6 ∨ i = 7 ∨ i = 8 ∨ i = 9 ∨ i = 10 := by simp at hi; omega
    · skip
      refine wpOp_step rfl (fun K' hK' => ?_)
      go_simp
      refine hK' _ _ ?_
      exact ⟨_, _, _, _, _, _, _, _, _, _, rfl, fun _ => rfl, kd h1, kd h2, kd h3, kd h4, kd h5, kd h6, kd h7, kd h8, kd h9, kd h10, (fun h => by have := hD9 (by simpa using h); simpa using this), hB⟩
    · skip
      have d0 := hdep _ rfl ⟨0, .data⟩ (by simp) rfl
      obtain rfl := h0 d0
      refine wpOp_step rfl (fun K' hK' => ?_)
      go_simp
      refine hK' _ _ ?_
      exact ⟨_, _, _, _, _, _, _, _, _, _, rfl, kd h0, fun _ => rfl, kd h2, kd h3, kd h4, kd h5, kd h6, kd h7, kd h8, kd h9, kd h10, (fun h => by have := hD9 (by simpa using h); simpa using this), hB⟩
    · skip
      have d1 := hdep _ rfl ⟨1, .data⟩ (by simp) rfl
      obtain rfl := h1 d1
      refine wpOp_step rfl (fun K' hK' => ?_)
      go_simp
      refine (Calls.mono (CN.out w' (hb.below hB)) ?_)
      rintro e W1 ⟨Xr, cr, rfl, kr, kb⟩
      refine hK' _ _ ?_
      exact ⟨_, _, _, _, _, _, _, _, _, _, rfl, kd h0, kd h1, fun _ => ⟨Xr, cr, rfl, kr⟩, kd h3, kp h4 (fun h => h.below kb), kp h5 (fun h => h.below kb), kp h6 (fun h => h.below kb), kd h7, kp h8 (fun h => h.below kb), kp h9 (fun h => h.below kb), kd h10, (fun h => by have := hD9 (by simpa using h); simpa using this), Below.cons hB kb⟩
    · skip
      refine wpOp_step rfl (fun K' hK' => ?_)
      go_simp
      refine hK' _ _ ?_
      exact ⟨_, _, _, _, _, _, _, _, _, _, rfl, kd h0, kd h1, kd h2, fun _ => rfl, kd h4, kd h5, kd h6, kd h7, kd h8, kd h9, kd h10, (fun h => by have := hD9 (by simpa using h); simpa using this), hB⟩
    · skip
      have d2 := hdep _ rfl ⟨2, .data⟩ (by simp) rfl
      obtain ⟨X_2, c_2, rfl, k_2⟩ := h2 d2
      have d3 := hdep _ rfl ⟨3, .data⟩ (by simp) rfl
      obtain rfl := h3 d3
      refine wpOp_step rfl (fun K' hK' => ?_)
      go_simp
      refine (Calls.mono (CX.out w' X_2 c_2 Xgi cgi k_2 (hgi.below hB)) ?_)
      rintro e W1 ⟨Xr, cr, rfl, kr, kb⟩
      refine hK' _ _ ?_
      exact ⟨_, _, _, _, _, _, _, _, _, _, rfl, kd h0, kd h1, kp h2 (fun h => h.below kb), kd h3, fun _ => ⟨Xr, cr, rfl, kr⟩, kp h5 (fun h => h.below kb), kp h6 (fun h => h.below kb), kd h7, kp h8 (fun h => h.below kb), kp h9 (fun h => h.below kb), kd h10, (fun h => by have := hD9 (by simpa using h); simpa using this), Below.cons hB kb⟩
    · skip
      have d4 := hdep _ rfl ⟨4, .data⟩ (by simp) rfl
      obtain ⟨X_4, c_4, rfl, k_4⟩ := h4 d4
      refine wpOp_step rfl (fun K' hK' => ?_)
      go_simp
      refine hK' _ _ ?_
      exact ⟨_, _, _, _, _, _, _, _, _, _, rfl, kd h0, kd h1, kd h2, kd h3, kd h4, fun _ => ⟨X_4, c_4, rfl, k_4⟩, kd h6, kd h7, kd h8, kd h9, kd h10, (fun h => by have := hD9 (by simpa using h); simpa using this), hB⟩
    · skip
      have d5 := hdep _ rfl ⟨5, .data⟩ (by simp) rfl
      obtain ⟨X_5, c_5, rfl, k_5⟩ := h5 d5
      refine wpOp_step rfl (fun K' hK' => ?_)
      go_simp
      refine hK' _ _ ?_
      exact ⟨_, _, _, _, _, _, _, _, _, _, rfl, kd h0, kd h1, kd h2, kd h3, kd h4, kd h5, fun _ => ⟨X_5, c_5, rfl, k_5⟩, kd h7, kd h8, kd h9, kd h10, (fun h => by have := hD9 (by simpa using h); simpa using this), hB⟩
    · skip
      have d5 := hdep _ rfl ⟨5, .data⟩ (by simp) rfl
      obtain ⟨X_5, c_5, rfl, k_5⟩ := h5 d5
      refine wpOp_step rfl (fun K' hK' => ?_)
      go_simp
      refine hK' _ _ ?_
      exact ⟨_, _, _, _, _, _, _, _, _, _, rfl, kd h0, kd h1, kd h2, kd h3, kd h4, kd h5, kd h6, fun _ => rfl, kd h8, kd h9, kd h10, (fun h => by have := hD9 (by simpa using h); simpa using this), hB⟩
    · skip
      have kb : Below w'.heap.size w' (w'.alloc (.cells #[.bool false, .slice none 0 0] 24)) := (Below.refl _ _).alloc (Nat.le_refl _) _
      refine wpOp_step rfl (fun K' hK' => ?_)
      go_simp
      refine hK' _ _ ?_
      exact ⟨_, _, _, _, _, _, _, _, _, _, rfl, kd h0, kd h1, kp h2 (fun h => h.below kb), kd h3, kp h4 (fun h => h.below kb), kp h5 (fun h => h.below kb), kp h6 (fun h => h.below kb), kd h7, fun _ => ⟨_, _, _, rfl, hB.size, ⟨at_new rfl⟩, notU_bool _, notU_slice _ _ _⟩, (fun h => by have h2 := hD9 (by simpa using h); rw [hEi] at h2; cases h2), kd h10, (fun _ => by simp), Below.cons hB kb⟩
    · skip
      have d8 := hdep _ rfl ⟨8, .data⟩ (by simp) rfl
      obtain ⟨nb, z0, z1, rfl, hn, hb, nz0, nz1⟩ := h8 d8
      have d6 := hdep _ rfl ⟨6, .data⟩ (by simp) rfl
      obtain ⟨X_6, c_6, rfl, k_6⟩ := h6 d6
      have fz0 := hb.f (i := 0)
      have cz0 := hb.c (i := 0) rfl
      have fz1 := hb.f (i := 1)
      have cz1 := hb.c (i := 1) rfl
      have hp := hb.put2 (notU2 nz0 nz1) (.bool (sg v)) (.slice X_6 (nl (mg v)) c_6)
      have hs := hb.store2 (.bool (sg v)) (.slice X_6 (nl (mg v)) c_6)
      refine wpOp_step rfl (fun K' hK' => ?_)
      go_simp
      refine hK' _ _ ?_
      exact ⟨_, _, _, _, _, _, _, _, _, _, rfl, kd h0, kd h1, kp h2 (fun h => h.put hp), kd h3, kp h4 (fun h => h.put hp), kp h5 (fun h => h.put hp), kp h6 (fun h => h.put hp), kd h7, (fun _ => ⟨nb, _, _, rfl, hn, hs, notU_bool _, notU_slice _ _ _⟩), fun _ => ⟨nb, X_6, c_6, rfl, hn, hs, hp.nat k_6⟩, kd h10, (fun _ => by simp [d8]), Below.store2 hB hn⟩
    · skip
      have d7 := hdep _ rfl ⟨7, .data⟩ (by simp) rfl
      obtain rfl := h7 d7
      refine wpOp_step rfl (fun K' hK' => ?_)
      go_simp
      refine hK' _ _ ?_
      exact ⟨_, _, _, _, _, _, _, _, _, _, rfl, kd h0, kd h1, kd h2, kd h3, kd h4, kd h5, kd h6, kd h7, kd h8, kd h9, fun _ => rfl, (fun h => by have := hD9 (by simpa using h); simpa using this), hB⟩
  case fin =>
    rintro E a' w' ⟨u29, u30, u31, u32, u33, u28, u34, u35, u9, u10, rfl, h0, h1, h2, h3, h4, h5, h6, h7, h8, h9, h10, hD9, hB⟩ hall
    obtain ⟨nbv, Xv, cv, rfl, hnv, Rv, hv⟩ := h9 (hall 9 (by simp))
    replace ha := ha.below hB
    replace hb := hb.below hB
    replace Ra := Ra.below hB
    replace qa0 := cbl hB qa0
    replace qa1 := cbl hB qa1
    replace Rb := Rb.below hB
    replace qb0 := cbl hB qb0
    replace qb1 := cbl hB qb1
    replace Rr := Rr.below hB
    replace qr0 := cbl hB qr0
    replace qr1 := cbl hB qr1
    replace qr2 := cbl hB qr2
    replace hg := hg.below hB
    replace hgi := hgi.below hB
    replace Rg := Rg.below hB
    replace qg0 := cbl hB qg0
    replace qg1 := cbl hB qg1
    replace hu := hu.below hB
    replace Ru := Ru.below hB
    replace qu0 := cbl hB qu0
    replace qu1 := cbl hB qu1
    replace HBT := Below.cons HBT hB
    have kvv := hnv
    have qv0 := Rv.c (i := 0) rfl
    have qv1 := Rv.c (i := 1) rfl
    have fzr0 := Rr.f (i := 0)
    have fzr1 := Rr.f (i := 1)
    have fzr2 := Rr.f (i := 2)
    go_wp2_with (fail)
    have hnum : u = (Rat.divInt a b).num := by rw [Eu.out]; exact p4.out.symm
    have hden : mg v = (Rat.divInt a b).den := by rw [Ev.out]; exact p6.out.symm
    have RS := Rr.store3 (.bool (sg u)) (.slice Xu (nl (mg u)) cu) (.slice Xv (nl (mg v)) cv)
    have e0 := RS.c (i := 0) rfl
    have e1 := RS.c (i := 1) rfl
    have e2 := RS.c (i := 2) rfl
    refine bodyPost_ret (v := .tuple #[.agg #[.bool (sg u), .slice Xu (nl (mg u)) cu, .slice Xv (nl (mg v)) cv], .int .i64 0]) (by simp [results, Tryz.results63, go_sem, e0, e1, e2]) rfl ?_
    exact ⟨Xu, cu, Xv, cv, by rw [← hnum, ← hden], by rw [← hnum]; exact Rr.keep3 (nuB rfl) hu, by rw [← hden]; exact Rr.keep3 (nuB rfl) hv, Below.store3 HBT (by omega)⟩
theorem divInt_add (a b : Rat) : Rat.divInt (a.num * (b.den : Int) + b.num * (a.den : Int)) ((a.den : Int) * (b.den : Int)) = a + b := by
  rw [Rat.add_def', ← Int.natCast_mul, Rat.divInt_ofNat]
theorem rcmp_icmp (a b : Rat) : icmp (a.num * (b.den : Int)) (b.num * (a.den : Int)) = rcmp a b := by
  unfold icmp rcmp
  simp only [Rat.lt_iff]
theorem rat_same {a b : Rat} (h : a.num = b.num) : (a = b) ↔ a.den = b.den := ⟨fun e => by rw [e], fun e => Rat.ext h e⟩
theorem r9same_y (aA : Option Addr) (ac : Nat) (aB : Option Addr) (ad : Nat) (a : Rat) (bA : Option Addr) (bc : Nat) (bB : Option Addr) (bd : Nat) (b : Rat) (w : World) (ha : NatV w aA ac (mg a.num)) (ga : NatV w aB ad a.den) (hb : NatV w bA bc (mg b.num)) (gb : NatV w bB bd b.den) (la : nl (mg a.num) ≤ 1073741824) (ma : nl a.den ≤ 1073741824) (lb : nl (mg b.num) ≤ 1073741824) (mb : nl b.den ≤ 1073741824) (h0 : a.num = b.num) :
    Calls Tryz.prog 14 #[.agg #[.bool (sg a.num), .slice aA (nl (mg a.num)) ac, .slice aB (nl a.den) ad], .agg #[.bool (sg b.num), .slice bA (nl (mg b.num)) bc, .slice bB (nl b.den) bd]] w (fun e w' => e = .returned (.bool (decide (a.den = b.den))) ∧ Below w.heap.size w w') := by
  have ds : decide (a.num = b.num) = true := by simp; exact h0
  replace h0 := Lib.hid h0
  have kk : cmpN a.den b.den = 0 ↔ a.den = b.den := by unfold cmpN; split <;> (try split) <;> omega
  have eb : ((cmpN a.den b.den) == 0) = decide (a.den = b.den) := by rw [Bool.eq_iff_iff]; simp [kk]
  clear kk
  obtain ⟨cc, Ecc⟩ : ∃ z, z = cmpN a.den b.den := ⟨_, rfl⟩
  rw [← Ecc] at eb
  obtain ⟨hb1, Ra, Rb⟩ := bx2 w #[.bool (sg a.num), .slice aA (nl (mg a.num)) ac, .slice aB (nl a.den) ad] 26 #[.bool (sg b.num), .slice bA (nl (mg b.num)) bc, .slice bB (nl b.den) bd] 26
  replace ha := ha.below hb1
  replace ga := ga.below hb1
  replace hb := hb.below hb1
  replace gb := gb.below hb1
  have HBT := hb1
  clear hb1
  have qa0 := Ra.c (i := 0) rfl
  have qa1 := Ra.c (i := 1) rfl
  have qa2 := Ra.c (i := 2) rfl
  have qb0 := Rb.c (i := 0) rfl
  have qb1 := Rb.c (i := 1) rfl
  have qb2 := Rb.c (i := 2) rfl
  have CS := fun (W : World) (h1 : NatV W aA ac (mg a.num)) (h2 : NatV W bA bc (mg b.num)) => zsame_c aA ac a.num bA bc b.num W h1 h2 la lb
  rw [ds] at CS
  replace CS := Lib.hid CS
  have CC := fun (W : World) (h1 : NatV W aB ad a.den) (h2 : NatV W bB bd b.den) => rcmp_c aB ad a.den bB bd b.den W h1 h2 ma mb
  rw [← Ecc] at CC
  replace CC := Lib.hid CC
  replace Ecc := Lib.hid Ecc
  go_enter Tryz.func14, Tryz.ntmps14
  go_wp2_with (fail)
  refine (Calls.mono (CS.out _ ha hb) ?_)
  rintro e W2 ⟨rfl, hb2⟩
  replace ha := ha.below hb2
  replace ga := ga.below hb2
  replace hb := hb.below hb2
  replace gb := gb.below hb2
  replace Ra := Ra.below hb2
  replace qa0 := cbl hb2 qa0
  replace qa1 := cbl hb2 qa1
  replace qa2 := cbl hb2 qa2
  replace Rb := Rb.below hb2
  replace qb0 := cbl hb2 qb0
  replace qb1 := cbl hb2 qb1
  replace qb2 := cbl hb2 qb2
  replace HBT := Below.cons HBT hb2
  clear hb2
  go_wp2_with (fail)
  refine (Calls.mono (CC.out _ ga gb) ?_)
  rintro e w' ⟨rfl, hw⟩
  subst hw
  go_wp2_with (fail)
  go_ret
  exact ⟨rfl, HBT⟩
theorem r9same_n (aA : Option Addr) (ac : Nat) (aB : Option Addr) (ad : Nat) (a : Rat) (bA : Option Addr) (bc : Nat) (bB : Option Addr) (bd : Nat) (b : Rat) (w : World) (ha : NatV w aA ac (mg a.num)) (ga : NatV w aB ad a.den) (hb : NatV w bA bc (mg b.num)) (gb : NatV w bB bd b.den) (la : nl (mg a.num) ≤ 1073741824) (ma : nl a.den ≤ 1073741824) (lb : nl (mg b.num) ≤ 1073741824) (mb : nl b.den ≤ 1073741824) (h0 : a.num ≠ b.num) :
    Calls Tryz.prog 14 #[.agg #[.bool (sg a.num), .slice aA (nl (mg a.num)) ac, .slice aB (nl a.den) ad], .agg #[.bool (sg b.num), .slice bA (nl (mg b.num)) bc, .slice bB (nl b.den) bd]] w (fun e w' => e = .returned (.bool false) ∧ Below w.heap.size w w') := by
  have ds : decide (a.num = b.num) = false := by simp; exact h0
  replace h0 := Lib.hid h0
  obtain ⟨hb1, Ra, Rb⟩ := bx2 w #[.bool (sg a.num), .slice aA (nl (mg a.num)) ac, .slice aB (nl a.den) ad] 26 #[.bool (sg b.num), .slice bA (nl (mg b.num)) bc, .slice bB (nl b.den) bd] 26
  replace ha := ha.below hb1
  replace ga := ga.below hb1
  replace hb := hb.below hb1
  replace gb := gb.below hb1
  have HBT := hb1
  clear hb1
  have qa0 := Ra.c (i := 0) rfl
  have qa1 := Ra.c (i := 1) rfl
  have qa2 := Ra.c (i := 2) rfl
  have qb0 := Rb.c (i := 0) rfl
  have qb1 := Rb.c (i := 1) rfl
  have qb2 := Rb.c (i := 2) rfl
  have CS := fun (W : World) (h1 : NatV W aA ac (mg a.num)) (h2 : NatV W bA bc (mg b.num)) => zsame_c aA ac a.num bA bc b.num W h1 h2 la lb
  rw [ds] at CS
  replace CS := Lib.hid CS
  go_enter Tryz.func14, Tryz.ntmps14
  go_wp2_with (fail)
  refine (Calls.mono (CS.out _ ha hb) ?_)
  rintro e W2 ⟨rfl, hb2⟩
  replace ha := ha.below hb2
  replace ga := ga.below hb2
  replace hb := hb.below hb2
  replace gb := gb.below hb2
  replace Ra := Ra.below hb2
  replace qa0 := cbl hb2 qa0
  replace qa1 := cbl hb2 qa1
  replace qa2 := cbl hb2 qa2
  replace Rb := Rb.below hb2
  replace qb0 := cbl hb2 qb0
  replace qb1 := cbl hb2 qb1
  replace qb2 := cbl hb2 qb2
  replace HBT := Below.cons HBT hb2
  clear hb2
  go_wp2_with (fail)
  go_ret
  exact ⟨rfl, HBT⟩
theorem r9same_c (aA : Option Addr) (ac : Nat) (aB : Option Addr) (ad : Nat) (a : Rat) (bA : Option Addr) (bc : Nat) (bB : Option Addr) (bd : Nat) (b : Rat) (w : World) (ha : NatV w aA ac (mg a.num)) (ga : NatV w aB ad a.den) (hb : NatV w bA bc (mg b.num)) (gb : NatV w bB bd b.den) (la : nl (mg a.num) ≤ 1073741824) (ma : nl a.den ≤ 1073741824) (lb : nl (mg b.num) ≤ 1073741824) (mb : nl b.den ≤ 1073741824) :
    Calls Tryz.prog 14 #[.agg #[.bool (sg a.num), .slice aA (nl (mg a.num)) ac, .slice aB (nl a.den) ad], .agg #[.bool (sg b.num), .slice bA (nl (mg b.num)) bc, .slice bB (nl b.den) bd]] w fun e w' => e = .returned (.bool (decide (a = b))) ∧ Below w.heap.size w w' := by
  by_cases h : a.num = b.num
  · rw [show decide (a = b) = decide (a.den = b.den) by rw [decide_eq_decide]; exact rat_same h]; exact r9same_y aA ac aB ad a bA bc bB bd b w ha ga hb gb la ma lb mb h
  · rw [decide_eq_false (fun e => h (by rw [e]))]; exact r9same_n aA ac aB ad a bA bc bB bd b w ha ga hb gb la ma lb mb h
theorem iof1_c (w : World) : Calls Tryz.prog 46 #[.int .i64 1] w (RetI w 1) := iof_c 1 w (by decide)
theorem shf_one (k : Nat) : shf 1 (k : Int) = ((2 ^ k : Nat) : Int) := by
  unfold shf; rw [if_pos (Int.natCast_nonneg k), Int.toNat_natCast, Int.one_mul, Int.natCast_pow]; rfl
theorem rat_up {a : Rat} (h : Dyd a) (h0 : 0 ≤ dex a) : ((shf (dmn a) (dex a) : Int) : Rat) = a := by
  have h1 := lev h (E := 0) h0
  rw [Int.sub_zero] at h1
  unfold dval at h1
  rw [Rat.zpow_zero, Rat.mul_one] at h1
  exact h1
theorem rat_down {a : Rat} {k : Nat} (h : Dyd a) (hk : dex a = -(k : Int)) : Rat.divInt (dmn a) ((2 ^ k : Nat) : Int) = a := by
  have h1 := dval_q h
  rw [hk, dval_den] at h1
  rw [Rat.divInt_ofNat]; exact h1
theorem drat_up (aA : Option Addr) (ac : Nat) (a : Rat) (w : World) (ha : NatV w aA ac (mg (dmn a))) (oa : DOk a) (h0 : 0 ≤ dex a) :
    Calls Tryz.prog 12 #[.agg #[.bool (sg (dmn a)), .slice aA (nl (mg (dmn a))) ac, .int .i64 (dex a)]] w (RetR w a) := by
  have hl := oa.l
  have he := oa.e
  have hv := rat_up oa.d h0
  have t1 : decide (0 ≤ dex a) = true := by simp; exact h0
  have hr : -16777216 ≤ dex a ∧ dex a ≤ 16777216 := by omega
  replace hv := Lib.hid hv
  replace oa := Lib.hid oa
  replace h0 := Lib.hid h0
  replace he := Lib.hid he
  obtain ⟨hb1, Ra, Rr⟩ := bx2 w #[.bool (sg (dmn a)), .slice aA (nl (mg (dmn a))) ac, .int .i64 (dex a)] 33 #[.bool false, .slice none 0 0, .slice none 0 0] 26
  replace ha := ha.below hb1
  have HBT := hb1
  clear hb1
  have qa0 := Ra.c (i := 0) rfl
  have qa1 := Ra.c (i := 1) rfl
  have qa2 := Ra.c (i := 2) rfl
  have qr0 := Rr.c (i := 0) rfl
  have qr1 := Rr.c (i := 1) rfl
  have qr2 := Rr.c (i := 2) rfl
  go_enter Tryz.func12, Tryz.ntmps12
  go_wp2_with (fail)
  obtain ⟨z, Ez⟩ : ∃ zq : Int, zq = shf (dmn a) (dex a) := ⟨_, rfl⟩
  refine (Calls.mono (R := RetI ((w.alloc (.cells #[.bool (sg (dmn a)), .slice aA (nl (mg (dmn a))) ac, .int .i64 (dex a)] 33)).alloc (.cells #[.bool false, .slice none 0 0, .slice none 0 0] 26)) z) (by rw [Ez]; with_reducible exact (ishift_c aA ac (dmn a) (dex a) _ ha (by omega) hr)) ?_)
  replace Ez := Lib.hid Ez
  rintro e W2 ⟨Xz, cz, rfl, hz, hb2⟩
  replace ha := ha.below hb2
  replace Ra := Ra.below hb2
  replace qa0 := cbl hb2 qa0
  replace qa1 := cbl hb2 qa1
  replace qa2 := cbl hb2 qa2
  replace Rr := Rr.below hb2
  replace qr0 := cbl hb2 qr0
  replace qr1 := cbl hb2 qr1
  replace qr2 := cbl hb2 qr2
  replace HBT := Below.cons HBT hb2
  clear hb2
  go_wp2_with (fail)
  obtain ⟨q, Eq⟩ : ∃ zq : Rat, zq = (z : Rat) := ⟨_, rfl⟩
  refine (Calls.mono (R := RetR W2 q) (by rw [Eq]; with_reducible exact (rwhole_c Xz cz z _ hz)) ?_)
  replace Eq := Lib.hid Eq
  rintro e W3 ⟨Xq, cq, Yq, dq, rfl, hq, gq, hb3⟩
  replace ha := ha.below hb3
  replace Ra := Ra.below hb3
  replace qa0 := cbl hb3 qa0
  replace qa1 := cbl hb3 qa1
  replace qa2 := cbl hb3 qa2
  replace Rr := Rr.below hb3
  replace qr0 := cbl hb3 qr0
  replace qr1 := cbl hb3 qr1
  replace qr2 := cbl hb3 qr2
  replace hz := hz.below hb3
  replace HBT := Below.cons HBT hb3
  clear hb3
  have fzr0 := Rr.f (i := 0)
  have fzr1 := Rr.f (i := 1)
  have fzr2 := Rr.f (i := 2)
  go_wp2_with (fail)
  have hzq : q = a := by rw [Eq.out, Ez.out]; exact hv.out
  subst hzq
  have RS := Rr.store3 (.bool (sg q.num)) (.slice Xq (nl (mg q.num)) cq) (.slice Yq (nl q.den) dq)
  have e0 := RS.c (i := 0) rfl
  have e1 := RS.c (i := 1) rfl
  have e2 := RS.c (i := 2) rfl
  refine bodyPost_ret (v := .agg #[.bool (sg q.num), .slice Xq (nl (mg q.num)) cq, .slice Yq (nl q.den) dq]) (by simp [results, Tryz.results12, go_sem, e0, e1, e2]) rfl ?_
  exact ⟨Xq, cq, Yq, dq, rfl, (Rr.keep3 (nuB rfl) hq), (Rr.keep3 (nuB rfl) gq), (Below.store3 HBT (by first | exact Nat.le_refl _ | omega))⟩
theorem ways_c (w : World) :
    Calls Tryz.prog 39 #[] w fun e w' => e = .returned (.agg #[.func (.func 80) #[] #[], .func (.func 81) #[] #[], .func (.func 82) #[] #[], .func (.func 83) #[] #[], .func (.func 84) #[] #[]]) ∧ Below w.heap.size w w' := by
  go_enter Tryz.func39, Tryz.ntmps39
  go_wp2_with (fail)
  have hb : Below w.heap.size w (w.alloc (.cells #[.func (.func 80) #[] #[], .func (.func 81) #[] #[], .func (.func 82) #[] #[], .func (.func 83) #[] #[], .func (.func 84) #[] #[]] 71)) := (Below.refl _ _).alloc (Nat.le_refl _) _
  have RS : BoxA (w.alloc (.cells #[.func (.func 80) #[] #[], .func (.func 81) #[] #[], .func (.func 82) #[] #[], .func (.func 83) #[] #[], .func (.func 84) #[] #[]] 71)) w.heap.size 71 _ := ⟨at_new rfl⟩
  have e0 := RS.c (i := 0) rfl
  have e1 := RS.c (i := 1) rfl
  have e2 := RS.c (i := 2) rfl
  have e3 := RS.c (i := 3) rfl
  have e4 := RS.c (i := 4) rfl
  exact bodyPost_ret (v := .agg #[.func (.func 80) #[] #[], .func (.func 81) #[] #[], .func (.func 82) #[] #[], .func (.func 83) #[] #[], .func (.func 84) #[] #[]]) (by simp [results, Tryz.results39, go_sem, e0, e1, e2, e3, e4]) rfl ⟨rfl, hb⟩
theorem drat_down (aA : Option Addr) (ac : Nat) (a : Rat) (w : World) (ha : NatV w aA ac (mg (dmn a))) (oa : DOk a) (h0 : dex a < 0) :
    Calls Tryz.prog 12 #[.agg #[.bool (sg (dmn a)), .slice aA (nl (mg (dmn a))) ac, .int .i64 (dex a)]] w (RetR w a) := by
  have hl := oa.l
  have he := oa.e
  obtain ⟨k, hk⟩ := Int.eq_ofNat_of_zero_le (show 0 ≤ -dex a by omega)
  have hv := rat_down (k := k) oa.d (by omega)
  have t1 : decide (0 ≤ dex a) = false := by simp; exact h0
  have lk : k ≤ 1000000 := by omega
  have Wk : IntKind.i64.wrap (k : Int) = (k : Int) := IntWalk.i64_in _ (by omega)
  replace hv := Lib.hid hv
  replace oa := Lib.hid oa
  replace h0 := Lib.hid h0
  replace he := Lib.hid he
  obtain ⟨p, Ep⟩ : ∃ zq : Int, zq = shf 1 (k : Int) := ⟨_, rfl⟩
  have Vp : p = ((2 ^ k : Nat) : Int) := by rw [Ep]; exact shf_one k
  have Pp : 0 < p := by rw [Vp]; have := Nat.two_pow_pos k; omega
  have Np : nl (mg p) ≤ 262144 := by rw [Vp, mg_nat, nl_two_pow]; omega
  have N1 : nl (mg 1) ≤ 1 := Nat.le_of_eq nl_one
  have CS := fun (W : World) (A : Option Addr) (c : Nat) (h1 : NatV W A c (mg 1)) => ishift_c A c 1 (k : Int) W h1 (by omega) (by omega)
  rw [← Ep] at CS
  obtain ⟨q, Eq⟩ : ∃ zq : Rat, zq = Rat.divInt (dmn a) p := ⟨_, rfl⟩
  have CM := fun (W : World) (A : Option Addr) (c : Nat) (h1 : NatV W aA ac (mg (dmn a))) (h2 : NatV W A c (mg p)) => rmake_q aA ac (dmn a) A c p W h1 h2 (by omega) Np Pp
  rw [← Eq] at CM
  have eqq : q = a := by rw [Eq, Vp]; exact hv.out
  replace Ep := Lib.hid Ep
  replace Vp := Lib.hid Vp
  replace Eq := Lib.hid Eq
  replace eqq := Lib.hid eqq
  replace CS := Lib.hid CS
  replace CM := Lib.hid CM
  obtain ⟨hb1, Ra, Rr⟩ := bx2 w #[.bool (sg (dmn a)), .slice aA (nl (mg (dmn a))) ac, .int .i64 (dex a)] 33 #[.bool false, .slice none 0 0, .slice none 0 0] 26
  replace ha := ha.below hb1
  have HBT := hb1
  clear hb1
  have qa0 := Ra.c (i := 0) rfl
  have qa1 := Ra.c (i := 1) rfl
  have qa2 := Ra.c (i := 2) rfl
  have qr0 := Rr.c (i := 0) rfl
  have qr1 := Rr.c (i := 1) rfl
  have qr2 := Rr.c (i := 2) rfl
  go_enter Tryz.func12, Tryz.ntmps12
  go_wp2_with (fail)
  generalize hW0 : ((w.alloc (.cells #[.bool (sg (dmn a)), .slice aA (nl (mg (dmn a))) ac, .int .i64 (dex a)] 33)).alloc (.cells #[.bool false, .slice none 0 0, .slice none 0 0] 26)) = W0 at *
  replace hW0 := Lib.hid hW0
  refine wp_region_inv (fun E a' w' => ∃ (u15 u16 u17 u18 u19 u20 u21 u22 u14 u23 u24 u3 u4 : Value),
    a' = { tmps := #[.agg #[.bool (sg (dmn a)), .slice aA (nl (mg (dmn a))) ac, .int .i64 (dex a)], .pointer (some ⟨w.heap.size, 0, none⟩), .pointer (some ⟨w.heap.size + 1, 0, none⟩), u3, u4, .pointer (some ⟨w.heap.size, 2, none⟩), .int .i64 (dex a), .bool false, undef, undef, undef, undef, undef, undef, u14, u15, u16, u17, u18, u19, u20, u21, u22, u23, u24, undef], defers := [] } ∧
    (E 0 = true → u15 = .pointer (some ⟨w.heap.size, 0, none⟩)) ∧
    (E 1 = true → u16 = .agg #[.bool (sg (dmn a)), .slice aA (nl (mg (dmn a))) ac]) ∧
    (E 2 = true → PI u17 1 w') ∧
    (E 3 = true → u18 = .pointer (some ⟨w.heap.size, 2, none⟩)) ∧
    (E 4 = true → u19 = .int .i64 (dex a)) ∧
    (E 5 = true → u20 = .int .i64 k) ∧
    (E 6 = true → PI u21 p w') ∧
    (E 7 = true → PRt u22 q w') ∧
    (E 8 = true → PRt u14 q w') ∧
    (E 9 = true → PR u23 q w') ∧
    (E 10 = true → u24 = .int .i64 0) ∧
    (E 11 = true → PB3 26 W0.heap.size u3 w') ∧
    (E 12 = true → PBR W0.heap.size u3 q w') ∧
    (E 13 = true → u4 = .int .i64 0) ∧
    (E 12 = true → E 11 = true) ∧
    Below W0.heap.size W0 w') (by kernel_rfl) (by kernel_rfl) ?init ?fin ?step
  case init => exact ⟨_, _, _, _, _, _, _, _, _, _, _, _, _, rfl, by simp, by simp, by simp, by simp, by simp, by simp, by simp, by simp, by simp, by simp, by simp, by simp, by simp, by simp, by simp, (Below.refl _ _).drew⟩
  case step =>
    rintro E a' w' i ⟨u15, u16, u17, u18, u19, u20, u21, u22, u14, u23, u24, u3, u4, rfl, h0, h1, h2, h3, h4, h5, h6, h7, h8, h9, h10, h11, h12, h13, hD12, hB⟩ hi hEi hdep
    have qa0 := cbl hB qa0
    have qa1 := cbl hB qa1
    have qa2 := cbl hB qa2
    obtain rfl | rfl | rfl | rfl | rfl | rfl | rfl | rfl | rfl | rfl | rfl | rfl | rfl | rfl : i = 0 ∨ i = 1 ∨ i = 2 ∨ i = 3 ∨ i = 4 ∨ i = 5 ∨ i = 6 ∨ i = 7 ∨ i = 8 ∨ i = 9 ∨ i = 10 ∨ i = 11 ∨ i = 12 ∨ i = 13 := by simp at hi; omega
    · skip
      refine wpOp_step rfl (fun K' hK' => ?_)
      go_simp
      refine hK' _ _ ?_
      exact ⟨_, _, _, _, _, _, _, _, _, _, _, _, _, rfl, fun _ => rfl, kd h1, kd h2, kd h3, kd h4, kd h5, kd h6, kd h7, kd h8, kd h9, kd h10, kd h11, kd h12, kd h13, (fun h => by have := hD12 (by simpa using h); simpa using this), hB⟩
    · skip
      have d0 := hdep _ rfl ⟨0, .data⟩ (by simp) rfl
      obtain rfl := h0 d0
      refine wpOp_step rfl (fun K' hK' => ?_)
      go_simp
      refine hK' _ _ ?_
      exact ⟨_, _, _, _, _, _, _, _, _, _, _, _, _, rfl, kd h0, fun _ => rfl, kd h2, kd h3, kd h4, kd h5, kd h6, kd h7, kd h8, kd h9, kd h10, kd h11, kd h12, kd h13, (fun h => by have := hD12 (by simpa using h); simpa using this), hB⟩
    · skip
      refine wpOp_step rfl (fun K' hK' => ?_)
      go_simp
      refine (Calls.mono (iof1_c w') ?_)
      rintro e W1 ⟨Xr, cr, rfl, kr, kb⟩
      refine hK' _ _ ?_
      exact ⟨_, _, _, _, _, _, _, _, _, _, _, _, _, rfl, kd h0, kd h1, fun _ => ⟨Xr, cr, rfl, kr⟩, kd h3, kd h4, kd h5, kp h6 (fun h => h.below kb), kp h7 (fun h => h.below kb), kp h8 (fun h => h.below kb), kp h9 (fun h => h.below kb), kd h10, kp h11 (fun h => h.below kb), kp h12 (fun h => h.below kb), kd h13, (fun h => by have := hD12 (by simpa using h); simpa using this), Below.cons hB kb⟩
    · skip
      refine wpOp_step rfl (fun K' hK' => ?_)
      go_simp
      refine hK' _ _ ?_
      exact ⟨_, _, _, _, _, _, _, _, _, _, _, _, _, rfl, kd h0, kd h1, kd h2, fun _ => rfl, kd h4, kd h5, kd h6, kd h7, kd h8, kd h9, kd h10, kd h11, kd h12, kd h13, (fun h => by have := hD12 (by simpa using h); simpa using this), hB⟩
    · skip
      have d3 := hdep _ rfl ⟨3, .data⟩ (by simp) rfl
      obtain rfl := h3 d3
      refine wpOp_step rfl (fun K' hK' => ?_)
      go_simp
      refine hK' _ _ ?_
      exact ⟨_, _, _, _, _, _, _, _, _, _, _, _, _, rfl, kd h0, kd h1, kd h2, kd h3, fun _ => rfl, kd h5, kd h6, kd h7, kd h8, kd h9, kd h10, kd h11, kd h12, kd h13, (fun h => by have := hD12 (by simpa using h); simpa using this), hB⟩
    · skip
      have d4 := hdep _ rfl ⟨4, .data⟩ (by simp) rfl
      obtain rfl := h4 d4
      refine wpOp_step rfl (fun K' hK' => ?_)
      go_simp
      refine hK' _ _ ?_
      exact ⟨_, _, _, _, _, _, _, _, _, _, _, _, _, rfl, kd h0, kd h1, kd h2, kd h3, kd h4, fun _ => rfl, kd h6, kd h7, kd h8, kd h9, kd h10, kd h11, kd h12, kd h13, (fun h => by have := hD12 (by simpa using h); simpa using this), hB⟩
    · skip
      have d2 := hdep _ rfl ⟨2, .data⟩ (by simp) rfl
      obtain ⟨X_2, c_2, rfl, k_2⟩ := h2 d2
      have d5 := hdep _ rfl ⟨5, .data⟩ (by simp) rfl
      obtain rfl := h5 d5
      refine wpOp_step rfl (fun K' hK' => ?_)
      go_simp
      refine (Calls.mono (CS.out w' _ _ k_2) ?_)
      rintro e W1 ⟨Xr, cr, rfl, kr, kb⟩
      refine hK' _ _ ?_
      exact ⟨_, _, _, _, _, _, _, _, _, _, _, _, _, rfl, kd h0, kd h1, kp h2 (fun h => h.below kb), kd h3, kd h4, kd h5, fun _ => ⟨Xr, cr, rfl, kr⟩, kp h7 (fun h => h.below kb), kp h8 (fun h => h.below kb), kp h9 (fun h => h.below kb), kd h10, kp h11 (fun h => h.below kb), kp h12 (fun h => h.below kb), kd h13, (fun h => by have := hD12 (by simpa using h); simpa using this), Below.cons hB kb⟩
    · skip
      have d1 := hdep _ rfl ⟨1, .data⟩ (by simp) rfl
      obtain rfl := h1 d1
      have d6 := hdep _ rfl ⟨6, .data⟩ (by simp) rfl
      obtain ⟨X_6, c_6, rfl, k_6⟩ := h6 d6
      refine wpOp_step rfl (fun K' hK' => ?_)
      go_simp
      refine (Calls.mono (CM.out w' _ _ (ha.below hB) k_6) ?_)
      rintro e W1 ⟨Xr, cr, Yr, dr, rfl, kr, lr, kb⟩
      refine hK' _ _ ?_
      exact ⟨_, _, _, _, _, _, _, _, _, _, _, _, _, rfl, kd h0, kd h1, kp h2 (fun h => h.below kb), kd h3, kd h4, kd h5, kp h6 (fun h => h.below kb), fun _ => ⟨Xr, cr, Yr, dr, rfl, kr, lr⟩, kp h8 (fun h => h.below kb), kp h9 (fun h => h.below kb), kd h10, kp h11 (fun h => h.below kb), kp h12 (fun h => h.below kb), kd h13, (fun h => by have := hD12 (by simpa using h); simpa using this), Below.cons hB kb⟩
    · skip
      have d7 := hdep _ rfl ⟨7, .data⟩ (by simp) rfl
      obtain ⟨X_7, c_7, Y_7, d_7, rfl, k_7, l_7⟩ := h7 d7
      refine wpOp_step rfl (fun K' hK' => ?_)
      go_simp
      refine hK' _ _ ?_
      exact ⟨_, _, _, _, _, _, _, _, _, _, _, _, _, rfl, kd h0, kd h1, kd h2, kd h3, kd h4, kd h5, kd h6, kd h7, fun _ => ⟨X_7, c_7, Y_7, d_7, rfl, k_7, l_7⟩, kd h9, kd h10, kd h11, kd h12, kd h13, (fun h => by have := hD12 (by simpa using h); simpa using this), hB⟩
    · skip
      have d8 := hdep _ rfl ⟨8, .data⟩ (by simp) rfl
      obtain ⟨X_8, c_8, Y_8, d_8, rfl, k_8, l_8⟩ := h8 d8
      refine wpOp_step rfl (fun K' hK' => ?_)
      go_simp
      refine hK' _ _ ?_
      exact ⟨_, _, _, _, _, _, _, _, _, _, _, _, _, rfl, kd h0, kd h1, kd h2, kd h3, kd h4, kd h5, kd h6, kd h7, kd h8, fun _ => ⟨X_8, c_8, Y_8, d_8, rfl, k_8, l_8⟩, kd h10, kd h11, kd h12, kd h13, (fun h => by have := hD12 (by simpa using h); simpa using this), hB⟩
    · skip
      have d8 := hdep _ rfl ⟨8, .data⟩ (by simp) rfl
      obtain ⟨X_8, c_8, Y_8, d_8, rfl, k_8, l_8⟩ := h8 d8
      refine wpOp_step rfl (fun K' hK' => ?_)
      go_simp
      refine hK' _ _ ?_
      exact ⟨_, _, _, _, _, _, _, _, _, _, _, _, _, rfl, kd h0, kd h1, kd h2, kd h3, kd h4, kd h5, kd h6, kd h7, kd h8, kd h9, fun _ => rfl, kd h11, kd h12, kd h13, (fun h => by have := hD12 (by simpa using h); simpa using this), hB⟩
    · skip
      have kb : Below w'.heap.size w' (w'.alloc (.cells #[.bool false, .slice none 0 0, .slice none 0 0] 26)) := (Below.refl _ _).alloc (Nat.le_refl _) _
      refine wpOp_step rfl (fun K' hK' => ?_)
      go_simp
      refine hK' _ _ ?_
      exact ⟨_, _, _, _, _, _, _, _, _, _, _, _, _, rfl, kd h0, kd h1, kp h2 (fun h => h.below kb), kd h3, kd h4, kd h5, kp h6 (fun h => h.below kb), kp h7 (fun h => h.below kb), kp h8 (fun h => h.below kb), kp h9 (fun h => h.below kb), kd h10, fun _ => ⟨_, _, _, _, rfl, hB.size, ⟨at_new rfl⟩, notU_bool _, notU_slice _ _ _, notU_slice _ _ _⟩, (fun h => by have h2 := hD12 (by simpa using h); rw [hEi] at h2; cases h2), kd h13, (fun _ => by simp), Below.cons hB kb⟩
    · skip
      have d11 := hdep _ rfl ⟨11, .data⟩ (by simp) rfl
      obtain ⟨nb, z0, z1, z2, rfl, hn, hb, nz0, nz1, nz2⟩ := h11 d11
      have d9 := hdep _ rfl ⟨9, .data⟩ (by simp) rfl
      obtain ⟨X_9, c_9, Y_9, d_9, rfl, k_9, l_9⟩ := h9 d9
      have fz0 := hb.f (i := 0)
      have cz0 := hb.c (i := 0) rfl
      have fz1 := hb.f (i := 1)
      have cz1 := hb.c (i := 1) rfl
      have fz2 := hb.f (i := 2)
      have cz2 := hb.c (i := 2) rfl
      have hp := hb.put3 (notU3 nz0 nz1 nz2) (.bool (sg q.num)) (.slice X_9 (nl (mg q.num)) c_9) (.slice Y_9 (nl q.den) d_9)
      have hs := hb.store3 (.bool (sg q.num)) (.slice X_9 (nl (mg q.num)) c_9) (.slice Y_9 (nl q.den) d_9)
      refine wpOp_step rfl (fun K' hK' => ?_)
      go_simp
      refine hK' _ _ ?_
      exact ⟨_, _, _, _, _, _, _, _, _, _, _, _, _, rfl, kd h0, kd h1, kp h2 (fun h => h.put hp), kd h3, kd h4, kd h5, kp h6 (fun h => h.put hp), kp h7 (fun h => h.put hp), kp h8 (fun h => h.put hp), kp h9 (fun h => h.put hp), kd h10, (fun _ => ⟨nb, _, _, _, rfl, hn, hs, notU_bool _, notU_slice _ _ _, notU_slice _ _ _⟩), fun _ => ⟨nb, X_9, c_9, Y_9, d_9, rfl, hn, hs, hp.nat k_9, hp.nat l_9⟩, kd h13, (fun _ => by simp [d11]), Below.store3 hB hn⟩
    · skip
      have d10 := hdep _ rfl ⟨10, .data⟩ (by simp) rfl
      obtain rfl := h10 d10
      refine wpOp_step rfl (fun K' hK' => ?_)
      go_simp
      refine hK' _ _ ?_
      exact ⟨_, _, _, _, _, _, _, _, _, _, _, _, _, rfl, kd h0, kd h1, kd h2, kd h3, kd h4, kd h5, kd h6, kd h7, kd h8, kd h9, kd h10, kd h11, kd h12, fun _ => rfl, (fun h => by have := hD12 (by simpa using h); simpa using this), hB⟩
  case fin =>
    rintro E a' w' ⟨u15, u16, u17, u18, u19, u20, u21, u22, u14, u23, u24, u3, u4, rfl, h0, h1, h2, h3, h4, h5, h6, h7, h8, h9, h10, h11, h12, h13, hD12, hB⟩ hall
    obtain ⟨nbq, Xq, cq, Yq, dq, rfl, hnq, Rq, hq, gq⟩ := h12 (hall 12 (by simp))
    replace ha := ha.below hB
    replace Ra := Ra.below hB
    replace qa0 := cbl hB qa0
    replace qa1 := cbl hB qa1
    replace qa2 := cbl hB qa2
    replace Rr := Rr.below hB
    replace qr0 := cbl hB qr0
    replace qr1 := cbl hB qr1
    replace qr2 := cbl hB qr2
    replace HBT := Below.cons HBT hB
    clear hall
    have kvq := hnq
    have qq0 := Rq.c (i := 0) rfl
    have qq1 := Rq.c (i := 1) rfl
    have qq2 := Rq.c (i := 2) rfl
    have hz : w.heap.size + 2 = W0.heap.size := by rw [← hW0.out]; simp
    have fzr0 := Rr.f (i := 0)
    have fzr1 := Rr.f (i := 1)
    have fzr2 := Rr.f (i := 2)
    go_wp2_with (fail)
    have hzq : q = a := by exact eqq.out
    subst hzq
    have RS := Rr.store3 (.bool (sg q.num)) (.slice Xq (nl (mg q.num)) cq) (.slice Yq (nl q.den) dq)
    have e0 := RS.c (i := 0) rfl
    have e1 := RS.c (i := 1) rfl
    have e2 := RS.c (i := 2) rfl
    refine bodyPost_ret (v := .agg #[.bool (sg q.num), .slice Xq (nl (mg q.num)) cq, .slice Yq (nl q.den) dq]) (by simp [results, Tryz.results12, go_sem, e0, e1, e2]) rfl ?_
    exact ⟨Xq, cq, Yq, dq, rfl, (Rr.keep3 (nuB rfl) hq), (Rr.keep3 (nuB rfl) gq), (Below.store3 HBT (by first | exact Nat.le_refl _ | omega))⟩
theorem drat_c (aA : Option Addr) (ac : Nat) (a : Rat) (w : World) (ha : NatV w aA ac (mg (dmn a))) (oa : DOk a) :
    Calls Tryz.prog 12 #[.agg #[.bool (sg (dmn a)), .slice aA (nl (mg (dmn a))) ac, .int .i64 (dex a)]] w (RetR w a) := by
  by_cases h : 0 ≤ dex a
  · exact drat_up aA ac a w ha oa h
  · exact drat_down aA ac a w ha oa (by omega)
theorem way1_c (neg odd : Bool) (h b : Int) (w : World) :
    Calls Tryz.prog 80 #[.bool neg, .bool odd, .int .i64 (icmp h b)] w fun e w' => e = .returned (.bool (upw neg odd (h - b) 0)) ∧ Below w.heap.size w w' := by
  have hu : upw neg odd (h - b) 0 = (false) := rfl
  rw [hu]
  go_enter Tryz.func80, Tryz.ntmps80
  go_wp2_with (fail)
  go_ret
  exact ⟨rfl, Below.refl _ _⟩
theorem way2_c (neg odd : Bool) (h b : Int) (w : World) :
    Calls Tryz.prog 81 #[.bool neg, .bool odd, .int .i64 (icmp h b)] w fun e w' => e = .returned (.bool (upw neg odd (h - b) 1)) ∧ Below w.heap.size w w' := by
  have hu : upw neg odd (h - b) 1 = (true) := rfl
  rw [hu]
  go_enter Tryz.func81, Tryz.ntmps81
  go_wp2_with (fail)
  go_ret
  exact ⟨rfl, Below.refl _ _⟩
theorem way3_c (neg odd : Bool) (h b : Int) (w : World) :
    Calls Tryz.prog 82 #[.bool neg, .bool odd, .int .i64 (icmp h b)] w fun e w' => e = .returned (.bool (upw neg odd (h - b) 2)) ∧ Below w.heap.size w w' := by
  have hu : upw neg odd (h - b) 2 = (neg) := rfl
  rw [hu]
  go_enter Tryz.func82, Tryz.ntmps82
  go_wp2_with (fail)
  go_ret
  exact ⟨rfl, Below.refl _ _⟩
theorem way4_c (neg odd : Bool) (h b : Int) (w : World) :
    Calls Tryz.prog 83 #[.bool neg, .bool odd, .int .i64 (icmp h b)] w fun e w' => e = .returned (.bool (upw neg odd (h - b) 3)) ∧ Below w.heap.size w w' := by
  have hu : upw neg odd (h - b) 3 = (!neg) := rfl
  rw [hu]
  go_enter Tryz.func83, Tryz.ntmps83
  go_wp2_with (fail)
  go_ret
  exact ⟨rfl, Below.refl _ _⟩
theorem icmp_lt {h b : Int} (k : h < b) : icmp h b = -1 := by unfold icmp; rw [if_pos k]
theorem icmp_gt {h b : Int} (k : b < h) : icmp h b = 1 := by unfold icmp; rw [if_neg (by omega), if_pos k]
theorem icmp_eq {h b : Int} (k : h = b) : icmp h b = 0 := by unfold icmp; rw [if_neg (by omega), if_neg (by omega)]
theorem way5_c (neg odd : Bool) (h b : Int) (w : World) :
    Calls Tryz.prog 84 #[.bool neg, .bool odd, .int .i64 (icmp h b)] w fun e w' => e = .returned (.bool (upw neg odd (h - b) 4)) ∧ Below w.heap.size w w' := by
  have hu : upw neg odd (h - b) 4 = (decide (0 < h - b) || (decide (h - b = 0) && odd)) := rfl
  rw [hu]
  rcases Int.lt_trichotomy h b with k | k | k
  · have e1 : (decide (0 < h - b) || (decide (h - b = 0) && odd)) = false := by simp; omega
    rw [icmp_lt k, e1]
    go_enter Tryz.func84, Tryz.ntmps84
    go_wp2_with (fail)
    go_ret
    exact ⟨rfl, Below.refl _ _⟩
  · have e1 : (decide (0 < h - b) || (decide (h - b = 0) && odd)) = odd := by
      rw [decide_eq_false (by omega), decide_eq_true (by omega)]; simp
    rw [icmp_eq k, e1]
    go_enter Tryz.func84, Tryz.ntmps84
    go_wp2_with (fail)
    go_ret
    exact ⟨rfl, Below.refl _ _⟩
  · have e1 : (decide (0 < h - b) || (decide (h - b = 0) && odd)) = true := by
      rw [decide_eq_true (by omega)]; simp
    rw [icmp_gt k, e1]
    go_enter Tryz.func84, Tryz.ntmps84
    go_wp2_with (fail)
    go_ret
    exact ⟨rfl, Below.refl _ _⟩
theorem rest_le {a b : Int} (hb : 0 < b) : nl (mg (a % b)) ≤ nl (mg b) := by
  have h1 := Int.emod_nonneg a (show b ≠ 0 by omega)
  have h2 := Int.emod_lt_of_pos a hb
  exact nl_mono (by unfold mg; omega)
theorem quo_le (a b : Int) : nl (mg (a / b)) ≤ nl (mg a) := nl_mono (Int.natAbs_ediv_le_natAbs a b)
theorem shf_twice (r : Int) : shf r 1 = 2 * r := by unfold shf; rw [if_pos (by decide), Int.mul_comm]; rfl
theorem dbl_le {r : Int} : nl (mg (2 * r)) ≤ nl (mg r) + 1 := by
  rw [nl_le, mg_mul, Nat.pow_succ, Nat.mul_comm]
  have := nl_lt (mg r)
  exact Nat.mul_lt_mul_of_lt_of_le this (by decide) (by decide)
theorem odd_limb {q : Int} {x : Nat} (hx : x = mg q / 4294967296 ^ 0 % 4294967296) : decide (q % 2 = 1) = decide (x % 2 = 1) := by
  rw [Nat.pow_zero, Nat.div_one] at hx
  rw [decide_eq_decide]
  unfold mg at hx; omega
theorem and_one_u32 (x : Nat) (hx : x < 4294967296) : bits .and .u32 (x : Int) 1 = ((x % 2 : Nat) : Int) := by
  have := u32_and_nat x 1 hx (by decide)
  rw [Nat.and_one_is_mod] at this
  exact this
theorem way_idx0 (W : World) : (Instr.index 71 (.agg #[.func (.func 80) #[] #[], .func (.func 81) #[] #[], .func (.func 82) #[] #[], .func (.func 83) #[] #[], .func (.func 84) #[] #[]]) (.int .i64 0)).run Tryz.prog W = .ok (.agg #[.func (.func 80) #[] #[]]) W := by rfl
theorem way_fld0 (W : World) : (Instr.field 70 (.agg #[.func (.func 80) #[] #[]]) 0).run Tryz.prog W = .ok (.func (.func 80) #[] #[]) W := by rfl
theorem way_idx1 (W : World) : (Instr.index 71 (.agg #[.func (.func 80) #[] #[], .func (.func 81) #[] #[], .func (.func 82) #[] #[], .func (.func 83) #[] #[], .func (.func 84) #[] #[]]) (.int .i64 1)).run Tryz.prog W = .ok (.agg #[.func (.func 81) #[] #[]]) W := by rfl
theorem way_fld1 (W : World) : (Instr.field 70 (.agg #[.func (.func 81) #[] #[]]) 0).run Tryz.prog W = .ok (.func (.func 81) #[] #[]) W := by rfl
theorem way_idx2 (W : World) : (Instr.index 71 (.agg #[.func (.func 80) #[] #[], .func (.func 81) #[] #[], .func (.func 82) #[] #[], .func (.func 83) #[] #[], .func (.func 84) #[] #[]]) (.int .i64 2)).run Tryz.prog W = .ok (.agg #[.func (.func 82) #[] #[]]) W := by rfl
theorem way_fld2 (W : World) : (Instr.field 70 (.agg #[.func (.func 82) #[] #[]]) 0).run Tryz.prog W = .ok (.func (.func 82) #[] #[]) W := by rfl
theorem way_idx3 (W : World) : (Instr.index 71 (.agg #[.func (.func 80) #[] #[], .func (.func 81) #[] #[], .func (.func 82) #[] #[], .func (.func 83) #[] #[], .func (.func 84) #[] #[]]) (.int .i64 3)).run Tryz.prog W = .ok (.agg #[.func (.func 83) #[] #[]]) W := by rfl
theorem way_fld3 (W : World) : (Instr.field 70 (.agg #[.func (.func 83) #[] #[]]) 0).run Tryz.prog W = .ok (.func (.func 83) #[] #[]) W := by rfl
theorem way_idx4 (W : World) : (Instr.index 71 (.agg #[.func (.func 80) #[] #[], .func (.func 81) #[] #[], .func (.func 82) #[] #[], .func (.func 83) #[] #[], .func (.func 84) #[] #[]]) (.int .i64 4)).run Tryz.prog W = .ok (.agg #[.func (.func 84) #[] #[]]) W := by rfl
theorem way_fld4 (W : World) : (Instr.field 70 (.agg #[.func (.func 84) #[] #[]]) 0).run Tryz.prog W = .ok (.func (.func 84) #[] #[]) W := by rfl
theorem way_at (dr : Int) (h0 : 0 ≤ dr) (h4 : dr ≤ 4) : ∃ fn : Nat, (fn = 80 ∨ fn = 81 ∨ fn = 82 ∨ fn = 83 ∨ fn = 84) ∧ (∀ W : World, (Instr.index 71 (.agg #[.func (.func 80) #[] #[], .func (.func 81) #[] #[], .func (.func 82) #[] #[], .func (.func 83) #[] #[], .func (.func 84) #[] #[]]) (.int .i64 dr)).run Tryz.prog W = .ok (.agg #[.func (.func fn) #[] #[]]) W) ∧
    (∀ W : World, (Instr.field 70 (.agg #[.func (.func fn) #[] #[]]) 0).run Tryz.prog W = .ok (.func (.func fn) #[] #[]) W) ∧
    (∀ (neg odd : Bool) (h b : Int) (w : World), Calls Tryz.prog fn #[.bool neg, .bool odd, .int .i64 (icmp h b)] w fun e w' => e = .returned (.bool (upw neg odd (h - b) dr)) ∧ Below w.heap.size w w') := by
  obtain rfl | rfl | rfl | rfl | rfl : dr = 0 ∨ dr = 1 ∨ dr = 2 ∨ dr = 3 ∨ dr = 4 := by omega
  · exact ⟨80, Or.inl rfl, way_idx0, way_fld0, way1_c⟩
  · exact ⟨81, Or.inr (Or.inl rfl), way_idx1, way_fld1, way2_c⟩
  · exact ⟨82, Or.inr (Or.inr (Or.inl rfl)), way_idx2, way_fld2, way3_c⟩
  · exact ⟨83, Or.inr (Or.inr (Or.inr (Or.inl rfl))), way_idx3, way_fld3, way4_c⟩
  · exact ⟨84, Or.inr (Or.inr (Or.inr (Or.inr rfl))), way_idx4, way_fld4, way5_c⟩
theorem over_z (aA : Option Addr) (ac : Nat) (a : Int) (bA : Option Addr) (bc : Nat) (b : Int) (dr : Int) (w : World) (ha : NatV w aA ac (mg a)) (hb : NatV w bA bc (mg b))  (d0 : 0 ≤ dr) (d4 : dr ≤ 4) (la : nl (mg a) ≤ 1000000) (lb : nl (mg b) ≤ 1000000) (hb0 : 0 < b) (h0 : a % b = 0) :
    Calls Tryz.prog 42 #[.agg #[.bool (sg a), .slice aA (nl (mg a)) ac], .agg #[.bool (sg b), .slice bA (nl (mg b)) bc], .int .i64 dr] w (RetI w (ovr a b dr)) := by
  have lr0 := rest_le (a := a) hb0
  have lq0 := quo_le a b
  have ld0 := dbl_le (r := a % b)
  have hov : ovr a b dr = a / b := by unfold ovr; rw [if_pos h0]
  replace hov := Lib.hid hov
  replace h0 := Lib.hid h0
  obtain ⟨hb1, Ra, Rb, Rr⟩ := bx3 w #[.bool (sg a), .slice aA (nl (mg a)) ac] 24 #[.bool (sg b), .slice bA (nl (mg b)) bc] 24 #[.bool false, .slice none 0 0] 24
  replace ha := ha.below hb1
  replace hb := hb.below hb1
  have HBT := hb1
  clear hb1
  have qa0 := Ra.c (i := 0) rfl
  have qa1 := Ra.c (i := 1) rfl
  have qb0 := Rb.c (i := 0) rfl
  have qb1 := Rb.c (i := 1) rfl
  have qr0 := Rr.c (i := 0) rfl
  have qr1 := Rr.c (i := 1) rfl
  go_enter Tryz.func42, Tryz.ntmps42
  go_wp2_with (fail)
  obtain ⟨q, Eq⟩ : ∃ zq : Int, zq = a / b := ⟨_, rfl⟩
  have lq : nl (mg q) ≤ 1000000 := by rw [Eq]; omega
  obtain ⟨m, Em⟩ : ∃ zq : Int, zq = a % b := ⟨_, rfl⟩
  have lm : nl (mg m) ≤ 1000000 := by rw [Em]; omega
  have dm2 : nl (mg (2 * m)) ≤ 1000001 := by rw [Em]; omega
  have CT2 := (idiv_c aA ac a bA bc b _ ha hb (by omega) (by omega) (by omega))
  rw [← Eq, ← Em] at CT2
  replace Eq := Lib.hid Eq
  replace Em := Lib.hid Em
  replace CT2 := Lib.hid CT2
  refine (Calls.mono CT2.out ?_)
  clear CT2
  rintro e W2 ⟨Xq, cq, Xm, cm, rfl, hq, hm, hb2⟩
  replace ha := ha.below hb2
  replace hb := hb.below hb2
  replace Ra := Ra.below hb2
  replace qa0 := cbl hb2 qa0
  replace qa1 := cbl hb2 qa1
  replace Rb := Rb.below hb2
  replace qb0 := cbl hb2 qb0
  replace qb1 := cbl hb2 qb1
  replace Rr := Rr.below hb2
  replace qr0 := cbl hb2 qr0
  replace qr1 := cbl hb2 qr1
  replace HBT := Below.cons HBT hb2
  clear hb2
  clear lr0 lq0 ld0
  have szr := Rr.lt
  go_wp2_with (fail)
  obtain ⟨hb3, Rq, Rm⟩ := bx2 W2 #[.bool (sg q), .slice Xq (nl (mg q)) cq] 24 #[.bool (sg m), .slice Xm (nl (mg m)) cm] 24
  replace ha := ha.below hb3
  replace hb := hb.below hb3
  replace Ra := Ra.below hb3
  replace qa0 := cbl hb3 qa0
  replace qa1 := cbl hb3 qa1
  replace Rb := Rb.below hb3
  replace qb0 := cbl hb3 qb0
  replace qb1 := cbl hb3 qb1
  replace Rr := Rr.below hb3
  replace qr0 := cbl hb3 qr0
  replace qr1 := cbl hb3 qr1
  replace hq := hq.below hb3
  replace hm := hm.below hb3
  replace HBT := Below.cons HBT hb3
  clear hb3
  have qq0 := Rq.c (i := 0) rfl
  have qq1 := Rq.c (i := 1) rfl
  have qm0 := Rm.c (i := 0) rfl
  have qm1 := Rm.c (i := 1) rfl
  have hsg : m.sign = 0 := by rw [Em.out, h0.out]; rfl
  have CG := isign_c Xm cm m ((W2.alloc (.cells #[.bool (sg q), .slice Xq (nl (mg q)) cq] 24)).alloc (.cells #[.bool (sg m), .slice Xm (nl (mg m)) cm] 24))
  rw [hsg] at CG
  replace hsg := Lib.hid hsg
  refine (Calls.mono (CG) ?_)
  rintro e W4 ⟨rfl, hb4⟩
  replace ha := ha.below hb4
  replace hb := hb.below hb4
  replace Ra := Ra.below hb4
  replace qa0 := cbl hb4 qa0
  replace qa1 := cbl hb4 qa1
  replace Rb := Rb.below hb4
  replace qb0 := cbl hb4 qb0
  replace qb1 := cbl hb4 qb1
  replace Rr := Rr.below hb4
  replace qr0 := cbl hb4 qr0
  replace qr1 := cbl hb4 qr1
  replace hq := hq.below hb4
  replace hm := hm.below hb4
  replace Rq := Rq.below hb4
  replace qq0 := cbl hb4 qq0
  replace qq1 := cbl hb4 qq1
  replace Rm := Rm.below hb4
  replace qm0 := cbl hb4 qm0
  replace qm1 := cbl hb4 qm1
  replace HBT := Below.cons HBT hb4
  clear hb4
  have fzr0 := Rr.f (i := 0)
  have fzr1 := Rr.f (i := 1)
  go_wp2_with (fail)
  have hzq : q = ovr a b dr := by rw [Eq.out, hov.out]
  subst hzq
  have RS := Rr.store2 (.bool (sg ((ovr a b dr)))) (.slice Xq (nl (mg ((ovr a b dr)))) cq)
  have e0 := RS.c (i := 0) rfl
  have e1 := RS.c (i := 1) rfl
  refine bodyPost_ret (v := .agg #[.bool (sg ((ovr a b dr))), .slice Xq (nl (mg ((ovr a b dr)))) cq]) (by simp [results, Tryz.results42, go_sem, e0, e1]) rfl ?_
  exact ⟨Xq, cq, rfl, (Rr.keep2 (nuB rfl) hq), (Below.store2 HBT (by first | exact Nat.le_refl _ | omega))⟩
theorem over_q (aA : Option Addr) (ac : Nat) (a : Int) (bA : Option Addr) (bc : Nat) (b : Int) (dr : Int) (w : World) (ha : NatV w aA ac (mg a)) (hb : NatV w bA bc (mg b))  (d0 : 0 ≤ dr) (d4 : dr ≤ 4) (la : nl (mg a) ≤ 1000000) (lb : nl (mg b) ≤ 1000000) (hb0 : 0 < b) (h0 : a % b ≠ 0) (h1 : a / b = 0) :
    Calls Tryz.prog 42 #[.agg #[.bool (sg a), .slice aA (nl (mg a)) ac], .agg #[.bool (sg b), .slice bA (nl (mg b)) bc], .int .i64 dr] w (RetI w (ovr a b dr)) := by
  have lr0 := rest_le (a := a) hb0
  have lq0 := quo_le a b
  have ld0 := dbl_le (r := a % b)
  have hov : ovr a b dr = if upw (sg a) (decide (a / b % 2 = 1)) (2 * (a % b) - b) dr then a / b + 1 else a / b := by unfold ovr; rw [if_neg h0]
  replace hov := Lib.hid hov
  replace h0 := Lib.hid h0
  replace h1 := Lib.hid h1
  obtain ⟨hb1, Ra, Rb, Rr⟩ := bx3 w #[.bool (sg a), .slice aA (nl (mg a)) ac] 24 #[.bool (sg b), .slice bA (nl (mg b)) bc] 24 #[.bool false, .slice none 0 0] 24
  replace ha := ha.below hb1
  replace hb := hb.below hb1
  have HBT := hb1
  clear hb1
  have qa0 := Ra.c (i := 0) rfl
  have qa1 := Ra.c (i := 1) rfl
  have qb0 := Rb.c (i := 0) rfl
  have qb1 := Rb.c (i := 1) rfl
  have qr0 := Rr.c (i := 0) rfl
  have qr1 := Rr.c (i := 1) rfl
  go_enter Tryz.func42, Tryz.ntmps42
  go_wp2_with (fail)
  obtain ⟨q, Eq⟩ : ∃ zq : Int, zq = a / b := ⟨_, rfl⟩
  have lq : nl (mg q) ≤ 1000000 := by rw [Eq]; omega
  obtain ⟨m, Em⟩ : ∃ zq : Int, zq = a % b := ⟨_, rfl⟩
  have lm : nl (mg m) ≤ 1000000 := by rw [Em]; omega
  have dm2 : nl (mg (2 * m)) ≤ 1000001 := by rw [Em]; omega
  have CT2 := (idiv_c aA ac a bA bc b _ ha hb (by omega) (by omega) (by omega))
  rw [← Eq, ← Em] at CT2
  replace Eq := Lib.hid Eq
  replace Em := Lib.hid Em
  replace CT2 := Lib.hid CT2
  refine (Calls.mono CT2.out ?_)
  clear CT2
  rintro e W2 ⟨Xq, cq, Xm, cm, rfl, hq, hm, hb2⟩
  replace ha := ha.below hb2
  replace hb := hb.below hb2
  replace Ra := Ra.below hb2
  replace qa0 := cbl hb2 qa0
  replace qa1 := cbl hb2 qa1
  replace Rb := Rb.below hb2
  replace qb0 := cbl hb2 qb0
  replace qb1 := cbl hb2 qb1
  replace Rr := Rr.below hb2
  replace qr0 := cbl hb2 qr0
  replace qr1 := cbl hb2 qr1
  replace HBT := Below.cons HBT hb2
  clear hb2
  clear lr0 lq0 ld0
  have szr := Rr.lt
  go_wp2_with (fail)
  obtain ⟨hb3, Rq, Rm⟩ := bx2 W2 #[.bool (sg q), .slice Xq (nl (mg q)) cq] 24 #[.bool (sg m), .slice Xm (nl (mg m)) cm] 24
  replace ha := ha.below hb3
  replace hb := hb.below hb3
  replace Ra := Ra.below hb3
  replace qa0 := cbl hb3 qa0
  replace qa1 := cbl hb3 qa1
  replace Rb := Rb.below hb3
  replace qb0 := cbl hb3 qb0
  replace qb1 := cbl hb3 qb1
  replace Rr := Rr.below hb3
  replace qr0 := cbl hb3 qr0
  replace qr1 := cbl hb3 qr1
  replace hq := hq.below hb3
  replace hm := hm.below hb3
  replace HBT := Below.cons HBT hb3
  clear hb3
  have qq0 := Rq.c (i := 0) rfl
  have qq1 := Rq.c (i := 1) rfl
  have qm0 := Rm.c (i := 0) rfl
  have qm1 := Rm.c (i := 1) rfl
  have hsg : (m.sign == 0) = false := by have := h0.out; rw [← Em.out] at this; simp; exact this
  obtain ⟨sn, Esn⟩ : ∃ sn, sn = m.sign := ⟨_, rfl⟩
  have CG := isign_c Xm cm m ((W2.alloc (.cells #[.bool (sg q), .slice Xq (nl (mg q)) cq] 24)).alloc (.cells #[.bool (sg m), .slice Xm (nl (mg m)) cm] 24))
  rw [← Esn] at CG hsg
  replace Esn := Lib.hid Esn
  have t1 : decide (0 < ((nl (mg q) : Nat) : Int)) = false := by rw [Eq.out, h1.out, mg0, nl_zero]; rfl
  have t2 : decide (0 < nl (mg q)) = false := by rw [Eq.out, h1.out, mg0, nl_zero]; rfl
  refine (Calls.mono (CG) ?_)
  rintro e W4 ⟨rfl, hb4⟩
  replace ha := ha.below hb4
  replace hb := hb.below hb4
  replace Ra := Ra.below hb4
  replace qa0 := cbl hb4 qa0
  replace qa1 := cbl hb4 qa1
  replace Rb := Rb.below hb4
  replace qb0 := cbl hb4 qb0
  replace qb1 := cbl hb4 qb1
  replace Rr := Rr.below hb4
  replace qr0 := cbl hb4 qr0
  replace qr1 := cbl hb4 qr1
  replace hq := hq.below hb4
  replace hm := hm.below hb4
  replace Rq := Rq.below hb4
  replace qq0 := cbl hb4 qq0
  replace qq1 := cbl hb4 qq1
  replace Rm := Rm.below hb4
  replace qm0 := cbl hb4 qm0
  replace qm1 := cbl hb4 qm1
  replace HBT := Below.cons HBT hb4
  clear hb4
  go_wp2_with (fail)
  have eod : decide (q % 2 = 1) = false := by rw [Eq.out, h1.out]; rfl
  obtain ⟨m2, Em2⟩ : ∃ z, z = 2 * m := ⟨_, rfl⟩
  rw [← Em2] at dm2
  have CS := fun (W : World) (h1 : NatV W Xm cm (mg m)) => ishift_c Xm cm m 1 W h1 (by omega) (by omega)
  simp only [shf_twice, ← Em2] at CS
  obtain ⟨fn, hfn, wi, wf, CW0⟩ := way_at dr d0 d4
  replace hfn := Lib.hid hfn
  obtain ⟨up, Eup⟩ : ∃ z, z = upw (sg a) false (m2 - b) dr := ⟨_, rfl⟩
  have CW := CW0 (sg a) false m2 b
  rw [← Eup] at CW
  clear CW0
  have hov2 : ovr a b dr = if up = true then q + 1 else q := by rw [hov.out, Eup, Em2, ← Eq.out, ← Em.out, eod]
  replace CS := Lib.hid CS
  replace CW := Lib.hid CW
  replace Em2 := Lib.hid Em2
  replace Eup := Lib.hid Eup
  replace hov2 := Lib.hid hov2
  refine wp_region_inv (fun E a' w' => ∃ (u34 u35 u36 u37 u38 u39 u40 u41 u42 u43 u44 u45 : Value),
    a' = { tmps := #[.agg #[.bool (sg a), .slice aA (nl (mg a)) ac], .agg #[.bool (sg b), .slice bA (nl (mg b)) bc], .int .i64 dr, .pointer (some ⟨w.heap.size, 0, none⟩), .pointer (some ⟨(w.heap.size + 1), 0, none⟩), undef, .pointer (some ⟨(w.heap.size + 1 + 1), 0, none⟩), .pointer (some ⟨W2.heap.size, 0, none⟩), .pointer (some ⟨(W2.heap.size + 1), 0, none⟩), .int .i64 0, .bool false, .tuple #[.agg #[.bool (sg q), .slice Xq (nl (mg q)) cq], .agg #[.bool (sg m), .slice Xm (nl (mg m)) cm], .int .i64 0], .agg #[.bool (sg a), .slice aA (nl (mg a)) ac], .agg #[.bool (sg b), .slice bA (nl (mg b)) bc], .tuple #[.agg #[.bool (sg q), .slice Xq (nl (mg q)) cq], .agg #[.bool (sg m), .slice Xm (nl (mg m)) cm], .int .i64 0], .agg #[.bool (sg q), .slice Xq (nl (mg q)) cq], .agg #[.bool (sg m), .slice Xm (nl (mg m)) cm], .int .i64 0, .agg #[.bool (sg m), .slice Xm (nl (mg m)) cm], .int .i64 sn, .bool false, undef, .pointer (some ⟨W2.heap.size, 1, none⟩), .slice Xq (nl (mg q)) cq, .int .i64 (nl (mg q)), .bool false, .bool false, undef, undef, undef, undef, undef, undef, .bool false, u34, u35, u36, u37, u38, u39, u40, u41, u42, u43, u44, u45, undef, undef, undef, undef], defers := [] } ∧
    (E 0 = true → u34 = (.agg #[.func (.func 80) #[] #[], .func (.func 81) #[] #[], .func (.func 82) #[] #[], .func (.func 83) #[] #[], .func (.func 84) #[] #[]])) ∧
    (E 1 = true → u35 = .int .i64 dr) ∧
    (E 2 = true → u36 = .agg #[.func (.func fn) #[] #[]]) ∧
    (E 3 = true → u37 = .func (.func fn) #[] #[]) ∧
    (E 4 = true → u38 = .pointer (some ⟨w.heap.size, 0, none⟩)) ∧
    (E 5 = true → u39 = .bool (sg a)) ∧
    (E 6 = true → u40 = .bool false) ∧
    (E 7 = true → u41 = .agg #[.bool (sg m), .slice Xm (nl (mg m)) cm]) ∧
    (E 8 = true → PI u42 m2 w') ∧
    (E 9 = true → u43 = .agg #[.bool (sg b), .slice bA (nl (mg b)) bc]) ∧
    (E 10 = true → u44 = .int .i64 (icmp m2 b)) ∧
    (E 11 = true → u45 = .bool up) ∧
    Below W4.heap.size W4 w') (by kernel_rfl) (by kernel_rfl) ?init ?fin ?step
  case init => exact ⟨_, _, _, _, _, _, _, _, _, _, _, _, rfl, by simp, by simp, by simp, by simp, by simp, by simp, by simp, by simp, by simp, by simp, by simp, by simp, (Below.refl _ _).drew⟩
  case step =>
    rintro E a' w' i ⟨u34, u35, u36, u37, u38, u39, u40, u41, u42, u43, u44, u45, rfl, h0, h1, h2, h3, h4, h5, h6, h7, h8, h9, h10, h11, hB⟩ hi hEi hdep
    have qa0 := cbl hB qa0
    have qa1 := cbl hB qa1
    have qb0 := cbl hB qb0
    have qb1 := cbl hB qb1
    have qm0 := cbl hB qm0
    have qm1 := cbl hB qm1
    obtain rfl | rfl | rfl | rfl | rfl | rfl | rfl | rfl | rfl | rfl | rfl | rfl : i = 0 ∨ i = 1 ∨ i = 2 ∨ i = 3 ∨ i = 4 ∨ i = 5 ∨ i = 6 ∨ i = 7 ∨ i = 8 ∨ i = 9 ∨ i = 10 ∨ i = 11 := by simp at hi; omega
    · skip
      refine wpOp_step rfl (fun K' hK' => ?_)
      go_simp
      refine (Calls.mono (ways_c w') ?_)
      rintro e W1 ⟨rfl, kb⟩
      refine hK' _ _ ?_
      exact ⟨_, _, _, _, _, _, _, _, _, _, _, _, rfl, fun _ => rfl, kd h1, kd h2, kd h3, kd h4, kd h5, kd h6, kd h7, kp h8 (fun h => h.below kb), kd h9, kd h10, kd h11, Below.cons hB kb⟩
    · skip
      refine wpOp_step rfl (fun K' hK' => ?_)
      go_simp
      refine hK' _ _ ?_
      exact ⟨_, _, _, _, _, _, _, _, _, _, _, _, rfl, kd h0, fun _ => rfl, kd h2, kd h3, kd h4, kd h5, kd h6, kd h7, kd h8, kd h9, kd h10, kd h11, hB⟩
    · skip
      have d0 := hdep _ rfl ⟨0, .data⟩ (by simp) rfl
      obtain rfl := h0 d0
      have d1 := hdep _ rfl ⟨1, .data⟩ (by simp) rfl
      obtain rfl := h1 d1
      refine wpOp_step rfl (fun K' hK' => ?_)
      go_simp
      refine hK' _ _ ?_
      exact ⟨_, _, _, _, _, _, _, _, _, _, _, _, rfl, kd h0, kd h1, fun _ => rfl, kd h3, kd h4, kd h5, kd h6, kd h7, kd h8, kd h9, kd h10, kd h11, hB⟩
    · skip
      have d2 := hdep _ rfl ⟨2, .data⟩ (by simp) rfl
      obtain rfl := h2 d2
      refine wpOp_step rfl (fun K' hK' => ?_)
      go_simp
      refine hK' _ _ ?_
      exact ⟨_, _, _, _, _, _, _, _, _, _, _, _, rfl, kd h0, kd h1, kd h2, fun _ => rfl, kd h4, kd h5, kd h6, kd h7, kd h8, kd h9, kd h10, kd h11, hB⟩
    · skip
      refine wpOp_step rfl (fun K' hK' => ?_)
      go_simp
      refine hK' _ _ ?_
      exact ⟨_, _, _, _, _, _, _, _, _, _, _, _, rfl, kd h0, kd h1, kd h2, kd h3, fun _ => rfl, kd h5, kd h6, kd h7, kd h8, kd h9, kd h10, kd h11, hB⟩
    · skip
      have d4 := hdep _ rfl ⟨4, .data⟩ (by simp) rfl
      obtain rfl := h4 d4
      refine wpOp_step rfl (fun K' hK' => ?_)
      go_simp
      refine hK' _ _ ?_
      exact ⟨_, _, _, _, _, _, _, _, _, _, _, _, rfl, kd h0, kd h1, kd h2, kd h3, kd h4, fun _ => rfl, kd h6, kd h7, kd h8, kd h9, kd h10, kd h11, hB⟩
    · skip
      refine wpOp_step rfl (fun K' hK' => ?_)
      go_simp
      refine hK' _ _ ?_
      exact ⟨_, _, _, _, _, _, _, _, _, _, _, _, rfl, kd h0, kd h1, kd h2, kd h3, kd h4, kd h5, fun _ => rfl, kd h7, kd h8, kd h9, kd h10, kd h11, hB⟩
    · skip
      refine wpOp_step rfl (fun K' hK' => ?_)
      go_simp
      refine hK' _ _ ?_
      exact ⟨_, _, _, _, _, _, _, _, _, _, _, _, rfl, kd h0, kd h1, kd h2, kd h3, kd h4, kd h5, kd h6, fun _ => rfl, kd h8, kd h9, kd h10, kd h11, hB⟩
    · skip
      have d7 := hdep _ rfl ⟨7, .data⟩ (by simp) rfl
      obtain rfl := h7 d7
      refine wpOp_step rfl (fun K' hK' => ?_)
      go_simp
      refine (Calls.mono (CS.out w' (hm.below hB)) ?_)
      rintro e W1 ⟨Xr, cr, rfl, kr, kb⟩
      refine hK' _ _ ?_
      exact ⟨_, _, _, _, _, _, _, _, _, _, _, _, rfl, kd h0, kd h1, kd h2, kd h3, kd h4, kd h5, kd h6, kd h7, fun _ => ⟨Xr, cr, rfl, kr⟩, kd h9, kd h10, kd h11, Below.cons hB kb⟩
    · skip
      refine wpOp_step rfl (fun K' hK' => ?_)
      go_simp
      refine hK' _ _ ?_
      exact ⟨_, _, _, _, _, _, _, _, _, _, _, _, rfl, kd h0, kd h1, kd h2, kd h3, kd h4, kd h5, kd h6, kd h7, kd h8, fun _ => rfl, kd h10, kd h11, hB⟩
    · skip
      have d8 := hdep _ rfl ⟨8, .data⟩ (by simp) rfl
      obtain ⟨X_8, c_8, rfl, k_8⟩ := h8 d8
      have d9 := hdep _ rfl ⟨9, .data⟩ (by simp) rfl
      obtain rfl := h9 d9
      refine wpOp_step rfl (fun K' hK' => ?_)
      go_simp
      refine (Calls.mono (icmp_c X_8 c_8 m2 bA bc b w' k_8 (hb.below hB) (by omega) (by omega)) ?_)
      rintro e W1 ⟨rfl, kb⟩
      refine hK' _ _ ?_
      exact ⟨_, _, _, _, _, _, _, _, _, _, _, _, rfl, kd h0, kd h1, kd h2, kd h3, kd h4, kd h5, kd h6, kd h7, kp h8 (fun h => h.below kb), kd h9, fun _ => rfl, kd h11, Below.cons hB kb⟩
    · skip
      have d3 := hdep _ rfl ⟨3, .data⟩ (by simp) rfl
      obtain rfl := h3 d3
      have d5 := hdep _ rfl ⟨5, .data⟩ (by simp) rfl
      obtain rfl := h5 d5
      have d6 := hdep _ rfl ⟨6, .data⟩ (by simp) rfl
      obtain rfl := h6 d6
      have d10 := hdep _ rfl ⟨10, .data⟩ (by simp) rfl
      obtain rfl := h10 d10
      rcases hfn.out with rfl | rfl | rfl | rfl | rfl
      all_goals refine wpOp_step rfl (fun K' hK' => ?_)
      all_goals go_simp
      all_goals refine (Calls.mono (CW.out w') ?_)
      all_goals rintro e W1 ⟨rfl, kb⟩
      all_goals refine hK' _ _ ?_
      all_goals exact ⟨_, _, _, _, _, _, _, _, _, _, _, _, rfl, kd h0, kd h1, kd h2, kd h3, kd h4, kd h5, kd h6, kd h7, kp h8 (fun h => h.below kb), kd h9, kd h10, fun _ => rfl, Below.cons hB kb⟩
  case fin =>
    rintro E a' w' ⟨u34, u35, u36, u37, u38, u39, u40, u41, u42, u43, u44, u45, rfl, h0, h1, h2, h3, h4, h5, h6, h7, h8, h9, h10, h11, hB⟩ hall
    replace ha := ha.below hB
    replace hb := hb.below hB
    replace Ra := Ra.below hB
    replace qa0 := cbl hB qa0
    replace qa1 := cbl hB qa1
    replace Rb := Rb.below hB
    replace qb0 := cbl hB qb0
    replace qb1 := cbl hB qb1
    replace Rr := Rr.below hB
    replace qr0 := cbl hB qr0
    replace qr1 := cbl hB qr1
    replace hq := hq.below hB
    replace hm := hm.below hB
    replace Rq := Rq.below hB
    replace qq0 := cbl hB qq0
    replace qq1 := cbl hB qq1
    replace Rm := Rm.below hB
    replace qm0 := cbl hB qm0
    replace qm1 := cbl hB qm1
    replace HBT := Below.cons HBT hB
    obtain rfl := h11 (hall 11 (by simp))
    clear hall
    cases up
    case false =>
      have fzr0 := Rr.f (i := 0)
      have fzr1 := Rr.f (i := 1)
      go_wp2_with (fail)
      have hzq : q = ovr a b dr := by have := hov2.out; simpa using this.symm
      subst hzq
      have RS := Rr.store2 (.bool (sg ((ovr a b dr)))) (.slice Xq (nl (mg ((ovr a b dr)))) cq)
      have e0 := RS.c (i := 0) rfl
      have e1 := RS.c (i := 1) rfl
      refine bodyPost_ret (v := .agg #[.bool (sg ((ovr a b dr))), .slice Xq (nl (mg ((ovr a b dr)))) cq]) (by simp [results, Tryz.results42, go_sem, e0, e1]) rfl ?_
      exact ⟨Xq, cq, rfl, (Rr.keep2 (nuB rfl) hq), (Below.store2 HBT (by first | exact Nat.le_refl _ | omega))⟩
    case true =>
      go_wp2_with (fail)
      have hd5 := drb (w')
      replace ha := ha.below hd5
      replace hb := hb.below hd5
      replace Ra := Ra.below hd5
      replace qa0 := cbl hd5 qa0
      replace qa1 := cbl hd5 qa1
      replace Rb := Rb.below hd5
      replace qb0 := cbl hd5 qb0
      replace qb1 := cbl hd5 qb1
      replace Rr := Rr.below hd5
      replace qr0 := cbl hd5 qr0
      replace qr1 := cbl hd5 qr1
      replace hq := hq.below hd5
      replace hm := hm.below hd5
      replace Rq := Rq.below hd5
      replace qq0 := cbl hd5 qq0
      replace qq1 := cbl hd5 qq1
      replace Rm := Rm.below hd5
      replace qm0 := cbl hd5 qm0
      replace qm1 := cbl hd5 qm1
      replace HBT := Below.cons HBT hd5
      clear hd5
      obtain ⟨o1, Eo1⟩ : ∃ zq : Int, zq = (1 : Int) := ⟨_, rfl⟩
      have No1 : nl (mg o1) ≤ 1 := by rw [Eo1]; exact Nat.le_of_eq nl_one
      have C5_0 := fun (W : World) => (show Calls Tryz.prog 46 #[.int .i64 1] W (RetI W o1) by rw [Eo1]; exact iof1_c W)
      replace Eo1 := Lib.hid Eo1
      replace C5_0 := Lib.hid C5_0
      obtain ⟨y, Ey⟩ : ∃ zq : Int, zq = q + o1 := ⟨_, rfl⟩
      have C5_1 := fun (W : World) (A : Option Addr) (c : Nat) (h1 : NatV W Xq cq (mg q)) (h2 : NatV W A c (mg o1)) => iadd_c Xq cq q A c o1 W h1 h2 (by omega) (by omega)
      simp only [← Ey] at C5_1
      replace Ey := Lib.hid Ey
      replace C5_1 := Lib.hid C5_1
      go_region_held3 (fun W => W.cell? ⟨W2.heap.size, 0, none⟩ = some (.bool (sg q)) ∧ W.cell? ⟨W2.heap.size, 1, none⟩ = some (.slice Xq (nl (mg q)) cq))
        (first
          | exact ⟨qq0, qq1⟩
          | exact ⟨qq0_6, qq1_6⟩
          | exact ⟨qq0_7, qq1_7⟩
          | exact ⟨((Rq_7.other2 (by simp <;> omega)).c (i := 0) rfl), ((Rq_7.other2 (by simp <;> omega)).c (i := 1) rfl)⟩
          | go_keep)
        (first
          | (go_at_call 46; (with_reducible refine (C5_0.out _).mono ?_); rintro e W6 ⟨Xo1, co1, rfl, ho1, hb6⟩; have ha_6 := ha.below hb6; have hb_6 := hb.below hb6; have Ra_6 := Ra.below hb6; have qa0_6 := cbl hb6 qa0; have qa1_6 := cbl hb6 qa1; have Rb_6 := Rb.below hb6; have qb0_6 := cbl hb6 qb0; have qb1_6 := cbl hb6 qb1; have Rr_6 := Rr.below hb6; have qr0_6 := cbl hb6 qr0; have qr1_6 := cbl hb6 qr1; have hq_6 := hq.below hb6; have hm_6 := hm.below hb6; have Rq_6 := Rq.below hb6; have qq0_6 := cbl hb6 qq0; have qq1_6 := cbl hb6 qq1; have Rm_6 := Rm.below hb6; have qm0_6 := cbl hb6 qm0; have qm1_6 := cbl hb6 qm1; have HBT_6 := Below.cons HBT hb6)
          | (go_at_call 57; (with_reducible refine (C5_1.out _ _ _ hq_6 ho1).mono ?_); rintro e W7 ⟨Xy, cy, rfl, hy, hb7⟩; have ha_7 := ha_6.below hb7; have hb_7 := hb_6.below hb7; have Ra_7 := Ra_6.below hb7; have qa0_7 := cbl hb7 qa0_6; have qa1_7 := cbl hb7 qa1_6; have Rb_7 := Rb_6.below hb7; have qb0_7 := cbl hb7 qb0_6; have qb1_7 := cbl hb7 qb1_6; have Rr_7 := Rr_6.below hb7; have qr0_7 := cbl hb7 qr0_6; have qr1_7 := cbl hb7 qr1_6; have hq_7 := hq_6.below hb7; have hm_7 := hm_6.below hb7; have Rq_7 := Rq_6.below hb7; have qq0_7 := cbl hb7 qq0_6; have qq1_7 := cbl hb7 qq1_6; have Rm_7 := Rm_6.below hb7; have qm0_7 := cbl hb7 qm0_6; have qm1_7 := cbl hb7 qm1_6; have ho1_7 := ho1.below hb7; have HBT_7 := Below.cons HBT_6 hb7; have fz0 := Rr_7.f (i := 0); have fz1 := Rr_7.f (i := 1)))
      all_goals (try go_wp2_with (fail))
      have hzy : y = ovr a b dr := by rw [Ey.out, Eo1.out]; have := hov2.out; simpa using this.symm
      subst hzy
      have RS := Rr_7.store2 (.bool (sg ((ovr a b dr)))) (.slice Xy (nl (mg ((ovr a b dr)))) cy)
      have e0 := RS.c (i := 0) rfl
      have e1 := RS.c (i := 1) rfl
      refine bodyPost_ret (v := .agg #[.bool (sg ((ovr a b dr))), .slice Xy (nl (mg ((ovr a b dr)))) cy]) (by simp [results, Tryz.results42, go_sem, e0, e1]) rfl ?_
      exact ⟨Xy, cy, rfl, (Rr_7.keep2 (nuB rfl) hy), (Below.store2 HBT_7 (by first | exact Nat.le_refl _ | omega))⟩
theorem over_n (aA : Option Addr) (ac : Nat) (a : Int) (bA : Option Addr) (bc : Nat) (b : Int) (dr : Int) (w : World) (ha : NatV w aA ac (mg a)) (hb : NatV w bA bc (mg b))  (d0 : 0 ≤ dr) (d4 : dr ≤ 4) (la : nl (mg a) ≤ 1000000) (lb : nl (mg b) ≤ 1000000) (hb0 : 0 < b) (h0 : a % b ≠ 0) (h1 : a / b ≠ 0) :
    Calls Tryz.prog 42 #[.agg #[.bool (sg a), .slice aA (nl (mg a)) ac], .agg #[.bool (sg b), .slice bA (nl (mg b)) bc], .int .i64 dr] w (RetI w (ovr a b dr)) := by
  have lr0 := rest_le (a := a) hb0
  have lq0 := quo_le a b
  have ld0 := dbl_le (r := a % b)
  have hov : ovr a b dr = if upw (sg a) (decide (a / b % 2 = 1)) (2 * (a % b) - b) dr then a / b + 1 else a / b := by unfold ovr; rw [if_neg h0]
  replace hov := Lib.hid hov
  replace h0 := Lib.hid h0
  replace h1 := Lib.hid h1
  obtain ⟨hb1, Ra, Rb, Rr⟩ := bx3 w #[.bool (sg a), .slice aA (nl (mg a)) ac] 24 #[.bool (sg b), .slice bA (nl (mg b)) bc] 24 #[.bool false, .slice none 0 0] 24
  replace ha := ha.below hb1
  replace hb := hb.below hb1
  have HBT := hb1
  clear hb1
  have qa0 := Ra.c (i := 0) rfl
  have qa1 := Ra.c (i := 1) rfl
  have qb0 := Rb.c (i := 0) rfl
  have qb1 := Rb.c (i := 1) rfl
  have qr0 := Rr.c (i := 0) rfl
  have qr1 := Rr.c (i := 1) rfl
  go_enter Tryz.func42, Tryz.ntmps42
  go_wp2_with (fail)
  obtain ⟨q, Eq⟩ : ∃ zq : Int, zq = a / b := ⟨_, rfl⟩
  have lq : nl (mg q) ≤ 1000000 := by rw [Eq]; omega
  obtain ⟨m, Em⟩ : ∃ zq : Int, zq = a % b := ⟨_, rfl⟩
  have lm : nl (mg m) ≤ 1000000 := by rw [Em]; omega
  have dm2 : nl (mg (2 * m)) ≤ 1000001 := by rw [Em]; omega
  have CT2 := (idiv_c aA ac a bA bc b _ ha hb (by omega) (by omega) (by omega))
  rw [← Eq, ← Em] at CT2
  replace Eq := Lib.hid Eq
  replace Em := Lib.hid Em
  replace CT2 := Lib.hid CT2
  refine (Calls.mono CT2.out ?_)
  clear CT2
  rintro e W2 ⟨Xq, cq, Xm, cm, rfl, hq, hm, hb2⟩
  replace ha := ha.below hb2
  replace hb := hb.below hb2
  replace Ra := Ra.below hb2
  replace qa0 := cbl hb2 qa0
  replace qa1 := cbl hb2 qa1
  replace Rb := Rb.below hb2
  replace qb0 := cbl hb2 qb0
  replace qb1 := cbl hb2 qb1
  replace Rr := Rr.below hb2
  replace qr0 := cbl hb2 qr0
  replace qr1 := cbl hb2 qr1
  replace HBT := Below.cons HBT hb2
  clear hb2
  clear lr0 lq0 ld0
  have szr := Rr.lt
  go_wp2_with (fail)
  obtain ⟨hb3, Rq, Rm⟩ := bx2 W2 #[.bool (sg q), .slice Xq (nl (mg q)) cq] 24 #[.bool (sg m), .slice Xm (nl (mg m)) cm] 24
  replace ha := ha.below hb3
  replace hb := hb.below hb3
  replace Ra := Ra.below hb3
  replace qa0 := cbl hb3 qa0
  replace qa1 := cbl hb3 qa1
  replace Rb := Rb.below hb3
  replace qb0 := cbl hb3 qb0
  replace qb1 := cbl hb3 qb1
  replace Rr := Rr.below hb3
  replace qr0 := cbl hb3 qr0
  replace qr1 := cbl hb3 qr1
  replace hq := hq.below hb3
  replace hm := hm.below hb3
  replace HBT := Below.cons HBT hb3
  clear hb3
  have qq0 := Rq.c (i := 0) rfl
  have qq1 := Rq.c (i := 1) rfl
  have qm0 := Rm.c (i := 0) rfl
  have qm1 := Rm.c (i := 1) rfl
  have hsg : (m.sign == 0) = false := by have := h0.out; rw [← Em.out] at this; simp; exact this
  obtain ⟨sn, Esn⟩ : ∃ sn, sn = m.sign := ⟨_, rfl⟩
  have CG := isign_c Xm cm m ((W2.alloc (.cells #[.bool (sg q), .slice Xq (nl (mg q)) cq] 24)).alloc (.cells #[.bool (sg m), .slice Xm (nl (mg m)) cm] 24))
  rw [← Esn] at CG hsg
  replace Esn := Lib.hid Esn
  refine (Calls.mono (CG) ?_)
  rintro e W4 ⟨rfl, hb4⟩
  replace ha := ha.below hb4
  replace hb := hb.below hb4
  replace Ra := Ra.below hb4
  replace qa0 := cbl hb4 qa0
  replace qa1 := cbl hb4 qa1
  replace Rb := Rb.below hb4
  replace qb0 := cbl hb4 qb0
  replace qb1 := cbl hb4 qb1
  replace Rr := Rr.below hb4
  replace qr0 := cbl hb4 qr0
  replace qr1 := cbl hb4 qr1
  replace hq := hq.below hb4
  replace hm := hm.below hb4
  replace Rq := Rq.below hb4
  replace qq0 := cbl hb4 qq0
  replace qq1 := cbl hb4 qq1
  replace Rm := Rm.below hb4
  replace qm0 := cbl hb4 qm0
  replace qm1 := cbl hb4 qm1
  replace HBT := Below.cons HBT hb4
  clear hb4
  have qn : mg q ≠ 0 := fun e => h1.out (Eq.out ▸ mg_zero.1 e)
  have t1 : decide (0 < (nl (mg q) : Int)) = true := by have := nl_pos.2 qn; simp; omega
  have t2 : decide (0 < nl (mg q)) = true := by have := nl_pos.2 qn; simp; omega
  have t9 := nl_pos.2 qn
  replace qn := Lib.hid qn
  obtain ⟨ad, eX, hc0⟩ := hq.rd.get 0 t9
  obtain ⟨x, Ex⟩ : ∃ x, x = gl (limbs (mg q)) 0 := ⟨_, rfl⟩
  have hxl : x < 4294967296 := by rw [Ex]; exact (lim_limbs _).gl 0
  have hxv : x = mg q / 4294967296 ^ 0 % 4294967296 := by rw [Ex, limbs_gl]
  rw [← Ex, show ad.add 0 = ad by cases ad; simp [Addr.add]; try (split <;> simp)] at hc0
  have hod := odd_limb hxv
  have hand := and_one_u32 x hxl
  obtain ⟨z, Ez⟩ : ∃ z, z = x % 2 := ⟨_, rfl⟩
  rw [← Ez] at hand hod
  have hoz : ((z : Int) == 1) = decide (q % 2 = 1) := by rw [hod]; by_cases k : z = 1 <;> simp [k] <;> omega
  obtain ⟨od, Eod⟩ : ∃ od, od = decide (q % 2 = 1) := ⟨_, rfl⟩
  rw [← Eod] at hoz
  replace Ex := Lib.hid Ex
  replace hxv := Lib.hid hxv
  replace hod := Lib.hid hod
  replace Ez := Lib.hid Ez
  replace Eod := Lib.hid Eod
  subst eX
  go_wp2_with (fail)
  obtain ⟨m2, Em2⟩ : ∃ z, z = 2 * m := ⟨_, rfl⟩
  rw [← Em2] at dm2
  have CS := fun (W : World) (h1 : NatV W Xm cm (mg m)) => ishift_c Xm cm m 1 W h1 (by omega) (by omega)
  simp only [shf_twice, ← Em2] at CS
  obtain ⟨fn, hfn, wi, wf, CW0⟩ := way_at dr d0 d4
  replace hfn := Lib.hid hfn
  obtain ⟨up, Eup⟩ : ∃ z, z = upw (sg a) od (m2 - b) dr := ⟨_, rfl⟩
  have CW := CW0 (sg a) od m2 b
  rw [← Eup] at CW
  clear CW0
  have hov2 : ovr a b dr = if up = true then q + 1 else q := by rw [hov.out, Eup, Em2, ← Eq.out, ← Em.out, Eod.out]
  replace CS := Lib.hid CS
  replace CW := Lib.hid CW
  replace Em2 := Lib.hid Em2
  replace Eup := Lib.hid Eup
  replace hov2 := Lib.hid hov2
  refine wp_region_inv (fun E a' w' => ∃ (u34 u35 u36 u37 u38 u39 u40 u41 u42 u43 u44 u45 : Value),
    a' = { tmps := #[.agg #[.bool (sg a), .slice aA (nl (mg a)) ac], .agg #[.bool (sg b), .slice bA (nl (mg b)) bc], .int .i64 dr, .pointer (some ⟨w.heap.size, 0, none⟩), .pointer (some ⟨(w.heap.size + 1), 0, none⟩), undef, .pointer (some ⟨(w.heap.size + 1 + 1), 0, none⟩), .pointer (some ⟨W2.heap.size, 0, none⟩), .pointer (some ⟨(W2.heap.size + 1), 0, none⟩), .int .i64 0, .bool od, .tuple #[.agg #[.bool (sg q), .slice (some ad) (nl (mg q)) cq], .agg #[.bool (sg m), .slice Xm (nl (mg m)) cm], .int .i64 0], .agg #[.bool (sg a), .slice aA (nl (mg a)) ac], .agg #[.bool (sg b), .slice bA (nl (mg b)) bc], .tuple #[.agg #[.bool (sg q), .slice (some ad) (nl (mg q)) cq], .agg #[.bool (sg m), .slice Xm (nl (mg m)) cm], .int .i64 0], .agg #[.bool (sg q), .slice (some ad) (nl (mg q)) cq], .agg #[.bool (sg m), .slice Xm (nl (mg m)) cm], .int .i64 0, .agg #[.bool (sg m), .slice Xm (nl (mg m)) cm], .int .i64 sn, .bool false, undef, .pointer (some ⟨W2.heap.size, 1, none⟩), .slice (some ad) (nl (mg q)) cq, .int .i64 (nl (mg q)), .bool true, .bool true, .pointer (some ⟨W2.heap.size, 1, none⟩), .slice (some ad) (nl (mg q)) cq, .pointer (some ad), .int .u32 x, .int .u32 z, .bool od, .bool od, u34, u35, u36, u37, u38, u39, u40, u41, u42, u43, u44, u45, undef, undef, undef, undef], defers := [] } ∧
    (E 0 = true → u34 = (.agg #[.func (.func 80) #[] #[], .func (.func 81) #[] #[], .func (.func 82) #[] #[], .func (.func 83) #[] #[], .func (.func 84) #[] #[]])) ∧
    (E 1 = true → u35 = .int .i64 dr) ∧
    (E 2 = true → u36 = .agg #[.func (.func fn) #[] #[]]) ∧
    (E 3 = true → u37 = .func (.func fn) #[] #[]) ∧
    (E 4 = true → u38 = .pointer (some ⟨w.heap.size, 0, none⟩)) ∧
    (E 5 = true → u39 = .bool (sg a)) ∧
    (E 6 = true → u40 = .bool od) ∧
    (E 7 = true → u41 = .agg #[.bool (sg m), .slice Xm (nl (mg m)) cm]) ∧
    (E 8 = true → PI u42 m2 w') ∧
    (E 9 = true → u43 = .agg #[.bool (sg b), .slice bA (nl (mg b)) bc]) ∧
    (E 10 = true → u44 = .int .i64 (icmp m2 b)) ∧
    (E 11 = true → u45 = .bool up) ∧
    Below W4.heap.size W4 w') (by kernel_rfl) (by kernel_rfl) ?init ?fin ?step
  case init => exact ⟨_, _, _, _, _, _, _, _, _, _, _, _, rfl, by simp, by simp, by simp, by simp, by simp, by simp, by simp, by simp, by simp, by simp, by simp, by simp, (Below.refl _ _).drew⟩
  case step =>
    rintro E a' w' i ⟨u34, u35, u36, u37, u38, u39, u40, u41, u42, u43, u44, u45, rfl, h0, h1, h2, h3, h4, h5, h6, h7, h8, h9, h10, h11, hB⟩ hi hEi hdep
    have qa0 := cbl hB qa0
    have qa1 := cbl hB qa1
    have qb0 := cbl hB qb0
    have qb1 := cbl hB qb1
    have qm0 := cbl hB qm0
    have qm1 := cbl hB qm1
    obtain rfl | rfl | rfl | rfl | rfl | rfl | rfl | rfl | rfl | rfl | rfl | rfl : i = 0 ∨ i = 1 ∨ i = 2 ∨ i = 3 ∨ i = 4 ∨ i = 5 ∨ i = 6 ∨ i = 7 ∨ i = 8 ∨ i = 9 ∨ i = 10 ∨ i = 11 := by simp at hi; omega
    · skip
      refine wpOp_step rfl (fun K' hK' => ?_)
      go_simp
      refine (Calls.mono (ways_c w') ?_)
      rintro e W1 ⟨rfl, kb⟩
      refine hK' _ _ ?_
      exact ⟨_, _, _, _, _, _, _, _, _, _, _, _, rfl, fun _ => rfl, kd h1, kd h2, kd h3, kd h4, kd h5, kd h6, kd h7, kp h8 (fun h => h.below kb), kd h9, kd h10, kd h11, Below.cons hB kb⟩
    · skip
      refine wpOp_step rfl (fun K' hK' => ?_)
      go_simp
      refine hK' _ _ ?_
      exact ⟨_, _, _, _, _, _, _, _, _, _, _, _, rfl, kd h0, fun _ => rfl, kd h2, kd h3, kd h4, kd h5, kd h6, kd h7, kd h8, kd h9, kd h10, kd h11, hB⟩
    · skip
      have d0 := hdep _ rfl ⟨0, .data⟩ (by simp) rfl
      obtain rfl := h0 d0
      have d1 := hdep _ rfl ⟨1, .data⟩ (by simp) rfl
      obtain rfl := h1 d1
      refine wpOp_step rfl (fun K' hK' => ?_)
      go_simp
      refine hK' _ _ ?_
      exact ⟨_, _, _, _, _, _, _, _, _, _, _, _, rfl, kd h0, kd h1, fun _ => rfl, kd h3, kd h4, kd h5, kd h6, kd h7, kd h8, kd h9, kd h10, kd h11, hB⟩
    · skip
      have d2 := hdep _ rfl ⟨2, .data⟩ (by simp) rfl
      obtain rfl := h2 d2
      refine wpOp_step rfl (fun K' hK' => ?_)
      go_simp
      refine hK' _ _ ?_
      exact ⟨_, _, _, _, _, _, _, _, _, _, _, _, rfl, kd h0, kd h1, kd h2, fun _ => rfl, kd h4, kd h5, kd h6, kd h7, kd h8, kd h9, kd h10, kd h11, hB⟩
    · skip
      refine wpOp_step rfl (fun K' hK' => ?_)
      go_simp
      refine hK' _ _ ?_
      exact ⟨_, _, _, _, _, _, _, _, _, _, _, _, rfl, kd h0, kd h1, kd h2, kd h3, fun _ => rfl, kd h5, kd h6, kd h7, kd h8, kd h9, kd h10, kd h11, hB⟩
    · skip
      have d4 := hdep _ rfl ⟨4, .data⟩ (by simp) rfl
      obtain rfl := h4 d4
      refine wpOp_step rfl (fun K' hK' => ?_)
      go_simp
      refine hK' _ _ ?_
      exact ⟨_, _, _, _, _, _, _, _, _, _, _, _, rfl, kd h0, kd h1, kd h2, kd h3, kd h4, fun _ => rfl, kd h6, kd h7, kd h8, kd h9, kd h10, kd h11, hB⟩
    · skip
      refine wpOp_step rfl (fun K' hK' => ?_)
      go_simp
      refine hK' _ _ ?_
      exact ⟨_, _, _, _, _, _, _, _, _, _, _, _, rfl, kd h0, kd h1, kd h2, kd h3, kd h4, kd h5, fun _ => rfl, kd h7, kd h8, kd h9, kd h10, kd h11, hB⟩
    · skip
      refine wpOp_step rfl (fun K' hK' => ?_)
      go_simp
      refine hK' _ _ ?_
      exact ⟨_, _, _, _, _, _, _, _, _, _, _, _, rfl, kd h0, kd h1, kd h2, kd h3, kd h4, kd h5, kd h6, fun _ => rfl, kd h8, kd h9, kd h10, kd h11, hB⟩
    · skip
      have d7 := hdep _ rfl ⟨7, .data⟩ (by simp) rfl
      obtain rfl := h7 d7
      refine wpOp_step rfl (fun K' hK' => ?_)
      go_simp
      refine (Calls.mono (CS.out w' (hm.below hB)) ?_)
      rintro e W1 ⟨Xr, cr, rfl, kr, kb⟩
      refine hK' _ _ ?_
      exact ⟨_, _, _, _, _, _, _, _, _, _, _, _, rfl, kd h0, kd h1, kd h2, kd h3, kd h4, kd h5, kd h6, kd h7, fun _ => ⟨Xr, cr, rfl, kr⟩, kd h9, kd h10, kd h11, Below.cons hB kb⟩
    · skip
      refine wpOp_step rfl (fun K' hK' => ?_)
      go_simp
      refine hK' _ _ ?_
      exact ⟨_, _, _, _, _, _, _, _, _, _, _, _, rfl, kd h0, kd h1, kd h2, kd h3, kd h4, kd h5, kd h6, kd h7, kd h8, fun _ => rfl, kd h10, kd h11, hB⟩
    · skip
      have d8 := hdep _ rfl ⟨8, .data⟩ (by simp) rfl
      obtain ⟨X_8, c_8, rfl, k_8⟩ := h8 d8
      have d9 := hdep _ rfl ⟨9, .data⟩ (by simp) rfl
      obtain rfl := h9 d9
      refine wpOp_step rfl (fun K' hK' => ?_)
      go_simp
      refine (Calls.mono (icmp_c X_8 c_8 m2 bA bc b w' k_8 (hb.below hB) (by omega) (by omega)) ?_)
      rintro e W1 ⟨rfl, kb⟩
      refine hK' _ _ ?_
      exact ⟨_, _, _, _, _, _, _, _, _, _, _, _, rfl, kd h0, kd h1, kd h2, kd h3, kd h4, kd h5, kd h6, kd h7, kp h8 (fun h => h.below kb), kd h9, fun _ => rfl, kd h11, Below.cons hB kb⟩
    · skip
      have d3 := hdep _ rfl ⟨3, .data⟩ (by simp) rfl
      obtain rfl := h3 d3
      have d5 := hdep _ rfl ⟨5, .data⟩ (by simp) rfl
      obtain rfl := h5 d5
      have d6 := hdep _ rfl ⟨6, .data⟩ (by simp) rfl
      obtain rfl := h6 d6
      have d10 := hdep _ rfl ⟨10, .data⟩ (by simp) rfl
      obtain rfl := h10 d10
      rcases hfn.out with rfl | rfl | rfl | rfl | rfl
      all_goals refine wpOp_step rfl (fun K' hK' => ?_)
      all_goals go_simp
      all_goals refine (Calls.mono (CW.out w') ?_)
      all_goals rintro e W1 ⟨rfl, kb⟩
      all_goals refine hK' _ _ ?_
      all_goals exact ⟨_, _, _, _, _, _, _, _, _, _, _, _, rfl, kd h0, kd h1, kd h2, kd h3, kd h4, kd h5, kd h6, kd h7, kp h8 (fun h => h.below kb), kd h9, kd h10, fun _ => rfl, Below.cons hB kb⟩
  case fin =>
    rintro E a' w' ⟨u34, u35, u36, u37, u38, u39, u40, u41, u42, u43, u44, u45, rfl, h0, h1, h2, h3, h4, h5, h6, h7, h8, h9, h10, h11, hB⟩ hall
    replace ha := ha.below hB
    replace hb := hb.below hB
    replace Ra := Ra.below hB
    replace qa0 := cbl hB qa0
    replace qa1 := cbl hB qa1
    replace Rb := Rb.below hB
    replace qb0 := cbl hB qb0
    replace qb1 := cbl hB qb1
    replace Rr := Rr.below hB
    replace qr0 := cbl hB qr0
    replace qr1 := cbl hB qr1
    replace hq := hq.below hB
    replace hm := hm.below hB
    replace Rq := Rq.below hB
    replace qq0 := cbl hB qq0
    replace qq1 := cbl hB qq1
    replace Rm := Rm.below hB
    replace qm0 := cbl hB qm0
    replace qm1 := cbl hB qm1
    replace hc0 := cbl hB hc0
    replace HBT := Below.cons HBT hB
    obtain rfl := h11 (hall 11 (by simp))
    clear hall
    cases up
    case false =>
      have fzr0 := Rr.f (i := 0)
      have fzr1 := Rr.f (i := 1)
      go_wp2_with (fail)
      have hzq : q = ovr a b dr := by have := hov2.out; simpa using this.symm
      subst hzq
      have RS := Rr.store2 (.bool (sg ((ovr a b dr)))) (.slice (some ad) (nl (mg ((ovr a b dr)))) cq)
      have e0 := RS.c (i := 0) rfl
      have e1 := RS.c (i := 1) rfl
      refine bodyPost_ret (v := .agg #[.bool (sg ((ovr a b dr))), .slice (some ad) (nl (mg ((ovr a b dr)))) cq]) (by simp [results, Tryz.results42, go_sem, e0, e1]) rfl ?_
      exact ⟨(some ad), cq, rfl, (Rr.keep2 (nuB rfl) hq), (Below.store2 HBT (by first | exact Nat.le_refl _ | omega))⟩
    case true =>
      go_wp2_with (fail)
      have hd5 := drb (w')
      replace ha := ha.below hd5
      replace hb := hb.below hd5
      replace Ra := Ra.below hd5
      replace qa0 := cbl hd5 qa0
      replace qa1 := cbl hd5 qa1
      replace Rb := Rb.below hd5
      replace qb0 := cbl hd5 qb0
      replace qb1 := cbl hd5 qb1
      replace Rr := Rr.below hd5
      replace qr0 := cbl hd5 qr0
      replace qr1 := cbl hd5 qr1
      replace hq := hq.below hd5
      replace hm := hm.below hd5
      replace Rq := Rq.below hd5
      replace qq0 := cbl hd5 qq0
      replace qq1 := cbl hd5 qq1
      replace Rm := Rm.below hd5
      replace qm0 := cbl hd5 qm0
      replace qm1 := cbl hd5 qm1
      replace hc0 := cbl hd5 hc0
      replace HBT := Below.cons HBT hd5
      clear hd5
      obtain ⟨o1, Eo1⟩ : ∃ zq : Int, zq = (1 : Int) := ⟨_, rfl⟩
      have No1 : nl (mg o1) ≤ 1 := by rw [Eo1]; exact Nat.le_of_eq nl_one
      have C5_0 := fun (W : World) => (show Calls Tryz.prog 46 #[.int .i64 1] W (RetI W o1) by rw [Eo1]; exact iof1_c W)
      replace Eo1 := Lib.hid Eo1
      replace C5_0 := Lib.hid C5_0
      obtain ⟨y, Ey⟩ : ∃ zq : Int, zq = q + o1 := ⟨_, rfl⟩
      have C5_1 := fun (W : World) (A : Option Addr) (c : Nat) (h1 : NatV W (some ad) cq (mg q)) (h2 : NatV W A c (mg o1)) => iadd_c (some ad) cq q A c o1 W h1 h2 (by omega) (by omega)
      simp only [← Ey] at C5_1
      replace Ey := Lib.hid Ey
      replace C5_1 := Lib.hid C5_1
      go_region_held3 (fun W => W.cell? ⟨W2.heap.size, 0, none⟩ = some (.bool (sg q)) ∧ W.cell? ⟨W2.heap.size, 1, none⟩ = some (.slice (some ad) (nl (mg q)) cq))
        (first
          | exact ⟨qq0, qq1⟩
          | exact ⟨qq0_6, qq1_6⟩
          | exact ⟨qq0_7, qq1_7⟩
          | exact ⟨((Rq_7.other2 (by simp <;> omega)).c (i := 0) rfl), ((Rq_7.other2 (by simp <;> omega)).c (i := 1) rfl)⟩
          | go_keep)
        (first
          | (go_at_call 46; (with_reducible refine (C5_0.out _).mono ?_); rintro e W6 ⟨Xo1, co1, rfl, ho1, hb6⟩; have ha_6 := ha.below hb6; have hb_6 := hb.below hb6; have Ra_6 := Ra.below hb6; have qa0_6 := cbl hb6 qa0; have qa1_6 := cbl hb6 qa1; have Rb_6 := Rb.below hb6; have qb0_6 := cbl hb6 qb0; have qb1_6 := cbl hb6 qb1; have Rr_6 := Rr.below hb6; have qr0_6 := cbl hb6 qr0; have qr1_6 := cbl hb6 qr1; have hq_6 := hq.below hb6; have hm_6 := hm.below hb6; have Rq_6 := Rq.below hb6; have qq0_6 := cbl hb6 qq0; have qq1_6 := cbl hb6 qq1; have Rm_6 := Rm.below hb6; have qm0_6 := cbl hb6 qm0; have qm1_6 := cbl hb6 qm1; have hc0_6 := cbl hb6 hc0; have HBT_6 := Below.cons HBT hb6)
          | (go_at_call 57; (with_reducible refine (C5_1.out _ _ _ hq_6 ho1).mono ?_); rintro e W7 ⟨Xy, cy, rfl, hy, hb7⟩; have ha_7 := ha_6.below hb7; have hb_7 := hb_6.below hb7; have Ra_7 := Ra_6.below hb7; have qa0_7 := cbl hb7 qa0_6; have qa1_7 := cbl hb7 qa1_6; have Rb_7 := Rb_6.below hb7; have qb0_7 := cbl hb7 qb0_6; have qb1_7 := cbl hb7 qb1_6; have Rr_7 := Rr_6.below hb7; have qr0_7 := cbl hb7 qr0_6; have qr1_7 := cbl hb7 qr1_6; have hq_7 := hq_6.below hb7; have hm_7 := hm_6.below hb7; have Rq_7 := Rq_6.below hb7; have qq0_7 := cbl hb7 qq0_6; have qq1_7 := cbl hb7 qq1_6; have Rm_7 := Rm_6.below hb7; have qm0_7 := cbl hb7 qm0_6; have qm1_7 := cbl hb7 qm1_6; have hc0_7 := cbl hb7 hc0_6; have ho1_7 := ho1.below hb7; have HBT_7 := Below.cons HBT_6 hb7; have fz0 := Rr_7.f (i := 0); have fz1 := Rr_7.f (i := 1)))
      all_goals (try go_wp2_with (fail))
      have hzy : y = ovr a b dr := by rw [Ey.out, Eo1.out]; have := hov2.out; simpa using this.symm
      subst hzy
      have RS := Rr_7.store2 (.bool (sg ((ovr a b dr)))) (.slice Xy (nl (mg ((ovr a b dr)))) cy)
      have e0 := RS.c (i := 0) rfl
      have e1 := RS.c (i := 1) rfl
      refine bodyPost_ret (v := .agg #[.bool (sg ((ovr a b dr))), .slice Xy (nl (mg ((ovr a b dr)))) cy]) (by simp [results, Tryz.results42, go_sem, e0, e1]) rfl ?_
      exact ⟨Xy, cy, rfl, (Rr_7.keep2 (nuB rfl) hy), (Below.store2 HBT_7 (by first | exact Nat.le_refl _ | omega))⟩
theorem over_c (aA : Option Addr) (ac : Nat) (a : Int) (bA : Option Addr) (bc : Nat) (b : Int) (dr : Int) (w : World) (ha : NatV w aA ac (mg a)) (hb : NatV w bA bc (mg b)) (la : nl (mg a) ≤ 1000000) (lb : nl (mg b) ≤ 1000000) (hb0 : 0 < b) (h0 : 0 ≤ dr) (h4 : dr ≤ 4) :
    Calls Tryz.prog 42 #[.agg #[.bool (sg a), .slice aA (nl (mg a)) ac], .agg #[.bool (sg b), .slice bA (nl (mg b)) bc], .int .i64 dr] w (RetI w (ovr a b dr)) := by
  by_cases k : a % b = 0
  · exact over_z aA ac a bA bc b dr w ha hb h0 h4 la lb hb0 k
  · by_cases k2 : a / b = 0
    · exact over_q aA ac a bA bc b dr w ha hb h0 h4 la lb hb0 k k2
    · exact over_n aA ac a bA bc b dr w ha hb h0 h4 la lb hb0 k k2
def RetDe (w : World) (q : Rat) (x : Int) (e : Ending) (w' : World) : Prop := ∃ A c, e = .returned (.tuple #[.agg #[.bool (sg (dmn q)), .slice A (nl (mg (dmn q))) c, .int .i64 (dex q)], .int .i64 x]) ∧ NatV w' A c (mg (dmn q)) ∧ Below w.heap.size w w'
theorem ovr_nl (a : Int) {b : Int} (dr : Int) (hb : 0 < b) : nl (mg (ovr a b dr)) ≤ nl (mg a) + 1 := by
  have h1 : mg (a / b) ≤ mg a := Int.natAbs_ediv_le_natAbs a b
  have h2 : mg (ovr a b dr) ≤ mg a + 1 := by
    have e : ovr a b dr = a / b ∨ ovr a b dr = a / b + 1 := by unfold ovr; split; exact .inl rfl; split; exact .inr rfl; exact .inl rfl
    rcases e with e | e <;> rw [e]
    · omega
    · unfold mg at *; omega
  have h3 := nl_lt (mg a)
  rw [nl_le, Nat.pow_succ]
  have : 0 < 4294967296 ^ nl (mg a) := Nat.pow_pos (by decide)
  omega
theorem shf_pos {z d : Int} (hz : 0 < z) (h0 : 0 ≤ d) : 0 < shf z d := by
  unfold shf; rw [if_pos h0]; exact Int.mul_pos hz (Int.pow_pos (by decide))
theorem cut_quo (q : Rat) (n : Int) : ((shf q.num (max n 0) : Int) : Rat) / ((shf (q.den : Int) (max (-n) 0) : Int) : Rat) = q * (2 : Rat) ^ n := by
  have hd : ((q.den : Int) : Rat) ≠ 0 := by
    intro e; have := Rat.intCast_eq_zero_iff.1 e; have := q.den_nz; omega
  have hq : q * ((q.den : Int) : Rat) = ((q.num : Int) : Rat) := by
    have e : q = ((q.num : Int) : Rat) / ((q.den : Int) : Rat) := by
      conv => lhs; rw [← Rat.mkRat_self q, Rat.mkRat_eq_div]
      rfl
    conv => lhs; lhs; rw [e]
    exact Rat.div_mul_cancel hd
  have hp : ∀ k : Nat, ((2 ^ k : Int) : Rat) ≠ 0 := by
    intro k e
    have := Rat.intCast_eq_zero_iff.1 e
    have := Int.pow_pos (n := 2) (m := k) (by decide); omega
  rcases Int.lt_or_le n 0 with hn | hn
  · obtain ⟨k, rfl⟩ := Int.exists_eq_neg_ofNat (show n ≤ 0 by omega)
    have e1 : max (-(k : Int)) 0 = 0 := by omega
    have e2 : max (-(-(k : Int))) 0 = (k : Int) := by omega
    rw [e1, e2]
    have s1 : shf q.num 0 = q.num := by unfold shf; rw [if_pos (by decide)]; exact Int.mul_one _
    have s2 : shf (q.den : Int) (k : Int) = q.den * 2 ^ k := by unfold shf; rw [if_pos (Int.natCast_nonneg k), Int.toNat_natCast]
    rw [s1, s2, Rat.zpow_neg, zp_int, Rat.intCast_mul, ← hq]
    have := hp k
    generalize ((q.den : Int) : Rat) = x at *
    generalize ((2 ^ k : Int) : Rat) = p at *
    grind
  · obtain ⟨k, rfl⟩ := Int.eq_ofNat_of_zero_le hn
    have e1 : max (k : Int) 0 = k := by omega
    have e2 : max (-(k : Int)) 0 = 0 := by omega
    rw [e1, e2]
    have s1 : shf q.num (k : Int) = q.num * 2 ^ k := by unfold shf; rw [if_pos (Int.natCast_nonneg k), Int.toNat_natCast]
    have s2 : shf (q.den : Int) 0 = q.den := by unfold shf; rw [if_pos (by decide)]; exact Int.mul_one _
    rw [s1, s2, zp_int, Rat.intCast_mul, ← hq]
    generalize ((q.den : Int) : Rat) = x at *
    generalize ((2 ^ k : Int) : Rat) = p at *
    grind
theorem cut_ovr (q : Rat) (n dr : Int) (h0 : 0 ≤ dr) (h4 : dr ≤ 4) : ovr (shf q.num (max n 0)) (shf (q.den : Int) (max (-n) 0)) dr = rnd dr (q * (2 : Rat) ^ n) := by
  rw [ovr_rnd (shf_pos (by have := q.den_nz; omega) (by omega)) h0 h4, cut_quo]
theorem cut_in (qA : Option Addr) (qc : Nat) (qB : Option Addr) (qd : Nat) (q : Rat) (n : Int) (dr : Int) (w : World) (hq : NatV w qA qc (mg q.num)) (gq : NatV w qB qd q.den)   (hT : Tab w) (lq : nl (mg q.num) ≤ 100000) (ld : nl q.den ≤ 100000) (d0 : 0 ≤ dr) (d4 : dr ≤ 4) (ln : -1000000 ≤ n ∧ n ≤ 1000000) :
    Calls Tryz.prog 10 #[.agg #[.bool (sg q.num), .slice qA (nl (mg q.num)) qc, .slice qB (nl q.den) qd], .int .i64 n, .int .i64 dr] w (RetDe w (dval (rnd dr (q * (2 : Rat) ^ n)) (-n)) 0) := by
  have t1 : decide (dr < 0) = false := decide_eq_false (by omega)
  have t2 : decide (5 ≤ dr) = false := decide_eq_false (by omega)
  have hov := cut_ovr q n dr d0 d4
  obtain ⟨n1, En1⟩ : ∃ z, z = max n 0 := ⟨_, rfl⟩
  obtain ⟨n2, En2⟩ : ∃ z, z = max (-n) 0 := ⟨_, rfl⟩
  have b1 : 0 ≤ n1 ∧ n1 ≤ 1000000 := by omega
  have b2 : 0 ≤ n2 ∧ n2 ≤ 1000000 := by omega
  have Wn : IntKind.i64.wrap (-n) = -n := IntWalk.i64_in _ (by omega)
  rw [← En1, ← En2] at hov
  obtain ⟨u, Eu⟩ : ∃ z, z = shf q.num n1 := ⟨_, rfl⟩
  have lu : nl (mg u) ≤ 162502 := by rw [Eu]; exact nl_shf (K := 0) lq b1.1 (by omega)
  obtain ⟨dz, Edz⟩ : ∃ z, z = ival false q.den := ⟨_, rfl⟩
  have dz0 : 0 < dz := by rw [Edz, ival_false]; have := q.den_nz; omega
  have ldz : nl (mg dz) ≤ 100000 := by rw [Edz, mg_ival]; exact ld
  obtain ⟨v, Ev⟩ : ∃ z, z = shf dz n2 := ⟨_, rfl⟩
  have lv : nl (mg v) ≤ 162502 := by rw [Ev]; exact nl_shf (K := 0) ldz b2.1 (by omega)
  have v0 : 0 < v := by rw [Ev]; exact shf_pos dz0 b2.1
  have lo := ovr_nl u dr v0
  rw [← Eu, ← ival_false, ← Edz, ← Ev] at hov
  have C1 := fun (W : World) (h1 : NatV W qA qc (mg q.num)) => ishift_c qA qc q.num n1 W h1 (by omega) (by omega)
  rw [← Eu] at C1
  have C2 := fun (W : World) (h1 : NatV W qB qd q.den) => imake_c false qB qd q.den W h1 (by omega)
  rw [← Edz] at C2
  have C3 := fun (W : World) (A : Option Addr) (c : Nat) (h1 : NatV W A c (mg dz)) => ishift_c A c dz n2 W h1 (by omega) (by omega)
  rw [← Ev] at C3
  replace En1 := En1.symm
  replace En2 := En2.symm
  replace hov := Lib.hid hov
  replace Eu := Lib.hid Eu
  replace Edz := Lib.hid Edz
  replace Ev := Lib.hid Ev
  replace C1 := Lib.hid C1
  replace C2 := Lib.hid C2
  replace C3 := Lib.hid C3
  replace b1 := Lib.hid b1
  replace b2 := Lib.hid b2
  replace v0 := Lib.hid v0
  obtain ⟨hb1, Rq, Rr⟩ := bx2 w #[.bool (sg q.num), .slice qA (nl (mg q.num)) qc, .slice qB (nl q.den) qd] 26 #[.bool false, .slice none 0 0, .int .i64 0] 33
  replace hq := hq.below hb1
  replace gq := gq.below hb1
  replace hT := hT.below hb1
  have HBT := hb1
  clear hb1
  have qq0 := Rq.c (i := 0) rfl
  have qq1 := Rq.c (i := 1) rfl
  have qq2 := Rq.c (i := 2) rfl
  have qr0 := Rr.c (i := 0) rfl
  have qr1 := Rr.c (i := 1) rfl
  have qr2 := Rr.c (i := 2) rfl
  go_enter Tryz.func10, Tryz.ntmps10
  go_wp2_with (fail)
  refine (Calls.mono (ways_c _) ?_)
  rintro e W2 ⟨rfl, hb2⟩
  replace hq := hq.below hb2
  replace gq := gq.below hb2
  replace hT := hT.below hb2
  replace Rq := Rq.below hb2
  replace qq0 := cbl hb2 qq0
  replace qq1 := cbl hb2 qq1
  replace qq2 := cbl hb2 qq2
  replace Rr := Rr.below hb2
  replace qr0 := cbl hb2 qr0
  replace qr1 := cbl hb2 qr1
  replace qr2 := cbl hb2 qr2
  replace HBT := Below.cons HBT hb2
  clear hb2
  go_wp2_with (fail)
  refine wp_region_inv (fun E a' w' => ∃ (u19 u20 u21 u22 u23 u24 u25 u26 u27 u28 u29 u30 u8 u9 : Value),
    a' = { tmps := #[.agg #[.bool (sg q.num), .slice qA (nl (mg q.num)) qc, .slice qB (nl q.den) qd], .int .i64 n, .int .i64 dr, .pointer (some ⟨w.heap.size, 0, none⟩), undef, undef, .pointer (some ⟨(w.heap.size + 1), 0, none⟩), .int .i64 0, u8, u9, .int .i64 dr, .bool false, .bool false, .int .i64 dr, (.agg #[.func (.func 80) #[] #[], .func (.func 81) #[] #[], .func (.func 82) #[] #[], .func (.func 83) #[] #[], .func (.func 84) #[] #[]]), .int .i64 5, .bool false, .bool false, undef, u19, u20, u21, u22, u23, u24, u25, u26, u27, u28, u29, u30, undef, undef, undef, undef, undef, undef, undef], defers := [] } ∧
    (E 0 = true → u19 = .pointer (some ⟨w.heap.size, 0, none⟩)) ∧
    (E 1 = true → u20 = .agg #[.bool (sg q.num), .slice qA (nl (mg q.num)) qc]) ∧
    (E 2 = true → u21 = .int .i64 n) ∧
    (E 3 = true → u22 = .int .i64 n1) ∧
    (E 4 = true → PI u23 u w') ∧
    (E 5 = true → u24 = .pointer (some ⟨w.heap.size, 2, none⟩)) ∧
    (E 6 = true → u25 = .slice qB (nl q.den) qd) ∧
    (E 7 = true → PI u26 dz w') ∧
    (E 8 = true → u27 = .int .i64 n) ∧
    (E 9 = true → u28 = .int .i64 (-n)) ∧
    (E 10 = true → u29 = .int .i64 n2) ∧
    (E 11 = true → PI u30 v w') ∧
    (E 12 = true → PB2 24 W2.heap.size u8 w') ∧
    (E 13 = true → PB2 24 W2.heap.size u9 w') ∧
    (E 14 = true → PBI W2.heap.size u8 u w') ∧
    (E 15 = true → PBI W2.heap.size u9 v w') ∧
    (E 14 = true → E 12 = true) ∧
    (E 15 = true → E 13 = true) ∧
    (E 12 = true → E 13 = true → u8 ≠ u9) ∧
    Below W2.heap.size W2 w') (by kernel_rfl) (by kernel_rfl) ?init ?fin ?step
  case init => exact ⟨_, _, _, _, _, _, _, _, _, _, _, _, _, _, rfl, by simp, by simp, by simp, by simp, by simp, by simp, by simp, by simp, by simp, by simp, by simp, by simp, by simp, by simp, by simp, by simp, by simp, by simp, by simp, (Below.refl _ _).drew⟩
  case step =>
    rintro E a' w' i ⟨u19, u20, u21, u22, u23, u24, u25, u26, u27, u28, u29, u30, u8, u9, rfl, h0, h1, h2, h3, h4, h5, h6, h7, h8, h9, h10, h11, h12, h13, h14, h15, hD14, hD15, hN12_13, hB⟩ hi hEi hdep
    have qq0 := cbl hB qq0
    have qq1 := cbl hB qq1
    have qq2 := cbl hB qq2
    obtain rfl | rfl | rfl | rfl | rfl | rfl | rfl | rfl | rfl | rfl | rfl | rfl | rfl | rfl | rfl | rfl : i = 0 ∨ i = 1 ∨ i = 2 ∨ i = 3 ∨ i = 4 ∨ i = 5 ∨ i = 6 ∨ i = 7 ∨ i = 8 ∨ i = 9 ∨ i = 10 ∨ i = 11 ∨ i = 12 ∨ i = 13 ∨ i = 14 ∨ i = 15 := by simp at hi; omega
    · skip
      refine wpOp_step rfl (fun K' hK' => ?_)
      go_simp
      refine hK' _ _ ?_
      exact ⟨_, _, _, _, _, _, _, _, _, _, _, _, _, _, rfl, fun _ => rfl, kd h1, kd h2, kd h3, kd h4, kd h5, kd h6, kd h7, kd h8, kd h9, kd h10, kd h11, kd h12, kd h13, kd h14, kd h15, (fun h => by have := hD14 (by simpa using h); simpa using this), (fun h => by have := hD15 (by simpa using h); simpa using this), (fun h k => hN12_13 (by simpa using h) (by simpa using k)), hB⟩
    · skip
      have d0 := hdep _ rfl ⟨0, .data⟩ (by simp) rfl
      obtain rfl := h0 d0
      refine wpOp_step rfl (fun K' hK' => ?_)
      go_simp
      refine hK' _ _ ?_
      exact ⟨_, _, _, _, _, _, _, _, _, _, _, _, _, _, rfl, kd h0, fun _ => rfl, kd h2, kd h3, kd h4, kd h5, kd h6, kd h7, kd h8, kd h9, kd h10, kd h11, kd h12, kd h13, kd h14, kd h15, (fun h => by have := hD14 (by simpa using h); simpa using this), (fun h => by have := hD15 (by simpa using h); simpa using this), (fun h k => hN12_13 (by simpa using h) (by simpa using k)), hB⟩
    · skip
      refine wpOp_step rfl (fun K' hK' => ?_)
      go_simp
      refine hK' _ _ ?_
      exact ⟨_, _, _, _, _, _, _, _, _, _, _, _, _, _, rfl, kd h0, kd h1, fun _ => rfl, kd h3, kd h4, kd h5, kd h6, kd h7, kd h8, kd h9, kd h10, kd h11, kd h12, kd h13, kd h14, kd h15, (fun h => by have := hD14 (by simpa using h); simpa using this), (fun h => by have := hD15 (by simpa using h); simpa using this), (fun h k => hN12_13 (by simpa using h) (by simpa using k)), hB⟩
    · skip
      have d2 := hdep _ rfl ⟨2, .data⟩ (by simp) rfl
      obtain rfl := h2 d2
      refine wpOp_step rfl (fun K' hK' => ?_)
      go_simp
      refine hK' _ _ ?_
      exact ⟨_, _, _, _, _, _, _, _, _, _, _, _, _, _, rfl, kd h0, kd h1, kd h2, fun _ => rfl, kd h4, kd h5, kd h6, kd h7, kd h8, kd h9, kd h10, kd h11, kd h12, kd h13, kd h14, kd h15, (fun h => by have := hD14 (by simpa using h); simpa using this), (fun h => by have := hD15 (by simpa using h); simpa using this), (fun h k => hN12_13 (by simpa using h) (by simpa using k)), hB⟩
    · skip
      have d1 := hdep _ rfl ⟨1, .data⟩ (by simp) rfl
      obtain rfl := h1 d1
      have d3 := hdep _ rfl ⟨3, .data⟩ (by simp) rfl
      obtain rfl := h3 d3
      refine wpOp_step rfl (fun K' hK' => ?_)
      go_simp
      refine (Calls.mono (C1.out w' (hq.below hB)) ?_)
      rintro e W1 ⟨Xr, cr, rfl, kr, kb⟩
      refine hK' _ _ ?_
      exact ⟨_, _, _, _, _, _, _, _, _, _, _, _, _, _, rfl, kd h0, kd h1, kd h2, kd h3, fun _ => ⟨Xr, cr, rfl, kr⟩, kd h5, kd h6, kp h7 (fun h => h.below kb), kd h8, kd h9, kd h10, kp h11 (fun h => h.below kb), kp h12 (fun h => h.below kb), kp h13 (fun h => h.below kb), kp h14 (fun h => h.below kb), kp h15 (fun h => h.below kb), (fun h => by have := hD14 (by simpa using h); simpa using this), (fun h => by have := hD15 (by simpa using h); simpa using this), (fun h k => hN12_13 (by simpa using h) (by simpa using k)), Below.cons hB kb⟩
    · skip
      refine wpOp_step rfl (fun K' hK' => ?_)
      go_simp
      refine hK' _ _ ?_
      exact ⟨_, _, _, _, _, _, _, _, _, _, _, _, _, _, rfl, kd h0, kd h1, kd h2, kd h3, kd h4, fun _ => rfl, kd h6, kd h7, kd h8, kd h9, kd h10, kd h11, kd h12, kd h13, kd h14, kd h15, (fun h => by have := hD14 (by simpa using h); simpa using this), (fun h => by have := hD15 (by simpa using h); simpa using this), (fun h k => hN12_13 (by simpa using h) (by simpa using k)), hB⟩
    · skip
      have d5 := hdep _ rfl ⟨5, .data⟩ (by simp) rfl
      obtain rfl := h5 d5
      refine wpOp_step rfl (fun K' hK' => ?_)
      go_simp
      refine hK' _ _ ?_
      exact ⟨_, _, _, _, _, _, _, _, _, _, _, _, _, _, rfl, kd h0, kd h1, kd h2, kd h3, kd h4, kd h5, fun _ => rfl, kd h7, kd h8, kd h9, kd h10, kd h11, kd h12, kd h13, kd h14, kd h15, (fun h => by have := hD14 (by simpa using h); simpa using this), (fun h => by have := hD15 (by simpa using h); simpa using this), (fun h k => hN12_13 (by simpa using h) (by simpa using k)), hB⟩
    · skip
      have d6 := hdep _ rfl ⟨6, .data⟩ (by simp) rfl
      obtain rfl := h6 d6
      refine wpOp_step rfl (fun K' hK' => ?_)
      go_simp
      refine (Calls.mono (C2.out w' (gq.below hB)) ?_)
      rintro e W1 ⟨Xr, cr, rfl, kr, kb⟩
      refine hK' _ _ ?_
      exact ⟨_, _, _, _, _, _, _, _, _, _, _, _, _, _, rfl, kd h0, kd h1, kd h2, kd h3, kp h4 (fun h => h.below kb), kd h5, kd h6, fun _ => ⟨Xr, cr, rfl, kr⟩, kd h8, kd h9, kd h10, kp h11 (fun h => h.below kb), kp h12 (fun h => h.below kb), kp h13 (fun h => h.below kb), kp h14 (fun h => h.below kb), kp h15 (fun h => h.below kb), (fun h => by have := hD14 (by simpa using h); simpa using this), (fun h => by have := hD15 (by simpa using h); simpa using this), (fun h k => hN12_13 (by simpa using h) (by simpa using k)), Below.cons hB kb⟩
    · skip
      refine wpOp_step rfl (fun K' hK' => ?_)
      go_simp
      refine hK' _ _ ?_
      exact ⟨_, _, _, _, _, _, _, _, _, _, _, _, _, _, rfl, kd h0, kd h1, kd h2, kd h3, kd h4, kd h5, kd h6, kd h7, fun _ => rfl, kd h9, kd h10, kd h11, kd h12, kd h13, kd h14, kd h15, (fun h => by have := hD14 (by simpa using h); simpa using this), (fun h => by have := hD15 (by simpa using h); simpa using this), (fun h k => hN12_13 (by simpa using h) (by simpa using k)), hB⟩
    · skip
      have d8 := hdep _ rfl ⟨8, .data⟩ (by simp) rfl
      obtain rfl := h8 d8
      refine wpOp_step rfl (fun K' hK' => ?_)
      go_simp
      refine hK' _ _ ?_
      exact ⟨_, _, _, _, _, _, _, _, _, _, _, _, _, _, rfl, kd h0, kd h1, kd h2, kd h3, kd h4, kd h5, kd h6, kd h7, kd h8, fun _ => rfl, kd h10, kd h11, kd h12, kd h13, kd h14, kd h15, (fun h => by have := hD14 (by simpa using h); simpa using this), (fun h => by have := hD15 (by simpa using h); simpa using this), (fun h k => hN12_13 (by simpa using h) (by simpa using k)), hB⟩
    · skip
      have d9 := hdep _ rfl ⟨9, .data⟩ (by simp) rfl
      obtain rfl := h9 d9
      refine wpOp_step rfl (fun K' hK' => ?_)
      go_simp
      refine hK' _ _ ?_
      exact ⟨_, _, _, _, _, _, _, _, _, _, _, _, _, _, rfl, kd h0, kd h1, kd h2, kd h3, kd h4, kd h5, kd h6, kd h7, kd h8, kd h9, fun _ => rfl, kd h11, kd h12, kd h13, kd h14, kd h15, (fun h => by have := hD14 (by simpa using h); simpa using this), (fun h => by have := hD15 (by simpa using h); simpa using this), (fun h k => hN12_13 (by simpa using h) (by simpa using k)), hB⟩
    · skip
      have d7 := hdep _ rfl ⟨7, .data⟩ (by simp) rfl
      obtain ⟨X_7, c_7, rfl, k_7⟩ := h7 d7
      have d10 := hdep _ rfl ⟨10, .data⟩ (by simp) rfl
      obtain rfl := h10 d10
      refine wpOp_step rfl (fun K' hK' => ?_)
      go_simp
      refine (Calls.mono (C3.out w' X_7 c_7 k_7) ?_)
      rintro e W1 ⟨Xr, cr, rfl, kr, kb⟩
      refine hK' _ _ ?_
      exact ⟨_, _, _, _, _, _, _, _, _, _, _, _, _, _, rfl, kd h0, kd h1, kd h2, kd h3, kp h4 (fun h => h.below kb), kd h5, kd h6, kp h7 (fun h => h.below kb), kd h8, kd h9, kd h10, fun _ => ⟨Xr, cr, rfl, kr⟩, kp h12 (fun h => h.below kb), kp h13 (fun h => h.below kb), kp h14 (fun h => h.below kb), kp h15 (fun h => h.below kb), (fun h => by have := hD14 (by simpa using h); simpa using this), (fun h => by have := hD15 (by simpa using h); simpa using this), (fun h k => hN12_13 (by simpa using h) (by simpa using k)), Below.cons hB kb⟩
    · skip
      have kb : Below w'.heap.size w' (w'.alloc (.cells #[.bool false, .slice none 0 0] 24)) := (Below.refl _ _).alloc (Nat.le_refl _) _
      refine wpOp_step rfl (fun K' hK' => ?_)
      go_simp
      refine hK' _ _ ?_
      exact ⟨_, _, _, _, _, _, _, _, _, _, _, _, _, _, rfl, kd h0, kd h1, kd h2, kd h3, kp h4 (fun h => h.below kb), kd h5, kd h6, kp h7 (fun h => h.below kb), kd h8, kd h9, kd h10, kp h11 (fun h => h.below kb), fun _ => ⟨_, _, _, rfl, hB.size, ⟨at_new rfl⟩, notU_bool _, notU_slice _ _ _⟩, kp h13 (fun h => h.below kb), (fun h => by have h2 := hD14 (by simpa using h); rw [hEi] at h2; cases h2), kp h15 (fun h => h.below kb), (fun _ => by simp), (fun h => by have := hD15 (by simpa using h); simpa using this), (fun _ h => by obtain ⟨n2, e2, l2⟩ := (h13 (by simpa using h)).lt; rw [e2]; intro e3; simp at e3 <;> omega), Below.cons hB kb⟩
    · skip
      have kb : Below w'.heap.size w' (w'.alloc (.cells #[.bool false, .slice none 0 0] 24)) := (Below.refl _ _).alloc (Nat.le_refl _) _
      refine wpOp_step rfl (fun K' hK' => ?_)
      go_simp
      refine hK' _ _ ?_
      exact ⟨_, _, _, _, _, _, _, _, _, _, _, _, _, _, rfl, kd h0, kd h1, kd h2, kd h3, kp h4 (fun h => h.below kb), kd h5, kd h6, kp h7 (fun h => h.below kb), kd h8, kd h9, kd h10, kp h11 (fun h => h.below kb), kp h12 (fun h => h.below kb), fun _ => ⟨_, _, _, rfl, hB.size, ⟨at_new rfl⟩, notU_bool _, notU_slice _ _ _⟩, kp h14 (fun h => h.below kb), (fun h => by have h2 := hD15 (by simpa using h); rw [hEi] at h2; cases h2), (fun h => by have := hD14 (by simpa using h); simpa using this), (fun _ => by simp), (fun h _ => by obtain ⟨n2, e2, l2⟩ := (h12 (by simpa using h)).lt; rw [e2]; intro e3; simp at e3 <;> omega), Below.cons hB kb⟩
    · skip
      have d12 := hdep _ rfl ⟨12, .data⟩ (by simp) rfl
      obtain ⟨nb, z0, z1, rfl, hn, hb, nz0, nz1⟩ := h12 d12
      have d4 := hdep _ rfl ⟨4, .data⟩ (by simp) rfl
      obtain ⟨X_4, c_4, rfl, k_4⟩ := h4 d4
      have fz0 := hb.f (i := 0)
      have cz0 := hb.c (i := 0) rfl
      have fz1 := hb.f (i := 1)
      have cz1 := hb.c (i := 1) rfl
      have hp := hb.put2 (notU2 nz0 nz1) (.bool (sg u)) (.slice X_4 (nl (mg u)) c_4)
      have hs := hb.store2 (.bool (sg u)) (.slice X_4 (nl (mg u)) c_4)
      refine wpOp_step rfl (fun K' hK' => ?_)
      go_simp
      refine hK' _ _ ?_
      exact ⟨_, _, _, _, _, _, _, _, _, _, _, _, _, _, rfl, kd h0, kd h1, kd h2, kd h3, kp h4 (fun h => h.put hp), kd h5, kd h6, kp h7 (fun h => h.put hp), kd h8, kd h9, kd h10, kp h11 (fun h => h.put hp), (fun _ => ⟨nb, _, _, rfl, hn, hs, notU_bool _, notU_slice _ _ _⟩), keepP' (by decide) h13 (fun e h => h.put hp (fun e3 => hN12_13 d12 (by simpa using e) e3.symm)), fun _ => ⟨nb, X_4, c_4, rfl, hn, hs, hp.nat k_4⟩, keepP' (by decide) h15 (fun e h => h.put hp (fun e3 => hN12_13 d12 (hD15 (by simpa using e)) e3.symm)), (fun _ => by simp [d12]), (fun h => by have := hD15 (by simpa using h); simpa using this), (fun h k => hN12_13 (by simpa using h) (by simpa using k)), Below.store2 hB hn⟩
    · skip
      have d13 := hdep _ rfl ⟨13, .data⟩ (by simp) rfl
      obtain ⟨nb, z0, z1, rfl, hn, hb, nz0, nz1⟩ := h13 d13
      have d11 := hdep _ rfl ⟨11, .data⟩ (by simp) rfl
      obtain ⟨X_11, c_11, rfl, k_11⟩ := h11 d11
      have fz0 := hb.f (i := 0)
      have cz0 := hb.c (i := 0) rfl
      have fz1 := hb.f (i := 1)
      have cz1 := hb.c (i := 1) rfl
      have hp := hb.put2 (notU2 nz0 nz1) (.bool (sg v)) (.slice X_11 (nl (mg v)) c_11)
      have hs := hb.store2 (.bool (sg v)) (.slice X_11 (nl (mg v)) c_11)
      refine wpOp_step rfl (fun K' hK' => ?_)
      go_simp
      refine hK' _ _ ?_
      exact ⟨_, _, _, _, _, _, _, _, _, _, _, _, _, _, rfl, kd h0, kd h1, kd h2, kd h3, kp h4 (fun h => h.put hp), kd h5, kd h6, kp h7 (fun h => h.put hp), kd h8, kd h9, kd h10, kp h11 (fun h => h.put hp), keepP' (by decide) h12 (fun e h => h.put hp (hN12_13 (by simpa using e) d13)), (fun _ => ⟨nb, _, _, rfl, hn, hs, notU_bool _, notU_slice _ _ _⟩), keepP' (by decide) h14 (fun e h => h.put hp (hN12_13 (hD14 (by simpa using e)) d13)), fun _ => ⟨nb, X_11, c_11, rfl, hn, hs, hp.nat k_11⟩, (fun h => by have := hD14 (by simpa using h); simpa using this), (fun _ => by simp [d13]), (fun h k => hN12_13 (by simpa using h) (by simpa using k)), Below.store2 hB hn⟩
  case fin =>
    rintro E a' w' ⟨u19, u20, u21, u22, u23, u24, u25, u26, u27, u28, u29, u30, u8, u9, rfl, h0, h1, h2, h3, h4, h5, h6, h7, h8, h9, h10, h11, h12, h13, h14, h15, hD14, hD15, hN12_13, hB⟩ hall
    obtain ⟨nbu, Xu, cu, rfl, hnu, Ru, hu⟩ := h14 (hall 14 (by simp))
    obtain ⟨nbv, Xv, cv, rfl, hnv, Rv, hv⟩ := h15 (hall 15 (by simp))
    replace hq := hq.below hB
    replace gq := gq.below hB
    replace hT := hT.below hB
    replace Rq := Rq.below hB
    replace qq0 := cbl hB qq0
    replace qq1 := cbl hB qq1
    replace qq2 := cbl hB qq2
    replace Rr := Rr.below hB
    replace qr0 := cbl hB qr0
    replace qr1 := cbl hB qr1
    replace qr2 := cbl hB qr2
    replace HBT := Below.cons HBT hB
    have kvu := hnu
    have qu0 := Ru.c (i := 0) rfl
    have qu1 := Ru.c (i := 1) rfl
    have kvv := hnv
    have qv0 := Rv.c (i := 0) rfl
    have qv1 := Rv.c (i := 1) rfl
    clear hall
    go_wp2_with (fail)
    have lo2 := lo
    obtain ⟨y, Ey⟩ : ∃ zq : Int, zq = ovr u v dr := ⟨_, rfl⟩
    rw [← Ey] at lo
    refine (Calls.mono (R := RetI w' y) (by rw [Ey]; with_reducible exact over_c Xu cu u Xv cv v dr _ hu hv (by omega) (by omega) v0.out d0 d4) ?_)
    replace Ey := Lib.hid Ey
    rintro e W3 ⟨Xy, cy, rfl, hy, hb3⟩
    replace hq := hq.below hb3
    replace gq := gq.below hb3
    replace hT := hT.below hb3
    replace Rq := Rq.below hb3
    replace qq0 := cbl hb3 qq0
    replace qq1 := cbl hb3 qq1
    replace qq2 := cbl hb3 qq2
    replace Rr := Rr.below hb3
    replace qr0 := cbl hb3 qr0
    replace qr1 := cbl hb3 qr1
    replace qr2 := cbl hb3 qr2
    replace hu := hu.below hb3
    replace Ru := Ru.below hb3
    replace qu0 := cbl hb3 qu0
    replace qu1 := cbl hb3 qu1
    replace hv := hv.below hb3
    replace Rv := Rv.below hb3
    replace qv0 := cbl hb3 qv0
    replace qv1 := cbl hb3 qv1
    replace HBT := Below.cons HBT hb3
    clear hb3
    go_wp2_with (fail)
    obtain ⟨x, Ex⟩ : ∃ zq : Rat, zq = dval y (-n) := ⟨_, rfl⟩
    refine (Calls.mono (R := RetD W3 x) (by rw [Ex]; with_reducible exact dmake_c Xy cy y (-n) _ hy hT (by omega) (by omega)) ?_)
    replace Ex := Lib.hid Ex
    rintro e W4 ⟨Xx, cx, rfl, hx, hb4⟩
    replace hq := hq.below hb4
    replace gq := gq.below hb4
    replace hT := hT.below hb4
    replace Rq := Rq.below hb4
    replace qq0 := cbl hb4 qq0
    replace qq1 := cbl hb4 qq1
    replace qq2 := cbl hb4 qq2
    replace Rr := Rr.below hb4
    replace qr0 := cbl hb4 qr0
    replace qr1 := cbl hb4 qr1
    replace qr2 := cbl hb4 qr2
    replace hu := hu.below hb4
    replace Ru := Ru.below hb4
    replace qu0 := cbl hb4 qu0
    replace qu1 := cbl hb4 qu1
    replace hv := hv.below hb4
    replace Rv := Rv.below hb4
    replace qv0 := cbl hb4 qv0
    replace qv1 := cbl hb4 qv1
    replace hy := hy.below hb4
    replace HBT := Below.cons HBT hb4
    clear hb4
    have fzr0 := Rr.f (i := 0)
    have fzr1 := Rr.f (i := 1)
    have fzr2 := Rr.f (i := 2)
    go_wp2_with (fail)
    have eqx : x = dval (rnd dr (q * (2 : Rat) ^ n)) (-n) := by rw [Ex.out, Ey.out, hov.out]
    have RS := Rr.store3 (.bool (sg (dmn x))) (.slice Xx (nl (mg (dmn x))) cx) (.int .i64 (dex x))
    have e0 := RS.c (i := 0) rfl
    have e1 := RS.c (i := 1) rfl
    have e2 := RS.c (i := 2) rfl
    refine bodyPost_ret (v := .tuple #[.agg #[.bool (sg (dmn x)), .slice Xx (nl (mg (dmn x))) cx, .int .i64 (dex x)], .int .i64 0]) (by simp [results, Tryz.results10, go_sem, e0, e1, e2]) rfl ?_
    rw [← eqx]
    exact ⟨Xx, cx, rfl, Rr.keep3 (nuB rfl) hx, Below.store3 HBT (by omega)⟩
end Go.Proofs.YtopigejgadnkaaaGreatDoor

namespace Go.Proofs.YtopigejgadnkaaaGreatDoor

end Go.Proofs.YtopigejgadnkaaaGreatDoor

namespace Go.Proofs.YtopigejgadnkaaaGreatDoor
open Go.RowKit Go.Shelf
attribute [local go_sem] max2_i min2_i max_two min_two

end Go.Proofs.YtopigejgadnkaaaGreatDoor

namespace Go.Proofs.YtopigejgadnkaaaGreatDoor

end Go.Proofs.YtopigejgadnkaaaGreatDoor

namespace Go.Proofs.YtopigejgadnkaaaGreatDoor
open Go.RowKit Go.Shelf
attribute [local go_sem] max2_i min2_i max_two min_two

theorem PBR.put {W W' : World} {u : Value} {q : Rat} {n0 k : Nat} (h : PBR n0 u q W) (hp : Put W W' k) (hne : u ≠ .pointer (some ⟨k, 0, none⟩)) : PBR n0 u q W' := by
  obtain ⟨nb, X, c, Y, d, h1, h2, h3, h4, h5⟩ := h
  exact ⟨nb, X, c, Y, d, h1, h2, ⟨(hp.far nb (fun e => hne (by rw [h1, e]))).trans h3.at_⟩, hp.nat h4, hp.nat h5⟩
theorem num_neg {a : Rat} : a < 0 ↔ a.num < 0 := by rw [← Rat.not_le, ← Rat.num_nonneg]; omega
end Go.Proofs.YtopigejgadnkaaaGreatDoor

namespace Go.Proofs.YtopigejgadnkaaaGreatDoor
open Go.RowKit Go.Shelf

structure DB (q : Rat) (l E : Nat) : Prop where
  d : Dyd q
  l : nl (mg (dmn q)) ≤ l
  e : -(E : Int) ≤ dex q ∧ dex q ≤ E
theorem DB.ok {q : Rat} {l E : Nat} (h : DB q l E) (hl : l ≤ 100000) (hE : E ≤ 1000000) : DOk q := ⟨h.d, by have := h.l; omega, by have := h.e; omega⟩
theorem DB.mono {q : Rat} {l E l2 E2 : Nat} (h : DB q l E) (hl : l ≤ l2) (hE : E ≤ E2) : DB q l2 E2 := ⟨h.d, by have := h.l; omega, by have := h.e; omega⟩
def PD (u : Value) (q : Rat) (W : World) : Prop := ∃ X c, u = .agg #[.bool (sg (dmn q)), .slice X (nl (mg (dmn q))) c, .int .i64 (dex q)] ∧ NatV W X c (mg (dmn q))
def PBD (n0 : Nat) (u : Value) (q : Rat) (W : World) : Prop := ∃ nb X c, u = .pointer (some ⟨nb, 0, none⟩) ∧ n0 ≤ nb ∧ BoxA W nb 33 #[.bool (sg (dmn q)), .slice X (nl (mg (dmn q))) c, .int .i64 (dex q)] ∧ NatV W X c (mg (dmn q))
theorem PD.below {W W' : World} {u : Value} {q : Rat} (h : PD u q W) (hb : Below W.heap.size W W') : PD u q W' := by
  obtain ⟨X, c, h1, h2⟩ := h; exact ⟨X, c, h1, h2.below hb⟩
theorem PD.put {W W' : World} {u : Value} {q : Rat} {k : Nat} (h : PD u q W) (hp : Put W W' k) : PD u q W' := by
  obtain ⟨X, c, h1, h2⟩ := h; exact ⟨X, c, h1, hp.nat h2⟩
theorem PBD.below {W W' : World} {u : Value} {q : Rat} {n0 : Nat} (h : PBD n0 u q W) (hb : Below W.heap.size W W') : PBD n0 u q W' := by
  obtain ⟨nb, X, c, h1, h2, h3, h4⟩ := h; exact ⟨nb, X, c, h1, h2, h3.below hb, h4.below hb⟩
theorem PBD.put {W W' : World} {u : Value} {q : Rat} {n0 k : Nat} (h : PBD n0 u q W) (hp : Put W W' k) (hne : u ≠ .pointer (some ⟨k, 0, none⟩)) : PBD n0 u q W' := by
  obtain ⟨nb, X, c, h1, h2, h3, h4⟩ := h
  exact ⟨nb, X, c, h1, h2, ⟨(hp.far nb (fun e => hne (by rw [h1, e]))).trans h3.at_⟩, hp.nat h4⟩
theorem r9sameT_c (aA : Option Addr) (ac : Nat) (aB : Option Addr) (ad : Nat) (a : Rat) (bA : Option Addr) (bc : Nat) (bB : Option Addr) (bd : Nat) (b : Rat) (w : World) (ha : NatV w aA ac (mg a.num)) (ga : NatV w aB ad a.den) (hb : NatV w bA bc (mg b.num)) (gb : NatV w bB bd b.den) (la : nl (mg a.num) ≤ 1073741824) (ma : nl a.den ≤ 1073741824) (h : a = b) :
    Calls Tryz.prog 14 #[.agg #[.bool (sg a.num), .slice aA (nl (mg a.num)) ac, .slice aB (nl a.den) ad], .agg #[.bool (sg b.num), .slice bA (nl (mg b.num)) bc, .slice bB (nl b.den) bd]] w (fun e w' => e = .returned (.bool true) ∧ Below w.heap.size w w') := by
  subst h
  refine (r9same_c aA ac aB ad a bA bc bB bd a w ha ga hb gb la ma la ma).mono ?_
  rintro e w1 ⟨rfl, h1⟩
  exact ⟨by rw [decide_eq_true rfl], h1⟩
theorem zsameT_c (aA : Option Addr) (ac : Nat) (a : Int) (bA : Option Addr) (bc : Nat) (b : Int) (w : World) (ha : NatV w aA ac (mg a)) (hb : NatV w bA bc (mg b)) (la : nl (mg a) ≤ 1073741824) (h : a = b) :
    Calls Tryz.prog 29 #[.agg #[.bool (sg a), .slice aA (nl (mg a)) ac], .agg #[.bool (sg b), .slice bA (nl (mg b)) bc]] w (fun e w' => e = .returned (.bool true) ∧ Below w.heap.size w w') := by
  subst h
  refine (zsame_c aA ac a bA bc a w ha hb la la).mono ?_
  rintro e w1 ⟨rfl, h1⟩
  exact ⟨by rw [decide_eq_true rfl], h1⟩
theorem zmadeI_c (sa : Bool) (A : Option Addr) (c : Nat) (l : List Nat) (m : Nat) (i : Int) (w : World) (hl : Rd w A l) (Ll : Lim l) (Ql : l.length ≤ maxLen) (Cl : l.length ≤ c) (Zl : A = none → c = 0) (hm : m ≤ 65536) (hi : (m : Int) = i) :
    Calls Tryz.prog 19 #[.agg #[.bool sa, .slice A l.length c], .int .i64 i] w (RetI w (ival sa (val (l.take m)))) := by
  subst hi; exact zmade_c sa A c m l w hl Ll Ql Cl Zl (by omega)
end Go.Proofs.YtopigejgadnkaaaGreatDoor

namespace Go.Proofs.YtopigejgadnkaaaGreatDoor
open Go.RowKit Go.ChangeShapes Go.WideShapes Go.ChangeAt

theorem row_own : ownKnob Tryz.prog.godebug = none := by kernel_rfl
theorem row_out : laidOutB Tryz.prog = true := by kernel_rfl
theorem row_globD : Tryz.prog.globalNamed "math/bits.deBruijn32tab" = some 0 := by kernel_rfl
theorem row_globDT : (Tryz.prog.globals[0]?).map (·.type) = some 149 := by kernel_rfl
theorem row_cellsB : Tryz.prog.cellsOf 4 = 1 := by kernel_rfl
theorem row_cells8 : Tryz.prog.cellsOf 5 = 1 := by kernel_rfl
theorem row_cellsZ : Tryz.prog.cellsOf 24 = 2 := by kernel_rfl
theorem row_cells32 : Tryz.prog.cellsOf 62 = 1 := by kernel_rfl
theorem row_cellsS : Tryz.prog.cellsOf 22 = 1 := by kernel_rfl

section
variable {H : Type} {enc : TypeId × Value → H} {W : World} {base : Nat} {sp : Nat → Bool} {held : Bool}

def IsL (W : World) (A : Option Addr) (c : Nat) (l : List Nat) : Prop := Rd W A l ∧ Lim l ∧ l.length ≤ maxLen ∧ l.length ≤ c ∧ (A = none → c = 0)
theorem open_nat {fuel : Nat} {cs : List Value} {x : DataW H × List MemPlace} (h : DataW.trod enc Tryz.prog W base sp held fuel 22 cs = some x) :
    ∃ A c l, cs = [.slice A l.length c] ∧ IsL W A c l := by
  rcases open_ints Tryz.underlying22 Tryz.underlying62 row_cells32 h with ⟨rfl, _⟩ | ⟨a, len, cap, zs, rfl, _, hl, hm, hz, _, hcell, hwf⟩
  · exact ⟨none, 0, [], rfl, Rd.nil, Lim.nil, by decide, Nat.le_refl _, fun _ => rfl⟩
  · have hlz : len ≤ zs.length := by rw [hz]; split <;> omega
    have hlen : ((zs.take len).map Int.toNat).length = len := by rw [List.length_map, List.length_take]; omega
    refine ⟨some a, cap, (zs.take len).map Int.toNat, by rw [hlen], ?_, ?_, by rw [hlen]; omega, by rw [hlen]; exact hl, fun e => by cases e⟩
    · refine .inr ⟨a, rfl, fun i u hu => ?_⟩
      have hi : i < len := by
        have := (List.getElem?_eq_some_iff.1 hu).1
        rw [vals_length, hlen] at this; exact this
      have hi2 : i < zs.length := by omega
      rw [hcell i hi2]
      have h0 := bounds_u32 (hwf _ (List.getElem_mem hi2))
      simp only [vals, List.map_map, List.getElem?_map, List.getElem?_take_of_lt hi, List.getElem?_eq_getElem hi2, Option.map_some] at hu
      rw [← Option.some.inj hu]
      simp only [Function.comp, List.getD_eq_getElem?_getD, List.getElem?_eq_getElem hi2, Option.getD_some]
      rw [Int.toNat_of_nonneg h0.1]
    · intro y hy
      obtain ⟨z, hz2, rfl⟩ := List.mem_map.1 hy
      have := bounds_u32 (hwf _ (List.mem_of_mem_take hz2))
      omega

theorem open_mag {fuel : Nat} {cs : List Value} {x : DataW H × List MemPlace} (h : DataW.trod enc Tryz.prog W base sp held fuel 24 cs = some x) :
    ∃ b A c l, cs = [.bool b, .slice A l.length c] ∧ IsL W A c l := by
  obtain ⟨y0, y1, n, _, hl, h0, h1⟩ := trod_struct2 Tryz.underlying24 h
  rw [row_cellsZ] at hl
  match cs, hl with
  | [c0, c1], _ =>
    have e0 : DataW.trod enc Tryz.prog W base sp held n 4 (([c0, c1].drop 0).take (Tryz.prog.cellsOf 4)) = some y0 := h0
    have e1 : DataW.trod enc Tryz.prog W base sp held n 22 (([c0, c1].drop 1).take (Tryz.prog.cellsOf 22)) = some y1 := h1
    rw [row_cellsB] at e0
    rw [row_cellsS] at e1
    obtain ⟨b, kb, _⟩ := DataW.trod_bool Tryz.underlying4 (show DataW.trod enc Tryz.prog W base sp held n 4 [c0] = some y0 from e0)
    obtain ⟨A, c, l, k1, i1⟩ := open_nat (show DataW.trod enc Tryz.prog W base sp held n 22 [c1] = some y1 from e1)
    simp only [List.cons.injEq, and_true] at kb k1
    subst kb k1
    exact ⟨b, A, c, l, rfl, i1⟩
theorem okw_int {r : Reach} {b0 : Nat} {v : Value} (hv : Value.okWide Tryz.prog W r b0 24 v) : ∃ cs : Array Value, v = .agg cs ∧ cs.size = 2 := by
  simp only [Value.okWide, Tryz.underlying24] at hv
  obtain ⟨cs, rfl, hcs, _⟩ := hv
  exact ⟨cs, rfl, by rw [hcs]; kernel_rfl⟩
theorem open_zi {r : Reach} {b0 : Nat} {v : Value} {d : DataW H} {ps : List MemPlace} (hv : Value.okWide Tryz.prog W r b0 24 v) (h : DataW.Trod enc Tryz.prog W base sp held 24 v d ps) :
    ∃ b A c l, v = .agg #[.bool b, .slice A l.length c] ∧ IsL W A c l := by
  obtain ⟨⟨cl⟩, rfl, hs⟩ := okw_int hv
  obtain ⟨fuel, hf⟩ := h
  obtain ⟨b, A, c, l, e, i⟩ := open_mag hf
  simp only [Value.cells] at e
  subst e
  exact ⟨b, A, c, l, rfl, i⟩
end
theorem tab_core {W : World} {g0 : Nat} {t0 : TypeId} {cs0 : List Value} {xs : List (DataW Unit × List MemPlace)} {n : Nat} (hxs : xs.length = 32) (hl : cs0.length = 32)
    (hx : xs.map Prod.fst = Lib.deBruijn32tab.map (fun k => (DataW.lit (.int .u8 (k : Nat)) : DataW Unit)))
    (he : ∀ i, i < 32 → DataW.trod (fun _ => ()) Tryz.prog W 0 (fun _ => true) false n 5 ((cs0.drop i).take 1) = xs[i]?)
    (cell : ∀ i, W.cell? ⟨g0, i, none⟩ = cs0[i]?) : TabAt g0 Lib.deBruijn32tab W := by
  intro j hj
  have hj32 : j < 32 := hj
  have e := he j hj32
  rw [List.getElem?_eq_getElem (by omega : j < xs.length)] at e
  obtain ⟨z, hz, hd, _⟩ := DataW.trod_int Tryz.underlying5 e
  have h1 : (xs.map Prod.fst)[j]? = (Lib.deBruijn32tab.map (fun k => (DataW.lit (.int .u8 (k : Nat)) : DataW Unit)))[j]? := by rw [hx]
  rw [List.getElem?_map, List.getElem?_map, List.getElem?_eq_getElem (by omega : j < xs.length), hd, List.getElem?_eq_getElem hj] at h1
  simp only [Option.map_some, Option.some.injEq, DataW.lit.injEq, Lit.int.injEq, true_and] at h1
  rw [cell j]
  have h2 := congrArg (fun l => l[0]?) hz
  simp only [List.getElem?_take_of_lt Nat.zero_lt_one, List.getElem?_drop, Nat.add_zero, List.getElem?_cons_zero] at h2
  rw [h2, h1, List.getD_eq_getElem?_getD, List.getElem?_eq_getElem hj]; rfl
end Go.Proofs.YtopigejgadnkaaaGreatDoor

namespace Go.Proofs.YtopigejgadnkaaaGreatDoor
open Go.RowKit Go.Shelf
attribute [local go_sem] max2_i min2_i max_two min_two

def Flds (w : World) : Prop := w.cell? ⟨1, 0, none⟩ = some (.int .u64 998244353) ∧ w.cell? ⟨1, 1, none⟩ = some (.int .u64 469762049) ∧ w.cell? ⟨1, 2, none⟩ = some (.int .u64 167772161)
theorem Flds.below {w w' : World} (h : Flds w) (hb : Below w.heap.size w w') : Flds w' := ⟨cell_below hb h.1, cell_below hb h.2.1, cell_below hb h.2.2⟩
theorem mul_c (A : Option Addr) (c a : Nat) (B : Option Addr) (d b : Nat) (w : World) (hA : NatV w A c a) (hB : NatV w B d b) (hG : Flds w) (ha : nl a ≤ 16384) (hb : nl b ≤ 16384) (hs : nl a ≤ 7 ∨ nl b ≤ 7 := by omega) :
    Calls Tryz.prog 60 #[.slice A (nl a) c, .slice B (nl b) d] w (RetN w (a * b)) := by
  have hb0 : Below w.heap.size w (w.alloc (.cells #[.int .i64 48, .func (.func 102) #[] #[], .int .i64 14, .func (.func 103) #[] #[], .int .i64 8, .func (.func 104) #[] #[]] 119)) := (Below.refl _ _).alloc (Nat.le_refl _) _
  have hob := heap_alloc_new w (.cells #[.int .i64 48, .func (.func 102) #[] #[], .int .i64 14, .func (.func 103) #[] #[], .int .i64 8, .func (.func 104) #[] #[]] 119)
  have hu := Tryz.underlying119
  obtain ⟨m, hm⟩ : ∃ m, m = min (nl a) (nl b) := ⟨_, rfl⟩
  have hmI : min (nl a : Int) (nl b : Int) = (m : Int) := by omega
  have HM := Lib.hid hm
  clear hm
  go_enter Tryz.func60, Tryz.ntmps60
  go_wp2_with (fail)
  obtain ⟨s, hs⟩ : ∃ s, s = w.heap.size := ⟨_, rfl⟩
  rw [← hs] at hob ⊢
  replace hs := Lib.hid hs
  generalize w.alloc (.cells #[.int .i64 48, .func (.func 102) #[] #[], .int .i64 14, .func (.func 103) #[] #[], .int .i64 8, .func (.func 104) #[] #[]] 119) = W0 at *
  have k0 : W0.cell? ⟨s, 0, none⟩ = some (.int .i64 48) := by unfold World.cell?; rw [hob]; rfl
  have k1 : W0.cell? ⟨s, 1, none⟩ = some (.func (.func 102) #[] #[]) := by unfold World.cell?; rw [hob]; rfl
  have k2 : W0.cell? ⟨s, 2, none⟩ = some (.int .i64 14) := by unfold World.cell?; rw [hob]; rfl
  have k3 : W0.cell? ⟨s, 3, none⟩ = some (.func (.func 103) #[] #[]) := by unfold World.cell?; rw [hob]; rfl
  have k4 : W0.cell? ⟨s, 4, none⟩ = some (.int .i64 8) := by unfold World.cell?; rw [hob]; rfl
  have k5 : W0.cell? ⟨s, 5, none⟩ = some (.func (.func 104) #[] #[]) := by unfold World.cell?; rw [hob]; rfl
  clear hob
  go_loopw [6, 12] (fun v6 ct wr => ∃ i : Nat, ct = .int .i64 i ∧ i ≤ 3 ∧ Below W0.heap.size W0 wr) (fun v6 ct wr => 3 - (intOf ct).toNat)
  case atStart => exact ⟨0, rfl, by decide, .refl _ _⟩
  case round =>
    obtain ⟨i, rfl, hi, hbr⟩ := hrel
    have hbT := hb0.cons hbr
    by_cases hlt : i < 3
    · rcases i with _ | _ | _ | i
      · have hbB : Below wr.heap.size wr (wr.alloc (.cells #[.int .i64 48, .func (.func 102) #[] #[]] 119)) := (Below.refl _ _).alloc (Nat.le_refl _) _
        have hoB := heap_alloc_new wr (.cells #[.int .i64 48, .func (.func 102) #[] #[]] 119)
        have b0 : (wr.alloc (.cells #[.int .i64 48, .func (.func 102) #[] #[]] 119)).cell? ⟨wr.heap.size, 0, none⟩ = some (.int .i64 48) := by unfold World.cell?; rw [hoB]; rfl
        have b1 : (wr.alloc (.cells #[.int .i64 48, .func (.func 102) #[] #[]] 119)).cell? ⟨wr.heap.size, 1, none⟩ = some (.func (.func 102) #[] #[]) := by unfold World.cell?; rw [hoB]; rfl
        have q0 := cell_below hbr k0
        have q1 := cell_below hbr k1
        clear hoB
        have hn : ¬ 48 ≤ m := by have := HM.out; omega
        have hd : decide ((48 : Int) ≤ (m : Int)) = false := by simp; omega
        go_wp2_with (fail)
        go_roundw
        case rel => exact ⟨1, by go_num, by decide, hbr.cons hbB⟩
        case measure => simp only [intOf]; decide
      · have hbB : Below wr.heap.size wr (wr.alloc (.cells #[.int .i64 14, .func (.func 103) #[] #[]] 119)) := (Below.refl _ _).alloc (Nat.le_refl _) _
        have hoB := heap_alloc_new wr (.cells #[.int .i64 14, .func (.func 103) #[] #[]] 119)
        have b0 : (wr.alloc (.cells #[.int .i64 14, .func (.func 103) #[] #[]] 119)).cell? ⟨wr.heap.size, 0, none⟩ = some (.int .i64 14) := by unfold World.cell?; rw [hoB]; rfl
        have b1 : (wr.alloc (.cells #[.int .i64 14, .func (.func 103) #[] #[]] 119)).cell? ⟨wr.heap.size, 1, none⟩ = some (.func (.func 103) #[] #[]) := by unfold World.cell?; rw [hoB]; rfl
        have q0 := cell_below hbr k2
        have q1 := cell_below hbr k3
        clear hoB
        have hn : ¬ 14 ≤ m := by have := HM.out; omega
        have hd : decide ((14 : Int) ≤ (m : Int)) = false := by simp; omega
        go_wp2_with (fail)
        go_roundw
        case rel => exact ⟨2, by go_num, by decide, hbr.cons hbB⟩
        case measure => simp only [intOf]; decide
      · have hbB : Below wr.heap.size wr (wr.alloc (.cells #[.int .i64 8, .func (.func 104) #[] #[]] 119)) := (Below.refl _ _).alloc (Nat.le_refl _) _
        have hoB := heap_alloc_new wr (.cells #[.int .i64 8, .func (.func 104) #[] #[]] 119)
        have b0 : (wr.alloc (.cells #[.int .i64 8, .func (.func 104) #[] #[]] 119)).cell? ⟨wr.heap.size, 0, none⟩ = some (.int .i64 8) := by unfold World.cell?; rw [hoB]; rfl
        have b1 : (wr.alloc (.cells #[.int .i64 8, .func (.func 104) #[] #[]] 119)).cell? ⟨wr.heap.size, 1, none⟩ = some (.func (.func 104) #[] #[]) := by unfold World.cell?; rw [hoB]; rfl
        have q0 := cell_below hbr k4
        have q1 := cell_below hbr k5
        clear hoB
        have hn : ¬ 8 ≤ m := by have := HM.out; omega
        have hd : decide ((8 : Int) ≤ (m : Int)) = false := by simp; omega
        go_wp2_with (fail)
        go_roundw
        case rel => exact ⟨3, by go_num, by decide, hbr.cons hbB⟩
        case measure => simp only [intOf]; decide
      · omega
    · obtain rfl : i = 3 := by omega
      have CC := school_c A c a B d b wr (hA.below hbT) (hB.below hbT) (by omega) (by omega)
      replace CC := Lib.hid CC
      go_wp2_with (fail)
      refine CC.out.mono ?_
      rintro e w2 ⟨Y, cy, rfl, h1, h2⟩
      go_wp2_with (fail)
      go_ret
      exact ⟨Y, cy, rfl, h1, hbT.cons h2⟩
theorem imul_c (aA : Option Addr) (ac : Nat) (a : Int) (bA : Option Addr) (bc : Nat) (b : Int) (w : World) (ha : NatV w aA ac (mg a)) (hb : NatV w bA bc (mg b)) (hG : Flds w) (la : nl (mg a) ≤ 16384) (lb : nl (mg b) ≤ 16384) (hs : nl (mg a) ≤ 7 ∨ nl (mg b) ≤ 7 := by omega) :
    Calls Tryz.prog 22 #[.agg #[.bool (sg a), .slice aA (nl (mg a)) ac], .agg #[.bool (sg b), .slice bA (nl (mg b)) bc]] w (RetI w (a * b)) := by
  obtain ⟨ns, Ens⟩ : ∃ x, x = (sg a != sg b) := ⟨_, rfl⟩
  have Ins : (sg a != sg b) = ns := Ens.symm
  have Ins2 : (!(sg a == sg b)) = ns := Ens.symm
  have hv := ival_mul a b
  rw [Ins] at hv
  replace hv := Lib.hid hv
  replace Ens := Lib.hid Ens
  obtain ⟨hb1, Ra, Rb, Rr⟩ := bx3 w #[.bool (sg a), .slice aA (nl (mg a)) ac] 24 #[.bool (sg b), .slice bA (nl (mg b)) bc] 24 #[.bool false, .slice none 0 0] 24
  replace ha := ha.below hb1
  replace hb := hb.below hb1
  replace hG := hG.below hb1
  have HBT := hb1
  clear hb1
  have qa0 := Ra.c (i := 0) rfl
  have qa1 := Ra.c (i := 1) rfl
  have qb0 := Rb.c (i := 0) rfl
  have qb1 := Rb.c (i := 1) rfl
  have qr0 := Rr.c (i := 0) rfl
  have qr1 := Rr.c (i := 1) rfl
  go_enter Tryz.func22, Tryz.ntmps22
  go_wp2_with (fail)
  have hd2 := drb ((((w.alloc (.cells #[.bool (sg a), .slice aA (nl (mg a)) ac] 24)).alloc (.cells #[.bool (sg b), .slice bA (nl (mg b)) bc] 24)).alloc (.cells #[.bool false, .slice none 0 0] 24)))
  replace ha := ha.below hd2
  replace hb := hb.below hd2
  replace hG := hG.below hd2
  replace Ra := Ra.below hd2
  replace qa0 := cbl hd2 qa0
  replace qa1 := cbl hd2 qa1
  replace Rb := Rb.below hd2
  replace qb0 := cbl hd2 qb0
  replace qb1 := cbl hd2 qb1
  replace Rr := Rr.below hd2
  replace qr0 := cbl hd2 qr0
  replace qr1 := cbl hd2 qr1
  replace HBT := Below.cons HBT hd2
  clear hd2
  obtain ⟨n, En⟩ : ∃ zq : Nat, zq = mg a * mg b := ⟨_, rfl⟩
  have Bn : nl n ≤ 32768 := by rw [En]; have := nl_mul (mg a) (mg b); omega
  have C2_0 := fun (W : World) (h1 : NatV W aA ac (mg a)) (h2 : NatV W bA bc (mg b)) (h3 : Flds W) => mul_c aA ac (mg a) bA bc (mg b) W h1 h2 h3 (by omega) (by omega)
  simp only [← En] at C2_0
  replace En := Lib.hid En
  replace C2_0 := Lib.hid C2_0
  obtain ⟨z, Ez⟩ : ∃ zq : Int, zq = ival ns n := ⟨_, rfl⟩
  have C2_1 := fun (W : World) (A : Option Addr) (c : Nat) (h1 : NatV W A c n) => imake_c ns A c n W h1 (by omega)
  simp only [← Ez] at C2_1
  replace Ez := Lib.hid Ez
  replace C2_1 := Lib.hid C2_1
  go_region_held3 (fun W => W.cell? ⟨w.heap.size, 0, none⟩ = some (.bool (sg a)) ∧ W.cell? ⟨(w.heap.size + 1), 0, none⟩ = some (.bool (sg b)) ∧ W.cell? ⟨w.heap.size, 1, none⟩ = some (.slice aA (nl (mg a)) ac) ∧ W.cell? ⟨(w.heap.size + 1), 1, none⟩ = some (.slice bA (nl (mg b)) bc))
    (first
      | exact ⟨qa0, qb0, qa1, qb1⟩
      | exact ⟨qa0_3, qb0_3, qa1_3, qb1_3⟩
      | exact ⟨qa0_4, qb0_4, qa1_4, qb1_4⟩
      | exact ⟨((Ra_4.other2 (by simp <;> omega)).c (i := 0) rfl), ((Rb_4.other2 (by simp <;> omega)).c (i := 0) rfl), ((Ra_4.other2 (by simp <;> omega)).c (i := 1) rfl), ((Rb_4.other2 (by simp <;> omega)).c (i := 1) rfl)⟩
      | go_keep)
    (first
      | (go_at_call 60; (with_reducible refine (C2_0.out _ ha hb hG).mono ?_); rintro e W3 ⟨Xn, cn, rfl, hn, hb3⟩; have ha_3 := ha.below hb3; have hb_3 := hb.below hb3; have hG_3 := hG.below hb3; have Ra_3 := Ra.below hb3; have qa0_3 := cbl hb3 qa0; have qa1_3 := cbl hb3 qa1; have Rb_3 := Rb.below hb3; have qb0_3 := cbl hb3 qb0; have qb1_3 := cbl hb3 qb1; have Rr_3 := Rr.below hb3; have qr0_3 := cbl hb3 qr0; have qr1_3 := cbl hb3 qr1; have HBT_3 := Below.cons HBT hb3)
      | (go_at_call 35; (with_reducible refine (C2_1.out _ _ _ hn).mono ?_); rintro e W4 ⟨Xz, cz, rfl, hz, hb4⟩; have ha_4 := ha_3.below hb4; have hb_4 := hb_3.below hb4; have hG_4 := hG_3.below hb4; have Ra_4 := Ra_3.below hb4; have qa0_4 := cbl hb4 qa0_3; have qa1_4 := cbl hb4 qa1_3; have Rb_4 := Rb_3.below hb4; have qb0_4 := cbl hb4 qb0_3; have qb1_4 := cbl hb4 qb1_3; have Rr_4 := Rr_3.below hb4; have qr0_4 := cbl hb4 qr0_3; have qr1_4 := cbl hb4 qr1_3; have hn_4 := hn.below hb4; have HBT_4 := Below.cons HBT_3 hb4; have fz0 := Rr_4.f (i := 0); have fz1 := Rr_4.f (i := 1)))
  all_goals (try go_wp2_with (fail))
  have hzz : z = a * b := by rw [Ez.out, En.out]; exact hv.out
  subst hzz
  have RS := Rr_4.store2 (.bool (sg ((a * b)))) (.slice Xz (nl (mg ((a * b)))) cz)
  have e0 := RS.c (i := 0) rfl
  have e1 := RS.c (i := 1) rfl
  refine bodyPost_ret (v := .agg #[.bool (sg ((a * b))), .slice Xz (nl (mg ((a * b)))) cz]) (by simp [results, Tryz.results22, go_sem, e0, e1]) rfl ?_
  exact ⟨Xz, cz, rfl, (Rr_4.keep2 (nuB rfl) hz), (Below.store2 HBT_4 (by first | exact Nat.le_refl _ | omega))⟩
theorem dmul_val {a b : Rat} (ha : Dyd a) (hb : Dyd b) : dval (dmn a * dmn b) (dex a + dex b) = a * b := by
  conv => rhs; rw [← dval_q ha, ← dval_q hb]
  unfold dval
  rw [Rat.intCast_mul, zp_add]
  generalize ((dmn a : Int) : Rat) = x
  generalize ((dmn b : Int) : Rat) = y
  generalize (2 : Rat) ^ dex a = u
  generalize (2 : Rat) ^ dex b = v
  grind
theorem dmul_c (aA : Option Addr) (ac : Nat) (a : Rat) (bA : Option Addr) (bc : Nat) (b : Rat) (w : World) (ha : NatV w aA ac (mg (dmn a))) (hb : NatV w bA bc (mg (dmn b))) (oa : DOk a) (ob : DOk b) (la : nl (mg (dmn a)) ≤ 16384) (lb : nl (mg (dmn b)) ≤ 16384) (hT : Tab w) (hG : Flds w) (hs : nl (mg (dmn a)) ≤ 7 ∨ nl (mg (dmn b)) ≤ 7 := by omega) :
    Calls Tryz.prog 66 #[.agg #[.bool (sg (dmn a)), .slice aA (nl (mg (dmn a))) ac, .int .i64 (dex a)], .agg #[.bool (sg (dmn b)), .slice bA (nl (mg (dmn b))) bc, .int .i64 (dex b)]] w (RetD w (a * b)) := by
  have ea := oa.e
  have eb := ob.e
  have hv := dmul_val oa.d ob.d
  obtain ⟨x, Ex⟩ : ∃ x, x = dex a + dex b := ⟨_, rfl⟩
  have Ix : dex a + dex b = x := Ex.symm
  have hx : -1073741824 ≤ x ∧ x ≤ 1073741824 := by omega
  rw [Ix] at hv
  have Wx : IntKind.i64.wrap x = x := IntWalk.i64_in _ (by omega)
  replace hv := Lib.hid hv
  replace oa := Lib.hid oa
  replace ob := Lib.hid ob
  replace Ex := Lib.hid Ex
  obtain ⟨hb1, Ra, Rb, Rr⟩ := bx3 w #[.bool (sg (dmn a)), .slice aA (nl (mg (dmn a))) ac, .int .i64 (dex a)] 33 #[.bool (sg (dmn b)), .slice bA (nl (mg (dmn b))) bc, .int .i64 (dex b)] 33 #[.bool false, .slice none 0 0, .int .i64 0] 33
  replace ha := ha.below hb1
  replace hb := hb.below hb1
  replace hT := hT.below hb1
  replace hG := hG.below hb1
  have HBT := hb1
  clear hb1
  have qa0 := Ra.c (i := 0) rfl
  have qa1 := Ra.c (i := 1) rfl
  have qa2 := Ra.c (i := 2) rfl
  have qb0 := Rb.c (i := 0) rfl
  have qb1 := Rb.c (i := 1) rfl
  have qb2 := Rb.c (i := 2) rfl
  have qr0 := Rr.c (i := 0) rfl
  have qr1 := Rr.c (i := 1) rfl
  have qr2 := Rr.c (i := 2) rfl
  go_enter Tryz.func66, Tryz.ntmps66
  go_wp2_with (fail)
  have hd2 := drb ((((w.alloc (.cells #[.bool (sg (dmn a)), .slice aA (nl (mg (dmn a))) ac, .int .i64 (dex a)] 33)).alloc (.cells #[.bool (sg (dmn b)), .slice bA (nl (mg (dmn b))) bc, .int .i64 (dex b)] 33)).alloc (.cells #[.bool false, .slice none 0 0, .int .i64 0] 33)))
  replace ha := ha.below hd2
  replace hb := hb.below hd2
  replace hT := hT.below hd2
  replace hG := hG.below hd2
  replace Ra := Ra.below hd2
  replace qa0 := cbl hd2 qa0
  replace qa1 := cbl hd2 qa1
  replace qa2 := cbl hd2 qa2
  replace Rb := Rb.below hd2
  replace qb0 := cbl hd2 qb0
  replace qb1 := cbl hd2 qb1
  replace qb2 := cbl hd2 qb2
  replace Rr := Rr.below hd2
  replace qr0 := cbl hd2 qr0
  replace qr1 := cbl hd2 qr1
  replace qr2 := cbl hd2 qr2
  replace HBT := Below.cons HBT hd2
  clear hd2
  obtain ⟨n, En⟩ : ∃ zq : Int, zq = dmn a * dmn b := ⟨_, rfl⟩
  have Bn : nl (mg n) ≤ 32768 := by rw [En, mg_mul]; have := nl_mul (mg (dmn a)) (mg (dmn b)); omega
  have C2_0 := fun (W : World) (h1 : NatV W aA ac (mg (dmn a))) (h2 : NatV W bA bc (mg (dmn b))) (h3 : Flds W) => imul_c aA ac (dmn a) bA bc (dmn b) W h1 h2 h3 (by omega) (by omega)
  simp only [← En] at C2_0
  replace En := Lib.hid En
  replace C2_0 := Lib.hid C2_0
  obtain ⟨z, Ez⟩ : ∃ zq : Rat, zq = dval n x := ⟨_, rfl⟩
  have C2_1 := fun (W : World) (A : Option Addr) (c : Nat) (h1 : NatV W A c (mg n)) (h2 : Tab W) => dmake_c A c n x W h1 h2 (by omega) hx
  simp only [← Ez] at C2_1
  replace Ez := Lib.hid Ez
  replace C2_1 := Lib.hid C2_1
  go_region_held3 (fun W => W.cell? ⟨w.heap.size, 0, none⟩ = some (.bool (sg (dmn a))) ∧ W.cell? ⟨w.heap.size, 1, none⟩ = some (.slice aA (nl (mg (dmn a))) ac) ∧ W.cell? ⟨w.heap.size, 2, none⟩ = some (.int .i64 (dex a)) ∧ W.cell? ⟨(w.heap.size + 1), 0, none⟩ = some (.bool (sg (dmn b))) ∧ W.cell? ⟨(w.heap.size + 1), 1, none⟩ = some (.slice bA (nl (mg (dmn b))) bc) ∧ W.cell? ⟨(w.heap.size + 1), 2, none⟩ = some (.int .i64 (dex b)))
    (first
      | exact ⟨qa0, qa1, qa2, qb0, qb1, qb2⟩
      | exact ⟨qa0_3, qa1_3, qa2_3, qb0_3, qb1_3, qb2_3⟩
      | exact ⟨qa0_4, qa1_4, qa2_4, qb0_4, qb1_4, qb2_4⟩
      | exact ⟨((Ra_4.other3 (by simp <;> omega)).c (i := 0) rfl), ((Ra_4.other3 (by simp <;> omega)).c (i := 1) rfl), ((Ra_4.other3 (by simp <;> omega)).c (i := 2) rfl), ((Rb_4.other3 (by simp <;> omega)).c (i := 0) rfl), ((Rb_4.other3 (by simp <;> omega)).c (i := 1) rfl), ((Rb_4.other3 (by simp <;> omega)).c (i := 2) rfl)⟩
      | go_keep)
    (first
      | (go_at_call 22; (with_reducible refine (C2_0.out _ ha hb hG).mono ?_); rintro e W3 ⟨Xn, cn, rfl, hn, hb3⟩; have ha_3 := ha.below hb3; have hb_3 := hb.below hb3; have hT_3 := hT.below hb3; have hG_3 := hG.below hb3; have Ra_3 := Ra.below hb3; have qa0_3 := cbl hb3 qa0; have qa1_3 := cbl hb3 qa1; have qa2_3 := cbl hb3 qa2; have Rb_3 := Rb.below hb3; have qb0_3 := cbl hb3 qb0; have qb1_3 := cbl hb3 qb1; have qb2_3 := cbl hb3 qb2; have Rr_3 := Rr.below hb3; have qr0_3 := cbl hb3 qr0; have qr1_3 := cbl hb3 qr1; have qr2_3 := cbl hb3 qr2; have HBT_3 := Below.cons HBT hb3)
      | (go_at_call 41; (with_reducible refine (C2_1.out _ _ _ hn hT_3).mono ?_); rintro e W4 ⟨Xz, cz, rfl, hz, hb4⟩; have ha_4 := ha_3.below hb4; have hb_4 := hb_3.below hb4; have hT_4 := hT_3.below hb4; have hG_4 := hG_3.below hb4; have Ra_4 := Ra_3.below hb4; have qa0_4 := cbl hb4 qa0_3; have qa1_4 := cbl hb4 qa1_3; have qa2_4 := cbl hb4 qa2_3; have Rb_4 := Rb_3.below hb4; have qb0_4 := cbl hb4 qb0_3; have qb1_4 := cbl hb4 qb1_3; have qb2_4 := cbl hb4 qb2_3; have Rr_4 := Rr_3.below hb4; have qr0_4 := cbl hb4 qr0_3; have qr1_4 := cbl hb4 qr1_3; have qr2_4 := cbl hb4 qr2_3; have hn_4 := hn.below hb4; have HBT_4 := Below.cons HBT_3 hb4; have fz0 := Rr_4.f (i := 0); have fz1 := Rr_4.f (i := 1); have fz2 := Rr_4.f (i := 2)))
  all_goals (try go_wp2_with (fail))
  have hzz : z = a * b := by rw [Ez.out, En.out]; exact hv.out
  subst hzz
  have RS := Rr_4.store3 (.bool (sg (dmn ((a * b))))) (.slice Xz (nl (mg (dmn ((a * b))))) cz) (.int .i64 (dex ((a * b))))
  have e0 := RS.c (i := 0) rfl
  have e1 := RS.c (i := 1) rfl
  have e2 := RS.c (i := 2) rfl
  refine bodyPost_ret (v := .agg #[.bool (sg (dmn ((a * b)))), .slice Xz (nl (mg (dmn ((a * b))))) cz, .int .i64 (dex ((a * b)))]) (by simp [results, Tryz.results66, go_sem, e0, e1, e2]) rfl ?_
  exact ⟨Xz, cz, rfl, (Rr_4.keep3 (nuB rfl) hz), (Below.store3 HBT_4 (by first | exact Nat.le_refl _ | omega))⟩
end Go.Proofs.YtopigejgadnkaaaGreatDoor

namespace Go.Proofs.YtopigejgadnkaaaGreatDoor
open Go.RowKit Go.ChangeShapes Go.WideShapes Go.ChangeAt

theorem row_glob : Tryz.prog.globalNamed "ziggurat/ntt.fields" = some 1 := by kernel_rfl
theorem row_globT : (Tryz.prog.globals[1]?).map (·.type) = some 161 := by kernel_rfl
theorem tab_of_laid2 {W : World} (h : laidMetH Tryz.prog [("math/bits.deBruijn32tab", Rows.laid_math_bits_deBruijn32tab), ("ziggurat/ntt.fields", Rows.laid_ziggurat_ntt_fields)] W) : Tab W := by
  rw [MakeChecks.laidMetH_plain _ _ _ (by kernel_rfl)] at h
  obtain ⟨ps, ⟨g0, t0, cs0, f0, p0, q0, hg0, ht0, hv0, hd0, _, _⟩, _⟩ := h
  obtain rfl := Option.some.inj (row_globD.symm.trans hg0)
  obtain rfl := Option.some.inj (row_globDT.symm.trans ht0)
  obtain ⟨xs, n, _, hx, hl, hxs, he⟩ := DataW.trod_array Tryz.underlying149 hd0
  have h3 : Tryz.prog.cellsOf 149 = 32 := by kernel_rfl
  have cell := fun i => World.var?_cell hg0 hv0 i
  obtain ⟨cl⟩ := cs0
  simp only [row_cells8, Nat.mul_one] at he
  refine tab_core (t0 := 0) hxs (by rw [← h3]; exact hl) ?_ he (fun i => by simpa using cell i)
  simp only [Rows.laid_math_bits_deBruijn32tab, Prod.mk.injEq, DataW.agg.injEq] at hx
  exact hx.1.symm
theorem flds_of_laid2 {W : World} (h : laidMetH Tryz.prog [("math/bits.deBruijn32tab", Rows.laid_math_bits_deBruijn32tab), ("ziggurat/ntt.fields", Rows.laid_ziggurat_ntt_fields)] W) : Flds W := by
  rw [MakeChecks.laidMetH_plain _ _ _ (by kernel_rfl)] at h
  obtain ⟨ps, ⟨_, _, _, _, _, _, _, _, _, _, hrest, _⟩, _⟩ := h
  obtain ⟨g0, t0, cs0, f0, p0, q0, hg0, ht0, hv0, hd0, _, _⟩ := hrest
  obtain rfl := Option.some.inj (row_glob.symm.trans hg0)
  obtain rfl := Option.some.inj (row_globT.symm.trans ht0)
  obtain ⟨xs, n, _, hx, hl, hxs, he⟩ := DataW.trod_array Tryz.underlying161 hd0
  have h3 : Tryz.prog.cellsOf 161 = 3 := by kernel_rfl
  have h1 : Tryz.prog.cellsOf 160 = 1 := by kernel_rfl
  have h0 : Tryz.prog.cellsOf 67 = 1 := by kernel_rfl
  have cell := fun i => World.var?_cell hg0 hv0 i
  obtain ⟨cl⟩ := cs0
  have hl' : cl.length = 3 := by rw [← h3]; exact hl
  match cl, hl' with
  | [c0, c1, c2], _ =>
    match xs, hxs with
    | [x0, x1, x2], _ =>
      have e0 := he 0 (by decide)
      have e1 := he 1 (by decide)
      have e2 := he 2 (by decide)
      rw [h1] at e0 e1 e2
      have one : ∀ (c : Value) (x : DataW Unit × List MemPlace) (z : Int), DataW.trod (fun _ => ()) Tryz.prog W 0 (fun _ => true) false n 160 [c] = some x → x.1 = .agg [.lit (.int .u64 z)] → c = .int .u64 z := by
        intro c x z hc hz
        obtain ⟨ys, n2, _, hy, _, hys, hey⟩ := DataW.trod_struct Tryz.underlying160 hc
        have e : DataW.trod (fun _ => ()) Tryz.prog W 0 (fun _ => true) false n2 67 (([c].drop 0).take (Tryz.prog.cellsOf 67)) = ys[0]? := hey 0 _ rfl
        rw [h0] at e
        match ys, hys with
        | [y], _ =>
          obtain ⟨z', hz1, hz2, _⟩ := DataW.trod_int Tryz.underlying67 (show DataW.trod (fun _ => ()) Tryz.prog W 0 (fun _ => true) false n2 67 [c] = some y from e)
          simp only [List.cons.injEq, and_true] at hz1
          rw [hy, hz2] at hz
          simp at hz
          rw [hz1, hz]
      simp only [Rows.laid_ziggurat_ntt_fields, Prod.mk.injEq, DataW.agg.injEq, List.map_cons, List.map_nil, List.cons.injEq, and_true] at hx
      obtain ⟨⟨hx0, hx1, hx2⟩, _⟩ := hx
      have k0 := one c0 x0 _ e0 hx0.symm
      have k1 := one c1 x1 _ e1 hx1.symm
      have k2 := one c2 x2 _ e2 hx2.symm
      subst k0 k1 k2
      exact ⟨cell 0, cell 1, cell 2⟩
theorem door_met2 (os : Os) (args : Array Value) : laidMetH Tryz.prog [("math/bits.deBruijn32tab", Rows.laid_math_bits_deBruijn32tab), ("ziggurat/ntt.fields", Rows.laid_ziggurat_ntt_fields)] ((World.doorLaid Tryz.prog 400 os).forCall (fun _ _ => 0) ⟨#[], args, []⟩).memory :=
  laidMetH_of_parts3 (fuel := 8) (laidMet_of_run' 8 (by kernel_rfl) (by kernel_rfl)) (by kernel_rfl) (by kernel_rfl)
end Go.Proofs.YtopigejgadnkaaaGreatDoor

namespace Go.Proofs.YtopigejgadnkaaaGreatDoor

def ev (c : Int) : List Int → Int
  | [] => 0
  | a :: p => a + c * ev c p
def hs (c : Int) : Nat → List Int → Int
  | _, [] => 0
  | 0, a :: p => a + c * hs c 0 p
  | i + 1, _ :: p => hs c i p + c * hs c (i + 1) p
def syn (c : Int) : List Int → List Int
  | [] => []
  | a :: p => (a + c * (syn c p).headD 0) :: syn c p
def der : List Int → List Int
  | [] => []
  | _ :: p => p.mapIdx (fun i x => x * ((i : Int) + 1))
def addl : List Int → List Int → List Int
  | a :: p, b :: q => (a + b) :: addl p q
  | _, _ => []
theorem hs_zero (c : Int) : ∀ p, hs c 0 p = ev c p
  | [] => rfl
  | a :: p => by rw [hs, ev, hs_zero c p]
theorem syn_head (c : Int) : ∀ p, (syn c p).headD 0 = ev c p
  | [] => rfl
  | a :: p => by simp only [syn, List.headD_cons]; rw [syn_head c p, ev]
theorem syn_len (c : Int) : ∀ p, (syn c p).length = p.length
  | [] => rfl
  | a :: p => by simp only [syn, List.length_cons]; rw [syn_len c p]
theorem hs_syn (c : Int) : ∀ (p : List Int) (a : Int) (i : Nat), hs c i (syn c p) = hs c (i + 1) (a :: p)
  | [], a, i => by cases i <;> simp [syn, hs]
  | b :: q, a, 0 => by
    have h := hs_syn c q b 0
    have e1 : hs c 0 (syn c (b :: q)) = (b + c * (syn c q).headD 0) + c * hs c 0 (syn c q) := by rw [syn, hs]
    have e2 : hs c (0 + 1) (a :: b :: q) = hs c 0 (b :: q) + c * hs c (0 + 1) (b :: q) := by conv => lhs; rw [hs]
    have e3 : hs c 0 (b :: q) = b + c * hs c 0 q := by rw [hs]
    rw [e1, e2, e3, h, syn_head, hs_zero c q]
  | b :: q, a, i + 1 => by
    have e1 : hs c (i + 1) (syn c (b :: q)) = hs c i (syn c q) + c * hs c (i + 1) (syn c q) := by rw [syn, hs]
    have e2 : hs c (i + 1 + 1) (a :: b :: q) = hs c (i + 1) (b :: q) + c * hs c (i + 1 + 1) (b :: q) := by conv => lhs; rw [hs]
    rw [e1, e2, hs_syn c q b i, hs_syn c q b (i + 1)]
theorem hs_addl (c : Int) : ∀ (i : Nat) (p q : List Int), p.length = q.length → hs c i (addl p q) = hs c i p + hs c i q
  | i, [], [], _ => by cases i <;> simp [addl, hs]
  | i, [], b :: q, h => by simp at h
  | i, a :: p, [], h => by simp at h
  | 0, a :: p, b :: q, h => by
    simp only [addl, hs]; rw [hs_addl c 0 p q (by simpa using h)]; grind
  | i + 1, a :: p, b :: q, h => by
    simp only [addl, hs]; rw [hs_addl c i p q (by simpa using h), hs_addl c (i + 1) p q (by simpa using h)]; grind
theorem der_cons (a : Int) (p : List Int) : der (a :: p) = if p = [] then [] else addl p (0 :: der p) := by
  cases p with
  | nil => rfl
  | cons b q =>
    rw [if_neg (by simp)]
    simp only [der, List.mapIdx_cons, addl]
    congr 1
    · simp
    · have key : ∀ (l : List Int) (k : Nat), l.mapIdx (fun i x => x * (((i + 1 : Nat) : Int) + 1)) = addl l (l.mapIdx (fun i x => x * ((i : Int) + 1))) := by
        intro l k
        apply List.ext_getElem
        · have : ∀ (x y : List Int), x.length = y.length → (addl x y).length = x.length := by
            intro x
            induction x with
            | nil => intro y _; cases y <;> rfl
            | cons u v ih => intro y h; cases y with
              | nil => simp at h
              | cons w z => simp only [addl, List.length_cons]; rw [ih z (by simpa using h)]
          rw [this _ _ (by simp)]; simp
        · intro n h1 h2
          have gt : ∀ (x y : List Int) (n : Nat) (h : n < (addl x y).length) (hx : n < x.length) (hy : n < y.length), (addl x y)[n] = x[n] + y[n] := by
            intro x
            induction x with
            | nil => intro y n h hx; simp at hx
            | cons u v ih =>
              intro y n h hx hy
              cases y with
              | nil => simp at hy
              | cons w z =>
                cases n with
                | zero => rfl
                | succ n => simp only [addl, List.getElem_cons_succ]; exact ih z n (by simpa [addl] using h) (by simpa using hx) (by simpa using hy)
          rw [gt _ _ _ h2 (by simpa using h1) (by simpa using h1)]
          simp only [List.getElem_mapIdx]
          grind
      exact key q 0
theorem der_len : ∀ p : List Int, (der p).length = p.length - 1
  | [] => rfl
  | a :: p => by simp [der]
theorem hs_der (c : Int) : ∀ (p : List Int) (i : Nat), hs c i (der p) = ((i : Int) + 1) * hs c (i + 1) p
  | [], i => by cases i <;> simp [der, hs]
  | a :: p, i => by
    rw [der_cons]
    by_cases h : p = []
    · subst h; rw [if_pos rfl]; cases i <;> simp [hs]
    · have hl : p.length = (0 :: der p).length := by
        have := List.length_pos_iff.2 h
        rw [List.length_cons, der_len]; omega
      rw [if_neg h, hs_addl c i p _ hl]
      cases i with
      | zero => rw [hs, hs_der c p 0, hs]; grind
      | succ i => rw [hs, hs_der c p i, hs_der c p (i + 1), hs]; grind
def ders : Nat → List Int → List Int
  | 0, p => p
  | i + 1, p => ders i (der p)
def fac : Nat → Int
  | 0 => 1
  | i + 1 => fac i * ((i : Int) + 1)
theorem ders_der : ∀ (i : Nat) (p : List Int), ders (i + 1) p = der (ders i p)
  | 0, p => rfl
  | i + 1, p => by rw [ders, ders_der i (der p), ders]
theorem hs_ders (c : Int) (p : List Int) : ∀ (i j : Nat), fac j * hs c j (ders i p) = fac (i + j) * hs c (i + j) p
  | 0, j => by rw [Nat.zero_add, ders]
  | i + 1, j => by
    rw [ders_der, hs_der, ← Int.mul_assoc, show fac j * ((j : Int) + 1) = fac (j + 1) from rfl, hs_ders c p i (j + 1), show i + (j + 1) = i + 1 + j by omega]
theorem taylor (c : Int) (p : List Int) (i : Nat) : ev c (ders i p) = fac i * hs c i p := by
  have h := hs_ders c p i 0
  rw [hs_zero, Nat.add_zero] at h
  simpa [fac] using h
end Go.Proofs.YtopigejgadnkaaaGreatDoor

namespace Go.Proofs.YtopigejgadnkaaaGreatDoor
open Go.RowKit Go.Shelf

theorem info_int : (Tryz.prog.info? 24).map (fun i => (i.zero, i.size, i.bytes)) = some (some (.agg #[.bool false, .slice none 0 0]), 2, 32) := by kernel_rfl
theorem mkP (l c : Int) (h0 : 0 ≤ l) (h : l ≤ c) (hc : c ≤ 1099511627776) : ∀ W : World, (Instr.makeSlice 46 (.int .i64 l) (.int .i64 c)).run Tryz.prog W =
    .ok (.slice (some ⟨W.heap.size, 0, none⟩) l.toNat c.toNat) (W.alloc (.cells (madeCells #[.bool false, .slice none 0 0] (c.toNat * 2)) 24)) := fun W => by
  obtain ⟨i0, hi, hz0, hz1, hz2⟩ := info_parts info_int
  have := run_make (P := Tryz.prog) W 46 24 i0 _ Tryz.underlying46 hi hz0 .i64 .i64 l c h0 h (by rw [hz2]; omega) (by omega)
  rw [hz1] at this
  exact this
theorem made_notU (n : Nat) : ∀ u ∈ (madeCells #[.bool false, .slice none 0 0] n).toList, NotU u := by
  intro u hu
  simp only [madeCells, Array.toList_map, List.mem_map] at hu
  obtain ⟨k, _, rfl⟩ := hu
  have : k % 2 = 0 ∨ k % 2 = 1 := by omega
  rcases this with h | h <;> simp [h]
  · exact notU_bool _
  · exact notU_slice _ _ _
def gi (p : List Int) (j : Nat) : Int := p.getD j 0
def PolA (W : World) (V : Option Addr) (p : List Int) : Prop := ∀ j, j < p.length → ∃ ad X d, V = some ad ∧ W.cell? (ad.add (j * 2)) = some (.bool (sg (gi p j))) ∧ W.cell? ⟨(ad.add (j * 2)).block, (ad.add (j * 2)).off + 1, none⟩ = some (.slice X (nl (mg (gi p j))) d) ∧ NatV W X d (mg (gi p j))
theorem PolA.below {W W' : World} {V : Option Addr} {p : List Int} (h : PolA W V p) (hb : Below W.heap.size W W') : PolA W' V p := fun j hj => by
  obtain ⟨ad, X, d, h1, h2, h3, h4⟩ := h j hj
  exact ⟨ad, X, d, h1, cell_below hb h2, cell_below hb h3, h4.below hb⟩
structure PolV (W : World) (V : Option Addr) (c : Nat) (p : List Int) : Prop where
  a : PolA W V p
  l : p.length ≤ c
  m : c ≤ maxLen
theorem PolV.below {W W' : World} {V : Option Addr} {c : Nat} {p : List Int} (h : PolV W V c p) (hb : Below W.heap.size W W') : PolV W' V c p := ⟨h.a.below hb, h.l, h.m⟩
def RetP (w : World) (p : List Int) (e : Ending) (w' : World) : Prop := ∃ V c, e = .returned (.slice V p.length c) ∧ PolV w' V c p ∧ Below w.heap.size w w'
def EncI (W : World) (p : List Int) (k : Nat) (vs : Array Value) : Prop := ∀ j, j < k → ∃ X d, vs[j * 2]? = some (.bool (sg (gi p j))) ∧ vs[j * 2 + 1]? = some (.slice X (nl (mg (gi p j))) d) ∧ NatV W X d (mg (gi p j))
theorem EncI.map {W W' : World} {p : List Int} {k : Nat} {vs : Array Value} (h : EncI W p k vs) (hN : ∀ (A : Option Addr) (c n : Nat), NatV W A c n → NatV W' A c n) : EncI W' p k vs := fun j hj => by
  obtain ⟨X, d, h1, h2, h3⟩ := h j hj
  exact ⟨X, d, h1, h2, hN _ _ _ h3⟩
theorem addr_at (g n : Nat) : (⟨g, 0, none⟩ : Addr).add n = ⟨g, n, none⟩ := by
  unfold Addr.add
  by_cases h : n = 0 <;> simp [h]
theorem polV_of {W : World} {g : Nat} {vs : Array Value} {p : List Int} {c : Nat} (h : BoxA W g 24 vs) (he : EncI W p p.length vs) (hl : p.length ≤ c) (hm : c ≤ maxLen) : PolV W (some ⟨g, 0, none⟩) c p := by
  refine ⟨fun j hj => ?_, hl, hm⟩
  obtain ⟨X, d, h1, h2, h3⟩ := he j hj
  refine ⟨⟨g, 0, none⟩, X, d, rfl, ?_, ?_, h3⟩
  · rw [addr_at]; exact h.c h1
  · rw [addr_at]; exact h.c h2
theorem BoxA.stepP {W : World} {g : Nat} {t : TypeId} {vs : Array Value} (h : BoxA W g t vs) (i : Nat) (v0 v1 : Value) : BoxA ((W.setCell ⟨g, i * 2, none⟩ v0).setCell ⟨g, i * 2 + 1, none⟩ v1) g t ((vs.setIfInBounds (i * 2) v0).setIfInBounds (i * 2 + 1) v1) := by
  have h0 := heap_setCell_same W g (i * 2) _ _ v0 h.at_
  exact ⟨heap_setCell_same _ g (i * 2 + 1) _ _ v1 h0⟩
theorem setP_far {W : World} {g i : Nat} {v0 v1 : Value} (j : Nat) (hj : j ≠ g) : ((W.setCell ⟨g, i * 2, none⟩ v0).setCell ⟨g, i * 2 + 1, none⟩ v1).heap[j]? = W.heap[j]? := by
  rw [Below.heap_setCell _ _ _ _ (by simpa using hj), Below.heap_setCell _ _ _ _ (by simpa using hj)]
theorem notU_set {vs : Array Value} {i : Nat} {v : Value} (h : ∀ u ∈ vs.toList, NotU u) (hv : NotU v) : ∀ u ∈ (vs.setIfInBounds i v).toList, NotU u := by
  intro u hu
  rw [Array.toList_setIfInBounds] at hu
  rcases List.mem_or_eq_of_mem_set hu with h1 | h1
  · exact h u h1
  · rw [h1]; exact hv
theorem EncI.step {W : World} {p : List Int} {k : Nat} {vs : Array Value} (h : EncI W p k vs) (hk : 2 * k + 1 < vs.size) {X : Option Addr} {d : Nat} (hN : NatV W X d (mg (gi p k))) : EncI W p (k + 1) ((vs.setIfInBounds (k * 2) (.bool (sg (gi p k)))).setIfInBounds (k * 2 + 1) (.slice X (nl (mg (gi p k))) d)) := fun j hj => by
  by_cases e : j = k
  · subst e
    refine ⟨X, d, ?_, ?_, hN⟩
    · rw [Array.getElem?_setIfInBounds_ne (by omega), Array.getElem?_setIfInBounds_self, if_pos (by omega)]
    · rw [Array.getElem?_setIfInBounds_self, if_pos (by simp; omega)]
  · obtain ⟨Y, f, h1, h2, h3⟩ := h j (by omega)
    refine ⟨Y, f, ?_, ?_, h3⟩
    · rw [Array.getElem?_setIfInBounds_ne (by omega), Array.getElem?_setIfInBounds_ne (by omega)]; exact h1
    · rw [Array.getElem?_setIfInBounds_ne (by omega), Array.getElem?_setIfInBounds_ne (by omega)]; exact h2
theorem gi_mapIdx (p : List Int) (g : Nat → Int → Int) (j : Nat) (hj : j < p.length) : gi (p.mapIdx g) j = g j (gi p j) := by
  unfold gi
  rw [List.getD_eq_getElem?_getD, List.getD_eq_getElem?_getD, List.getElem?_mapIdx, List.getElem?_eq_getElem hj]; rfl
end Go.Proofs.YtopigejgadnkaaaGreatDoor

namespace Go.Proofs.YtopigejgadnkaaaGreatDoor
open Go.RowKit Go.Shelf
attribute [local go_sem] max2_i min2_i max_two min_two

def RetFr (w : World) (p : List Int) (e : Ending) (w' : World) : Prop := ∃ ad c, e = .returned (.slice (some ad) p.length c) ∧ PolV w' (some ad) c p ∧ w.heap.size ≤ ad.block ∧ Below w.heap.size w w'
theorem each_diff (V : Option Addr) (c : Nat) (p : List Int) (w : World) (hP : PolV w V c p) (hl : p.length ≤ 1048576) (g : Nat → Int → Int)
    (H : ∀ (W : World) (i : Nat) (X : Option Addr) (d : Nat), Below w.heap.size w W → i < p.length → NatV W X d (mg (gi p i)) → Calls Tryz.prog 59 #[.int .i64 (i : Nat), .agg #[.bool (sg (gi p i)), .slice X (nl (mg (gi p i))) d]] W (RetI W (g i (gi p i)))) :
    Calls Tryz.prog 58 #[.slice V p.length c, .func (.func 59) #[] #[]] w (RetFr w (p.mapIdx g)) := by
  obtain ⟨n, En⟩ : ∃ n, n = p.length := ⟨_, rfl⟩
  have hmk := mkP (n : Int) (n : Int) (by omega) (by omega) (by omega)
  rw [Int.toNat_natCast] at hmk
  have hb0 : Below w.heap.size w (w.alloc (.cells (madeCells #[.bool false, .slice none 0 0] (n * 2)) 24)) := (Below.refl _ _).alloc (Nat.le_refl _) _
  have hO : BoxA (w.alloc (.cells (madeCells #[.bool false, .slice none 0 0] (n * 2)) 24)) w.heap.size 24 (madeCells #[.bool false, .slice none 0 0] (n * 2)) := ⟨at_new rfl⟩
  have hfin : ∀ (wr : World) (vs : Array Value), BoxA wr w.heap.size 24 vs → EncI wr (p.mapIdx g) n vs → Below w.heap.size w wr → RetFr w (p.mapIdx g) (.returned (.slice (some ⟨w.heap.size, 0, none⟩) n n)) wr := fun wr vs h1 h2 h3 => by
    have hlen : (p.mapIdx g).length = n := by rw [List.length_mapIdx, En]
    refine ⟨⟨w.heap.size, 0, none⟩, n, by rw [hlen], polV_of h1 (by rw [hlen]; exact h2) (by rw [hlen]; exact Nat.le_refl _) (by simp only [maxLen]; omega), Nat.le_refl _, h3⟩
  rw [← En]
  replace H := Lib.hid H
  replace hfin := Lib.hid hfin
  replace En := Lib.hid En
  go_enter Tryz.func58, Tryz.ntmps58
  go_wp2_with (fail)
  go_loopw [13] (fun v13 wr => ∃ (k : Nat) (vs : Array Value), v13 = .int .i64 k ∧ k ≤ n ∧ BoxA wr w.heap.size 24 vs ∧ Hid (vs.size = n * 2) ∧ Hid (∀ u ∈ vs.toList, NotU u) ∧ EncI wr (p.mapIdx g) k vs ∧ Below w.heap.size w wr) (fun v13 wr => n - (intOf v13).toNat)
  case atStart => exact ⟨0, _, rfl, Nat.zero_le _, hO, Lib.hid (size_madeCells _ _), Lib.hid (made_notU _), fun j hj => absurd hj (Nat.not_lt_zero j), hb0⟩
  case round =>
    obtain ⟨k, vs, rfl, hk, hB, hvz, hvu, hE, hbr⟩ := hrel
    clear hO hb0 hmk
    by_cases hkn : k < n
    · have t1 : decide ((k : Int) < (n : Int)) = true := by simp; omega
      have t2 : decide (k < n) = true := by simp; omega
      obtain ⟨ad, X, d, rfl, c0, c1, hN⟩ := (hP.below hbr).a k (by rw [← En.out]; exact hkn)
      obtain ⟨x, Ex⟩ : ∃ x, x = gi p k := ⟨_, rfl⟩
      have CH := fun (W : World) (h1 : Below w.heap.size w W) (h2 : NatV W X d (mg x)) => H.out W k X d h1 (by rw [← En.out]; exact hkn) (by rw [← Ex]; exact h2)
      rw [← Ex] at c0 c1 hN CH
      obtain ⟨y, Ey⟩ : ∃ y, y = g k x := ⟨_, rfl⟩
      rw [← Ey] at CH
      have Eg : y = gi (p.mapIdx g) k := by rw [gi_mapIdx p g k (by rw [← En.out]; exact hkn), ← Ex, Ey]
      have Wk : IntKind.i64.wrap ((k : Int) + 1) = ((k + 1 : Nat) : Int) := by rw [show (k : Int) + 1 = ((k + 1 : Nat) : Int) by omega]; exact IntWalk.i64_in _ (by have := En.out; omega)
      have hb1 : Below wr.heap.size wr (wr.alloc (.cells #[.bool (sg x), .slice X (nl (mg x)) d] 24)) := (Below.refl _ _).alloc (Nat.le_refl _) _
      have Rx : BoxA (wr.alloc (.cells #[.bool (sg x), .slice X (nl (mg x)) d] 24)) wr.heap.size 24 #[.bool (sg x), .slice X (nl (mg x)) d] := ⟨at_new rfl⟩
      have qx0 := Rx.c (i := 0) rfl
      have qx1 := Rx.c (i := 1) rfl
      have hB1 := hB.below hb1
      have hN1 := hN.below hb1
      have hbr1 := hbr.cons hb1
      replace CH := Lib.hid (CH _ hbr1 hN1)
      replace Ex := Lib.hid Ex
      replace Ey := Lib.hid Ey
      replace Eg := Lib.hid Eg
      replace t2 := t2
      go_wp2_with (fail)
      refine CH.out.mono ?_
      rintro e W2 ⟨Y, f, rfl, hY, hb2⟩
      have hB2 := hB1.below hb2
      have hbr2 := hbr1.cons hb2
      have hE2 := hE.map (W' := W2) (fun A c n h => (h.below hb1).below hb2)
      obtain ⟨o0, ho0⟩ : ∃ u, vs[k * 2]? = some u := ⟨_, Array.getElem?_eq_getElem (by rw [hvz.out]; omega)⟩
      obtain ⟨o1, ho1⟩ : ∃ u, vs[k * 2 + 1]? = some u := ⟨_, Array.getElem?_eq_getElem (by rw [hvz.out]; omega)⟩
      have z0 := hB2.c ho0
      have z1 := hB2.c ho1
      have f0 := hB2.f (i := k * 2)
      have f1 := hB2.f (i := k * 2 + 1)
      have hB3 := hB2.stepP k (.bool (sg y)) (.slice Y (nl (mg y)) f)
      have hY3 : NatV _ Y f (mg y) := hB2.keep hvu.out (fun j hj => setP_far (v0 := .bool (sg y)) (v1 := .slice Y (nl (mg y)) f) (i := k) j hj) hY
      have hE3 := hE2.map (fun A c n h => hB2.keep hvu.out (fun j hj => setP_far (v0 := .bool (sg y)) (v1 := .slice Y (nl (mg y)) f) (i := k) j hj) h)
      have hE4 := hE3.step (by rw [hvz.out]; omega) (X := Y) (d := f) (by rw [← Eg.out]; exact hY3)
      rw [← Eg.out] at hE4
      have hbr3 : Below w.heap.size w _ := (hbr2.setCell (p := ⟨w.heap.size, k * 2, none⟩) (Nat.le_refl _) (.bool (sg y))).setCell (p := ⟨w.heap.size, k * 2 + 1, none⟩) (Nat.le_refl _) (.slice Y (nl (mg y)) f)
      have hu4 := notU_set (i := k * 2 + 1) (v := .slice Y (nl (mg y)) f) (notU_set (i := k * 2) (v := .bool (sg y)) hvu.out (notU_bool _)) (notU_slice _ _ _)
      have hz4 : ((vs.setIfInBounds (k * 2) (.bool (sg y))).setIfInBounds (k * 2 + 1) (.slice Y (nl (mg y)) f)).size = n * 2 := by simp [hvz.out]
      have HD := Lib.hid (And.intro hB3 (And.intro hz4 (And.intro hu4 (And.intro hE4 hbr3))))
      clear hB3 hY3 hE3 hE4 hbr3 hu4 hz4 ho0 ho1 hE2 hE Rx qx0 qx1 hB1 CH
      go_wp2_with (fail)
      go_roundw
      case rel => exact ⟨k + 1, _, by go_num, by omega, HD.out.1, Lib.hid HD.out.2.1, Lib.hid HD.out.2.2.1, HD.out.2.2.2.1, HD.out.2.2.2.2⟩
      case measure => simp [intOf]; omega
    · obtain rfl : k = n := by omega
      have t1 : decide ((k : Int) < (k : Int)) = false := by simp
      have HF := Lib.hid (hfin.out wr vs hB hE hbr)
      go_wp2_with (fail)
      exact bodyPost_ret (v := .slice (some ⟨w.heap.size, 0, none⟩) k k) (by simp [results, Tryz.results58, go_sem]) rfl HF.out
end Go.Proofs.YtopigejgadnkaaaGreatDoor

namespace Go.Proofs.YtopigejgadnkaaaGreatDoor
open Go.RowKit

structure Mx where
  a : Int
  b : Int
  c : Int
  d : Int
def Mx.one : Mx := ⟨1, 0, 0, 1⟩
def Mx.det (m : Mx) : Int := m.a * m.d - m.b * m.c
def Mx.U (m : Mx) : Prop := m.det = 1 ∨ m.det = -1
def Mx.x (m : Mx) (a b : Nat) : Int := m.a * a + m.b * b
def Mx.y (m : Mx) (a b : Nat) : Int := m.c * a + m.d * b
theorem Mx.gcd {m : Mx} (h : m.U) (a b : Nat) : Nat.gcd (mg (m.x a b)) (mg (m.y a b)) = Nat.gcd a b := by
  have i1 : m.det * a = m.d * m.x a b - m.b * m.y a b := by simp only [Mx.det, Mx.x, Mx.y]; grind
  have i2 : m.det * b = m.a * m.y a b - m.c * m.x a b := by simp only [Mx.det, Mx.x, Mx.y]; grind
  have dn : ∀ (g : Nat) (z : Int), (g : Int) ∣ z ↔ g ∣ mg z := fun g z => by unfold mg; exact Int.ofNat_dvd_left
  have back : ∀ (g : Nat) (z : Nat), (g : Int) ∣ m.det * z → g ∣ z := by
    intro g z hz
    rcases h with h | h
    · rw [h, Int.one_mul] at hz; exact Int.natCast_dvd_natCast.1 hz
    · rw [h, Int.neg_mul, Int.one_mul] at hz; exact Int.natCast_dvd_natCast.1 (Int.dvd_neg.1 hz)
  apply Nat.dvd_antisymm
  · have h1 : ((Nat.gcd (mg (m.x a b)) (mg (m.y a b)) : Nat) : Int) ∣ m.x a b := (dn _ _).2 (Nat.gcd_dvd_left _ _)
    have h2 : ((Nat.gcd (mg (m.x a b)) (mg (m.y a b)) : Nat) : Int) ∣ m.y a b := (dn _ _).2 (Nat.gcd_dvd_right _ _)
    apply Nat.dvd_gcd
    · apply back; rw [i1]; exact Int.dvd_sub (Int.dvd_mul_of_dvd_right h1) (Int.dvd_mul_of_dvd_right h2)
    · apply back; rw [i2]; exact Int.dvd_sub (Int.dvd_mul_of_dvd_right h2) (Int.dvd_mul_of_dvd_right h1)
  · have h1 : ((Nat.gcd a b : Nat) : Int) ∣ (a : Int) := Int.natCast_dvd_natCast.2 (Nat.gcd_dvd_left _ _)
    have h2 : ((Nat.gcd a b : Nat) : Int) ∣ (b : Int) := Int.natCast_dvd_natCast.2 (Nat.gcd_dvd_right _ _)
    apply Nat.dvd_gcd
    · exact (dn _ _).1 (Int.dvd_add (Int.dvd_mul_of_dvd_right h1) (Int.dvd_mul_of_dvd_right h2))
    · exact (dn _ _).1 (Int.dvd_add (Int.dvd_mul_of_dvd_right h1) (Int.dvd_mul_of_dvd_right h2))
def Mx.sz (m : Mx) (k : Nat) : Prop := nl (mg m.a) ≤ k ∧ nl (mg m.b) ≤ k ∧ nl (mg m.c) ≤ k ∧ nl (mg m.d) ≤ k
theorem Mx.sz.mono {m : Mx} {k l : Nat} (h : m.sz k) (hl : k ≤ l) : m.sz l := ⟨Nat.le_trans h.1 hl, Nat.le_trans h.2.1 hl, Nat.le_trans h.2.2.1 hl, Nat.le_trans h.2.2.2 hl⟩
theorem mg_sub_le (x y : Int) : mg (x - y) ≤ mg x + mg y := Int.natAbs_sub_le x y
theorem nl_isub (x y : Int) : nl (mg (x - y)) ≤ max (nl (mg x)) (nl (mg y)) + 1 := Nat.le_trans (nl_mono (mg_sub_le x y)) (nl_add _ _)
theorem nl_imul (x y : Int) : nl (mg (x * y)) ≤ nl (mg x) + nl (mg y) := by rw [mg_mul]; exact nl_mul _ _


end Go.Proofs.YtopigejgadnkaaaGreatDoor

namespace Go.Proofs.YtopigejgadnkaaaGreatDoor
open Go.RowKit Go.Shelf
attribute [local go_sem] max2_i min2_i max_two min_two

theorem isub_c (aA : Option Addr) (ac : Nat) (a : Int) (bA : Option Addr) (bc : Nat) (b : Int) (w : World) (ha : NatV w aA ac (mg a)) (hb : NatV w bA bc (mg b)) (la : nl (mg a) ≤ 1048576) (lb : nl (mg b) ≤ 1048576) :
    Calls Tryz.prog 96 #[.agg #[.bool (sg a), .slice aA (nl (mg a)) ac], .agg #[.bool (sg b), .slice bA (nl (mg b)) bc]] w (RetI w (a - b)) := by
  obtain ⟨hb1, Ra, Rb, Rr⟩ := bx3 w #[.bool (sg a), .slice aA (nl (mg a)) ac] 24 #[.bool (sg b), .slice bA (nl (mg b)) bc] 24 #[.bool false, .slice none 0 0] 24
  replace ha := ha.below hb1
  replace hb := hb.below hb1
  have HBT := hb1
  clear hb1
  have qa0 := Ra.c (i := 0) rfl
  have qa1 := Ra.c (i := 1) rfl
  have qb0 := Rb.c (i := 0) rfl
  have qb1 := Rb.c (i := 1) rfl
  have qr0 := Rr.c (i := 0) rfl
  have qr1 := Rr.c (i := 1) rfl
  go_enter Tryz.func96, Tryz.ntmps96
  go_wp2_with (fail)
  have hd2 := drb ((((w.alloc (.cells #[.bool (sg a), .slice aA (nl (mg a)) ac] 24)).alloc (.cells #[.bool (sg b), .slice bA (nl (mg b)) bc] 24)).alloc (.cells #[.bool false, .slice none 0 0] 24)))
  replace ha := ha.below hd2
  replace hb := hb.below hd2
  replace Ra := Ra.below hd2
  replace qa0 := cbl hd2 qa0
  replace qa1 := cbl hd2 qa1
  replace Rb := Rb.below hd2
  replace qb0 := cbl hd2 qb0
  replace qb1 := cbl hd2 qb1
  replace Rr := Rr.below hd2
  replace qr0 := cbl hd2 qr0
  replace qr1 := cbl hd2 qr1
  replace HBT := Below.cons HBT hd2
  clear hd2
  obtain ⟨n, En⟩ : ∃ zq : Int, zq = -b := ⟨_, rfl⟩
  have Nn : nl (mg n) ≤ 1048576 := by rw [En, mg_neg]; exact lb
  have C2_0 := fun (W : World) (h1 : NatV W bA bc (mg b)) => ineg_c bA bc b W h1 (by omega)
  simp only [← En] at C2_0
  replace En := Lib.hid En
  replace C2_0 := Lib.hid C2_0
  obtain ⟨z, Ez⟩ : ∃ zq : Int, zq = a + n := ⟨_, rfl⟩
  have C2_1 := fun (W : World) (A : Option Addr) (c : Nat) (h1 : NatV W aA ac (mg a)) (h2 : NatV W A c (mg n)) => iadd_c aA ac a A c n W h1 h2 (by omega) (by omega)
  simp only [← Ez] at C2_1
  replace Ez := Lib.hid Ez
  replace C2_1 := Lib.hid C2_1
  go_region_held3 (fun W => W.cell? ⟨w.heap.size, 0, none⟩ = some (.bool (sg a)) ∧ W.cell? ⟨w.heap.size, 1, none⟩ = some (.slice aA (nl (mg a)) ac) ∧ W.cell? ⟨(w.heap.size + 1), 0, none⟩ = some (.bool (sg b)) ∧ W.cell? ⟨(w.heap.size + 1), 1, none⟩ = some (.slice bA (nl (mg b)) bc))
    (first
      | exact ⟨qa0, qa1, qb0, qb1⟩
      | exact ⟨qa0_3, qa1_3, qb0_3, qb1_3⟩
      | exact ⟨qa0_4, qa1_4, qb0_4, qb1_4⟩
      | exact ⟨((Ra_4.other2 (by simp <;> omega)).c (i := 0) rfl), ((Ra_4.other2 (by simp <;> omega)).c (i := 1) rfl), ((Rb_4.other2 (by simp <;> omega)).c (i := 0) rfl), ((Rb_4.other2 (by simp <;> omega)).c (i := 1) rfl)⟩
      | go_keep)
    (first
      | (go_at_call 52; (with_reducible refine (C2_0.out _ hb).mono ?_); rintro e W3 ⟨Xn, cn, rfl, hn, hb3⟩; have ha_3 := ha.below hb3; have hb_3 := hb.below hb3; have Ra_3 := Ra.below hb3; have qa0_3 := cbl hb3 qa0; have qa1_3 := cbl hb3 qa1; have Rb_3 := Rb.below hb3; have qb0_3 := cbl hb3 qb0; have qb1_3 := cbl hb3 qb1; have Rr_3 := Rr.below hb3; have qr0_3 := cbl hb3 qr0; have qr1_3 := cbl hb3 qr1; have HBT_3 := Below.cons HBT hb3)
      | (go_at_call 57; (with_reducible refine (C2_1.out _ _ _ ha_3 hn).mono ?_); rintro e W4 ⟨Xz, cz, rfl, hz, hb4⟩; have ha_4 := ha_3.below hb4; have hb_4 := hb_3.below hb4; have Ra_4 := Ra_3.below hb4; have qa0_4 := cbl hb4 qa0_3; have qa1_4 := cbl hb4 qa1_3; have Rb_4 := Rb_3.below hb4; have qb0_4 := cbl hb4 qb0_3; have qb1_4 := cbl hb4 qb1_3; have Rr_4 := Rr_3.below hb4; have qr0_4 := cbl hb4 qr0_3; have qr1_4 := cbl hb4 qr1_3; have hn_4 := hn.below hb4; have HBT_4 := Below.cons HBT_3 hb4; have fz0 := Rr_4.f (i := 0); have fz1 := Rr_4.f (i := 1)))
  all_goals (try go_wp2_with (fail))
  have hzz : z = a - b := by rw [Ez.out, En.out]; omega
  subst hzz
  have RS := Rr_4.store2 (.bool (sg ((a - b)))) (.slice Xz (nl (mg ((a - b)))) cz)
  have e0 := RS.c (i := 0) rfl
  have e1 := RS.c (i := 1) rfl
  refine bodyPost_ret (v := .agg #[.bool (sg ((a - b))), .slice Xz (nl (mg ((a - b)))) cz]) (by simp [results, Tryz.results96, go_sem, e0, e1]) rfl ?_
  exact ⟨Xz, cz, rfl, (Rr_4.keep2 (nuB rfl) hz), (Below.store2 HBT_4 (by first | exact Nat.le_refl _ | omega))⟩
end Go.Proofs.YtopigejgadnkaaaGreatDoor

namespace Go.Proofs.YtopigejgadnkaaaGreatDoor
open Go.RowKit Go.Shelf

structure Kn where
  R : Value → World → Prop
  keep : ∀ (u : Value) (W W' : World), Below W.heap.size W W' → R u W → R u W'
def Kn.val (v : Value) : Kn := ⟨fun u _ => u = v, fun _ _ _ _ h => h⟩
def Kn.nat (n : Nat) : Kn := ⟨fun u w => ∃ X c, u = .slice X (nl n) c ∧ NatV w X c n, fun _ _ _ hb ⟨X, c, h1, h2⟩ => ⟨X, c, h1, h2.below hb⟩⟩
def Kn.int (z : Int) : Kn := ⟨fun u w => ∃ X c, u = .agg #[.bool (sg z), .slice X (nl (mg z)) c] ∧ NatV w X c (mg z), fun _ _ _ hb ⟨X, c, h1, h2⟩ => ⟨X, c, h1, h2.below hb⟩⟩
def Kn.rat (q : Rat) : Kn := ⟨fun u w => ∃ X c Y d, u = .agg #[.bool (sg q.num), .slice X (nl (mg q.num)) c, .slice Y (nl q.den) d] ∧ NatV w X c (mg q.num) ∧ NatV w Y d q.den, fun _ _ _ hb ⟨X, c, Y, d, h1, h2, h3⟩ => ⟨X, c, Y, d, h1, h2.below hb, h3.below hb⟩⟩
def Kn.dyad (q : Rat) : Kn := ⟨fun u w => ∃ X c, u = .agg #[.bool (sg (dmn q)), .slice X (nl (mg (dmn q))) c, .int .i64 (dex q)] ∧ NatV w X c (mg (dmn q)), fun _ _ _ hb ⟨X, c, h1, h2⟩ => ⟨X, c, h1, h2.below hb⟩⟩
def Kn.box (t : TypeId) (n0 : Nat) (vs : Array Value) : Kn := ⟨fun u w => ∃ nb, u = .pointer (some ⟨nb, 0, none⟩) ∧ n0 ≤ nb ∧ BoxA w nb t vs, fun _ _ _ hb ⟨nb, h1, h2, h3⟩ => ⟨nb, h1, h2, h3.below hb⟩⟩
def knAt (ks : List Kn) (i : Nat) : Kn := ks.getD i (.val undef)
def dstsOk (ops : List Oper) (n : Nat) : Bool := ops.all (fun o => match o.dst with | some k => decide (k < n) | none => false) && decide ((ops.map (fun o => o.dst.getD 0)).Nodup)
structure NSt (ops : Array Oper) (n : Nat) (a0 : Act) (w0 : World) (ks : List Kn) (E : Nat → Bool) (a : Act) (w : World) : Prop where
  d : a.defers = a0.defers
  z : a.tmps.size = a0.tmps.size
  old : ∀ k, ((ops.toList.take n).all (fun o => o.dst != some k)) = true → a.tmps[k]? = a0.tmps[k]?
  new : ∀ i k, i < n → ((ops.toList[i]?).bind (fun o => o.dst)) = some k → E i = true → ∃ v, a.tmps[k]? = some v ∧ (knAt ks i).R v w
  b : Below w0.heap.size w0 w
def NStep (P : Program) (ops : Array Oper) (n : Nat) (Q : Exit → Act → World → Prop) (a0 : Act) (w0 : World) (ks : List Kn) (i : Nat) (o : Oper) : Prop :=
  ∀ E a w, NSt ops n a0 w0 ks E a w → (∀ e ∈ o.after, Region.binds .any e = true → E e.on = true) → wpOp P ops Q i (fun a' w' => ∃ v, a' = a.put o.dst v ∧ (knAt ks i).R v w' ∧ Below w.heap.size w w') a w
def NSteps (P : Program) (ops : Array Oper) (n : Nat) (Q : Exit → Act → World → Prop) (a0 : Act) (w0 : World) (ks : List Kn) : Nat → List Oper → Prop
  | _, [] => True
  | i, o :: r => NStep P ops n Q a0 w0 ks i o ∧ NSteps P ops n Q a0 w0 ks (i + 1) r
theorem nsteps_get {P : Program} {ops : Array Oper} {n : Nat} {Q : Exit → Act → World → Prop} {a0 : Act} {w0 : World} {ks : List Kn} : ∀ (l : List Oper) (b : Nat), NSteps P ops n Q a0 w0 ks b l → ∀ (j : Nat) (o : Oper), l[j]? = some o → NStep P ops n Q a0 w0 ks (b + j) o
  | [], b, h, j, o, ho => by simp at ho
  | x :: r, b, h, j, o, ho => by
    cases j with
    | zero => simp at ho; subst ho; exact h.1
    | succ j =>
      have := nsteps_get r (b + 1) h.2 j o (by simpa using ho)
      rw [show b + (j + 1) = b + 1 + j by omega]; exact this
theorem nodupGet : ∀ (l : List Nat), l.Nodup → ∀ (i j x : Nat), l[i]? = some x → l[j]? = some x → i = j
  | [], _, i, j, x, hi, _ => by simp at hi
  | y :: r, h, i, j, x, hi, hj => by
    rw [List.nodup_cons] at h
    cases i with
    | zero =>
      simp at hi
      cases j with
      | zero => rfl
      | succ j => simp at hj; exact absurd (List.mem_of_getElem? hj) (by rw [← hi]; exact h.1)
    | succ i =>
      simp at hi
      cases j with
      | zero => simp at hj; exact absurd (List.mem_of_getElem? hi) (by rw [← hj]; exact h.1)
      | succ j => simp at hj; rw [nodupGet r h.2 i j x hi hj]
def depsOf (ops : Array Oper) (i : Nat) : List Nat := match ops[i]? with
  | none => []
  | some o => (o.after.toList.filter (Region.binds .any)).map (fun e => e.on)
def reachB (ops : Array Oper) : Nat → List Nat → List Nat
  | 0, S => S
  | f + 1, S => reachB ops f ((S ++ S.flatMap (depsOf ops)).eraseDups)
def Closed (ops : Array Oper) (E : Nat → Bool) : Prop := ∀ i, E i = true → ∀ k ∈ depsOf ops i, E k = true
theorem closed_reach {ops : Array Oper} {E : Nat → Bool} (h : Closed ops E) : ∀ (f : Nat) (S : List Nat), (∀ k ∈ S, E k = true) → ∀ k ∈ reachB ops f S, E k = true
  | 0, S, hS, k, hk => hS k hk
  | f + 1, S, hS, k, hk => by
    refine closed_reach h f _ (fun j hj => ?_) k hk
    rw [List.mem_eraseDups, List.mem_append, List.mem_flatMap] at hj
    rcases hj with hj | ⟨i, hi, hj⟩
    · exact hS j hj
    · exact h i (hS i hi) j hj
def tailOk (ops : Array Oper) (n f : Nat) : Bool := (List.range ops.size).all (fun t => decide (t < n) || (List.range t).all (fun k => (reachB ops f (depsOf ops t)).contains k))
def TailP (P : Program) (ops : Array Oper) (Q : Exit → Act → World → Prop) : List Nat → Act → World → Prop
  | [], a, w => Q .normal a w
  | i :: p, a, w => wpOp P ops Q i (fun a' w' => TailP P ops Q p a' w') a w
def upTo (i : Nat) : Nat → List Nat
  | 0 => []
  | m + 1 => i :: upTo (i + 1) m
theorem wp_region_last {P : Program} {ops : Array Oper} {Q : Exit → Act → World → Prop} {id : Nat} {a0 : Act} {w0 : World} (n m : Nat) (ks : List Kn) (hm : P.follows .mixedOrders = true)
    (hd : edgesDown ops = true) (hz : ops.size = n + m) (hn : dstsOk (ops.toList.take n) a0.tmps.size = true) (ht : tailOk ops n ops.size = true)
    (hs : NSteps P ops n Q a0 w0 ks 0 (ops.toList.take n))
    (hq : ∀ a w, NSt ops n a0 w0 ks (fun _ => true) a w → TailP P ops Q (upTo n m) a w) : (Code.region id ops true).wp P Q a0 w0 := by
  unfold dstsOk at hn
  rw [Bool.and_eq_true] at hn
  obtain ⟨hn1, hn2⟩ := hn
  have hn2 := of_decide_eq_true hn2
  have hget : ∀ (i : Nat), i < n → (ops.toList.take n)[i]? = ops.toList[i]? := fun i hi => List.getElem?_take_of_lt hi
  have hdst : ∀ (i : Nat) (o : Oper), i < n → ops.toList[i]? = some o → ∃ k, o.dst = some k ∧ k < a0.tmps.size := by
    intro i o hi ho
    have := List.all_eq_true.1 hn1 o (List.mem_of_getElem? ((hget i hi).trans ho))
    split at this
    · rename_i k hk; exact ⟨k, hk, of_decide_eq_true this⟩
    · cases this
  have huniq : ∀ (i j : Nat) (o o' : Oper) (k : Nat), i < n → j < n → ops.toList[i]? = some o → ops.toList[j]? = some o' → o.dst = some k → o'.dst = some k → i = j := by
    intro i j o o' k hin hjn hi hj h1 h2
    refine nodupGet _ hn2 i j k ?_ ?_
    · rw [List.getElem?_map, hget i hin, hi]; simp [h1]
    · rw [List.getElem?_map, hget j hjn, hj]; simp [h2]
  have hdeps : ∀ (i : Nat) (o : Oper), ops[i]? = some o → ∀ k, k ∈ depsOf ops i ↔ ∃ e ∈ o.after, Region.binds .any e = true ∧ e.on = k := by
    intro i o ho k
    unfold depsOf
    rw [ho]
    simp only [List.mem_map, List.mem_filter, Array.mem_toList_iff]
    constructor
    · rintro ⟨e, ⟨h1, h2⟩, h3⟩; exact ⟨e, h1, h2, h3⟩
    · rintro ⟨e, h1, h2, h3⟩; exact ⟨e, ⟨h1, h2⟩, h3⟩
  refine wp_region_inv (fun E a w => (∀ i, E i = true → i < ops.size) ∧ Closed ops E ∧ (((∀ i, n ≤ i → E i = false) ∧ NSt ops n a0 w0 ks E a w) ∨ (∃ r, r ≤ m ∧ (∀ i, E i = decide (i < n + r)) ∧ TailP P ops Q (upTo (n + r) (m - r)) a w))) hm hd ?_ ?_ ?_
  · exact ⟨fun i h => (Bool.noConfusion h), fun i h => (Bool.noConfusion h), .inl ⟨fun _ _ => rfl, ⟨rfl, rfl, fun _ _ => rfl, fun i k _ _ h => (Bool.noConfusion h), (Below.refl _ _).drew⟩⟩⟩
  · rintro E a w ⟨hlt, hcl, h⟩ hall
    rcases h with ⟨h1, st⟩ | ⟨r, hr, hE, hT⟩
    · have hm0 : m = 0 := by
        rcases Nat.eq_zero_or_pos m with h0 | h0
        · exact h0
        · have := hall n (by omega); rw [h1 n (Nat.le_refl _)] at this; cases this
      subst hm0
      exact hq a w ⟨st.d, st.z, st.old, fun i k hi hk _ => st.new i k hi hk (hall i (by omega)), st.b⟩
    · have hrm : r = m := by
        rcases Nat.lt_or_ge r m with h0 | h0
        · have := hall (n + r) (by omega); rw [hE] at this; simp at this
        · omega
      subst hrm
      rw [Nat.sub_self] at hT
      exact hT
  · rintro E a w i ⟨hlt, hcl, h⟩ hi hEi hdep
    obtain ⟨o, ho⟩ : ∃ o, ops[i]? = some o := ⟨ops[i], Array.getElem?_eq_getElem hi⟩
    have hol : ops.toList[i]? = some o := by rw [Array.getElem?_toList]; exact ho
    have hdi : ∀ k ∈ depsOf ops i, E k = true := fun k hk => by
      obtain ⟨e, h1, h2, h3⟩ := (hdeps i o ho k).1 hk
      rw [← h3]; exact hdep o ho e h1 h2
    have hcl' : Closed ops (fun k => if k = i then true else E k) := by
      intro j hj k hk
      by_cases e : k = i
      · simp [e]
      · simp only [if_neg e]
        by_cases e2 : j = i
        · subst e2; exact hdi k hk
        · simp only [if_neg e2] at hj; exact hcl j hj k hk
    have hlt' : ∀ j, (if j = i then true else E j) = true → j < ops.size := by
      intro j hj
      by_cases e : j = i
      · rw [e]; exact hi
      · simp only [if_neg e] at hj; exact hlt j hj
    rcases h with ⟨h1, st⟩ | ⟨r, hr, hE, hT⟩
    · rcases Nat.lt_or_ge i n with hin | hin
      · have hstep := nsteps_get _ 0 hs i o ((hget i hin).trans hol)
        rw [Nat.zero_add] at hstep
        obtain ⟨k, hk, hkz⟩ := hdst i o hin hol
        refine wpOp_mono ?_ (hstep E a w st (hdep o ho))
        rintro a' w' ⟨v, rfl, hv, hb⟩
        rw [hk]
        refine ⟨hlt', hcl', .inl ⟨fun j hj => by show (if j = i then true else E j) = false; rw [if_neg (by omega)]; exact h1 j hj, ⟨st.d, ?_, ?_, ?_, st.b.cons hb⟩⟩⟩
        · simp only [Act.put, Array.size_setIfInBounds]; exact st.z
        · intro j hj
          have hne : j ≠ k := fun e => by
            have := List.all_eq_true.1 hj o (List.mem_of_getElem? ((hget i hin).trans hol))
            rw [hk, e] at this
            simp at this
          simp only [Act.put]
          rw [Array.getElem?_setIfInBounds_ne (Ne.symm hne)]
          exact st.old j hj
        · intro j kj hjn hj hEj
          by_cases e : j = i
          · subst e
            rw [hol] at hj
            simp only [Option.bind_some] at hj
            rw [hk] at hj; cases hj
            exact ⟨v, by simp only [Act.put]; rw [Array.getElem?_setIfInBounds_self]; rw [if_pos (by rw [st.z]; exact hkz)], hv⟩
          · simp only [if_neg e] at hEj
            obtain ⟨u, g1, g2⟩ := st.new j kj hjn hj hEj
            obtain ⟨oj, hoj, hkj⟩ : ∃ oj, ops.toList[j]? = some oj ∧ oj.dst = some kj := by
              cases h : ops.toList[j]? with
              | none => rw [h] at hj; cases hj
              | some oj => rw [h] at hj; exact ⟨oj, rfl, hj⟩
            have hne : k ≠ kj := fun e2 => e (huniq j i oj o kj hjn hin hoj hol hkj (by rw [hk, e2]))
            exact ⟨u, by simp only [Act.put]; rw [Array.getElem?_setIfInBounds_ne hne]; exact g1, Kn.keep _ _ _ _ hb g2⟩
      · -- the first of the last ones
        have hall : ∀ k, k < i → E k = true := by
          intro k hk
          have h2 := List.all_eq_true.1 ht i (List.mem_range.2 hi)
          rw [Bool.or_eq_true] at h2
          rcases h2 with h2 | h2
          · have := of_decide_eq_true h2; omega
          · have h3 := List.all_eq_true.1 h2 k (List.mem_range.2 hk)
            exact closed_reach hcl _ _ hdi k (by simpa using h3)
        have hin2 : i = n := by
          rcases Nat.lt_or_ge n i with h2 | h2
          · have := hall n h2; rw [h1 n (Nat.le_refl _)] at this; cases this
          · omega
        subst hin2
        obtain ⟨m', rfl⟩ : ∃ m', m = m' + 1 := ⟨m - 1, by omega⟩
        have hT := hq a w ⟨st.d, st.z, st.old, fun j k hj hk _ => st.new j k hj hk (hall j hj), st.b⟩
        refine wpOp_mono ?_ hT
        intro a' w' h2
        refine ⟨hlt', hcl', .inr ⟨1, by omega, fun j => ?_, by simpa [upTo] using h2⟩⟩
        by_cases e : j = i
        · simp [e]
        · show (if j = i then true else E j) = _
          rw [if_neg e]
          rcases Nat.lt_or_ge j i with h3 | h3
          · rw [hall j h3]; simp; omega
          · rw [h1 j h3]; simp; omega
    · have hin2 : i = n + r := by
        have hi1 : n + r ≤ i := by
          rcases Nat.lt_or_ge i (n + r) with h2 | h2
          · rw [hE i] at hEi; simp at hEi; omega
          · exact h2
        rcases Nat.lt_or_ge (n + r) i with h2 | h2
        · have h2' := List.all_eq_true.1 ht i (List.mem_range.2 hi)
          rw [Bool.or_eq_true] at h2'
          rcases h2' with h3 | h3
          · have := of_decide_eq_true h3; omega
          · have h4 := List.all_eq_true.1 h3 (n + r) (List.mem_range.2 h2)
            have := closed_reach hcl _ _ hdi (n + r) (by simpa using h4)
            rw [hE] at this; simp at this
        · omega
      subst hin2
      obtain ⟨q, hq'⟩ : ∃ q, m - r = q + 1 := ⟨m - r - 1, by omega⟩
      rw [hq'] at hT
      refine wpOp_mono ?_ hT
      intro a' w' h2
      refine ⟨hlt', hcl', .inr ⟨r + 1, by omega, fun j => ?_, ?_⟩⟩
      · by_cases e : j = n + r
        · simp [e]
        · show (if j = n + r then true else E j) = _
          rw [if_neg e, hE j]; simp; omega
      · rw [show m - (r + 1) = q by omega]; exact h2
def RAll (w : World) : List Kn → List Value → Prop
  | k :: ks, v :: vs => k.R v w ∧ RAll w ks vs
  | [], [] => True
  | _, _ => False
theorem RAll.un {w : World} {k : Kn} {ks : List Kn} {vs : List Value} (h : RAll w (k :: ks) vs) : ∃ v r, vs = v :: r ∧ k.R v w ∧ RAll w ks r := by
  cases vs with
  | nil => exact h.elim
  | cons v r => exact ⟨v, r, rfl, h.1, h.2⟩
theorem RAll.nil {w : World} {vs : List Value} (h : RAll w [] vs) : vs = [] := by
  cases vs with
  | nil => rfl
  | cons v r => exact h.elim
def putAll (a : Act) : List Oper → List Value → Act
  | o :: r, v :: vs => putAll (a.put o.dst v) r vs
  | _, _ => a
theorem putAll_defers : ∀ (l : List Oper) (vs : List Value) (a : Act), (putAll a l vs).defers = a.defers
  | [], vs, a => by cases vs <;> rfl
  | o :: r, [], a => rfl
  | o :: r, v :: vs, a => by
    rw [putAll, putAll_defers r vs]
    unfold Act.put
    split <;> rfl
theorem putAll_old : ∀ (l : List Oper) (vs : List Value) (a : Act) (k : Nat), (∀ o ∈ l, o.dst ≠ some k) → (putAll a l vs).tmps[k]? = a.tmps[k]?
  | [], vs, a, k, _ => by cases vs <;> rfl
  | o :: r, [], a, k, _ => rfl
  | o :: r, v :: vs, a, k, h => by
    rw [putAll, putAll_old r vs _ k (fun o' ho => h o' (List.mem_cons_of_mem _ ho))]
    have hne := h o (List.mem_cons_self ..)
    unfold Act.put
    split
    · rename_i j hj
      have : j ≠ k := fun e => hne (by rw [hj, e])
      simp only
      rw [Array.getElem?_setIfInBounds_ne this]
    · rfl
theorem putAll_new : ∀ (l : List Oper) (vs : List Value) (a : Act) (i k : Nat) (v : Value), l.length = vs.length → (l.map (fun o => o.dst.getD 0)).Nodup → (∀ o ∈ l, ∃ j, o.dst = some j ∧ j < a.tmps.size) → (l[i]?).bind (fun o => o.dst) = some k → vs[i]? = some v → (putAll a l vs).tmps[k]? = some v
  | [], vs, a, i, k, v, _, _, _, h, _ => by simp at h
  | o :: r, [], a, i, k, v, hl, _, _, _, _ => by simp at hl
  | o :: r, x :: vs, a, i, k, v, hl, hn, hd, hi, hv => by
    rw [List.map_cons, List.nodup_cons] at hn
    obtain ⟨j, hj, hjz⟩ := hd o (List.mem_cons_self ..)
    have hsz : (a.put o.dst x).tmps.size = a.tmps.size := by unfold Act.put; split <;> simp
    cases i with
    | zero =>
      simp at hi hv
      subst hv
      rw [hi] at hj; cases hj
      rw [putAll, putAll_old r vs _ k (fun o' ho e => hn.1 (List.mem_map.2 ⟨o', ho, by rw [e, hi]⟩)), hi]
      simp only [Act.put]
      rw [Array.getElem?_setIfInBounds_self, if_pos hjz]
    | succ i =>
      rw [putAll]
      refine putAll_new r vs _ i k v (by simpa using hl) hn.2 (fun o' ho => ?_) (by simpa using hi) (by simpa using hv)
      rw [hsz]; exact hd o' (List.mem_cons_of_mem _ ho)
theorem rall_of {w : World} : ∀ (ks : List Kn) (vs : List Value), ks.length = vs.length → (∀ (i : Nat) (k : Kn) (v : Value), ks[i]? = some k → vs[i]? = some v → k.R v w) → RAll w ks vs
  | [], [], _, _ => trivial
  | [], v :: vs, h, _ => by simp at h
  | k :: ks, [], h, _ => by simp at h
  | k :: ks, v :: vs, h, g => ⟨g 0 k v rfl rfl, rall_of ks vs (by simpa using h) (fun i k v h1 h2 => g (i + 1) k v (by simpa using h1) (by simpa using h2))⟩
theorem nst_act {ops : Array Oper} {n : Nat} {a0 a : Act} {w0 w : World} {ks : List Kn} (hk : ks.length = n) (hn : n ≤ ops.size) (hd : dstsOk (ops.toList.take n) a0.tmps.size = true) (st : NSt ops n a0 w0 ks (fun _ => true) a w) :
    ∃ vs, RAll w ks vs ∧ a = putAll a0 (ops.toList.take n) vs := by
  unfold dstsOk at hd
  rw [Bool.and_eq_true] at hd
  obtain ⟨hn1, hn2⟩ := hd
  have hn2 := of_decide_eq_true hn2
  have hdst : ∀ o ∈ ops.toList.take n, ∃ k, o.dst = some k ∧ k < a0.tmps.size := by
    intro o ho
    have := List.all_eq_true.1 hn1 o ho
    split at this
    · rename_i k hk; exact ⟨k, hk, of_decide_eq_true this⟩
    · cases this
  have hlen : (ops.toList.take n).length = n := by rw [List.length_take, Array.length_toList]; omega
  obtain ⟨vs, hvs⟩ : ∃ vs, vs = (ops.toList.take n).map (fun o => (a.tmps[o.dst.getD 0]?).getD undef) := ⟨_, rfl⟩
  have hvl : vs.length = n := by rw [hvs, List.length_map, hlen]
  have key : ∀ i o, (ops.toList.take n)[i]? = some o → ∃ k v, i < n ∧ o.dst = some k ∧ a.tmps[k]? = some v ∧ vs[i]? = some v ∧ (knAt ks i).R v w := by
    intro i o ho
    have hin : i < n := by have := (List.getElem?_eq_some_iff.1 ho).1; omega
    obtain ⟨k, hk, _⟩ := hdst o (List.mem_of_getElem? ho)
    have ho' : ops.toList[i]? = some o := by rw [List.getElem?_take_of_lt hin] at ho; exact ho
    obtain ⟨v, h1, h2⟩ := st.new i k hin (by rw [ho']; exact hk) rfl
    exact ⟨k, v, hin, hk, h1, by rw [hvs, List.getElem?_map, ho]; simp [hk, h1], h2⟩
  refine ⟨vs, rall_of ks vs (by omega) (fun i k v h1 h2 => ?_), ?_⟩
  · have hin : i < n := by have := (List.getElem?_eq_some_iff.1 h1).1; omega
    obtain ⟨o, ho⟩ : ∃ o, (ops.toList.take n)[i]? = some o := ⟨_, List.getElem?_eq_getElem (by omega)⟩
    obtain ⟨k', v', _, _, _, g1, g2⟩ := key i o ho
    rw [h2] at g1; cases g1
    have : knAt ks i = k := by unfold knAt; rw [List.getD_eq_getElem?_getD, h1]; rfl
    rw [← this]; exact g2
  · have ht : a.tmps = (putAll a0 (ops.toList.take n) vs).tmps := by
      apply Array.ext_getElem?
      intro k
      by_cases h : ∃ (i : Nat) (o : Oper), (ops.toList.take n)[i]? = some o ∧ o.dst = some k
      · obtain ⟨i, o, h1, h2⟩ := h
        obtain ⟨k', v, _, g1, g2, g3, _⟩ := key i o h1
        rw [h2] at g1; cases g1
        rw [g2, putAll_new _ _ _ i k v (by omega) hn2 hdst (by rw [h1]; exact h2) g3]
      · have hno : ∀ o ∈ ops.toList.take n, o.dst ≠ some k := fun o ho e => by
          obtain ⟨i, hi⟩ := List.mem_iff_getElem?.1 ho
          exact h ⟨i, o, hi, e⟩
        rw [putAll_old _ _ _ k hno]
        exact st.old k (List.all_eq_true.2 (fun o ho => by simpa using hno o ho))
    have hdf : a.defers = (putAll a0 (ops.toList.take n) vs).defers := by rw [putAll_defers]; exact st.d
    cases a
    simp only at ht hdf
    subst ht
    subst hdf
    rfl
theorem wp_region_fin {P : Program} {ops : Array Oper} {Q : Exit → Act → World → Prop} {id : Nat} {a0 : Act} {w0 : World} (n m : Nat) (ks : List Kn) (hm : P.follows .mixedOrders = true)
    (hd : edgesDown ops = true) (hz : ops.size = n + m) (hn : dstsOk (ops.toList.take n) a0.tmps.size = true) (ht : tailOk ops n ops.size = true) (hk : ks.length = n)
    (hs : NSteps P ops n Q a0 w0 ks 0 (ops.toList.take n))
    (hq : ∀ vs w, RAll w ks vs → Below w0.heap.size w0 w → TailP P ops Q (upTo n m) (putAll a0 (ops.toList.take n) vs) w) : (Code.region id ops true).wp P Q a0 w0 := by
  refine wp_region_last n m ks hm hd hz hn ht hs (fun a w st => ?_)
  obtain ⟨vs, h1, rfl⟩ := nst_act hk (by omega) hn st
  exact hq vs w h1 st.b
theorem op_want {P : Program} {ops : Array Oper} {Q : Exit → Act → World → Prop} {i : Nat} {o : Oper} {a : Act} {w : World} {K : Act → World → Prop} (ho : ops.toList[i]? = some o) (hw : Region.wanted o (yielded ops a.tmps) = true)
    (h : ∀ K' : Act → World → Prop, Shut (∀ a w, K a w → K' a w) → Oper.wp P o a w K' Q) : wpOp P ops Q i K a w := by
  unfold wpOp
  rw [show ops[i]? = some o by rw [← Array.getElem?_toList]; exact ho]
  simp only [hw, if_true]
  exact .inl (h _ (fun a w h => h))
theorem TailP.one {P : Program} {ops : Array Oper} {Q : Exit → Act → World → Prop} {i : Nat} {p : List Nat} {o : Oper} {a : Act} {w : World} (ho : ops.toList[i]? = some o) (hw : Region.wanted o (yielded ops a.tmps) = true)
    (h : ∀ K' : Act → World → Prop, Shut (∀ a w, TailP P ops Q p a w → K' a w) → Oper.wp P o a w K' Q) : TailP P ops Q (i :: p) a w := op_want ho hw h
theorem TailP.done {P : Program} {ops : Array Oper} {Q : Exit → Act → World → Prop} {a : Act} {w : World} (h : Q .normal a w) : TailP P ops Q [] a w := h
theorem dep_on {o : Oper} {E : Nat → Bool} (h : ∀ e ∈ o.after, Region.binds .any e = true → E e.on = true) (j : Nat) (hj : o.after.toList.any (fun e => e.on == j && Region.binds .any e) = true) : E j = true := by
  obtain ⟨e, he, h2⟩ := List.any_eq_true.1 hj
  rw [Bool.and_eq_true] at h2
  have h3 := h e (by simpa using he) h2.2
  rw [beq_iff_eq.1 h2.1] at h3; exact h3
theorem NSt.nw {ops : Array Oper} {n : Nat} {a0 a : Act} {w0 w : World} {ks : List Kn} {E : Nat → Bool} {o : Oper} (st : NSt ops n a0 w0 ks E a w) (h : ∀ e ∈ o.after, Region.binds .any e = true → E e.on = true) (i k : Nat) (h1 : i < n := by decide) (h2 : ((ops.toList[i]?).bind (fun o => o.dst)) = some k := by rfl) (h3 : o.after.toList.any (fun e => e.on == i && Region.binds .any e) = true := by rfl) : ∃ v, a.tmps[k]? = some v ∧ (knAt ks i).R v w := st.new i k h1 h2 (dep_on h i h3)
theorem tmp_of {T : Array Value} {k : Nat} {v : Value} (h : T[k]? = some v) : T.getD k undef = v := by
  rw [Array.getD_eq_getD_getElem?, h]; rfl
end Go.Proofs.YtopigejgadnkaaaGreatDoor

namespace Go.Proofs.YtopigejgadnkaaaGreatDoor
open Go.RowKit Go.Shelf
attribute [local go_sem] max2_i min2_i max_two min_two

theorem diff1_c (i : Nat) (xA : Option Addr) (xc : Nat) (x : Int) (w : World) (hx : NatV w xA xc (mg x)) (hG : Flds w) (lx : nl (mg x) ≤ 16384) (hi1 : i ≤ 1048576) :
    Calls Tryz.prog 59 #[.int .i64 (i : Nat), .agg #[.bool (sg x), .slice xA (nl (mg x)) xc]] w (RetI w (x * ((i : Int) + 1))) := by
  obtain ⟨m, Em⟩ : ∃ m, m = i + 1 := ⟨_, rfl⟩
  have Wi : IntKind.i64.wrap ((i : Int) + 1) = (m : Int) := by rw [show (i : Int) + 1 = (m : Int) by omega]; exact IntWalk.i64_in _ (by omega)
  have hm : m < 9223372036854775808 := by omega
  have Nm0 : nl m ≤ 1 := nl_le.2 (by rw [Nat.pow_one]; omega)
  have Nm : nl (mg (m : Int)) ≤ 1 := by rw [mg_nat]; omega
  have Wm : IntKind.i64.wrap (m : Int) = (m : Int) := IntWalk.i64_in _ (by omega)
  have Im : (i : Int) + 1 = (m : Int) := by omega
  rw [Im]
  replace Em := Lib.hid Em
  obtain ⟨hb1, Rx, Rr⟩ := bx2 w #[.bool (sg x), .slice xA (nl (mg x)) xc] 24 #[.bool false, .slice none 0 0] 24
  replace hx := hx.below hb1
  replace hG := hG.below hb1
  have HBT := hb1
  clear hb1
  have qx0 := Rx.c (i := 0) rfl
  have qx1 := Rx.c (i := 1) rfl
  have qr0 := Rr.c (i := 0) rfl
  have qr1 := Rr.c (i := 1) rfl
  go_enter Tryz.func59, Tryz.ntmps59
  go_wp2_with (fail)
  obtain ⟨z, Ez⟩ : ∃ zq : Int, zq = x * (m : Int) := ⟨_, rfl⟩
  have C1 := fun (W : World) => iof_c m W hm
  have C2 := fun (W : World) (A : Option Addr) (c : Nat) (h1 : NatV W xA xc (mg x)) (h2 : NatV W A c (mg (m : Int))) (hG : Flds W) => imul_c xA xc x A c (m : Int) W h1 h2 hG lx (by omega)
  rw [← Ez] at C2
  replace C1 := Lib.hid C1
  replace C2 := Lib.hid C2
  replace Ez := Lib.hid Ez
  replace hm := Lib.hid hm
  generalize hW0 : ((w.alloc (.cells #[.bool (sg x), .slice xA (nl (mg x)) xc] 24)).alloc (.cells #[.bool false, .slice none 0 0] 24)) = W0 at *
  replace hW0 := Lib.hid hW0
  refine wp_region_fin 5 1 [.val (.agg #[.bool (sg x), .slice xA (nl (mg x)) xc]), .val (.int .i64 (i : Nat)), .val (.int .i64 (m : Nat)), .int ((m : Int)), .int z] (by kernel_rfl) (by kernel_rfl) (by kernel_rfl) (by kernel_rfl) (by kernel_rfl) rfl ?_ ?_
  · skip
    refine ⟨?_, ?_⟩
    · intro Ew aw wc st hdep
      have t3 : aw.tmps[3]? = some (.pointer (some ⟨w.heap.size, 0, none⟩)) := (st.old 3 (by kernel_rfl)).trans (by rfl)
      have qx0 := cbl st.b qx0
      have qx1 := cbl st.b qx1
      have e3 := tmp_of t3
      refine op_want rfl (by rfl) (fun K' hK' => ?_)
      go_simp
      exact hK'.out _ _ ⟨_, rfl, rfl, Below.refl _ _⟩
    refine ⟨?_, ?_⟩
    · intro Ew aw wc st hdep
      have t0 : aw.tmps[0]? = some (.int .i64 (i : Nat)) := (st.old 0 (by kernel_rfl)).trans (by rfl)
      have e0 := tmp_of t0
      refine op_want rfl (by rfl) (fun K' hK' => ?_)
      go_simp
      exact hK'.out _ _ ⟨_, rfl, rfl, Below.refl _ _⟩
    refine ⟨?_, ?_⟩
    · intro Ew aw wc st hdep
      obtain ⟨v6, t6, r6⟩ := st.nw hdep 1 6
      obtain rfl : v6 = .int .i64 (i : Nat) := r6
      have e6 := tmp_of t6
      refine op_want rfl (by rfl) (fun K' hK' => ?_)
      go_simp
      exact hK'.out _ _ ⟨_, rfl, rfl, Below.refl _ _⟩
    refine ⟨?_, ?_⟩
    · intro Ew aw wc st hdep
      obtain ⟨v7, t7, r7⟩ := st.nw hdep 2 7
      obtain rfl : v7 = .int .i64 (m : Nat) := r7
      have e7 := tmp_of t7
      refine op_want rfl (by rfl) (fun K' hK' => ?_)
      go_simp
      refine (Calls.mono (R := RetI wc ((m : Int))) (C1.out wc) ?_)
      rintro e W ⟨X, c, rfl, hX, kb⟩
      exact hK'.out _ _ ⟨_, rfl, ⟨X, c, rfl, hX⟩, kb⟩
    refine ⟨?_, ?_⟩
    · intro Ew aw wc st hdep
      obtain ⟨v5, t5, r5⟩ := st.nw hdep 0 5
      obtain rfl : v5 = .agg #[.bool (sg x), .slice xA (nl (mg x)) xc] := r5
      obtain ⟨v8, t8, r8⟩ := st.nw hdep 3 8
      obtain ⟨X8, c8, rfl, h8⟩ := r8
      have e5 := tmp_of t5
      have e8 := tmp_of t8
      refine op_want rfl (by rfl) (fun K' hK' => ?_)
      go_simp
      refine (Calls.mono (R := RetI wc z) (C2.out wc _ _ (hx.below st.b) h8 (hG.below st.b)) ?_)
      rintro e W ⟨X, c, rfl, hX, kb⟩
      exact hK'.out _ _ ⟨_, rfl, ⟨X, c, rfl, hX⟩, kb⟩
    exact trivial
  intro vs wc hr hB
  obtain ⟨u5, r_5, rfl, k5, hr_5⟩ := hr.un
  obtain rfl : u5 = .agg #[.bool (sg x), .slice xA (nl (mg x)) xc] := k5
  obtain ⟨u6, r_6, rfl, k6, hr_6⟩ := hr_5.un
  obtain rfl : u6 = .int .i64 (i : Nat) := k6
  obtain ⟨u7, r_7, rfl, k7, hr_7⟩ := hr_6.un
  obtain rfl : u7 = .int .i64 (m : Nat) := k7
  obtain ⟨u8, r_8, rfl, k8, hr_8⟩ := hr_7.un
  obtain ⟨X8, c8, rfl, h8⟩ := k8
  obtain ⟨u9, r_9, rfl, k9, hr_9⟩ := hr_8.un
  obtain ⟨X9, c9, rfl, h9⟩ := k9
  obtain rfl := hr_9.nil
  clear hr hr_5 hr_6 hr_7 hr_8 hr_9
  replace hx := hx.below hB
  replace hG := hG.below hB
  replace Rx := Rx.below hB
  replace qx0 := cbl hB qx0
  replace qx1 := cbl hB qx1
  replace Rr := Rr.below hB
  replace qr0 := cbl hB qr0
  replace qr1 := cbl hB qr1
  replace HBT := Below.cons HBT hB
  clear hB
  simp only [upTo, List.take_succ_cons, List.take_zero, putAll, Act.put, List.setIfInBounds_toArray, List.set_cons_zero, List.set_cons_succ]
  clear hx
  clear hG
  clear qx0
  clear qx1
  clear Rx
  have fzr0 := Rr.f (i := 0)
  have fzr1 := Rr.f (i := 1)
  refine TailP.one rfl (by rfl) (fun K' hK' => ?_)
  go_simp
  refine hK'.out _ _ ?_
  try simp only [Act.put, List.setIfInBounds_toArray, List.set_cons_zero, List.set_cons_succ]
  refine TailP.done ?_
  go_wp2_with (fail)
  have hzz : z = (x * (m : Int)) := by exact Ez.out
  subst hzz
  have RS := Rr.store2 (.bool (sg (((x * (m : Int)))))) (.slice X9 (nl (mg (((x * (m : Int)))))) c9)
  have e0 := RS.c (i := 0) rfl
  have e1 := RS.c (i := 1) rfl
  refine bodyPost_ret (v := .agg #[.bool (sg (((x * (m : Int))))), .slice X9 (nl (mg (((x * (m : Int)))))) c9]) (by simp [results, Tryz.results59, go_sem, e0, e1]) rfl ?_
  exact ⟨X9, c9, rfl, (Rr.keep2 (nuB rfl) h9), (Below.store2 HBT (by first | exact Nat.le_refl _ | omega))⟩
theorem deg_c (V : Option Addr) (c n : Nat) (w : World) (hn : n ≤ 1048576) :
    Calls Tryz.prog 62 #[.slice V n c] w fun e w' => e = .returned (.int .i64 ((n : Int) - 1)) ∧ w' = w := by
  have W1 : IntKind.i64.wrap ((n : Int) - 1) = (n : Int) - 1 := IntWalk.i64_in _ (by omega)
  go_enter Tryz.func62, Tryz.ntmps62
  go_wp2_with (fail)
  go_ret
  exact ⟨rfl, rfl⟩
theorem PolV.tail {W : World} {ad : Addr} {c : Nat} {a : Int} {p : List Int} (h : PolV W (some ad) c (a :: p)) : PolV W (some (ad.add 2)) (c - 1) p := by
  refine ⟨fun j hj => ?_, by have := h.l; simp at this; omega, by have := h.m; omega⟩
  obtain ⟨ad', X, d, e, h1, h2, h3⟩ := h.a (j + 1) (by simp; omega)
  cases e
  have hg : gi (a :: p) (j + 1) = gi p j := by simp [gi]
  rw [hg] at h1 h2 h3
  have ha : ad.add ((j + 1) * 2) = (ad.add 2).add (j * 2) := by
    unfold Addr.add
    by_cases h : j = 0
    · subst h; simp
    · rw [if_neg (by omega), if_neg (by omega), if_neg (by omega)]
      simp only [Addr.mk.injEq, true_and, and_true]
      omega
  rw [ha] at h1 h2
  exact ⟨ad.add 2, X, d, rfl, h1, h2, h3⟩
theorem diff_c (V : Option Addr) (c : Nat) (p : List Int) (w : World) (hP : PolV w V c p) (hl : p.length ≤ 1048576) (hG : Flds w) (hp : ∀ j, nl (mg (gi p j)) ≤ 16384) (h0 : 0 < p.length) :
    Calls Tryz.prog 21 #[.slice V p.length c] w (RetFr w (der p)) := by
  cases p with
  | nil => exact absurd h0 (by decide)
  | cons a q =>
    obtain ⟨ad, X, d, rfl, _⟩ := hP.a 0 (by simp)
    have hT := hP.tail
    have hcl := hP.l
    rw [List.length_cons] at hl hcl
    have e1 : der (a :: q) = q.mapIdx (fun i x => x * ((i : Int) + 1)) := rfl
    have CE := each_diff (some (ad.add 2)) (c - 1) q w hT (by omega) (fun i x => x * ((i : Int) + 1)) (fun W i X d hb hi hN => diff1_c i X d (gi q i) W hN (hG.below hb) (by have := hp (i + 1); simpa [gi] using this) (by omega))
    have CE0 := each_diff (some ad) 0 [] w ⟨fun j hj => absurd hj (Nat.not_lt_zero j), Nat.le_refl _, by decide⟩ (by decide) (fun i x => x * ((i : Int) + 1)) (fun W i X d hb hi hN => absurd hi (Nat.not_lt_zero i))
    rw [← e1, show ad.add 2 = ⟨ad.block, ad.off + 2, none⟩ from rfl] at CE
    rw [List.length_cons]
    clear hT hP hp hG h0
    by_cases hc1 : c = 1
    · subst hc1
      have hq : q = [] := List.eq_nil_of_length_eq_zero (by omega)
      subst hq
      clear CE hcl hl e1
      have CE1 : Calls Tryz.prog 58 #[.slice (some ad) 0 0, .func (.func 59) #[] #[]] w (RetFr w []) := CE0
      clear CE0
      replace CE1 := Lib.hid CE1
      simp only [List.length_nil, Nat.zero_add]
      go_enter Tryz.func21, Tryz.ntmps21
      go_wp2_with (fail)
      refine CE1.out.mono ?_
      rintro e W ⟨Y, f, rfl, hY, hf, hb⟩
      go_wp2_with (fail)
      refine bodyPost_ret (v := .slice (some Y) 0 f) (by simp [results, Tryz.results21, go_sem]) rfl ?_
      exact ⟨Y, f, rfl, hY, hf, hb⟩
    · clear CE0
      obtain ⟨n, En⟩ : ∃ n, n = q.length := ⟨_, rfl⟩
      rw [← En] at CE hcl hl
      rw [← En]
      obtain ⟨m, Em⟩ : ∃ m, m = n + 1 := ⟨_, rfl⟩
      obtain ⟨c2, Ec⟩ : ∃ c2, c2 = c - 1 := ⟨_, rfl⟩
      rw [← Em]
      rw [← Ec] at CE
      have t1 : ((m : Int) == 0) = false := ieqF (by omega)
      have t2 : (m == 0) = false := by simp; omega
      have I1 : (m : Int) - 1 = (n : Int) := by omega
      have I2 : m - 1 = n := by omega
      have I3 : c - 1 = c2 := by omega
      have I4 : (c : Int) - 1 = (c2 : Int) := by omega
      have h1m : 1 ≤ m := by omega
      have hmc : m ≤ c := by omega
      have hc2 : ¬ c2 = 0 := by omega
      replace CE := Lib.hid CE
      replace En := Lib.hid En
      replace Em := Lib.hid Em
      replace Ec := Lib.hid Ec
      replace e1 := Lib.hid e1
      clear hl hcl
      go_enter Tryz.func21, Tryz.ntmps21
      go_wp2_with (fail)
      with_reducible refine CE.out.mono ?_
      rintro e W ⟨Y, f, rfl, hY, hf, hb⟩
      go_wp2_with (fail)
      refine bodyPost_ret (v := .slice (some Y) (der (a :: q)).length f) (by simp [results, Tryz.results21, go_sem]) rfl ?_
      exact ⟨Y, f, rfl, hY, hf, hb⟩
end Go.Proofs.YtopigejgadnkaaaGreatDoor
