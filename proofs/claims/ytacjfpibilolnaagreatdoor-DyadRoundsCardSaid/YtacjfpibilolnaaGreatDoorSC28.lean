/- A loop over a function's items, where each item that is handed on holds something of memory. -/
import Derived.Test.YtacjfpibilolnaaGreatDoorSC02
import Derived.RangeFuncFrom
import Derived.RangeFuncBox
import Derived.RangeFuncLeaves
import Derived.Test.YtacjfpibilolnaaGreatDoorSC20
import Derived.Test.YtacjfpibilolnaaGreatDoorSC07
import Derived.RangeFuncNested
import Derived.OwnWalkIn
import Derived.TacticsInMore
import Derived.LoopNIn
import Derived.LoopIn
import Derived.Stop.RegionWithIn
import Derived.Laws.EntriesVeiled
set_option maxRecDepth 100000
set_option maxHeartbeats 4000000
set_option linter.unusedVariables false
set_option linter.unusedSimpArgs false
namespace Go.Proofs.YtacjfpibilolnaaGreatDoor
open Go.RowKit

/-- What a function that hands on items promises (Mv: what it does to variables of its own): each of them holds H when it is handed on, and at the end S (or, where it was stopped, Sp) holds of all that were. -/
def SeqX {α : Type} (F : Fence) (n : Nat) (P : Program) (g : Nat) (lb : Array Value) (encs : α → Array Value) (H : List α → α → World → Prop) (Kp Mv : World → World → Prop) (S Sp : List α → World → Prop) (w : World) : Prop :=
  ∀ (l : Nat) (J Jx : List α → World → Prop) (W : World), Below w.heap.size w W → AbidesFrom W.heap.size J → AbidesFrom W.heap.size Jx → (∀ s A B, J s A → Mv A B → J s B) →
    (∀ pre x W1, J pre W1 → H pre x W1 → YieldAt F (n - 1) P l (encs x) W1 fun e W' =>
      (e = .returned (.bool true) ∧ J (pre ++ [x]) W' ∧ Kp W1 W') ∨ (e = .returned (.bool false) ∧ Jx (pre ++ [x]) W' ∧ Kp W1 W')) →
    J [] W →
    CallsIn F n P g (#[.func (.yield l) #[] #[]] ++ lb) W fun e W' => (∃ v, e = .returned v) ∧ ((∃ xs, S xs W' ∧ J xs W') ∨ (∃ pre, Sp pre W' ∧ Jx pre W'))
/-- How the body of a round may be left. -/
def postX {α : Type} (Kp : World → World → Prop) (I : List α → World → Prop) (Ix : Code → List α → World → Prop) (xs : List α) (W : World) : Exit → Act → World → Prop
  | .normal, _, W' => KeepsOthers W W' ∧ Kp W W' ∧ I xs W'
  | .ret, _, W' => KeepsOthers W W' ∧ Kp W W' ∧ Ix .ret xs W'
  | .exit id, _, W' => KeepsOthers W W' ∧ Kp W W' ∧ Ix (.exit id) xs W'
  | .goto t, _, W' => KeepsOthers W W' ∧ Kp W W' ∧ Ix (.goto t) xs W'
  | .panic _, _, _ => False
  | .outgrown, _, _ => False
theorem wpIn_rangeX {F : Fence} {n : Nat} {P : Program} {α : Type} {g : Operand} {ps : Array Tmp} {assign body : Code} {Q : Exit → Act → World → Prop} {a : Act} {w : World}
    (hro : F.round = none) (h1 : 1 ≤ n) {gf : Nat} {lb : Array Value} (hg : a.eval g = .func (.func gf) #[] lb) (hFg : F.fn gf) (eg : ∀ args w, (callFunc gf args).run P w = .ok (.enter gf args) w)
    {encs : α → Array Value} {H : List α → α → World → Prop} {Kp Mv : World → World → Prop} {S Sp : List α → World → Prop} {w0 : World} (hseq : SeqX F (n - 1) P gf lb encs H Kp Mv S Sp w0)
    (hM : ∀ A B, Mv A B → ∀ k, w.heap.size ≤ k → k < A.heap.size → B.heap[k]? = A.heap[k]?)
    (hKt : ∀ {A B C : World}, Kp A B → Kp B C → Kp A C) (hKb : ∀ (W : World) (l : Nat) (o o' : Obj), w.heap.size ≤ l → W.heap[l]? = some o → o.isCells = false → o.isWalk = false → Kp W (W.putObj l o')) (hb0 : Below w0.heap.size w0 w) (hps : ∀ x, (encs x).size = ps.size)
    (hH : OwnFrom w.heap.size (fun (p : List α × α) W => H p.1 p.2 W)) (hS : OwnFrom w.heap.size S) (hSp : OwnFrom w.heap.size Sp)
    (I : List α → World → Prop) (Ix : Code → List α → World → Prop) (hI : OwnFrom w.heap.size I) (hIx : ∀ c, OwnFrom w.heap.size (Ix c)) (hIM : ∀ s A B, I s A → Mv A B → I s B) (h0 : I [] w) (a₁ : α → Act)
    (hassign : ∀ (l : Nat) (x : α) (W : World) (K : Act → World → Prop), K (a₁ x) W →
      assign.wpIn (F.inRound l) (n - 1 - 1) P (Exit.then K (fun _ _ _ => False)) { tmps := (ps.zip (encs x)).foldl (fun t (p, v) => t.setIfInBounds p v) a.tmps, defers := [] } W)
    (hbody : ∀ (l : Nat) (pre : List α) (x : α) (W : World), I pre W → H pre x W → body.wpIn (F.inRound l) (n - 1 - 1) P (postX Kp I Ix (pre ++ [x]) W) (a₁ x) W)
    (hdone : ∀ (D : Nat) (xs : List α) (W : World), w.heap.size ≤ D → S xs W → I xs W → W.heap[D]? = some (.deferred (some [])) → Q .normal { a with defers := { target := .collected D, args := #[] } :: a.defers } W)
    (hstop : ∀ (D : Nat) (c : Code) (pre : List α) (W : World), w.heap.size ≤ D → Sp pre W → Ix c pre W → W.heap[D]? = some (.deferred (some [])) → c.wpIn F n P Q { a with defers := { target := .collected D, args := #[] } :: a.defers } W) :
    (Code.rangeFunc g ps assign body).wpIn F n P Q a w := by
  refine wpIn_rangeFunc fun fn hfn => ?_
  rw [hro]
  let rec' : LoopState → Option Code → Loop := fun st pe => { state := st, pending := pe, fn, tmps := a.tmps, params := ps, assign, body, defers := w.heap.size }
  obtain ⟨rc, hrc⟩ : ∃ rc : LoopState → Option Code → Loop, rc = rec' := ⟨_, rfl⟩
  obtain ⟨W1, hW1⟩ : ∃ W1, W1 = (w.alloc (.deferred (some []))).alloc (.loop (rc .ready none)) := ⟨_, rfl⟩
  have hz : W1.heap.size = w.heap.size + 2 := by rw [hW1]; simp
  have hL1 : W1.heap[w.heap.size + 1]? = some (.loop (rc .ready none)) := by rw [hW1]; exact at_new (by simp)
  have hK1 : W1.heap[w.heap.size]? = some (.deferred (some [])) := by rw [hW1]; exact at_old (by simp) (at_new rfl)
  have hI1 : I [] W1 := by rw [hW1]; exact hI.alloc _ (hI.alloc _ h0)
  have hb1 : Below w0.heap.size w0 W1 := by
    rw [hW1]; exact hb0.trans ((((Below.refl _ w).alloc (Nat.le_refl _) _).alloc (by simp) _).mono hb0.size)
  refine ⟨w.heap.size + 1, [{ target := .collected w.heap.size, args := #[] }], W1, { target := .fn (.func gf) lb, args := #[.func (.yield (w.heap.size + 1)) #[] #[]] }, W1, gf, #[.func (.yield (w.heap.size + 1)) #[] #[]] ++ lb, W1, ?_, ?_, ?_, ?_, fun _ => h1, ?_⟩
  · rw [hW1, hrc]; exact run_enterLoop_outer _ _ _ _ _
  · simp only [resolve, hg]
    simp [go_sem]
  · intro f' hf'
    simp [Target.leads] at hf'
    subst hf'; exact hFg
  · simp [invoke, go_sem, eg]
  have turn : ∀ {A B : World} {row : Option Nat}, (∀ r, row = some r → W1.heap.size ≤ r ∧ ∃ o : Obj, A.heap[r]? = some o ∧ o.isWalk = true) → (∀ r, row = some r → w.heap.size ≤ r ∧ ∃ o : Obj, A.heap[r]? = some o ∧ o.isCells = false) := fun hr r e => by
    obtain ⟨hB, o, ho, hw⟩ := hr r e
    exact ⟨by omega, o, ho, Obj.not_cells_of_walk hw⟩
  refine (hseq (w.heap.size + 1)
    (fun pre W => I pre W ∧ W.heap[w.heap.size + 1]? = some (.loop (rc .ready none)) ∧ W.heap[w.heap.size]? = some (.deferred (some [])))
    (fun pre W => ∃ c, Ix c pre W ∧ W.heap[w.heap.size + 1]? = some (.loop (rc .done (some c))) ∧ W.heap[w.heap.size]? = some (.deferred (some [])))
    W1 hb1 ?ab1 ?ab2 ?mv ?round ⟨hI1, hL1, hK1⟩).mono ?fin
  case mv =>
    rintro x A B ⟨h1, h2, h3⟩ hm
    exact ⟨hIM x A B h1 hm, (hM A B hm _ (by omega) (Array.getElem?_eq_some_iff.1 h2).1).trans h2, (hM A B hm _ (by omega) (Array.getElem?_eq_some_iff.1 h3).1).trans h3⟩
  case ab1 =>
    rintro x A B row ⟨h1, h2, h3⟩ hg' hr
    exact ⟨hI x A B row h1 hg' (turn (B := B) hr), (grownBy_keeps hg' (fun r e => (hr r e).2) h2 rfl).trans h2, (grownBy_keeps hg' (fun r e => (hr r e).2) h3 rfl).trans h3⟩
  case ab2 =>
    rintro x A B row ⟨c, h1, h2, h3⟩ hg' hr
    exact ⟨c, hIx c x A B row h1 hg' (turn (B := B) hr), (grownBy_keeps hg' (fun r e => (hr r e).2) h2 rfl).trans h2, (grownBy_keeps hg' (fun r e => (hr r e).2) h3 rfl).trans h3⟩
  case round =>
    rintro pre x W ⟨hi, hl, hk⟩ hx
    have hlt : w.heap.size + 1 < W.heap.size := (Array.getElem?_eq_some_iff.1 hl).1
    have hy := run_yield (P := P) (args := encs x) hl (by rw [hrc]; exact hps x)
    rw [hrc] at hy
    refine ⟨fn, _, assign, body, hy, roundIn_of_wpIn hfn (hassign _ x W _ ⟨_, run_beginRound hl (by rw [hrc]), ?_⟩)⟩
    obtain ⟨bz, hbz⟩ : ∃ bz, bz = Obj.loop { rc .ready none with state := .busy } := ⟨_, rfl⟩
    rw [← hbz]
    have hl2 : (W.putObj (w.heap.size + 1) bz).heap[w.heap.size + 1]? = some bz := World.putObj_heap_same hlt
    have hk2 : (W.putObj (w.heap.size + 1) bz).heap[w.heap.size]? = some (.deferred (some [])) := (World.putObj_heap_other (by omega)).trans hk
    have hw2 : Kp W (W.putObj (w.heap.size + 1) bz) := hKb _ _ _ _ (by omega) hl rfl rfl
    refine wpIn_mono (hbody _ pre x _ (hI.putObj _ hi (by omega) hl rfl) (hH.putObj (s := (pre, x)) _ hx (by omega) hl rfl)) ?_
    have out : ∀ (jump : Option Code) (W3 : World), KeepsOthers (W.putObj (w.heap.size + 1) bz) W3 →
        (Instr.endRound (w.heap.size + 1) jump).run P W3 = .ok (.bool jump.isNone) (W3.putObj (w.heap.size + 1) (.loop (rc (if jump.isNone then .ready else .done) jump))) ∧ W3.heap[w.heap.size + 1]? = some bz ∧
        (W3.putObj (w.heap.size + 1) (.loop (rc (if jump.isNone then .ready else .done) jump))).heap[w.heap.size + 1]? = some (.loop (rc (if jump.isNone then .ready else .done) jump)) ∧
        (W3.putObj (w.heap.size + 1) (.loop (rc (if jump.isNone then .ready else .done) jump))).heap[w.heap.size]? = some (.deferred (some [])) := fun jump W3 h3 => by
      have hl3 := h3.same _ _ hl2 (by rw [hbz]; rfl)
      have he := run_endRound (P := P) jump (by rw [hbz] at hl3; exact hl3)
      rw [hrc] at he ⊢
      exact ⟨he, hl3, World.putObj_heap_same (Array.getElem?_eq_some_iff.1 hl3).1, (World.putObj_heap_other (by omega)).trans (h3.same _ _ hk2 rfl)⟩
    have hbc : bz.isCells = false := by rw [hbz]; rfl
    have hbw : bz.isWalk = false := by rw [hbz]; rfl
    have leave : ∀ (c : Code) (W3 : World), KeepsOthers (W.putObj (w.heap.size + 1) bz) W3 → Kp (W.putObj (w.heap.size + 1) bz) W3 → Ix c (pre ++ [x]) W3 → ∃ v w', (Instr.endRound (w.heap.size + 1) (some c)).run P W3 = .ok v w' ∧
        ((Ending.returned v = .returned (.bool true) ∧ (I (pre ++ [x]) w' ∧ w'.heap[w.heap.size + 1]? = some (.loop (rc .ready none)) ∧ w'.heap[w.heap.size]? = some (.deferred (some []))) ∧ Kp W w') ∨
          (Ending.returned v = .returned (.bool false) ∧ (∃ c, Ix c (pre ++ [x]) w' ∧ w'.heap[w.heap.size + 1]? = some (.loop (rc .done (some c))) ∧ w'.heap[w.heap.size]? = some (.deferred (some []))) ∧ Kp W w')) := fun c W3 h3 hk3 hi3 => by
      obtain ⟨hr, hl3, hl4, hk4⟩ := out (some c) W3 h3
      exact ⟨_, _, hr, .inr ⟨rfl, ⟨c, (hIx _).putObj _ hi3 (by omega) hl3 hbc, hl4, hk4⟩, hKt (hKt hw2 hk3) (hKb _ _ _ _ (by omega) hl3 hbc hbw)⟩⟩
    rintro e a3 W3 hp
    cases e with
    | normal =>
      obtain ⟨h3, hk3, hi3⟩ := hp
      obtain ⟨hr, hl3, hl4, hk4⟩ := out none W3 h3
      exact ⟨_, _, hr, .inl ⟨rfl, ⟨hI.putObj _ hi3 (by omega) hl3 hbc, hl4, hk4⟩, hKt (hKt hw2 hk3) (hKb _ _ _ _ (by omega) hl3 hbc hbw)⟩⟩
    | ret => exact leave .ret W3 hp.1 hp.2.1 hp.2.2
    | exit id => exact leave (.exit id) W3 hp.1 hp.2.1 hp.2.2
    | goto t => exact leave (.goto t) W3 hp.1 hp.2.1 hp.2.2
    | panic ch => exact hp.elim
    | outgrown => exact hp.elim
  case fin =>
    rintro e W2 ⟨⟨v, rfl⟩, (⟨xs, hSx, hi, hl, hk⟩ | ⟨pre, hSx, c, hi, hl, hk⟩)⟩
    · exact ⟨none, _, by have := run_endLoop (P := P) hl (by rw [hrc]; simp [rec']); rw [hrc] at this; exact this,
        hdone _ xs _ (Nat.le_refl _) (hS.putObj _ hSx (by omega) hl rfl) (hI.putObj _ hi (by omega) hl rfl) ((World.putObj_heap_other (by omega)).trans hk)⟩
    · exact ⟨some c, _, by have := run_endLoop (P := P) hl (by rw [hrc]; simp [rec']); rw [hrc] at this; exact this,
        hstop _ c pre _ (Nat.le_refl _) (hSp.putObj _ hSx (by omega) hl rfl) ((hIx c).putObj _ hi (by omega) hl rfl) ((World.putObj_heap_other (by omega)).trans hk)⟩
end Go.Proofs.YtacjfpibilolnaaGreatDoor

/- Euclid's pairs, handed on one by one. -/
set_option linter.unusedVariables false
set_option linter.unusedSimpArgs false
namespace Go.Proofs.YtacjfpibilolnaaGreatDoor
open Go.RowKit Go.Shelf
attribute [local go_sem] Oper.semAt_some

/-- Euclid's pairs. -/
def euc (a b : Nat) : Nat → Nat × Nat
  | 0 => (a, b)
  | k + 1 => ((euc a b k).2, (euc a b k).1 % (euc a b k).2)
theorem euc_gcd (a b : Nat) : ∀ k, (∀ i, i < k → (euc a b i).2 ≠ 0) → Nat.gcd (euc a b k).1 (euc a b k).2 = Nat.gcd a b
  | 0, _ => rfl
  | k + 1, h => by
    rw [← euc_gcd a b k (fun i hi => h i (by omega))]
    show Nat.gcd (euc a b k).2 ((euc a b k).1 % (euc a b k).2) = _
    rw [Nat.gcd_comm (euc a b k).1, Nat.gcd_rec (euc a b k).2 (euc a b k).1, Nat.gcd_comm]
/-- A pair of naturals as they lie in memory. -/
structure It where
  A : Option Addr
  c : Nat
  a : Nat
  B : Option Addr
  d : Nat
  b : Nat
def It.enc (x : It) : Array Value := #[.slice x.A (nl x.a) x.c, .slice x.B (nl x.b) x.d]
def It.ok (x : It) (W : World) : Prop := NatV W x.A x.c x.a ∧ NatV W x.B x.d x.b
/-- Limbs stay what they are, and so do two variables. -/
structure KpU (Ba Bb : Nat) (W W' : World) : Prop where
  u : ∀ (p : Addr) (x : Nat), W.cell? p = some (.int .u32 (x : Nat)) → W'.cell? p = some (.int .u32 (x : Nat))
  a : ∀ o : Obj, o.isCells = true → W.heap[Ba]? = some o → W'.heap[Ba]? = some o
  b : ∀ o : Obj, o.isCells = true → W.heap[Bb]? = some o → W'.heap[Bb]? = some o
theorem KpU.t {Ba Bb : Nat} {A B C : World} (h : KpU Ba Bb A B) (k : KpU Ba Bb B C) : KpU Ba Bb A C := ⟨fun p x e => k.u p x (h.u p x e), fun o ho e => k.a o ho (h.a o ho e), fun o ho e => k.b o ho (h.b o ho e)⟩
theorem KpU.bk {Ba Bb : Nat} {w : World} (W : World) (l : Nat) (o o' : Obj) (_ : w.heap.size ≤ l) (h : W.heap[l]? = some o) (ho : o.isCells = false) (_ : o.isWalk = false) : KpU Ba Bb W (W.putObj l o') := by
  refine ⟨fun p x e => cell_kept e (grownBy_putObj' W l o') (fun r e => by cases e; exact ⟨o, h, ho⟩), fun u hu e => ?_, fun u hu e => ?_⟩
  · have hne : Ba ≠ l := fun e2 => by subst e2; rw [h] at e; cases e; rw [ho] at hu; cases hu
    exact (World.putObj_heap_other hne).trans e
  · have hne : Bb ≠ l := fun e2 => by subst e2; rw [h] at e; cases e; rw [ho] at hu; cases hu
    exact (World.putObj_heap_other hne).trans e
theorem NatV.kpu {Ba Bb : Nat} {W W' : World} {A : Option Addr} {c n : Nat} (h : NatV W A c n) (hk : KpU Ba Bb W W') : NatV W' A c n := by
  refine ⟨?_, h.cap, h.cmax⟩
  rcases h.rd with h1 | ⟨ad, rfl, h1⟩
  · exact .inl h1
  · refine .inr ⟨ad, rfl, fun i u hi => ?_⟩
    have h2 := h1 i u hi
    obtain ⟨hl, he⟩ := List.getElem?_eq_some_iff.1 hi
    have hil : i < (limbs n).length := by simpa [vals] using hl
    rw [vals_get _ i hil] at hi
    cases hi
    exact hk.u _ _ h2
/-- All but two variables stays as it was. -/
structure MvU (Ba Bb : Nat) (W W' : World) : Prop where
  os : W'.os = W.os
  tape : W'.tape = W.tape
  output : W'.output = W.output
  size : W.heap.size ≤ W'.heap.size
  block : ∀ k, k < W.heap.size → k ≠ Ba → k ≠ Bb → W'.heap[k]? = W.heap[k]?
/-- What is handed on, and what holds at the end. -/
def EuH (a b : Nat) (pre : List It) (x : It) (W : World) : Prop := x.ok W ∧ (x.a, x.b) = euc a b pre.length ∧ ∀ i, i < pre.length → (euc a b i).2 ≠ 0
def EuS (a b : Nat) (xs : List It) (W : World) : Prop := ∃ pre x, xs = pre ++ [x] ∧ EuH a b pre x W ∧ x.b = 0
def EuP (a b : Nat) (xs : List It) (W : World) : Prop := ∃ pre x, xs = pre ++ [x] ∧ EuH a b pre x W
theorem rests_c (A : Option Addr) (la ca : Nat) (B : Option Addr) (lb cb : Nat) (w : World) :
    Calls Tryz.prog 138 #[.slice A la ca, .slice B lb cb] w fun e w' =>
      e = .returned (.func (.func 153) #[] #[.pointer (some ⟨w.heap.size, 0, none⟩), .pointer (some ⟨w.heap.size + 1, 0, none⟩)]) ∧
      w' = (w.alloc (.cells #[.slice A la ca] 22)).alloc (.cells #[.slice B lb cb] 22) := by
  go_enter Tryz.func138, Tryz.ntmps138
  go_wp2_with (fail)
  go_ret
  exact ⟨rfl, rfl⟩
/-- The natural that a slice shows. -/
def natAt (W : World) (v : Option Value) : Nat := match v with
  | some (.slice (some ad) n _) => val ((List.range n).map fun i => match W.cell? (ad.add i) with | some (.int _ x) => x.toNat | _ => 0)
  | _ => 0
theorem NatV.at_ {W : World} {A : Option Addr} {c a : Nat} (h : NatV W A c a) : natAt W (some (.slice A (nl a) c)) = a := by
  rcases h.rd with h1 | ⟨ad, rfl, h1⟩
  · have h0 : limbs a = [] := by simpa [vals] using h1
    have h2 : a = 0 := by rw [← val_limbs a, h0]; rfl
    have h3 : nl a = 0 := by rw [h2, nl_zero]
    unfold natAt
    rw [h3, h2]
    cases A <;> rfl
  · show val _ = a
    rw [show ((List.range (nl a)).map fun i => match W.cell? (ad.add i) with | some (.int _ x) => x.toNat | _ => 0) = limbs a from ?_, val_limbs]
    apply List.ext_getElem
    · simp [nl]
    · intro i h2 h3
      have h4 := h1 i _ (vals_get (limbs a) i h3)
      rw [List.getElem_map, List.getElem_range, h4]
      simp only [Int.toNat_natCast]
      exact gl_get h3
theorem Boxed.keepN {W : World} {k : Nat} {t : TypeId} {A : Option Addr} {n c : Nat} {v : Value} (h : Boxed W k t (.slice A n c)) {X : Option Addr} {x m : Nat} (hN : NatV W X x m) : NatV (W.setCell ⟨k, 0, none⟩ v) X x m :=
  BoxA.keep (W := W) (k := k) (t := t) (us := #[.slice A n c]) ⟨h⟩ (by intro u hu; simp at hu; subst hu; exact notU_slice _ _ _) (fun j hj => Below.heap_setCell _ _ _ _ (by simpa using hj)) hN
theorem nl_max {a b k : Nat} (ha : nl a ≤ k) (hb : nl b ≤ k) : nl (max a b) ≤ k := by
  rcases Nat.le_total a b with h | h
  · rw [Nat.max_eq_right h]; exact hb
  · rw [Nat.max_eq_left h]; exact ha
theorem mv_two (W : World) (Ba Bb : Nat) (u v : Value) : MvU Ba Bb W ((W.setCell ⟨Ba, 0, none⟩ u).setCell ⟨Bb, 0, none⟩ v) :=
  ⟨rfl, rfl, rfl, by simp [World.setCell], fun k _ h1 h2 => by rw [Below.heap_setCell _ _ _ _ (by simpa using h2), Below.heap_setCell _ _ _ _ (by simpa using h1)]⟩
theorem rests1_in (l Ba Bb : Nat) (a b : Nat) (hla : nl a ≤ 16777216) (hlb : nl b ≤ 16777216) (hne : Ba ≠ Bb)
    (J Jx : List It → World → Prop) (hJd : ∀ pre W W', J pre W → Below W.heap.size W W' → J pre W') (hJm : ∀ s A B, J s A → MvU Ba Bb A B → J s B)
    (hY : ∀ pre x W, J pre W → EuH a b pre x W → YieldAt Fence.wide 2 Tryz.prog l x.enc W fun e W' =>
      (e = .returned (.bool true) ∧ J (pre ++ [x]) W' ∧ KpU Ba Bb W W') ∨ (e = .returned (.bool false) ∧ Jx (pre ++ [x]) W' ∧ KpU Ba Bb W W'))
    (A : Option Addr) (c : Nat) (B : Option Addr) (d : Nat) (W : World) (h1 : Boxed W Ba 22 (.slice A (nl a) c)) (h2 : Boxed W Bb 22 (.slice B (nl b) d))
    (hA : NatV W A c a) (hB : NatV W B d b) (h0 : J [] W) :
    CallsIn Fence.wide 3 Tryz.prog 153 #[.func (.yield l) #[] #[], .pointer (some ⟨Ba, 0, none⟩), .pointer (some ⟨Bb, 0, none⟩)] W fun e W' =>
      (∃ v, e = .returned v) ∧ ((∃ xs, EuS a b xs W' ∧ J xs W') ∨ (∃ pre, EuP a b pre W' ∧ Jx pre W')) := by
  refine callsIn_of_wp Tryz.func153 rfl trivial ?_ rfl
  simp only [Tryz.ntmps153, List.size_toArray, List.length_cons, List.length_nil, Nat.reduceAdd, Nat.reduceSub, Array.replicate_succ, Array.replicate_zero, List.push_toArray, List.append_toArray, List.nil_append, List.cons_append]
  have HY := Lib.hid hY
  clear hY
  gi_wp2_with (fail)
  gi_loopw [4, 5, 6] (fun u4 u5 u6 wr => ∃ (pre : List It) (x : It), J pre wr ∧ EuH a b pre x wr ∧ Boxed wr Ba 22 (.slice x.A (nl x.a) x.c) ∧ Boxed wr Bb 22 (.slice x.B (nl x.b) x.d) ∧ x.a ≤ max a b ∧ x.b ≤ max a b) (fun u4 u5 u6 wr => natAt wr (wr.cell? ⟨Bb, 0, none⟩))
  case atStart => exact ⟨[], ⟨A, c, a, B, d, b⟩, h0, ⟨⟨hA, hB⟩, rfl, fun i h => by simp at h⟩, h1, h2, by simp; omega, by simp; omega⟩
  case round =>
    obtain ⟨pre, ⟨A, c, x, B, d, y⟩, hJ, hH, hba, hbb, hxm, hym⟩ := hrel
    have hxa : nl x ≤ 16777216 := Nat.le_trans (nl_mono hxm) (nl_max hla hlb)
    have hyb : nl y ≤ 16777216 := Nat.le_trans (nl_mono hym) (nl_max hla hlb)
    have ca := hba.cell
    have cb := hbb.cell
    have cm : natAt wr (wr.cell? ⟨Bb, 0, none⟩) = y := by rw [cb]; exact hH.1.2.at_
    obtain ⟨fn, tmps, assign, body, hy, hR⟩ := HY.out pre _ wr hJ hH
    simp only [It.enc] at hy
    have HR := Lib.hid (hR.mono (R' := fun e W' => ∃ t, e = .returned (.bool t) ∧ KpU Ba Bb wr W' ∧ Hid ((t = true ∧ J (pre ++ [⟨A, c, x, B, d, y⟩]) W') ∨ (t = false ∧ Jx (pre ++ [⟨A, c, x, B, d, y⟩]) W'))) (by
      rintro e W' (⟨rfl, h1, h2⟩ | ⟨rfl, h1, h2⟩)
      · exact ⟨true, rfl, h2, Lib.hid (.inl ⟨rfl, h1⟩)⟩
      · exact ⟨false, rfl, h2, Lib.hid (.inr ⟨rfl, h1⟩)⟩))
    have H1 := hH.1.1
    have H2 := hH.1.2
    have H3 := Lib.hid hH.2
    replace hba := Lib.hid hba
    replace hbb := Lib.hid hbb
    replace cm := Lib.hid cm
    replace hJd := Lib.hid hJd
    replace hJm := Lib.hid hJm
    clear hR hJ hH
    gi_wp2_with (fail)
    refine (Hid.out HR).mono ?_
    rintro e W' ⟨t, rfl, K, ht⟩
    have hb2 : Boxed W' Bb 22 (.slice B (nl y) d) := K.b _ rfl hbb.out
    have ha2 : Boxed W' Ba 22 (.slice A (nl x) c) := K.a _ rfl hba.out
    have hX := H1.kpu K
    have hYy := H2.kpu K
    have E' : EuH a b pre ⟨A, c, x, B, d, y⟩ W' := ⟨⟨hX, hYy⟩, H3.out⟩
    have ca2 := ha2.cell
    have cb2 := hb2.cell
    cases t with
    | false =>
      obtain ⟨h, _⟩ | ⟨_, hx⟩ := ht.out
      · cases h
      · replace hx := Lib.hid hx
        replace E' := Lib.hid E'
        gi_wp2_with (fail)
        refine bodyPost_end (results_none rfl _ _ _) rfl ?_
        exact ⟨⟨_, rfl⟩, .inr ⟨_, ⟨_, _, rfl, E'.out⟩, hx.out⟩⟩
    | true =>
      obtain ⟨_, hJ2⟩ | ⟨h, _⟩ := ht.out
      · by_cases hy0 : y = 0
        · have t1 : decide (0 < (nl y : Int)) = false := by rw [hy0, nl_zero]; rfl
          have t2 : decide (0 < nl y) = false := by rw [hy0, nl_zero]; rfl
          replace hy0 := Lib.hid hy0
          replace hJ2 := Lib.hid hJ2
          replace E' := Lib.hid E'
          gi_wp2_with (fail)
          refine bodyPost_end (results_none rfl _ _ _) rfl ?_
          exact ⟨⟨_, rfl⟩, .inl ⟨_, ⟨_, _, rfl, E'.out, hy0.out⟩, hJ2.out⟩⟩
        · have t1 : decide (0 < (nl y : Int)) = true := by have := nl_pos.2 hy0; simp; omega
          have t2 : decide (0 < nl y) = true := by have := nl_pos.2 hy0; simp; omega
          have CD := ddivmod_c A c x B d y W' hX hYy hxa hyb (by omega)
          replace CD := Lib.hid CD
          replace hJ2 := Lib.hid hJ2
          replace E' := Lib.hid E'
          replace hy0 := Lib.hid hy0
          replace ha2 := Lib.hid ha2
          replace hb2 := Lib.hid hb2
          gi_wp2_with (refine ⟨trivial, ?_⟩; gi_at_call 131; (with_reducible refine (callsIn_wide.2 (Hid.out CD)).mono ?_); rintro e W2 ⟨X, cx, Y, cy, rfl, hq, hr, hbd⟩; have ha3 : Boxed W2 Ba 22 (.slice A (nl x) c) := heap_below hbd ha2.out; have hb3 : Boxed W2 Bb 22 (.slice B (nl y) d) := heap_below hbd hb2.out; have ca3 := ha3.cell; have cb3 := hb3.cell; have fa3 := ha3.frozen; have fb3 := hb3.frozen)
          go_roundw
          case rel =>
            have hJ3 := hJm.out _ _ _ (hJd.out _ _ _ hJ2.out hbd) (mv_two W2 Ba Bb (.slice B (nl y) d) (.slice Y (nl (x % y)) cy))
            have hb4 : Boxed (W2.setCell ⟨Ba, 0, none⟩ (.slice B (nl y) d)) Bb 22 (.slice B (nl y) d) := hb3.other (fun e => hne e.symm) _
            have n1 := Boxed.keepN hb4 (v := .slice Y (nl (x % y)) cy) (Boxed.keepN ha3 (v := .slice B (nl y) d) (hYy.below hbd))
            have n2 := Boxed.keepN hb4 (v := .slice Y (nl (x % y)) cy) (Boxed.keepN ha3 (v := .slice B (nl y) d) hr)
            refine ⟨_, ⟨B, d, y, Y, cy, x % y⟩, hJ3, ⟨⟨n1, n2⟩, ?_, ?_⟩, (Boxed.set _ ha3).other hne _, Boxed.set _ hb4, hym, Nat.le_trans (Nat.mod_le _ _) hxm⟩
            · have h := H3.out.1
              simp only [List.length_append, List.length_cons, List.length_nil, euc]
              rw [← h]
            · intro i hi
              simp only [List.length_append, List.length_cons, List.length_nil] at hi
              by_cases e : i = pre.length
              · rw [e, ← H3.out.1]; exact hy0.out
              · exact H3.out.2 i (by omega)
          case measure =>
            have hb4 : Boxed (W2.setCell ⟨Ba, 0, none⟩ (.slice B (nl y) d)) Bb 22 (.slice B (nl y) d) := hb3.other (fun e => hne e.symm) _
            have n2 := Boxed.keepN hb4 (v := .slice Y (nl (x % y)) cy) (Boxed.keepN ha3 (v := .slice B (nl y) d) hr)
            rw [cm.out, (Boxed.set _ hb4).cell, n2.at_]
            exact Nat.mod_lt _ (Nat.pos_of_ne_zero hy0.out)
      · cases h
end Go.Proofs.YtacjfpibilolnaaGreatDoor
