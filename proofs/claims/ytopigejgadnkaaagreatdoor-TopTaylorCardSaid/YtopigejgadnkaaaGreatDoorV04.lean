/- A region that draws its order, whose calls come up in one order alone and whose other operations yield the same at whatever time: it is run one behind the other. -/
import Derived.Test.YtopigejgadnkaaaGreatDoorV01
import Derived.Deep.RegionHeld3
import Derived.Test.YtopigejgadnkaaaGreatDoorV03
import Derived.RangeFuncCalls
import Derived.OwnWalkIn
import Derived.Laws.AppendOwn
import Derived.Lib.RabinKarpLaws
import Derived.Test.YtopigejgadnkaaaGreatDoorV02
set_option maxRecDepth 100000
set_option maxHeartbeats 4000000
set_option linter.unusedVariables false
set_option linter.unusedSimpArgs false
namespace Go.Proofs.YtopigejgadnkaaaGreatDoor
open Go.RowKit

def SeqP (P : Program) (ops : Array Oper) (Q : Exit → Act → World → Prop) (S : World → Prop) : List (Nat × Bool) → Act → World → Prop
  | [], a, w => Q .normal a w
  | (i, true) :: p, a, w => ∃ o v, ops[i]? = some o ∧ (∀ c a w, Q (.panic c) (a.put o.dst v) w → Q (.panic c) a w) ∧ YieldsIf P ops S o v a ∧ SeqP P ops Q S p (a.put o.dst v) w
  | (i, false) :: p, a, w => wpOp P ops Q i (fun a' w' => S w' ∧ (S w' → SeqP P ops Q S p a' w')) a w
structure Info where
  i : Nat
  t : Bool
  deps : List Nat
  dst : Option Nat
  looks : List Nat
def infoOf (ops : Array Oper) (x : Nat × Bool) : Info :=
  match ops[x.1]? with
  | none => ⟨x.1, x.2, [], none, []⟩
  | some o => ⟨x.1, x.2, (o.after.toList.filter (Region.binds .any)).map (fun e => e.on), o.dst, Oper.looksAt ops o⟩
def apartB (x y : Info) : Bool :=
  (match x.dst with | some d => !y.looks.contains d && y.dst != some d | none => true) && (match y.dst with | some d => !x.looks.contains d | none => true)
def chkTake : List Info → Bool
  | [] => true
  | x :: r => (!x.t || r.all (fun y => y.deps.contains x.i || apartB x y)) && chkTake r
def chkOrder : List Nat → List Info → Bool
  | _, [] => true
  | d, x :: r => !d.contains x.i && x.deps.all (fun k => d.contains k) && chkOrder (x.i :: d) r
def chkCall : Option (List Nat) → List Info → Bool
  | _, [] => true
  | none, x :: r => chkCall (if x.t then none else some [x.i]) r
  | some W, x :: r => x.deps.any (fun k => W.contains k) && chkCall (if x.t then some (x.i :: W) else some [x.i]) r
def chkAll (ops : Array Oper) (p : List (Nat × Bool)) : Bool :=
  let l := p.map (infoOf ops)
  chkTake l && chkOrder [] l && chkCall none l && (List.range ops.size).all (fun k => (p.map (fun x => x.1)).contains k) && p.all (fun x => decide (x.1 < ops.size)) && Region.noSelect ops
theorem chkCall_spec : ∀ (l : List Info) (W : List Nat), chkCall (some W) l = true → ∀ x ∈ l, ∃ k ∈ x.deps, k ∈ W ∨ ∃ y ∈ l, y.i = k
  | [], W, h, x, hx => by cases hx
  | y :: r, W, h, x, hx => by
    simp only [chkCall, Bool.and_eq_true] at h
    obtain ⟨h1, h2⟩ := h
    rcases List.mem_cons.1 hx with rfl | hx
    · obtain ⟨k, hk, hc⟩ := List.any_eq_true.1 h1
      exact ⟨k, hk, .inl (by simpa using hc)⟩
    · have h3 : ∃ W', chkCall (some W') r = true ∧ ∀ k ∈ W', k ∈ W ∨ k = y.i := by
        cases ht : y.t with
        | true => rw [ht] at h2; exact ⟨y.i :: W, h2, fun k hk => by rcases List.mem_cons.1 hk with rfl | hk; exact .inr rfl; exact .inl hk⟩
        | false => rw [ht] at h2; exact ⟨[y.i], h2, fun k hk => .inr (by simpa using hk)⟩
      obtain ⟨W', hW, hsub⟩ := h3
      obtain ⟨k, hk, hc⟩ := chkCall_spec r W' hW x hx
      refine ⟨k, hk, ?_⟩
      rcases hc with hc | ⟨z, hz, he⟩
      · rcases hsub k hc with h | h
        · exact .inl h
        · exact .inr ⟨y, List.mem_cons_self .., h.symm⟩
      · exact .inr ⟨z, List.mem_cons_of_mem _ hz, he⟩
theorem infoOf_some {ops : Array Oper} {x : Nat × Bool} {o : Oper} (h : ops[x.1]? = some o) : infoOf ops x = ⟨x.1, x.2, (o.after.toList.filter (Region.binds .any)).map (fun e => e.on), o.dst, Oper.looksAt ops o⟩ := by
  unfold infoOf; rw [h]
theorem infoOf_i (ops : Array Oper) (x : Nat × Bool) : (infoOf ops x).i = x.1 := by unfold infoOf; split <;> rfl
theorem infoOf_t (ops : Array Oper) (x : Nat × Bool) : (infoOf ops x).t = x.2 := by unfold infoOf; split <;> rfl
theorem dep_mem {ops : Array Oper} {x : Nat × Bool} {o : Oper} (h : ops[x.1]? = some o) {k : Nat} : k ∈ (infoOf ops x).deps ↔ ∃ e ∈ o.after, Region.binds .any e = true ∧ e.on = k := by
  rw [infoOf_some h]
  simp only [List.mem_map, List.mem_filter, Array.mem_toList_iff]
  constructor
  · rintro ⟨e, ⟨h1, h2⟩, h3⟩; exact ⟨e, h1, h2, h3⟩
  · rintro ⟨e, h1, h2, h3⟩; exact ⟨e, ⟨h1, h2⟩, h3⟩
theorem apartB_spec {ops : Array Oper} {x y : Nat × Bool} {o o' : Oper} (hx : ops[x.1]? = some o) (hy : ops[y.1]? = some o') (h : apartB (infoOf ops x) (infoOf ops y) = true) : Oper.apart ops o o' = true := by
  rw [infoOf_some hx, infoOf_some hy] at h
  exact h
theorem seq_held {P : Program} {ops : Array Oper} {Q : Exit → Act → World → Prop} {S : World → Prop} (hns : Region.noSelect ops = true) :
    ∀ (p : List (Nat × Bool)) (d : List Nat) (c : Option (List Nat)) (L : Array Bool) (a : Act) (w : World),
      chkTake (p.map (infoOf ops)) = true → chkOrder d (p.map (infoOf ops)) = true → chkCall c (p.map (infoOf ops)) = true →
      (∀ k, k < ops.size → k ∈ d ∨ ∃ x ∈ p, x.1 = k) → (∀ x ∈ p, x.1 < ops.size) →
      (∀ k ∈ d, k < ops.size) → L.size = ops.size → (∀ k, k < ops.size → (L.getD k false = true ↔ k ∈ d)) → S w → SeqP P ops Q S p a w → wpAnyH P .any ops Q S p.length L a w
  | [], d, c, L, a, w, _, _, _, hall, _, _, hs, hL, hS, h => by
    refine ⟨?_, h⟩
    rw [List.eq_nil_iff_forall_not_mem]
    intro j hj
    obtain ⟨h1, o, ho, _⟩ := mem_ready.1 hj
    have hjn : j < ops.size := (Array.getElem?_eq_some_iff.1 ho).1
    have h2 : j ∈ d := by
      rcases hall j hjn with h | ⟨x, hx, _⟩
      · exact h
      · cases hx
    have h3 := (hL j hjn).2 h2
    have hl : j < L.size := by omega
    simp [Array.getD, hl] at h1 h3
    rw [h1] at h3; cases h3
  | (i, b) :: p, d, c, L, a, w, ht, ho, hc, hall, hlt, hdl, hs, hL, hS, h => by
    have hi : i < ops.size := hlt (i, b) (List.mem_cons_self ..)
    obtain ⟨oi, hoi⟩ : ∃ o, ops[i]? = some o := ⟨ops[i], Array.getElem?_eq_getElem hi⟩
    simp only [List.map_cons, chkTake, chkOrder, Bool.and_eq_true, infoOf_i, infoOf_t] at ht ho
    obtain ⟨ht1, ht2⟩ := ht
    obtain ⟨⟨ho0, ho1⟩, ho2⟩ := ho
    have hid : i ∉ d := by simpa using ho0
    have hbit : ∀ k, k < ops.size → ((L.setIfInBounds i true).getD k false = true ↔ k ∈ i :: d) := by
      intro k hk
      rw [bit_set (by omega)]
      by_cases e : k = i
      · rw [if_pos e]; simp [e]
      · rw [if_neg e, hL k hk]; simp [e]
    have hunl : ∀ k, k < ops.size → (L.getD k true = false ↔ k ∉ d) := by
      intro k hk
      have := hL k hk
      have hl : k < L.size := by omega
      simp only [Array.getD, hl, dite_true] at this ⊢
      rw [← this, Bool.not_eq_true]
    have hready : i ∈ Region.ready .any ops L := by
      refine mem_ready.2 ⟨(hunl i hi).2 hid, oi, hoi, fun e he hb => ?_⟩
      have hk : e.on ∈ (infoOf ops (i, b)).deps := (dep_mem (x := (i, b)) hoi).2 ⟨e, he, hb, rfl⟩
      have hd : e.on ∈ d := by have := List.all_eq_true.1 ho1 _ hk; simpa using this
      exact (hL _ (hdl _ hd)).2 hd
    have hcall : ∃ c', chkCall c' (p.map (infoOf ops)) = true ∧ (b = false → ∃ W, c' = some W ∧ W = [i]) := by
      cases c with
      | none =>
        simp only [List.map_cons, chkCall, infoOf_i, infoOf_t] at hc
        cases b with
        | true => exact ⟨_, hc, fun e => by cases e⟩
        | false => exact ⟨_, hc, fun _ => ⟨[i], rfl, rfl⟩⟩
      | some W =>
        simp only [List.map_cons, chkCall, infoOf_i, infoOf_t, Bool.and_eq_true] at hc
        cases b with
        | true => exact ⟨_, hc.2, fun e => by cases e⟩
        | false => exact ⟨_, hc.2, fun _ => ⟨[i], rfl, rfl⟩⟩
    obtain ⟨c', hc', hcW⟩ := hcall
    have hall' : ∀ k, k < ops.size → k ∈ i :: d ∨ ∃ x ∈ p, x.1 = k := by
      intro k hk
      rcases hall k hk with h | ⟨x, hx, e⟩
      · exact .inl (List.mem_cons_of_mem _ h)
      · rcases List.mem_cons.1 hx with rfl | hx
        · exact .inl (by rw [← e]; exact List.mem_cons_self ..)
        · exact .inr ⟨x, hx, e⟩
    have hlt' : ∀ x ∈ p, x.1 < ops.size := fun x hx => hlt x (List.mem_cons_of_mem _ hx)
    have IH := fun a' w' (hS' : S w') (h' : SeqP P ops Q S p a' w') => seq_held hns p (i :: d) c' (L.setIfInBounds i true) a' w' ht2 ho2 hc' hall' hlt' (fun k hk => by rcases List.mem_cons.1 hk with rfl | hk; exact hi; exact hdl k hk) (by simpa using hs) hbit hS' h'
    cases b with
    | true =>
      obtain ⟨o, v, ho', hQ, hy, hrest⟩ := h
      rw [hoi] at ho'; cases ho'
      refine wpAnyH_first hoi ?_ hQ _ _ _ _ ?_ hready hy hS (IH _ _ hS hrest)
      · intro j o cs bl hj e
        have := Array.all_eq_true_iff_forall_mem.1 hns o (Array.mem_of_getElem? hj)
        rw [e] at this; cases this
      · intro j oj hj hne hu hno
        have hjn : j < ops.size := (Array.getElem?_eq_some_iff.1 hj).1
        have hjd : j ∉ d := (hunl j hjn).1 hu
        rcases hall j hjn with h | ⟨x, hx, e⟩
        · exact absurd h hjd
        · rcases List.mem_cons.1 hx with rfl | hx
          · exact absurd e.symm hne
          · subst e
            simp only [Bool.not_true, Bool.false_or] at ht1
            have h1 := List.all_eq_true.1 ht1 _ (List.mem_map_of_mem (f := infoOf ops) hx)
            rcases Bool.or_eq_true_iff.1 h1 with h2 | h2
            · exfalso
              have h3 : i ∈ (infoOf ops x).deps := by simpa using h2
              obtain ⟨e, he, hb, hon⟩ := (dep_mem hj).1 h3
              exact hno e he hb hon
            · exact apartB_spec (x := (i, true)) hoi hj h2
    | false =>
      refine ⟨fun e => (by rw [e] at hready; exact (nomatch hready)), fun j hj => ?_⟩
      have hji : j = i := by
        obtain ⟨h1, oj, hoj, hdep⟩ := mem_ready.1 hj
        have hjn : j < ops.size := (Array.getElem?_eq_some_iff.1 hoj).1
        have hjd : j ∉ d := (hunl j hjn).1 h1
        rcases hall j hjn with h | ⟨x, hx, e⟩
        · exact absurd h hjd
        · rcases List.mem_cons.1 hx with rfl | hx
          · exact e.symm
          · exfalso
            subst e
            obtain ⟨W, rfl, rfl⟩ := hcW rfl
            obtain ⟨k, hk, hW⟩ := chkCall_spec _ _ hc' _ (List.mem_map_of_mem (f := infoOf ops) hx)
            obtain ⟨e, he, hb, hon⟩ := (dep_mem hoj).1 hk
            have hlk := hdep e he hb
            rw [hon] at hlk
            have hkn : k < ops.size := by
              rcases hW with hW | ⟨y, hy, ey⟩
              · simp at hW; omega
              · obtain ⟨z, hz, rfl⟩ := List.mem_map.1 hy
                rw [infoOf_i] at ey; rw [← ey]; exact hlt' z hz
            have hkd := (hL k hkn).1 hlk
            have hnot : ∀ (q : List (Nat × Bool)) (d' : List Nat), chkOrder d' (q.map (infoOf ops)) = true → ∀ z ∈ q, z.1 ∉ d' := by
              intro q
              induction q with
              | nil => intro d' _ z hz; cases hz
              | cons y r ih =>
                intro d' h z hz
                simp only [List.map_cons, chkOrder, Bool.and_eq_true, infoOf_i] at h
                rcases List.mem_cons.1 hz with rfl | hz
                · simpa using h.1.1
                · exact fun hm => ih _ h.2 z hz (List.mem_cons_of_mem _ hm)
            rcases hW with hW | ⟨y, hy, ey⟩
            · simp at hW; subst hW; exact hid hkd
            · obtain ⟨z, hz, rfl⟩ := List.mem_map.1 hy
              rw [infoOf_i] at ey; subst ey
              exact hnot p (i :: d) ho2 z hz (List.mem_cons_of_mem _ hkd)
      subst hji
      exact wpOp_mono (fun a' w' h' => ⟨h'.1, IH a' w' h'.1 (h'.2 h'.1)⟩) h
theorem wp_region_seq {P : Program} {ops : Array Oper} {Q : Exit → Act → World → Prop} {id : Nat} {a : Act} {w : World} (S : World → Prop) (p : List (Nat × Bool)) (hm : P.follows .mixedOrders = true)
    (hc : chkAll ops p = true) (hn : p.length = ops.size) (hS : S w.drew) (h : S w.drew → SeqP P ops Q S p a w.drew) : (Code.region id ops true).wp P Q a w := by
  refine wp_region_held_drew (S := S) hm hS (fun hS => ?_)
  unfold chkAll at hc
  simp only [Bool.and_eq_true] at hc
  obtain ⟨⟨⟨⟨⟨h1, h2⟩, h3⟩, h4⟩, h5⟩, h6⟩ := hc
  have := seq_held (P := P) (Q := Q) (S := S) h6 p [] none (Array.replicate ops.size false) a w.drew h1 h2 h3 ?_ ?_ (fun k hk => nomatch hk) (by simp) ?_ hS (h hS)
  · rw [hn] at this; exact this
  · intro k hk
    have := List.all_eq_true.1 h4 k (List.mem_range.2 hk)
    right
    simp only [List.contains_iff_mem, List.mem_map] at this
    obtain ⟨x, hx, e⟩ := this
    exact ⟨x, hx, e⟩
  · intro x hx
    simpa using List.all_eq_true.1 h5 x hx
  · intro k hk
    simp [Array.getD, hk]
section
variable {P : Program} {ops : Array Oper} {Q : Exit → Act → World → Prop} {S : World → Prop} {p : List (Nat × Bool)} {a : Act} {w : World} {i : Nat} {o : Oper}
theorem SeqP.take {v : Value} (ho : ops.toList[i]? = some o) (hQ : ∀ c a w, Q (.panic c) (a.put o.dst v) w → Q (.panic c) a w) (hy : YieldsIf P ops S o v a) (h : SeqP P ops Q S p (a.put o.dst v) w) : SeqP P ops Q S ((i, true) :: p) a w :=
  ⟨o, v, by rw [← Array.getElem?_toList]; exact ho, hQ, hy, h⟩
theorem SeqP.call (ho : ops.toList[i]? = some o) (hw : Region.wanted o (yielded ops a.tmps) = true) (h : ∀ K : Act → World → Prop, Shut (∀ a w, S w → (S w → SeqP P ops Q S p a w) → K a w) → Oper.wp P o a w K Q) : SeqP P ops Q S ((i, false) :: p) a w := by
  show wpOp P ops Q i _ a w
  unfold wpOp
  rw [show ops[i]? = some o by rw [← Array.getElem?_toList]; exact ho]
  simp only [hw, if_true]
  exact .inl (h _ (fun a w hS h => ⟨hS, h⟩))
theorem SeqP.done (h : Q .normal a w) : SeqP P ops Q S [] a w := h
end
theorem seq0 {α : Type} {l : List α} {i : Nat} {a : α} : l.toArray.setIfInBounds i a = (l.set i a).toArray := List.setIfInBounds_toArray _ _ _
theorem seq1 {α : Type} {a b : α} {l : List α} : (a :: l).set 0 b = b :: l := rfl
theorem seq2 {α : Type} {a b : α} {l : List α} {n : Nat} : (a :: l).set (n + 1) b = a :: l.set n b := rfl
end Go.Proofs.YtopigejgadnkaaaGreatDoor

namespace Go.Proofs.YtopigejgadnkaaaGreatDoor
open Go.RowKit Go.Shelf
attribute [local go_sem] max2_i min2_i max_two min_two

end Go.Proofs.YtopigejgadnkaaaGreatDoor

namespace Go.Proofs.YtopigejgadnkaaaGreatDoor
open Go.RowKit Go.Shelf
attribute [local go_sem] max2_i min2_i max_two min_two

attribute [local go_sem] Oper.semAt_some
theorem BoxA.kept {W W' : World} {k : Nat} {t : TypeId} {us : Array Value} {row : Option Nat} (h : BoxA W k t us) (hg : W.grownBy W' row) (hr : ∀ r, row = some r → ∃ o : Obj, W.heap[r]? = some o ∧ o.isCells = false) : BoxA W' k t us :=
  ⟨(hg.block k h.lt (fun e => by obtain ⟨o, ho, hc⟩ := hr k e.symm; rw [h.at_] at ho; cases ho; cases hc)).trans h.at_⟩
theorem ko_below {W W' : World} (hb : Below W.heap.size W W') : KeepsOthers W W' := ⟨hb.size, fun k o hk _ => heap_below hb hk⟩
theorem kpu_far {Ba Bb : Nat} {W W' : World} {k : Nat} {t : TypeId} {us : Array Value} (h : BoxA W k t us) (hu : ∀ u ∈ us.toList, NotU u) (hW : ∀ j, j ≠ k → W'.heap[j]? = W.heap[j]?) (ha : Ba ≠ k) (hb : Bb ≠ k) : KpU Ba Bb W W' := by
  refine ⟨fun p x e => ?_, fun o _ e => (hW _ ha).trans e, fun o _ e => (hW _ hb).trans e⟩
  have hne : p.block ≠ k := fun e2 => by
    unfold World.cell? at e
    rw [e2, h.at_] at e
    simp only at e
    split at e
    · cases e
    · have hm := Array.mem_of_getElem? e
      exact hu _ (Array.mem_def.1 hm) x rfl
  rw [World.cell?_of_block (w := W) (a := p) (hW _ hne)]
  exact e
theorem ko_far {W W' : World} {k : Nat} {t : TypeId} {us : Array Value} (h : BoxA W k t us) (hs : W'.heap.size = W.heap.size) (hW : ∀ j, j ≠ k → W'.heap[j]? = W.heap[j]?) : KeepsOthers W W' := by
  refine ⟨by omega, fun j o hj ho => ?_⟩
  by_cases e : j = k
  · subst e; rw [h.at_] at hj; cases hj; cases ho
  · exact (hW j e).trans hj
end Go.Proofs.YtopigejgadnkaaaGreatDoor

namespace Go.Proofs.YtopigejgadnkaaaGreatDoor
open Go.RowKit Go.Shelf
attribute [local go_sem] Oper.semAt_some

def NU (w : World) (v : Value) : Prop := ∀ g, v.ownBlock = some g → ∃ cur e, w.heap[g]? = some (.cells cur e (0, 0)) ∧ ∀ u ∈ cur.toList, NotU u
theorem nu_none (w : World) (n c : Nat) : NU w (.slice none n c) := fun g h => by simp [Value.ownBlock] at h
theorem NU.same {w w' : World} {v : Value} (h : NU w v) (hk : ∀ g o, v.ownBlock = some g → w.heap[g]? = some o → o.isCells = true → w'.heap[g]? = some o) : NU w' v := fun g hg => by
  obtain ⟨cur, e, h1, h2⟩ := h g hg
  exact ⟨cur, e, hk g _ hg h1 rfl, h2⟩
theorem NU.below {w w' : World} {v : Value} (h : NU w v) (hb : Below w.heap.size w w') : NU w' v := h.same fun g o _ h1 _ => heap_below hb h1
theorem NU.kept {w w' : World} {v : Value} {row : Option Nat} (h : NU w v) (hg : w.grownBy w' row) (hr : ∀ r, row = some r → ∃ o : Obj, w.heap[r]? = some o ∧ o.isCells = false) : NU w' v := by
  refine h.same fun g o hgo h1 hc => ?_
  rw [hg.block g (Array.getElem?_eq_some_iff.1 h1).1 (fun e => by obtain ⟨o', h2, h3⟩ := hr g e.symm; rw [h1] at h2; cases h2; rw [hc] at h3; cases h3)]
  exact h1
theorem NU.far {w w' : World} {v : Value} {k : Nat} (h : NU w v) (hk : ∀ g, v.ownBlock = some g → g ≠ k) (hW : ∀ j, j ≠ k → w'.heap[j]? = w.heap[j]?) : NU w' v := h.same fun g o hgo h1 _ => (hW g (hk g hgo)).trans h1
theorem u_grown {w w' : World} {v : Value} (h : NU w v) (hg : w.grownBy w' v.ownBlock) (p : Addr) (x : Nat) (e : w.cell? p = some (.int .u32 (x : Nat))) : w'.cell? p = some (.int .u32 (x : Nat)) := by
  have hlt := World.block_lt_of_cell? w _ e
  have hne : some p.block ≠ v.ownBlock := fun e2 => by
    obtain ⟨cur, t, h1, h2⟩ := h p.block e2.symm
    unfold World.cell? at e
    rw [h1] at e
    simp only at e
    split at e
    · cases e
    · have hm := Array.mem_of_getElem? e
      exact h2 _ (Array.mem_def.1 hm) x rfl
  rw [World.cell?_of_block (w := w) (a := p) (hg.block p.block hlt hne)]
  exact e
theorem NatV.grown {w w' : World} {v : Value} {A : Option Addr} {c n : Nat} (hN : NatV w A c n) (h : NU w v) (hg : w.grownBy w' v.ownBlock) : NatV w' A c n :=
  NatV.kpu (Ba := w.heap.size) (Bb := w.heap.size) hN ⟨u_grown h hg, fun o _ e => by simp at e, fun o _ e => by simp at e⟩
theorem mem_zero {z : Array Value} {n : Nat} {u : Value} (hz : 0 < z.size) (h : u ∈ (Builtin.zeroCells z n).toList) : u ∈ z.toList := by
  simp only [Builtin.zeroCells] at h
  simp at h
  obtain ⟨k, _, rfl⟩ := h
  simp only [Array.mem_toList_iff]
  have : k % z.size < z.size := Nat.mod_lt _ hz
  rw [getElem!_pos z (k % z.size) this]
  exact Array.getElem_mem this
theorem run_append_nu {P : Program} (w : World) (base : Nat) (t ty e : TypeId) (i : TypeInfo) (z : Value) (size bytes : Nat) (ht : P.underlying t = some (.slice e)) (hi : P.info? e = some i) (hz : i.zero = some z)
    (hsize : i.size = size) (hby : i.bytes = bytes) (hzs : z.cells.size = size) (hsz : 0 < size)
    (v : Value) (n : Nat) (xs : List Value) (hown : w.ownsRow base e size v n xs)
    (a : Addr) (m c : Nat) (news : List Value) (hl : news.length = m * size) (hnews : ∀ j u, news[j]? = some u → w.cell? (a.add j) = some u) (h1 : ∀ u ∈ news, u.oneCell' = true)
    (h63 : n + m ≤ maxLen) (hbytes : (n + m) * bytes ≤ 140737488355328) (hbase : base ≤ w.heap.size) (hm : 0 < m)
    (hv : NU w v) (hzn : ∀ u ∈ z.cells.toList, NotU u) (hnn : ∀ u ∈ news, NotU u) :
    ∃ v' w', (Builtin.append_ #[t, t] ty #[v, .slice (some a) m c]).run P w = .ok v' w' ∧ w'.ownsRow base e size v' (n + m) (xs ++ news) ∧ w.grownBy w' v.ownBlock ∧ NU w' v' := by
  subst hsize
  subst hby
  have hsmall : n + m ≤ 9223372036854775807 := by simp only [maxLen] at h63; omega
  have hlen : (xs ++ news).length = (n + m) * i.size := by rw [List.length_append, hown.1, hl, Nat.add_mul]
  have hxs : ∀ u ∈ xs, NotU u := by
    rcases hown.2 with ⟨_, h2⟩ | ⟨g, cap, cur, rfl, _, hg, _, _, _, htake⟩
    · have hx : xs = [] := List.eq_nil_of_length_eq_zero (by rw [hown.1, h2, Nat.zero_mul])
      rw [hx]; intro u hu; cases hu
    · obtain ⟨cur', e', h1', h2'⟩ := hv g rfl
      rw [hg] at h1'; cases h1'
      intro u hu
      rw [← htake] at hu
      exact h2' u (List.mem_of_mem_take hu)
  have grown : ∀ (old : Nat), old < n + m → ∀ (row : Option Nat),
      (w.drew.alloc (.cells (xs.toArray ++ news.toArray ++ Builtin.zeroCells z.cells (grownCap w (n + m) old e - (n + m))) e)).ownsRow base e i.size
        (.slice (some ⟨w.heap.size, 0, none⟩) (n + m) (grownCap w (n + m) old e)) (n + m) (xs ++ news) ∧
      w.grownBy (w.drew.alloc (.cells (xs.toArray ++ news.toArray ++ Builtin.zeroCells z.cells (grownCap w (n + m) old e - (n + m))) e)) row ∧
      NU (w.drew.alloc (.cells (xs.toArray ++ news.toArray ++ Builtin.zeroCells z.cells (grownCap w (n + m) old e - (n + m))) e)) (.slice (some ⟨w.heap.size, 0, none⟩) (n + m) (grownCap w (n + m) old e)) := by
    intro old ho row
    have hge := grownCap_ge w (n + m) old e
    have hcm : grownCap w (n + m) old e ≤ maxLen := grownCap_le_maxLen w (n + m) old e h63
    refine ⟨⟨hlen, .inr ⟨w.heap.size, _, _, rfl, hbase, heap_alloc_new w.drew _, hge, hcm, ?_, ?_⟩⟩, ⟨rfl, rfl, rfl, by simp, fun k hk _ => at_old (W := w.drew) hk rfl⟩, ?_⟩
    · simp only [Array.size_append, List.size_toArray, size_zeroCells, hzs, hown.1, hl, ← Nat.add_mul]
      congr 1
      omega
    · simp only [Array.toList_append, List.append_assoc]
      rw [← List.append_assoc, ← hlen]
      exact List.take_left
    · intro g hg
      have hgg : g = w.heap.size := by simpa [Value.ownBlock] using hg.symm
      subst hgg
      refine ⟨_, _, heap_alloc_new w.drew _, ?_⟩
      intro u hu
      simp only [Array.toList_append, List.mem_append] at hu
      rcases hu with (hu | hu) | hu
      · exact hxs u (by simpa using hu)
      · exact hnn u (by simpa using hu)
      · exact hzn u (mem_zero (by omega) hu)
  rcases hown.2 with ⟨rfl, rfl⟩ | ⟨g, cap, cur, rfl, hbg, hg, hnc, hcm, hcs, htake⟩
  · have hx : xs = [] := List.eq_nil_of_length_eq_zero (by simpa using hown.1)
    subst hx
    have hr := run_append_nil (P := P) w t ty e i z ht hi hz a m c news hl hnews (by omega) (by omega) (by have hb := hbytes; simp only [Nat.zero_add] at hb; omega)
    have hgr := grown 0 (by omega) (Value.ownBlock (.slice none 0 0))
    simp only [Nat.zero_add, List.nil_append, Array.empty_append] at hgr ⊢
    exact ⟨_, _, hr, hgr.1, hgr.2.1, hgr.2.2⟩
  · by_cases hroom : n + m ≤ cap
    · have hfit : n * i.size + news.length ≤ cur.size := by rw [hl, hcs, ← Nat.add_mul]; exact Nat.mul_le_mul_right _ hroom
      have hr := run_append_room (P := P) w t ty e i ht hi g n cap cur hg a m c news hl hnews h1 hroom hfit
      refine ⟨_, _, hr, ⟨hlen, .inr ⟨g, cap, _, rfl, hbg, setRow_heap w g cur _ e _ hg, hroom, hcm, ?_, ?_⟩⟩, ⟨rfl, rfl, rfl, by simp, fun k _ hk => setRow_other w g k _ (fun e => hk (by simp [Value.ownBlock, e]))⟩, ?_⟩
      · simp only [List.size_toArray, List.length_append, List.length_take, List.length_drop, Array.length_toList]
        omega
      · rw [htake, ← hlen]
        exact List.take_left
      · intro g' hg'
        have hgg : g' = g := by simpa [Value.ownBlock] using hg'.symm
        subst hgg
        refine ⟨_, _, setRow_heap w g' cur _ e _ hg, ?_⟩
        obtain ⟨cur', e', h1', h2'⟩ := hv g' rfl
        rw [hg] at h1'; cases h1'
        intro u hu
        simp only [List.mem_append] at hu
        rcases hu with (hu | hu) | hu
        · exact h2' u (List.mem_of_mem_take hu)
        · exact hnn u hu
        · exact h2' u (List.mem_of_mem_drop hu)
    · have holds : ∀ j u, xs[j]? = some u → w.cell? ((⟨g, 0, none⟩ : Addr).add j) = some u := hown.cells (g := g) rfl
      have hr := run_append_grow (P := P) w t ty e i z ht hi hz ⟨g, 0, none⟩ n cap xs hown.1 holds a m c news hl hnews (by omega) (by omega) (growslice_fits (by omega) hbytes)
      have hgr := grown cap (by omega) (Value.ownBlock (.slice (some ⟨g, 0, none⟩) n cap))
      exact ⟨_, _, hr, hgr.1, hgr.2.1, hgr.2.2⟩
theorem wp_append_nu {P : Program} (w : World) {o : Oper} {a : Act} {K : Act → World → Prop} {Q : Exit → Act → World → Prop} (s x : Operand) (t : TypeId)
    (ho : o.op = .call { callee := .builtin .append, args := #[s, x], argTypes := #[t, t] })
    (base : Nat) (e : TypeId) (i : TypeInfo) (z : Value) (size bytes : Nat) (ht : P.underlying t = some (.slice e)) (hi : P.info? e = some i) (hz : i.zero = some z)
    (hsize : i.size = size) (hby : i.bytes = bytes) (hzs : z.cells.size = size) (hsz : 0 < size)
    (v : Value) (n : Nat) (xs : List Value) (hs : a.eval s = v) (hown : w.ownsRow base e size v n xs)
    (ad : Addr) (m c : Nat) (news : List Value) (hx : a.eval x = .slice (some ad) m c) (hl : news.length = m * size) (hnews : ∀ j u, news[j]? = some u → w.cell? (ad.add j) = some u) (h1 : ∀ u ∈ news, u.oneCell' = true)
    (h63 : n + m ≤ maxLen) (hbytes : (n + m) * bytes ≤ 140737488355328) (hbase : base ≤ w.heap.size) (hm : 0 < m)
    (hv : NU w v) (hzn : ∀ u ∈ z.cells.toList, NotU u) (hnn : ∀ u ∈ news, NotU u)
    (h : ∀ v' w', w'.ownsRow base e size v' (n + m) (xs ++ news) → w.grownBy w' v.ownBlock → NU w' v' → K (a.put o.dst v') w') : o.wp P a w K Q := by
  obtain ⟨v', w', hr, h2, h3, h4⟩ := run_append_nu (P := P) w base t o.type e i z size bytes ht hi hz hsize hby hzs hsz v n xs hown ad m c news hl hnews h1 h63 hbytes hbase hm hv hzn hnn
  unfold Oper.wp execOp
  simp only [ho, resolve, invoke, builtin, Sem.run_bind, Sem.run_pure, Result.andThen_ok, List.map_toArray, List.map_cons, List.map_nil, hs, hx, hr]
  exact h v' w' h2 h3 h4
theorem wpList_append_nu {P : Program} (w : World) {ops : Array Oper} {rest : List Oper} {o : Oper} {a : Act} {Q : Exit → Act → World → Prop} (hgd : o.guard = none) (s x : Operand) (t : TypeId)
    (ho : o.op = .call { callee := .builtin .append, args := #[s, x], argTypes := #[t, t] })
    (base : Nat) (e : TypeId) (i : TypeInfo) (z : Value) (size bytes : Nat) (ht : P.underlying t = some (.slice e)) (hi : P.info? e = some i) (hz : i.zero = some z)
    (hsize : i.size = size) (hby : i.bytes = bytes) (hzs : z.cells.size = size) (hsz : 0 < size)
    (v : Value) (n : Nat) (xs : List Value) (hs : a.eval s = v) (hown : w.ownsRow base e size v n xs)
    (ad : Addr) (m c : Nat) (news : List Value) (hx : a.eval x = .slice (some ad) m c) (hl : news.length = m * size) (hnews : ∀ j u, news[j]? = some u → w.cell? (ad.add j) = some u) (h1 : ∀ u ∈ news, u.oneCell' = true)
    (h63 : n + m ≤ maxLen) (hbytes : (n + m) * bytes ≤ 140737488355328) (hbase : base ≤ w.heap.size) (hm : 0 < m)
    (hv : NU w v) (hzn : ∀ u ∈ z.cells.toList, NotU u) (hnn : ∀ u ∈ news, NotU u)
    (h : ∀ v' w', w'.ownsRow base e size v' (n + m) (xs ++ news) → w.grownBy w' v.ownBlock → NU w' v' → wpList P ops Q rest (a.put o.dst v') w') : wpList P ops Q (o :: rest) a w :=
  wpList_plain hgd fun _ hK => wp_append_nu w s x t ho base e i z size bytes ht hi hz hsize hby hzs hsz v n xs hs hown ad m c news hx hl hnews h1 h63 hbytes hbase hm hv hzn hnn fun v' w' h2 h3 h4 => hK _ _ (h v' w' h2 h3 h4)
end Go.Proofs.YtopigejgadnkaaaGreatDoor

namespace Go.Proofs.YtopigejgadnkaaaGreatDoor
open Go.RowKit Go.Shelf
attribute [local go_sem] max2_i min2_i max_two min_two

theorem gi_succ (a : Int) (p : List Int) (j : Nat) : gi (a :: p) (j + 1) = gi p j := by simp [gi]
theorem gi_zero (a : Int) (p : List Int) : gi (a :: p) 0 = a := by simp [gi]
theorem add_two (ad : Addr) (j : Nat) : (ad.add 2).add j = ad.add (j + 2) := by
  unfold Addr.add
  by_cases h : j = 0
  · subst h; simp
  · rw [if_neg (by omega), if_neg (by omega), if_neg (by omega)]
    simp only [Addr.mk.injEq, true_and, and_true]
    omega
def EncL (W : World) (p : List Int) (cs : List Value) : Prop := ∀ j, j < p.length → ∃ X d, cs[j * 2]? = some (.bool (sg (gi p j))) ∧ cs[j * 2 + 1]? = some (.slice X (nl (mg (gi p j))) d) ∧ NatV W X d (mg (gi p j))
theorem polV_list (W : World) : ∀ (p : List Int) (ad : Addr) (c : Nat), PolV W (some ad) c p → ∃ cs : List Value, cs.length = p.length * 2 ∧ (∀ j u, cs[j]? = some u → W.cell? (ad.add j) = some u) ∧ EncL W p cs ∧ (∀ u ∈ cs, NotU u) ∧ (∀ u ∈ cs, u.oneCell' = true)
  | [], ad, c, h => ⟨[], rfl, fun j u h => by simp at h, fun j hj => absurd hj (Nat.not_lt_zero j), fun u h => by simp at h, fun u h => by simp at h⟩
  | a :: p, ad, c, h => by
    obtain ⟨cs, h1, h2, h3, h4, h5⟩ := polV_list W p (ad.add 2) (c - 1) h.tail
    obtain ⟨ad', X, d, e, k1, k2, k3⟩ := h.a 0 (by simp)
    cases e
    rw [gi_zero] at k1 k2 k3
    rw [Nat.zero_mul] at k1 k2
    refine ⟨.bool (sg a) :: .slice X (nl (mg a)) d :: cs, by simp [h1]; omega, ?_, ?_, ?_, ?_⟩
    · intro j u hj
      match j, hj with
      | 0, hj => simp at hj; subst hj; exact k1
      | 1, hj =>
        simp at hj; subst hj
        have : ad.add 1 = ⟨(ad.add 0).block, (ad.add 0).off + 1, none⟩ := by unfold Addr.add; simp
        rw [this]; exact k2
      | j + 2, hj => rw [← add_two]; exact h2 j u (by simpa using hj)
    · intro j hj
      cases j with
      | zero => rw [gi_zero]; exact ⟨X, d, rfl, rfl, k3⟩
      | succ j =>
        obtain ⟨Y, f, g1, g2, g3⟩ := h3 j (by simpa using hj)
        rw [gi_succ]
        exact ⟨Y, f, by rw [show (j + 1) * 2 = j * 2 + 1 + 1 by omega]; simpa using g1, by rw [show (j + 1) * 2 + 1 = j * 2 + 1 + 1 + 1 by omega]; simpa using g2, g3⟩
    · intro u hu
      rcases List.mem_cons.1 hu with rfl | hu
      · exact notU_bool _
      · rcases List.mem_cons.1 hu with rfl | hu
        · exact notU_slice _ _ _
        · exact h4 u hu
    · intro u hu
      rcases List.mem_cons.1 hu with rfl | hu
      · rfl
      · rcases List.mem_cons.1 hu with rfl | hu
        · rfl
        · exact h5 u hu
def RetC (w : World) (p : List Int) (e : Ending) (w' : World) : Prop := ∃ g cap cur, e = .returned (.slice (some ⟨g, 0, none⟩) p.length cap) ∧ w.heap.size ≤ g ∧ BoxA w' g 24 cur ∧ (∀ u ∈ cur.toList, NotU u) ∧ EncI w' p p.length cur ∧ p.length * 2 ≤ cur.size ∧ p.length ≤ cap ∧ cap ≤ maxLen ∧ Below w.heap.size w w'
theorem enc_own {w : World} {base n : Nat} {v : Value} {cs : List Value} {p : List Int} (h : w.ownsRow base 24 2 v n cs) (hn : p.length = n) (h0 : 0 < n) (hnu : NU w v) (he : EncL w p cs) : ∃ g cap cur, v = .slice (some ⟨g, 0, none⟩) n cap ∧ base ≤ g ∧ BoxA w g 24 cur ∧ (∀ u ∈ cur.toList, NotU u) ∧ EncI w p n cur ∧ n * 2 ≤ cur.size ∧ n ≤ cap ∧ cap ≤ maxLen := by
  rcases h.2 with ⟨_, e⟩ | ⟨g, cap, cur, rfl, h1, h2, h3, h4, h5, h6⟩
  · omega
  · obtain ⟨cur', t', k1, k2⟩ := hnu g rfl
    rw [h2] at k1; cases k1
    refine ⟨g, cap, cur, rfl, h1, ⟨h2⟩, k2, ?_, by rw [h5]; omega, h3, h4⟩
    have key : ∀ (i : Nat) (u : Value), cs[i]? = some u → cur[i]? = some u := by
      intro i u hi
      rw [← h6] at hi
      have hlt : i < n * 2 := by
        have := (List.getElem?_eq_some_iff.1 hi).1
        rw [List.length_take] at this; omega
      rw [List.getElem?_take_of_lt hlt] at hi
      rw [← Array.getElem?_toList]; exact hi
    intro j hj
    obtain ⟨X, d, g1, g2, g3⟩ := he j (by omega)
    exact ⟨X, d, key _ _ g1, key _ _ g2, g3⟩
theorem clonep_c (V : Option Addr) (c : Nat) (p : List Int) (w : World) (hP : PolV w V c p) (h0 : 0 < p.length) (hl : p.length ≤ 1048576) :
    Calls Tryz.prog 56 #[.slice V p.length c] w (RetC w p) := by
  obtain ⟨ad, _, _, rfl, _⟩ := hP.a 0 h0
  have hnil := fun (a : Option Addr) (n : Nat) (w : World) => Lib.run_eql_slice_nil (P := Tryz.prog) w 46 24 a n c 0 0 Tryz.underlying46
  obtain ⟨i0, hi0, hz0, hz1, hz2⟩ := info_parts info_int
  have hb1 : Below w.heap.size w (w.alloc (.cells #[] 24)) := (Below.refl _ _).alloc (Nat.le_refl _) _
  obtain ⟨cs, k1, k2, k3, k4, k5⟩ := polV_list _ p ad c (hP.below hb1)
  obtain ⟨n, En⟩ : ∃ n, n = p.length := ⟨_, rfl⟩
  rw [← En] at h0 hl k1 ⊢
  have hfin : ∀ (v' : Value) (w1 : World), w1.ownsRow w.heap.size 24 2 v' n cs → (w.alloc (.cells #[] 24)).grownBy w1 (Value.slice (some ⟨w.heap.size, 0, none⟩) 0 0).ownBlock → NU w1 v' → RetC w p (.returned v') w1 := by
    intro v' w1 ho hg hn
    have hNU : NU (w.alloc (.cells #[] 24)) (.slice (some ⟨w.heap.size, 0, none⟩) 0 0) := fun g hg => by
      have : g = w.heap.size := by simpa [Value.ownBlock] using hg.symm
      subst this
      exact ⟨#[], _, heap_alloc_new w _, fun u hu => by simp at hu⟩
    have he : EncL w1 p cs := fun j hj => by
      obtain ⟨X, d, g1, g2, g3⟩ := k3 j hj
      exact ⟨X, d, g1, g2, g3.grown hNU hg⟩
    obtain ⟨g, cap, cur, rfl, e1, e2, e3, e4, e5, e6, e7⟩ := enc_own ho En.symm h0 hn he
    refine ⟨g, cap, cur, by rw [En], e1, e2, e3, by rw [← En]; exact e4, by rw [← En]; exact e5, by rw [← En]; exact e6, e7, ?_⟩
    exact hb1.grown hg (by simp) (fun k hk => by simp [Value.ownBlock] at hk; omega)
  have hNU0 : NU (w.alloc (.cells #[] 24)) (.slice (some ⟨w.heap.size, 0, none⟩) 0 0) := fun g hg => by
    have : g = w.heap.size := by simpa [Value.ownBlock] using hg.symm
    subst this
    exact ⟨#[], _, heap_alloc_new w _, fun u hu => by simp at hu⟩
  have hown0 : (w.alloc (.cells #[] 24)).ownsRow w.heap.size 24 2 (.slice (some ⟨w.heap.size, 0, none⟩) 0 0) 0 [] := World.ownsRow_lit w #[] 0 (Nat.le_refl _) (by decide) rfl
  replace hfin := Lib.hid hfin
  replace En := Lib.hid En
  replace k3 := Lib.hid k3
  clear hP
  go_enter Tryz.func56, Tryz.ntmps56
  go_wp2_with (at_builtin; refine wpList_append_nu _ rfl _ _ 46 rfl w.heap.size 24 i0 (.agg #[.bool false, .slice none 0 0]) 2 32 Tryz.underlying46 hi0 hz0 hz1 hz2 rfl (by decide) _ 0 [] rfl hown0 ad n c cs rfl k1 k2 k5 (by simp only [maxLen]; omega) (by omega) (by simp) h0 hNU0 (by intro u hu; simp [Value.cells] at hu; rcases hu with rfl | rfl <;> first | exact notU_bool _ | exact notU_slice _ _ _) k4 ?_)
  intro v' w1 ho hg hn
  (try simp only [Nat.zero_add, List.nil_append] at ho)
  have HF := Lib.hid (hfin.out v' w1 ho hg hn)
  clear ho hg hn
  go_wp2_with (fail)
  exact bodyPost_ret (v := v') (by simp [results, Tryz.results56, go_sem]) rfl HF.out
end Go.Proofs.YtopigejgadnkaaaGreatDoor

namespace Go.Proofs.YtopigejgadnkaaaGreatDoor
open Go.RowKit Go.Shelf

theorem pw2_step (o b e : Nat) (he : 0 < e) : (if e % 2 = 1 then o * b else o) * (b * b) ^ (e / 2) = o * b ^ e := by
  have h : b ^ e = b ^ (e % 2) * (b * b) ^ (e / 2) := by
    rw [← Nat.pow_two, ← Nat.pow_mul, ← Nat.pow_add]
    congr 1; omega
  split
  · rename_i h1
    rw [h, h1, Nat.pow_one, ← Nat.mul_assoc]
  · have h1 : e % 2 = 0 := by omega
    rw [h, h1, Nat.pow_zero, Nat.one_mul]
theorem bound_step (x k : Nat) : 2 * x * (k / 2) + (k % 2) * x ≤ x * k := by
  have h := Nat.div_add_mod k 2
  have e : x * k = x * (2 * (k / 2)) + x * (k % 2) := by rw [← Nat.mul_add, h]
  rw [e, Nat.mul_comm (k % 2) x, Nat.mul_comm 2 x, Nat.mul_assoc]
  exact Nat.le_refl _
theorem pw_le {o x k N : Nat} (h : o * x ^ k = N) (hN : 0 < N) (hk : 0 < k) : x ≤ N := by
  have ho : o ≠ 0 := fun e => by rw [e, Nat.zero_mul] at h; omega
  have hx : x ≠ 0 := fun e => by rw [e, Nat.zero_pow hk, Nat.mul_zero] at h; omega
  have h1 : x ≤ x ^ k := by
    conv => lhs; rw [← Nat.pow_one x]
    exact Nat.pow_le_pow_right (Nat.pos_of_ne_zero hx) hk
  have h2 := Nat.le_mul_of_pos_left (x ^ k) (Nat.pos_of_ne_zero ho)
  omega
theorem nat_onP (W : World) (s : Nat) (h : W.heap[s]? = some (.cells #[.int .u32 1] 62 (0, 0))) : NatV W (some ⟨s, 0, none⟩) 1 1 := by
  have e : limbs 1 = [1] := by rw [limbs_pos (by decide)]; simp [limbs_zero]
  refine ⟨?_, by rw [nl_one]; exact Nat.le_refl _, by decide⟩
  rw [e]
  refine .inr ⟨_, rfl, fun i u hu => ?_⟩
  rcases i with _ | i
  · unfold World.cell?
    rw [show (Addr.add ⟨s, 0, none⟩ 0) = ⟨s, 0, none⟩ from rfl, h]
    simpa [vals] using hu
  · simp [vals] at hu

theorem pow_c (A : Option Addr) (c a n : Nat) (w : World) (hA : NatV w A c a) (hG : Flds w) (hb : nl a * n ≤ 16000) (ha : nl a ≤ 16000) (hn : n ≤ 1073741824) (h1a : 1 ≤ a) (hs : nl (a ^ n) ≤ 7) :
    Calls Tryz.prog 36 #[.slice A (nl a) c, .int .i64 (n : Nat)] w (RetN w (a ^ n)) := by
  have hb0 : Below w.heap.size w (w.alloc (.cells #[.int .u32 1] 62)) := (Below.refl _ _).alloc (Nat.le_refl _) _
  have h1 := nat_onP _ _ (heap_alloc_new w (.cells #[.int .u32 1] 62))
  have HB := Lib.hid hb
  clear hb
  go_enter Tryz.func36, Tryz.ntmps36
  go_wp2_with (fail)
  go_loopw [0, 1, 5] (fun va vn vo wr => ∃ (x k o : Nat) (X : Option Addr) (cx : Nat) (O : Option Addr) (co : Nat), va = .slice X (nl x) cx ∧ vn = .int .i64 k ∧ vo = .slice O (nl o) co ∧ k ≤ n ∧ NatV wr X cx x ∧ NatV wr O co o ∧ Below w.heap.size w wr ∧ Hid (o * x ^ k = a ^ n) ∧ Hid (nl x * k + nl o ≤ 16001) ∧ nl o ≤ 16001 ∧ nl x ≤ 16001) (fun va vn vo wr => (intOf vn).toNat)
  case atStart => exact ⟨a, n, 1, A, c, _, 1, rfl, rfl, by rw [nl_one], Nat.le_refl _, hA.below hb0, h1, hb0, Lib.hid (by rw [Nat.one_mul]), Lib.hid (by rw [nl_one]; have := HB.out; omega), by rw [nl_one]; omega, by omega⟩
  case round =>
    obtain ⟨x, k, o, X, cx, O, co, rfl, rfl, rfl, hk, hX, hO, hbr, heq, hbd, ho, hx⟩ := hrel
    by_cases hk0 : 0 < k
    · have hG1 := hG.below hbr
      have hx7 : nl x ≤ 7 := Nat.le_trans (nl_mono (pw_le heq.out (Nat.pow_pos h1a) hk0)) hs
      have hst := pw2_step o x k hk0
      have hbs := bound_step (nl x) k
      have hbd' := hbd.out
      have hxk : nl x ≤ nl x * k := Nat.le_mul_of_pos_right _ hk0
      by_cases hodd : k % 2 = 1
      · have hand : bits .and .i64 (k : Int) 1 = 1 := by rw [Go.Proofs.and_one k (by omega)]; omega
        rw [if_pos hodd] at hst
        rw [hodd, Nat.one_mul] at hbs
        have hno := nl_mul o x
        have hoB : nl (o * x) ≤ 16001 := by omega
        replace hst := Lib.hid hst
        have CM := mul_c O co o X cx x wr hO hX hG1 (by omega) (by omega)
        replace CM := Lib.hid CM
        by_cases hk1 : 1 < k
        · have h2 : decide ((1 : Int) < (k : Int)) = true := by simp; omega
          have hxx := nl_mul x x
          have hx2 : 2 * nl x ≤ 2 * nl x * (k / 2) := Nat.le_mul_of_pos_right _ (by omega)
          have hmm : nl (x * x) * (k / 2) ≤ 2 * nl x * (k / 2) := Nat.mul_le_mul_right _ (by omega)
          have hbN : nl (x * x) * (k / 2) + nl (o * x) ≤ 16001 := by omega
          have hxxb : nl (x * x) ≤ 16001 := by have := Nat.le_mul_of_pos_right (nl (x * x)) (show 0 < k / 2 by omega); omega
          replace hbN := Lib.hid hbN
          clear hbs hbd' hxk hmm
          go_wp2_with (fail)
          refine CM.out.mono ?_
          rintro e w1 ⟨Y, cy, rfl, hY, hb1⟩
          go_wp2_with (fail)
          refine (mul_c X cx x X cx x w1 (hX.below hb1) (hX.below hb1) (hG1.below hb1) (by omega) (by omega)).mono ?_
          rintro e w2 ⟨Z, cz, rfl, hZ, hb2⟩
          go_wp2_with (fail)
          go_roundw
          case rel => exact ⟨x * x, k / 2, o * x, Z, cz, Y, cy, rfl, by congr 1, rfl, by omega, hZ, hY.below hb2, (hbr.cons hb1).cons hb2, Lib.hid (by rw [hst.out, heq.out]), hbN, hoB, hxxb⟩
          case measure => simp only [intOf]; omega
        · have h2 : decide ((1 : Int) < (k : Int)) = false := by simp; omega
          have hk1' : k = 1 := by omega
          have hbN : nl x * (k / 2) + nl (o * x) ≤ 16001 := by rw [hk1']; simpa using hoB
          have heq2 : o * x * x ^ (k / 2) = a ^ n := by
            have := heq.out
            rw [hk1'] at this ⊢
            simpa using this
          replace hbN := Lib.hid hbN
          replace heq2 := Lib.hid heq2
          replace hk1' := Lib.hid hk1'
          clear hbs hbd' hxk
          go_wp2_with (fail)
          refine CM.out.mono ?_
          rintro e w1 ⟨Y, cy, rfl, hY, hb1⟩
          go_wp2_with (fail)
          go_roundw
          case rel => exact ⟨x, k / 2, o * x, X, cx, Y, cy, rfl, by congr 1, rfl, by omega, hX.below hb1, hY, hbr.cons hb1, heq2, hbN, hoB, hx⟩
          case measure => simp only [intOf]; omega
      · have hand : bits .and .i64 (k : Int) 1 = 0 := by rw [Go.Proofs.and_one k (by omega)]; omega
        rw [if_neg hodd] at hst
        have h0 : k % 2 = 0 := by omega
        rw [h0, Nat.zero_mul, Nat.add_zero] at hbs
        replace hst := Lib.hid hst
        have h2 : decide ((1 : Int) < (k : Int)) = true := by simp; omega
        have hxx := nl_mul x x
        have hx2 : 2 * nl x ≤ 2 * nl x * (k / 2) := Nat.le_mul_of_pos_right _ (by omega)
        have hmm : nl (x * x) * (k / 2) ≤ 2 * nl x * (k / 2) := Nat.mul_le_mul_right _ (by omega)
        have hbN : nl (x * x) * (k / 2) + nl o ≤ 16001 := by omega
        have hxxb : nl (x * x) ≤ 16001 := by have := Nat.le_mul_of_pos_right (nl (x * x)) (show 0 < k / 2 by omega); omega
        replace hbN := Lib.hid hbN
        replace h0 := Lib.hid h0
        clear hbs hbd' hxk hmm
        go_wp2_with (fail)
        refine (mul_c X cx x X cx x wr hX hX hG1 (by omega) (by omega)).mono ?_
        rintro e w2 ⟨Z, cz, rfl, hZ, hb2⟩
        go_wp2_with (fail)
        go_roundw
        case rel => exact ⟨x * x, k / 2, o, Z, cz, O, co, rfl, by congr 1, rfl, by omega, hZ, hO.below hb2, hbr.cons hb2, Lib.hid (by rw [hst.out, heq.out]), hbN, ho, hxxb⟩
        case measure => simp only [intOf]; omega
    · obtain rfl : k = 0 := by omega
      go_wp2_with (fail)
      go_ret
      have := heq.out
      rw [Nat.pow_zero, Nat.mul_one] at this
      rw [← this]
      exact ⟨O, co, rfl, hO, hbr⟩
end Go.Proofs.YtopigejgadnkaaaGreatDoor

namespace Go.Proofs.YtopigejgadnkaaaGreatDoor
open Go.RowKit Go.Shelf
attribute [local go_sem] max2_i min2_i max_two min_two

def vv (n d : Int) : List Int → Int × Int
  | [] => (0, 1)
  | a :: p => ((vv n d p).1 * n + a * (vv n d p).2, (vv n d p).2 * d)
theorem vv_drop (n d : Int) (p : List Int) (j : Nat) (hj : j < p.length) : vv n d (p.drop j) = ((vv n d (p.drop (j + 1))).1 * n + gi p j * (vv n d (p.drop (j + 1))).2, (vv n d (p.drop (j + 1))).2 * d) := by
  have h : p.drop j = gi p j :: p.drop (j + 1) := by
    rw [List.drop_eq_getElem_cons hj]; congr 1; unfold gi; rw [List.getD_eq_getElem?_getD, List.getElem?_eq_getElem hj]; rfl
  rw [h]; rfl
theorem vv_one (n : Int) : ∀ p : List Int, vv n 1 p = (ev n p, 1)
  | [] => rfl
  | a :: p => by rw [vv, vv_one n p, ev]; simp; grind
theorem nl_pow_le (a n : Nat) : nl (a ^ n) ≤ nl a * n + 1 := by
  induction n with
  | zero => rw [Nat.pow_zero, nl_one]; omega
  | succ n ih =>
    rw [Nat.pow_succ]
    cases n with
    | zero => rw [Nat.pow_zero, Nat.one_mul]; omega
    | succ n =>
      by_cases h : a = 0
      · subst h; rw [Nat.mul_zero, nl_zero]; omega
      · have h1 := nl_mul (a ^ (n + 1)) a
        have h2 : nl (a ^ (n + 1)) ≤ nl a * (n + 1) := by
          clear ih h1
          induction n with
          | zero => simp
          | succ n ih2 => rw [Nat.pow_succ]; have := nl_mul (a ^ (n + 1)) a; rw [Nat.mul_add]; omega
        rw [Nat.mul_add, Nat.mul_one]; omega
theorem ipow_pos {a : Int} (h : 0 ≤ a) (n : Nat) : ival false (mg a ^ n) = a ^ n := by
  have h1 : (mg a : Int) = a := by unfold mg; omega
  unfold ival
  rw [if_neg (by decide), Int.natCast_pow, h1]
theorem ipow_f (aA : Option Addr) (ac : Nat) (a : Int) (n : Nat) (w : World) (ha : NatV w aA ac (mg a)) (hG : Flds w) (hb : nl (mg a) * n ≤ 16000) (la : nl (mg a) ≤ 16000) (hn : n ≤ 1048576) (h : 1 ≤ a) (hs : nl (mg a ^ n) ≤ 7) :
    Calls Tryz.prog 8 #[.agg #[.bool (sg a), .slice aA (nl (mg a)) ac], .int .i64 (n : Nat)] w (RetI w (a ^ n)) := by
  have h1a : 1 ≤ mg a := by unfold mg; omega
  replace h : 0 ≤ a := by omega
  have ta : sg a = false := sg_f h
  obtain ⟨b, Eb⟩ : ∃ b : Bool, b = false := ⟨_, rfl⟩
  have er : ival b (mg a ^ n) = a ^ n := by rw [Eb]; exact ipow_pos h n
  have Np : nl (mg a ^ n) ≤ 1073741824 := by have := nl_pow_le (mg a) n; omega
  replace Eb := Lib.hid Eb
  replace h := Lib.hid h
  replace er := Lib.hid er
  obtain ⟨hb1, Ra, Rr⟩ := bx2 w #[.bool false, .slice aA (nl (mg a)) ac] 24 #[.bool false, .slice none 0 0] 24
  replace ha := ha.below hb1
  replace hG := hG.below hb1
  have HBT := hb1
  clear hb1
  have qa0 := Ra.c (i := 0) rfl
  have qa1 := Ra.c (i := 1) rfl
  have qr0 := Rr.c (i := 0) rfl
  have qr1 := Rr.c (i := 1) rfl
  go_enter Tryz.func8, Tryz.ntmps8
  go_wp2_with (fail)
  obtain ⟨p, Ep⟩ : ∃ zq : Nat, zq = mg a ^ n := ⟨_, rfl⟩
  have Lp : nl p ≤ 1073741824 := by rw [Ep]; exact Np
  refine (Calls.mono (R := RetN ((w.alloc (.cells #[.bool false, .slice aA (nl (mg a)) ac] 24)).alloc (.cells #[.bool false, .slice none 0 0] 24)) p) (by rw [Ep]; with_reducible exact (pow_c aA ac (mg a) n _ ha hG hb la (by omega) h1a hs)) ?_)
  replace Ep := Lib.hid Ep
  rintro e W2 ⟨Xp, cp, rfl, hp, hb2⟩
  replace ha := ha.below hb2
  replace hG := hG.below hb2
  replace Ra := Ra.below hb2
  replace qa0 := cbl hb2 qa0
  replace qa1 := cbl hb2 qa1
  replace Rr := Rr.below hb2
  replace qr0 := cbl hb2 qr0
  replace qr1 := cbl hb2 qr1
  replace HBT := Below.cons HBT hb2
  clear hb2
  go_wp2_with (fail)
  obtain ⟨z, Ez⟩ : ∃ zq : Int, zq = ival false p := ⟨_, rfl⟩
  refine (Calls.mono (R := RetI W2 z) (by rw [Ez]; with_reducible exact (imake_c false Xp cp p _ hp Lp)) ?_)
  replace Ez := Lib.hid Ez
  rintro e W3 ⟨Xz, cz, rfl, hz, hb3⟩
  replace ha := ha.below hb3
  replace hG := hG.below hb3
  replace Ra := Ra.below hb3
  replace qa0 := cbl hb3 qa0
  replace qa1 := cbl hb3 qa1
  replace Rr := Rr.below hb3
  replace qr0 := cbl hb3 qr0
  replace qr1 := cbl hb3 qr1
  replace hp := hp.below hb3
  replace HBT := Below.cons HBT hb3
  clear hb3
  have fzr0 := Rr.f (i := 0)
  have fzr1 := Rr.f (i := 1)
  go_wp2_with (fail)
  have hzz : z = (a ^ n) := by rw [Ez.out, Ep.out]; have h := er.out; rw [Eb.out] at h; exact h
  subst hzz
  have RS := Rr.store2 (.bool (sg (((a ^ n))))) (.slice Xz (nl (mg (((a ^ n))))) cz)
  have e0 := RS.c (i := 0) rfl
  have e1 := RS.c (i := 1) rfl
  refine bodyPost_ret (v := .agg #[.bool (sg (((a ^ n)))), .slice Xz (nl (mg (((a ^ n))))) cz]) (by simp [results, Tryz.results8, go_sem, e0, e1]) rfl ?_
  exact ⟨Xz, cz, rfl, (Rr.keep2 (nuB rfl) hz), (Below.store2 HBT (by first | exact Nat.le_refl _ | omega))⟩
def sst (c : Int) (l : List Int) (m : Nat) : List Int := l.take m ++ syn c (l.drop m)
def sls (c : Int) (p : List Int) : Nat → List Int
  | 0 => p
  | i + 1 => sst c (sls c p i) i
theorem sst_len (c : Int) (l : List Int) (m : Nat) : (sst c l m).length = l.length := by
  unfold sst; rw [List.length_append, syn_len, List.length_take, List.length_drop]; omega
theorem sls_len (c : Int) (p : List Int) : ∀ i, (sls c p i).length = p.length
  | 0 => rfl
  | i + 1 => by rw [sls, sst_len, sls_len c p i]
theorem syn_single (c a : Int) : syn c [a] = [a] := by simp [syn]
theorem sst_last (c : Int) (l : List Int) (m : Nat) (h : l.length = m + 1) : sst c l m = l := by
  unfold sst
  have h1 : l.drop m = [gi l m] := by
    rw [List.drop_eq_getElem_cons (by omega), List.drop_eq_nil_of_le (by omega)]
    congr 1; unfold gi; rw [List.getD_eq_getElem?_getD, List.getElem?_eq_getElem (by omega)]; rfl
  rw [h1, syn_single, ← h1, List.take_append_drop]
theorem sst_step (c : Int) (l : List Int) (k : Nat) (h : k + 1 < l.length) : sst c l k = (sst c l (k + 1)).set k (gi (sst c l (k + 1)) k + c * gi (sst c l (k + 1)) (k + 1)) := by
  have hd : l.drop k = gi l k :: l.drop (k + 1) := by
    rw [List.drop_eq_getElem_cons (by omega)]; congr 1; unfold gi; rw [List.getD_eq_getElem?_getD, List.getElem?_eq_getElem (by omega)]; rfl
  have ht : l.take (k + 1) = l.take k ++ [gi l k] := by
    rw [List.take_add_one, List.getElem?_eq_getElem (by omega)]
    unfold gi; rw [List.getD_eq_getElem?_getD, List.getElem?_eq_getElem (by omega)]; rfl
  have hk : (l.take k).length = k := by rw [List.length_take]; omega
  have h1 : gi (sst c l (k + 1)) k = gi l k := by
    unfold sst; rw [ht]; unfold gi
    rw [List.getD_eq_getElem?_getD, List.append_assoc, List.getElem?_append_right (by omega), hk, Nat.sub_self]; rfl
  have h2 : gi (sst c l (k + 1)) (k + 1) = (syn c (l.drop (k + 1))).headD 0 := by
    unfold sst; rw [ht]
    have e : ∀ q : List Int, gi (l.take k ++ [gi l k] ++ q) (k + 1) = q.headD 0 := by
      intro q
      unfold gi
      rw [List.getD_eq_getElem?_getD, List.getElem?_append_right (by simp [hk]), List.length_append, hk]
      simp
      cases q <;> rfl
    exact e _
  rw [h1, h2]
  unfold sst
  rw [hd, ht, syn, List.append_assoc, List.set_append_right _ _ (by omega), hk, Nat.sub_self]
  rfl
theorem gi_set (p : List Int) (k : Nat) (y : Int) (j : Nat) (hk : k < p.length) : gi (p.set k y) j = if j = k then y else gi p j := by
  unfold gi
  rw [List.getD_eq_getElem?_getD, List.getD_eq_getElem?_getD, List.getElem?_set]
  by_cases e : k = j
  · subst e; simp [hk]
  · rw [if_neg e, if_neg (Ne.symm e)]
theorem EncI.put {W : World} {p : List Int} {n k : Nat} {vs : Array Value} (h : EncI W p n vs) (hl : p.length = n) (hk : k < n) (hz : n * 2 ≤ vs.size) {y : Int} {X : Option Addr} {d : Nat} (hN : NatV W X d (mg y)) : EncI W (p.set k y) n ((vs.setIfInBounds (k * 2) (.bool (sg y))).setIfInBounds (k * 2 + 1) (.slice X (nl (mg y)) d)) := fun j hj => by
  rw [gi_set p k y j (by omega)]
  by_cases e : j = k
  · subst e
    rw [if_pos rfl]
    refine ⟨X, d, ?_, ?_, hN⟩
    · rw [Array.getElem?_setIfInBounds_ne (by omega), Array.getElem?_setIfInBounds_self, if_pos (by omega)]
    · rw [Array.getElem?_setIfInBounds_self, if_pos (by simp; omega)]
  · rw [if_neg e]
    obtain ⟨Y, f, h1, h2, h3⟩ := h j hj
    refine ⟨Y, f, ?_, ?_, h3⟩
    · rw [Array.getElem?_setIfInBounds_ne (by omega), Array.getElem?_setIfInBounds_ne (by omega)]; exact h1
    · rw [Array.getElem?_setIfInBounds_ne (by omega), Array.getElem?_setIfInBounds_ne (by omega)]; exact h2
theorem EncI.below {W W' : World} {p : List Int} {n : Nat} {vs : Array Value} (h : EncI W p n vs) (hb : Below W.heap.size W W') : EncI W' p n vs := h.map (fun A c n hN => hN.below hb)
def RowC (W : World) (s g : Nat) (p : List Int) : Prop := ∃ cur, BoxA W g 24 cur ∧ (∀ u ∈ cur.toList, NotU u) ∧ EncI W p p.length cur ∧ p.length * 2 ≤ cur.size ∧ s ≤ g
theorem RowC.below {W W' : World} {s g : Nat} {p : List Int} (h : RowC W s g p) (hb : Below W.heap.size W W') : RowC W' s g p := by
  obtain ⟨cur, h1, h2, h3, h4⟩ := h
  exact ⟨cur, h1.below hb, h2, h3.map (fun A c n hN => hN.below hb), h4⟩
theorem shift_c (V : Option Addr) (cp : Nat) (p : List Int) (cA : Option Addr) (cc : Nat) (c : Int) (w : World) (hP : PolV w V cp p) (hc : NatV w cA cc (mg c)) (hG : Flds w) (h0 : 0 < p.length) (hl : p.length ≤ 1048576) (lc : nl (mg c) ≤ 7)
    (lv : ∀ i m j, nl (mg (gi (sst c (sls c p i) m) j)) ≤ 16000) :
    Calls Tryz.prog 20 #[.slice V p.length cp, .agg #[.bool (sg c), .slice cA (nl (mg c)) cc]] w (RetP w (sls c p p.length)) := by
  obtain ⟨n, En⟩ : ∃ n, n = p.length := ⟨_, rfl⟩
  have hc0 := hc
  have hG0 := hG
  obtain ⟨hb1, Rc⟩ := bx1 w #[.bool (sg c), .slice cA (nl (mg c)) cc] 24
  replace hc := hc.below hb1
  replace hP := hP.below hb1
  replace hG := hG.below hb1
  have HBT := hb1
  clear hb1
  have qc0 := Rc.c (i := 0) rfl
  have qc1 := Rc.c (i := 1) rfl
  have CC := clonep_c V cp p _ hP h0 hl
  rw [← En] at h0 hl ⊢
  clear hP
  have CC2 := CC
  rw [← En] at CC2
  replace CC := Lib.hid CC
  replace CC2 := Lib.hid CC2
  replace En := Lib.hid En
  replace lv := Lib.hid lv
  clear CC
  go_enter Tryz.func20, Tryz.ntmps20
  go_wp2_with (fail)
  refine CC2.out.mono ?_
  rintro e W1 ⟨g, cap, cur, rfl, hgs, hB, hU, hE, hz, hnc, hcm, hb1⟩
  replace hc := hc.below hb1
  replace hG := hG.below hb1
  replace Rc := Rc.below hb1
  replace qc0 := cbl hb1 qc0
  replace qc1 := cbl hb1 qc1
  replace HBT := Below.cons HBT hb1
  clear hb1 CC2
  have hsg : w.heap.size + 1 ≤ g := by simpa using hgs
  have RW0 : RowC W1 (w.heap.size + 1) g (sls c p 0) := ⟨cur, hB, hU, hE, hz, hsg⟩
  clear hB hU hE hz hgs
  replace RW0 := Lib.hid RW0
  rw [← En.out]
  have S0 := Lib.hid (And.intro Rc HBT)
  clear qc0
  clear qc1
  clear hc
  clear hG
  clear Rc
  clear HBT
  go_wp2_with (fail)
  go_loopw [12] (fun v12 wr => ∃ i : Nat, v12 = .int .i64 i ∧ i ≤ n ∧ RowC wr (w.heap.size + 1) g (sls c p i) ∧ BoxA wr w.heap.size 24 #[.bool (sg c), .slice cA (nl (mg c)) cc] ∧ Below w.heap.size w wr) (fun v12 wr => n - (intOf v12).toNat)
  case atStart => exact ⟨0, rfl, Nat.zero_le _, RW0.out, S0.out.1, S0.out.2⟩
  case round =>
    obtain ⟨i, rfl, hin, hR, Rc, HBT⟩ := hrel
    clear RW0 S0
    by_cases hlt : i < n
    · skip
      have t1 : decide ((i : Int) < (n : Int)) = true := by simp; omega
      have t2 : decide (i < n) = true := by simp; omega
      have Wi : IntKind.i64.wrap ((i : Int) + 1) = ((i + 1 : Nat) : Int) := by rw [show (i : Int) + 1 = ((i + 1 : Nat) : Int) by omega]; exact IntWalk.i64_in _ (by omega)
      obtain ⟨l, El⟩ : ∃ l, l = sls c p i := ⟨_, rfl⟩
      rw [← El] at hR
      have hll : l.length = n := by rw [El, sls_len, En.out]
      have lvl : ∀ m j, nl (mg (gi (sst c l m) j)) ≤ 16000 := fun m j => by rw [El]; exact lv.out i m j
      have Wn : IntKind.i64.wrap ((n : Int) - 2) = (n : Int) - 2 := IntWalk.i64_in _ (by omega)
      have hR1 : RowC wr (w.heap.size + 1) g (sst c l (n - 1)) := by rw [sst_last c l (n - 1) (by omega)]; exact hR
      clear hR
      have In : (n : Int) - 2 = (((n - 1 : Nat)) : Int) - 1 := by omega
      replace In := Lib.hid In
      replace El := Lib.hid El
      replace lvl := Lib.hid lvl
      replace hR1 := Lib.hid hR1
      go_wp2_with (fail)
      go_loopw [7] (fun v7 w2 => ∃ m : Nat, v7 = .int .i64 ((m : Int) - 1) ∧ i ≤ m ∧ m ≤ n - 1 ∧ RowC w2 (w.heap.size + 1) g (sst c l m) ∧ BoxA w2 w.heap.size 24 #[.bool (sg c), .slice cA (nl (mg c)) cc] ∧ Below w.heap.size w w2) (fun v7 w2 => (intOf v7 + 1).toNat)
      case atStart => exact ⟨n - 1, by rw [← In.out], by omega, Nat.le_refl _, hR1.out, Rc, HBT⟩
      case round =>
        clear hR1 Rc HBT
        obtain ⟨m, rfl, him, hmn, hRw, Rc, HBT⟩ := hrel
        by_cases hmi : i < m
        · skip
          obtain ⟨k, rfl⟩ : ∃ k, m = k + 1 := ⟨m - 1, by omega⟩
          rw [show (((k + 1 : Nat) : Int) - 1) = (k : Int) by omega]
          have u1 : decide ((i : Int) ≤ (k : Int)) = true := by simp; omega
          have u2 : decide (i ≤ k) = true := by simp; omega
          have hRw2 := hRw
          obtain ⟨cur, hBr, hU, hEr, hz, hsg2⟩ := hRw2
          clear hRw
          rw [sst_len, hll] at hEr hz
          have hkn : k + 1 < n := by omega
          obtain ⟨X, dx, x0, x1, hx⟩ := hEr k (by omega)
          obtain ⟨Y, dy, y0, y1, hy⟩ := hEr (k + 1) hkn
          obtain ⟨x, Ex⟩ : ∃ z, z = gi (sst c l (k + 1)) k := ⟨_, rfl⟩
          obtain ⟨y, Ey⟩ : ∃ z, z = gi (sst c l (k + 1)) (k + 1) := ⟨_, rfl⟩
          have lx : nl (mg x) ≤ 16000 := by rw [Ex]; exact lvl.out (k + 1) k
          have ly : nl (mg y) ≤ 16000 := by rw [Ey]; exact lvl.out (k + 1) (k + 1)
          rw [← Ex] at x0 x1 hx
          rw [← Ey] at y0 y1 hy
          have SS := sst_step c l k (by omega)
          rw [← Ex, ← Ey] at SS
          have xc0 := hBr.c x0
          have xc1 := hBr.c x1
          have yc0 := hBr.c y0
          have yc1 := hBr.c y1
          have hc := hc0.below HBT
          have hG := hG0.below HBT
          have Wk : IntKind.i64.wrap ((k : Int) + 1) = ((k + 1 : Nat) : Int) := by rw [show (k : Int) + 1 = ((k + 1 : Nat) : Int) by omega]; exact IntWalk.i64_in _ (by omega)
          have Wk2 : IntKind.i64.wrap ((k : Int) - 1) = (k : Int) - 1 := IntWalk.i64_in _ (by omega)
          obtain ⟨k1, Ek1⟩ : ∃ k1, k1 = k + 1 := ⟨_, rfl⟩
          rw [← Ek1] at Wk yc0 yc1
          have Wk1 : IntKind.i64.wrap (k1 : Int) = (k1 : Int) := IntWalk.i64_in _ (by omega)
          have Ik1 : (k : Int) + 1 = (k1 : Int) := by omega
          have g1 : (0 : Int) ≤ (k : Int) := Int.natCast_nonneg k
          have g2 : (k : Int) < (n : Int) := by omega
          have g3 : IntKind.i64.wrap (k : Int) = (k : Int) := IntWalk.i64_in _ (by omega)
          have g4 : (0 : Int) ≤ (k1 : Int) := Int.natCast_nonneg k1
          have g5 : (k1 : Int) < (n : Int) := by omega
          have g6 : k < n := by omega
          have g7 : k1 < n := by omega
          have qc0 := Rc.c (i := 0) rfl
          have qc1 := Rc.c (i := 1) rfl
          obtain ⟨m1, Em1⟩ : ∃ zq : Int, zq = c * y := ⟨_, rfl⟩
          have l1 : nl (mg m1) ≤ 40000 := by rw [Em1]; have := nl_imul c y; omega
          obtain ⟨z, Ez⟩ : ∃ zq : Int, zq = x + m1 := ⟨_, rfl⟩
          have C1 := fun (W : World) (h1 : NatV W cA cc (mg c)) (h2 : NatV W Y dy (mg y)) (hG : Flds W) => imul_c cA cc c Y dy y W h1 h2 hG (by omega) (by omega)
          rw [← Em1] at C1
          replace C1 := Lib.hid C1
          have C2 := fun (W : World) (A : Option Addr) (d : Nat) (h1 : NatV W X dx (mg x)) (h2 : NatV W A d (mg m1)) => iadd_c X dx x A d m1 W h1 h2 (by omega) (by omega)
          rw [← Ez] at C2
          replace C2 := Lib.hid C2
          rw [← Em1, ← Ez] at SS
          replace Ex := Lib.hid Ex
          replace Ey := Lib.hid Ey
          replace Em1 := Lib.hid Em1
          replace Ez := Lib.hid Ez
          replace SS := Lib.hid SS
          replace Ek1 := Lib.hid Ek1
          go_wp2_with (fail)
          refine wp_region_fin 15 1 [.val (.slice (some ⟨g, 0, none⟩) n cap), .val (.int .i64 (k : Int)), .val (.slice (some ⟨g, 0, none⟩) n cap), .val (.int .i64 (k : Int)), .val (.pointer (some ⟨g, k * 2, none⟩)), .val (.agg #[.bool (sg x), .slice X (nl (mg x)) dx]), .val (.agg #[.bool (sg c), .slice cA (nl (mg c)) cc]), .val (.slice (some ⟨g, 0, none⟩) n cap), .val (.int .i64 (k : Int)), .val (.int .i64 (k1 : Int)), .val (.pointer (some ⟨g, k1 * 2, none⟩)), .val (.agg #[.bool (sg y), .slice Y (nl (mg y)) dy]), .int m1, .int z, .val (.pointer (some ⟨g, k * 2, none⟩))] (by kernel_rfl) (by kernel_rfl) (by kernel_rfl) (by kernel_rfl) (by kernel_rfl) rfl ?_ ?_
          · skip
            refine ⟨?_, ?_⟩
            · intro Ew aw wc st hdep
              have t5 : aw.tmps[5]? = some (.slice (some ⟨g, 0, none⟩) n cap) := (st.old 5 (by kernel_rfl)).trans (by rfl)
              have e5 := tmp_of t5
              refine op_want rfl (by rfl) (fun K' hK' => ?_)
              go_simp
              exact hK'.out _ _ ⟨_, rfl, rfl, Below.refl _ _⟩
            refine ⟨?_, ?_⟩
            · intro Ew aw wc st hdep
              have t7 : aw.tmps[7]? = some (.int .i64 (k : Int)) := (st.old 7 (by kernel_rfl)).trans (by rfl)
              have e7 := tmp_of t7
              refine op_want rfl (by rfl) (fun K' hK' => ?_)
              go_simp
              exact hK'.out _ _ ⟨_, rfl, rfl, Below.refl _ _⟩
            refine ⟨?_, ?_⟩
            · intro Ew aw wc st hdep
              have t5 : aw.tmps[5]? = some (.slice (some ⟨g, 0, none⟩) n cap) := (st.old 5 (by kernel_rfl)).trans (by rfl)
              have e5 := tmp_of t5
              refine op_want rfl (by rfl) (fun K' hK' => ?_)
              go_simp
              exact hK'.out _ _ ⟨_, rfl, rfl, Below.refl _ _⟩
            refine ⟨?_, ?_⟩
            · intro Ew aw wc st hdep
              have t7 : aw.tmps[7]? = some (.int .i64 (k : Int)) := (st.old 7 (by kernel_rfl)).trans (by rfl)
              have e7 := tmp_of t7
              refine op_want rfl (by rfl) (fun K' hK' => ?_)
              go_simp
              exact hK'.out _ _ ⟨_, rfl, rfl, Below.refl _ _⟩
            refine ⟨?_, ?_⟩
            · intro Ew aw wc st hdep
              obtain ⟨v25, t25, r25⟩ := st.nw hdep 2 25
              obtain rfl : v25 = .slice (some ⟨g, 0, none⟩) n cap := r25
              obtain ⟨v26, t26, r26⟩ := st.nw hdep 3 26
              obtain rfl : v26 = .int .i64 (k : Int) := r26
              have e25 := tmp_of t25
              have e26 := tmp_of t26
              refine op_want rfl (by rfl) (fun K' hK' => ?_)
              go_simp
              exact hK'.out _ _ ⟨_, rfl, rfl, Below.refl _ _⟩
            refine ⟨?_, ?_⟩
            · intro Ew aw wc st hdep
              obtain ⟨v27, t27, r27⟩ := st.nw hdep 4 27
              obtain rfl : v27 = .pointer (some ⟨g, k * 2, none⟩) := r27
              have xc0 := cbl st.b xc0
              have xc1 := cbl st.b xc1
              have e27 := tmp_of t27
              refine op_want rfl (by rfl) (fun K' hK' => ?_)
              go_simp
              exact hK'.out _ _ ⟨_, rfl, rfl, Below.refl _ _⟩
            refine ⟨?_, ?_⟩
            · intro Ew aw wc st hdep
              have t3 : aw.tmps[3]? = some (.pointer (some ⟨w.heap.size, 0, none⟩)) := (st.old 3 (by kernel_rfl)).trans (by rfl)
              have qc0 := cbl st.b qc0
              have qc1 := cbl st.b qc1
              have e3 := tmp_of t3
              refine op_want rfl (by rfl) (fun K' hK' => ?_)
              go_simp
              exact hK'.out _ _ ⟨_, rfl, rfl, Below.refl _ _⟩
            refine ⟨?_, ?_⟩
            · intro Ew aw wc st hdep
              have t5 : aw.tmps[5]? = some (.slice (some ⟨g, 0, none⟩) n cap) := (st.old 5 (by kernel_rfl)).trans (by rfl)
              have e5 := tmp_of t5
              refine op_want rfl (by rfl) (fun K' hK' => ?_)
              go_simp
              exact hK'.out _ _ ⟨_, rfl, rfl, Below.refl _ _⟩
            refine ⟨?_, ?_⟩
            · intro Ew aw wc st hdep
              have t7 : aw.tmps[7]? = some (.int .i64 (k : Int)) := (st.old 7 (by kernel_rfl)).trans (by rfl)
              have e7 := tmp_of t7
              refine op_want rfl (by rfl) (fun K' hK' => ?_)
              go_simp
              exact hK'.out _ _ ⟨_, rfl, rfl, Below.refl _ _⟩
            refine ⟨?_, ?_⟩
            · intro Ew aw wc st hdep
              obtain ⟨v31, t31, r31⟩ := st.nw hdep 8 31
              obtain rfl : v31 = .int .i64 (k : Int) := r31
              have e31 := tmp_of t31
              refine op_want rfl (by rfl) (fun K' hK' => ?_)
              go_simp
              exact hK'.out _ _ ⟨_, rfl, rfl, Below.refl _ _⟩
            refine ⟨?_, ?_⟩
            · intro Ew aw wc st hdep
              obtain ⟨v30, t30, r30⟩ := st.nw hdep 7 30
              obtain rfl : v30 = .slice (some ⟨g, 0, none⟩) n cap := r30
              obtain ⟨v32, t32, r32⟩ := st.nw hdep 9 32
              obtain rfl : v32 = .int .i64 (k1 : Int) := r32
              have e30 := tmp_of t30
              have e32 := tmp_of t32
              refine op_want rfl (by rfl) (fun K' hK' => ?_)
              go_simp
              exact hK'.out _ _ ⟨_, rfl, rfl, Below.refl _ _⟩
            refine ⟨?_, ?_⟩
            · intro Ew aw wc st hdep
              obtain ⟨v33, t33, r33⟩ := st.nw hdep 10 33
              obtain rfl : v33 = .pointer (some ⟨g, k1 * 2, none⟩) := r33
              have yc0 := cbl st.b yc0
              have yc1 := cbl st.b yc1
              have e33 := tmp_of t33
              refine op_want rfl (by rfl) (fun K' hK' => ?_)
              go_simp
              exact hK'.out _ _ ⟨_, rfl, rfl, Below.refl _ _⟩
            refine ⟨?_, ?_⟩
            · intro Ew aw wc st hdep
              obtain ⟨v29, t29, r29⟩ := st.nw hdep 6 29
              obtain rfl : v29 = .agg #[.bool (sg c), .slice cA (nl (mg c)) cc] := r29
              obtain ⟨v34, t34, r34⟩ := st.nw hdep 11 34
              obtain rfl : v34 = .agg #[.bool (sg y), .slice Y (nl (mg y)) dy] := r34
              have e29 := tmp_of t29
              have e34 := tmp_of t34
              refine op_want rfl (by rfl) (fun K' hK' => ?_)
              go_simp
              refine (Calls.mono (R := RetI wc m1) (C1.out wc (hc.below st.b) (hy.below st.b) (hG.below st.b)) ?_)
              rintro e W ⟨X, c, rfl, hX, kb⟩
              exact hK'.out _ _ ⟨_, rfl, ⟨X, c, rfl, hX⟩, kb⟩
            refine ⟨?_, ?_⟩
            · intro Ew aw wc st hdep
              obtain ⟨v28, t28, r28⟩ := st.nw hdep 5 28
              obtain rfl : v28 = .agg #[.bool (sg x), .slice X (nl (mg x)) dx] := r28
              obtain ⟨v35, t35, r35⟩ := st.nw hdep 12 35
              obtain ⟨X35, c35, rfl, h35⟩ := r35
              have e28 := tmp_of t28
              have e35 := tmp_of t35
              refine op_want rfl (by rfl) (fun K' hK' => ?_)
              go_simp
              refine (Calls.mono (R := RetI wc z) (C2.out wc _ _ (hx.below st.b) h35) ?_)
              rintro e W ⟨X, c, rfl, hX, kb⟩
              exact hK'.out _ _ ⟨_, rfl, ⟨X, c, rfl, hX⟩, kb⟩
            refine ⟨?_, ?_⟩
            · intro Ew aw wc st hdep
              obtain ⟨v23, t23, r23⟩ := st.nw hdep 0 23
              obtain rfl : v23 = .slice (some ⟨g, 0, none⟩) n cap := r23
              obtain ⟨v24, t24, r24⟩ := st.nw hdep 1 24
              obtain rfl : v24 = .int .i64 (k : Int) := r24
              have e23 := tmp_of t23
              have e24 := tmp_of t24
              refine op_want rfl (by rfl) (fun K' hK' => ?_)
              go_simp
              exact hK'.out _ _ ⟨_, rfl, rfl, Below.refl _ _⟩
            exact trivial
          intro vs wc hr hB
          obtain ⟨u23, r_23, rfl, k23, hr_23⟩ := hr.un
          obtain rfl : u23 = .slice (some ⟨g, 0, none⟩) n cap := k23
          obtain ⟨u24, r_24, rfl, k24, hr_24⟩ := hr_23.un
          obtain rfl : u24 = .int .i64 (k : Int) := k24
          obtain ⟨u25, r_25, rfl, k25, hr_25⟩ := hr_24.un
          obtain rfl : u25 = .slice (some ⟨g, 0, none⟩) n cap := k25
          obtain ⟨u26, r_26, rfl, k26, hr_26⟩ := hr_25.un
          obtain rfl : u26 = .int .i64 (k : Int) := k26
          obtain ⟨u27, r_27, rfl, k27, hr_27⟩ := hr_26.un
          obtain rfl : u27 = .pointer (some ⟨g, k * 2, none⟩) := k27
          obtain ⟨u28, r_28, rfl, k28, hr_28⟩ := hr_27.un
          obtain rfl : u28 = .agg #[.bool (sg x), .slice X (nl (mg x)) dx] := k28
          obtain ⟨u29, r_29, rfl, k29, hr_29⟩ := hr_28.un
          obtain rfl : u29 = .agg #[.bool (sg c), .slice cA (nl (mg c)) cc] := k29
          obtain ⟨u30, r_30, rfl, k30, hr_30⟩ := hr_29.un
          obtain rfl : u30 = .slice (some ⟨g, 0, none⟩) n cap := k30
          obtain ⟨u31, r_31, rfl, k31, hr_31⟩ := hr_30.un
          obtain rfl : u31 = .int .i64 (k : Int) := k31
          obtain ⟨u32, r_32, rfl, k32, hr_32⟩ := hr_31.un
          obtain rfl : u32 = .int .i64 (k1 : Int) := k32
          obtain ⟨u33, r_33, rfl, k33, hr_33⟩ := hr_32.un
          obtain rfl : u33 = .pointer (some ⟨g, k1 * 2, none⟩) := k33
          obtain ⟨u34, r_34, rfl, k34, hr_34⟩ := hr_33.un
          obtain rfl : u34 = .agg #[.bool (sg y), .slice Y (nl (mg y)) dy] := k34
          obtain ⟨u35, r_35, rfl, k35, hr_35⟩ := hr_34.un
          obtain ⟨X35, c35, rfl, h35⟩ := k35
          obtain ⟨u36, r_36, rfl, k36, hr_36⟩ := hr_35.un
          obtain ⟨X36, c36, rfl, h36⟩ := k36
          obtain ⟨u37, r_37, rfl, k37, hr_37⟩ := hr_36.un
          obtain rfl : u37 = .pointer (some ⟨g, k * 2, none⟩) := k37
          obtain rfl := hr_37.nil
          clear hr hr_23 hr_24 hr_25 hr_26 hr_27 hr_28 hr_29 hr_30 hr_31 hr_32 hr_33 hr_34 hr_35 hr_36 hr_37
          replace Rc := Rc.below hB
          replace hBr := hBr.below hB
          replace hEr := hEr.below hB
          replace HBT := Below.cons HBT hB
          clear hB
          simp only [upTo, List.take_succ_cons, List.take_zero, putAll, Act.put, seq0, seq1, seq2]
          have z0 := hBr.c x0
          have z1 := hBr.c x1
          have f0 := hBr.f (i := k * 2)
          have f1 := hBr.f (i := k * 2 + 1)
          have hB3 := hBr.stepP k (.bool (sg z)) (.slice X36 (nl (mg z)) c36)
          have hE3 := (hEr.put (k := k) (by rw [sst_len, hll]) (by omega) hz (X := X36) (d := c36) (y := z) h36).map (fun A c n h => hBr.keep hU (fun j hj => setP_far (v0 := .bool (sg z)) (v1 := .slice X36 (nl (mg z)) c36) (i := k) j hj) h)
          rw [← SS.out] at hE3
          have hbg : w.heap.size ≠ g := by omega
          have Rc3 : BoxA _ w.heap.size 24 #[.bool (sg c), .slice cA (nl (mg c)) cc] := ⟨(setP_far (v0 := .bool (sg z)) (v1 := .slice X36 (nl (mg z)) c36) (i := k) w.heap.size hbg).trans Rc.at_⟩
          have hsge : w.heap.size ≤ g := by omega
          have HB3 : Below w.heap.size w _ := (HBT.setCell (p := ⟨g, k * 2, none⟩) hsge (.bool (sg z))).setCell (p := ⟨g, k * 2 + 1, none⟩) hsge (.slice X36 (nl (mg z)) c36)
          have hu4 := notU_set (i := k * 2 + 1) (v := .slice X36 (nl (mg z)) c36) (notU_set (i := k * 2) (v := .bool (sg z)) hU (notU_bool _)) (notU_slice _ _ _)
          have hz4 : n * 2 ≤ ((cur.setIfInBounds (k * 2) (.bool (sg z))).setIfInBounds (k * 2 + 1) (.slice X36 (nl (mg z)) c36)).size := by simpa using hz
          have HD := Lib.hid (And.intro (And.intro hB3 (And.intro hu4 (And.intro hE3 hz4))) (And.intro Rc3 HB3))
          clear hB3 hE3 Rc3 HB3 hu4 hz4
          refine TailP.one rfl (by rfl) (fun K' hK' => ?_)
          go_simp
          refine hK'.out _ _ ?_
          try simp only [Act.put, seq0, seq1, seq2]
          refine TailP.done ?_
          clear z0 z1 f0 f1
          go_wp2_with (fail)
          go_roundw
          case rel => exact ⟨k, rfl, by omega, by omega, ⟨_, HD.out.1.1, HD.out.1.2.1, by rw [sst_len, hll]; exact HD.out.1.2.2.1, by rw [sst_len, hll]; exact HD.out.1.2.2.2, hsg2⟩, HD.out.2.1, HD.out.2.2⟩
          case measure => simp only [intOf]; omega
        · skip
          obtain rfl : m = i := by omega
          have u1 : decide ((m : Int) ≤ (m : Int) - 1) = false := by simp; omega
          have hR2 : RowC wr (w.heap.size + 1) g (sls c p (m + 1)) := by rw [sls, ← El.out]; exact hRw
          clear hRw
          replace hR2 := Lib.hid hR2
          go_wp2_with (fail)
          go_roundw
          case rel => exact ⟨m + 1, by go_num, by omega, hR2.out, Rc, HBT⟩
          case measure => simp [intOf]; omega
    · skip
      obtain rfl : i = n := by omega
      have t1 : decide ((i : Int) < (i : Int)) = false := by simp
      have HF : RetP w (sls c p i) (.returned (.slice (some ⟨g, 0, none⟩) i cap)) wr := by
        obtain ⟨cur, hB, hU, hE, hz, _⟩ := hR
        have hl2 : (sls c p i).length = i := by rw [sls_len, En.out]
        exact ⟨some ⟨g, 0, none⟩, cap, by rw [hl2], polV_of hB hE (by rw [sls_len]; exact hnc) hcm, HBT⟩
      clear hR
      replace HF := Lib.hid HF
      go_wp2_with (fail)
      exact bodyPost_ret (v := .slice (some ⟨g, 0, none⟩) i cap) (by simp [results, Tryz.results20, go_sem]) rfl HF.out
theorem sls_split (c : Int) (p : List Int) : ∀ i, i ≤ p.length → ∃ Q : List Int, sls c p i = (List.range i).map (fun k => hs c k p) ++ Q ∧ Q.length = p.length - i ∧ ∀ j, hs c j Q = hs c (i + j) p
  | 0, _ => ⟨p, by simp [sls], by simp, fun j => by rw [Nat.zero_add]⟩
  | i + 1, hi => by
    obtain ⟨Q, h1, h2, h3⟩ := sls_split c p i (by omega)
    cases Q with
    | nil => simp at h2; omega
    | cons a q =>
      refine ⟨syn c q, ?_, by rw [syn_len]; simp at h2; omega, fun j => by rw [hs_syn c q a j, h3 (j + 1), show i + (j + 1) = i + 1 + j by omega]⟩
      have hl : ((List.range i).map (fun k => hs c k p)).length = i := by simp
      rw [sls, sst, h1, List.take_left' hl, List.drop_left' hl]
      have e : a + c * (syn c q).headD 0 = hs c i p := by
        rw [syn_head, ← hs_zero]
        have h := h3 0
        rw [hs, Nat.add_zero] at h
        exact h
      rw [syn, e, List.range_succ, List.map_append, List.append_assoc]
      rfl
theorem gi_sls (c : Int) (p : List Int) (i : Nat) (h : i < p.length) : gi (sls c p p.length) i = hs c i p := by
  obtain ⟨Q, h1, h2, _⟩ := sls_split c p p.length (Nat.le_refl _)
  have hq : Q = [] := List.eq_nil_of_length_eq_zero (by omega)
  rw [h1, hq, List.append_nil]
  unfold gi
  rw [List.getD_eq_getElem?_getD, List.getElem?_map, List.getElem?_range h]
  rfl
def Wi (B : Nat) (p : List Int) : Prop := ∀ x ∈ p, x.natAbs ≤ B
theorem Wi.gi {B : Nat} {p : List Int} (h : Wi B p) (j : Nat) : (gi p j).natAbs ≤ B := by
  unfold Go.Proofs.YtopigejgadnkaaaGreatDoor.gi
  rw [List.getD_eq_getElem?_getD]
  cases hx : p[j]? with
  | none => exact Nat.zero_le _
  | some x => exact h x (List.mem_of_getElem? hx)
theorem Wi.mono {B C : Nat} {p : List Int} (h : Wi B p) (hb : B ≤ C) : Wi C p := fun x hx => Nat.le_trans (h x hx) hb
theorem natAbs_step (a c s : Int) {B C S : Nat} (ha : a.natAbs ≤ B) (hc : c.natAbs ≤ C) (hs : s.natAbs ≤ S) : (a + c * s).natAbs ≤ B + C * S := by
  have h1 := Int.natAbs_add_le a (c * s)
  have h2 : (c * s).natAbs ≤ C * S := by rw [Int.natAbs_mul]; exact Nat.mul_le_mul hc hs
  omega
def up (C : Nat) : Nat → Nat
  | 0 => 0
  | n + 1 => 1 + C * up C n
theorem wi_syn {c : Int} {B C : Nat} (hc : c.natAbs ≤ C) (hC : 1 ≤ C) : ∀ p : List Int, Wi B p → Wi (B * up C p.length) (syn c p)
  | [], _ => fun x hx => by simp [syn] at hx
  | a :: p, h => by
    have ih := wi_syn hc hC p (fun x hx => h x (List.mem_cons_of_mem _ hx))
    have ha := h a (List.mem_cons_self ..)
    have hh : ((syn c p).headD 0).natAbs ≤ B * up C p.length := by
      cases hq : syn c p with
      | nil => exact Nat.zero_le _
      | cons y q => rw [hq] at ih; exact ih y (List.mem_cons_self ..)
    have e : B * up C (a :: p).length = B + C * (B * up C p.length) := by
      simp only [List.length_cons, up]; rw [Nat.mul_add, Nat.mul_one, Nat.mul_left_comm]
    intro x hx
    rw [syn, List.mem_cons] at hx
    rw [e]
    rcases hx with rfl | hx
    · exact natAbs_step _ _ _ ha hc hh
    · have h1 := ih x hx
      have h2 : B * up C p.length ≤ C * (B * up C p.length) := Nat.le_mul_of_pos_left _ hC
      omega
theorem up_mono {C m n : Nat} (hC : 1 ≤ C) (h : m ≤ n) : up C m ≤ up C n := by
  induction n with
  | zero => obtain rfl : m = 0 := by omega
            exact Nat.le_refl _
  | succ n ih =>
    by_cases e : m = n + 1
    · rw [e]; exact Nat.le_refl _
    · have h1 := ih (by omega)
      have h2 : up C n ≤ C * up C n := Nat.le_mul_of_pos_left _ hC
      simp only [up]; omega
theorem wi_sst {c : Int} {B C n : Nat} (hc : c.natAbs ≤ C) (hC : 1 ≤ C) {p : List Int} (h : Wi B p) (hp : p.length ≤ n + 1) (m : Nat) : Wi (B * up C (n + 1)) (sst c p m) := by
  intro x hx
  unfold sst at hx
  rw [List.mem_append] at hx
  have h1 : 1 ≤ up C (n + 1) := by simp only [up]; omega
  rcases hx with hx | hx
  · exact Nat.le_trans (h x (List.mem_of_mem_take hx)) (Nat.le_mul_of_pos_right _ h1)
  · have h2 := wi_syn hc hC (p.drop m) (fun y hy => h y (List.mem_of_mem_drop hy)) x hx
    refine Nat.le_trans h2 (Nat.mul_le_mul_left _ (up_mono hC ?_))
    rw [List.length_drop]; omega
theorem sls_far (c : Int) (p : List Int) : ∀ i, p.length ≤ i → sls c p (i + 1) = sls c p i := fun i h => by
  rw [sls, sst, List.take_of_length_le (by rw [sls_len]; exact h), List.drop_eq_nil_of_le (by rw [sls_len]; exact h), syn, List.append_nil]
theorem wi_sls {c : Int} {B C n : Nat} (hc : c.natAbs ≤ C) (hC : 1 ≤ C) {p : List Int} (h : Wi B p) (hp : p.length ≤ n + 1) : ∀ i, Wi (B * (up C (n + 1)) ^ (n + 1)) (sls c p i)
  | 0 => by
    have h1 : 1 ≤ up C (n + 1) := by simp only [up]; omega
    exact h.mono (Nat.le_mul_of_pos_right _ (Nat.pow_pos h1))
  | i + 1 => by
    have key : ∀ i, i ≤ n + 1 → Wi (B * (up C (n + 1)) ^ i) (sls c p i) := by
      intro i
      induction i with
      | zero => intro _; rw [Nat.pow_zero, Nat.mul_one]; exact h
      | succ i ih =>
        intro hi
        rw [sls, Nat.pow_succ, ← Nat.mul_assoc]
        exact wi_sst hc hC (ih (by omega)) (by rw [sls_len]; exact hp) i
    have h1 : 1 ≤ up C (n + 1) := by simp only [up]; omega
    have far : ∀ k, Wi (B * (up C (n + 1)) ^ (n + 1)) (sls c p (n + 1 + k)) := by
      intro k
      induction k with
      | zero => exact key (n + 1) (Nat.le_refl _)
      | succ k ih => rw [← Nat.add_assoc, sls_far c p _ (by omega)]; exact ih
    by_cases hi : i + 1 ≤ n + 1
    · exact (key (i + 1) hi).mono (Nat.mul_le_mul_left _ (Nat.pow_le_pow_right h1 hi))
    · rw [show i + 1 = n + 1 + (i - n) by omega]; exact far _
theorem wi_der {B n : Nat} {p : List Int} (h : Wi B p) (hp : p.length ≤ n + 1) : Wi (B * n) (der p) := by
  cases p with
  | nil => exact fun x hx => by simp [der] at hx
  | cons a p =>
    intro x hx
    simp only [der] at hx
    rw [List.mem_mapIdx] at hx
    obtain ⟨i, hi, rfl⟩ := hx
    rw [Int.natAbs_mul]
    refine Nat.mul_le_mul (h _ (List.mem_cons_of_mem _ (List.getElem_mem hi))) ?_
    simp at hp; omega
theorem wi_ders {B n : Nat} (hn : 1 ≤ n) : ∀ (i : Nat) {p : List Int}, Wi B p → p.length ≤ n + 1 → Wi (B * n ^ i) (ders i p)
  | 0, p, h, _ => by rw [Nat.pow_zero, Nat.mul_one]; exact h
  | i + 1, p, h, hp => by
    have h1 := wi_ders hn i (wi_der h hp) (by rw [der_len]; omega)
    rw [ders, Nat.pow_succ, Nat.mul_comm (n ^ i) n, ← Nat.mul_assoc]; exact h1
theorem ders_len : ∀ (i : Nat) (p : List Int), (ders i p).length = p.length - i
  | 0, p => rfl
  | i + 1, p => by rw [ders, ders_len i, der_len]; omega
theorem fac_le : ∀ i, i ≤ 7 → 1 ≤ fac i ∧ fac i ≤ 5040 := by
  intro i hi
  rcases (show i = 0 ∨ i = 1 ∨ i = 2 ∨ i = 3 ∨ i = 4 ∨ i = 5 ∨ i = 6 ∨ i = 7 by omega) with rfl | rfl | rfl | rfl | rfl | rfl | rfl | rfl <;> decide
theorem wi_ev {c : Int} {B C : Nat} (hc : c.natAbs ≤ C) (hC : 1 ≤ C) (p : List Int) (h : Wi B p) : (ev c p).natAbs ≤ B * up C p.length := by
  have h1 := wi_syn hc hC p h
  rw [← syn_head]
  cases hq : syn c p with
  | nil => exact Nat.zero_le _
  | cons y q => rw [hq] at h1; exact h1 y (List.mem_cons_self ..)
theorem taylor_q (c : Int) (p : List Int) (i : Nat) (h : i < p.length) : Rat.divInt (vv c 1 (ders i p)).1 ((1 : Int) ^ ((ders i p).length - 1)) = ((fac i * gi (sls c p p.length) i : Int) : Rat) := by
  rw [vv_one, Int.one_pow, gi_sls c p i h, taylor]
  generalize fac i * hs c i p = z
  rw [← Rat.num_divInt_den (z : Rat)]; simp
theorem retC_P {w w' : World} {p : List Int} {e : Ending} (h : RetC w p e w') : RetP w p e w' := by
  obtain ⟨g, cap, cur, h1, _, h3, _, h5, _, h7, h8, h9⟩ := h
  exact ⟨some ⟨g, 0, none⟩, cap, h1, polV_of h3 h5 h7 h8, h9⟩
theorem each_ps1 (V : Option Addr) (c : Nat) (p : List Int) (kl : Nat) (w : World) (hP : PolV w V c p) (hl : p.length ≤ 1048576) (g : Nat → Int → Int)
    (H : ∀ (W : World) (i : Nat) (X : Option Addr) (d : Nat), Below w.heap.size w W → i < p.length → NatV W X d (mg (gi p i)) → Calls Tryz.prog 114 #[.int .i64 (i : Nat), .agg #[.bool (sg (gi p i)), .slice X (nl (mg (gi p i))) d], .pointer (some ⟨kl, 0, none⟩)] W (RetI W (g i (gi p i)))) :
    Calls Tryz.prog 58 #[.slice V p.length c, .func (.func 114) #[] #[.pointer (some ⟨kl, 0, none⟩)]] w (RetC w (p.mapIdx g)) := by
  obtain ⟨n, En⟩ : ∃ n, n = p.length := ⟨_, rfl⟩
  have hmk := mkP (n : Int) (n : Int) (by omega) (by omega) (by omega)
  rw [Int.toNat_natCast] at hmk
  have hb0 : Below w.heap.size w (w.alloc (.cells (madeCells #[.bool false, .slice none 0 0] (n * 2)) 24)) := (Below.refl _ _).alloc (Nat.le_refl _) _
  have hO : BoxA (w.alloc (.cells (madeCells #[.bool false, .slice none 0 0] (n * 2)) 24)) w.heap.size 24 (madeCells #[.bool false, .slice none 0 0] (n * 2)) := ⟨at_new rfl⟩
  have hfin : ∀ (wr : World) (vs : Array Value), BoxA wr w.heap.size 24 vs → vs.size = n * 2 → (∀ u ∈ vs.toList, NotU u) → EncI wr (p.mapIdx g) n vs → Below w.heap.size w wr → RetC w (p.mapIdx g) (.returned (.slice (some ⟨w.heap.size, 0, none⟩) n n)) wr := fun wr vs h1 hz hu h2 h3 => by
    have hlen : (p.mapIdx g).length = n := by rw [List.length_mapIdx, En]
    exact ⟨w.heap.size, n, vs, by rw [hlen], Nat.le_refl _, h1, hu, by rw [hlen]; exact h2, by rw [hlen]; omega, by rw [hlen]; exact Nat.le_refl _, by simp only [maxLen]; omega, h3⟩
  rw [← En]
  replace H := Lib.hid H
  replace hfin := Lib.hid hfin
  replace En := Lib.hid En
  go_enter Tryz.func58, Tryz.ntmps58
  go_wp2_with (fail)
  go_loopw [13] (fun v13 wr => ∃ (k : Nat) (vs : Array Value), v13 = .int .i64 k ∧ k ≤ n ∧ BoxA wr w.heap.size 24 vs ∧ Hid (vs.size = n * 2) ∧ Hid (∀ u ∈ vs.toList, NotU u) ∧ EncI wr (p.mapIdx g) k vs ∧ Below w.heap.size w wr) (fun v13 wr => n - (intOf v13).toNat)
  case atStart => exact ⟨0, _, rfl, Nat.zero_le _, hO, Lib.hid (size_madeCells _ _), Lib.hid (made_notU _), fun j hj => absurd hj (Nat.not_lt_zero j), hb0⟩
  case round =>
    obtain ⟨k, vs, rfl, hk, hB, hvz, hvu, hE, hbr⟩ := hrel
    clear hO hb0 hmk
    by_cases hkn : k < n
    · have t1 : decide ((k : Int) < (n : Int)) = true := by simp; omega
      have t2 : decide (k < n) = true := by simp; omega
      obtain ⟨ad, X, d, rfl, c0, c1, hN⟩ := (hP.below hbr).a k (by rw [← En.out]; exact hkn)
      obtain ⟨x, Ex⟩ : ∃ x, x = gi p k := ⟨_, rfl⟩
      have CH := fun (W : World) (h1 : Below w.heap.size w W) (h2 : NatV W X d (mg x)) => H.out W k X d h1 (by rw [← En.out]; exact hkn) (by rw [← Ex]; exact h2)
      rw [← Ex] at c0 c1 hN CH
      obtain ⟨y, Ey⟩ : ∃ y, y = g k x := ⟨_, rfl⟩
      rw [← Ey] at CH
      have Eg : y = gi (p.mapIdx g) k := by rw [gi_mapIdx p g k (by rw [← En.out]; exact hkn), ← Ex, Ey]
      have Wk : IntKind.i64.wrap ((k : Int) + 1) = ((k + 1 : Nat) : Int) := by rw [show (k : Int) + 1 = ((k + 1 : Nat) : Int) by omega]; exact IntWalk.i64_in _ (by have := En.out; omega)
      have hb1 : Below wr.heap.size wr (wr.alloc (.cells #[.bool (sg x), .slice X (nl (mg x)) d] 24)) := (Below.refl _ _).alloc (Nat.le_refl _) _
      have Rx : BoxA (wr.alloc (.cells #[.bool (sg x), .slice X (nl (mg x)) d] 24)) wr.heap.size 24 #[.bool (sg x), .slice X (nl (mg x)) d] := ⟨at_new rfl⟩
      have qx0 := Rx.c (i := 0) rfl
      have qx1 := Rx.c (i := 1) rfl
      have hB1 := hB.below hb1
      have hN1 := hN.below hb1
      have hbr1 := hbr.cons hb1
      replace CH := Lib.hid (CH _ hbr1 hN1)
      replace Ex := Lib.hid Ex
      replace Ey := Lib.hid Ey
      replace Eg := Lib.hid Eg
      replace t2 := t2
      go_wp2_with (fail)
      refine CH.out.mono ?_
      rintro e W2 ⟨Y, f, rfl, hY, hb2⟩
      have hB2 := hB1.below hb2
      have hbr2 := hbr1.cons hb2
      have hE2 := hE.map (W' := W2) (fun A c n h => (h.below hb1).below hb2)
      obtain ⟨o0, ho0⟩ : ∃ u, vs[k * 2]? = some u := ⟨_, Array.getElem?_eq_getElem (by rw [hvz.out]; omega)⟩
      obtain ⟨o1, ho1⟩ : ∃ u, vs[k * 2 + 1]? = some u := ⟨_, Array.getElem?_eq_getElem (by rw [hvz.out]; omega)⟩
      have z0 := hB2.c ho0
      have z1 := hB2.c ho1
      have f0 := hB2.f (i := k * 2)
      have f1 := hB2.f (i := k * 2 + 1)
      have hB3 := hB2.stepP k (.bool (sg y)) (.slice Y (nl (mg y)) f)
      have hY3 : NatV _ Y f (mg y) := hB2.keep hvu.out (fun j hj => setP_far (v0 := .bool (sg y)) (v1 := .slice Y (nl (mg y)) f) (i := k) j hj) hY
      have hE3 := hE2.map (fun A c n h => hB2.keep hvu.out (fun j hj => setP_far (v0 := .bool (sg y)) (v1 := .slice Y (nl (mg y)) f) (i := k) j hj) h)
      have hE4 := hE3.step (by rw [hvz.out]; omega) (X := Y) (d := f) (by rw [← Eg.out]; exact hY3)
      rw [← Eg.out] at hE4
      have hbr3 : Below w.heap.size w _ := (hbr2.setCell (p := ⟨w.heap.size, k * 2, none⟩) (Nat.le_refl _) (.bool (sg y))).setCell (p := ⟨w.heap.size, k * 2 + 1, none⟩) (Nat.le_refl _) (.slice Y (nl (mg y)) f)
      have hu4 := notU_set (i := k * 2 + 1) (v := .slice Y (nl (mg y)) f) (notU_set (i := k * 2) (v := .bool (sg y)) hvu.out (notU_bool _)) (notU_slice _ _ _)
      have hz4 : ((vs.setIfInBounds (k * 2) (.bool (sg y))).setIfInBounds (k * 2 + 1) (.slice Y (nl (mg y)) f)).size = n * 2 := by simp [hvz.out]
      have HD := Lib.hid (And.intro hB3 (And.intro hz4 (And.intro hu4 (And.intro hE4 hbr3))))
      clear hB3 hY3 hE3 hE4 hbr3 hu4 hz4 ho0 ho1 hE2 hE Rx qx0 qx1 hB1 CH
      go_wp2_with (fail)
      go_roundw
      case rel => exact ⟨k + 1, _, by go_num, by omega, HD.out.1, Lib.hid HD.out.2.1, Lib.hid HD.out.2.2.1, HD.out.2.2.2.1, HD.out.2.2.2.2⟩
      case measure => simp [intOf]; omega
    · obtain rfl : k = n := by omega
      have t1 : decide ((k : Int) < (k : Int)) = false := by simp
      have HF := Lib.hid (hfin.out wr vs hB hvz.out hvu.out hE hbr)
      go_wp2_with (fail)
      exact bodyPost_ret (v := .slice (some ⟨w.heap.size, 0, none⟩) k k) (by simp [results, Tryz.results58, go_sem]) rfl HF.out
theorem each_ps2 (V : Option Addr) (c : Nat) (p : List Int) (kl : Nat) (kk : Nat) (kc : Nat) (kb : Nat) (w : World) (hP : PolV w V c p) (hl : p.length ≤ 1048576) (g : Nat → Int → Int)
    (H : ∀ (W : World) (i : Nat) (X : Option Addr) (d : Nat), Below w.heap.size w W → i < p.length → NatV W X d (mg (gi p i)) → Calls Tryz.prog 115 #[.int .i64 (i : Nat), .agg #[.bool (sg (gi p i)), .slice X (nl (mg (gi p i))) d], .pointer (some ⟨kl, 0, none⟩), .pointer (some ⟨kk, 0, none⟩), .pointer (some ⟨kc, 0, none⟩), .pointer (some ⟨kb, 0, none⟩)] W (RetI W (g i (gi p i)))) :
    Calls Tryz.prog 58 #[.slice V p.length c, .func (.func 115) #[] #[.pointer (some ⟨kl, 0, none⟩), .pointer (some ⟨kk, 0, none⟩), .pointer (some ⟨kc, 0, none⟩), .pointer (some ⟨kb, 0, none⟩)]] w (RetC w (p.mapIdx g)) := by
  obtain ⟨n, En⟩ : ∃ n, n = p.length := ⟨_, rfl⟩
  have hmk := mkP (n : Int) (n : Int) (by omega) (by omega) (by omega)
  rw [Int.toNat_natCast] at hmk
  have hb0 : Below w.heap.size w (w.alloc (.cells (madeCells #[.bool false, .slice none 0 0] (n * 2)) 24)) := (Below.refl _ _).alloc (Nat.le_refl _) _
  have hO : BoxA (w.alloc (.cells (madeCells #[.bool false, .slice none 0 0] (n * 2)) 24)) w.heap.size 24 (madeCells #[.bool false, .slice none 0 0] (n * 2)) := ⟨at_new rfl⟩
  have hfin : ∀ (wr : World) (vs : Array Value), BoxA wr w.heap.size 24 vs → vs.size = n * 2 → (∀ u ∈ vs.toList, NotU u) → EncI wr (p.mapIdx g) n vs → Below w.heap.size w wr → RetC w (p.mapIdx g) (.returned (.slice (some ⟨w.heap.size, 0, none⟩) n n)) wr := fun wr vs h1 hz hu h2 h3 => by
    have hlen : (p.mapIdx g).length = n := by rw [List.length_mapIdx, En]
    exact ⟨w.heap.size, n, vs, by rw [hlen], Nat.le_refl _, h1, hu, by rw [hlen]; exact h2, by rw [hlen]; omega, by rw [hlen]; exact Nat.le_refl _, by simp only [maxLen]; omega, h3⟩
  rw [← En]
  replace H := Lib.hid H
  replace hfin := Lib.hid hfin
  replace En := Lib.hid En
  go_enter Tryz.func58, Tryz.ntmps58
  go_wp2_with (fail)
  go_loopw [13] (fun v13 wr => ∃ (k : Nat) (vs : Array Value), v13 = .int .i64 k ∧ k ≤ n ∧ BoxA wr w.heap.size 24 vs ∧ Hid (vs.size = n * 2) ∧ Hid (∀ u ∈ vs.toList, NotU u) ∧ EncI wr (p.mapIdx g) k vs ∧ Below w.heap.size w wr) (fun v13 wr => n - (intOf v13).toNat)
  case atStart => exact ⟨0, _, rfl, Nat.zero_le _, hO, Lib.hid (size_madeCells _ _), Lib.hid (made_notU _), fun j hj => absurd hj (Nat.not_lt_zero j), hb0⟩
  case round =>
    obtain ⟨k, vs, rfl, hk, hB, hvz, hvu, hE, hbr⟩ := hrel
    clear hO hb0 hmk
    by_cases hkn : k < n
    · have t1 : decide ((k : Int) < (n : Int)) = true := by simp; omega
      have t2 : decide (k < n) = true := by simp; omega
      obtain ⟨ad, X, d, rfl, c0, c1, hN⟩ := (hP.below hbr).a k (by rw [← En.out]; exact hkn)
      obtain ⟨x, Ex⟩ : ∃ x, x = gi p k := ⟨_, rfl⟩
      have CH := fun (W : World) (h1 : Below w.heap.size w W) (h2 : NatV W X d (mg x)) => H.out W k X d h1 (by rw [← En.out]; exact hkn) (by rw [← Ex]; exact h2)
      rw [← Ex] at c0 c1 hN CH
      obtain ⟨y, Ey⟩ : ∃ y, y = g k x := ⟨_, rfl⟩
      rw [← Ey] at CH
      have Eg : y = gi (p.mapIdx g) k := by rw [gi_mapIdx p g k (by rw [← En.out]; exact hkn), ← Ex, Ey]
      have Wk : IntKind.i64.wrap ((k : Int) + 1) = ((k + 1 : Nat) : Int) := by rw [show (k : Int) + 1 = ((k + 1 : Nat) : Int) by omega]; exact IntWalk.i64_in _ (by have := En.out; omega)
      have hb1 : Below wr.heap.size wr (wr.alloc (.cells #[.bool (sg x), .slice X (nl (mg x)) d] 24)) := (Below.refl _ _).alloc (Nat.le_refl _) _
      have Rx : BoxA (wr.alloc (.cells #[.bool (sg x), .slice X (nl (mg x)) d] 24)) wr.heap.size 24 #[.bool (sg x), .slice X (nl (mg x)) d] := ⟨at_new rfl⟩
      have qx0 := Rx.c (i := 0) rfl
      have qx1 := Rx.c (i := 1) rfl
      have hB1 := hB.below hb1
      have hN1 := hN.below hb1
      have hbr1 := hbr.cons hb1
      replace CH := Lib.hid (CH _ hbr1 hN1)
      replace Ex := Lib.hid Ex
      replace Ey := Lib.hid Ey
      replace Eg := Lib.hid Eg
      replace t2 := t2
      go_wp2_with (fail)
      refine CH.out.mono ?_
      rintro e W2 ⟨Y, f, rfl, hY, hb2⟩
      have hB2 := hB1.below hb2
      have hbr2 := hbr1.cons hb2
      have hE2 := hE.map (W' := W2) (fun A c n h => (h.below hb1).below hb2)
      obtain ⟨o0, ho0⟩ : ∃ u, vs[k * 2]? = some u := ⟨_, Array.getElem?_eq_getElem (by rw [hvz.out]; omega)⟩
      obtain ⟨o1, ho1⟩ : ∃ u, vs[k * 2 + 1]? = some u := ⟨_, Array.getElem?_eq_getElem (by rw [hvz.out]; omega)⟩
      have z0 := hB2.c ho0
      have z1 := hB2.c ho1
      have f0 := hB2.f (i := k * 2)
      have f1 := hB2.f (i := k * 2 + 1)
      have hB3 := hB2.stepP k (.bool (sg y)) (.slice Y (nl (mg y)) f)
      have hY3 : NatV _ Y f (mg y) := hB2.keep hvu.out (fun j hj => setP_far (v0 := .bool (sg y)) (v1 := .slice Y (nl (mg y)) f) (i := k) j hj) hY
      have hE3 := hE2.map (fun A c n h => hB2.keep hvu.out (fun j hj => setP_far (v0 := .bool (sg y)) (v1 := .slice Y (nl (mg y)) f) (i := k) j hj) h)
      have hE4 := hE3.step (by rw [hvz.out]; omega) (X := Y) (d := f) (by rw [← Eg.out]; exact hY3)
      rw [← Eg.out] at hE4
      have hbr3 : Below w.heap.size w _ := (hbr2.setCell (p := ⟨w.heap.size, k * 2, none⟩) (Nat.le_refl _) (.bool (sg y))).setCell (p := ⟨w.heap.size, k * 2 + 1, none⟩) (Nat.le_refl _) (.slice Y (nl (mg y)) f)
      have hu4 := notU_set (i := k * 2 + 1) (v := .slice Y (nl (mg y)) f) (notU_set (i := k * 2) (v := .bool (sg y)) hvu.out (notU_bool _)) (notU_slice _ _ _)
      have hz4 : ((vs.setIfInBounds (k * 2) (.bool (sg y))).setIfInBounds (k * 2 + 1) (.slice Y (nl (mg y)) f)).size = n * 2 := by simp [hvz.out]
      have HD := Lib.hid (And.intro hB3 (And.intro hz4 (And.intro hu4 (And.intro hE4 hbr3))))
      clear hB3 hY3 hE3 hE4 hbr3 hu4 hz4 ho0 ho1 hE2 hE Rx qx0 qx1 hB1 CH
      go_wp2_with (fail)
      go_roundw
      case rel => exact ⟨k + 1, _, by go_num, by omega, HD.out.1, Lib.hid HD.out.2.1, Lib.hid HD.out.2.2.1, HD.out.2.2.2.1, HD.out.2.2.2.2⟩
      case measure => simp [intOf]; omega
    · obtain rfl : k = n := by omega
      have t1 : decide ((k : Int) < (k : Int)) = false := by simp
      have HF := Lib.hid (hfin.out wr vs hB hvz.out hvu.out hE hbr)
      go_wp2_with (fail)
      exact bodyPost_ret (v := .slice (some ⟨w.heap.size, 0, none⟩) k k) (by simp [results, Tryz.results58, go_sem]) rfl HF.out
theorem vover_c (aA : Option Addr) (ac : Nat) (a : Int) (bA : Option Addr) (bc : Nat) (b : Int) (w : World) (ha : NatV w aA ac (mg a)) (hb : NatV w bA bc (mg b)) (la : nl (mg a) ≤ 262144) (lb : nl (mg b) ≤ 262144) (hb0 : 0 < b) :
    Calls Tryz.prog 43 #[.agg #[.bool (sg a), .slice aA (nl (mg a)) ac], .agg #[.bool (sg b), .slice bA (nl (mg b)) bc]] w (RetR w (Rat.divInt a b)) := by
  obtain ⟨hb1, Ra, Rb, Rr⟩ := bx3 w #[.bool (sg a), .slice aA (nl (mg a)) ac] 24 #[.bool (sg b), .slice bA (nl (mg b)) bc] 24 #[.bool false, .slice none 0 0, .slice none 0 0] 26
  replace ha := ha.below hb1
  replace hb := hb.below hb1
  have HBT := hb1
  clear hb1
  have qa0 := Ra.c (i := 0) rfl
  have qa1 := Ra.c (i := 1) rfl
  have qb0 := Rb.c (i := 0) rfl
  have qb1 := Rb.c (i := 1) rfl
  have qr0 := Rr.c (i := 0) rfl
  have qr1 := Rr.c (i := 1) rfl
  have qr2 := Rr.c (i := 2) rfl
  go_enter Tryz.func43, Tryz.ntmps43
  go_wp2_with (fail)
  obtain ⟨q, Eq⟩ : ∃ z : Rat, z = Rat.divInt a b := ⟨_, rfl⟩
  have CM := rmake_q aA ac a bA bc b (((w.alloc (.cells #[.bool (sg a), .slice aA (nl (mg a)) ac] 24)).alloc (.cells #[.bool (sg b), .slice bA (nl (mg b)) bc] 24)).alloc (.cells #[.bool false, .slice none 0 0, .slice none 0 0] 26)) ha hb la lb hb0
  rw [← Eq] at CM
  replace CM := Lib.hid CM
  replace Eq := Lib.hid Eq
  refine (Calls.mono CM.out ?_)
  clear CM
  rintro e W2 ⟨Xq, cq, Yq, dq, rfl, hq, gq, hb2⟩
  replace ha := ha.below hb2
  replace hb := hb.below hb2
  replace Ra := Ra.below hb2
  replace qa0 := cbl hb2 qa0
  replace qa1 := cbl hb2 qa1
  replace Rb := Rb.below hb2
  replace qb0 := cbl hb2 qb0
  replace qb1 := cbl hb2 qb1
  replace Rr := Rr.below hb2
  replace qr0 := cbl hb2 qr0
  replace qr1 := cbl hb2 qr1
  replace qr2 := cbl hb2 qr2
  replace HBT := Below.cons HBT hb2
  clear hb2
  obtain ⟨hb3, Rq⟩ := bx1 W2 #[.bool (sg q.num), .slice Xq (nl (mg q.num)) cq, .slice Yq (nl q.den) dq] 26
  replace ha := ha.below hb3
  replace hb := hb.below hb3
  replace Ra := Ra.below hb3
  replace qa0 := cbl hb3 qa0
  replace qa1 := cbl hb3 qa1
  replace Rb := Rb.below hb3
  replace qb0 := cbl hb3 qb0
  replace qb1 := cbl hb3 qb1
  replace Rr := Rr.below hb3
  replace qr0 := cbl hb3 qr0
  replace qr1 := cbl hb3 qr1
  replace qr2 := cbl hb3 qr2
  replace hq := hq.below hb3
  replace gq := gq.below hb3
  replace HBT := Below.cons HBT hb3
  clear hb3
  have qq0 := Rq.c (i := 0) rfl
  have qq1 := Rq.c (i := 1) rfl
  have qq2 := Rq.c (i := 2) rfl
  have fzr0 := Rr.f (i := 0)
  have fzr1 := Rr.f (i := 1)
  have fzr2 := Rr.f (i := 2)
  go_wp2_with (fail)
  have hzq : q = (Rat.divInt a b) := by exact Eq.out
  subst hzq
  have RS := Rr.store3 (.bool (sg (((Rat.divInt a b))).num)) (.slice Xq (nl (mg (((Rat.divInt a b))).num)) cq) (.slice Yq (nl (((Rat.divInt a b))).den) dq)
  have e0 := RS.c (i := 0) rfl
  have e1 := RS.c (i := 1) rfl
  have e2 := RS.c (i := 2) rfl
  refine bodyPost_ret (v := .agg #[.bool (sg (((Rat.divInt a b))).num), .slice Xq (nl (mg (((Rat.divInt a b))).num)) cq, .slice Yq (nl (((Rat.divInt a b))).den) dq]) (by simp [results, Tryz.results43, go_sem, e0, e1, e2]) rfl ?_
  exact ⟨Xq, cq, Yq, dq, rfl, (Rr.keep3 (nuB rfl) hq), (Rr.keep3 (nuB rfl) gq), (Below.store3 HBT (by first | exact Nat.le_refl _ | omega))⟩
theorem vsign_c (aA : Option Addr) (ac : Nat) (aB : Option Addr) (ad : Nat) (a : Rat) (w : World) (ha : NatV w aA ac (mg a.num)) (ga : NatV w aB ad a.den) (la : nl (mg a.num) ≤ 1073741824) :
    Calls Tryz.prog 48 #[.agg #[.bool (sg a.num), .slice aA (nl (mg a.num)) ac, .slice aB (nl a.den) ad]] w (fun e w' => e = .returned (.int .i64 a.num.sign) ∧ Below w.heap.size w w') := by
  obtain ⟨hb1, Ra⟩ := bx1 w #[.bool (sg a.num), .slice aA (nl (mg a.num)) ac, .slice aB (nl a.den) ad] 26
  replace ha := ha.below hb1
  replace ga := ga.below hb1
  have HBT := hb1
  clear hb1
  have qa0 := Ra.c (i := 0) rfl
  have qa1 := Ra.c (i := 1) rfl
  have qa2 := Ra.c (i := 2) rfl
  go_enter Tryz.func48, Tryz.ntmps48
  go_wp2_with (fail)
  refine (Calls.mono (isign_c aA ac a.num _) ?_)
  rintro e W2 ⟨rfl, hb2⟩
  replace ha := ha.below hb2
  replace ga := ga.below hb2
  replace Ra := Ra.below hb2
  replace qa0 := cbl hb2 qa0
  replace qa1 := cbl hb2 qa1
  replace qa2 := cbl hb2 qa2
  replace HBT := Below.cons HBT hb2
  clear hb2
  go_wp2_with (fail)
  go_ret
  exact ⟨rfl, HBT⟩
theorem vneg_c (aA : Option Addr) (ac : Nat) (aB : Option Addr) (ad : Nat) (a : Rat) (w : World) (ha : NatV w aA ac (mg a.num)) (ga : NatV w aB ad a.den) (la : nl (mg a.num) ≤ 1073741824) :
    Calls Tryz.prog 49 #[.agg #[.bool (sg a.num), .slice aA (nl (mg a.num)) ac, .slice aB (nl a.den) ad]] w (RetR w (-a)) := by
  have e1 : (-a).num = -a.num := Rat.neg_num a
  have e2 : (-a).den = a.den := Rat.neg_den a
  replace e1 := Lib.hid e1
  replace e2 := Lib.hid e2
  obtain ⟨hb1, Ra, Rr⟩ := bx2 w #[.bool (sg a.num), .slice aA (nl (mg a.num)) ac, .slice aB (nl a.den) ad] 26 #[.bool false, .slice none 0 0, .slice none 0 0] 26
  replace ha := ha.below hb1
  replace ga := ga.below hb1
  have HBT := hb1
  clear hb1
  have qa0 := Ra.c (i := 0) rfl
  have qa1 := Ra.c (i := 1) rfl
  have qa2 := Ra.c (i := 2) rfl
  have qr0 := Rr.c (i := 0) rfl
  have qr1 := Rr.c (i := 1) rfl
  have qr2 := Rr.c (i := 2) rfl
  go_enter Tryz.func49, Tryz.ntmps49
  go_wp2_with (fail)
  have hd2 := drb (((w.alloc (.cells #[.bool (sg a.num), .slice aA (nl (mg a.num)) ac, .slice aB (nl a.den) ad] 26)).alloc (.cells #[.bool false, .slice none 0 0, .slice none 0 0] 26)))
  replace ha := ha.below hd2
  replace ga := ga.below hd2
  replace Ra := Ra.below hd2
  replace qa0 := cbl hd2 qa0
  replace qa1 := cbl hd2 qa1
  replace qa2 := cbl hd2 qa2
  replace Rr := Rr.below hd2
  replace qr0 := cbl hd2 qr0
  replace qr1 := cbl hd2 qr1
  replace qr2 := cbl hd2 qr2
  replace HBT := Below.cons HBT hd2
  clear hd2
  obtain ⟨z, Ez⟩ : ∃ zq : Int, zq = -a.num := ⟨_, rfl⟩
  have C2_0 := fun (W : World) (h1 : NatV W aA ac (mg a.num)) => ineg_c aA ac a.num W h1 la
  simp only [← Ez] at C2_0
  replace Ez := Lib.hid Ez
  replace C2_0 := Lib.hid C2_0
  go_region_held3 (fun W => W.cell? ⟨w.heap.size, 0, none⟩ = some (.bool (sg a.num)) ∧ W.cell? ⟨w.heap.size, 1, none⟩ = some (.slice aA (nl (mg a.num)) ac) ∧ W.cell? ⟨w.heap.size, 2, none⟩ = some (.slice aB (nl a.den) ad))
    (first
      | exact ⟨qa0, qa1, qa2⟩
      | exact ⟨qa0_3, qa1_3, qa2_3⟩
      | exact ⟨((Ra_3.other3 (by simp <;> omega)).c (i := 0) rfl), ((Ra_3.other3 (by simp <;> omega)).c (i := 1) rfl), ((Ra_3.other3 (by simp <;> omega)).c (i := 2) rfl)⟩
      | go_keep)
    (first
      | (go_at_call 52; (with_reducible refine (C2_0.out _ ha).mono ?_); rintro e W3 ⟨Xz, cz, rfl, hz, hb3⟩; have ha_3 := ha.below hb3; have ga_3 := ga.below hb3; have Ra_3 := Ra.below hb3; have qa0_3 := cbl hb3 qa0; have qa1_3 := cbl hb3 qa1; have qa2_3 := cbl hb3 qa2; have Rr_3 := Rr.below hb3; have qr0_3 := cbl hb3 qr0; have qr1_3 := cbl hb3 qr1; have qr2_3 := cbl hb3 qr2; have HBT_3 := Below.cons HBT hb3; have fz0 := Rr_3.f (i := 0); have fz1 := Rr_3.f (i := 1); have fz2 := Rr_3.f (i := 2)))
  all_goals (try go_wp2_with (fail))
  have RS := Rr_3.store3 (.bool (sg z)) (.slice Xz (nl (mg z)) cz) (.slice aB (nl a.den) ad)
  have g0 := RS.c (i := 0) rfl
  have g1 := RS.c (i := 1) rfl
  have g2 := RS.c (i := 2) rfl
  refine bodyPost_ret (v := .agg #[.bool (sg z), .slice Xz (nl (mg z)) cz, .slice aB (nl a.den) ad]) (by simp [results, Tryz.results49, go_sem, g0, g1, g2]) rfl ?_
  have ez : z = (-a).num := by rw [Ez.out, e1.out]
  exact ⟨Xz, cz, aB, ad, by rw [← ez, e2.out], by rw [← ez]; exact Rr_3.keep3 (nuB rfl) hz, by rw [e2.out]; exact Rr_3.keep3 (nuB rfl) ga_3, Below.store3 HBT_3 (by omega)⟩
def RetIII (w : World) (x y z : Int) (e : Ending) (w' : World) : Prop := ∃ A c B d C f, e = .returned (.tuple #[.agg #[.bool (sg x), .slice A (nl (mg x)) c], .agg #[.bool (sg y), .slice B (nl (mg y)) d], .agg #[.bool (sg z), .slice C (nl (mg z)) f]]) ∧ NatV w' A c (mg x) ∧ NatV w' B d (mg y) ∧ NatV w' C f (mg z) ∧ Below w.heap.size w w'
theorem cross_c (aA : Option Addr) (ac : Nat) (aB : Option Addr) (ad : Nat) (a : Rat) (bA : Option Addr) (bc : Nat) (bB : Option Addr) (bd : Nat) (b : Rat) (w : World) (ha : NatV w aA ac (mg a.num)) (ga : NatV w aB ad a.den) (hb : NatV w bA bc (mg b.num)) (gb : NatV w bB bd b.den) (hG : Flds w) (la : nl (mg a.num) ≤ 16384) (ma : nl a.den ≤ 16384) (lb : nl (mg b.num) ≤ 16384) (mb : nl b.den ≤ 16384) (hsm : nl (mg a.num) ≤ 7 ∧ nl a.den ≤ 7 ∨ nl (mg b.num) ≤ 7 ∧ nl b.den ≤ 7 := by omega) :
    Calls Tryz.prog 95 #[.agg #[.bool (sg a.num), .slice aA (nl (mg a.num)) ac, .slice aB (nl a.den) ad], .agg #[.bool (sg b.num), .slice bA (nl (mg b.num)) bc, .slice bB (nl b.den) bd]] w (RetIII w (a.num * (b.den : Int)) (b.num * (a.den : Int)) ((a.den : Int) * (b.den : Int))) := by
  obtain ⟨x, Ex⟩ : ∃ z : Int, z = (a.den : Int) := ⟨_, rfl⟩
  obtain ⟨y, Ey⟩ : ∃ z : Int, z = (b.den : Int) := ⟨_, rfl⟩
  have Nx : nl (mg x) ≤ 16384 := by rw [Ex, mg_nat]; exact ma
  have Ny : nl (mg y) ≤ 16384 := by rw [Ey, mg_nat]; exact mb
  have Mx : nl (mg x) ≤ nl a.den := by rw [Ex, mg_nat]; exact Nat.le_refl _
  have My : nl (mg y) ≤ nl b.den := by rw [Ey, mg_nat]; exact Nat.le_refl _
  have CX := fun (W : World) (h : NatV W aB ad a.den) => rwhole0_c aB ad a.den W h
  rw [← Ex] at CX
  have CY := fun (W : World) (h : NatV W bB bd b.den) => rwhole0_c bB bd b.den W h
  rw [← Ey] at CY
  rw [← Ex, ← Ey]
  replace CX := Lib.hid CX
  replace CY := Lib.hid CY
  replace Ex := Lib.hid Ex
  replace Ey := Lib.hid Ey
  obtain ⟨hb1, Ra, Rb, Rr, Rs, Rt⟩ := bx5 w #[.bool (sg a.num), .slice aA (nl (mg a.num)) ac, .slice aB (nl a.den) ad] 26 #[.bool (sg b.num), .slice bA (nl (mg b.num)) bc, .slice bB (nl b.den) bd] 26 #[.bool false, .slice none 0 0] 24 #[.bool false, .slice none 0 0] 24 #[.bool false, .slice none 0 0] 24
  replace hG := hG.below hb1
  replace ha := ha.below hb1
  replace ga := ga.below hb1
  replace hb := hb.below hb1
  replace gb := gb.below hb1
  have HBT := hb1
  clear hb1
  have qa0 := Ra.c (i := 0) rfl
  have qa1 := Ra.c (i := 1) rfl
  have qa2 := Ra.c (i := 2) rfl
  have qb0 := Rb.c (i := 0) rfl
  have qb1 := Rb.c (i := 1) rfl
  have qb2 := Rb.c (i := 2) rfl
  have qr0 := Rr.c (i := 0) rfl
  have qr1 := Rr.c (i := 1) rfl
  have qs0 := Rs.c (i := 0) rfl
  have qs1 := Rs.c (i := 1) rfl
  have qt0 := Rt.c (i := 0) rfl
  have qt1 := Rt.c (i := 1) rfl
  go_enter Tryz.func95, Tryz.ntmps95
  go_wp2_with (fail)
  generalize hW0 : (((((w.alloc (.cells #[.bool (sg a.num), .slice aA (nl (mg a.num)) ac, .slice aB (nl a.den) ad] 26)).alloc (.cells #[.bool (sg b.num), .slice bA (nl (mg b.num)) bc, .slice bB (nl b.den) bd] 26)).alloc (.cells #[.bool false, .slice none 0 0] 24)).alloc (.cells #[.bool false, .slice none 0 0] 24)).alloc (.cells #[.bool false, .slice none 0 0] 24)) = W0 at *
  have hz : w.heap.size + 5 = W0.heap.size := by rw [← hW0]; simp
  replace hz := Lib.hid hz
  replace hW0 := Lib.hid hW0
  refine wp_region_inv (fun E a' w' => ∃ (u9 u10 u11 u12 u13 u14 u7 u8 : Value),
    a' = { tmps := #[.agg #[.bool (sg a.num), .slice aA (nl (mg a.num)) ac, .slice aB (nl a.den) ad], .agg #[.bool (sg b.num), .slice bA (nl (mg b.num)) bc, .slice bB (nl b.den) bd], .pointer (some ⟨w.heap.size, 0, none⟩), .pointer (some ⟨(w.heap.size + 1), 0, none⟩), .pointer (some ⟨(w.heap.size + 1 + 1), 0, none⟩), .pointer (some ⟨(w.heap.size + 1 + 1 + 1), 0, none⟩), .pointer (some ⟨(w.heap.size + 1 + 1 + 1 + 1), 0, none⟩), u7, u8, u9, u10, u11, u12, u13, u14, undef, undef, undef, undef, undef, undef, undef, undef, undef, undef, undef], defers := [] } ∧
    (E 0 = true → u9 = .pointer (some ⟨w.heap.size, 2, none⟩)) ∧
    (E 1 = true → u10 = .slice aB (nl a.den) ad) ∧
    (E 2 = true → PI u11 x w') ∧
    (E 3 = true → u12 = .pointer (some ⟨(w.heap.size + 1), 2, none⟩)) ∧
    (E 4 = true → u13 = .slice bB (nl b.den) bd) ∧
    (E 5 = true → PI u14 y w') ∧
    (E 6 = true → PB2 24 W0.heap.size u7 w') ∧
    (E 7 = true → PB2 24 W0.heap.size u8 w') ∧
    (E 8 = true → PBI W0.heap.size u7 x w') ∧
    (E 9 = true → PBI W0.heap.size u8 y w') ∧
    (E 8 = true → E 6 = true) ∧
    (E 9 = true → E 7 = true) ∧
    (E 6 = true → E 7 = true → u7 ≠ u8) ∧
    Below W0.heap.size W0 w') (by kernel_rfl) (by kernel_rfl) ?init ?fin ?step
  case init => exact ⟨_, _, _, _, _, _, _, _, rfl, by simp, by simp, by simp, by simp, by simp, by simp, by simp, by simp, by simp, by simp, by simp, by simp, by simp, (Below.refl _ _).drew⟩
  case step =>
    rintro E a' w' i ⟨u9, u10, u11, u12, u13, u14, u7, u8, rfl, h0, h1, h2, h3, h4, h5, h6, h7, h8, h9, hD8, hD9, hN6_7, hB⟩ hi hEi hdep
    have qa0 := cbl hB qa0
    have qa1 := cbl hB qa1
    have qa2 := cbl hB qa2
    have qb0 := cbl hB qb0
    have qb1 := cbl hB qb1
    have qb2 := cbl hB qb2
    obtain rfl | rfl | rfl | rfl | rfl | rfl | rfl | rfl | rfl | rfl : i = 0 ∨ i = 1 ∨ i = 2 ∨ i = 3 ∨ i = 4 ∨ i = 5 ∨ i = 6 ∨ i = 7 ∨ i = 8 ∨ i = 9 := by simp at hi; omega
    · skip
      refine wpOp_step rfl (fun K' hK' => ?_)
      go_simp
      refine hK' _ _ ?_
      exact ⟨_, _, _, _, _, _, _, _, rfl, fun _ => rfl, kd h1, kd h2, kd h3, kd h4, kd h5, kd h6, kd h7, kd h8, kd h9, (fun h => by have := hD8 (by simpa using h); simpa using this), (fun h => by have := hD9 (by simpa using h); simpa using this), (fun h k => hN6_7 (by simpa using h) (by simpa using k)), hB⟩
    · skip
      have d0 := hdep _ rfl ⟨0, .data⟩ (by simp) rfl
      obtain rfl := h0 d0
      refine wpOp_step rfl (fun K' hK' => ?_)
      go_simp
      refine hK' _ _ ?_
      exact ⟨_, _, _, _, _, _, _, _, rfl, kd h0, fun _ => rfl, kd h2, kd h3, kd h4, kd h5, kd h6, kd h7, kd h8, kd h9, (fun h => by have := hD8 (by simpa using h); simpa using this), (fun h => by have := hD9 (by simpa using h); simpa using this), (fun h k => hN6_7 (by simpa using h) (by simpa using k)), hB⟩
    · skip
      have d1 := hdep _ rfl ⟨1, .data⟩ (by simp) rfl
      obtain rfl := h1 d1
      refine wpOp_step rfl (fun K' hK' => ?_)
      go_simp
      refine (Calls.mono (CX.out w' (ga.below hB)) ?_)
      rintro e W1 ⟨Xr, cr, rfl, kr, kb⟩
      refine hK' _ _ ?_
      exact ⟨_, _, _, _, _, _, _, _, rfl, kd h0, kd h1, fun _ => ⟨Xr, cr, rfl, kr⟩, kd h3, kd h4, kp h5 (fun h => h.below kb), kp h6 (fun h => h.below kb), kp h7 (fun h => h.below kb), kp h8 (fun h => h.below kb), kp h9 (fun h => h.below kb), (fun h => by have := hD8 (by simpa using h); simpa using this), (fun h => by have := hD9 (by simpa using h); simpa using this), (fun h k => hN6_7 (by simpa using h) (by simpa using k)), Below.cons hB kb⟩
    · skip
      refine wpOp_step rfl (fun K' hK' => ?_)
      go_simp
      refine hK' _ _ ?_
      exact ⟨_, _, _, _, _, _, _, _, rfl, kd h0, kd h1, kd h2, fun _ => rfl, kd h4, kd h5, kd h6, kd h7, kd h8, kd h9, (fun h => by have := hD8 (by simpa using h); simpa using this), (fun h => by have := hD9 (by simpa using h); simpa using this), (fun h k => hN6_7 (by simpa using h) (by simpa using k)), hB⟩
    · skip
      have d3 := hdep _ rfl ⟨3, .data⟩ (by simp) rfl
      obtain rfl := h3 d3
      refine wpOp_step rfl (fun K' hK' => ?_)
      go_simp
      refine hK' _ _ ?_
      exact ⟨_, _, _, _, _, _, _, _, rfl, kd h0, kd h1, kd h2, kd h3, fun _ => rfl, kd h5, kd h6, kd h7, kd h8, kd h9, (fun h => by have := hD8 (by simpa using h); simpa using this), (fun h => by have := hD9 (by simpa using h); simpa using this), (fun h k => hN6_7 (by simpa using h) (by simpa using k)), hB⟩
    · skip
      have d4 := hdep _ rfl ⟨4, .data⟩ (by simp) rfl
      obtain rfl := h4 d4
      refine wpOp_step rfl (fun K' hK' => ?_)
      go_simp
      refine (Calls.mono (CY.out w' (gb.below hB)) ?_)
      rintro e W1 ⟨Xr, cr, rfl, kr, kb⟩
      refine hK' _ _ ?_
      exact ⟨_, _, _, _, _, _, _, _, rfl, kd h0, kd h1, kp h2 (fun h => h.below kb), kd h3, kd h4, fun _ => ⟨Xr, cr, rfl, kr⟩, kp h6 (fun h => h.below kb), kp h7 (fun h => h.below kb), kp h8 (fun h => h.below kb), kp h9 (fun h => h.below kb), (fun h => by have := hD8 (by simpa using h); simpa using this), (fun h => by have := hD9 (by simpa using h); simpa using this), (fun h k => hN6_7 (by simpa using h) (by simpa using k)), Below.cons hB kb⟩
    · skip
      have kb : Below w'.heap.size w' (w'.alloc (.cells #[.bool false, .slice none 0 0] 24)) := (Below.refl _ _).alloc (Nat.le_refl _) _
      refine wpOp_step rfl (fun K' hK' => ?_)
      go_simp
      refine hK' _ _ ?_
      exact ⟨_, _, _, _, _, _, _, _, rfl, kd h0, kd h1, kp h2 (fun h => h.below kb), kd h3, kd h4, kp h5 (fun h => h.below kb), fun _ => ⟨_, _, _, rfl, hB.size, ⟨at_new rfl⟩, notU_bool _, notU_slice _ _ _⟩, kp h7 (fun h => h.below kb), (fun h => by have h2 := hD8 (by simpa using h); rw [hEi] at h2; cases h2), kp h9 (fun h => h.below kb), (fun _ => by simp), (fun h => by have := hD9 (by simpa using h); simpa using this), (fun _ h => by obtain ⟨n2, e2, l2⟩ := (h7 (by simpa using h)).lt; rw [e2]; intro e3; simp at e3 <;> omega), Below.cons hB kb⟩
    · skip
      have kb : Below w'.heap.size w' (w'.alloc (.cells #[.bool false, .slice none 0 0] 24)) := (Below.refl _ _).alloc (Nat.le_refl _) _
      refine wpOp_step rfl (fun K' hK' => ?_)
      go_simp
      refine hK' _ _ ?_
      exact ⟨_, _, _, _, _, _, _, _, rfl, kd h0, kd h1, kp h2 (fun h => h.below kb), kd h3, kd h4, kp h5 (fun h => h.below kb), kp h6 (fun h => h.below kb), fun _ => ⟨_, _, _, rfl, hB.size, ⟨at_new rfl⟩, notU_bool _, notU_slice _ _ _⟩, kp h8 (fun h => h.below kb), (fun h => by have h2 := hD9 (by simpa using h); rw [hEi] at h2; cases h2), (fun h => by have := hD8 (by simpa using h); simpa using this), (fun _ => by simp), (fun h _ => by obtain ⟨n2, e2, l2⟩ := (h6 (by simpa using h)).lt; rw [e2]; intro e3; simp at e3 <;> omega), Below.cons hB kb⟩
    · skip
      have d6 := hdep _ rfl ⟨6, .data⟩ (by simp) rfl
      obtain ⟨nb, z0, z1, rfl, hn, hb, nz0, nz1⟩ := h6 d6
      have d2 := hdep _ rfl ⟨2, .data⟩ (by simp) rfl
      obtain ⟨X_2, c_2, rfl, k_2⟩ := h2 d2
      have fz0 := hb.f (i := 0)
      have cz0 := hb.c (i := 0) rfl
      have fz1 := hb.f (i := 1)
      have cz1 := hb.c (i := 1) rfl
      have hp := hb.put2 (notU2 nz0 nz1) (.bool (sg x)) (.slice X_2 (nl (mg x)) c_2)
      have hs := hb.store2 (.bool (sg x)) (.slice X_2 (nl (mg x)) c_2)
      refine wpOp_step rfl (fun K' hK' => ?_)
      go_simp
      refine hK' _ _ ?_
      exact ⟨_, _, _, _, _, _, _, _, rfl, kd h0, kd h1, kp h2 (fun h => h.put hp), kd h3, kd h4, kp h5 (fun h => h.put hp), (fun _ => ⟨nb, _, _, rfl, hn, hs, notU_bool _, notU_slice _ _ _⟩), keepP' (by decide) h7 (fun e h => h.put hp (fun e3 => hN6_7 d6 (by simpa using e) e3.symm)), fun _ => ⟨nb, X_2, c_2, rfl, hn, hs, hp.nat k_2⟩, keepP' (by decide) h9 (fun e h => h.put hp (fun e3 => hN6_7 d6 (hD9 (by simpa using e)) e3.symm)), (fun _ => by simp [d6]), (fun h => by have := hD9 (by simpa using h); simpa using this), (fun h k => hN6_7 (by simpa using h) (by simpa using k)), Below.store2 hB hn⟩
    · skip
      have d7 := hdep _ rfl ⟨7, .data⟩ (by simp) rfl
      obtain ⟨nb, z0, z1, rfl, hn, hb, nz0, nz1⟩ := h7 d7
      have d5 := hdep _ rfl ⟨5, .data⟩ (by simp) rfl
      obtain ⟨X_5, c_5, rfl, k_5⟩ := h5 d5
      have fz0 := hb.f (i := 0)
      have cz0 := hb.c (i := 0) rfl
      have fz1 := hb.f (i := 1)
      have cz1 := hb.c (i := 1) rfl
      have hp := hb.put2 (notU2 nz0 nz1) (.bool (sg y)) (.slice X_5 (nl (mg y)) c_5)
      have hs := hb.store2 (.bool (sg y)) (.slice X_5 (nl (mg y)) c_5)
      refine wpOp_step rfl (fun K' hK' => ?_)
      go_simp
      refine hK' _ _ ?_
      exact ⟨_, _, _, _, _, _, _, _, rfl, kd h0, kd h1, kp h2 (fun h => h.put hp), kd h3, kd h4, kp h5 (fun h => h.put hp), keepP' (by decide) h6 (fun e h => h.put hp (hN6_7 (by simpa using e) d7)), (fun _ => ⟨nb, _, _, rfl, hn, hs, notU_bool _, notU_slice _ _ _⟩), keepP' (by decide) h8 (fun e h => h.put hp (hN6_7 (hD8 (by simpa using e)) d7)), fun _ => ⟨nb, X_5, c_5, rfl, hn, hs, hp.nat k_5⟩, (fun h => by have := hD8 (by simpa using h); simpa using this), (fun _ => by simp [d7]), (fun h k => hN6_7 (by simpa using h) (by simpa using k)), Below.store2 hB hn⟩
  case fin =>
    rintro E a' w' ⟨u9, u10, u11, u12, u13, u14, u7, u8, rfl, h0, h1, h2, h3, h4, h5, h6, h7, h8, h9, hD8, hD9, hN6_7, hB⟩ hall
    obtain ⟨nbx, Xx, cx, rfl, hnx, Rx, hx⟩ := h8 (hall 8 (by simp))
    obtain ⟨nby, Xy, cy, rfl, hny, Ry, hy⟩ := h9 (hall 9 (by simp))
    replace hG := hG.below hB
    replace ha := ha.below hB
    replace ga := ga.below hB
    replace hb := hb.below hB
    replace gb := gb.below hB
    replace Ra := Ra.below hB
    replace qa0 := cbl hB qa0
    replace qa1 := cbl hB qa1
    replace qa2 := cbl hB qa2
    replace Rb := Rb.below hB
    replace qb0 := cbl hB qb0
    replace qb1 := cbl hB qb1
    replace qb2 := cbl hB qb2
    replace Rr := Rr.below hB
    replace qr0 := cbl hB qr0
    replace qr1 := cbl hB qr1
    replace Rs := Rs.below hB
    replace qs0 := cbl hB qs0
    replace qs1 := cbl hB qs1
    replace Rt := Rt.below hB
    replace qt0 := cbl hB qt0
    replace qt1 := cbl hB qt1
    replace HBT := Below.cons HBT hB
    have kvx := hnx
    have qx0 := Rx.c (i := 0) rfl
    have qx1 := Rx.c (i := 1) rfl
    have kvy := hny
    have qy0 := Ry.c (i := 0) rfl
    have qy1 := Ry.c (i := 1) rfl
    clear hall
    generalize hV1 : w' = V1 at *
    clear hV1
    have nxr : nbx ≠ w.heap.size + 1 + 1 ∧ nbx ≠ w.heap.size + 1 + 1 + 1 ∧ nbx ≠ w.heap.size + 1 + 1 + 1 + 1 := by have := hz.out; omega
    have nyr : nby ≠ w.heap.size + 1 + 1 ∧ nby ≠ w.heap.size + 1 + 1 + 1 ∧ nby ≠ w.heap.size + 1 + 1 + 1 + 1 := by have := hz.out; omega
    go_wp2_with (fail)
    clear qr0
    clear qr1
    clear qs0
    clear qs1
    clear qt0
    clear qt1
    clear ga
    clear gb
    clear Rx
    clear Ry
    clear Ra
    clear Rb
    clear qa2
    clear qb2
    have hd2 := drb (V1)
    replace Rr := Rr.below hd2
    replace Rs := Rs.below hd2
    replace Rt := Rt.below hd2
    replace hG := hG.below hd2
    replace ha := ha.below hd2
    replace hb := hb.below hd2
    replace qa0 := cbl hd2 qa0
    replace qa1 := cbl hd2 qa1
    replace qb0 := cbl hd2 qb0
    replace qb1 := cbl hd2 qb1
    replace hx := hx.below hd2
    replace qx0 := cbl hd2 qx0
    replace qx1 := cbl hd2 qx1
    replace hy := hy.below hd2
    replace qy0 := cbl hd2 qy0
    replace qy1 := cbl hd2 qy1
    replace HBT := Below.cons HBT hd2
    clear hd2
    replace qa0 : (V1).drew.cell? ⟨w.heap.size, 0, none⟩ = some (.bool (sg a.num)) := qa0
    replace qa1 : (V1).drew.cell? ⟨w.heap.size, 1, none⟩ = some (.slice aA (nl (mg a.num)) ac) := qa1
    replace qb0 : (V1).drew.cell? ⟨(w.heap.size + 1), 0, none⟩ = some (.bool (sg b.num)) := qb0
    replace qb1 : (V1).drew.cell? ⟨(w.heap.size + 1), 1, none⟩ = some (.slice bA (nl (mg b.num)) bc) := qb1
    replace qx0 : (V1).drew.cell? ⟨nbx, 0, none⟩ = some (.bool (sg x)) := qx0
    replace qx1 : (V1).drew.cell? ⟨nbx, 1, none⟩ = some (.slice Xx (nl (mg x)) cx) := qx1
    replace qy0 : (V1).drew.cell? ⟨nby, 0, none⟩ = some (.bool (sg y)) := qy0
    replace qy1 : (V1).drew.cell? ⟨nby, 1, none⟩ = some (.slice Xy (nl (mg y)) cy) := qy1
    obtain ⟨p, Ep⟩ : ∃ zq : Int, zq = a.num * y := ⟨_, rfl⟩
    have C2_0 := fun (W : World) (A : Option Addr) (c : Nat) (B : Option Addr) (d : Nat) (h1 : NatV W A c (mg a.num)) (h2 : NatV W B d (mg y)) (hG : Flds W) => imul_c A c a.num B d y W h1 h2 hG (by omega) (by omega)
    simp only [← Ep] at C2_0
    replace Ep := Lib.hid Ep
    replace C2_0 := Lib.hid C2_0
    obtain ⟨q, Eq⟩ : ∃ zq : Int, zq = b.num * x := ⟨_, rfl⟩
    have C2_1 := fun (W : World) (A : Option Addr) (c : Nat) (B : Option Addr) (d : Nat) (h1 : NatV W A c (mg b.num)) (h2 : NatV W B d (mg x)) (hG : Flds W) => imul_c A c b.num B d x W h1 h2 hG (by omega) (by omega)
    simp only [← Eq] at C2_1
    replace Eq := Lib.hid Eq
    replace C2_1 := Lib.hid C2_1
    obtain ⟨d, Ed⟩ : ∃ zq : Int, zq = x * y := ⟨_, rfl⟩
    have C2_2 := fun (W : World) (A : Option Addr) (c : Nat) (B : Option Addr) (d : Nat) (h1 : NatV W A c (mg x)) (h2 : NatV W B d (mg y)) (hG : Flds W) => imul_c A c x B d y W h1 h2 hG (by omega) (by omega)
    simp only [← Ed] at C2_2
    replace Ed := Lib.hid Ed
    replace C2_2 := Lib.hid C2_2
    obtain ⟨S, hS⟩ : ∃ S : World → Prop, S = fun W => W.cell? ⟨w.heap.size, 0, none⟩ = some (.bool (sg a.num)) ∧ W.cell? ⟨w.heap.size, 1, none⟩ = some (.slice aA (nl (mg a.num)) ac) ∧ W.cell? ⟨(w.heap.size + 1), 0, none⟩ = some (.bool (sg b.num)) ∧ W.cell? ⟨(w.heap.size + 1), 1, none⟩ = some (.slice bA (nl (mg b.num)) bc) ∧ W.cell? ⟨nbx, 0, none⟩ = some (.bool (sg x)) ∧ W.cell? ⟨nbx, 1, none⟩ = some (.slice Xx (nl (mg x)) cx) ∧ W.cell? ⟨nby, 0, none⟩ = some (.bool (sg y)) ∧ W.cell? ⟨nby, 1, none⟩ = some (.slice Xy (nl (mg y)) cy) := ⟨_, rfl⟩
    have HSq : S (V1).drew := by rw [hS]; exact ⟨qa0, qa1, qb0, qb1, qx0, qx1, qy0, qy1⟩
    have hSb : ∀ W W' : World, Below W.heap.size W W' → S W → S W' := by rw [hS]; exact fun W W' hb h => ⟨cell_below hb h.1, cell_below hb h.2.1, cell_below hb h.2.2.1, cell_below hb h.2.2.2.1, cell_below hb h.2.2.2.2.1, cell_below hb h.2.2.2.2.2.1, cell_below hb h.2.2.2.2.2.2.1, cell_below hb h.2.2.2.2.2.2.2⟩
    replace hSb := Lib.hid hSb
    replace hS := Lib.hid hS
    refine wp_region_seq S [(0, true), (1, true), (2, true), (4, true), (5, true), (6, true), (8, true), (9, true), (3, false), (7, false), (10, false), (11, false), (12, false), (13, false)] (by kernel_rfl) (by kernel_rfl) (by kernel_rfl) HSq (fun hSq => ?_)
    clear hSq
    replace HSq := Lib.hid HSq
    clear qa0 qa1 qb0 qb1 qx0 qx1 qy0 qy1
    refine SeqP.take (v := ?_) rfl (fun _ _ _ h => h) (Or.inl ⟨by rfl, ?_⟩) ?_
    rotate_left 1
    · intro wq hSw; rw [hS.out] at hSw; (try dsimp only at hSw); go_simp; try with_reducible rfl
    try simp only [Act.put, seq0, seq1, seq2]
    refine SeqP.take (v := ?_) rfl (fun _ _ _ h => h) (Or.inl ⟨by rfl, ?_⟩) ?_
    rotate_left 1
    · intro wq hSw; rw [hS.out] at hSw; (try dsimp only at hSw); go_simp; try with_reducible rfl
    try simp only [Act.put, seq0, seq1, seq2]
    refine SeqP.take (v := ?_) rfl (fun _ _ _ h => h) (Or.inl ⟨by rfl, ?_⟩) ?_
    rotate_left 1
    · intro wq hSw; rw [hS.out] at hSw; (try dsimp only at hSw); go_simp; try with_reducible rfl
    try simp only [Act.put, seq0, seq1, seq2]
    refine SeqP.take (v := ?_) rfl (fun _ _ _ h => h) (Or.inl ⟨by rfl, ?_⟩) ?_
    rotate_left 1
    · intro wq hSw; rw [hS.out] at hSw; (try dsimp only at hSw); go_simp; try with_reducible rfl
    try simp only [Act.put, seq0, seq1, seq2]
    refine SeqP.take (v := ?_) rfl (fun _ _ _ h => h) (Or.inl ⟨by rfl, ?_⟩) ?_
    rotate_left 1
    · intro wq hSw; rw [hS.out] at hSw; (try dsimp only at hSw); go_simp; try with_reducible rfl
    try simp only [Act.put, seq0, seq1, seq2]
    refine SeqP.take (v := ?_) rfl (fun _ _ _ h => h) (Or.inl ⟨by rfl, ?_⟩) ?_
    rotate_left 1
    · intro wq hSw; rw [hS.out] at hSw; (try dsimp only at hSw); go_simp; try with_reducible rfl
    try simp only [Act.put, seq0, seq1, seq2]
    refine SeqP.take (v := ?_) rfl (fun _ _ _ h => h) (Or.inl ⟨by rfl, ?_⟩) ?_
    rotate_left 1
    · intro wq hSw; rw [hS.out] at hSw; (try dsimp only at hSw); go_simp; try with_reducible rfl
    try simp only [Act.put, seq0, seq1, seq2]
    refine SeqP.take (v := ?_) rfl (fun _ _ _ h => h) (Or.inl ⟨by rfl, ?_⟩) ?_
    rotate_left 1
    · intro wq hSw; rw [hS.out] at hSw; (try dsimp only at hSw); go_simp; try with_reducible rfl
    try simp only [Act.put, seq0, seq1, seq2]
    refine SeqP.call rfl (by rfl) (fun Kq hKq => ?_)
    go_simp
    go_at_call 22
    with_reducible refine (C2_0.out _ _ _ _ _ ha hy hG).mono ?_
    rintro e W3 ⟨Xp, cp, rfl, hp, hb3⟩
    replace Rr := Rr.below hb3
    replace Rs := Rs.below hb3
    replace Rt := Rt.below hb3
    replace hG := hG.below hb3
    replace hb := hb.below hb3
    replace hx := hx.below hb3
    replace hy := hy.below hb3
    replace HBT := Below.cons HBT hb3
    replace HSq := Lib.hid (hSb.out _ _ hb3 HSq.out)
    clear hb3
    refine hKq.out _ _ HSq.out (fun hSq => ?_)
    clear hSq hKq Kq
    try simp only [Act.put, seq0, seq1, seq2]
    refine SeqP.call rfl (by rfl) (fun Kq hKq => ?_)
    go_simp
    go_at_call 22
    with_reducible refine (C2_1.out _ _ _ _ _ hb hx hG).mono ?_
    rintro e W4 ⟨Xq, cq, rfl, hq, hb4⟩
    replace Rr := Rr.below hb4
    replace Rs := Rs.below hb4
    replace Rt := Rt.below hb4
    replace hG := hG.below hb4
    replace hx := hx.below hb4
    replace hy := hy.below hb4
    replace hp := hp.below hb4
    replace HBT := Below.cons HBT hb4
    replace HSq := Lib.hid (hSb.out _ _ hb4 HSq.out)
    clear hb4
    refine hKq.out _ _ HSq.out (fun hSq => ?_)
    clear hSq hKq Kq
    try simp only [Act.put, seq0, seq1, seq2]
    refine SeqP.call rfl (by rfl) (fun Kq hKq => ?_)
    go_simp
    go_at_call 22
    with_reducible refine (C2_2.out _ _ _ _ _ hx hy hG).mono ?_
    rintro e W5 ⟨Xd, cd, rfl, hd, hb5⟩
    replace Rr := Rr.below hb5
    replace Rs := Rs.below hb5
    replace Rt := Rt.below hb5
    replace hp := hp.below hb5
    replace hq := hq.below hb5
    replace HBT := Below.cons HBT hb5
    replace HSq := Lib.hid (hSb.out _ _ hb5 HSq.out)
    clear hb5
    refine hKq.out _ _ HSq.out (fun hSq => ?_)
    clear hSq hKq Kq
    try simp only [Act.put, seq0, seq1, seq2]
    have HSx := HSq.out
    rw [hS.out] at HSx
    obtain ⟨zx0, zx1, zx2, zx3, zx4, zx5, zx6, zx7⟩ := HSx
    have fz0_1 := Rr.f (i := 0)
    have cz0_1 := Rr.c (i := 0) rfl
    have fz1_1 := Rr.f (i := 1)
    have cz1_1 := Rr.c (i := 1) rfl
    have fr0_6 := Rr.f (i := 0)
    have fr1_6 := Rr.f (i := 1)
    have Rr_6 := Rr.store2 (.bool (sg p)) (.slice Xp (nl (mg p)) cp)
    have Rs_6 : BoxA ((W5.setCell ⟨(w.heap.size + 1 + 1), 0, none⟩ (.bool (sg p))).setCell ⟨(w.heap.size + 1 + 1), 1, none⟩ (.slice Xp (nl (mg p)) cp)) _ _ _ := Rs.other2 (by first | omega | (simp; done) | (simp; omega))
    have Rt_6 : BoxA ((W5.setCell ⟨(w.heap.size + 1 + 1), 0, none⟩ (.bool (sg p))).setCell ⟨(w.heap.size + 1 + 1), 1, none⟩ (.slice Xp (nl (mg p)) cp)) _ _ _ := Rt.other2 (by first | omega | (simp; done) | (simp; omega))
    have hp_6 := Rr.keep2 (v0 := .bool (sg p)) (v1 := .slice Xp (nl (mg p)) cp) (nuB rfl) hp
    have hq_6 := Rr.keep2 (v0 := .bool (sg p)) (v1 := .slice Xp (nl (mg p)) cp) (nuB rfl) hq
    have hd_6 := Rr.keep2 (v0 := .bool (sg p)) (v1 := .slice Xp (nl (mg p)) cp) (nuB rfl) hd
    have HBT_6 := Below.store2 (v0 := .bool (sg p)) (v1 := .slice Xp (nl (mg p)) cp) HBT (k := (w.heap.size + 1 + 1)) (by first | exact Nat.le_refl _ | omega)
    refine SeqP.call rfl (by rfl) (fun Kq hKq => ?_)
    go_simp
    replace HSq := Lib.hid (show S ((W5.setCell ⟨(w.heap.size + 1 + 1), 0, none⟩ (.bool (sg p))).setCell ⟨(w.heap.size + 1 + 1), 1, none⟩ (.slice Xp (nl (mg p)) cp)) by rw [hS.out]; exact ⟨cell_other2 zx0 (by omega), cell_other2 zx1 (by omega), cell_other2 zx2 (by omega), cell_other2 zx3 (by omega), cell_other2 zx4 (by omega), cell_other2 zx5 (by omega), cell_other2 zx6 (by omega), cell_other2 zx7 (by omega)⟩)
    refine hKq.out _ _ HSq.out (fun hSq => ?_)
    clear hSq hKq Kq
    clear zx0 zx1 zx2 zx3 zx4 zx5 zx6 zx7
    try simp only [Act.put, seq0, seq1, seq2]
    have HSx := HSq.out
    rw [hS.out] at HSx
    obtain ⟨zx0, zx1, zx2, zx3, zx4, zx5, zx6, zx7⟩ := HSx
    have fz0_2 := Rs_6.f (i := 0)
    have cz0_2 := Rs_6.c (i := 0) rfl
    have fz1_2 := Rs_6.f (i := 1)
    have cz1_2 := Rs_6.c (i := 1) rfl
    have fs0_7 := Rs_6.f (i := 0)
    have fs1_7 := Rs_6.f (i := 1)
    have Rr_7 : BoxA ((((W5.setCell ⟨(w.heap.size + 1 + 1), 0, none⟩ (.bool (sg p))).setCell ⟨(w.heap.size + 1 + 1), 1, none⟩ (.slice Xp (nl (mg p)) cp)).setCell ⟨(w.heap.size + 1 + 1 + 1), 0, none⟩ (.bool (sg q))).setCell ⟨(w.heap.size + 1 + 1 + 1), 1, none⟩ (.slice Xq (nl (mg q)) cq)) _ _ _ := Rr_6.other2 (by first | omega | (simp; done) | (simp; omega))
    have Rs_7 := Rs_6.store2 (.bool (sg q)) (.slice Xq (nl (mg q)) cq)
    have Rt_7 : BoxA ((((W5.setCell ⟨(w.heap.size + 1 + 1), 0, none⟩ (.bool (sg p))).setCell ⟨(w.heap.size + 1 + 1), 1, none⟩ (.slice Xp (nl (mg p)) cp)).setCell ⟨(w.heap.size + 1 + 1 + 1), 0, none⟩ (.bool (sg q))).setCell ⟨(w.heap.size + 1 + 1 + 1), 1, none⟩ (.slice Xq (nl (mg q)) cq)) _ _ _ := Rt_6.other2 (by first | omega | (simp; done) | (simp; omega))
    have hp_7 := Rs_6.keep2 (v0 := .bool (sg q)) (v1 := .slice Xq (nl (mg q)) cq) (nuB rfl) hp_6
    have hq_7 := Rs_6.keep2 (v0 := .bool (sg q)) (v1 := .slice Xq (nl (mg q)) cq) (nuB rfl) hq_6
    have hd_7 := Rs_6.keep2 (v0 := .bool (sg q)) (v1 := .slice Xq (nl (mg q)) cq) (nuB rfl) hd_6
    have HBT_7 := Below.store2 (v0 := .bool (sg q)) (v1 := .slice Xq (nl (mg q)) cq) HBT_6 (k := (w.heap.size + 1 + 1 + 1)) (by first | exact Nat.le_refl _ | omega)
    refine SeqP.call rfl (by rfl) (fun Kq hKq => ?_)
    go_simp
    replace HSq := Lib.hid (show S ((((W5.setCell ⟨(w.heap.size + 1 + 1), 0, none⟩ (.bool (sg p))).setCell ⟨(w.heap.size + 1 + 1), 1, none⟩ (.slice Xp (nl (mg p)) cp)).setCell ⟨(w.heap.size + 1 + 1 + 1), 0, none⟩ (.bool (sg q))).setCell ⟨(w.heap.size + 1 + 1 + 1), 1, none⟩ (.slice Xq (nl (mg q)) cq)) by rw [hS.out]; exact ⟨cell_other2 zx0 (by omega), cell_other2 zx1 (by omega), cell_other2 zx2 (by omega), cell_other2 zx3 (by omega), cell_other2 zx4 (by omega), cell_other2 zx5 (by omega), cell_other2 zx6 (by omega), cell_other2 zx7 (by omega)⟩)
    refine hKq.out _ _ HSq.out (fun hSq => ?_)
    clear hSq hKq Kq
    clear zx0 zx1 zx2 zx3 zx4 zx5 zx6 zx7
    try simp only [Act.put, seq0, seq1, seq2]
    have HSx := HSq.out
    rw [hS.out] at HSx
    obtain ⟨zx0, zx1, zx2, zx3, zx4, zx5, zx6, zx7⟩ := HSx
    have fz0_3 := Rt_7.f (i := 0)
    have cz0_3 := Rt_7.c (i := 0) rfl
    have fz1_3 := Rt_7.f (i := 1)
    have cz1_3 := Rt_7.c (i := 1) rfl
    have ft0_8 := Rt_7.f (i := 0)
    have ft1_8 := Rt_7.f (i := 1)
    have Rr_8 : BoxA ((((((W5.setCell ⟨(w.heap.size + 1 + 1), 0, none⟩ (.bool (sg p))).setCell ⟨(w.heap.size + 1 + 1), 1, none⟩ (.slice Xp (nl (mg p)) cp)).setCell ⟨(w.heap.size + 1 + 1 + 1), 0, none⟩ (.bool (sg q))).setCell ⟨(w.heap.size + 1 + 1 + 1), 1, none⟩ (.slice Xq (nl (mg q)) cq)).setCell ⟨(w.heap.size + 1 + 1 + 1 + 1), 0, none⟩ (.bool (sg d))).setCell ⟨(w.heap.size + 1 + 1 + 1 + 1), 1, none⟩ (.slice Xd (nl (mg d)) cd)) _ _ _ := Rr_7.other2 (by first | omega | (simp; done) | (simp; omega))
    have Rs_8 : BoxA ((((((W5.setCell ⟨(w.heap.size + 1 + 1), 0, none⟩ (.bool (sg p))).setCell ⟨(w.heap.size + 1 + 1), 1, none⟩ (.slice Xp (nl (mg p)) cp)).setCell ⟨(w.heap.size + 1 + 1 + 1), 0, none⟩ (.bool (sg q))).setCell ⟨(w.heap.size + 1 + 1 + 1), 1, none⟩ (.slice Xq (nl (mg q)) cq)).setCell ⟨(w.heap.size + 1 + 1 + 1 + 1), 0, none⟩ (.bool (sg d))).setCell ⟨(w.heap.size + 1 + 1 + 1 + 1), 1, none⟩ (.slice Xd (nl (mg d)) cd)) _ _ _ := Rs_7.other2 (by first | omega | (simp; done) | (simp; omega))
    have Rt_8 := Rt_7.store2 (.bool (sg d)) (.slice Xd (nl (mg d)) cd)
    have hp_8 := Rt_7.keep2 (v0 := .bool (sg d)) (v1 := .slice Xd (nl (mg d)) cd) (nuB rfl) hp_7
    have hq_8 := Rt_7.keep2 (v0 := .bool (sg d)) (v1 := .slice Xd (nl (mg d)) cd) (nuB rfl) hq_7
    have hd_8 := Rt_7.keep2 (v0 := .bool (sg d)) (v1 := .slice Xd (nl (mg d)) cd) (nuB rfl) hd_7
    have HBT_8 := Below.store2 (v0 := .bool (sg d)) (v1 := .slice Xd (nl (mg d)) cd) HBT_7 (k := (w.heap.size + 1 + 1 + 1 + 1)) (by first | exact Nat.le_refl _ | omega)
    refine SeqP.call rfl (by rfl) (fun Kq hKq => ?_)
    go_simp
    replace HSq := Lib.hid (show S ((((((W5.setCell ⟨(w.heap.size + 1 + 1), 0, none⟩ (.bool (sg p))).setCell ⟨(w.heap.size + 1 + 1), 1, none⟩ (.slice Xp (nl (mg p)) cp)).setCell ⟨(w.heap.size + 1 + 1 + 1), 0, none⟩ (.bool (sg q))).setCell ⟨(w.heap.size + 1 + 1 + 1), 1, none⟩ (.slice Xq (nl (mg q)) cq)).setCell ⟨(w.heap.size + 1 + 1 + 1 + 1), 0, none⟩ (.bool (sg d))).setCell ⟨(w.heap.size + 1 + 1 + 1 + 1), 1, none⟩ (.slice Xd (nl (mg d)) cd)) by rw [hS.out]; exact ⟨cell_other2 zx0 (by omega), cell_other2 zx1 (by omega), cell_other2 zx2 (by omega), cell_other2 zx3 (by omega), cell_other2 zx4 (by omega), cell_other2 zx5 (by omega), cell_other2 zx6 (by omega), cell_other2 zx7 (by omega)⟩)
    refine hKq.out _ _ HSq.out (fun hSq => ?_)
    clear hSq hKq Kq
    clear zx0 zx1 zx2 zx3 zx4 zx5 zx6 zx7
    try simp only [Act.put, seq0, seq1, seq2]
    refine SeqP.done ?_
    clear hSb
    clear HSq
    go_wp2_with (fail)
    have e0 := Rr_8.c (i := 0) rfl
    have g0 := Rs_8.c (i := 0) rfl
    have k0 := Rt_8.c (i := 0) rfl
    have e1 := Rr_8.c (i := 1) rfl
    have g1 := Rs_8.c (i := 1) rfl
    have k1 := Rt_8.c (i := 1) rfl
    refine bodyPost_ret (v := .tuple #[.agg #[.bool (sg p), .slice Xp (nl (mg p)) cp], .agg #[.bool (sg q), .slice Xq (nl (mg q)) cq], .agg #[.bool (sg d), .slice Xd (nl (mg d)) cd]]) (by simp [results, Tryz.results95, go_sem, e0, e1, g0, g1, k0, k1]) rfl ?_
    have hp := hp_8
    have hq := hq_8
    have hd := hd_8
    have hBB := HBT_8
    have e1 := Ep.out
    have e2 := Eq.out
    have e3 := Ed.out
    rw [← e1, ← e2, ← e3]
    exact ⟨Xp, cp, Xq, cq, Xd, cd, rfl, hp, hq, hd, hBB⟩
end Go.Proofs.YtopigejgadnkaaaGreatDoor

namespace Go.Proofs.YtopigejgadnkaaaGreatDoor
open Go.RowKit Go.Shelf
attribute [local go_sem] max2_i min2_i max_two min_two

section
variable {W W' : World} {k : Nat} {t : TypeId} {u0 u1 u2 u3 u4 u5 v0 v1 v2 v3 v4 v5 : Value}
theorem set6_far (j : Nat) (hj : j ≠ k) : ((((((W.setCell ⟨k, 0, none⟩ v0).setCell ⟨k, 1, none⟩ v1).setCell ⟨k, 2, none⟩ v2).setCell ⟨k, 3, none⟩ v3).setCell ⟨k, 4, none⟩ v4).setCell ⟨k, 5, none⟩ v5).heap[j]? = W.heap[j]? := by
  rw [Below.heap_setCell _ _ _ _ (by simpa using hj), Below.heap_setCell _ _ _ _ (by simpa using hj), Below.heap_setCell _ _ _ _ (by simpa using hj), Below.heap_setCell _ _ _ _ (by simpa using hj), Below.heap_setCell _ _ _ _ (by simpa using hj), Below.heap_setCell _ _ _ _ (by simpa using hj)]
theorem BoxA.store6 (h : BoxA W k t #[u0, u1, u2, u3, u4, u5]) (v0 v1 v2 v3 v4 v5 : Value) : BoxA ((((((W.setCell ⟨k, 0, none⟩ v0).setCell ⟨k, 1, none⟩ v1).setCell ⟨k, 2, none⟩ v2).setCell ⟨k, 3, none⟩ v3).setCell ⟨k, 4, none⟩ v4).setCell ⟨k, 5, none⟩ v5) k t #[v0, v1, v2, v3, v4, v5] := by
  have h0 := heap_setCell_same W k 0 _ _ v0 h.at_
  have h1 := heap_setCell_same _ k 1 _ _ v1 h0
  have h2 := heap_setCell_same _ k 2 _ _ v2 h1
  have h3 := heap_setCell_same _ k 3 _ _ v3 h2
  have h4 := heap_setCell_same _ k 4 _ _ v4 h3
  have h5 := heap_setCell_same _ k 5 _ _ v5 h4
  exact ⟨by simpa using h5⟩
theorem BoxA.keep6 (h : BoxA W k t #[u0, u1, u2, u3, u4, u5]) (hu : ∀ u ∈ (#[u0, u1, u2, u3, u4, u5] : Array Value).toList, NotU u) {A : Option Addr} {c n : Nat} (hN : NatV W A c n) : NatV ((((((W.setCell ⟨k, 0, none⟩ v0).setCell ⟨k, 1, none⟩ v1).setCell ⟨k, 2, none⟩ v2).setCell ⟨k, 3, none⟩ v3).setCell ⟨k, 4, none⟩ v4).setCell ⟨k, 5, none⟩ v5) A c n := h.keep hu (fun j hj => set6_far j hj) hN
theorem Below.store6 {w : World} (h : Below w.heap.size w W) (hk : w.heap.size ≤ k) : Below w.heap.size w ((((((W.setCell ⟨k, 0, none⟩ v0).setCell ⟨k, 1, none⟩ v1).setCell ⟨k, 2, none⟩ v2).setCell ⟨k, 3, none⟩ v3).setCell ⟨k, 4, none⟩ v4).setCell ⟨k, 5, none⟩ v5) := ((((((h.setCell (p := ⟨k, 0, none⟩) hk _).setCell (p := ⟨k, 1, none⟩) hk _).setCell (p := ⟨k, 2, none⟩) hk _).setCell (p := ⟨k, 3, none⟩) hk _).setCell (p := ⟨k, 4, none⟩) hk _).setCell (p := ⟨k, 5, none⟩) hk _)
end
def dabs (a : Rat) : Rat := if a < 0 then -a else a
def RetB (w : World) (x y : Rat) (e : Ending) (w' : World) : Prop := ∃ A c B d, e = .returned (.agg #[.bool (sg (dmn x)), .slice A (nl (mg (dmn x))) c, .int .i64 (dex x), .bool (sg (dmn y)), .slice B (nl (mg (dmn y))) d, .int .i64 (dex y)]) ∧ NatV w' A c (mg (dmn x)) ∧ NatV w' B d (mg (dmn y)) ∧ Below w.heap.size w w'
theorem dmn_neg {a : Rat} : dmn a < 0 ↔ a < 0 := by
  have h2 := (dm_spec a.num).1
  have h3 : (dmn a).sign = a.num.sign := by
    conv => rhs; rw [h2]
    rw [Int.sign_mul, Int.sign_eq_one_of_pos (Int.pow_pos (by decide)), Int.mul_one]; rfl
  rw [← Int.sign_neg_iff, h3, Int.sign_neg_iff, num_neg]
theorem bsize_n (aA : Option Addr) (ac : Nat) (a : Rat) (w : World) (ha : NatV w aA ac (mg (dmn a))) (oa : DOk a) (h0 : a < 0) :
    Calls Tryz.prog 65 #[.agg #[.bool (sg (dmn a)), .slice aA (nl (mg (dmn a))) ac, .int .i64 (dex a)]] w (RetD w (-a)) := by
  have t1 : decide (dmn a < 0) = true := by simp [dmn_neg, h0]
  obtain ⟨hb1, Ra, Rr⟩ := bx2 w #[.bool (sg (dmn a)), .slice aA (nl (mg (dmn a))) ac, .int .i64 (dex a)] 33 #[.bool false, .slice none 0 0, .int .i64 0] 33
  replace ha := ha.below hb1
  have HBT := hb1
  clear hb1
  have qa0 := Ra.c (i := 0) rfl
  have qa1 := Ra.c (i := 1) rfl
  have qa2 := Ra.c (i := 2) rfl
  have qr0 := Rr.c (i := 0) rfl
  have qr1 := Rr.c (i := 1) rfl
  have qr2 := Rr.c (i := 2) rfl
  go_enter Tryz.func65, Tryz.ntmps65
  go_wp2_with (fail)
  refine (Calls.mono (dsign_c aA ac a _ ha) ?_)
  rintro e W2 ⟨rfl, hb2⟩
  replace ha := ha.below hb2
  replace Ra := Ra.below hb2
  replace qa0 := cbl hb2 qa0
  replace qa1 := cbl hb2 qa1
  replace qa2 := cbl hb2 qa2
  replace Rr := Rr.below hb2
  replace qr0 := cbl hb2 qr0
  replace qr1 := cbl hb2 qr1
  replace qr2 := cbl hb2 qr2
  replace HBT := Below.cons HBT hb2
  clear hb2
  go_wp2_with (fail)
  obtain ⟨z, Ez⟩ : ∃ zq : Rat, zq = -a := ⟨_, rfl⟩
  refine (Calls.mono (R := RetD W2 z) (by rw [Ez]; with_reducible exact (dneg_c aA ac a _ ha oa)) ?_)
  replace Ez := Lib.hid Ez
  rintro e W3 ⟨Xz, cz, rfl, hz, hb3⟩
  replace ha := ha.below hb3
  replace Ra := Ra.below hb3
  replace qa0 := cbl hb3 qa0
  replace qa1 := cbl hb3 qa1
  replace qa2 := cbl hb3 qa2
  replace Rr := Rr.below hb3
  replace qr0 := cbl hb3 qr0
  replace qr1 := cbl hb3 qr1
  replace qr2 := cbl hb3 qr2
  replace HBT := Below.cons HBT hb3
  clear hb3
  have fzr0 := Rr.f (i := 0)
  have fzr1 := Rr.f (i := 1)
  have fzr2 := Rr.f (i := 2)
  go_wp2_with (fail)
  have hzz : z = (-a) := by exact Ez.out
  subst hzz
  have RS := Rr.store3 (.bool (sg (dmn (((-a)))))) (.slice Xz (nl (mg (dmn (((-a)))))) cz) (.int .i64 (dex (((-a)))))
  have e0 := RS.c (i := 0) rfl
  have e1 := RS.c (i := 1) rfl
  have e2 := RS.c (i := 2) rfl
  refine bodyPost_ret (v := .agg #[.bool (sg (dmn (((-a))))), .slice Xz (nl (mg (dmn (((-a)))))) cz, .int .i64 (dex (((-a))))]) (by simp [results, Tryz.results65, go_sem, e0, e1, e2]) rfl ?_
  exact ⟨Xz, cz, rfl, (Rr.keep3 (nuB rfl) hz), (Below.store3 HBT (by first | exact Nat.le_refl _ | omega))⟩
theorem bsize_p (aA : Option Addr) (ac : Nat) (a : Rat) (w : World) (ha : NatV w aA ac (mg (dmn a))) (h0 : ¬ a < 0) :
    Calls Tryz.prog 65 #[.agg #[.bool (sg (dmn a)), .slice aA (nl (mg (dmn a))) ac, .int .i64 (dex a)]] w (RetD w (a)) := by
  have t1 : decide (dmn a < 0) = false := by simp [dmn_neg, h0]
  obtain ⟨hb1, Ra, Rr⟩ := bx2 w #[.bool (sg (dmn a)), .slice aA (nl (mg (dmn a))) ac, .int .i64 (dex a)] 33 #[.bool false, .slice none 0 0, .int .i64 0] 33
  replace ha := ha.below hb1
  have HBT := hb1
  clear hb1
  have qa0 := Ra.c (i := 0) rfl
  have qa1 := Ra.c (i := 1) rfl
  have qa2 := Ra.c (i := 2) rfl
  have qr0 := Rr.c (i := 0) rfl
  have qr1 := Rr.c (i := 1) rfl
  have qr2 := Rr.c (i := 2) rfl
  go_enter Tryz.func65, Tryz.ntmps65
  go_wp2_with (fail)
  refine (Calls.mono (dsign_c aA ac a _ ha) ?_)
  rintro e W2 ⟨rfl, hb2⟩
  replace ha := ha.below hb2
  replace Ra := Ra.below hb2
  replace qa0 := cbl hb2 qa0
  replace qa1 := cbl hb2 qa1
  replace qa2 := cbl hb2 qa2
  replace Rr := Rr.below hb2
  replace qr0 := cbl hb2 qr0
  replace qr1 := cbl hb2 qr1
  replace qr2 := cbl hb2 qr2
  replace HBT := Below.cons HBT hb2
  clear hb2
  have fzr0 := Rr.f (i := 0)
  have fzr1 := Rr.f (i := 1)
  have fzr2 := Rr.f (i := 2)
  go_wp2_with (fail)
  have RS := Rr.store3 (.bool (sg (dmn a))) (.slice aA (nl (mg (dmn a))) ac) (.int .i64 (dex a))
  have e0 := RS.c (i := 0) rfl
  have e1 := RS.c (i := 1) rfl
  have e2 := RS.c (i := 2) rfl
  refine bodyPost_ret (v := .agg #[.bool (sg (dmn a)), .slice aA (nl (mg (dmn a))) ac, .int .i64 (dex a)]) (by simp [results, Tryz.results65, go_sem, e0, e1, e2]) rfl ?_
  exact ⟨aA, ac, rfl, (Rr.keep3 (nuB rfl) ha), (Below.store3 HBT (by first | exact Nat.le_refl _ | omega))⟩
theorem bsize_c (aA : Option Addr) (ac : Nat) (a : Rat) (w : World) (ha : NatV w aA ac (mg (dmn a))) (oa : DOk a) :
    Calls Tryz.prog 65 #[.agg #[.bool (sg (dmn a)), .slice aA (nl (mg (dmn a))) ac, .int .i64 (dex a)]] w (RetD w (dabs a)) := by
  unfold dabs
  split
  · rename_i h; exact bsize_n aA ac a w ha oa h
  · rename_i h; exact bsize_p aA ac a w ha h
theorem bof_c (aA : Option Addr) (ac : Nat) (a : Rat) (bA : Option Addr) (bc : Nat) (b : Rat) (w : World) (ha : NatV w aA ac (mg (dmn a))) (hb : NatV w bA bc (mg (dmn b))) (oa : DOk a) (ob : DOk b) (hT : Tab w) :
    Calls Tryz.prog 53 #[.agg #[.bool (sg (dmn a)), .slice aA (nl (mg (dmn a))) ac, .int .i64 (dex a), .bool (sg (dmn b)), .slice bA (nl (mg (dmn b))) bc, .int .i64 (dex b)]] w (RetB w (a - b) (a + b)) := by
  obtain ⟨x, Ex⟩ : ∃ zq : Rat, zq = a - b := ⟨_, rfl⟩
  obtain ⟨y, Ey⟩ : ∃ zq : Rat, zq = a + b := ⟨_, rfl⟩
  have CX := fun (W : World) (h1 : NatV W aA ac (mg (dmn a))) (h2 : NatV W bA bc (mg (dmn b))) (hT : Tab W) => dsub_c aA ac a bA bc b W h1 h2 oa ob hT
  rw [← Ex] at CX
  replace CX := Lib.hid CX
  have CY := fun (W : World) (h1 : NatV W aA ac (mg (dmn a))) (h2 : NatV W bA bc (mg (dmn b))) (hT : Tab W) => dadd_c aA ac a bA bc b W h1 h2 oa ob hT
  rw [← Ey] at CY
  replace CY := Lib.hid CY
  rw [← Ex, ← Ey]
  replace Ex := Lib.hid Ex
  replace Ey := Lib.hid Ey
  obtain ⟨hb1, Rp, Rr⟩ := bx2 w #[.bool (sg (dmn a)), .slice aA (nl (mg (dmn a))) ac, .int .i64 (dex a), .bool (sg (dmn b)), .slice bA (nl (mg (dmn b))) bc, .int .i64 (dex b)] 40 #[.bool false, .slice none 0 0, .int .i64 0, .bool false, .slice none 0 0, .int .i64 0] 84
  replace ha := ha.below hb1
  replace hb := hb.below hb1
  replace hT := hT.below hb1
  have HBT := hb1
  clear hb1
  have qp0 := Rp.c (i := 0) rfl
  have qp1 := Rp.c (i := 1) rfl
  have qp2 := Rp.c (i := 2) rfl
  have qp3 := Rp.c (i := 3) rfl
  have qp4 := Rp.c (i := 4) rfl
  have qp5 := Rp.c (i := 5) rfl
  have qr0 := Rr.c (i := 0) rfl
  have qr1 := Rr.c (i := 1) rfl
  have qr2 := Rr.c (i := 2) rfl
  have qr3 := Rr.c (i := 3) rfl
  have qr4 := Rr.c (i := 4) rfl
  have qr5 := Rr.c (i := 5) rfl
  go_enter Tryz.func53, Tryz.ntmps53
  go_wp2_with (fail)
  generalize hW0 : ((w.alloc (.cells #[.bool (sg (dmn a)), .slice aA (nl (mg (dmn a))) ac, .int .i64 (dex a), .bool (sg (dmn b)), .slice bA (nl (mg (dmn b))) bc, .int .i64 (dex b)] 40)).alloc (.cells #[.bool false, .slice none 0 0, .int .i64 0, .bool false, .slice none 0 0, .int .i64 0] 84)) = W0 at *
  replace hW0 := Lib.hid hW0
  refine wp_region_fin 10 2 [.val (.pointer (some ⟨w.heap.size, 0, none⟩)), .val (.agg #[.bool (sg (dmn a)), .slice aA (nl (mg (dmn a))) ac, .int .i64 (dex a)]), .val (.pointer (some ⟨w.heap.size, 3, none⟩)), .val (.agg #[.bool (sg (dmn b)), .slice bA (nl (mg (dmn b))) bc, .int .i64 (dex b)]), .dyad x, .val (.pointer (some ⟨w.heap.size, 0, none⟩)), .val (.agg #[.bool (sg (dmn a)), .slice aA (nl (mg (dmn a))) ac, .int .i64 (dex a)]), .val (.pointer (some ⟨w.heap.size, 3, none⟩)), .val (.agg #[.bool (sg (dmn b)), .slice bA (nl (mg (dmn b))) bc, .int .i64 (dex b)]), .dyad y] (by kernel_rfl) (by kernel_rfl) (by kernel_rfl) (by kernel_rfl) (by kernel_rfl) rfl ?_ ?_
  · skip
    refine ⟨?_, ?_⟩
    · intro Ew aw wc st hdep
      have t1 : aw.tmps[1]? = some (.pointer (some ⟨w.heap.size, 0, none⟩)) := (st.old 1 (by kernel_rfl)).trans (by rfl)
      have e1 := tmp_of t1
      refine op_want rfl (by rfl) (fun K' hK' => ?_)
      go_simp
      exact hK'.out _ _ ⟨_, rfl, rfl, Below.refl _ _⟩
    refine ⟨?_, ?_⟩
    · intro Ew aw wc st hdep
      obtain ⟨v3, t3, r3⟩ := st.nw hdep 0 3
      obtain rfl : v3 = .pointer (some ⟨w.heap.size, 0, none⟩) := r3
      have qp0 := cbl st.b qp0
      have qp1 := cbl st.b qp1
      have qp2 := cbl st.b qp2
      have e3 := tmp_of t3
      refine op_want rfl (by rfl) (fun K' hK' => ?_)
      go_simp
      exact hK'.out _ _ ⟨_, rfl, rfl, Below.refl _ _⟩
    refine ⟨?_, ?_⟩
    · intro Ew aw wc st hdep
      have t1 : aw.tmps[1]? = some (.pointer (some ⟨w.heap.size, 0, none⟩)) := (st.old 1 (by kernel_rfl)).trans (by rfl)
      have e1 := tmp_of t1
      refine op_want rfl (by rfl) (fun K' hK' => ?_)
      go_simp
      exact hK'.out _ _ ⟨_, rfl, rfl, Below.refl _ _⟩
    refine ⟨?_, ?_⟩
    · intro Ew aw wc st hdep
      obtain ⟨v5, t5, r5⟩ := st.nw hdep 2 5
      obtain rfl : v5 = .pointer (some ⟨w.heap.size, 3, none⟩) := r5
      have qp3 := cbl st.b qp3
      have qp4 := cbl st.b qp4
      have qp5 := cbl st.b qp5
      have e5 := tmp_of t5
      refine op_want rfl (by rfl) (fun K' hK' => ?_)
      go_simp
      exact hK'.out _ _ ⟨_, rfl, rfl, Below.refl _ _⟩
    refine ⟨?_, ?_⟩
    · intro Ew aw wc st hdep
      obtain ⟨v4, t4, r4⟩ := st.nw hdep 1 4
      obtain rfl : v4 = .agg #[.bool (sg (dmn a)), .slice aA (nl (mg (dmn a))) ac, .int .i64 (dex a)] := r4
      obtain ⟨v6, t6, r6⟩ := st.nw hdep 3 6
      obtain rfl : v6 = .agg #[.bool (sg (dmn b)), .slice bA (nl (mg (dmn b))) bc, .int .i64 (dex b)] := r6
      have e4 := tmp_of t4
      have e6 := tmp_of t6
      refine op_want rfl (by rfl) (fun K' hK' => ?_)
      go_simp
      refine (Calls.mono (R := RetD wc x) (CX.out wc (ha.below st.b) (hb.below st.b) (hT.below st.b)) ?_)
      rintro e W ⟨X, c, rfl, hX, kb⟩
      exact hK'.out _ _ ⟨_, rfl, ⟨X, c, rfl, hX⟩, kb⟩
    refine ⟨?_, ?_⟩
    · intro Ew aw wc st hdep
      have t1 : aw.tmps[1]? = some (.pointer (some ⟨w.heap.size, 0, none⟩)) := (st.old 1 (by kernel_rfl)).trans (by rfl)
      have e1 := tmp_of t1
      refine op_want rfl (by rfl) (fun K' hK' => ?_)
      go_simp
      exact hK'.out _ _ ⟨_, rfl, rfl, Below.refl _ _⟩
    refine ⟨?_, ?_⟩
    · intro Ew aw wc st hdep
      obtain ⟨v8, t8, r8⟩ := st.nw hdep 5 8
      obtain rfl : v8 = .pointer (some ⟨w.heap.size, 0, none⟩) := r8
      have qp0 := cbl st.b qp0
      have qp1 := cbl st.b qp1
      have qp2 := cbl st.b qp2
      have e8 := tmp_of t8
      refine op_want rfl (by rfl) (fun K' hK' => ?_)
      go_simp
      exact hK'.out _ _ ⟨_, rfl, rfl, Below.refl _ _⟩
    refine ⟨?_, ?_⟩
    · intro Ew aw wc st hdep
      have t1 : aw.tmps[1]? = some (.pointer (some ⟨w.heap.size, 0, none⟩)) := (st.old 1 (by kernel_rfl)).trans (by rfl)
      have e1 := tmp_of t1
      refine op_want rfl (by rfl) (fun K' hK' => ?_)
      go_simp
      exact hK'.out _ _ ⟨_, rfl, rfl, Below.refl _ _⟩
    refine ⟨?_, ?_⟩
    · intro Ew aw wc st hdep
      obtain ⟨v10, t10, r10⟩ := st.nw hdep 7 10
      obtain rfl : v10 = .pointer (some ⟨w.heap.size, 3, none⟩) := r10
      have qp3 := cbl st.b qp3
      have qp4 := cbl st.b qp4
      have qp5 := cbl st.b qp5
      have e10 := tmp_of t10
      refine op_want rfl (by rfl) (fun K' hK' => ?_)
      go_simp
      exact hK'.out _ _ ⟨_, rfl, rfl, Below.refl _ _⟩
    refine ⟨?_, ?_⟩
    · intro Ew aw wc st hdep
      obtain ⟨v9, t9, r9⟩ := st.nw hdep 6 9
      obtain rfl : v9 = .agg #[.bool (sg (dmn a)), .slice aA (nl (mg (dmn a))) ac, .int .i64 (dex a)] := r9
      obtain ⟨v11, t11, r11⟩ := st.nw hdep 8 11
      obtain rfl : v11 = .agg #[.bool (sg (dmn b)), .slice bA (nl (mg (dmn b))) bc, .int .i64 (dex b)] := r11
      have e9 := tmp_of t9
      have e11 := tmp_of t11
      refine op_want rfl (by rfl) (fun K' hK' => ?_)
      go_simp
      refine (Calls.mono (R := RetD wc y) (CY.out wc (ha.below st.b) (hb.below st.b) (hT.below st.b)) ?_)
      rintro e W ⟨X, c, rfl, hX, kb⟩
      exact hK'.out _ _ ⟨_, rfl, ⟨X, c, rfl, hX⟩, kb⟩
    exact trivial
  intro vs wc hr hB
  obtain ⟨u3, r_3, rfl, k3, hr_3⟩ := hr.un
  obtain rfl : u3 = .pointer (some ⟨w.heap.size, 0, none⟩) := k3
  obtain ⟨u4, r_4, rfl, k4, hr_4⟩ := hr_3.un
  obtain rfl : u4 = .agg #[.bool (sg (dmn a)), .slice aA (nl (mg (dmn a))) ac, .int .i64 (dex a)] := k4
  obtain ⟨u5, r_5, rfl, k5, hr_5⟩ := hr_4.un
  obtain rfl : u5 = .pointer (some ⟨w.heap.size, 3, none⟩) := k5
  obtain ⟨u6, r_6, rfl, k6, hr_6⟩ := hr_5.un
  obtain rfl : u6 = .agg #[.bool (sg (dmn b)), .slice bA (nl (mg (dmn b))) bc, .int .i64 (dex b)] := k6
  obtain ⟨u7, r_7, rfl, k7, hr_7⟩ := hr_6.un
  obtain ⟨X7, c7, rfl, h7⟩ := k7
  obtain ⟨u8, r_8, rfl, k8, hr_8⟩ := hr_7.un
  obtain rfl : u8 = .pointer (some ⟨w.heap.size, 0, none⟩) := k8
  obtain ⟨u9, r_9, rfl, k9, hr_9⟩ := hr_8.un
  obtain rfl : u9 = .agg #[.bool (sg (dmn a)), .slice aA (nl (mg (dmn a))) ac, .int .i64 (dex a)] := k9
  obtain ⟨u10, r_10, rfl, k10, hr_10⟩ := hr_9.un
  obtain rfl : u10 = .pointer (some ⟨w.heap.size, 3, none⟩) := k10
  obtain ⟨u11, r_11, rfl, k11, hr_11⟩ := hr_10.un
  obtain rfl : u11 = .agg #[.bool (sg (dmn b)), .slice bA (nl (mg (dmn b))) bc, .int .i64 (dex b)] := k11
  obtain ⟨u12, r_12, rfl, k12, hr_12⟩ := hr_11.un
  obtain ⟨X12, c12, rfl, h12⟩ := k12
  obtain rfl := hr_12.nil
  clear hr hr_3 hr_4 hr_5 hr_6 hr_7 hr_8 hr_9 hr_10 hr_11 hr_12
  replace ha := ha.below hB
  replace hb := hb.below hB
  replace hT := hT.below hB
  replace Rp := Rp.below hB
  replace qp0 := cbl hB qp0
  replace qp1 := cbl hB qp1
  replace qp2 := cbl hB qp2
  replace qp3 := cbl hB qp3
  replace qp4 := cbl hB qp4
  replace qp5 := cbl hB qp5
  replace Rr := Rr.below hB
  replace qr0 := cbl hB qr0
  replace qr1 := cbl hB qr1
  replace qr2 := cbl hB qr2
  replace qr3 := cbl hB qr3
  replace qr4 := cbl hB qr4
  replace qr5 := cbl hB qr5
  replace HBT := Below.cons HBT hB
  clear hB
  simp only [upTo, List.take_succ_cons, List.take_zero, putAll, Act.put, seq0, seq1, seq2]
  clear ha
  clear hb
  clear hT
  clear Rp
  clear qp0
  clear qp1
  clear qp2
  clear qp3
  clear qp4
  clear qp5
  have fzr0 := Rr.f (i := 0)
  have fzr1 := Rr.f (i := 1)
  have fzr2 := Rr.f (i := 2)
  have fzr3 := Rr.f (i := 3)
  have fzr4 := Rr.f (i := 4)
  have fzr5 := Rr.f (i := 5)
  refine TailP.one rfl (by rfl) (fun K' hK' => ?_)
  go_simp
  refine hK'.out _ _ ?_
  try simp only [Act.put, seq0, seq1, seq2]
  refine TailP.one rfl (by rfl) (fun K' hK' => ?_)
  go_simp
  refine hK'.out _ _ ?_
  try simp only [Act.put, seq0, seq1, seq2]
  refine TailP.done ?_
  go_wp2_with (fail)
  have RS := Rr.store6 (.bool (sg (dmn x))) (.slice X7 (nl (mg (dmn x))) c7) (.int .i64 (dex x)) (.bool (sg (dmn y))) (.slice X12 (nl (mg (dmn y))) c12) (.int .i64 (dex y))
  have e0 := RS.c (i := 0) rfl
  have e1 := RS.c (i := 1) rfl
  have e2 := RS.c (i := 2) rfl
  have e3 := RS.c (i := 3) rfl
  have e4 := RS.c (i := 4) rfl
  have e5 := RS.c (i := 5) rfl
  refine bodyPost_ret (v := .agg #[.bool (sg (dmn x)), .slice X7 (nl (mg (dmn x))) c7, .int .i64 (dex x), .bool (sg (dmn y)), .slice X12 (nl (mg (dmn y))) c12, .int .i64 (dex y)]) (by simp [results, Tryz.results53, go_sem, e0, e1, e2, e3, e4, e5]) rfl ?_
  exact ⟨X7, c7, X12, c12, rfl, (Rr.keep6 (by intro u hu; simp at hu; rcases hu with rfl | rfl | rfl | rfl | rfl | rfl <;> first | exact notU_bool _ | exact notU_slice _ _ _ | exact notU_i64 _) h7), (Rr.keep6 (by intro u hu; simp at hu; rcases hu with rfl | rfl | rfl | rfl | rfl | rfl <;> first | exact notU_bool _ | exact notU_slice _ _ _ | exact notU_i64 _) h12), (Below.store6 HBT (by first | exact Nat.le_refl _ | omega))⟩
end Go.Proofs.YtopigejgadnkaaaGreatDoor

namespace Go.Proofs.YtopigejgadnkaaaGreatDoor
open Go.RowKit Go.Shelf
attribute [local go_sem] max2_i min2_i max_two min_two

theorem ps1_c (i : Nat) (yA : Option Addr) (yc : Nat) (y : Int) (lA : Option Addr) (lc : Nat) (l : Int) (kl : Nat) (w : World) (hy : NatV w yA yc (mg y)) (hl : NatV w lA lc (mg l)) (Rl : BoxA w kl 24 #[.bool (sg l), .slice lA (nl (mg l)) lc]) (hG : Flds w) (ly : nl (mg y) ≤ 7) (ll : nl (mg l) ≤ 7) :
    Calls Tryz.prog 114 #[.int .i64 (i : Nat), .agg #[.bool (sg y), .slice yA (nl (mg y)) yc], .pointer (some ⟨kl, 0, none⟩)] w (RetI w (y * l)) := by
  have hG0 := hG
  obtain ⟨z, Ez⟩ : ∃ zq : Int, zq = y * l := ⟨_, rfl⟩
  have CZ := fun (W : World) (h1 : NatV W yA yc (mg y)) (h2 : NatV W lA lc (mg l)) (hG : Flds W) => imul_c yA yc y lA lc l W h1 h2 hG (by omega) (by omega)
  rw [← Ez] at CZ
  replace CZ := Lib.hid CZ
  rw [← Ez]
  replace Ez := Lib.hid Ez
  replace ly := Lib.hid ly
  replace ll := Lib.hid ll
  have k_l := Rl.lt
  have ql0 := Rl.c (i := 0) rfl
  have ql1 := Rl.c (i := 1) rfl
  obtain ⟨hb1, Ry, Rr⟩ := bx2 w #[.bool (sg y), .slice yA (nl (mg y)) yc] 24 #[.bool false, .slice none 0 0] 24
  replace hy := hy.below hb1
  replace hl := hl.below hb1
  replace hG := hG.below hb1
  replace Rl := Rl.below hb1
  replace ql0 := cbl hb1 ql0
  replace ql1 := cbl hb1 ql1
  have HBT := hb1
  clear hb1
  have qy0 := Ry.c (i := 0) rfl
  have qy1 := Ry.c (i := 1) rfl
  have qr0 := Rr.c (i := 0) rfl
  have qr1 := Rr.c (i := 1) rfl
  go_enter Tryz.func114, Tryz.ntmps114
  go_wp2_with (fail)
  refine (Calls.mono (CZ.out _ hy hl hG) ?_)
  rintro e W2 ⟨Xz, cz, rfl, hz, hb2⟩
  replace hy := hy.below hb2
  replace hl := hl.below hb2
  replace hG := hG.below hb2
  replace Rl := Rl.below hb2
  replace ql0 := cbl hb2 ql0
  replace ql1 := cbl hb2 ql1
  replace Ry := Ry.below hb2
  replace qy0 := cbl hb2 qy0
  replace qy1 := cbl hb2 qy1
  replace Rr := Rr.below hb2
  replace qr0 := cbl hb2 qr0
  replace qr1 := cbl hb2 qr1
  replace HBT := Below.cons HBT hb2
  clear hb2
  have fzr0 := Rr.f (i := 0)
  have fzr1 := Rr.f (i := 1)
  go_wp2_with (fail)
  have RS := Rr.store2 (.bool (sg z)) (.slice Xz (nl (mg z)) cz)
  have e0 := RS.c (i := 0) rfl
  have e1 := RS.c (i := 1) rfl
  refine bodyPost_ret (v := .agg #[.bool (sg z), .slice Xz (nl (mg z)) cz]) (by simp [results, Tryz.results114, go_sem, e0, e1]) rfl ?_
  exact ⟨Xz, cz, rfl, (Rr.keep2 (nuB rfl) hz), (Below.store2 HBT (by first | exact Nat.le_refl _ | omega))⟩
theorem ps2a_c (i : Nat) (yA : Option Addr) (yc : Nat) (y : Int) (lA : Option Addr) (lc : Nat) (l : Int) (xA : Option Addr) (xc : Nat) (x : Int) (V : Option Addr) (c m : Nat) (b : List Int) (k j : Nat) (kl kk kx kb : Nat) (u : Int) (w : World) (hy : NatV w yA yc (mg y)) (hl : NatV w lA lc (mg l)) (hx : NatV w xA xc (mg x)) (hP : PolV w V c b) (hm : b.length = m) (Rl : BoxA w kl 24 #[.bool (sg l), .slice lA (nl (mg l)) lc]) (Rk : BoxA w kk 3 #[.int .i64 (k : Nat)]) (Rx : BoxA w kx 24 #[.bool (sg x), .slice xA (nl (mg x)) xc]) (Rb : BoxA w kb 46 #[.slice V m c]) (hG : Flds w) (ly : nl (mg y) ≤ 7) (ll : nl (mg l) ≤ 7) (lx : nl (mg x) ≤ 7) (hi : i ≤ 1048576) (hk : k ≤ 1048576) (hik : i < k):
    Calls Tryz.prog 115 #[.int .i64 (i : Nat), .agg #[.bool (sg y), .slice yA (nl (mg y)) yc], .pointer (some ⟨kl, 0, none⟩), .pointer (some ⟨kk, 0, none⟩), .pointer (some ⟨kx, 0, none⟩), .pointer (some ⟨kb, 0, none⟩)] w (RetI w (y * l)) := by
  have hG0 := hG
  obtain ⟨m1, Em1⟩ : ∃ zq : Int, zq = y * l := ⟨_, rfl⟩
  have l1 : nl (mg m1) ≤ 262144 := by rw [Em1, mg_mul]; have := nl_mul (mg y) (mg l); omega
  have C1 := fun (W : World) (h1 : NatV W yA yc (mg y)) (h2 : NatV W lA lc (mg l)) (hG : Flds W) => imul_c yA yc y lA lc l W h1 h2 hG (by omega) (by omega)
  rw [← Em1] at C1
  replace C1 := Lib.hid C1
  obtain ⟨I, EI⟩ : ∃ I : Int, I = (i : Nat) := ⟨_, rfl⟩
  obtain ⟨K, EK⟩ : ∃ K : Int, K = (k : Nat) := ⟨_, rfl⟩
  have t1 : decide (K ≤ I) = false := by simp; omega
  rw [← EK] at Rk
  rw [← EI]
  rw [← Em1]
  replace Em1 := Lib.hid Em1
  replace l1 := Lib.hid l1
  replace EI := Lib.hid EI
  replace EK := Lib.hid EK
  clear hP
  clear hik
  have k_l := Rl.lt
  have ql0 := Rl.c (i := 0) rfl
  have ql1 := Rl.c (i := 1) rfl
  have k_k := Rk.lt
  have qk0 := Rk.c (i := 0) rfl
  have k_x := Rx.lt
  have qx0 := Rx.c (i := 0) rfl
  have qx1 := Rx.c (i := 1) rfl
  have k_b := Rb.lt
  have qb0 := Rb.c (i := 0) rfl
  obtain ⟨hb1, Ry, Rr⟩ := bx2 w #[.bool (sg y), .slice yA (nl (mg y)) yc] 24 #[.bool false, .slice none 0 0] 24
  replace hy := hy.below hb1
  replace hl := hl.below hb1
  replace hx := hx.below hb1
  replace hG := hG.below hb1
  replace Rl := Rl.below hb1
  replace ql0 := cbl hb1 ql0
  replace ql1 := cbl hb1 ql1
  replace Rk := Rk.below hb1
  replace qk0 := cbl hb1 qk0
  replace Rx := Rx.below hb1
  replace qx0 := cbl hb1 qx0
  replace qx1 := cbl hb1 qx1
  replace Rb := Rb.below hb1
  replace qb0 := cbl hb1 qb0
  have HBT := hb1
  clear hb1
  have qy0 := Ry.c (i := 0) rfl
  have qy1 := Ry.c (i := 1) rfl
  have qr0 := Rr.c (i := 0) rfl
  have qr1 := Rr.c (i := 1) rfl
  go_enter Tryz.func115, Tryz.ntmps115
  go_wp2_with (fail)
  refine (Calls.mono (C1.out _ hy hl hG) ?_)
  rintro e W2 ⟨Xm1, cm1, rfl, hm1, hb2⟩
  replace hy := hy.below hb2
  replace hl := hl.below hb2
  replace hx := hx.below hb2
  replace hG := hG.below hb2
  replace Rl := Rl.below hb2
  replace ql0 := cbl hb2 ql0
  replace ql1 := cbl hb2 ql1
  replace Rk := Rk.below hb2
  replace qk0 := cbl hb2 qk0
  replace Rx := Rx.below hb2
  replace qx0 := cbl hb2 qx0
  replace qx1 := cbl hb2 qx1
  replace Rb := Rb.below hb2
  replace qb0 := cbl hb2 qb0
  replace Ry := Ry.below hb2
  replace qy0 := cbl hb2 qy0
  replace qy1 := cbl hb2 qy1
  replace Rr := Rr.below hb2
  replace qr0 := cbl hb2 qr0
  replace qr1 := cbl hb2 qr1
  replace HBT := Below.cons HBT hb2
  clear hb2
  clear hy
  clear hl
  clear Rl
  clear ql0
  clear ql1
  have fy0_3 := Ry.f (i := 0)
  have fy1_3 := Ry.f (i := 1)
  have Rk_3 : BoxA ((W2.setCell ⟨w.heap.size, 0, none⟩ (.bool (sg m1))).setCell ⟨w.heap.size, 1, none⟩ (.slice Xm1 (nl (mg m1)) cm1)) _ _ _ := Rk.other2 (by first | omega | (simp; done) | (simp; omega))
  have Rx_3 : BoxA ((W2.setCell ⟨w.heap.size, 0, none⟩ (.bool (sg m1))).setCell ⟨w.heap.size, 1, none⟩ (.slice Xm1 (nl (mg m1)) cm1)) _ _ _ := Rx.other2 (by first | omega | (simp; done) | (simp; omega))
  have Rb_3 : BoxA ((W2.setCell ⟨w.heap.size, 0, none⟩ (.bool (sg m1))).setCell ⟨w.heap.size, 1, none⟩ (.slice Xm1 (nl (mg m1)) cm1)) _ _ _ := Rb.other2 (by first | omega | (simp; done) | (simp; omega))
  have Ry_3 := Ry.store2 (.bool (sg m1)) (.slice Xm1 (nl (mg m1)) cm1)
  have Rr_3 : BoxA ((W2.setCell ⟨w.heap.size, 0, none⟩ (.bool (sg m1))).setCell ⟨w.heap.size, 1, none⟩ (.slice Xm1 (nl (mg m1)) cm1)) _ _ _ := Rr.other2 (by first | omega | (simp; done) | (simp; omega))
  have hx_3 := Ry.keep2 (v0 := .bool (sg m1)) (v1 := .slice Xm1 (nl (mg m1)) cm1) (nuB rfl) hx
  have qk0_3 := Rk_3.c (i := 0) rfl
  have qx0_3 := Rx_3.c (i := 0) rfl
  have qx1_3 := Rx_3.c (i := 1) rfl
  have qb0_3 := Rb_3.c (i := 0) rfl
  have qy0_3 := Ry_3.c (i := 0) rfl
  have qy1_3 := Ry_3.c (i := 1) rfl
  have qr0_3 := Rr_3.c (i := 0) rfl
  have qr1_3 := Rr_3.c (i := 1) rfl
  have hm1_3 := Ry.keep2 (v0 := .bool (sg m1)) (v1 := .slice Xm1 (nl (mg m1)) cm1) (nuB rfl) hm1
  have HBT_3 := Below.store2 (v0 := .bool (sg m1)) (v1 := .slice Xm1 (nl (mg m1)) cm1) HBT (k := w.heap.size) (by first | exact Nat.le_refl _ | omega)
  have hG_3 := hG0.below HBT_3
  have fzr0 := Rr_3.f (i := 0)
  have fzr1 := Rr_3.f (i := 1)
  go_wp2_with (fail)
  clear fy0_3 fy1_3 Rk Rx Rb Ry Rr hx hG qk0 qx0 qx1 qb0 qy0 qy1 qr0 qr1 hm1 HBT
  have RS := Rr_3.store2 (.bool (sg m1)) (.slice Xm1 (nl (mg m1)) cm1)
  have e0 := RS.c (i := 0) rfl
  have e1 := RS.c (i := 1) rfl
  refine bodyPost_ret (v := .agg #[.bool (sg m1), .slice Xm1 (nl (mg m1)) cm1]) (by simp [results, Tryz.results115, go_sem, e0, e1]) rfl ?_
  exact ⟨Xm1, cm1, rfl, (Rr_3.keep2 (nuB rfl) hm1_3), (Below.store2 HBT_3 (by first | exact Nat.le_refl _ | omega))⟩
theorem ps2b_c (i : Nat) (yA : Option Addr) (yc : Nat) (y : Int) (lA : Option Addr) (lc : Nat) (l : Int) (xA : Option Addr) (xc : Nat) (x : Int) (V : Option Addr) (c m : Nat) (b : List Int) (k j : Nat) (kl kk kx kb : Nat) (u : Int) (w : World) (hy : NatV w yA yc (mg y)) (hl : NatV w lA lc (mg l)) (hx : NatV w xA xc (mg x)) (hP : PolV w V c b) (hm : b.length = m) (Rl : BoxA w kl 24 #[.bool (sg l), .slice lA (nl (mg l)) lc]) (Rk : BoxA w kk 3 #[.int .i64 (k : Nat)]) (Rx : BoxA w kx 24 #[.bool (sg x), .slice xA (nl (mg x)) xc]) (Rb : BoxA w kb 46 #[.slice V m c]) (hG : Flds w) (ly : nl (mg y) ≤ 7) (ll : nl (mg l) ≤ 7) (lx : nl (mg x) ≤ 7) (hi : i ≤ 1048576) (hk : k ≤ 1048576) (hij : i = k + j) (hj : j < m) (hu : u = gi b j) (lu : nl (mg u) ≤ 7):
    Calls Tryz.prog 115 #[.int .i64 (i : Nat), .agg #[.bool (sg y), .slice yA (nl (mg y)) yc], .pointer (some ⟨kl, 0, none⟩), .pointer (some ⟨kk, 0, none⟩), .pointer (some ⟨kx, 0, none⟩), .pointer (some ⟨kb, 0, none⟩)] w (RetI w (y * l - x * u)) := by
  have hG0 := hG
  obtain ⟨m1, Em1⟩ : ∃ zq : Int, zq = y * l := ⟨_, rfl⟩
  have l1 : nl (mg m1) ≤ 262144 := by rw [Em1, mg_mul]; have := nl_mul (mg y) (mg l); omega
  have C1 := fun (W : World) (h1 : NatV W yA yc (mg y)) (h2 : NatV W lA lc (mg l)) (hG : Flds W) => imul_c yA yc y lA lc l W h1 h2 hG (by omega) (by omega)
  rw [← Em1] at C1
  replace C1 := Lib.hid C1
  obtain ⟨I, EI⟩ : ∃ I : Int, I = (i : Nat) := ⟨_, rfl⟩
  obtain ⟨K, EK⟩ : ∃ K : Int, K = (k : Nat) := ⟨_, rfl⟩
  have t1 : decide (K ≤ I) = true := by simp; omega
  rw [← EK] at Rk
  rw [← EI]
  obtain ⟨m2, Em2⟩ : ∃ zq : Int, zq = x * u := ⟨_, rfl⟩
  have l2 : nl (mg m2) ≤ 262144 := by rw [Em2, mg_mul]; have := nl_mul (mg x) (mg u); omega
  obtain ⟨z, Ez⟩ : ∃ zq : Int, zq = m1 - m2 := ⟨_, rfl⟩
  obtain ⟨ad, uA, uc, rfl, c0, c1, hu2⟩ := hP.a j (by omega)
  rw [← hu] at c0 c1 hu2
  have C2 := fun (W : World) (h1 : NatV W xA xc (mg x)) (h2 : NatV W uA uc (mg u)) (hG : Flds W) => imul_c xA xc x uA uc u W h1 h2 hG (by omega) (by omega)
  rw [← Em2] at C2
  replace C2 := Lib.hid C2
  have C3 := fun (W : World) (A : Option Addr) (k : Nat) (B : Option Addr) (j : Nat) (h1 : NatV W A k (mg m1)) (h2 : NatV W B j (mg m2)) => isub_c A k m1 B j m2 W h1 h2 (by omega) (by omega)
  rw [← Ez] at C3
  replace C3 := Lib.hid C3
  have Wj : IntKind.i64.wrap (I - K) = (j : Int) := by rw [show I - K = (j : Int) by omega]; exact IntWalk.i64_in _ (by omega)
  have Ij : I - K = (j : Int) := by omega
  have g1 : (0 : Int) ≤ (j : Int) := Int.natCast_nonneg j
  have g2 : (j : Int) < (m : Int) := by omega
  have g3 : IntKind.i64.wrap (j : Int) = (j : Int) := IntWalk.i64_in _ (by omega)
  have kad : (ad.add (j * 2)).block < w.heap.size := World.block_lt_of_cell? _ _ c0
  rw [← Em1, ← Em2, ← Ez]
  replace Em1 := Lib.hid Em1
  replace Em2 := Lib.hid Em2
  replace Ez := Lib.hid Ez
  replace l1 := Lib.hid l1
  replace l2 := Lib.hid l2
  replace hij := Lib.hid hij
  replace hu := Lib.hid hu
  replace EI := Lib.hid EI
  replace EK := Lib.hid EK
  clear hP
  skip
  have k_l := Rl.lt
  have ql0 := Rl.c (i := 0) rfl
  have ql1 := Rl.c (i := 1) rfl
  have k_k := Rk.lt
  have qk0 := Rk.c (i := 0) rfl
  have k_x := Rx.lt
  have qx0 := Rx.c (i := 0) rfl
  have qx1 := Rx.c (i := 1) rfl
  have k_b := Rb.lt
  have qb0 := Rb.c (i := 0) rfl
  obtain ⟨hb1, Ry, Rr⟩ := bx2 w #[.bool (sg y), .slice yA (nl (mg y)) yc] 24 #[.bool false, .slice none 0 0] 24
  replace hy := hy.below hb1
  replace hl := hl.below hb1
  replace hx := hx.below hb1
  replace hG := hG.below hb1
  replace hu2 := hu2.below hb1
  replace c0 := cbl hb1 c0
  replace c1 := cbl hb1 c1
  replace Rl := Rl.below hb1
  replace ql0 := cbl hb1 ql0
  replace ql1 := cbl hb1 ql1
  replace Rk := Rk.below hb1
  replace qk0 := cbl hb1 qk0
  replace Rx := Rx.below hb1
  replace qx0 := cbl hb1 qx0
  replace qx1 := cbl hb1 qx1
  replace Rb := Rb.below hb1
  replace qb0 := cbl hb1 qb0
  have HBT := hb1
  clear hb1
  have qy0 := Ry.c (i := 0) rfl
  have qy1 := Ry.c (i := 1) rfl
  have qr0 := Rr.c (i := 0) rfl
  have qr1 := Rr.c (i := 1) rfl
  go_enter Tryz.func115, Tryz.ntmps115
  go_wp2_with (fail)
  refine (Calls.mono (C1.out _ hy hl hG) ?_)
  rintro e W2 ⟨Xm1, cm1, rfl, hm1, hb2⟩
  replace hy := hy.below hb2
  replace hl := hl.below hb2
  replace hx := hx.below hb2
  replace hG := hG.below hb2
  replace hu2 := hu2.below hb2
  replace c0 := cbl hb2 c0
  replace c1 := cbl hb2 c1
  replace Rl := Rl.below hb2
  replace ql0 := cbl hb2 ql0
  replace ql1 := cbl hb2 ql1
  replace Rk := Rk.below hb2
  replace qk0 := cbl hb2 qk0
  replace Rx := Rx.below hb2
  replace qx0 := cbl hb2 qx0
  replace qx1 := cbl hb2 qx1
  replace Rb := Rb.below hb2
  replace qb0 := cbl hb2 qb0
  replace Ry := Ry.below hb2
  replace qy0 := cbl hb2 qy0
  replace qy1 := cbl hb2 qy1
  replace Rr := Rr.below hb2
  replace qr0 := cbl hb2 qr0
  replace qr1 := cbl hb2 qr1
  replace HBT := Below.cons HBT hb2
  clear hb2
  have hby : (ad.add (j * 2)).block ≠ w.heap.size := by omega
  clear hy
  clear hl
  clear Rl
  clear ql0
  clear ql1
  have fy0_3 := Ry.f (i := 0)
  have fy1_3 := Ry.f (i := 1)
  have Rk_3 : BoxA ((W2.setCell ⟨w.heap.size, 0, none⟩ (.bool (sg m1))).setCell ⟨w.heap.size, 1, none⟩ (.slice Xm1 (nl (mg m1)) cm1)) _ _ _ := Rk.other2 (by first | omega | (simp; done) | (simp; omega))
  have Rx_3 : BoxA ((W2.setCell ⟨w.heap.size, 0, none⟩ (.bool (sg m1))).setCell ⟨w.heap.size, 1, none⟩ (.slice Xm1 (nl (mg m1)) cm1)) _ _ _ := Rx.other2 (by first | omega | (simp; done) | (simp; omega))
  have Rb_3 : BoxA ((W2.setCell ⟨w.heap.size, 0, none⟩ (.bool (sg m1))).setCell ⟨w.heap.size, 1, none⟩ (.slice Xm1 (nl (mg m1)) cm1)) _ _ _ := Rb.other2 (by first | omega | (simp; done) | (simp; omega))
  have Ry_3 := Ry.store2 (.bool (sg m1)) (.slice Xm1 (nl (mg m1)) cm1)
  have Rr_3 : BoxA ((W2.setCell ⟨w.heap.size, 0, none⟩ (.bool (sg m1))).setCell ⟨w.heap.size, 1, none⟩ (.slice Xm1 (nl (mg m1)) cm1)) _ _ _ := Rr.other2 (by first | omega | (simp; done) | (simp; omega))
  have hx_3 := Ry.keep2 (v0 := .bool (sg m1)) (v1 := .slice Xm1 (nl (mg m1)) cm1) (nuB rfl) hx
  have hu2_3 := Ry.keep2 (v0 := .bool (sg m1)) (v1 := .slice Xm1 (nl (mg m1)) cm1) (nuB rfl) hu2
  have qk0_3 := Rk_3.c (i := 0) rfl
  have qx0_3 := Rx_3.c (i := 0) rfl
  have qx1_3 := Rx_3.c (i := 1) rfl
  have qb0_3 := Rb_3.c (i := 0) rfl
  have qy0_3 := Ry_3.c (i := 0) rfl
  have qy1_3 := Ry_3.c (i := 1) rfl
  have qr0_3 := Rr_3.c (i := 0) rfl
  have qr1_3 := Rr_3.c (i := 1) rfl
  have hm1_3 := Ry.keep2 (v0 := .bool (sg m1)) (v1 := .slice Xm1 (nl (mg m1)) cm1) (nuB rfl) hm1
  have HBT_3 := Below.store2 (v0 := .bool (sg m1)) (v1 := .slice Xm1 (nl (mg m1)) cm1) HBT (k := w.heap.size) (by first | exact Nat.le_refl _ | omega)
  have hG_3 := hG0.below HBT_3
  have c0_9 : (((W2.setCell ⟨w.heap.size, 0, none⟩ (.bool (sg m1))).setCell ⟨w.heap.size, 1, none⟩ (.slice Xm1 (nl (mg m1)) cm1))).cell? (ad.add (j * 2)) = some (.bool (sg u)) := (World.cell?_of_block (set2_far _ hby)).trans c0
  have c1_9 : (((W2.setCell ⟨w.heap.size, 0, none⟩ (.bool (sg m1))).setCell ⟨w.heap.size, 1, none⟩ (.slice Xm1 (nl (mg m1)) cm1))).cell? ⟨(ad.add (j * 2)).block, (ad.add (j * 2)).off + 1, none⟩ = some (.slice uA (nl (mg u)) uc) := (World.cell?_of_block (a := ⟨(ad.add (j * 2)).block, (ad.add (j * 2)).off + 1, none⟩) (set2_far _ hby)).trans c1
  go_wp2_with (fail)
  clear fy0_3 fy1_3 Rk Rx Rb Ry Rr hx hG hu2 qk0 qx0 qx1 qb0 qy0 qy1 qr0 qr1 hm1 HBT
  clear c0 c1
  generalize hV1 : ((W2.setCell ⟨w.heap.size, 0, none⟩ (.bool (sg m1))).setCell ⟨w.heap.size, 1, none⟩ (.slice Xm1 (nl (mg m1)) cm1)) = V1 at *
  clear hV1
  refine wp_region_fin 10 1 [.val (.agg #[.bool (sg m1), .slice Xm1 (nl (mg m1)) cm1]), .val (.agg #[.bool (sg x), .slice xA (nl (mg x)) xc]), .val (.slice (some ad) m c), .val (.int .i64 I), .val (.int .i64 K), .val (.int .i64 (j : Nat)), .val (.pointer (some (ad.add (j * 2)))), .val (.agg #[.bool (sg u), .slice uA (nl (mg u)) uc]), .int m2, .int z] (by kernel_rfl) (by kernel_rfl) (by kernel_rfl) (by kernel_rfl) (by kernel_rfl) rfl ?_ ?_
  · skip
    refine ⟨?_, ?_⟩
    · intro Ew aw wc st hdep
      have t7 : aw.tmps[7]? = some (.pointer (some ⟨w.heap.size, 0, none⟩)) := (st.old 7 (by kernel_rfl)).trans (by rfl)
      have qy0_3 := cbl st.b qy0_3
      have qy1_3 := cbl st.b qy1_3
      have e7 := tmp_of t7
      refine op_want rfl (by rfl) (fun K' hK' => ?_)
      go_simp
      exact hK'.out _ _ ⟨_, rfl, rfl, Below.refl _ _⟩
    refine ⟨?_, ?_⟩
    · intro Ew aw wc st hdep
      have t4 : aw.tmps[4]? = some (.pointer (some ⟨kx, 0, none⟩)) := (st.old 4 (by kernel_rfl)).trans (by rfl)
      have qx0_3 := cbl st.b qx0_3
      have qx1_3 := cbl st.b qx1_3
      have e4 := tmp_of t4
      refine op_want rfl (by rfl) (fun K' hK' => ?_)
      go_simp
      exact hK'.out _ _ ⟨_, rfl, rfl, Below.refl _ _⟩
    refine ⟨?_, ?_⟩
    · intro Ew aw wc st hdep
      have t5 : aw.tmps[5]? = some (.pointer (some ⟨kb, 0, none⟩)) := (st.old 5 (by kernel_rfl)).trans (by rfl)
      have qb0_3 := cbl st.b qb0_3
      have e5 := tmp_of t5
      refine op_want rfl (by rfl) (fun K' hK' => ?_)
      go_simp
      exact hK'.out _ _ ⟨_, rfl, rfl, Below.refl _ _⟩
    refine ⟨?_, ?_⟩
    · intro Ew aw wc st hdep
      have t0 : aw.tmps[0]? = some (.int .i64 I) := (st.old 0 (by kernel_rfl)).trans (by rfl)
      have e0 := tmp_of t0
      refine op_want rfl (by rfl) (fun K' hK' => ?_)
      go_simp
      exact hK'.out _ _ ⟨_, rfl, rfl, Below.refl _ _⟩
    refine ⟨?_, ?_⟩
    · intro Ew aw wc st hdep
      have t3 : aw.tmps[3]? = some (.pointer (some ⟨kk, 0, none⟩)) := (st.old 3 (by kernel_rfl)).trans (by rfl)
      have qk0_3 := cbl st.b qk0_3
      have e3 := tmp_of t3
      refine op_want rfl (by rfl) (fun K' hK' => ?_)
      go_simp
      exact hK'.out _ _ ⟨_, rfl, rfl, Below.refl _ _⟩
    refine ⟨?_, ?_⟩
    · intro Ew aw wc st hdep
      obtain ⟨v18, t18, r18⟩ := st.nw hdep 3 18
      obtain rfl : v18 = .int .i64 I := r18
      obtain ⟨v19, t19, r19⟩ := st.nw hdep 4 19
      obtain rfl : v19 = .int .i64 K := r19
      have e18 := tmp_of t18
      have e19 := tmp_of t19
      refine op_want rfl (by rfl) (fun K' hK' => ?_)
      go_simp
      exact hK'.out _ _ ⟨_, rfl, rfl, Below.refl _ _⟩
    refine ⟨?_, ?_⟩
    · intro Ew aw wc st hdep
      obtain ⟨v17, t17, r17⟩ := st.nw hdep 2 17
      obtain rfl : v17 = .slice (some ad) m c := r17
      obtain ⟨v20, t20, r20⟩ := st.nw hdep 5 20
      obtain rfl : v20 = .int .i64 (j : Nat) := r20
      have e17 := tmp_of t17
      have e20 := tmp_of t20
      refine op_want rfl (by rfl) (fun K' hK' => ?_)
      go_simp
      exact hK'.out _ _ ⟨_, rfl, rfl, Below.refl _ _⟩
    refine ⟨?_, ?_⟩
    · intro Ew aw wc st hdep
      obtain ⟨v21, t21, r21⟩ := st.nw hdep 6 21
      obtain rfl : v21 = .pointer (some (ad.add (j * 2))) := r21
      have c0_9 := cbl st.b c0_9
      have c1_9 := cbl st.b c1_9
      have e21 := tmp_of t21
      refine op_want rfl (by rfl) (fun K' hK' => ?_)
      go_simp
      exact hK'.out _ _ ⟨_, rfl, rfl, Below.refl _ _⟩
    refine ⟨?_, ?_⟩
    · intro Ew aw wc st hdep
      obtain ⟨v16, t16, r16⟩ := st.nw hdep 1 16
      obtain rfl : v16 = .agg #[.bool (sg x), .slice xA (nl (mg x)) xc] := r16
      obtain ⟨v22, t22, r22⟩ := st.nw hdep 7 22
      obtain rfl : v22 = .agg #[.bool (sg u), .slice uA (nl (mg u)) uc] := r22
      have e16 := tmp_of t16
      have e22 := tmp_of t22
      refine op_want rfl (by rfl) (fun K' hK' => ?_)
      go_simp
      refine (Calls.mono (R := RetI wc m2) (C2.out wc (hx_3.below st.b) (hu2_3.below st.b) (hG_3.below st.b)) ?_)
      rintro e W ⟨X, c, rfl, hX, kb⟩
      exact hK'.out _ _ ⟨_, rfl, ⟨X, c, rfl, hX⟩, kb⟩
    refine ⟨?_, ?_⟩
    · intro Ew aw wc st hdep
      obtain ⟨v15, t15, r15⟩ := st.nw hdep 0 15
      obtain rfl : v15 = .agg #[.bool (sg m1), .slice Xm1 (nl (mg m1)) cm1] := r15
      obtain ⟨v23, t23, r23⟩ := st.nw hdep 8 23
      obtain ⟨X23, c23, rfl, h23⟩ := r23
      have e15 := tmp_of t15
      have e23 := tmp_of t23
      refine op_want rfl (by rfl) (fun K' hK' => ?_)
      go_simp
      refine (Calls.mono (R := RetI wc z) (C3.out wc _ _ _ _ (hm1_3.below st.b) h23) ?_)
      rintro e W ⟨X, c, rfl, hX, kb⟩
      exact hK'.out _ _ ⟨_, rfl, ⟨X, c, rfl, hX⟩, kb⟩
    exact trivial
  intro vs wc hr hB
  obtain ⟨u15, r_15, rfl, k15, hr_15⟩ := hr.un
  obtain rfl : u15 = .agg #[.bool (sg m1), .slice Xm1 (nl (mg m1)) cm1] := k15
  obtain ⟨u16, r_16, rfl, k16, hr_16⟩ := hr_15.un
  obtain rfl : u16 = .agg #[.bool (sg x), .slice xA (nl (mg x)) xc] := k16
  obtain ⟨u17, r_17, rfl, k17, hr_17⟩ := hr_16.un
  obtain rfl : u17 = .slice (some ad) m c := k17
  obtain ⟨u18, r_18, rfl, k18, hr_18⟩ := hr_17.un
  obtain rfl : u18 = .int .i64 I := k18
  obtain ⟨u19, r_19, rfl, k19, hr_19⟩ := hr_18.un
  obtain rfl : u19 = .int .i64 K := k19
  obtain ⟨u20, r_20, rfl, k20, hr_20⟩ := hr_19.un
  obtain rfl : u20 = .int .i64 (j : Nat) := k20
  obtain ⟨u21, r_21, rfl, k21, hr_21⟩ := hr_20.un
  obtain rfl : u21 = .pointer (some (ad.add (j * 2))) := k21
  obtain ⟨u22, r_22, rfl, k22, hr_22⟩ := hr_21.un
  obtain rfl : u22 = .agg #[.bool (sg u), .slice uA (nl (mg u)) uc] := k22
  obtain ⟨u23, r_23, rfl, k23, hr_23⟩ := hr_22.un
  obtain ⟨X23, c23, rfl, h23⟩ := k23
  obtain ⟨u24, r_24, rfl, k24, hr_24⟩ := hr_23.un
  obtain ⟨X24, c24, rfl, h24⟩ := k24
  obtain rfl := hr_24.nil
  clear hr hr_15 hr_16 hr_17 hr_18 hr_19 hr_20 hr_21 hr_22 hr_23 hr_24
  replace Rk_3 := Rk_3.below hB
  replace Rx_3 := Rx_3.below hB
  replace Rb_3 := Rb_3.below hB
  replace Ry_3 := Ry_3.below hB
  replace Rr_3 := Rr_3.below hB
  replace hx_3 := hx_3.below hB
  replace hG_3 := hG_3.below hB
  replace hu2_3 := hu2_3.below hB
  replace qk0_3 := cbl hB qk0_3
  replace qx0_3 := cbl hB qx0_3
  replace qx1_3 := cbl hB qx1_3
  replace qb0_3 := cbl hB qb0_3
  replace qy0_3 := cbl hB qy0_3
  replace qy1_3 := cbl hB qy1_3
  replace qr0_3 := cbl hB qr0_3
  replace qr1_3 := cbl hB qr1_3
  replace hm1_3 := hm1_3.below hB
  replace c0_9 := cbl hB c0_9
  replace c1_9 := cbl hB c1_9
  have HBT := Below.cons HBT_3 hB
  clear hB
  simp only [upTo, List.take_succ_cons, List.take_zero, putAll, Act.put, seq0, seq1, seq2]
  clear hu2_3
  clear c0_9
  clear c1_9
  clear hx_3
  clear hm1_3
  clear Rk_3
  clear qk0_3
  clear Rx_3
  clear qx0_3
  clear qx1_3
  clear Rb_3
  clear qb0_3
  have fy0_4 := Ry_3.f (i := 0)
  have fy1_4 := Ry_3.f (i := 1)
  have Ry_4 := Ry_3.store2 (.bool (sg z)) (.slice X24 (nl (mg z)) c24)
  have Rr_4 : BoxA ((wc.setCell ⟨w.heap.size, 0, none⟩ (.bool (sg z))).setCell ⟨w.heap.size, 1, none⟩ (.slice X24 (nl (mg z)) c24)) _ _ _ := Rr_3.other2 (by first | omega | (simp; done) | (simp; omega))
  have qy0_4 := Ry_4.c (i := 0) rfl
  have qy1_4 := Ry_4.c (i := 1) rfl
  have qr0_4 := Rr_4.c (i := 0) rfl
  have qr1_4 := Rr_4.c (i := 1) rfl
  have h24_4 := Ry_3.keep2 (v0 := .bool (sg z)) (v1 := .slice X24 (nl (mg z)) c24) (nuB rfl) h24
  have HBT_4 := Below.store2 (v0 := .bool (sg z)) (v1 := .slice X24 (nl (mg z)) c24) HBT (k := w.heap.size) (by first | exact Nat.le_refl _ | omega)
  have hG_4 := hG0.below HBT_4
  refine TailP.one rfl (by rfl) (fun K' hK' => ?_)
  go_simp
  refine hK'.out _ _ ?_
  try simp only [Act.put, seq0, seq1, seq2]
  refine TailP.done ?_
  clear fy0_4 fy1_4 Ry_3 Rr_3 hG_3 qy0_3 qy1_3 qr0_3 qr1_3 h24 HBT
  generalize hV2 : ((wc.setCell ⟨w.heap.size, 0, none⟩ (.bool (sg z))).setCell ⟨w.heap.size, 1, none⟩ (.slice X24 (nl (mg z)) c24)) = V2 at *
  clear hV2
  have fzr0 := Rr_4.f (i := 0)
  have fzr1 := Rr_4.f (i := 1)
  go_wp2_with (fail)
  have RS := Rr_4.store2 (.bool (sg z)) (.slice X24 (nl (mg z)) c24)
  have e0 := RS.c (i := 0) rfl
  have e1 := RS.c (i := 1) rfl
  refine bodyPost_ret (v := .agg #[.bool (sg z), .slice X24 (nl (mg z)) c24]) (by simp [results, Tryz.results115, go_sem, e0, e1]) rfl ?_
  exact ⟨X24, c24, rfl, (Rr_4.keep2 (nuB rfl) h24_4), (Below.store2 HBT_4 (by first | exact Nat.le_refl _ | omega))⟩
def cg (p : List Int) : Nat → Nat
  | 0 => 0
  | k + 1 => Nat.gcd (cg p k) (mg (gi p k))
theorem cg_nl (p : List Int) {l : Nat} (h : ∀ j, nl (mg (gi p j)) ≤ l) : ∀ k, nl (cg p k) ≤ l
  | 0 => by rw [cg, nl_zero]; omega
  | k + 1 => by
    rw [cg]
    by_cases h0 : mg (gi p k) = 0
    · rw [h0, Nat.gcd_zero_right]; exact cg_nl p h k
    · exact Nat.le_trans (nl_mono (Nat.le_of_dvd (Nat.pos_of_ne_zero h0) (Nat.gcd_dvd_right _ _))) (h k)
theorem content_c (V : Option Addr) (c : Nat) (p : List Int) (w : World) (hP : PolV w V c p) (hl : p.length ≤ 1048576) (lp : ∀ j, nl (mg (gi p j)) ≤ 7) :
    Calls Tryz.prog 72 #[.slice V p.length c] w (RetN w (cg p p.length)) := by
  obtain ⟨n, En⟩ : ∃ n, n = p.length := ⟨_, rfl⟩
  have lg := cg_nl p lp
  rw [← En]
  replace En := Lib.hid En
  replace lg := Lib.hid lg
  replace lp := Lib.hid lp
  go_enter Tryz.func72, Tryz.ntmps72
  go_wp2_with (fail)
  go_loopw [3, 8] (fun v3 v8 wr => ∃ (k : Nat) (G : Option Addr) (gc : Nat), v3 = .slice G (nl (cg p k)) gc ∧ v8 = .int .i64 k ∧ k ≤ n ∧ NatV wr G gc (cg p k) ∧ Below w.heap.size w wr) (fun v3 v8 wr => n - (intOf v8).toNat)
  case atStart => exact ⟨0, none, 0, by rw [cg, nl_zero], rfl, Nat.zero_le _, ⟨.inl (by simp [vals, cg, limbs_zero]), by rw [cg, nl_zero]; exact Nat.le_refl _, by decide⟩, Below.refl _ _⟩
  case round =>
    obtain ⟨k, G, gc, rfl, rfl, hk, hN0, hbr⟩ := hrel
    by_cases hkn : k < n
    · have t1 : decide ((k : Int) < (n : Int)) = true := by simp; omega
      have t2 : decide (k < n) = true := by simp; omega
      obtain ⟨ad, X, d, rfl, c0, c1, hN⟩ := (hP.below hbr).a k (by rw [← En.out]; exact hkn)
      obtain ⟨x, Ex⟩ : ∃ x, x = gi p k := ⟨_, rfl⟩
      obtain ⟨g, Eg⟩ : ∃ g, g = cg p k := ⟨_, rfl⟩
      obtain ⟨g2, Eg2⟩ : ∃ g2, g2 = cg p (k + 1) := ⟨_, rfl⟩
      have e2 : Nat.gcd g (mg x) = g2 := by rw [Eg, Ex, Eg2, cg]
      have lx : nl (mg x) ≤ 16777216 := by rw [Ex]; exact Nat.le_trans (lp.out k) (by decide)
      have lg1 : nl g ≤ 16777216 := by rw [Eg]; exact Nat.le_trans (lg.out k) (by decide)
      rw [← Ex] at c0 c1 hN
      rw [← Eg] at hN0 ⊢
      have Wk : IntKind.i64.wrap ((k : Int) + 1) = ((k + 1 : Nat) : Int) := by rw [show (k : Int) + 1 = ((k + 1 : Nat) : Int) by omega]; exact IntWalk.i64_in _ (by have := En.out; omega)
      have hb1 : Below wr.heap.size wr (wr.alloc (.cells #[.bool (sg x), .slice X (nl (mg x)) d] 24)) := (Below.refl _ _).alloc (Nat.le_refl _) _
      have Rx : BoxA (wr.alloc (.cells #[.bool (sg x), .slice X (nl (mg x)) d] 24)) wr.heap.size 24 #[.bool (sg x), .slice X (nl (mg x)) d] := ⟨at_new rfl⟩
      have qx0 := Rx.c (i := 0) rfl
      have qx1 := Rx.c (i := 1) rfl
      have hbr1 := hbr.cons hb1
      have CH := gcd_c G gc g X d (mg x) _ (hN0.below hb1) (hN.below hb1) lg1 lx
      rw [e2] at CH
      replace CH := Lib.hid CH
      replace lx := Lib.hid lx
      replace lg1 := Lib.hid lg1
      replace Ex := Lib.hid Ex
      replace Eg := Lib.hid Eg
      replace Eg2 := Lib.hid Eg2
      replace e2 := Lib.hid e2
      go_wp2_with (fail)
      refine CH.out.mono ?_
      rintro e W2 ⟨Y, f, rfl, hY, hb2⟩
      have hbr2 := hbr1.cons hb2
      clear Rx qx0 qx1 CH
      go_wp2_with (fail)
      go_roundw
      case rel => exact ⟨k + 1, Y, f, by rw [← Eg2.out], by go_num, by omega, by rw [← Eg2.out]; exact hY, hbr2⟩
      case measure => simp [intOf]; omega
    · obtain rfl : k = n := by omega
      have t1 : decide ((k : Int) < (k : Int)) = false := by simp
      go_wp2_with (fail)
      exact bodyPost_ret (v := .slice G (nl (cg p k)) gc) (by simp [results, Tryz.results72, go_sem]) rfl ⟨G, gc, rfl, hN0, hbr⟩
theorem pmake_c (V : Option Addr) (c n m : Nat) (p : List Int) (w : World) (hP : PolV w V c p) (hn : p.length = n) (hm : n = m + 1) (hl : n ≤ 1048576) (h0 : gi p m ≠ 0) :
    Calls Tryz.prog 116 #[.slice V n c] w (RetP w p) := by
  have hlc := hP.l
  have hlm := hP.m
  have HF : ∀ wr : World, Below w.heap.size w wr → RetP w p (.returned (.slice V n n)) wr := fun wr hb => ⟨V, n, by rw [hn], ⟨(hP.below hb).a, by rw [hn]; exact Nat.le_refl _, by omega⟩, hb⟩
  have hnc : n ≤ c := by omega
  have hnc2 : (n : Int) ≤ (c : Int) := by omega
  have e0 : (decide ((n : Int) ≤ (c : Int))) = true := by simp; omega
  have n0 : 0 ≤ (n : Int) := by omega
  obtain ⟨ad, X, d, rfl, c0, c1, hz⟩ := hP.a m (by omega)
  obtain ⟨z, Ez⟩ : ∃ z, z = gi p m := ⟨_, rfl⟩
  rw [← Ez] at c0 c1 hz h0
  have t0 : (z.sign == 0) = false := by simp; exact h0
  have t1 : decide (0 < (n : Int)) = true := by simp; omega
  have t2 : decide (0 < n) = true := by simp; omega
  have Wn : IntKind.i64.wrap ((n : Int) - 1) = (m : Int) := by rw [show (n : Int) - 1 = (m : Int) by omega]; exact IntWalk.i64_in _ (by omega)
  have g1 : (0 : Int) ≤ (m : Int) := Int.natCast_nonneg m
  have g2 : (m : Int) < (n : Int) := by omega
  have g3 : IntKind.i64.wrap (m : Int) = (m : Int) := IntWalk.i64_in _ (by omega)
  have g4 : m < n := by omega
  have In : (n : Int) - 1 = (m : Int) := by omega
  have n5 : ¬ (n = 0) := by omega
  replace HF := Lib.hid HF
  replace Ez := Lib.hid Ez
  replace hn := Lib.hid hn
  replace hm := Lib.hid hm
  clear hP hlc hlm hz
  go_enter Tryz.func116, Tryz.ntmps116
  go_wp2_with (fail)
  go_loopw [3] (fun v3 wr => v3 = .int .i64 n ∧ Below w.heap.size w wr) (fun v3 wr => 0)
  case atStart => exact ⟨rfl, Below.refl _ _⟩
  case round =>
    obtain ⟨rfl, hbr⟩ := hrel
    have d0 := cbl hbr c0
    have d1 := cbl hbr c1
    go_wp2_with (fail)
    refine (isign_c X d z _).mono ?_
    rintro e W2 ⟨rfl, hb2⟩
    have hbr2 := hbr.cons hb2
    replace HF := Lib.hid (HF.out _ hbr2)
    clear d0 d1
    go_wp2_with (fail)
    exact bodyPost_ret (v := .slice (some ad) n n) (by simp [results, Tryz.results116, go_sem]) rfl HF.out
def rfn (l x : Int) (b : List Int) (k : Nat) (i : Nat) (y : Int) : Int := if k ≤ i then y * l - x * gi b (i - k) else y * l
def rstep (l : Int) (b : List Int) (m k : Nat) (r : List Int) : List Int := (r.take (k + m)).mapIdx (rfn l (gi r (k + m)) b k)
def qfn (l : Int) (_ : Nat) (y : Int) : Int := y * l
def qstep (l : Int) (k : Nat) (x : Int) (q : List Int) : List Int := (q.mapIdx (qfn l)).set k x
def psd (l : Int) (b : List Int) (m d : Nat) (p : List Int) : Nat → List Int × List Int
  | 0 => (List.replicate (d + 1) 0, p)
  | i + 1 => (qstep l (d - i) (gi (psd l b m d p i).2 (d - i + m)) (psd l b m d p i).1, rstep l b m (d - i) (psd l b m d p i).2)
theorem psd_q (l : Int) (b : List Int) (m d : Nat) (p : List Int) : ∀ i, (psd l b m d p i).1.length = d + 1
  | 0 => by simp [psd]
  | i + 1 => by rw [psd, qstep, List.length_set, List.length_mapIdx]; exact psd_q l b m d p i
theorem psd_r (l : Int) (b : List Int) (m d : Nat) (p : List Int) (h : p.length = m + 1 + d) : ∀ i, i ≤ d + 1 → (psd l b m d p i).2.length = m + 1 + d - i
  | 0, _ => by rw [psd, h]; omega
  | i + 1, hi => by
    rw [psd, rstep, List.length_mapIdx, List.length_take, psd_r l b m d p h i (by omega)]; omega
theorem gi_take (r : List Int) (n i : Nat) (h : i < n) : gi (r.take n) i = gi r i := by
  unfold gi; rw [List.getD_eq_getElem?_getD, List.getD_eq_getElem?_getD, List.getElem?_take, if_pos h]
theorem PolV.take {W : World} {V : Option Addr} {c : Nat} {p : List Int} (h : PolV W V c p) (n : Nat) (hn : n ≤ p.length) : PolV W V c (p.take n) := by
  have hl : (p.take n).length = n := by rw [List.length_take]; omega
  refine ⟨fun j hj => ?_, by rw [hl]; exact Nat.le_trans hn h.l, h.m⟩
  rw [hl] at hj
  rw [gi_take p n j hj]
  exact h.a j (by omega)
theorem enc_zero (W : World) (n : Nat) : EncI W (List.replicate n 0) n (madeCells #[.bool false, .slice none 0 0] (n * 2)) := fun j hj => by
  have e : gi (List.replicate n 0) j = 0 := by unfold gi; rw [List.getD_eq_getElem?_getD, List.getElem?_replicate]; split <;> rfl
  rw [e]
  refine ⟨none, 0, ?_, ?_, nat0 W⟩
  · have h0 : j * 2 % 2 = 0 := by omega
    rw [madeCells, Array.getElem?_map, Array.getElem?_eq_getElem (by simp; omega)]; simp [h0]; rfl
  · have h2 : (j * 2 + 1) % 2 = 1 := by omega
    rw [madeCells, Array.getElem?_map, Array.getElem?_eq_getElem (by simp; omega)]; simp [h2, mg0, nl_zero]
def Kn.pol (p : List Int) : Kn := ⟨fun u w => ∃ X c, u = .slice X p.length c ∧ PolV w X c p, fun _ _ _ hb ⟨X, c, h1, h2⟩ => ⟨X, c, h1, h2.below hb⟩⟩
def Kn.row (n0 : Nat) (p : List Int) : Kn := ⟨fun u w => ∃ g cap cur, u = .slice (some ⟨g, 0, none⟩) p.length cap ∧ n0 ≤ g ∧ BoxA w g 24 cur ∧ (∀ x ∈ cur.toList, NotU x) ∧ EncI w p p.length cur ∧ p.length * 2 ≤ cur.size ∧ p.length ≤ cap ∧ cap ≤ maxLen, fun _ _ _ hb ⟨g, cap, cur, h1, h0, h2, h3, h4, h5⟩ => ⟨g, cap, cur, h1, h0, h2.below hb, h3, h4.below hb, h5⟩⟩
def lenV : Value → Nat
  | .slice _ n _ => n
  | _ => 0
def RetPP (w : World) (q r : List Int) (e : Ending) (w' : World) : Prop := ∃ V c U d, e = .returned (.tuple #[.slice V q.length c, .slice U r.length d, .int .i64 0]) ∧ PolV w' V c q ∧ PolV w' U d r ∧ Below w.heap.size w w'
theorem pseudo_c (V : Option Addr) (cp : Nat) (p : List Int) (U : Option Addr) (cb : Nat) (b : List Int) (n mb m d : Nat) (l : Int) (w : World) (hP : PolV w V cp p) (hPb : PolV w U cb b) (hG : Flds w) (hn : p.length = n) (hm : b.length = mb) (hmb : mb = m + 1 + 1) (hd : n = mb + d) (hl : n ≤ 1000) (El : l = gi b (m + 1))
    (lb : ∀ j, nl (mg (gi b j)) ≤ 7) (lr : ∀ i j, i ≤ d + 1 → nl (mg (gi (psd l b (m + 1) d p i).2 j)) ≤ 7) (lq : ∀ i j, i ≤ d + 1 → nl (mg (gi (psd l b (m + 1) d p i).1 j)) ≤ 7) (q0 : gi (psd l b (m + 1) d p (d + 1)).1 d ≠ 0) (r0 : gi (psd l b (m + 1) d p (d + 1)).2 m ≠ 0) :
    Calls Tryz.prog 74 #[.slice V n cp, .slice U mb cb] w (RetPP w (psd l b (m + 1) d p (d + 1)).1 (psd l b (m + 1) d p (d + 1)).2) := by
  have ll : nl (mg l) ≤ 7 := by rw [El]; exact lb _
  have hG0 := hG
  have hP0 := hP
  have hB0 := hPb
  obtain ⟨m1, Em1⟩ : ∃ m1, m1 = m + 1 := ⟨_, rfl⟩
  obtain ⟨dl, Edl⟩ : ∃ dl, dl = d + 1 := ⟨_, rfl⟩
  obtain ⟨ps, Eps⟩ : ∃ ps, ps = psd l b (m + 1) d p := ⟨_, rfl⟩
  have PS0 : ps 0 = (List.replicate dl 0, p) := by rw [Eps, Edl, psd]
  have PSq : ∀ i, (ps (i + 1)).1 = qstep l (d - i) (gi (ps i).2 (d - i + m1)) (ps i).1 := fun i => by rw [Eps, psd, Em1]
  have PSr : ∀ i, (ps (i + 1)).2 = rstep l b m1 (d - i) (ps i).2 := fun i => by rw [Eps, psd, Em1]
  have LQ : ∀ i, (ps i).1.length = dl := fun i => by rw [Eps, Edl]; exact psd_q _ _ _ _ _ i
  have LR : ∀ i, i ≤ dl → (ps i).2.length = n - i := fun i hi => by rw [Eps, psd_r _ _ _ _ _ (by omega) i (by omega)]; omega
  have CC := fun (W : World) (h : PolV W V cp p) => (clonep_c V cp p W h (by omega) (by omega))
  rw [hn] at CC
  rw [← Eps] at lr lq q0 r0
  rw [← Eps, ← Edl]
  rw [← Edl] at q0 r0
  obtain ⟨bad, lA, lc, rfl, b0, b1, hlN⟩ := hPb.a m1 (by omega)
  have El1 : gi b m1 = l := by rw [Em1, El]
  rw [El1] at b0 b1 hlN
  have t0 : ((mb : Int) == 0) = false := ieqF (by omega)
  have t0' : (mb == 0) = false := by simp; omega
  have Wd : IntKind.i64.wrap ((n : Int) - (mb : Int)) = (d : Int) := by rw [show (n : Int) - (mb : Int) = (d : Int) by omega]; exact IntWalk.i64_in _ (by omega)
  have Id : (n : Int) - (mb : Int) = (d : Int) := by omega
  have t3 : decide ((d : Int) < 0) = false := by simp
  have Wm : IntKind.i64.wrap ((mb : Int) - 1) = (m1 : Int) := by rw [show (mb : Int) - 1 = (m1 : Int) by omega]; exact IntWalk.i64_in _ (by omega)
  have Im : (mb : Int) - 1 = (m1 : Int) := by omega
  have g1 : (0 : Int) ≤ (m1 : Int) := Int.natCast_nonneg m1
  have g2 : (m1 : Int) < (mb : Int) := by omega
  have g3 : IntKind.i64.wrap (m1 : Int) = (m1 : Int) := IntWalk.i64_in _ (by omega)
  have g4 : m1 < mb := by omega
  have Wdl : IntKind.i64.wrap ((d : Int) + 1) = (dl : Int) := by rw [show (d : Int) + 1 = (dl : Int) by omega]; exact IntWalk.i64_in _ (by omega)
  have Idl : (d : Int) + 1 = (dl : Int) := by omega
  have hmk := mkP (dl : Int) (dl : Int) (by omega) (by omega) (by omega)
  rw [Int.toNat_natCast] at hmk
  replace Em1 := Lib.hid Em1
  replace Edl := Lib.hid Edl
  replace Eps := Lib.hid Eps
  replace PS0 := Lib.hid PS0
  replace PSq := Lib.hid PSq
  replace PSr := Lib.hid PSr
  replace LQ := Lib.hid LQ
  replace LR := Lib.hid LR
  replace CC := Lib.hid CC
  replace hmb := Lib.hid hmb
  replace hd := Lib.hid hd
  replace hn := Lib.hid hn
  replace hm := Lib.hid hm
  replace lb := Lib.hid lb
  replace lr := Lib.hid lr
  replace lq := Lib.hid lq
  replace q0 := Lib.hid q0
  replace r0 := Lib.hid r0
  replace ll := Lib.hid ll
  replace El := Lib.hid El
  have hlN0 := hlN
  obtain ⟨hb1, Rb⟩ := bx1 w #[.slice (some bad) mb cb] 46
  replace hP := hP.below hb1
  replace hPb := hPb.below hb1
  replace hG := hG.below hb1
  replace hlN := hlN.below hb1
  replace b0 := cbl hb1 b0
  replace b1 := cbl hb1 b1
  have HBT := hb1
  clear hb1
  have qb0 := Rb.c (i := 0) rfl
  go_enter Tryz.func74, Tryz.ntmps74
  go_wp2_with (fail)
  generalize hW0 : (w.alloc (.cells #[.slice (some bad) mb cb] 46)) = W0 at *
  replace hW0 := Lib.hid hW0
  refine wp_region_fin 9 2 [.val (.slice (some bad) mb cb), .val (.slice (some bad) mb cb), .val (.int .i64 (mb : Nat)), .val (.int .i64 (m1 : Nat)), .val (.pointer (some (bad.add (m1 * 2)))), .val (.agg #[.bool (sg l), .slice lA (nl (mg l)) lc]), .val (.slice V n cp), .row W0.heap.size p, .box 24 W0.heap.size #[.bool false, .slice none 0 0]] (by kernel_rfl) (by kernel_rfl) (by kernel_rfl) (by kernel_rfl) (by kernel_rfl) rfl ?_ ?_
  · skip
    refine ⟨?_, ?_⟩
    · intro Ew aw wc st hdep
      have t3 : aw.tmps[3]? = some (.pointer (some ⟨w.heap.size, 0, none⟩)) := (st.old 3 (by kernel_rfl)).trans (by rfl)
      have qb0 := cbl st.b qb0
      have e3 := tmp_of t3
      refine op_want rfl (by rfl) (fun K' hK' => ?_)
      go_simp
      exact hK'.out _ _ ⟨_, rfl, rfl, Below.refl _ _⟩
    refine ⟨?_, ?_⟩
    · intro Ew aw wc st hdep
      have t3 : aw.tmps[3]? = some (.pointer (some ⟨w.heap.size, 0, none⟩)) := (st.old 3 (by kernel_rfl)).trans (by rfl)
      have qb0 := cbl st.b qb0
      have e3 := tmp_of t3
      refine op_want rfl (by rfl) (fun K' hK' => ?_)
      go_simp
      exact hK'.out _ _ ⟨_, rfl, rfl, Below.refl _ _⟩
    refine ⟨?_, ?_⟩
    · intro Ew aw wc st hdep
      obtain ⟨v25, t25, r25⟩ := st.nw hdep 1 25
      obtain rfl : v25 = .slice (some bad) mb cb := r25
      have e25 := tmp_of t25
      refine op_want rfl (by rfl) (fun K' hK' => ?_)
      go_simp
      exact hK'.out _ _ ⟨_, rfl, rfl, Below.refl _ _⟩
    refine ⟨?_, ?_⟩
    · intro Ew aw wc st hdep
      obtain ⟨v26, t26, r26⟩ := st.nw hdep 2 26
      obtain rfl : v26 = .int .i64 (mb : Nat) := r26
      have e26 := tmp_of t26
      refine op_want rfl (by rfl) (fun K' hK' => ?_)
      go_simp
      exact hK'.out _ _ ⟨_, rfl, rfl, Below.refl _ _⟩
    refine ⟨?_, ?_⟩
    · intro Ew aw wc st hdep
      obtain ⟨v24, t24, r24⟩ := st.nw hdep 0 24
      obtain rfl : v24 = .slice (some bad) mb cb := r24
      obtain ⟨v27, t27, r27⟩ := st.nw hdep 3 27
      obtain rfl : v27 = .int .i64 (m1 : Nat) := r27
      have e24 := tmp_of t24
      have e27 := tmp_of t27
      refine op_want rfl (by rfl) (fun K' hK' => ?_)
      go_simp
      exact hK'.out _ _ ⟨_, rfl, rfl, Below.refl _ _⟩
    refine ⟨?_, ?_⟩
    · intro Ew aw wc st hdep
      obtain ⟨v28, t28, r28⟩ := st.nw hdep 4 28
      obtain rfl : v28 = .pointer (some (bad.add (m1 * 2))) := r28
      have b0 := cbl st.b b0
      have b1 := cbl st.b b1
      have e28 := tmp_of t28
      refine op_want rfl (by rfl) (fun K' hK' => ?_)
      go_simp
      exact hK'.out _ _ ⟨_, rfl, rfl, Below.refl _ _⟩
    refine ⟨?_, ?_⟩
    · intro Ew aw wc st hdep
      have t0 : aw.tmps[0]? = some (.slice V n cp) := (st.old 0 (by kernel_rfl)).trans (by rfl)
      have e0 := tmp_of t0
      refine op_want rfl (by rfl) (fun K' hK' => ?_)
      go_simp
      exact hK'.out _ _ ⟨_, rfl, rfl, Below.refl _ _⟩
    refine ⟨?_, ?_⟩
    · intro Ew aw wc st hdep
      obtain ⟨v30, t30, r30⟩ := st.nw hdep 6 30
      obtain rfl : v30 = .slice V n cp := r30
      have e30 := tmp_of t30
      refine op_want rfl (by rfl) (fun K' hK' => ?_)
      go_simp
      refine (Calls.mono (R := RetC wc p) (CC.out wc (hP.below st.b)) ?_)
      rintro e W ⟨X, c, cur, rfl, hgs, hX, hU, hE, hz, hnc, hcm, kb⟩
      exact hK'.out _ _ ⟨_, rfl, ⟨X, c, cur, rfl, Nat.le_trans st.b.size hgs, hX, hU, hE, hz, hnc, hcm⟩, kb⟩
    refine ⟨?_, ?_⟩
    · intro Ew aw wc st hdep
      refine op_want rfl (by rfl) (fun K' hK' => ?_)
      go_simp
      exact hK'.out _ _ ⟨_, rfl, ⟨_, rfl, st.b.size, ⟨at_new rfl⟩⟩, (Below.refl _ _).alloc (Nat.le_refl _) _⟩
    exact trivial
  intro vs wc hr hB
  obtain ⟨u24, r_24, rfl, k24, hr_24⟩ := hr.un
  obtain rfl : u24 = .slice (some bad) mb cb := k24
  obtain ⟨u25, r_25, rfl, k25, hr_25⟩ := hr_24.un
  obtain rfl : u25 = .slice (some bad) mb cb := k25
  obtain ⟨u26, r_26, rfl, k26, hr_26⟩ := hr_25.un
  obtain rfl : u26 = .int .i64 (mb : Nat) := k26
  obtain ⟨u27, r_27, rfl, k27, hr_27⟩ := hr_26.un
  obtain rfl : u27 = .int .i64 (m1 : Nat) := k27
  obtain ⟨u28, r_28, rfl, k28, hr_28⟩ := hr_27.un
  obtain rfl : u28 = .pointer (some (bad.add (m1 * 2))) := k28
  obtain ⟨u29, r_29, rfl, k29, hr_29⟩ := hr_28.un
  obtain rfl : u29 = .agg #[.bool (sg l), .slice lA (nl (mg l)) lc] := k29
  obtain ⟨u30, r_30, rfl, k30, hr_30⟩ := hr_29.un
  obtain rfl : u30 = .slice V n cp := k30
  obtain ⟨u31, r_31, rfl, k31, hr_31⟩ := hr_30.un
  obtain ⟨gw31, cap31, cur31, rfl, gn31, B31, U31, h31, z31, n31, m31⟩ := k31
  obtain ⟨u8, r_8, rfl, k8, hr_8⟩ := hr_31.un
  obtain ⟨nb8, rfl, hn8, h8⟩ := k8
  obtain rfl := hr_8.nil
  clear hr hr_24 hr_25 hr_26 hr_27 hr_28 hr_29 hr_30 hr_31 hr_8
  replace hP := hP.below hB
  replace hPb := hPb.below hB
  replace hG := hG.below hB
  replace hlN := hlN.below hB
  replace b0 := cbl hB b0
  replace b1 := cbl hB b1
  replace Rb := Rb.below hB
  replace qb0 := cbl hB qb0
  replace HBT := Below.cons HBT hB
  clear hB
  simp only [upTo, List.take_succ_cons, List.take_zero, putAll, Act.put, seq0, seq1, seq2]
  have Rl := h8
  clear h8
  have ql0 := Rl.c (i := 0) rfl
  have ql1 := Rl.c (i := 1) rfl
  have hz8 : w.heap.size < nb8 := by have := hW0.out; have h9 : w.heap.size + 1 = W0.heap.size := (by rw [← this]; simp); omega
  obtain ⟨WV, EWV⟩ : ∃ WV, WV = ((wc.setCell ⟨nb8, 0, none⟩ (.bool (sg l))).setCell ⟨nb8, 1, none⟩ (.slice lA (nl (mg l)) lc)) := ⟨_, rfl⟩
  have nbu : ∀ u ∈ (#[.bool false, .slice none 0 0] : Array Value).toList, NotU u := by intro u hu; simp at hu; rcases hu with rfl | rfl <;> first | exact notU_bool _ | exact notU_slice _ _ _
  have RL2 : BoxA WV nb8 24 #[.bool (sg l), .slice lA (nl (mg l)) lc] := by rw [EWV]; exact Rl.store2 (.bool (sg l)) (.slice lA (nl (mg l)) lc)
  have RB2 : BoxA WV w.heap.size 46 #[.slice (some bad) mb cb] := by rw [EWV]; exact Rb.other2 (by omega)
  have HB2 : Below w.heap.size w WV := by rw [EWV]; exact Below.store2 HBT (by omega)
  have ng : gw31 ≠ nb8 := by
    intro e; subst e
    have h1 := B31.at_; rw [Rl.at_] at h1; cases h1; have := z31; have := hn.out; have := hd.out; have := hmb.out; simp at z31; omega
  have hR2 : PolV WV (some ⟨gw31, 0, none⟩) cap31 p := by
    rw [EWV]
    exact polV_of (B31.other2 ng) (h31.map (fun A c n h => Rl.keep2 nbu h)) n31 m31
  have f0 := Rl.f (i := 0)
  have f1 := Rl.f (i := 1)
  refine TailP.one rfl (by rfl) (fun K' hK' => ?_)
  go_simp
  refine hK'.out _ _ ?_
  try simp only [Act.put, seq0, seq1, seq2]
  refine TailP.one rfl (by rfl) (fun K' hK' => ?_)
  go_simp
  refine hK'.out _ _ ?_
  try simp only [Act.put, seq0, seq1, seq2]
  refine TailP.done ?_
  rw [← EWV]
  clear f0 f1 Rl ql0 ql1 Rb qb0 HBT h31 B31 U31 z31 n31 m31 ng hP hPb hG hlN b0 b1 nbu EWV
  rw [hn.out]
  have hMb : Below WV.heap.size WV ((WV.alloc (.cells (madeCells #[.bool false, .slice none 0 0] (dl * 2)) 24)).alloc (.cells #[.int .i64 ((d : Int))] 3)) := (Below.alloc (Below.alloc (Below.refl _ _) (Nat.le_refl _) _) (by simp <;> omega) _)
  have RQ : BoxA ((WV.alloc (.cells (madeCells #[.bool false, .slice none 0 0] (dl * 2)) 24)).alloc (.cells #[.int .i64 ((d : Int))] 3)) WV.heap.size 24 (madeCells #[.bool false, .slice none 0 0] (dl * 2)) := ⟨at_old (by simp) (at_new rfl)⟩
  have RK : BoxA ((WV.alloc (.cells (madeCells #[.bool false, .slice none 0 0] (dl * 2)) 24)).alloc (.cells #[.int .i64 ((d : Int))] 3)) (WV.heap.size + 1) 3 #[.int .i64 (d : Int)] := ⟨at_new (by simp)⟩
  have hsz9 : w.heap.size + 1 ≤ WV.heap.size := by have := RL2.lt; omega
  have S0 : PolV ((WV.alloc (.cells (madeCells #[.bool false, .slice none 0 0] (dl * 2)) 24)).alloc (.cells #[.int .i64 ((d : Int))] 3)) (some ⟨gw31, 0, none⟩) cap31 (ps 0).2 ∧ RowC ((WV.alloc (.cells (madeCells #[.bool false, .slice none 0 0] (dl * 2)) 24)).alloc (.cells #[.int .i64 ((d : Int))] 3)) (w.heap.size + 1) WV.heap.size (ps 0).1 ∧ BoxA ((WV.alloc (.cells (madeCells #[.bool false, .slice none 0 0] (dl * 2)) 24)).alloc (.cells #[.int .i64 ((d : Int))] 3)) (WV.heap.size + 1) 3 #[.int .i64 ((d : Int) - (0 : Nat))] ∧ BoxA ((WV.alloc (.cells (madeCells #[.bool false, .slice none 0 0] (dl * 2)) 24)).alloc (.cells #[.int .i64 ((d : Int))] 3)) w.heap.size 46 #[.slice (some bad) mb cb] ∧ BoxA ((WV.alloc (.cells (madeCells #[.bool false, .slice none 0 0] (dl * 2)) 24)).alloc (.cells #[.int .i64 ((d : Int))] 3)) nb8 24 #[.bool (sg l), .slice lA (nl (mg l)) lc] ∧ Below w.heap.size w ((WV.alloc (.cells (madeCells #[.bool false, .slice none 0 0] (dl * 2)) 24)).alloc (.cells #[.int .i64 ((d : Int))] 3)) := by
    rw [PS0.out]
    refine ⟨hR2.below hMb, ⟨_, RQ, made_notU _, ?_, ?_, hsz9⟩, by simpa using RK, RB2.below hMb, RL2.below hMb, HB2.cons hMb⟩
    · rw [List.length_replicate]; exact enc_zero _ _
    · rw [List.length_replicate, size_madeCells]; exact Nat.le_refl _
  have hdc : dl ≤ maxLen := by have := Edl.out; have := hd.out; simp only [maxLen]; omega
  replace S0 := Lib.hid S0
  replace hsz9 := Lib.hid hsz9
  replace hdc := Lib.hid hdc
  clear hMb RQ RK RB2 RL2 HB2 hR2
  go_wp2_with (fail)
  go_loopw [9, 10, 11] (fun v9 v10 v11 wr => ∃ (i : Nat) (R : Option Addr) (rc gq capq kk : Nat), v9 = .slice R (n - i) rc ∧ v10 = .slice (some ⟨gq, 0, none⟩) dl capq ∧ v11 = .pointer (some ⟨kk, 0, none⟩) ∧ i ≤ dl ∧ (dl ≤ capq ∧ capq ≤ maxLen) ∧ PolV wr R rc (ps i).2 ∧ RowC wr (w.heap.size + 1) gq (ps i).1 ∧ BoxA wr kk 3 #[.int .i64 ((d : Int) - (i : Nat))] ∧ BoxA wr w.heap.size 46 #[.slice (some bad) mb cb] ∧ BoxA wr nb8 24 #[.bool (sg l), .slice lA (nl (mg l)) lc] ∧ Below w.heap.size w wr) (fun v9 v10 v11 wr => lenV v9)
  case atStart => exact ⟨0, _, _, _, _, _, rfl, rfl, rfl, Nat.zero_le _, ⟨Nat.le_refl _, hdc.out⟩, S0.out⟩
  case round =>
    clear S0 hdc hmk
    obtain ⟨i, R, rc, gq, capq, kk, rfl, rfl, rfl, hi, hcq, hR, hQ, Rk, Rb, Rl, HBT⟩ := hrel
    by_cases hlt : i < dl
    · skip
      obtain ⟨k, Ek⟩ : ∃ k, k = d - i := ⟨_, rfl⟩
      have Ed := Edl.out
      have en := hd.out
      have em := hmb.out
      have em1 := Em1.out
      rw [show (d : Int) - (i : Nat) = (k : Int) by omega] at Rk
      have t1 : decide (0 ≤ (k : Int)) = true := by simp
      obtain ⟨r, Er⟩ : ∃ r, r = (ps i).2 := ⟨_, rfl⟩
      obtain ⟨q, Eq⟩ : ∃ q, q = (ps i).1 := ⟨_, rfl⟩
      have hrl := LR.out i (by omega)
      have hql := LQ.out i
      have sq := PSq.out i
      have sr := PSr.out i
      have lri := fun j => lr.out i j (by omega)
      have lqi := fun j => lq.out i j (by omega)
      rw [← Er] at hR hrl sq sr lri
      rw [← Eq] at hQ hql sq lqi
      rw [← Ek] at sq sr
      obtain ⟨ni, Eni⟩ : ∃ ni, ni = n - i := ⟨_, rfl⟩
      rw [← Eni] at hrl ⊢
      obtain ⟨k0, Ek0⟩ : ∃ k0, k0 = k + m1 := ⟨_, rfl⟩
      rw [← Ek0] at sq
      have hk0 : k0 < ni := by omega
      have hrc := hR.l
      obtain ⟨ad, X, dx, rfl, x0, x1, hx⟩ := hR.a k0 (by omega)
      obtain ⟨x, Ex⟩ : ∃ x, x = gi r k0 := ⟨_, rfl⟩
      have lx := lri k0
      rw [← Ex] at x0 x1 hx lx sq
      have W1 : IntKind.i64.wrap ((k : Int) + (mb : Int)) = ((k0 + 1 : Nat) : Int) := by rw [show (k : Int) + (mb : Int) = ((k0 + 1 : Nat) : Int) by omega]; exact IntWalk.i64_in _ (by omega)
      have W2 : IntKind.i64.wrap (((k0 + 1 : Nat) : Int) - 1) = (k0 : Int) := by rw [show ((k0 + 1 : Nat) : Int) - 1 = (k0 : Int) by omega]; exact IntWalk.i64_in _ (by omega)
      obtain ⟨k1, Ek1⟩ : ∃ k1, k1 = k0 + 1 := ⟨_, rfl⟩
      rw [← Ek1] at W1 W2
      have I1 : (k : Int) + (mb : Int) = (k1 : Int) := by omega
      have I2 : (k1 : Int) - 1 = (k0 : Int) := by omega
      have G1 : (0 : Int) ≤ (k0 : Int) := Int.natCast_nonneg k0
      have G2 : (k0 : Int) < (ni : Int) := by omega
      have G3 : IntKind.i64.wrap (k0 : Int) = (k0 : Int) := IntWalk.i64_in _ (by omega)
      have G5 : (0 : Int) ≤ (k : Int) := Int.natCast_nonneg k
      have G6 : (k : Int) < (dl : Int) := by omega
      have G7 : k < dl := by omega
      have G8 : IntKind.i64.wrap (k : Int) = (k : Int) := IntWalk.i64_in _ (by omega)
      have G9 : (k0 : Int) ≤ (rc : Int) := by omega
      have G10 : k0 ≤ rc := by omega
      have Wk : IntKind.i64.wrap ((k : Int) - 1) = (k : Int) - 1 := IntWalk.i64_in _ (by omega)
      have XB : Below wr.heap.size wr (wr.alloc (.cells #[.bool (sg x), .slice X (nl (mg x)) dx] 24)) := (Below.refl _ _).alloc (Nat.le_refl _) _
      have Rx : BoxA (wr.alloc (.cells #[.bool (sg x), .slice X (nl (mg x)) dx] 24)) wr.heap.size 24 #[.bool (sg x), .slice X (nl (mg x)) dx] := ⟨at_new rfl⟩
      have qk0 := Rk.c (i := 0) rfl
      have qb0 := Rb.c (i := 0) rfl
      have Rk1 := Rk.below XB
      have Rb1 := Rb.below XB
      have Rl1 := Rl.below XB
      have hx1 := hx.below XB
      have hR1 := hR.below XB
      have HB1 := HBT.cons XB
      have hc9 := hcq
      obtain ⟨Q1, EQ1⟩ : ∃ Q1, Q1 = q.mapIdx (qfn l) := ⟨_, rfl⟩
      have hQ1 : Q1.length = dl := by rw [EQ1, List.length_mapIdx]; exact hql
      have hPq : PolV (wr.alloc (.cells #[.bool (sg x), .slice X (nl (mg x)) dx] 24)) (some ⟨gq, 0, none⟩) capq q := by
        obtain ⟨cur, b1, b2, b3, b4, b5⟩ := hQ
        exact (polV_of b1 b3 (by omega) (by omega)).below XB
      have CH1 := each_ps1 (some ⟨gq, 0, none⟩) capq q nb8 _ hPq (by omega) (qfn l) (fun W j Y dy hb hj hN => ps1_c j Y dy (gi q j) lA lc l nb8 W hN (hlN0.below (HB1.cons hb)) (Rl1.below hb) (hG0.below (HB1.cons hb)) (lqi j) ll.out)
      rw [hql, ← EQ1] at CH1
      have hkd : k ≠ i + dl + 1 := by omega
      replace CH1 := Lib.hid CH1
      clear hPq hQ hkd
      replace Ek := Lib.hid Ek
      replace Ek0 := Lib.hid Ek0
      replace Ek1 := Lib.hid Ek1
      replace Ed := Lib.hid Ed
      replace en := Lib.hid en
      replace em := Lib.hid em
      replace em1 := Lib.hid em1
      replace Er := Lib.hid Er
      replace Eq := Lib.hid Eq
      replace Eni := Lib.hid Eni
      replace hrl := Lib.hid hrl
      replace hql := Lib.hid hql
      replace sq := Lib.hid sq
      replace sr := Lib.hid sr
      replace lri := Lib.hid lri
      replace lqi := Lib.hid lqi
      replace Ex := Lib.hid Ex
      replace lx := Lib.hid lx
      replace EQ1 := Lib.hid EQ1
      replace hQ1 := Lib.hid hQ1
      replace hcq := Lib.hid hcq
      replace hrc := Lib.hid hrc
      replace hx1 := hx1
      go_wp2_with (fail)
      refine CH1.out.mono ?_
      rintro e W2 ⟨g2, cap2, cur2, he, hg2, hB2, hU2, hE2, hz2, hn2, hm2, hb2⟩
      rw [hQ1.out] at he hE2 hz2 hn2
      subst he
      clear CH1
      have hx2 := hx1.below hb2
      have qk2 := (Rk1.below hb2).c (i := 0) rfl
      have qx2 := (Rx.below hb2).c (i := 0) rfl
      have qx3 := (Rx.below hb2).c (i := 1) rfl
      obtain ⟨_, _, y0, y1, _⟩ := hE2 k (by omega)
      have z0 := hB2.c y0
      have z1 := hB2.c y1
      have f0 := hB2.f (i := k * 2)
      have f1 := hB2.f (i := k * 2 + 1)
      have hb3 : Below (wr.alloc (.cells #[.bool (sg x), .slice X (nl (mg x)) dx] 24)).heap.size (wr.alloc (.cells #[.bool (sg x), .slice X (nl (mg x)) dx] 24)) ((W2.setCell ⟨g2, k * 2, none⟩ (.bool (sg x))).setCell ⟨g2, k * 2 + 1, none⟩ (.slice X (nl (mg x)) dx)) := (hb2.setCell (p := ⟨g2, k * 2, none⟩) hg2 (.bool (sg x))).setCell (p := ⟨g2, k * 2 + 1, none⟩) hg2 (.slice X (nl (mg x)) dx)
      have hB3 := hB2.stepP k (.bool (sg x)) (.slice X (nl (mg x)) dx)
      have hE3 := (hE2.put (k := k) hQ1.out (by omega) (by omega) hx2).map (fun A c n h => hB2.keep hU2 (fun j hj => setP_far (v0 := .bool (sg x)) (v1 := .slice X (nl (mg x)) dx) (i := k) j hj) h)
      have hU3 := notU_set (i := k * 2 + 1) (v := .slice X (nl (mg x)) dx) (notU_set (i := k * 2) (v := .bool (sg x)) hU2 (notU_bool _)) (notU_slice _ _ _)
      have hz3 : dl * 2 ≤ ((cur2.setIfInBounds (k * 2) (.bool (sg x))).setIfInBounds (k * 2 + 1) (.slice X (nl (mg x)) dx)).size := by simpa using hz2
      have hg3 : w.heap.size + 1 ≤ g2 := by have h1 := HB1.size; simp at h1 hg2; have := Rb1.lt; simp at this; omega
      have sq1 : (ps (i + 1)).1 = Q1.set k x := by rw [sq.out, qstep, ← EQ1.out]
      have HQ3 : RowC ((W2.setCell ⟨g2, k * 2, none⟩ (.bool (sg x))).setCell ⟨g2, k * 2 + 1, none⟩ (.slice X (nl (mg x)) dx)) (w.heap.size + 1) g2 (ps (i + 1)).1 := by rw [sq1]; exact ⟨_, hB3, hU3, by rw [List.length_set, hQ1.out]; exact hE3, by rw [List.length_set, hQ1.out]; exact hz3, hg3⟩
      have Rk3 := Rk1.below hb3
      have Rb3 := Rb1.below hb3
      have Rl3 := Rl1.below hb3
      have Rx3 := Rx.below hb3
      have hx3 := hx1.below hb3
      have HB3 := HB1.cons hb3
      have htl : (r.take k0).length = k0 := by rw [List.length_take, hrl.out]; omega
      obtain ⟨R1, ER1⟩ : ∃ R1, R1 = (r.take k0).mapIdx (rfn l x b k) := ⟨_, rfl⟩
      have hR1l : R1.length = k0 := by rw [ER1, List.length_mapIdx]; exact htl
      have sr1 : (ps (i + 1)).2 = R1 := by rw [sr.out, rstep, ER1, ← Ek0.out, ← Ex.out]
      have CH2 := each_ps2 (some ad) rc (r.take k0) nb8 kk wr.heap.size w.heap.size _ ((hR1.below hb3).take k0 (by rw [hrl.out]; omega)) (by rw [htl]; omega) (rfn l x b k) (fun W j Y dy hb hj hN => by
        rw [htl] at hj
        have hgj : gi (r.take k0) j = gi r j := gi_take r k0 j hj
        by_cases hkj : k ≤ j
        · have e : rfn l x b k j (gi (r.take k0) j) = gi (r.take k0) j * l - x * gi b (j - k) := if_pos hkj
          rw [e]
          exact ps2b_c j Y dy (gi (r.take k0) j) lA lc l X dx x (some bad) cb mb b k (j - k) nb8 kk wr.heap.size w.heap.size (gi b (j - k)) W hN (hlN0.below (HB3.cons hb)) (hx3.below hb) (hB0.below (HB3.cons hb)) hm.out (Rl3.below hb) (Rk3.below hb) (Rx3.below hb) (Rb3.below hb) (hG0.below (HB3.cons hb)) (by rw [hgj]; exact lri.out j) ll.out lx.out (by omega) (by omega) (by omega) (by omega) rfl (lb.out _)
        · have e : rfn l x b k j (gi (r.take k0) j) = gi (r.take k0) j * l := if_neg hkj
          rw [e]
          exact ps2a_c j Y dy (gi (r.take k0) j) lA lc l X dx x (some bad) cb mb b k 0 nb8 kk wr.heap.size w.heap.size 0 W hN (hlN0.below (HB3.cons hb)) (hx3.below hb) (hB0.below (HB3.cons hb)) hm.out (Rl3.below hb) (Rk3.below hb) (Rx3.below hb) (Rb3.below hb) (hG0.below (HB3.cons hb)) (by rw [hgj]; exact lri.out j) ll.out lx.out (by omega) (by omega) (by omega))
      rw [htl, ← ER1] at CH2
      replace CH2 := Lib.hid CH2
      replace HQ3 := Lib.hid HQ3
      have k3 := Rk3.c (i := 0) rfl
      have b3 := Rb3.c (i := 0) rfl
      replace sq1 := Lib.hid sq1
      replace sr1 := Lib.hid sr1
      replace ER1 := Lib.hid ER1
      replace hR1l := Lib.hid hR1l
      replace htl := Lib.hid htl
      clear hB3 hE3 hU3 hz3 hE2
      go_wp2_with (fail)
      refine CH2.out.mono ?_
      rintro e W4 ⟨g4, cap4, cur4, he, hg4, hB4, hU4, hE4, hz4, hn4, hm4, hb4⟩
      rw [hR1l.out] at he hn4
      subst he
      clear CH2
      have hP4 : PolV W4 (some ⟨g4, 0, none⟩) cap4 (ps (i + 1)).2 := by rw [sr1.out]; exact polV_of hB4 hE4 (by rw [hR1l.out]; exact hn4) hm4
      have k4 := (Rk3.below hb4).c (i := 0) rfl
      have e5 : n - (i + 1) = k0 := by have := Ek.out; have := Ek0.out; have := en.out; have := em.out; have := em1.out; omega
      have hb5 : Below W4.heap.size W4 (W4.alloc (.cells #[.int .i64 ((k : Int) - 1)] 3)) := (Below.refl _ _).alloc (Nat.le_refl _) _
      have RK5 : BoxA (W4.alloc (.cells #[.int .i64 ((k : Int) - 1)] 3)) W4.heap.size 3 #[.int .i64 ((d : Int) - ((i + 1 : Nat) : Int))] := by rw [show (d : Int) - ((i + 1 : Nat) : Int) = (k : Int) - 1 by have := Ek.out; have := Ed.out; omega]; exact ⟨at_new rfl⟩
      have HD := And.intro (hP4.below hb5) (And.intro ((HQ3.out.below hb4).below hb5) (And.intro RK5 (And.intro ((Rb3.below hb4).below hb5) (And.intro ((Rl3.below hb4).below hb5) ((HB3.cons hb4).cons hb5)))))
      replace HD := Lib.hid HD
      replace e5 := Lib.hid e5
      clear RK5 hP4 HQ3 hE4 hz4 hB4 hU4 Rk3 Rb3 Rl3 Rx3 k3 b3 qk2 qx2 qx3 z0 z1 f0 f1 y0 y1 hb5
      go_wp2_with (fail)
      go_roundw
      case rel => exact ⟨i + 1, some ⟨g4, 0, none⟩, cap4, g2, cap2, W4.heap.size, by rw [e5.out], rfl, rfl, by omega, ⟨hn2, hm2⟩, HD.out⟩
      case measure => simp only [lenV]; omega
    · skip
      obtain rfl : i = dl := by omega
      have t1 : decide (0 ≤ (-1 : Int)) = false := by decide
      rw [show (d : Int) - ((i : Nat) : Int) = -1 by have := Edl.out; omega] at Rk
      have qk0 := Rk.c (i := 0) rfl
      have em := hmb.out
      have ed := Edl.out
      have en := hd.out
      rw [show n - i = m + 1 by omega]
      have hPq : PolV wr (some ⟨gq, 0, none⟩) capq (ps i).1 := by
        obtain ⟨cur, b1, b2, b3, b4, b5⟩ := hQ
        exact polV_of b1 b3 (by rw [LQ.out]; exact hcq.1) hcq.2
      have hRl := LR.out i (Nat.le_refl _)
      have CM1 := pmake_c (some ⟨gq, 0, none⟩) capq i d (ps i).1 wr hPq (LQ.out i) ed (by omega) q0.out
      have CM2 := fun (W : World) (h : PolV W R rc (ps i).2) => pmake_c R rc (m + 1) m (ps i).2 W h (by rw [hRl]; omega) rfl (by omega) r0.out
      obtain ⟨m2, Em2⟩ : ∃ m2, m2 = m + 1 := ⟨_, rfl⟩
      rw [← Em2] at CM2 ⊢
      replace CM1 := Lib.hid CM1
      replace CM2 := Lib.hid CM2
      replace em := Lib.hid em
      replace ed := Lib.hid ed
      replace en := Lib.hid en
      replace Em2 := Lib.hid Em2
      replace hRl := Lib.hid hRl
      clear hQ
      go_wp2_with (fail)
      refine CM1.out.mono ?_
      rintro e W2 ⟨V1, c1, rfl, h1, hb2⟩
      clear CM1
      go_wp2_with (fail)
      refine (CM2.out _ (hR.below hb2)).mono ?_
      rintro e W3 ⟨V2, c2, rfl, h2, hb3⟩
      clear CM2
      go_wp2_with (fail)
      exact bodyPost_ret (v := .tuple #[.slice V1 (ps i).1.length c1, .slice V2 (ps i).2.length c2, .int .i64 0]) (by simp [results, Tryz.results74, go_sem]) rfl ⟨V1, c1, V2, c2, rfl, h1.below hb3, h2, (HBT.cons hb2).cons hb3⟩
theorem nl_i {z : Int} (h : z.natAbs < 4294967296) : nl (mg z) ≤ 1 := nl_le.2 (by rw [Nat.pow_one]; exact h)
theorem quot_c (n d : Int) (q : Rat) (w : World) (h0 : -1000 ≤ n) (h1 : n ≤ 1000) (h2 : 0 < d) (h3 : d ≤ 1000) (Eq : q = Rat.divInt n d) :
    Calls Tryz.prog 26 #[.int .i64 n, .int .i64 d] w (RetR w q) := by
  have ln : nl (mg n) ≤ 1048576 := Nat.le_trans (nl_i (by omega)) (by decide)
  have ld : nl (mg d) ≤ 1048576 := Nat.le_trans (nl_i (by omega)) (by decide)
  have CM := fun (W : World) (A : Option Addr) (k : Nat) (B : Option Addr) (j : Nat) (h1 : NatV W A k (mg n)) (h4 : NatV W B j (mg d)) => r9make_c A k n B j d W h1 h4 ln ld h2
  rw [← Eq] at CM
  replace CM := Lib.hid CM
  replace Eq := Lib.hid Eq
  replace ln := Lib.hid ln
  replace ld := Lib.hid ld
  have CN := fun (W : World) => zof_c n W (by omega) (by omega)
  have CD := fun (W : World) => zof_c d W (by omega) (by omega)
  replace CN := Lib.hid CN
  replace CD := Lib.hid CD
  clear h0 h1 h2 h3
  obtain ⟨hb1, Rr⟩ := bx1 w #[.bool false, .slice none 0 0, .slice none 0 0] 26
  have HBT := hb1
  clear hb1
  have qr0 := Rr.c (i := 0) rfl
  have qr1 := Rr.c (i := 1) rfl
  have qr2 := Rr.c (i := 2) rfl
  go_enter Tryz.func26, Tryz.ntmps26
  go_wp2_with (fail)
  refine (Calls.mono (CN.out _) ?_)
  rintro e W2 ⟨Xn, cn, rfl, hn, hb2⟩
  replace Rr := Rr.below hb2
  replace qr0 := cbl hb2 qr0
  replace qr1 := cbl hb2 qr1
  replace qr2 := cbl hb2 qr2
  replace HBT := Below.cons HBT hb2
  clear hb2
  go_wp2_with (fail)
  refine (Calls.mono (CD.out _) ?_)
  rintro e W3 ⟨Xd, cd, rfl, hd, hb3⟩
  replace Rr := Rr.below hb3
  replace qr0 := cbl hb3 qr0
  replace qr1 := cbl hb3 qr1
  replace qr2 := cbl hb3 qr2
  replace hn := hn.below hb3
  replace HBT := Below.cons HBT hb3
  clear hb3
  go_wp2_with (fail)
  refine (Calls.mono (CM.out _ _ _ _ _ hn hd) ?_)
  rintro e W4 ⟨Xq, cq, Yq, dq, rfl, hq, gq, hb4⟩
  clear hn
  clear hd
  replace Rr := Rr.below hb4
  replace qr0 := cbl hb4 qr0
  replace qr1 := cbl hb4 qr1
  replace qr2 := cbl hb4 qr2
  replace HBT := Below.cons HBT hb4
  clear hb4
  obtain ⟨hb5, Rv⟩ := bx1 W4 #[.bool (sg q.num), .slice Xq (nl (mg q.num)) cq, .slice Yq (nl q.den) dq] 26
  replace Rr := Rr.below hb5
  replace qr0 := cbl hb5 qr0
  replace qr1 := cbl hb5 qr1
  replace qr2 := cbl hb5 qr2
  replace hq := hq.below hb5
  replace gq := gq.below hb5
  replace HBT := Below.cons HBT hb5
  clear hb5
  have qv0 := Rv.c (i := 0) rfl
  have qv1 := Rv.c (i := 1) rfl
  have qv2 := Rv.c (i := 2) rfl
  have fzr0 := Rr.f (i := 0)
  have fzr1 := Rr.f (i := 1)
  have fzr2 := Rr.f (i := 2)
  go_wp2_with (fail)
  have RS := Rr.store3 (.bool (sg q.num)) (.slice Xq (nl (mg q.num)) cq) (.slice Yq (nl q.den) dq)
  have e0 := RS.c (i := 0) rfl
  have e1 := RS.c (i := 1) rfl
  have e2 := RS.c (i := 2) rfl
  refine bodyPost_ret (v := .agg #[.bool (sg q.num), .slice Xq (nl (mg q.num)) cq, .slice Yq (nl q.den) dq]) (by simp [results, Tryz.results26, go_sem, e0, e1, e2]) rfl ?_
  exact ⟨Xq, cq, Yq, dq, rfl, (Rr.keep3 (nuB rfl) hq), (Rr.keep3 (nuB rfl) gq), (Below.store3 HBT (by first | exact Nat.le_refl _ | omega))⟩
theorem cwhole_c (aA : Option Addr) (ac a : Nat) (w : World) (ha : NatV w aA ac a) (la : nl a ≤ 1073741824) :
    Calls Tryz.prog 71 #[.slice aA (nl a) ac] w (RetI w (a : Int)) := by
  obtain ⟨hb1, Rr⟩ := bx1 w #[.bool false, .slice none 0 0] 24
  replace ha := ha.below hb1
  have HBT := hb1
  clear hb1
  have qr0 := Rr.c (i := 0) rfl
  have qr1 := Rr.c (i := 1) rfl
  go_enter Tryz.func71, Tryz.ntmps71
  go_wp2_with (fail)
  obtain ⟨z, Ez⟩ : ∃ zq : Int, zq = (a : Int) := ⟨_, rfl⟩
  have hv : ival false a = (a : Int) := rfl
  rw [← hv] at Ez
  refine (Calls.mono (R := RetI (w.alloc (.cells #[.bool false, .slice none 0 0] 24)) z) (by rw [Ez]; with_reducible exact imake_c false aA ac a _ ha la) ?_)
  replace Ez := Lib.hid Ez
  rintro e W2 ⟨Xz, cz, rfl, hz, hb2⟩
  replace ha := ha.below hb2
  replace Rr := Rr.below hb2
  replace qr0 := cbl hb2 qr0
  replace qr1 := cbl hb2 qr1
  replace HBT := Below.cons HBT hb2
  clear hb2
  have fzr0 := Rr.f (i := 0)
  have fzr1 := Rr.f (i := 1)
  go_wp2_with (fail)
  have hz2 : z = (a : Int) := Ez.out
  subst hz2
  have RS := Rr.store2 (.bool (sg ((a : Int)))) (.slice Xz (nl (mg ((a : Int)))) cz)
  have e0 := RS.c (i := 0) rfl
  have e1 := RS.c (i := 1) rfl
  refine bodyPost_ret (v := .agg #[.bool (sg ((a : Int))), .slice Xz (nl (mg ((a : Int)))) cz]) (by simp [results, Tryz.results71, go_sem, e0, e1]) rfl ?_
  exact ⟨Xz, cz, rfl, (Rr.keep2 (nuB rfl) hz), (Below.store2 HBT (by first | exact Nat.le_refl _ | omega))⟩
theorem lead_c (V : Option Addr) (c n : Nat) (p : List Int) (m : Nat) (z : Int) (w : World) (hP : PolV w V c p) (hn : p.length = n) (hm : n = m + 1) (hl : n ≤ 1048576) (Ez : z = gi p m) :
    Calls Tryz.prog 75 #[.slice V n c] w (RetI w z) := by
  have hlc := hP.l
  obtain ⟨ad, X, d, rfl, c0, c1, hz⟩ := hP.a m (by omega)
  rw [← Ez] at c0 c1 hz
  have Wn : IntKind.i64.wrap ((n : Int) - 1) = (m : Int) := by rw [show (n : Int) - 1 = (m : Int) by omega]; exact IntWalk.i64_in _ (by omega)
  have g1 : (0 : Int) ≤ (m : Int) := Int.natCast_nonneg m
  have g2 : (m : Int) < (n : Int) := by omega
  have g3 : IntKind.i64.wrap (m : Int) = (m : Int) := IntWalk.i64_in _ (by omega)
  have g4 : m < n := by omega
  have bad := World.block_lt_of_cell? _ _ c0
  have In : (n : Int) - 1 = (m : Int) := by omega
  clear hP hlc
  replace Ez := Lib.hid Ez
  replace hn := Lib.hid hn
  replace hm := Lib.hid hm
  replace bad := Lib.hid bad
  have hz0 := hz
  obtain ⟨hb1, Rr⟩ := bx1 w #[.bool false, .slice none 0 0] 24
  replace hz := hz.below hb1
  replace c0 := cbl hb1 c0
  replace c1 := cbl hb1 c1
  have HBT := hb1
  clear hb1
  have qr0 := Rr.c (i := 0) rfl
  have qr1 := Rr.c (i := 1) rfl
  have fzr0 := Rr.f (i := 0)
  have fzr1 := Rr.f (i := 1)
  go_enter Tryz.func75, Tryz.ntmps75
  go_wp2_with (fail)
  have hbF : Below w.heap.size w (w.alloc (.cells #[.bool (sg z), .slice X (nl (mg z)) d] 24)) := (Below.refl _ _).alloc (Nat.le_refl _) _
  have RF : BoxA (w.alloc (.cells #[.bool (sg z), .slice X (nl (mg z)) d] 24)) w.heap.size 24 #[.bool (sg z), .slice X (nl (mg z)) d] := ⟨at_new rfl⟩
  have e0 := RF.c (i := 0) rfl
  have e1 := RF.c (i := 1) rfl
  refine bodyPost_ret (v := .agg #[.bool (sg z), .slice X (nl (mg z)) d]) (by simp [results, Tryz.results75, go_sem, e0, e1]) rfl ?_
  exact ⟨X, d, rfl, hz0.below hbF, hbF⟩
theorem odd_c (V : Option Addr) (c n : Nat) (A : Option Addr) (d m : Nat) (w : World) (hn : n ≤ 1048576) (hm : m ≤ 1048576) (h1 : n % 2 = 1) :
    Calls Tryz.prog 70 #[.slice V n c, .slice A m d] w (fun e w' => e = .returned (.bool false) ∧ Below w.heap.size w w') := by
  have CD := deg_c V c n w hn
  have t1 : (((n : Int) - 1).tmod 2 == 1) = false := by
    obtain ⟨k, hk⟩ : ∃ k : Nat, n = 2 * k + 1 := ⟨n / 2, by omega⟩
    subst hk
    have e : (((2 * k + 1 : Nat) : Int) - 1) = 2 * (k : Int) := by omega
    rw [e, Int.mul_tmod_right]; rfl
  have Wr : IntKind.i64.wrap (((n : Int) - 1).tmod 2) = ((n : Int) - 1).tmod 2 := by
    obtain ⟨k, hk⟩ : ∃ k : Nat, n = 2 * k + 1 := ⟨n / 2, by omega⟩
    subst hk
    have e : (((2 * k + 1 : Nat) : Int) - 1) = 2 * (k : Int) := by omega
    rw [e, Int.mul_tmod_right]; rfl
  go_enter Tryz.func70, Tryz.ntmps70
  go_wp2_with (fail)
  refine (Calls.mono CD ?_)
  rintro e w' ⟨rfl, hw⟩
  first | subst hw | (replace hw := hw.symm; subst hw)
  go_wp2_with (fail)
  exact bodyPost_ret (v := .bool false) (by simp [results, Tryz.results70, go_sem]) rfl ⟨rfl, Below.refl _ _⟩
theorem power_c (aA : Option Addr) (ac : Nat) (a : Int) (bA : Option Addr) (bc : Nat) (b : Int) (w : World) (ha : NatV w aA ac (mg a)) (hb : NatV w bA bc (mg b)) (hG : Flds w) (h1 : a = 1) (h0 : 1 ≤ b) (lb : nl (mg b) ≤ 7) :
    Calls Tryz.prog 76 #[.agg #[.bool (sg a), .slice aA (nl (mg a)) ac], .agg #[.bool (sg b), .slice bA (nl (mg b)) bc], .int .i64 1] w (RetI w b) := by
  obtain ⟨x, Ex⟩ : ∃ zq : Int, zq = b ^ 1 := ⟨_, rfl⟩
  have Nx : nl (mg x) ≤ 1048576 := by rw [Ex, Int.pow_succ, Int.pow_zero, Int.one_mul]; omega
  obtain ⟨y, Ey⟩ : ∃ zq : Int, zq = a ^ 0 := ⟨_, rfl⟩
  have Y1 : y = 1 := by rw [Ey, Int.pow_zero]
  have Ny : nl (mg y) ≤ 1048576 := by rw [Y1]; decide +kernel
  obtain ⟨z, Ez⟩ : ∃ zq : Int, zq = x / y := ⟨_, rfl⟩
  have Z1 : z = b := by rw [Ez, Y1, Int.ediv_one, Ex, Int.pow_succ, Int.pow_zero, Int.one_mul]
  have CX := fun (W : World) (h1 : NatV W bA bc (mg b)) (hG : Flds W) => (show Calls _ _ #[_, .int .i64 1] _ _ from ipow_f bA bc b 1 W h1 hG (by omega) (by omega) (by decide) h0 (by rw [Nat.pow_one]; exact lb))
  rw [← Ex] at CX
  replace CX := Lib.hid CX
  have CY := fun (W : World) (h2 : NatV W aA ac (mg a)) (hG : Flds W) => (show Calls _ _ #[_, .int .i64 0] _ _ from ipow_f aA ac a 0 W h2 hG (by omega) (by rw [h1]; decide +kernel) (by decide) (by omega) (by rw [Nat.pow_zero, nl_one]; decide))
  rw [← Ey] at CY
  replace CY := Lib.hid CY
  have CZ := fun (W : World) (A : Option Addr) (k : Nat) (B : Option Addr) (j : Nat) (h1 : NatV W A k (mg x)) (h2 : NatV W B j (mg y)) => iexact_c A k x B j y W h1 h2 Nx Ny (by omega) (by rw [Y1]; exact Int.emod_one x)
  rw [← Ez] at CZ
  replace CZ := Lib.hid CZ
  replace Ex := Lib.hid Ex
  replace Ey := Lib.hid Ey
  replace Ez := Lib.hid Ez
  replace Y1 := Lib.hid Y1
  replace Z1 := Lib.hid Z1
  clear Nx Ny h1 h0 lb
  obtain ⟨hb1, Ra, Rb, Rr⟩ := bx3 w #[.bool (sg a), .slice aA (nl (mg a)) ac] 24 #[.bool (sg b), .slice bA (nl (mg b)) bc] 24 #[.bool false, .slice none 0 0] 24
  replace ha := ha.below hb1
  replace hb := hb.below hb1
  replace hG := hG.below hb1
  have HBT := hb1
  clear hb1
  have qa0 := Ra.c (i := 0) rfl
  have qa1 := Ra.c (i := 1) rfl
  have qb0 := Rb.c (i := 0) rfl
  have qb1 := Rb.c (i := 1) rfl
  have qr0 := Rr.c (i := 0) rfl
  have qr1 := Rr.c (i := 1) rfl
  go_enter Tryz.func76, Tryz.ntmps76
  go_wp2_with (fail)
  generalize hW0 : (((w.alloc (.cells #[.bool (sg a), .slice aA (nl (mg a)) ac] 24)).alloc (.cells #[.bool (sg b), .slice bA (nl (mg b)) bc] 24)).alloc (.cells #[.bool false, .slice none 0 0] 24)) = W0 at *
  replace hW0 := Lib.hid hW0
  have hsz := Rr.lt
  replace hsz := Lib.hid hsz
  refine wp_region_inv (fun E a' w' => ∃ (u13 u14 u15 u16 u17 u18 u19 u20 u12 u21 u22 u7 u8 : Value),
    a' = { tmps := #[.agg #[.bool (sg a), .slice aA (nl (mg a)) ac], .agg #[.bool (sg b), .slice bA (nl (mg b)) bc], .int .i64 1, .pointer (some ⟨w.heap.size, 0, none⟩), .pointer (some ⟨(w.heap.size + 1), 0, none⟩), undef, .pointer (some ⟨(w.heap.size + 1 + 1), 0, none⟩), u7, u8, .int .i64 1, .bool false, undef, u12, u13, u14, u15, u16, u17, u18, u19, u20, u21, u22, undef], defers := [] } ∧
    (E 0 = true → u13 = .agg #[.bool (sg b), .slice bA (nl (mg b)) bc]) ∧
    (E 1 = true → u14 = .int .i64 1) ∧
    (E 2 = true → PI u15 x w') ∧
    (E 3 = true → u16 = .agg #[.bool (sg a), .slice aA (nl (mg a)) ac]) ∧
    (E 4 = true → u17 = .int .i64 1) ∧
    (E 5 = true → u18 = .int .i64 0) ∧
    (E 6 = true → PI u19 y w') ∧
    (E 7 = true → PIb u20 z w') ∧
    (E 8 = true → PIb u12 z w') ∧
    (E 9 = true → PI u21 z w') ∧
    (E 10 = true → u22 = .bool true) ∧
    (E 11 = true → PB2 24 W0.heap.size u7 w') ∧
    (E 12 = true → PBI W0.heap.size u7 z w') ∧
    (E 13 = true → u8 = .bool true) ∧
    (E 12 = true → E 11 = true) ∧
    Below W0.heap.size W0 w') (by kernel_rfl) (by kernel_rfl) ?init ?fin ?step
  case init => exact ⟨_, _, _, _, _, _, _, _, _, _, _, _, _, rfl, by simp, by simp, by simp, by simp, by simp, by simp, by simp, by simp, by simp, by simp, by simp, by simp, by simp, by simp, by simp, (Below.refl _ _).drew⟩
  case step =>
    rintro E a' w' i ⟨u13, u14, u15, u16, u17, u18, u19, u20, u12, u21, u22, u7, u8, rfl, h0, h1, h2, h3, h4, h5, h6, h7, h8, h9, h10, h11, h12, h13, hD12, hB⟩ hi hEi hdep
    have qa0 := cbl hB qa0
    have qa1 := cbl hB qa1
    have qb0 := cbl hB qb0
    have qb1 := cbl hB qb1
    obtain rfl | rfl | rfl | rfl | rfl | rfl | rfl | rfl | rfl | rfl | rfl | rfl | rfl | rfl : i = 0 ∨ i = 1 ∨ i = 2 ∨ i = 3 ∨ i = 4 ∨ i = 5 ∨ i = 6 ∨ i = 7 ∨ i = 8 ∨ i = 9 ∨ i = 10 ∨ i = 11 ∨ i = 12 ∨ i = 13 := by simp at hi; omega
    · skip
      refine wpOp_step rfl (fun K' hK' => ?_)
      go_simp
      refine hK' _ _ ?_
      exact ⟨_, _, _, _, _, _, _, _, _, _, _, _, _, rfl, fun _ => rfl, kd h1, kd h2, kd h3, kd h4, kd h5, kd h6, kd h7, kd h8, kd h9, kd h10, kd h11, kd h12, kd h13, (fun h => by have := hD12 (by simpa using h); simpa using this), hB⟩
    · skip
      refine wpOp_step rfl (fun K' hK' => ?_)
      go_simp
      refine hK' _ _ ?_
      exact ⟨_, _, _, _, _, _, _, _, _, _, _, _, _, rfl, kd h0, fun _ => rfl, kd h2, kd h3, kd h4, kd h5, kd h6, kd h7, kd h8, kd h9, kd h10, kd h11, kd h12, kd h13, (fun h => by have := hD12 (by simpa using h); simpa using this), hB⟩
    · skip
      have d0 := hdep _ rfl ⟨0, .data⟩ (by simp) rfl
      obtain rfl := h0 d0
      have d1 := hdep _ rfl ⟨1, .data⟩ (by simp) rfl
      obtain rfl := h1 d1
      refine wpOp_step rfl (fun K' hK' => ?_)
      go_simp
      refine (Calls.mono (CX.out w' (hb.below hB) (hG.below hB)) ?_)
      rintro e W1 ⟨Xr, cr, rfl, kr, kb⟩
      refine hK' _ _ ?_
      exact ⟨_, _, _, _, _, _, _, _, _, _, _, _, _, rfl, kd h0, kd h1, fun _ => ⟨Xr, cr, rfl, kr⟩, kd h3, kd h4, kd h5, kp h6 (fun h => h.below kb), kp h7 (fun h => h.below kb), kp h8 (fun h => h.below kb), kp h9 (fun h => h.below kb), kd h10, kp h11 (fun h => h.below kb), kp h12 (fun h => h.below kb), kd h13, (fun h => by have := hD12 (by simpa using h); simpa using this), Below.cons hB kb⟩
    · skip
      refine wpOp_step rfl (fun K' hK' => ?_)
      go_simp
      refine hK' _ _ ?_
      exact ⟨_, _, _, _, _, _, _, _, _, _, _, _, _, rfl, kd h0, kd h1, kd h2, fun _ => rfl, kd h4, kd h5, kd h6, kd h7, kd h8, kd h9, kd h10, kd h11, kd h12, kd h13, (fun h => by have := hD12 (by simpa using h); simpa using this), hB⟩
    · skip
      refine wpOp_step rfl (fun K' hK' => ?_)
      go_simp
      refine hK' _ _ ?_
      exact ⟨_, _, _, _, _, _, _, _, _, _, _, _, _, rfl, kd h0, kd h1, kd h2, kd h3, fun _ => rfl, kd h5, kd h6, kd h7, kd h8, kd h9, kd h10, kd h11, kd h12, kd h13, (fun h => by have := hD12 (by simpa using h); simpa using this), hB⟩
    · skip
      have d4 := hdep _ rfl ⟨4, .data⟩ (by simp) rfl
      obtain rfl := h4 d4
      refine wpOp_step rfl (fun K' hK' => ?_)
      go_simp
      refine hK' _ _ ?_
      exact ⟨_, _, _, _, _, _, _, _, _, _, _, _, _, rfl, kd h0, kd h1, kd h2, kd h3, kd h4, fun _ => rfl, kd h6, kd h7, kd h8, kd h9, kd h10, kd h11, kd h12, kd h13, (fun h => by have := hD12 (by simpa using h); simpa using this), hB⟩
    · skip
      have d3 := hdep _ rfl ⟨3, .data⟩ (by simp) rfl
      obtain rfl := h3 d3
      have d5 := hdep _ rfl ⟨5, .data⟩ (by simp) rfl
      obtain rfl := h5 d5
      refine wpOp_step rfl (fun K' hK' => ?_)
      go_simp
      refine (Calls.mono (CY.out w' (ha.below hB) (hG.below hB)) ?_)
      rintro e W1 ⟨Xr, cr, rfl, kr, kb⟩
      refine hK' _ _ ?_
      exact ⟨_, _, _, _, _, _, _, _, _, _, _, _, _, rfl, kd h0, kd h1, kp h2 (fun h => h.below kb), kd h3, kd h4, kd h5, fun _ => ⟨Xr, cr, rfl, kr⟩, kp h7 (fun h => h.below kb), kp h8 (fun h => h.below kb), kp h9 (fun h => h.below kb), kd h10, kp h11 (fun h => h.below kb), kp h12 (fun h => h.below kb), kd h13, (fun h => by have := hD12 (by simpa using h); simpa using this), Below.cons hB kb⟩
    · skip
      have d2 := hdep _ rfl ⟨2, .data⟩ (by simp) rfl
      obtain ⟨X_2, c_2, rfl, k_2⟩ := h2 d2
      have d6 := hdep _ rfl ⟨6, .data⟩ (by simp) rfl
      obtain ⟨X_6, c_6, rfl, k_6⟩ := h6 d6
      refine wpOp_step rfl (fun K' hK' => ?_)
      go_simp
      refine (Calls.mono (CZ.out w' _ _ _ _ k_2 k_6) ?_)
      rintro e W1 ⟨Xr, cr, rfl, kr, kb⟩
      refine hK' _ _ ?_
      exact ⟨_, _, _, _, _, _, _, _, _, _, _, _, _, rfl, kd h0, kd h1, kp h2 (fun h => h.below kb), kd h3, kd h4, kd h5, kp h6 (fun h => h.below kb), fun _ => ⟨Xr, cr, rfl, kr⟩, kp h8 (fun h => h.below kb), kp h9 (fun h => h.below kb), kd h10, kp h11 (fun h => h.below kb), kp h12 (fun h => h.below kb), kd h13, (fun h => by have := hD12 (by simpa using h); simpa using this), Below.cons hB kb⟩
    · skip
      have d7 := hdep _ rfl ⟨7, .data⟩ (by simp) rfl
      obtain ⟨X_7, c_7, rfl, k_7⟩ := h7 d7
      refine wpOp_step rfl (fun K' hK' => ?_)
      go_simp
      refine hK' _ _ ?_
      exact ⟨_, _, _, _, _, _, _, _, _, _, _, _, _, rfl, kd h0, kd h1, kd h2, kd h3, kd h4, kd h5, kd h6, kd h7, fun _ => ⟨X_7, c_7, rfl, k_7⟩, kd h9, kd h10, kd h11, kd h12, kd h13, (fun h => by have := hD12 (by simpa using h); simpa using this), hB⟩
    · skip
      have d8 := hdep _ rfl ⟨8, .data⟩ (by simp) rfl
      obtain ⟨X_8, c_8, rfl, k_8⟩ := h8 d8
      refine wpOp_step rfl (fun K' hK' => ?_)
      go_simp
      refine hK' _ _ ?_
      exact ⟨_, _, _, _, _, _, _, _, _, _, _, _, _, rfl, kd h0, kd h1, kd h2, kd h3, kd h4, kd h5, kd h6, kd h7, kd h8, fun _ => ⟨X_8, c_8, rfl, k_8⟩, kd h10, kd h11, kd h12, kd h13, (fun h => by have := hD12 (by simpa using h); simpa using this), hB⟩
    · skip
      have d8 := hdep _ rfl ⟨8, .data⟩ (by simp) rfl
      obtain ⟨X_8, c_8, rfl, k_8⟩ := h8 d8
      refine wpOp_step rfl (fun K' hK' => ?_)
      go_simp
      refine hK' _ _ ?_
      exact ⟨_, _, _, _, _, _, _, _, _, _, _, _, _, rfl, kd h0, kd h1, kd h2, kd h3, kd h4, kd h5, kd h6, kd h7, kd h8, kd h9, fun _ => rfl, kd h11, kd h12, kd h13, (fun h => by have := hD12 (by simpa using h); simpa using this), hB⟩
    · skip
      have kb : Below w'.heap.size w' (w'.alloc (.cells #[.bool false, .slice none 0 0] 24)) := (Below.refl _ _).alloc (Nat.le_refl _) _
      refine wpOp_step rfl (fun K' hK' => ?_)
      go_simp
      refine hK' _ _ ?_
      exact ⟨_, _, _, _, _, _, _, _, _, _, _, _, _, rfl, kd h0, kd h1, kp h2 (fun h => h.below kb), kd h3, kd h4, kd h5, kp h6 (fun h => h.below kb), kp h7 (fun h => h.below kb), kp h8 (fun h => h.below kb), kp h9 (fun h => h.below kb), kd h10, fun _ => ⟨_, _, _, rfl, hB.size, ⟨at_new rfl⟩, notU_bool _, notU_slice _ _ _⟩, (fun h => by have h2 := hD12 (by simpa using h); rw [hEi] at h2; cases h2), kd h13, (fun _ => by simp), Below.cons hB kb⟩
    · skip
      have d11 := hdep _ rfl ⟨11, .data⟩ (by simp) rfl
      obtain ⟨nb, z0, z1, rfl, hn, hb, nz0, nz1⟩ := h11 d11
      have d9 := hdep _ rfl ⟨9, .data⟩ (by simp) rfl
      obtain ⟨X_9, c_9, rfl, k_9⟩ := h9 d9
      have fz0 := hb.f (i := 0)
      have cz0 := hb.c (i := 0) rfl
      have fz1 := hb.f (i := 1)
      have cz1 := hb.c (i := 1) rfl
      have hp := hb.put2 (notU2 nz0 nz1) (.bool (sg z)) (.slice X_9 (nl (mg z)) c_9)
      have hs := hb.store2 (.bool (sg z)) (.slice X_9 (nl (mg z)) c_9)
      refine wpOp_step rfl (fun K' hK' => ?_)
      go_simp
      refine hK' _ _ ?_
      exact ⟨_, _, _, _, _, _, _, _, _, _, _, _, _, rfl, kd h0, kd h1, kp h2 (fun h => h.put hp), kd h3, kd h4, kd h5, kp h6 (fun h => h.put hp), kp h7 (fun h => h.put hp), kp h8 (fun h => h.put hp), kp h9 (fun h => h.put hp), kd h10, (fun _ => ⟨nb, _, _, rfl, hn, hs, notU_bool _, notU_slice _ _ _⟩), fun _ => ⟨nb, X_9, c_9, rfl, hn, hs, hp.nat k_9⟩, kd h13, (fun _ => by simp [d11]), Below.store2 hB hn⟩
    · skip
      have d10 := hdep _ rfl ⟨10, .data⟩ (by simp) rfl
      obtain rfl := h10 d10
      refine wpOp_step rfl (fun K' hK' => ?_)
      go_simp
      refine hK' _ _ ?_
      exact ⟨_, _, _, _, _, _, _, _, _, _, _, _, _, rfl, kd h0, kd h1, kd h2, kd h3, kd h4, kd h5, kd h6, kd h7, kd h8, kd h9, kd h10, kd h11, kd h12, fun _ => rfl, (fun h => by have := hD12 (by simpa using h); simpa using this), hB⟩
  case fin =>
    rintro E a' w' ⟨u13, u14, u15, u16, u17, u18, u19, u20, u12, u21, u22, u7, u8, rfl, h0, h1, h2, h3, h4, h5, h6, h7, h8, h9, h10, h11, h12, h13, hD12, hB⟩ hall
    obtain ⟨nbz, Xz, cz, rfl, hnz, Rz, hz⟩ := h12 (hall 12 (by simp))
    replace ha := ha.below hB
    replace hb := hb.below hB
    replace hG := hG.below hB
    replace Ra := Ra.below hB
    replace qa0 := cbl hB qa0
    replace qa1 := cbl hB qa1
    replace Rb := Rb.below hB
    replace qb0 := cbl hB qb0
    replace qb1 := cbl hB qb1
    replace Rr := Rr.below hB
    replace qr0 := cbl hB qr0
    replace qr1 := cbl hB qr1
    replace HBT := Below.cons HBT hB
    have kvz := hnz
    have qz0 := Rz.c (i := 0) rfl
    have qz1 := Rz.c (i := 1) rfl
    clear hall
    generalize hV1 : w' = V1 at *
    clear hV1
    clear qa0
    clear qa1
    clear qb0
    clear qb1
    clear Ra
    clear Rb
    clear ha
    clear hb
    clear hG
    have hw1 : w.heap.size + 1 + 1 < nbz := by have := hsz.out; omega
    have fzr0 := Rr.f (i := 0)
    have fzr1 := Rr.f (i := 1)
    go_wp2_with (fail)
    have hz2 : z = b := Z1.out
    subst hz2
    have RS := Rr.store2 (.bool (sg z)) (.slice Xz (nl (mg z)) cz)
    have e0 := RS.c (i := 0) rfl
    have e1 := RS.c (i := 1) rfl
    refine bodyPost_ret (v := .agg #[.bool (sg z), .slice Xz (nl (mg z)) cz]) (by simp [results, Tryz.results76, go_sem, e0, e1]) rfl ?_
    exact ⟨Xz, cz, rfl, (Rr.keep2 (nuB rfl) hz), (Below.store2 HBT (by first | exact Nat.le_refl _ | omega))⟩
theorem chover_c (V : Option Addr) (c : Nat) (p : List Int) (cA : Option Addr) (cc : Nat) (z : Int) (w : World) (hP : PolV w V c p) (hc : NatV w cA cc (mg z)) (hl : p.length ≤ 1048576) (lp : ∀ j, nl (mg (gi p j)) ≤ 1048576) (h1 : z = 1) :
    Calls Tryz.prog 73 #[.slice V p.length c, .agg #[.bool (sg z), .slice cA (nl (mg z)) cc]] w (RetC w p) := by
  have hdiv : ∀ x : Int, x / z = x := fun x => by rw [h1, Int.ediv_one]
  have CE := fun (W : World) (X : Option Addr) (d : Nat) (x : Int) (h2 : NatV W X d (mg x)) (h3 : NatV W cA cc (mg z)) (h4 : nl (mg x) ≤ 1048576) => iexact_c X d x cA cc z W h2 h3 h4 (by rw [h1]; decide +kernel) (by omega) (by rw [h1]; exact Int.emod_one x)
  simp only [hdiv] at CE
  obtain ⟨n, En⟩ : ∃ n, n = p.length := ⟨_, rfl⟩
  have hmk := mkP (n : Int) (n : Int) (by omega) (by omega) (by omega)
  rw [Int.toNat_natCast] at hmk
  have hb0 : Below w.heap.size w ((w.alloc (.cells #[.bool (sg z), .slice cA (nl (mg z)) cc] 24)).alloc (.cells (madeCells #[.bool false, .slice none 0 0] (n * 2)) 24)) := ((Below.refl _ _).alloc (Nat.le_refl _) _).alloc (by simp <;> omega) _
  have hO : BoxA ((w.alloc (.cells #[.bool (sg z), .slice cA (nl (mg z)) cc] 24)).alloc (.cells (madeCells #[.bool false, .slice none 0 0] (n * 2)) 24)) (w.heap.size + 1) 24 (madeCells #[.bool false, .slice none 0 0] (n * 2)) := ⟨at_new (by simp)⟩
  have hC : BoxA ((w.alloc (.cells #[.bool (sg z), .slice cA (nl (mg z)) cc] 24)).alloc (.cells (madeCells #[.bool false, .slice none 0 0] (n * 2)) 24)) w.heap.size 24 #[.bool (sg z), .slice cA (nl (mg z)) cc] := ⟨at_old (by simp) (at_new rfl)⟩
  have hfin : ∀ (wr : World) (vs : Array Value), BoxA wr (w.heap.size + 1) 24 vs → vs.size = n * 2 → (∀ u ∈ vs.toList, NotU u) → EncI wr p n vs → Below w.heap.size w wr → RetC w p (.returned (.slice (some ⟨w.heap.size + 1, 0, none⟩) n n)) wr := fun wr vs h1 hz hu h2 h3 => by
    exact ⟨w.heap.size + 1, n, vs, by rw [En], Nat.le_succ _, h1, hu, by rw [← En]; exact h2, by rw [← En]; omega, by rw [← En]; exact Nat.le_refl _, by simp only [maxLen]; omega, h3⟩
  rw [← En]
  replace CE := Lib.hid CE
  replace hfin := Lib.hid hfin
  replace En := Lib.hid En
  replace h1 := Lib.hid h1
  clear hdiv
  go_enter Tryz.func73, Tryz.ntmps73
  go_wp2_with (fail)
  go_loopw [13] (fun v13 wr => ∃ (k : Nat) (vs : Array Value), v13 = .int .i64 k ∧ k ≤ n ∧ BoxA wr (w.heap.size + 1) 24 vs ∧ Hid (vs.size = n * 2) ∧ Hid (∀ u ∈ vs.toList, NotU u) ∧ EncI wr p k vs ∧ BoxA wr w.heap.size 24 #[.bool (sg z), .slice cA (nl (mg z)) cc] ∧ Below w.heap.size w wr) (fun v13 wr => n - (intOf v13).toNat)
  case atStart => exact ⟨0, _, rfl, Nat.zero_le _, hO, Lib.hid (size_madeCells _ _), Lib.hid (made_notU _), fun j hj => absurd hj (Nat.not_lt_zero j), hC, hb0⟩
  case round =>
    obtain ⟨k, vs, rfl, hk, hB, hvz, hvu, hE, hCr, hbr⟩ := hrel
    clear hO hb0 hmk hC
    by_cases hkn : k < n
    · have t1 : decide ((k : Int) < (n : Int)) = true := by simp; omega
      have t2 : decide (k < n) = true := by simp; omega
      obtain ⟨ad, X, d, rfl, c0, c1, hN⟩ := (hP.below hbr).a k (by rw [← En.out]; exact hkn)
      obtain ⟨x, Ex⟩ : ∃ x, x = gi p k := ⟨_, rfl⟩
      have lx := lp k
      rw [← Ex] at c0 c1 hN lx
      have Wk : IntKind.i64.wrap ((k : Int) + 1) = ((k + 1 : Nat) : Int) := by rw [show (k : Int) + 1 = ((k + 1 : Nat) : Int) by omega]; exact IntWalk.i64_in _ (by have := En.out; omega)
      have hb1 : Below wr.heap.size wr (wr.alloc (.cells #[.bool (sg x), .slice X (nl (mg x)) d] 24)) := (Below.refl _ _).alloc (Nat.le_refl _) _
      have Rx : BoxA (wr.alloc (.cells #[.bool (sg x), .slice X (nl (mg x)) d] 24)) wr.heap.size 24 #[.bool (sg x), .slice X (nl (mg x)) d] := ⟨at_new rfl⟩
      have qx0 := Rx.c (i := 0) rfl
      have qx1 := Rx.c (i := 1) rfl
      have hB1 := hB.below hb1
      have hC1 := hCr.below hb1
      have qc0 := hC1.c (i := 0) rfl
      have qc1 := hC1.c (i := 1) rfl
      have hN1 := hN.below hb1
      have hbr1 := hbr.cons hb1
      have hc1 := hc.below hbr1
      have CH := Lib.hid (CE.out _ X d x hN1 hc1 lx)
      replace lx := Lib.hid lx
      replace Ex := Lib.hid Ex
      replace t2 := t2
      go_wp2_with (fail)
      refine CH.out.mono ?_
      rintro e W2 ⟨Y, f, rfl, hY, hb2⟩
      have hB2 := hB1.below hb2
      have hC2 := hC1.below hb2
      have hbr2 := hbr1.cons hb2
      have hE2 := hE.map (W' := W2) (fun A c n h => (h.below hb1).below hb2)
      obtain ⟨o0, ho0⟩ : ∃ u, vs[k * 2]? = some u := ⟨_, Array.getElem?_eq_getElem (by rw [hvz.out]; omega)⟩
      obtain ⟨o1, ho1⟩ : ∃ u, vs[k * 2 + 1]? = some u := ⟨_, Array.getElem?_eq_getElem (by rw [hvz.out]; omega)⟩
      have z0 := hB2.c ho0
      have z1 := hB2.c ho1
      have f0 := hB2.f (i := k * 2)
      have f1 := hB2.f (i := k * 2 + 1)
      have hB3 := hB2.stepP k (.bool (sg x)) (.slice Y (nl (mg x)) f)
      have hC3 : BoxA _ w.heap.size 24 #[.bool (sg z), .slice cA (nl (mg z)) cc] := ⟨(setP_far (v0 := .bool (sg x)) (v1 := .slice Y (nl (mg x)) f) (i := k) w.heap.size (Nat.ne_of_lt (Nat.lt_succ_self _))).trans hC2.at_⟩
      have hY3 : NatV _ Y f (mg x) := hB2.keep hvu.out (fun j hj => setP_far (v0 := .bool (sg x)) (v1 := .slice Y (nl (mg x)) f) (i := k) j hj) hY
      have hE3 := hE2.map (fun A c n h => hB2.keep hvu.out (fun j hj => setP_far (v0 := .bool (sg x)) (v1 := .slice Y (nl (mg x)) f) (i := k) j hj) h)
      have hE4 := hE3.step (by rw [hvz.out]; omega) (X := Y) (d := f) (by rw [← Ex.out]; exact hY3)
      rw [← Ex.out] at hE4
      have hbr3 : Below w.heap.size w _ := (hbr2.setCell (p := ⟨w.heap.size + 1, k * 2, none⟩) (Nat.le_succ _) (.bool (sg x))).setCell (p := ⟨w.heap.size + 1, k * 2 + 1, none⟩) (Nat.le_succ _) (.slice Y (nl (mg x)) f)
      have hu4 := notU_set (i := k * 2 + 1) (v := .slice Y (nl (mg x)) f) (notU_set (i := k * 2) (v := .bool (sg x)) hvu.out (notU_bool _)) (notU_slice _ _ _)
      have hz4 : ((vs.setIfInBounds (k * 2) (.bool (sg x))).setIfInBounds (k * 2 + 1) (.slice Y (nl (mg x)) f)).size = n * 2 := by simp [hvz.out]
      have HD := Lib.hid (And.intro hB3 (And.intro hz4 (And.intro hu4 (And.intro hE4 (And.intro hC3 hbr3)))))
      clear hB3 hY3 hE3 hE4 hbr3 hu4 hz4 ho0 ho1 hE2 hE Rx qx0 qx1 hB1 CH hC3 hC1 hC2 qc0 qc1 hCr hc1
      go_wp2_with (fail)
      go_roundw
      case rel => exact ⟨k + 1, _, by go_num, by omega, HD.out.1, Lib.hid HD.out.2.1, Lib.hid HD.out.2.2.1, HD.out.2.2.2.1, HD.out.2.2.2.2.1, HD.out.2.2.2.2.2⟩
      case measure => simp [intOf]; omega
    · obtain rfl : k = n := by omega
      have t1 : decide ((k : Int) < (k : Int)) = false := by simp
      have HF := Lib.hid (hfin.out wr vs hB hvz.out hvu.out hE hbr)
      go_wp2_with (fail)
      exact bodyPost_ret (v := .slice (some ⟨w.heap.size + 1, 0, none⟩) k k) (by simp [results, Tryz.results73, go_sem]) rfl HF.out
end Go.Proofs.YtopigejgadnkaaaGreatDoor
