/- A region that draws its order, whose calls come up in one order alone and whose other operations yield the same at whatever time: it is run one behind the other. -/
import Derived.Test.YtacjfpibilolnaaGreatDoorSC03
import Derived.Deep.RegionHeld3
set_option maxRecDepth 100000
set_option maxHeartbeats 4000000
set_option linter.unusedVariables false
set_option linter.unusedSimpArgs false
namespace Go.Proofs.YtacjfpibilolnaaGreatDoor
open Go.RowKit

/-- One behind the other, by a list of operations; 'true': it yields the same in every world that meets S. -/
def SeqP (P : Program) (ops : Array Oper) (Q : Exit → Act → World → Prop) (S : World → Prop) : List (Nat × Bool) → Act → World → Prop
  | [], a, w => Q .normal a w
  | (i, true) :: p, a, w => ∃ o v, ops[i]? = some o ∧ (∀ c a w, Q (.panic c) (a.put o.dst v) w → Q (.panic c) a w) ∧ YieldsIf P ops S o v a ∧ SeqP P ops Q S p (a.put o.dst v) w
  | (i, false) :: p, a, w => wpOp P ops Q i (fun a' w' => S w' ∧ (S w' → SeqP P ops Q S p a' w')) a w
/-- What the order hangs on: number, kind, what it comes behind, what it writes, what it reads. -/
structure Info where
  i : Nat
  t : Bool
  deps : List Nat
  dst : Option Nat
  looks : List Nat
def infoOf (ops : Array Oper) (x : Nat × Bool) : Info :=
  match ops[x.1]? with
  | none => ⟨x.1, x.2, [], none, []⟩
  | some o => ⟨x.1, x.2, (o.after.toList.filter (Region.binds .any)).map (fun e => e.on), o.dst, Oper.looksAt ops o⟩
def apartB (x y : Info) : Bool :=
  (match x.dst with | some d => !y.looks.contains d && y.dst != some d | none => true) && (match y.dst with | some d => !x.looks.contains d | none => true)
def chkTake : List Info → Bool
  | [] => true
  | x :: r => (!x.t || r.all (fun y => y.deps.contains x.i || apartB x y)) && chkTake r
def chkOrder : List Nat → List Info → Bool
  | _, [] => true
  | d, x :: r => !d.contains x.i && x.deps.all (fun k => d.contains k) && chkOrder (x.i :: d) r
def chkCall : Option (List Nat) → List Info → Bool
  | _, [] => true
  | none, x :: r => chkCall (if x.t then none else some [x.i]) r
  | some W, x :: r => x.deps.any (fun k => W.contains k) && chkCall (if x.t then some (x.i :: W) else some [x.i]) r
def chkAll (ops : Array Oper) (p : List (Nat × Bool)) : Bool :=
  let l := p.map (infoOf ops)
  chkTake l && chkOrder [] l && chkCall none l && (List.range ops.size).all (fun k => (p.map (fun x => x.1)).contains k) && p.all (fun x => decide (x.1 < ops.size)) && Region.noSelect ops
/-- The operations behind a call each come behind something from that call on. -/
theorem chkCall_spec : ∀ (l : List Info) (W : List Nat), chkCall (some W) l = true → ∀ x ∈ l, ∃ k ∈ x.deps, k ∈ W ∨ ∃ y ∈ l, y.i = k
  | [], W, h, x, hx => by cases hx
  | y :: r, W, h, x, hx => by
    simp only [chkCall, Bool.and_eq_true] at h
    obtain ⟨h1, h2⟩ := h
    rcases List.mem_cons.1 hx with rfl | hx
    · obtain ⟨k, hk, hc⟩ := List.any_eq_true.1 h1
      exact ⟨k, hk, .inl (by simpa using hc)⟩
    · have h3 : ∃ W', chkCall (some W') r = true ∧ ∀ k ∈ W', k ∈ W ∨ k = y.i := by
        cases ht : y.t with
        | true => rw [ht] at h2; exact ⟨y.i :: W, h2, fun k hk => by rcases List.mem_cons.1 hk with rfl | hk; exact .inr rfl; exact .inl hk⟩
        | false => rw [ht] at h2; exact ⟨[y.i], h2, fun k hk => .inr (by simpa using hk)⟩
      obtain ⟨W', hW, hsub⟩ := h3
      obtain ⟨k, hk, hc⟩ := chkCall_spec r W' hW x hx
      refine ⟨k, hk, ?_⟩
      rcases hc with hc | ⟨z, hz, he⟩
      · rcases hsub k hc with h | h
        · exact .inl h
        · exact .inr ⟨y, List.mem_cons_self .., h.symm⟩
      · exact .inr ⟨z, List.mem_cons_of_mem _ hz, he⟩
theorem infoOf_some {ops : Array Oper} {x : Nat × Bool} {o : Oper} (h : ops[x.1]? = some o) : infoOf ops x = ⟨x.1, x.2, (o.after.toList.filter (Region.binds .any)).map (fun e => e.on), o.dst, Oper.looksAt ops o⟩ := by
  unfold infoOf; rw [h]
theorem infoOf_i (ops : Array Oper) (x : Nat × Bool) : (infoOf ops x).i = x.1 := by unfold infoOf; split <;> rfl
theorem infoOf_t (ops : Array Oper) (x : Nat × Bool) : (infoOf ops x).t = x.2 := by unfold infoOf; split <;> rfl
theorem dep_mem {ops : Array Oper} {x : Nat × Bool} {o : Oper} (h : ops[x.1]? = some o) {k : Nat} : k ∈ (infoOf ops x).deps ↔ ∃ e ∈ o.after, Region.binds .any e = true ∧ e.on = k := by
  rw [infoOf_some h]
  simp only [List.mem_map, List.mem_filter, Array.mem_toList_iff]
  constructor
  · rintro ⟨e, ⟨h1, h2⟩, h3⟩; exact ⟨e, h1, h2, h3⟩
  · rintro ⟨e, h1, h2, h3⟩; exact ⟨e, ⟨h1, h2⟩, h3⟩
theorem apartB_spec {ops : Array Oper} {x y : Nat × Bool} {o o' : Oper} (hx : ops[x.1]? = some o) (hy : ops[y.1]? = some o') (h : apartB (infoOf ops x) (infoOf ops y) = true) : Oper.apart ops o o' = true := by
  rw [infoOf_some hx, infoOf_some hy] at h
  exact h
/-- The region's own walk, from any point of the list on. -/
theorem seq_held {P : Program} {ops : Array Oper} {Q : Exit → Act → World → Prop} {S : World → Prop} (hns : Region.noSelect ops = true) :
    ∀ (p : List (Nat × Bool)) (d : List Nat) (c : Option (List Nat)) (L : Array Bool) (a : Act) (w : World),
      chkTake (p.map (infoOf ops)) = true → chkOrder d (p.map (infoOf ops)) = true → chkCall c (p.map (infoOf ops)) = true →
      (∀ k, k < ops.size → k ∈ d ∨ ∃ x ∈ p, x.1 = k) → (∀ x ∈ p, x.1 < ops.size) →
      (∀ k ∈ d, k < ops.size) → L.size = ops.size → (∀ k, k < ops.size → (L.getD k false = true ↔ k ∈ d)) → S w → SeqP P ops Q S p a w → wpAnyH P .any ops Q S p.length L a w
  | [], d, c, L, a, w, _, _, _, hall, _, _, hs, hL, hS, h => by
    refine ⟨?_, h⟩
    rw [List.eq_nil_iff_forall_not_mem]
    intro j hj
    obtain ⟨h1, o, ho, _⟩ := mem_ready.1 hj
    have hjn : j < ops.size := (Array.getElem?_eq_some_iff.1 ho).1
    have h2 : j ∈ d := by
      rcases hall j hjn with h | ⟨x, hx, _⟩
      · exact h
      · cases hx
    have h3 := (hL j hjn).2 h2
    have hl : j < L.size := by omega
    simp [Array.getD, hl] at h1 h3
    rw [h1] at h3; cases h3
  | (i, b) :: p, d, c, L, a, w, ht, ho, hc, hall, hlt, hdl, hs, hL, hS, h => by
    have hi : i < ops.size := hlt (i, b) (List.mem_cons_self ..)
    obtain ⟨oi, hoi⟩ : ∃ o, ops[i]? = some o := ⟨ops[i], Array.getElem?_eq_getElem hi⟩
    simp only [List.map_cons, chkTake, chkOrder, Bool.and_eq_true, infoOf_i, infoOf_t] at ht ho
    obtain ⟨ht1, ht2⟩ := ht
    obtain ⟨⟨ho0, ho1⟩, ho2⟩ := ho
    have hid : i ∉ d := by simpa using ho0
    have hbit : ∀ k, k < ops.size → ((L.setIfInBounds i true).getD k false = true ↔ k ∈ i :: d) := by
      intro k hk
      rw [bit_set (by omega)]
      by_cases e : k = i
      · rw [if_pos e]; simp [e]
      · rw [if_neg e, hL k hk]; simp [e]
    have hunl : ∀ k, k < ops.size → (L.getD k true = false ↔ k ∉ d) := by
      intro k hk
      have := hL k hk
      have hl : k < L.size := by omega
      simp only [Array.getD, hl, dite_true] at this ⊢
      rw [← this, Bool.not_eq_true]
    have hready : i ∈ Region.ready .any ops L := by
      refine mem_ready.2 ⟨(hunl i hi).2 hid, oi, hoi, fun e he hb => ?_⟩
      have hk : e.on ∈ (infoOf ops (i, b)).deps := (dep_mem (x := (i, b)) hoi).2 ⟨e, he, hb, rfl⟩
      have hd : e.on ∈ d := by have := List.all_eq_true.1 ho1 _ hk; simpa using this
      exact (hL _ (hdl _ hd)).2 hd
    have hcall : ∃ c', chkCall c' (p.map (infoOf ops)) = true ∧ (b = false → ∃ W, c' = some W ∧ W = [i]) := by
      cases c with
      | none =>
        simp only [List.map_cons, chkCall, infoOf_i, infoOf_t] at hc
        cases b with
        | true => exact ⟨_, hc, fun e => by cases e⟩
        | false => exact ⟨_, hc, fun _ => ⟨[i], rfl, rfl⟩⟩
      | some W =>
        simp only [List.map_cons, chkCall, infoOf_i, infoOf_t, Bool.and_eq_true] at hc
        cases b with
        | true => exact ⟨_, hc.2, fun e => by cases e⟩
        | false => exact ⟨_, hc.2, fun _ => ⟨[i], rfl, rfl⟩⟩
    obtain ⟨c', hc', hcW⟩ := hcall
    have hall' : ∀ k, k < ops.size → k ∈ i :: d ∨ ∃ x ∈ p, x.1 = k := by
      intro k hk
      rcases hall k hk with h | ⟨x, hx, e⟩
      · exact .inl (List.mem_cons_of_mem _ h)
      · rcases List.mem_cons.1 hx with rfl | hx
        · exact .inl (by rw [← e]; exact List.mem_cons_self ..)
        · exact .inr ⟨x, hx, e⟩
    have hlt' : ∀ x ∈ p, x.1 < ops.size := fun x hx => hlt x (List.mem_cons_of_mem _ hx)
    have IH := fun a' w' (hS' : S w') (h' : SeqP P ops Q S p a' w') => seq_held hns p (i :: d) c' (L.setIfInBounds i true) a' w' ht2 ho2 hc' hall' hlt' (fun k hk => by rcases List.mem_cons.1 hk with rfl | hk; exact hi; exact hdl k hk) (by simpa using hs) hbit hS' h'
    cases b with
    | true =>
      obtain ⟨o, v, ho', hQ, hy, hrest⟩ := h
      rw [hoi] at ho'; cases ho'
      refine wpAnyH_first hoi ?_ hQ _ _ _ _ ?_ hready hy hS (IH _ _ hS hrest)
      · intro j o cs bl hj e
        have := Array.all_eq_true_iff_forall_mem.1 hns o (Array.mem_of_getElem? hj)
        rw [e] at this; cases this
      · intro j oj hj hne hu hno
        have hjn : j < ops.size := (Array.getElem?_eq_some_iff.1 hj).1
        have hjd : j ∉ d := (hunl j hjn).1 hu
        rcases hall j hjn with h | ⟨x, hx, e⟩
        · exact absurd h hjd
        · rcases List.mem_cons.1 hx with rfl | hx
          · exact absurd e.symm hne
          · subst e
            simp only [Bool.not_true, Bool.false_or] at ht1
            have h1 := List.all_eq_true.1 ht1 _ (List.mem_map_of_mem (f := infoOf ops) hx)
            rcases Bool.or_eq_true_iff.1 h1 with h2 | h2
            · exfalso
              have h3 : i ∈ (infoOf ops x).deps := by simpa using h2
              obtain ⟨e, he, hb, hon⟩ := (dep_mem hj).1 h3
              exact hno e he hb hon
            · exact apartB_spec (x := (i, true)) hoi hj h2
    | false =>
      refine ⟨fun e => (by rw [e] at hready; exact (nomatch hready)), fun j hj => ?_⟩
      have hji : j = i := by
        obtain ⟨h1, oj, hoj, hdep⟩ := mem_ready.1 hj
        have hjn : j < ops.size := (Array.getElem?_eq_some_iff.1 hoj).1
        have hjd : j ∉ d := (hunl j hjn).1 h1
        rcases hall j hjn with h | ⟨x, hx, e⟩
        · exact absurd h hjd
        · rcases List.mem_cons.1 hx with rfl | hx
          · exact e.symm
          · exfalso
            subst e
            obtain ⟨W, rfl, rfl⟩ := hcW rfl
            obtain ⟨k, hk, hW⟩ := chkCall_spec _ _ hc' _ (List.mem_map_of_mem (f := infoOf ops) hx)
            obtain ⟨e, he, hb, hon⟩ := (dep_mem hoj).1 hk
            have hlk := hdep e he hb
            rw [hon] at hlk
            have hkn : k < ops.size := by
              rcases hW with hW | ⟨y, hy, ey⟩
              · simp at hW; omega
              · obtain ⟨z, hz, rfl⟩ := List.mem_map.1 hy
                rw [infoOf_i] at ey; rw [← ey]; exact hlt' z hz
            have hkd := (hL k hkn).1 hlk
            have hnot : ∀ (q : List (Nat × Bool)) (d' : List Nat), chkOrder d' (q.map (infoOf ops)) = true → ∀ z ∈ q, z.1 ∉ d' := by
              intro q
              induction q with
              | nil => intro d' _ z hz; cases hz
              | cons y r ih =>
                intro d' h z hz
                simp only [List.map_cons, chkOrder, Bool.and_eq_true, infoOf_i] at h
                rcases List.mem_cons.1 hz with rfl | hz
                · simpa using h.1.1
                · exact fun hm => ih _ h.2 z hz (List.mem_cons_of_mem _ hm)
            rcases hW with hW | ⟨y, hy, ey⟩
            · simp at hW; subst hW; exact hid hkd
            · obtain ⟨z, hz, rfl⟩ := List.mem_map.1 hy
              rw [infoOf_i] at ey; subst ey
              exact hnot p (i :: d) ho2 z hz (List.mem_cons_of_mem _ hkd)
      subst hji
      exact wpOp_mono (fun a' w' h' => ⟨h'.1, IH a' w' h'.1 (h'.2 h'.1)⟩) h
theorem wp_region_seq {P : Program} {ops : Array Oper} {Q : Exit → Act → World → Prop} {id : Nat} {a : Act} {w : World} (S : World → Prop) (p : List (Nat × Bool)) (hm : P.follows .mixedOrders = true)
    (hc : chkAll ops p = true) (hn : p.length = ops.size) (hS : S w.drew) (h : S w.drew → SeqP P ops Q S p a w.drew) : (Code.region id ops true).wp P Q a w := by
  refine wp_region_held_drew (S := S) hm hS (fun hS => ?_)
  unfold chkAll at hc
  simp only [Bool.and_eq_true] at hc
  obtain ⟨⟨⟨⟨⟨h1, h2⟩, h3⟩, h4⟩, h5⟩, h6⟩ := hc
  have := seq_held (P := P) (Q := Q) (S := S) h6 p [] none (Array.replicate ops.size false) a w.drew h1 h2 h3 ?_ ?_ (fun k hk => nomatch hk) (by simp) ?_ hS (h hS)
  · rw [hn] at this; exact this
  · intro k hk
    have := List.all_eq_true.1 h4 k (List.mem_range.2 hk)
    right
    simp only [List.contains_iff_mem, List.mem_map] at this
    obtain ⟨x, hx, e⟩ := this
    exact ⟨x, hx, e⟩
  · intro x hx
    simpa using List.all_eq_true.1 h5 x hx
  · intro k hk
    simp [Array.getD, hk]
section
variable {P : Program} {ops : Array Oper} {Q : Exit → Act → World → Prop} {S : World → Prop} {p : List (Nat × Bool)} {a : Act} {w : World} {i : Nat} {o : Oper}
theorem SeqP.take {v : Value} (ho : ops.toList[i]? = some o) (hQ : ∀ c a w, Q (.panic c) (a.put o.dst v) w → Q (.panic c) a w) (hy : YieldsIf P ops S o v a) (h : SeqP P ops Q S p (a.put o.dst v) w) : SeqP P ops Q S ((i, true) :: p) a w :=
  ⟨o, v, by rw [← Array.getElem?_toList]; exact ho, hQ, hy, h⟩
theorem SeqP.call (ho : ops.toList[i]? = some o) (hw : Region.wanted o (yielded ops a.tmps) = true) (h : ∀ K : Act → World → Prop, Shut (∀ a w, S w → (S w → SeqP P ops Q S p a w) → K a w) → Oper.wp P o a w K Q) : SeqP P ops Q S ((i, false) :: p) a w := by
  show wpOp P ops Q i _ a w
  unfold wpOp
  rw [show ops[i]? = some o by rw [← Array.getElem?_toList]; exact ho]
  simp only [hw, if_true]
  exact .inl (h _ (fun a w hS h => ⟨hS, h⟩))
theorem SeqP.done (h : Q .normal a w) : SeqP P ops Q S [] a w := h
end
end Go.Proofs.YtacjfpibilolnaaGreatDoor
