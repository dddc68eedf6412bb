/- A region that draws its order: by an invariant on what has come up. -/
import Derived.Test.YtacjfpibilolnaaGreatDoorSC02
import Derived.OrdersIn
set_option maxRecDepth 100000
set_option maxHeartbeats 4000000
set_option linter.unusedVariables false
set_option linter.unusedSimpArgs false
namespace Go.Proofs.YtacjfpibilolnaaGreatDoor
open Go.RowKit

theorem count_set {L : List Bool} {i : Nat} (h : L[i]? = some false) : (L.set i true).count false + 1 = L.count false := by
  induction L generalizing i with
  | nil => simp at h
  | cons x L ih =>
    cases i with
    | zero =>
      simp only [List.getElem?_cons_zero, Option.some.injEq] at h
      subst h
      simp [List.count_cons]
    | succ i =>
      have := ih (i := i) (by simpa using h)
      simp only [List.set_cons_succ, List.count_cons]
      omega

/-- Whatever comes up next keeps the invariant; when all has come up, it gives what is asked. -/
theorem wpAnyIn_inv {F : Fence} {n : Nat} {P : Program} {ops : Array Oper} {Q : Exit → Act → World → Prop} {md : Region.Mode} (Inv : Array Bool → Act → World → Prop)
    (hdone : ∀ L a w, Inv L a w → Region.ready md ops L = [] → Q .normal a w)
    (hstep : ∀ L a w i, Inv L a w → i < ops.size → L.getD i true = false → (∀ o, ops[i]? = some o → ∀ e ∈ o.after, Region.binds md e = true → L.getD e.on false = true) →
      wpOpIn F n P ops Q i (fun a' w' => Inv (L.setIfInBounds i true) a' w') a w) :
    ∀ fuel L a w, Inv L a w → L.size = ops.size → L.toList.count false ≤ fuel → wpAnyIn F n P md ops Q fuel L a w := by
  intro fuel
  induction fuel with
  | zero =>
    intro L a w hI hs hc
    have hr : Region.ready md ops L = [] := by
      rw [List.eq_nil_iff_forall_not_mem]
      intro i hi
      obtain ⟨h0, o, ho, _⟩ := mem_ready.1 hi
      have hlt : i < L.size := by rw [hs]; exact (Array.getElem?_eq_some_iff.1 ho).1
      have h1 : L.toList.count false = 0 := by omega
      rw [List.count_eq_zero] at h1
      refine h1 ?_
      have h2 : L[i] = false := by simpa [Array.getD, hlt] using h0
      exact h2 ▸ Array.getElem_mem_toList hlt
    exact ⟨hr, hdone L a w hI hr⟩
  | succ fuel ih =>
    intro L a w hI hs hc
    refine ⟨fun hr => hdone L a w hI hr, fun i hi => ?_⟩
    obtain ⟨h0, o, ho, hd⟩ := mem_ready.1 hi
    have hlt : i < ops.size := (Array.getElem?_eq_some_iff.1 ho).1
    refine wpOpIn_mono (fun a' w' hI' => ih _ a' w' hI' (by simpa using hs) ?_) (hstep L a w i hI hlt h0 (fun o' ho' e he hb => by
      rw [ho] at ho'; cases ho'; exact hd e he hb))
    have hl : i < L.size := by omega
    have h2 : L[i] = false := by simpa [Array.getD, hl] using h0
    have h3 := count_set (L := L.toList) (i := i) (by rw [Array.getElem?_toList, Array.getElem?_eq_getElem hl, h2])
    rw [Array.toList_setIfInBounds]
    omega

def edgesDown (ops : Array Oper) : Bool := ops.toList.zipIdx.all fun (o, i) => o.after.all fun e => !Region.binds .any e || decide (e.on < i)
theorem edgesDown_spec {ops : Array Oper} (h : edgesDown ops = true) {i : Nat} {o : Oper} (ho : ops[i]? = some o) {e : Edge} (he : e ∈ o.after) (hb : Region.binds .any e = true) : e.on < i := by
  unfold edgesDown at h
  rw [List.all_eq_true] at h
  have hm : (o, i) ∈ ops.toList.zipIdx := by
    rw [List.mem_zipIdx_iff_getElem?]; simpa using ho
  have := h _ hm
  simp only [Array.all_eq_true_iff_forall_mem, Bool.or_eq_true, Bool.not_eq_true', decide_eq_true_eq] at this
  exact (this e he).resolve_left (by simp [hb])
theorem ready_nil {ops : Array Oper} (hd : edgesDown ops = true) {L : Array Bool} (hs : L.size = ops.size) (h : Region.ready .any ops L = []) : ∀ i, i < ops.size → L.getD i false = true := by
  intro i
  induction i using Nat.strongRecOn with
  | _ i ih =>
    intro hi
    cases hb : L.getD i false with
    | true => rfl
    | false =>
      exfalso
      have : i ∈ Region.ready .any ops L := mem_ready.2 ⟨by
        have hl : i < L.size := by omega
        simp only [Array.getD, hl, dite_true] at hb ⊢; exact hb, ops[i], Array.getElem?_eq_getElem hi, fun e he hbe => by
          have hlt := edgesDown_spec hd (Array.getElem?_eq_getElem hi) he hbe
          exact ih e.on hlt (by omega)⟩
      rw [h] at this
      simp at this
theorem bit_set {L : Array Bool} {i : Nat} (hi : i < L.size) (k : Nat) : (L.setIfInBounds i true).getD k false = if k = i then true else L.getD k false := by
  by_cases h : k = i
  · subst h; simp [Array.getD, hi]
  · rw [if_neg h, getD_set_ne false (fun e => h e.symm)]

/-- A region that draws, by an invariant on which operations have come up ('D k': number k has). -/
theorem wpIn_region_inv {F : Fence} {n : Nat} {P : Program} {ops : Array Oper} {Q : Exit → Act → World → Prop} {id : Nat} {a : Act} {w : World} (Inv : (Nat → Bool) → Act → World → Prop) (hm : P.follows .mixedOrders = true)
    (hd : edgesDown ops = true)
    (h0 : Inv (fun _ => false) a w.drew)
    (hdone : ∀ D a w, Inv D a w → (∀ i, i < ops.size → D i = true) → Q .normal a w)
    (hstep : ∀ D a w i, Inv D a w → i < ops.size → D i = false → (∀ o, ops[i]? = some o → ∀ e ∈ o.after, Region.binds .any e = true → D e.on = true) →
      wpOpIn F n P ops Q i (fun a' w' => Inv (fun k => if k = i then true else D k) a' w') a w) :
    (Code.region id ops true).wpIn F n P Q a w := by
  refine wpIn_region_any hm (wpAnyIn_inv (fun L a w => L.size = ops.size ∧ Inv (fun k => L.getD k false) a w) ?_ ?_ _ _ _ _ ⟨by simp, ?_⟩ (by simp) (by simp))
  · rintro L a w ⟨hs, hI⟩ hr
    exact hdone _ a w hI (ready_nil hd hs hr)
  · rintro L a w i ⟨hs, hI⟩ hi hL he
    have hl : i < L.size := by omega
    refine wpOpIn_mono (fun a' w' h' => ⟨by simpa using hs, ?_⟩) (hstep (fun k => L.getD k false) a w i hI hi (by simp only [Array.getD, hl, dite_true] at hL ⊢; exact hL) he)
    have : (fun k => (L.setIfInBounds i true).getD k false) = (fun k => if k = i then true else L.getD k false) := funext (bit_set hl)
    rw [this]
    exact h'
  · have : (fun k => (Array.replicate ops.size false).getD k false) = (fun _ : Nat => false) := by
      funext k
      by_cases hk : k < ops.size <;> simp [Array.getD, hk]
    rw [this]
    exact h0
end Go.Proofs.YtacjfpibilolnaaGreatDoor
