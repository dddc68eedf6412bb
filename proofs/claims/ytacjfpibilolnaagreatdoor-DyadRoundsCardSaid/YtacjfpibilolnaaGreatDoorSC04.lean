/- The layer of naturals: the limbs that a step makes of two naturals. -/
import Derived.Test.YtacjfpibilolnaaGreatDoorSC02
import Derived.Test.YtacjfpibilolnaaGreatDoorSC03
import Derived.RangeFuncNested
import Derived.Laws.EntriesVeiled
set_option maxRecDepth 100000
set_option maxHeartbeats 4000000
set_option linter.unusedVariables false
set_option linter.unusedSimpArgs false
namespace Go.Proofs.YtacjfpibilolnaaGreatDoor
open Go.RowKit Go.Shelf

attribute [local go_sem] Oper.semAt_some

def runS (st : Nat → Nat → Nat → Nat × Nat) (a b : List Nat) (pre : List Nat) : List Nat × Nat :=
  pre.foldl (fun s i => (s.1 ++ [(st (gl a i) (gl b i) s.2).1], (st (gl a i) (gl b i) s.2).2)) ([], 0)
theorem runS_snoc (st a b pre i) : runS st a b (pre ++ [i]) = ((runS st a b pre).1 ++ [(st (gl a i) (gl b i) (runS st a b pre).2).1], (st (gl a i) (gl b i) (runS st a b pre).2).2) := by
  simp [runS]
theorem snoc_ind {P : List Nat → Prop} (h0 : P []) (h1 : ∀ l x, P l → P (l ++ [x])) : ∀ l, P l := fun l => by
  rw [← List.reverse_reverse l]
  induction l.reverse with
  | nil => exact h0
  | cons x l ih => rw [List.reverse_cons]; exact h1 _ _ ih
theorem runS_len (st a b pre) : (runS st a b pre).1.length = pre.length := by
  induction pre using snoc_ind with
  | h0 => rfl
  | h1 pre i ih => rw [runS_snoc]; simp [ih]
theorem runS_ok {fs st} (hs : StepC fs st) {a b : List Nat} (ha : Lim a) (hb : Lim b) (pre) : Lim (runS st a b pre).1 ∧ (runS st a b pre).2 ≤ 1 := by
  induction pre using snoc_ind with
  | h0 => exact ⟨Lim.nil, Nat.zero_le _⟩
  | h1 pre i ih =>
    have := hs.2.1 _ _ _ (ha.gl i) (hb.gl i) ih.2
    rw [runS_snoc]
    exact ⟨ih.1.append (Lim.cons this.1 Lim.nil), this.2⟩

theorem keepD {D : Nat → Bool} {i k : Nat} {p : Prop} (hne : k ≠ i) (h : D k = true → p) : (if k = i then true else D k) = true → p := by rw [if_neg hne]; exact h

theorem all_c (fs : Nat) (st : Nat → Nat → Nat → Nat × Nat) (hs : StepC fs st) (A : Option Addr) (na ca : Nat) (a : List Nat) (B : Option Addr) (nb cb : Nat) (b : List Nat) (n : Nat) (w : World)
    (hn : n ≤ 1099511627776) (hna : a.length = na) (hnb : b.length = nb) (hla : na ≤ 1099511627776) (hlb : nb ≤ 1099511627776) (hA : Rd w A a) (hB : Rd w B b) (ha : Lim a) (hb : Lim b) :
    Calls Tryz.prog 128 #[.slice A na ca, .slice B nb cb, .int .i64 (n : Int), .func (.func fs) #[] #[]] w (RetN w (val (runS st a b (List.range n)).1)) := by
  refine (callsIn_wide (n := 4)).1 ?_
  obtain ⟨i0, hi', hz0, hz1, hz2⟩ := info_parts info_u32
  have hmk := mk32 0 n (by omega) (by omega) (by omega)
  simp only [Int.toNat_zero, Int.toNat_natCast] at hmk
  refine callsIn_of_wp_marks Tryz.func128 rfl trivial ?_ rfl
  simp only [Tryz.ntmps128, List.size_toArray, List.length_cons, List.length_nil, Nat.reduceAdd, Nat.reduceSub, Array.replicate_succ, Array.replicate_zero, List.push_toArray, List.append_toArray, List.nil_append, List.cons_append]
  gi_wp2_with (first
    | (refine ⟨trivial, ?_⟩; gi_at_call 139; refine (callsIn_wide.2 (carried_c fs _)).mono ?_; rintro e w' ⟨rfl, rfl⟩)
    | (refine ⟨trivial, ?_⟩; gi_at_call 140; refine (callsIn_wide.2 (pairs_c A na ca B nb cb n _)).mono ?_; rintro e w' ⟨rfl, rfl⟩))
  -- the world as the loop begins
  obtain ⟨s, hs0⟩ : ∃ s, s = w.heap.size := ⟨_, rfl⟩
  obtain ⟨W8, hW8⟩ : ∃ W8, ((((((((w.alloc (.cells #[.func (.func fs) #[] #[]] 119)).alloc (.cells #[.int .u32 0] 58)).alloc (.cells #[.func (.func 154) #[] #[.pointer (some ⟨s, 0, none⟩), .pointer (some ⟨s + 1, 0, none⟩)]] 126)).alloc (.cells (madeCells #[.int .u32 0] n) 58)).alloc (.cells #[.slice (some ⟨s + 3, 0, none⟩) 0 n] 22)).alloc (.cells #[.slice A na ca] 22)).alloc (.cells #[.slice B nb cb] 22)).alloc (.cells #[.int .i64 n] 3)) = W8 := ⟨_, rfl⟩
  have bS : Boxed W8 s 119 (.func (.func fs) #[] #[]) := by
    subst hs0 hW8; unfold Boxed; repeat (first | exact at_new (by simp) | refine at_old (by simp <;> omega) ?_)
  have bC : Boxed W8 (s + 1) 58 (.int .u32 0) := by
    subst hs0 hW8; unfold Boxed; repeat (first | exact at_new (by simp) | refine at_old (by simp <;> omega) ?_)
  have bD : Boxed W8 (s + 2) 126 (.func (.func 154) #[] #[.pointer (some ⟨s, 0, none⟩), .pointer (some ⟨s + 1, 0, none⟩)]) := by
    subst hs0 hW8; unfold Boxed; repeat (first | exact at_new (by simp) | refine at_old (by simp <;> omega) ?_)
  have bO : Boxed W8 (s + 4) 22 (.slice (some ⟨s + 3, 0, none⟩) 0 n) := by
    subst hs0 hW8; unfold Boxed; repeat (first | exact at_new (by simp) | refine at_old (by simp <;> omega) ?_)
  have bA : Boxed W8 (s + 5) 22 (.slice A na ca) := by
    subst hs0 hW8; unfold Boxed; repeat (first | exact at_new (by simp) | refine at_old (by simp <;> omega) ?_)
  have bB : Boxed W8 (s + 6) 22 (.slice B nb cb) := by
    subst hs0 hW8; unfold Boxed; repeat (first | exact at_new (by simp) | refine at_old (by simp <;> omega) ?_)
  have bN : Boxed W8 (s + 7) 3 (.int .i64 n) := by
    subst hs0 hW8; unfold Boxed; repeat (first | exact at_new (by simp) | refine at_old (by simp <;> omega) ?_)
  have hR8 : W8.heap[s + 3]? = some (.cells (madeCells #[.int .u32 0] n) 58 (0, 0)) := by
    subst hs0 hW8; repeat (first | exact at_new (by simp) | refine at_old (by simp <;> omega) ?_)
  have hsz : W8.heap.size = s + 8 := by subst hs0 hW8; simp
  have hB0 : Below s w W8 := by
    subst hs0 hW8
    exact (((((((((Below.refl _ w).alloc (Nat.le_refl _) _).alloc (by simp) _).alloc (by simp; omega) _).alloc (by simp; omega) _).alloc (by simp; omega) _).alloc (by simp; omega) _).alloc (by simp; omega) _).alloc (by simp; omega) _)
  have hown0 : W8.ownsRow s 58 1 (.slice (some ⟨s + 3, 0, none⟩) 0 n) 0 [] :=
    ⟨rfl, .inr ⟨s + 3, n, _, rfl, by omega, hR8, Nat.zero_le _, by simp only [maxLen]; omega, by rw [size_madeCells, Nat.mul_one], by simp⟩⟩
  rw [← hs0]
  simp only [Nat.add_assoc, Nat.reduceAdd]
  rw [hW8]
  clear hW8
  have HS := Lib.hid hs0
  have hlt : ∀ (X : Option Addr) (l : List Nat), Rd w X l → ∀ ad i, X = some ad → i < l.length → (ad.add i).block < s := fun X l hX ad i e hi => by
    subst e
    obtain ⟨ad', e', hc⟩ := hX.get i hi
    cases e'
    rw [hs0]; exact World.block_lt_of_cell? w _ hc
  clear hs0
  refine wpIn_rangeFunc_ownF (Kp := KeepC (fun k => k < s ∨ s + 5 ≤ k ∧ k < s + 8)) (w0 := W8) rfl (by omega) (gf := 155) (lb := #[.pointer (some ⟨s + 7, 0, none⟩), .pointer (some ⟨s + 5, 0, none⟩), .pointer (some ⟨s + 6, 0, none⟩)]) rfl trivial (enters_of Tryz.func155 (by kernel_rfl) rfl)
    (pairs_stops (s + 5) (s + 6) (s + 7) _ A na ca a B nb cb b n W8 hn hna hnb hla hlb (.inr (by omega)) (.inr (by omega)) (fun ad i e hi => .inl (hlt A a hA ad i e hi)) (fun ad i e hi => .inl (hlt B b hB ad i e hi)) bA.cell bB.cell bN.cell (hA.below (HS.out ▸ hB0)) (hB.below (HS.out ▸ hB0)))
    KeepC.t KeepC.b (Below.refl _ _) (fun _ => rfl)
    (fun pre W => (Boxed W (s + 4) 22 (.slice (some ⟨s + 3, 0, none⟩) pre.length n) ∧ W.ownsRow s 58 1 (.slice (some ⟨s + 3, 0, none⟩) pre.length n) pre.length (vals (runS st a b pre).1)) ∧ Boxed W (s + 1) 58 (.int .u32 ((runS st a b pre).2 : Nat)) ∧
      Boxed W (s + 2) 126 (.func (.func 154) #[] #[.pointer (some ⟨s, 0, none⟩), .pointer (some ⟨s + 1, 0, none⟩)]) ∧ Boxed W s 119 (.func (.func fs) #[] #[]) ∧ Below s w W)
    (fun _ _ _ => False) ?own (fun _ _ _ _ _ hs _ _ => hs) ?start
    (fun x => { tmps := #[.slice A na ca, .slice B nb cb, .int .i64 n, .func (.func fs) #[] #[], undef, undef, undef, undef, .slice none 0 0, .pointer (some ⟨s + 2, 0, none⟩), .pointer (some ⟨s + 4, 0, none⟩), .int .u32 (gl a x : Nat), .int .u32 (gl b x : Nat),
      .func (.func fs) #[] #[], .func (.func 154) #[] #[.pointer (some ⟨s, 0, none⟩), .pointer (some ⟨s + 1, 0, none⟩)], .int .i64 n, .slice (some ⟨s + 3, 0, none⟩) 0 n, .slice A na ca, .slice B nb cb, .int .i64 n,
      .func (.func 155) #[] #[.pointer (some ⟨s + 7, 0, none⟩), .pointer (some ⟨s + 5, 0, none⟩), .pointer (some ⟨s + 6, 0, none⟩)], .int .u32 (gl a x : Nat), .int .u32 (gl b x : Nat), undef, undef, undef, undef, undef, undef, undef, undef, undef], defers := [] }) ?assign ?body ?done ?stop
  case own =>
    refine OwnFrom.and (Own.from ?_ _) (OwnFrom.and (Own.from (boxed_own _ _ _) _) (OwnFrom.and (Own.from (boxed_own _ _ _) _) (OwnFrom.and (Own.from (boxed_own _ _ _) _) (ownFrom_below (Nat.le_of_eq HS.out) (by omega)))))
    intro pre Y Z row h hg hr
    obtain ⟨h1, h2⟩ := h
    refine ⟨boxed_own _ _ (fun _ : Unit => _) () Y Z row h1 hg hr, h2.kept hg (.inr (fun e => ?_))⟩
    obtain ⟨o, ho, hc⟩ := hr (s + 3) e.symm
    rcases h2.2 with ⟨h, _⟩ | ⟨g, cap, cur, h, _, hgb, _⟩
    · cases h
    · cases h; rw [hgb] at ho; cases ho; cases hc
  case start => exact ⟨⟨bO, hown0⟩, bC, bD, bS, hB0⟩
  case assign =>
    intro l x W K hK
    gi_wp2
    exact hK
  case stop =>
    rintro D c pre W _ _ h _
    exact h.elim
  case done =>
    rintro D ys W hD rfl ⟨⟨hv, hrow⟩, _, _, _, hB⟩ hK
    rw [List.length_range] at hrow hv
    obtain ⟨X, cx, hXe, hcx, hcm, hrd⟩ := ownV_rd hrow
    cases hXe
    have hc := hv.cell
    have hmake := make_c (some ⟨s + 3, 0, none⟩) n n (runS st a b (List.range n)).1 W (by rw [runS_len, List.length_range]) hrd (runS_ok hs ha hb _).1 hn hcx
    have HM := Lib.hid hmake
    clear hmake hrow hrd hv
    gi_wp2_with (refine ⟨trivial, ?_⟩; gi_at_call 109; (with_reducible refine (callsIn_wide.2 (Hid.out HM)).mono ?_); rintro e w1 ⟨Y, cy, rfl, hY, hbY⟩)
    have hDlt : D < W.heap.size := (Array.getElem?_eq_some_iff.1 hK).1
    have hK1 := (hbY.block D hDlt).trans hK
    refine ⟨by simp, .inl ⟨_, _, rfl, run_takeDeferred hK1, ?_⟩⟩
    have hDs : s ≤ D := by omega
    have hWs : s ≤ W.heap.size := by omega
    have hp : Below s w (w1.putObj D (.deferred none)) := (hB.trans (hbY.mono hWs)).trans (belowK_b (w := W8) (by omega) w1 D _ _ hD hK1 rfl rfl)
    have hp2 : Below w.heap.size w (w1.putObj D (.deferred none)) := hp.mono (Nat.le_of_eq HS.out.symm)
    refine ⟨_, results_tmp rfl _ _ _, ?_⟩
    refine ⟨Y, cy, rfl, ⟨?_, hY.cap, hY.cmax⟩, hp2⟩
    rcases hY.rd with h | ⟨ad, rfl, h⟩
    · exact .inl h
    · exact .inr ⟨ad, rfl, fun i u hu => cell_kept (h i u hu) (grownBy_putObj' w1 D _) (fun r e => by cases e; exact ⟨_, hK1, rfl⟩)⟩
  case body =>
    rintro l pre x W ⟨⟨hv, hrow⟩, hC, hDo, hS, hB⟩ hlen
    have hx := ha.gl x
    have hy := hb.gl x
    have hc := (runS_ok hs ha hb pre).2
    have hcall := carried1_c fs st hs (gl a x) (gl b x) (runS st a b pre).2 s (s + 1) W.drew hx hy hc hS hC
    have hst := hs.2.1 _ _ _ hx hy hc
    generalize hr : (st (gl a x) (gl b x) (runS st a b pre).2).1 = r at *
    generalize hc' : (st (gl a x) (gl b x) (runS st a b pre).2).2 = c' at *
    have hrun := runS_snoc st a b pre x
    rw [hr, hc'] at hrun
    have HR := Lib.hid hrun
    have HC := Lib.hid hcall
    clear hr hc' hrun hcall hmk
    obtain ⟨W1, hW1⟩ : ∃ W1, W.drew.setCell ⟨s + 1, 0, none⟩ (.int .u32 (c' : Nat)) = W1 := ⟨_, rfl⟩
    rw [hW1] at HC
    have hlt4 := hv.lt
    have hzw : W1.heap.size = W.heap.size := by rw [← hW1]; exact World.size_setCell _ _ _
    have hB1 : Boxed W1 (s + 4) 22 (.slice (some ⟨s + 3, 0, none⟩) pre.length n) := by rw [← hW1]; exact Boxed.other (W := W.drew) hv (by omega) _
    have hCne : (Value.slice (some ⟨s + 3, 0, none⟩) pre.length n).ownBlock = none ∨ (Value.slice (some ⟨s + 3, 0, none⟩) pre.length n).ownBlock ≠ some (s + 1) := .inr (by simp [Value.ownBlock])
    have hrow1 : W1.ownsRow s 58 1 (.slice (some ⟨s + 3, 0, none⟩) pre.length n) pre.length (vals (runS st a b pre).1) := by
      rw [← hW1]
      exact World.ownsRow.kept (w := W.drew) hrow (grownBy_setCell' W.drew (s + 1) _) (hCne)
    gi_wp2_with (fail)
    refine wpIn_region_inv (fun D a' w' => ∃ u23 u24 u25 u26 u27 u28 u29 : Value,
      a' = { tmps := #[.slice A na ca, .slice B nb cb, .int .i64 n, .func (.func fs) #[] #[], undef, undef, undef, undef, .slice none 0 0, .pointer (some ⟨s + 2, 0, none⟩), .pointer (some ⟨s + 4, 0, none⟩), .int .u32 (gl a x : Nat), .int .u32 (gl b x : Nat),
        .func (.func fs) #[] #[], .func (.func 154) #[] #[.pointer (some ⟨s, 0, none⟩), .pointer (some ⟨s + 1, 0, none⟩)], .int .i64 n, .slice (some ⟨s + 3, 0, none⟩) 0 n, .slice A na ca, .slice B nb cb, .int .i64 n,
        .func (.func 155) #[] #[.pointer (some ⟨s + 7, 0, none⟩), .pointer (some ⟨s + 5, 0, none⟩), .pointer (some ⟨s + 6, 0, none⟩)], .int .u32 (gl a x : Nat), .int .u32 (gl b x : Nat), u23, u24, u25, u26, u27, u28, u29, undef, undef], defers := [] } ∧
      (D 0 = true → u23 = .slice (some ⟨s + 3, 0, none⟩) pre.length n) ∧ (D 1 = true → u24 = .func (.func 154) #[] #[.pointer (some ⟨s, 0, none⟩), .pointer (some ⟨s + 1, 0, none⟩)]) ∧ (D 2 = true → u25 = .int .u32 (gl a x : Nat)) ∧ (D 3 = true → u26 = .int .u32 (gl b x : Nat)) ∧
      (D 4 = true → u27 = .int .u32 (r : Nat)) ∧ (D 5 = true → u28 = .slice (some ⟨W1.heap.size, 0, none⟩) 1 1) ∧
      ((D 4 = false ∧ D 5 = false ∧ D 6 = false ∧ D 7 = false ∧ w' = W.drew) ∨ (D 1 = true ∧ D 2 = true ∧ D 3 = true ∧ D 4 = true ∧ D 5 = false ∧ D 6 = false ∧ D 7 = false ∧ w' = W1) ∨
       (D 1 = true ∧ D 2 = true ∧ D 3 = true ∧ D 4 = true ∧ D 5 = true ∧ D 6 = false ∧ D 7 = false ∧ w' = W1.alloc (.cells #[.int .u32 (r : Nat)] 58)) ∨
       (D 0 = true ∧ D 1 = true ∧ D 2 = true ∧ D 3 = true ∧ D 4 = true ∧ D 5 = true ∧ D 6 = true ∧ D 7 = false ∧ u29 = .slice (some ⟨s + 3, 0, none⟩) (pre.length + 1) n ∧ w'.ownsRow s 58 1 (.slice (some ⟨s + 3, 0, none⟩) (pre.length + 1) n) (pre.length + 1) (vals ((runS st a b pre).1 ++ [r])) ∧ (W1.alloc (.cells #[.int .u32 (r : Nat)] 58)).grownBy w' (some (s + 3))) ∨
       (D 0 = true ∧ D 1 = true ∧ D 2 = true ∧ D 3 = true ∧ D 4 = true ∧ D 5 = true ∧ D 6 = true ∧ D 7 = true ∧ ∃ w3, w' = w3.setCell ⟨s + 4, 0, none⟩ (.slice (some ⟨s + 3, 0, none⟩) (pre.length + 1) n) ∧ w3.ownsRow s 58 1 (.slice (some ⟨s + 3, 0, none⟩) (pre.length + 1) n) (pre.length + 1) (vals ((runS st a b pre).1 ++ [r])) ∧ (W1.alloc (.cells #[.int .u32 (r : Nat)] 58)).grownBy w3 (some (s + 3)))))
      (by kernel_rfl) (by kernel_rfl) ?init ?fin ?step
    case init => exact ⟨_, _, _, _, _, _, _, rfl, by simp, by simp, by simp, by simp, by simp, by simp, .inl ⟨rfl, rfl, rfl, rfl, rfl⟩⟩
    case fin =>
      rintro D a' w' ⟨u23, u24, u25, u26, u27, u28, u29, rfl, h0, h1, h2, h3, h4, h5, hw⟩ hall
      have d7 := hall 7 (by decide)
      obtain ⟨w3, rfl, hown3, hgrow⟩ : ∃ w3, w' = w3.setCell ⟨s + 4, 0, none⟩ (.slice (some ⟨s + 3, 0, none⟩) (pre.length + 1) n) ∧ w3.ownsRow s 58 1 (.slice (some ⟨s + 3, 0, none⟩) (pre.length + 1) n) (pre.length + 1) (vals ((runS st a b pre).1 ++ [r])) ∧ (W1.alloc (.cells #[.int .u32 (r : Nat)] 58)).grownBy w3 (some (s + 3)) := by
        rcases hw with h | h | h | h | ⟨_, _, _, _, _, _, _, _, h⟩
        · simp [d7] at h
        · simp [d7] at h
        · simp [d7] at h
        · simp [d7] at h
        · exact h
      have hC1 : Boxed W1 (s + 1) 58 (.int .u32 (c' : Nat)) := by rw [← hW1]; exact Boxed.set _ (W := W.drew) hC
      have hD1 : Boxed W1 (s + 2) 126 (.func (.func 154) #[] #[.pointer (some ⟨s, 0, none⟩), .pointer (some ⟨s + 1, 0, none⟩)]) := by rw [← hW1]; exact Boxed.other (W := W.drew) hDo (by omega) _
      have hS1 : Boxed W1 s 119 (.func (.func fs) #[] #[]) := by rw [← hW1]; exact Boxed.other (W := W.drew) hS (by omega) _
      have hK0 := KeepsOthers.setCell W.drew ⟨s + 1, 0, none⟩ (.int .u32 (c' : Nat))
      have hK1 : KeepsOthers W W1 := by rw [← hW1]; exact ⟨hK0.size, fun k o hk ho => hK0.same k o hk ho⟩
      have hKe1 : KeepC (fun k => k < s ∨ s + 5 ≤ k ∧ k < s + 8) W W1 := by
        rw [← hW1]
        intro p v hp hv
        rw [World.cell?_of_block (w := W) (a := p) (Below.heap_setCell W.drew ⟨s + 1, 0, none⟩ _ p.block (by simp; omega))]
        exact hv
      have hBe1 : Below s w W1 := by rw [← hW1]; exact hB.drew.setCell (p := ⟨s + 1, 0, none⟩) (by simp) _
      have hg : ∀ {B t v}, B ≠ s + 3 → Boxed W1 B t v → Boxed w3 B t v := fun hne h => (h.alloc _).kept hgrow (by simpa using hne)
      have b4 := hg (by omega) hB1
      show KeepsOthers W _ ∧ KeepC _ W _ ∧ _
      refine ⟨?_, ?_, ⟨⟨?_, ?_⟩, ?_, ?_, ?_, ?_⟩⟩
      · refine hK1.trans ((KeepsOthers.alloc _ _).trans ((KeepsOthers.of_grownBy hgrow fun j o ej hj => ?_).trans (KeepsOthers.setCell _ _ _)))
        cases ej
        have := (hrow1.alloc (.cells #[.int .u32 (r : Nat)] 58)).2
        rcases this with ⟨h, _⟩ | ⟨g, cap, cur, h, _, hgb, _⟩
        · cases h
        · cases h; rw [hgb] at hj; cases hj; rfl
      · intro p v hp hv
        have := hKe1 p v hp hv
        have hlt1 := World.block_lt_of_cell? W1 p this
        rw [World.cell?_of_block (w := w3) (a := p) (Below.heap_setCell w3 ⟨s + 4, 0, none⟩ _ p.block (by simp; omega))]
        refine hgrow.cell (a := p) ?_ (by simp; omega)
        exact cell_below ((Below.refl _ _).alloc (Nat.le_refl _) _) this
      · have := b4.set (.slice (some ⟨s + 3, 0, none⟩) (pre.length + 1) n)
        simpa using this
      · have := hown3.kept (grownBy_setCell' w3 (s + 4) (.slice (some ⟨s + 3, 0, none⟩) (pre.length + 1) n)) (.inr (by simp [Value.ownBlock]))
        rw [HR.out]
        simpa using this
      · rw [HR.out]; exact (hg (by omega) hC1).other (by omega) _
      · exact (hg (by omega) hD1).other (by omega) _
      · exact (hg (by omega) hS1).other (by omega) _
      · exact ((hBe1.alloc (by omega) _).grown hgrow (by simp; omega) (fun k e => by cases e; omega)).setCell (p := ⟨s + 4, 0, none⟩) (by simp) _
    case step =>
      rintro D a' w' i ⟨u23, u24, u25, u26, u27, u28, u29, rfl, h0, h1, h2, h3, h4, h5, hw⟩ hi hDi hdep
      obtain rfl | rfl | rfl | rfl | rfl | rfl | rfl | rfl : i = 0 ∨ i = 1 ∨ i = 2 ∨ i = 3 ∨ i = 4 ∨ i = 5 ∨ i = 6 ∨ i = 7 := by
        simp at hi; omega
      · simp only [hDi, Bool.false_eq_true, false_and, or_false] at hw
        have hcell : w'.cell? ⟨s + 4, 0, none⟩ = some (.slice (some ⟨s + 3, 0, none⟩) pre.length n) := by
          rcases hw with h | h | h
          · rw [h.2.2.2.2]; exact hv.cell
          · rw [h.2.2.2.2.2.2.2]; exact hB1.cell
          · rw [h.2.2.2.2.2.2.2]; exact (hB1.alloc _).cell
        refine wpOpIn_step rfl (fun K' hK' => ?_)
        go_simp
        refine hK' _ _ ?_
        refine ⟨_, _, _, _, _, _, _, rfl, fun _ => rfl, (by first | exact keepD (by decide) h1 | exact fun _ => rfl | exact fun _ => by simp [hzw]), (by first | exact keepD (by decide) h2 | exact fun _ => rfl | exact fun _ => by simp [hzw]), (by first | exact keepD (by decide) h3 | exact fun _ => rfl | exact fun _ => by simp [hzw]), (by first | exact keepD (by decide) h4 | exact fun _ => rfl | exact fun _ => by simp [hzw]), (by first | exact keepD (by decide) h5 | exact fun _ => rfl | exact fun _ => by simp [hzw]), ?_⟩
        rcases hw with h | h | h
        · exact .inl (by simpa using h)
        · exact .inr (.inl (by simpa using h))
        · exact .inr (.inr (.inl (by simpa using h)))
      · simp only [hDi, Bool.false_eq_true, false_and, and_false, or_false] at hw
        have hcell : w'.cell? ⟨s + 2, 0, none⟩ = some (.func (.func 154) #[] #[.pointer (some ⟨s, 0, none⟩), .pointer (some ⟨s + 1, 0, none⟩)]) := by
          rw [hw.2.2.2.2]; exact hDo.cell
        obtain ⟨e4, e5, e6, e7, rfl⟩ := hw
        refine wpOpIn_step rfl (fun K' hK' => ?_)
        go_simp
        refine hK' _ _ ?_
        exact ⟨_, _, _, _, _, _, _, rfl, (by first | exact keepD (by decide) h0 | exact fun _ => rfl | exact fun _ => by simp [hzw]), fun _ => rfl, (by first | exact keepD (by decide) h2 | exact fun _ => rfl | exact fun _ => by simp [hzw]), (by first | exact keepD (by decide) h3 | exact fun _ => rfl | exact fun _ => by simp [hzw]), (by first | exact keepD (by decide) h4 | exact fun _ => rfl | exact fun _ => by simp [hzw]), (by first | exact keepD (by decide) h5 | exact fun _ => rfl | exact fun _ => by simp [hzw]), .inl (by simp [e4, e5, e6, e7])⟩
      · simp only [hDi, Bool.false_eq_true, false_and, and_false, or_false] at hw
        obtain ⟨e4, e5, e6, e7, rfl⟩ := hw
        refine wpOpIn_step rfl (fun K' hK' => ?_)
        go_simp
        refine hK' _ _ ?_
        exact ⟨_, _, _, _, _, _, _, rfl, (by first | exact keepD (by decide) h0 | exact fun _ => rfl | exact fun _ => by simp [hzw]), (by first | exact keepD (by decide) h1 | exact fun _ => rfl | exact fun _ => by simp [hzw]), fun _ => rfl, (by first | exact keepD (by decide) h3 | exact fun _ => rfl | exact fun _ => by simp [hzw]), (by first | exact keepD (by decide) h4 | exact fun _ => rfl | exact fun _ => by simp [hzw]), (by first | exact keepD (by decide) h5 | exact fun _ => rfl | exact fun _ => by simp [hzw]), .inl (by simp [e4, e5, e6, e7])⟩
      · simp only [hDi, Bool.false_eq_true, false_and, and_false, or_false] at hw
        obtain ⟨e4, e5, e6, e7, rfl⟩ := hw
        refine wpOpIn_step rfl (fun K' hK' => ?_)
        go_simp
        refine hK' _ _ ?_
        exact ⟨_, _, _, _, _, _, _, rfl, (by first | exact keepD (by decide) h0 | exact fun _ => rfl | exact fun _ => by simp [hzw]), (by first | exact keepD (by decide) h1 | exact fun _ => rfl | exact fun _ => by simp [hzw]), (by first | exact keepD (by decide) h2 | exact fun _ => rfl | exact fun _ => by simp [hzw]), fun _ => rfl, (by first | exact keepD (by decide) h4 | exact fun _ => rfl | exact fun _ => by simp [hzw]), (by first | exact keepD (by decide) h5 | exact fun _ => rfl | exact fun _ => by simp [hzw]), .inl (by simp [e4, e5, e6, e7])⟩
      · have d1 := hdep _ rfl ⟨1, .data⟩ (by simp) rfl
        have d2 := hdep _ rfl ⟨2, .data⟩ (by simp) rfl
        have d3 := hdep _ rfl ⟨3, .data⟩ (by simp) rfl
        obtain rfl := h1 d1
        obtain rfl := h2 d2
        obtain rfl := h3 d3
        simp only [hDi, Bool.false_eq_true, false_and, and_false, or_false] at hw
        obtain ⟨_, e5, e6, e7, rfl⟩ := hw
        refine wpOpIn_step rfl (fun K' hK' => ?_)
        go_simp
        refine ⟨trivial, ?_⟩
        refine (CallsIn.inRound l (callsIn_wide.2 HC.out)).mono ?_
        rintro e w' ⟨rfl, rfl⟩
        refine hK' _ _ ?_
        exact ⟨_, _, _, _, _, _, _, rfl, (by first | exact keepD (by decide) h0 | exact fun _ => rfl | exact fun _ => by simp [hzw]), fun _ => rfl, fun _ => rfl, fun _ => rfl, fun _ => rfl, (by first | exact keepD (by decide) h5 | exact fun _ => rfl | exact fun _ => by simp [hzw]), .inr (.inl (by simp [d1, d2, d3, e5, e6, e7]))⟩
      · have d4 := hdep _ rfl ⟨4, .data⟩ (by simp) rfl
        obtain rfl := h4 d4
        simp only [hDi, d4, Bool.true_eq_false, Bool.false_eq_true, false_and, and_false, or_false, false_or, true_and] at hw
        obtain ⟨d1, d2, d3, e6, e7, rfl⟩ := hw
        refine wpOpIn_step rfl (fun K' hK' => ?_)
        go_simp
        refine hK' _ _ ?_
        exact ⟨_, _, _, _, _, _, _, rfl, (by first | exact keepD (by decide) h0 | exact fun _ => rfl | exact fun _ => by simp [hzw]), (by first | exact keepD (by decide) h1 | exact fun _ => rfl | exact fun _ => by simp [hzw]), (by first | exact keepD (by decide) h2 | exact fun _ => rfl | exact fun _ => by simp [hzw]), (by first | exact keepD (by decide) h3 | exact fun _ => rfl | exact fun _ => by simp [hzw]), fun _ => rfl, fun _ => by simp [hzw], .inr (.inr (.inl (by simp [d1, d2, d3, d4, e6, e7])))⟩
      · have d0 := hdep _ rfl ⟨0, .data⟩ (by simp) rfl
        have d5 := hdep _ rfl ⟨5, .data⟩ (by simp) rfl
        obtain rfl := h0 d0
        obtain rfl := h5 d5
        simp only [hDi, d5, Bool.true_eq_false, Bool.false_eq_true, false_and, and_false, or_false, false_or, true_and] at hw
        obtain ⟨d1, d2, d3, d4, e7, rfl⟩ := hw
        obtain ⟨w3, hrun, r1, r2⟩ := run_append_fits (P := Tryz.prog) (W1.alloc (.cells #[.int .u32 (r : Nat)] 58)) s 22 22 58 i0 1 Tryz.underlying22 hi' hz1 (s + 3) _ _ _ (hrow1.alloc _) ⟨W1.heap.size, 0, none⟩ 1 1 [.int .u32 (r : Nat)] rfl (cell_one_new _ _ _) (by simp [Value.oneCell']) (by omega)
        refine wpOpIn_step rfl (fun K' hK' => ?_)
        rw [if_pos (by simp [Region.wanted])]
        unfold Oper.wpIn
        refine ⟨by simp [Oper.about, resolve, Target.leads, Sem.run_pure], ?_⟩
        rw [Oper.semAt_plain (Fence.wide.inRound l) _ _ (by intro c hc'; cases hc')]
        simp [execOp, resolve, invoke, builtin, Act.eval, hrun, Result.andThen, Oper.uponIn]
        refine hK' _ _ ?_
        refine ⟨_, _, _, _, _, _, _, rfl, fun _ => rfl, (by first | exact keepD (by decide) h1 | exact fun _ => rfl | exact fun _ => by simp [hzw]), (by first | exact keepD (by decide) h2 | exact fun _ => rfl | exact fun _ => by simp [hzw]), (by first | exact keepD (by decide) h3 | exact fun _ => rfl | exact fun _ => by simp [hzw]), (by first | exact keepD (by decide) h4 | exact fun _ => rfl | exact fun _ => by simp [hzw]), fun _ => rfl, .inr (.inr (.inr (.inl (by simp [d0, d1, d2, d3, d4, d5, e7]; exact ⟨by rw [vals_append]; exact r1, r2⟩))))⟩
      · have d6 := hdep _ rfl ⟨6, .data⟩ (by simp) rfl
        simp only [hDi, d6, Bool.true_eq_false, Bool.false_eq_true, false_and, and_false, or_false, false_or, true_and] at hw
        obtain ⟨d0, d1, d2, d3, d4, d5, rfl, hown3, hgrow⟩ := hw
        have b4 : Boxed w' (s + 4) 22 _ := (hB1.alloc _).kept hgrow (by simp)
        have hc4 := b4.cell
        have hf4 := b4.frozen
        refine wpOpIn_step rfl (fun K' hK' => ?_)
        go_simp
        refine hK' _ _ ?_
        exact ⟨_, _, _, _, _, _, _, rfl, (by first | exact keepD (by decide) h0 | exact fun _ => rfl | exact fun _ => by simp [hzw]), (by first | exact keepD (by decide) h1 | exact fun _ => rfl | exact fun _ => by simp [hzw]), (by first | exact keepD (by decide) h2 | exact fun _ => rfl | exact fun _ => by simp [hzw]), (by first | exact keepD (by decide) h3 | exact fun _ => rfl | exact fun _ => by simp [hzw]), (by first | exact keepD (by decide) h4 | exact fun _ => rfl | exact fun _ => by simp [hzw]), (by first | exact keepD (by decide) h5 | exact fun _ => rfl | exact fun _ => by simp [hzw]), .inr (.inr (.inr (.inr (by simp [d0, d1, d2, d3, d4, d5, d6]; exact ⟨w', rfl, hown3, hgrow⟩))))⟩
end Go.Proofs.YtacjfpibilolnaaGreatDoor
