/- Division by a limb again: the quotient lies in new memory. -/
import Derived.Test.YtfkagknikmibjaaDoorZE3
import Derived.Test.YtfkagknikmibjaaDoorZB1
import Derived.RangeFuncNested
import Derived.Laws.EntriesVeiled
import Derived.Test.YtfkagknikmibjaaDoorZF1
import Derived.IntWalk
set_option linter.unusedVariables false
set_option linter.unusedSimpArgs false
namespace Go.Proofs.YtfkagknikmibjaaDoor
open Go.RowKit Go.Shelf
attribute [local go_sem] Oper.semAt_some
def RetSF (w : World) (q r : Nat) (e : Ending) (w' : World) : Prop := ∃ X cx, e = .returned (.tuple #[.slice X (nl q) cx, .int .u32 (r : Nat), .int .i64 0]) ∧ NatV w' X cx q ∧ Below w.heap.size w w' ∧ Fr w.heap.size X cx
theorem RetO.toF {w w' : World} {n : Nat} {e : Ending} (h : RetO w n e w') : RetF w n e w' := by
  obtain ⟨v, rfl, h1, h2⟩ := h
  obtain ⟨A, c, rfl, h3, h4, h5⟩ := ownV_rd h1
  exact ⟨A, c, rfl, ⟨h5, h3, h4⟩, h2, Fr.own h1⟩
theorem make_f (A : Option Addr) (n c : Nat) (l : List Nat) (w : World) (hn : l.length = n) (h : Rd w A l) (hL : Lim l) (hl : n ≤ 1099511627776) (hc : n ≤ c) :
    Calls Tryd.prog 36 #[.slice A n c] w (RetF w (val l)) := (make_o A n c l w hn h hL hl hc).mono fun _ _ h => h.toF
set_option maxRecDepth 100000 in
set_option maxHeartbeats 2000000 in
theorem dsmall_f (A : Option Addr) (c a m : Nat) (w : World) (hA : NatV w A c a) (ha : nl a ≤ 16777216) (hm : m < 4294967296) (h0 : 0 < m) :
    Calls Tryd.prog 22 #[.slice A (nl a) c, .int .u32 (m : Nat)] w (RetSF w (a / m) (a % m)) := by
  refine (callsIn_wide (n := 4)).1 ?_
  have hmk := mk32 (nl a) (nl a) (by omega) (by omega) (by omega)
  simp only [Int.toNat_natCast] at hmk
  have hmb : ((m : Int) == 0) = false := ieqF (by omega)
  obtain ⟨n, hn⟩ : ∃ n, n = nl a := ⟨_, rfl⟩
  have hla : (limbs a).length = n := hn.symm
  have hnl : n ≤ 16777216 := by omega
  have HA := Lib.hid hA
  rw [← hn] at hmk
  rw [show nl a = n from hn.symm]
  replace hn := Lib.hid hn
  clear hA ha
  refine callsIn_of_wp_marks Tryd.func22 rfl trivial ?_ rfl
  simp only [Tryd.ntmps22, List.size_toArray, List.length_cons, List.length_nil, Nat.reduceAdd, Nat.reduceSub, Array.replicate_succ, Array.replicate_zero, List.push_toArray, List.append_toArray, List.nil_append, List.cons_append]
  gi_wp2_with (first
    | (refine ⟨trivial, ?_⟩; gi_at_call 54; refine (callsIn_wide.2 (backward_c A n c _)).mono ?_; rintro e w' ⟨rfl, rfl⟩))
  obtain ⟨s, hs0⟩ : ∃ s, s = w.heap.size := ⟨_, rfl⟩
  obtain ⟨W8, hW8⟩ : ∃ W8, (((((w.alloc (.cells #[.int .u32 (m : Nat)] 23)).alloc (.cells (madeCells #[.int .u32 0] n) 23)).alloc (.cells #[.slice (some ⟨s + 1, 0, none⟩) n n] 22)).alloc (.cells #[.int .u32 0] 23)).alloc (.cells #[.slice A n c] 22)) = W8 := ⟨_, rfl⟩
  have bM : Boxed W8 s 23 (.int .u32 (m : Nat)) := by
    subst hs0 hW8; unfold Boxed; repeat (first | exact at_new (by simp) | refine at_old (by simp <;> omega) ?_)
  have bO : Boxed W8 (s + 2) 22 (.slice (some ⟨s + 1, 0, none⟩) n n) := by
    subst hs0 hW8; unfold Boxed; repeat (first | exact at_new (by simp) | refine at_old (by simp <;> omega) ?_)
  have bR : Boxed W8 (s + 3) 23 (.int .u32 0) := by
    subst hs0 hW8; unfold Boxed; repeat (first | exact at_new (by simp) | refine at_old (by simp <;> omega) ?_)
  have bA : Boxed W8 (s + 4) 22 (.slice A n c) := by
    subst hs0 hW8; unfold Boxed; repeat (first | exact at_new (by simp) | refine at_old (by simp <;> omega) ?_)
  have hR8 : W8.heap[s + 1]? = some (.cells (madeCells #[.int .u32 0] n) 23 (0, 0)) := by
    subst hs0 hW8; repeat (first | exact at_new (by simp) | refine at_old (by simp <;> omega) ?_)
  have hsz : W8.heap.size = s + 5 := by subst hs0 hW8; simp
  have hB0 : Below s w W8 := by
    subst hs0 hW8
    exact ((((((Below.refl _ w).alloc (Nat.le_refl _) _).alloc (by simp) _).alloc (by simp; omega) _).alloc (by simp; omega) _).alloc (by simp; omega) _)
  have hown0 : W8.ownsRow s 23 1 (.slice (some ⟨s + 1, 0, none⟩) n n) n (vals (List.replicate n 0)) := by
    refine ⟨by simp [vals], .inr ⟨s + 1, n, _, rfl, by omega, hR8, Nat.le_refl _, by simp only [maxLen]; omega, by rw [size_madeCells, Nat.mul_one], ?_⟩⟩
    rw [toList_madeCells_one]
    simp [vals]
  rw [← hs0]
  simp only [Nat.add_assoc, Nat.reduceAdd]
  rw [hW8]
  clear hW8
  have HS := Lib.hid hs0
  have hlt : ∀ (X : Option Addr) (l : List Nat), Rd w X l → ∀ ad i, X = some ad → i < l.length → (ad.add i).block < s := fun X l hX ad i e hi => by
    subst e
    obtain ⟨ad', e', hc⟩ := hX.get i hi
    cases e'
    rw [hs0]; exact World.block_lt_of_cell? w _ hc
  clear hs0
  refine wpIn_rangeFunc_ownF (Kp := KeepC (fun k => k < s ∨ k = s + 4)) (w0 := W8) rfl (by omega) (gf := 70) (lb := #[.pointer (some ⟨s + 4, 0, none⟩)]) rfl trivial (enters_of Tryd.func70 (by kernel_rfl) rfl)
    (backward_stops (s + 4) _ A n c (limbs a) W8 hla (by omega) (.inr rfl) (fun ad i e hi => .inl (hlt A (limbs a) HA.out.rd ad i e hi)) bA.cell (HA.out.rd.below (HS.out ▸ hB0)))
    KeepC.t KeepC.b (Below.refl _ _) (fun _ => rfl)
    (fun pre W => (Boxed W (s + 2) 22 (.slice (some ⟨s + 1, 0, none⟩) n n) ∧ W.ownsRow s 23 1 (.slice (some ⟨s + 1, 0, none⟩) n n) n (vals (runD m n (limbs a) pre).1)) ∧ Boxed W (s + 3) 23 (.int .u32 ((runD m n (limbs a) pre).2 : Nat)) ∧
      Boxed W s 23 (.int .u32 (m : Nat)) ∧ Below s w W)
    (fun _ _ _ => False) ?own (fun _ _ _ _ _ hs _ _ => hs) ?start
    (fun x => { tmps := #[.slice A n c, .int .u32 (m : Nat), undef, .pointer (some ⟨s, 0, none⟩), .slice none 0 0, .int .u32 0, .int .i64 0, .pointer (some ⟨s + 2, 0, none⟩), .pointer (some ⟨s + 3, 0, none⟩), .int .i64 (x.1 : Nat), .int .u32 (gl (limbs a) x.1 : Nat),
      .int .u32 (m : Nat), .bool false, .slice A n c, .int .i64 n, .slice (some ⟨s + 1, 0, none⟩) n n, .slice A n c, .func (.func 70) #[] #[.pointer (some ⟨s + 4, 0, none⟩)], .int .i64 (x.1 : Nat), .int .u32 (gl (limbs a) x.1 : Nat),
      undef, undef, undef, undef, undef, undef, undef, undef, undef, undef, undef, undef, undef], defers := [] }) ?assign ?body ?done ?stop
  case own =>
    refine OwnFrom.and (Own.from ?_ _) (OwnFrom.and (Own.from (boxed_own _ _ _) _) (OwnFrom.and (Own.from (boxed_own _ _ _) _) (ownFrom_below (Nat.le_of_eq HS.out) (by omega))))
    intro pre Y Z row h hg hr
    obtain ⟨h1, h2⟩ := h
    refine ⟨boxed_own _ _ (fun _ : Unit => _) () Y Z row h1 hg hr, h2.kept hg (.inr (fun e => ?_))⟩
    obtain ⟨o, ho, hc⟩ := hr (s + 1) e.symm
    rcases h2.2 with ⟨h, _⟩ | ⟨g, cap, cur, h, _, hgb, _⟩
    · cases h
    · cases h; rw [hgb] at ho; cases ho; cases hc
  case start => exact ⟨⟨bO, hown0⟩, bR, bM, hB0⟩
  case assign =>
    intro l x W K hK
    gi_wp2
    exact hK
  case stop =>
    rintro D c pre W _ _ h _
    exact h.elim
  case done =>
    rintro D ys W hD rfl ⟨⟨hv, hrow⟩, hr, hmm, hB⟩ hK
    have hval := runD_val a m n (Nat.le_of_eq hn.out.symm) h0 n (Nat.le_refl _) 0 (by omega)
    rw [Nat.pow_zero, Nat.div_one, Nat.mul_one] at hval
    have hok := runD_ok (m := m) (n := n) (lim_limbs a) h0 (upto n n)
    obtain ⟨X, cx, hXe, hcx, hcm, hrd⟩ := ownV_rd hrow
    cases hXe
    rw [hval.2.1] at hr
    have hc := hv.cell
    have hrc := hr.cell
    have hmake := fun (V : World) (h : Below W.heap.size W V) => make_f (some ⟨s + 1, 0, none⟩) n n (runD m n (limbs a) (upto n n)).1 V hok.1 (hrd.below h) hok.2.1 (by omega) hcx
    rw [hval.1] at hmake
    have HM := Lib.hid hmake
    replace hval := Lib.hid hval
    clear hmake hrow hrd hv hok
    gi_wp2_with (fail)
    refine wpIn_region_inv (fun E a' w' => ∃ (v4 v5 v6 u30 u31 u32 : Value) (Y : Option Addr) (cy : Nat),
      a' = { tmps := #[.slice A n c, .int .u32 (m : Nat), undef, .pointer (some ⟨s, 0, none⟩), v4, v5, v6, .pointer (some ⟨s + 2, 0, none⟩), .pointer (some ⟨s + 3, 0, none⟩), undef, undef,
        .int .u32 (m : Nat), .bool false, .slice A n c, .int .i64 n, .slice (some ⟨s + 1, 0, none⟩) n n, .slice A n c, .func (.func 70) #[] #[.pointer (some ⟨s + 4, 0, none⟩)], undef, undef,
        undef, undef, undef, undef, undef, undef, undef, undef, undef, undef, u30, u31, u32], defers := [{ target := Target.collected D, args := #[] }] } ∧
      (E 0 = true → u30 = .slice (some ⟨s + 1, 0, none⟩) n n) ∧ (E 1 = true → u31 = .slice Y (nl (a / m)) cy ∧ NatV w' Y cy (a / m) ∧ Fr W.heap.size Y cy) ∧ (E 2 = true → u32 = .int .u32 ((a % m : Nat) : Int)) ∧
      (E 3 = true → v4 = .slice Y (nl (a / m)) cy) ∧ (E 4 = true → v5 = .int .u32 ((a % m : Nat) : Int)) ∧ (E 5 = true → v6 = .int .i64 0) ∧ (E 3 = true → E 1 = true) ∧ Below W.heap.size W w')
      (by kernel_rfl) (by kernel_rfl) ?init ?fin ?step
    case init => exact ⟨_, _, _, _, _, _, none, 0, rfl, by simp, by simp, by simp, by simp, by simp, by simp, by simp, (Below.refl _ _).drew⟩
    case fin =>
      rintro E a' w' ⟨v4, v5, v6, u30, u31, u32, Y, cy, rfl, h30, h31, h32, h4, h5, h6, _, hbY⟩ hall
      obtain ⟨_, hY, hFr⟩ := h31 (hall 1 (by decide))
      obtain rfl := h4 (hall 3 (by decide))
      obtain rfl := h5 (hall 4 (by decide))
      obtain rfl := h6 (hall 5 (by decide))
      gi_wp2_with (fail)
      have hDlt : D < W.heap.size := (Array.getElem?_eq_some_iff.1 hK).1
      have hK1 := (hbY.block D hDlt).trans hK
      refine ⟨by simp, .inl ⟨_, _, rfl, run_takeDeferred hK1, ?_⟩⟩
      have hDs : s ≤ D := by omega
      have hWs : s ≤ W.heap.size := by omega
      have hp : Below s w (w'.putObj D (.deferred none)) := (hB.trans (hbY.mono hWs)).trans (belowK_b (w := W8) (by omega) w' D _ _ hD hK1 rfl rfl)
      have hp2 : Below w.heap.size w (w'.putObj D (.deferred none)) := hp.mono (Nat.le_of_eq HS.out.symm)
      refine ⟨.tuple #[.slice Y (nl (a / m)) cy, .int .u32 ((a % m : Nat) : Int), .int .i64 0], by simp [results, Tryd.results22, go_sem], ?_⟩
      refine ⟨Y, cy, rfl, ⟨?_, hY.cap, hY.cmax⟩, hp2, hFr.le (by have := HS.out; omega)⟩
      rcases hY.rd with h | ⟨ad, rfl, h⟩
      · exact .inl h
      · exact .inr ⟨ad, rfl, fun i u hu => cell_kept (h i u hu) (grownBy_putObj' w' D _) (fun r e => by cases e; exact ⟨_, hK1, rfl⟩)⟩
    case step =>
      rintro E a' w' i ⟨v4, v5, v6, u30, u31, u32, Y, cy, rfl, h30, h31, h32, h4, h5, h6, h31', hbY⟩ hi hEi hdep
      have hcell := cell_below hbY hc
      have hcellr := cell_below hbY hrc
      obtain rfl | rfl | rfl | rfl | rfl | rfl : i = 0 ∨ i = 1 ∨ i = 2 ∨ i = 3 ∨ i = 4 ∨ i = 5 := by
        simp at hi; omega
      · refine wpOpIn_step rfl (fun K' hK' => ?_)
        go_simp
        refine hK' _ _ ?_
        exact ⟨_, _, _, _, _, _, Y, cy, rfl, fun _ => rfl, keepD (by decide) h31, keepD (by decide) h32, keepD (by decide) h4, keepD (by decide) h5, keepD (by decide) h6, (fun h => by first | rfl | (have := h31' (by simpa using h); simpa using this)), hbY⟩
      · have d0 := hdep _ rfl ⟨0, .data⟩ (by simp) rfl
        obtain rfl := h30 d0
        refine wpOpIn_step rfl (fun K' hK' => ?_)
        go_simp
        refine ⟨trivial, ?_⟩
        refine (callsIn_wide.2 (HM.out w' hbY)).mono ?_
        rintro e w1 ⟨Y1, c1, rfl, k1, k2, k3⟩
        refine hK' _ _ ?_
        exact ⟨_, _, _, _, _, _, Y1, c1, rfl, keepD (by decide) h30, fun _ => ⟨rfl, k1, k3.le hbY.size⟩, keepD (by decide) h32, fun h => (by have h2 := h31' (by simpa using h); rw [hEi] at h2; cases h2), keepD (by decide) h5, keepD (by decide) h6, (fun h => by simp), Below.cons hbY k2⟩
      · refine wpOpIn_step rfl (fun K' hK' => ?_)
        go_simp
        refine hK' _ _ ?_
        exact ⟨_, _, _, _, _, _, Y, cy, rfl, keepD (by decide) h30, keepD (by decide) h31, fun _ => rfl, keepD (by decide) h4, keepD (by decide) h5, keepD (by decide) h6, (fun h => by first | rfl | (have := h31' (by simpa using h); simpa using this)), hbY⟩
      · have d1 := hdep _ rfl ⟨1, .data⟩ (by simp) rfl
        obtain ⟨rfl, hY, hFr⟩ := h31 d1
        refine wpOpIn_step rfl (fun K' hK' => ?_)
        go_simp
        refine hK' _ _ ?_
        exact ⟨_, _, _, _, _, _, Y, cy, rfl, keepD (by decide) h30, fun _ => ⟨rfl, hY, hFr⟩, keepD (by decide) h32, fun _ => rfl, keepD (by decide) h5, keepD (by decide) h6, (fun h => by simp [d1]), hbY⟩
      · have d2 := hdep _ rfl ⟨2, .data⟩ (by simp) rfl
        obtain rfl := h32 d2
        refine wpOpIn_step rfl (fun K' hK' => ?_)
        go_simp
        refine hK' _ _ ?_
        exact ⟨_, _, _, _, _, _, Y, cy, rfl, keepD (by decide) h30, keepD (by decide) h31, fun _ => rfl, keepD (by decide) h4, fun _ => rfl, keepD (by decide) h6, (fun h => by first | rfl | (have := h31' (by simpa using h); simpa using this)), hbY⟩
      · refine wpOpIn_step rfl (fun K' hK' => ?_)
        go_simp
        refine hK' _ _ ?_
        exact ⟨_, _, _, _, _, _, Y, cy, rfl, keepD (by decide) h30, keepD (by decide) h31, keepD (by decide) h32, keepD (by decide) h4, keepD (by decide) h5, fun _ => rfl, (fun h => by first | rfl | (have := h31' (by simpa using h); simpa using this)), hbY⟩
  case body =>
    rintro l pre x W ⟨⟨hv, hrow⟩, hR, hM, hB⟩ hlen
    have hx := (lim_limbs a).gl x.1
    have hok := runD_ok (m := m) (n := n) (lim_limbs a) h0 pre
    have hrun := runD_snoc m n (limbs a) pre x
    have HC := fun (V : World) => div32_c (runD m n (limbs a) pre).2 (gl (limbs a) x.1) m V hok.2.2 hx hm
    have hxn := x.2
    obtain ⟨r, hr⟩ : ∃ r, r = (runD m n (limbs a) pre).2 := ⟨_, rfl⟩
    obtain ⟨L, hL⟩ : ∃ L, L = (runD m n (limbs a) pre).1 := ⟨_, rfl⟩
    obtain ⟨g, hg⟩ : ∃ g, g = gl (limbs a) x.1 := ⟨_, rfl⟩
    obtain ⟨i, hi⟩ : ∃ i, i = x.1 := ⟨_, rfl⟩
    rw [← hr, ← hL, ← hg] at hrun
    rw [← hr, ← hg] at HC
    rw [← hg, ← hi]
    rw [← hr] at hR
    rw [← hL] at hrow hok
    rw [← hi] at hxn hrun
    obtain ⟨q1, hq1⟩ : ∃ z, z = (r * 4294967296 + g) / m := ⟨_, rfl⟩
    obtain ⟨r1, hr1⟩ : ∃ z, z = (r * 4294967296 + g) % m := ⟨_, rfl⟩
    rw [← hq1, ← hr1] at HC hrun
    have HCX := Lib.hid HC
    have HRN := Lib.hid hrun
    have HOK := Lib.hid hok
    replace hr := Lib.hid hr
    replace hL := Lib.hid hL
    replace hg := Lib.hid hg
    replace hi := Lib.hid hi
    replace hq1 := Lib.hid hq1
    replace hr1 := Lib.hid hr1
    clear HC hrun hok hmk
    have cO := hv.cell
    have cR := hR.cell
    have cM := hM.cell
    have fR := hR.frozen
    have cL : W.cell? ⟨s + 1, i, none⟩ = some (.int .u32 (gl L i : Nat)) := by rw [hrow.cellAt i (by omega), vals_get L _ (by rw [HOK.out.1]; exact hxn)]
    have fL := hrow.frozenAt i
    gi_wp2_with (fail)
    refine wpIn_region_inv (fun E a' w' => ∃ (u20 u21 u22 u23 u24 u25 u26 u27 u28 u29 : Value),
      a' = { tmps := #[.slice A n c, .int .u32 (m : Nat), undef, .pointer (some ⟨s, 0, none⟩), .slice none 0 0, .int .u32 0, .int .i64 0, .pointer (some ⟨s + 2, 0, none⟩), .pointer (some ⟨s + 3, 0, none⟩), .int .i64 (i : Nat), .int .u32 (g : Nat),
        .int .u32 (m : Nat), .bool false, .slice A n c, .int .i64 n, .slice (some ⟨s + 1, 0, none⟩) n n, .slice A n c, .func (.func 70) #[] #[.pointer (some ⟨s + 4, 0, none⟩)], .int .i64 (i : Nat), .int .u32 (g : Nat),
        u20, u21, u22, u23, u24, u25, u26, u27, u28, u29, undef, undef, undef], defers := [] } ∧
      (E 0 = true → u21 = .slice (some ⟨s + 1, 0, none⟩) n n) ∧ (E 1 = true → u22 = .int .i64 (i : Nat)) ∧ (E 2 = true → u23 = .int .u32 (r : Nat)) ∧ (E 3 = true → u24 = .int .u32 (g : Nat)) ∧ (E 4 = true → u25 = .int .u32 (m : Nat)) ∧
      (E 5 = true → u26 = .tuple #[.int .u32 (q1 : Nat), .int .u32 (r1 : Nat)]) ∧ (E 6 = true → u20 = .tuple #[.int .u32 (q1 : Nat), .int .u32 (r1 : Nat)]) ∧ (E 7 = true → u27 = .int .u32 (q1 : Nat)) ∧ (E 8 = true → u28 = .int .u32 (r1 : Nat)) ∧ (E 9 = true → u29 = .pointer (some ⟨s + 1, i, none⟩)) ∧
      ((E 10 = false ∧ E 11 = false ∧ ∃ k, w' = W.drewN k) ∨ (E 0 = true ∧ E 1 = true ∧ E 2 = true ∧ E 3 = true ∧ E 4 = true ∧ E 5 = true ∧ E 6 = true ∧ E 7 = true ∧ E 9 = true ∧ E 10 = true ∧ E 11 = false ∧ ∃ k, w' = (W.drewN k).setCell ⟨s + 1, i, none⟩ (.int .u32 (q1 : Nat))) ∨ (E 0 = true ∧ E 1 = true ∧ E 2 = true ∧ E 3 = true ∧ E 4 = true ∧ E 5 = true ∧ E 6 = true ∧ E 7 = true ∧ E 8 = true ∧ E 9 = true ∧ E 10 = true ∧ E 11 = true ∧ ∃ k, w' = ((W.drewN k).setCell ⟨s + 1, i, none⟩ (.int .u32 (q1 : Nat))).setCell ⟨s + 3, 0, none⟩ (.int .u32 (r1 : Nat)))))
      (by kernel_rfl) (by kernel_rfl) ?init ?fin ?step
    case init => exact ⟨_, _, _, _, _, _, _, _, _, _, rfl, by simp, by simp, by simp, by simp, by simp, by simp, by simp, by simp, by simp, by simp, .inl ⟨rfl, rfl, 1, rfl⟩⟩
    case fin =>
      rintro E a' w' ⟨u20, u21, u22, u23, u24, u25, u26, u27, u28, u29, rfl, h0, h1, h2, h3, h4, h5, h6, h7, h8, h9, hw⟩ hall
      have d11 := hall 11 (by decide)
      simp only [d11, Bool.true_eq_false, false_and, and_false, or_false, false_or] at hw
      obtain ⟨_, _, _, _, _, _, _, _, _, _, _, _, k, rfl⟩ := hw
      have K0 : KeepsOthers W (W.drewN k) := ⟨Nat.le_refl _, fun _ _ h _ => h⟩
      show KeepsOthers W _ ∧ KeepC _ W _ ∧ _
      refine ⟨(K0.trans (KeepsOthers.setCell _ _ _)).trans (KeepsOthers.setCell _ _ _), ?_, ⟨⟨?_, ?_⟩, ?_, ?_, ?_⟩⟩
      · intro p v hp hv
        rw [World.cell?_of_block (a := p) (Below.heap_setCell _ ⟨s + 3, 0, none⟩ _ p.block (by simp; omega)), World.cell?_of_block (a := p) (Below.heap_setCell _ ⟨s + 1, i, none⟩ _ p.block (by simp; omega))]
        exact hv
      · exact (boxed_other (W := W.drewN k) hv ⟨s + 1, i, none⟩ (by simp) _).other (by omega) _
      · rw [HRN.out, vals_set]
        exact ((show (W.drewN k).ownsRow s 23 1 (.slice (some ⟨s + 1, 0, none⟩) n n) n (vals L) from hrow).stored i (.int .u32 (q1 : Nat))).1.kept (grownBy_setCell' _ (s + 3) _) (.inr (by simp [Value.ownBlock]))
      · rw [HRN.out]
        exact Boxed.set _ (boxed_other (W := W.drewN k) hR ⟨s + 1, i, none⟩ (by simp) _)
      · exact (boxed_other (W := W.drewN k) hM ⟨s + 1, i, none⟩ (by simp) _).other (by omega) _
      · exact ((hB.drewN k).setCell (p := ⟨s + 1, i, none⟩) (by simp) _).setCell (p := ⟨s + 3, 0, none⟩) (by simp) _
    case step =>
      rintro E a' w' j ⟨u20, u21, u22, u23, u24, u25, u26, u27, u28, u29, rfl, h0, h1, h2, h3, h4, h5, h6, h7, h8, h9, hw⟩ hj hEi hdep
      obtain rfl | rfl | rfl | rfl | rfl | rfl | rfl | rfl | rfl | rfl | rfl | rfl : j = 0 ∨ j = 1 ∨ j = 2 ∨ j = 3 ∨ j = 4 ∨ j = 5 ∨ j = 6 ∨ j = 7 ∨ j = 8 ∨ j = 9 ∨ j = 10 ∨ j = 11 := by
        simp at hj; omega
      · simp only [hEi, Bool.false_eq_true, false_and, and_false, or_false] at hw
        obtain ⟨e10, e11, k, rfl⟩ := hw
        refine wpOpIn_step rfl (fun K' hK' => ?_)
        go_simp
        refine hK' _ _ ?_
        exact ⟨_, _, _, _, _, _, _, _, _, _, rfl, fun _ => rfl, keepD (by decide) h1, keepD (by decide) h2, keepD (by decide) h3, keepD (by decide) h4, keepD (by decide) h5, keepD (by decide) h6, keepD (by decide) h7, keepD (by decide) h8, keepD (by decide) h9, .inl ⟨by simp [e10], by simp [e11], _, (by first | rfl | (simp only [World.drewN_drewN]; rfl))⟩⟩
      · simp only [hEi, Bool.false_eq_true, false_and, and_false, or_false] at hw
        obtain ⟨e10, e11, k, rfl⟩ := hw
        refine wpOpIn_step rfl (fun K' hK' => ?_)
        go_simp
        refine hK' _ _ ?_
        exact ⟨_, _, _, _, _, _, _, _, _, _, rfl, keepD (by decide) h0, fun _ => rfl, keepD (by decide) h2, keepD (by decide) h3, keepD (by decide) h4, keepD (by decide) h5, keepD (by decide) h6, keepD (by decide) h7, keepD (by decide) h8, keepD (by decide) h9, .inl ⟨by simp [e10], by simp [e11], _, (by first | rfl | (simp only [World.drewN_drewN]; rfl))⟩⟩
      · simp only [hEi, Bool.false_eq_true, false_and, and_false, or_false] at hw
        obtain ⟨e10, e11, k, rfl⟩ := hw
        refine wpOpIn_step rfl (fun K' hK' => ?_)
        go_simp
        refine hK' _ _ ?_
        exact ⟨_, _, _, _, _, _, _, _, _, _, rfl, keepD (by decide) h0, keepD (by decide) h1, fun _ => rfl, keepD (by decide) h3, keepD (by decide) h4, keepD (by decide) h5, keepD (by decide) h6, keepD (by decide) h7, keepD (by decide) h8, keepD (by decide) h9, .inl ⟨by simp [e10], by simp [e11], _, (by first | rfl | (simp only [World.drewN_drewN]; rfl))⟩⟩
      · simp only [hEi, Bool.false_eq_true, false_and, and_false, or_false] at hw
        obtain ⟨e10, e11, k, rfl⟩ := hw
        refine wpOpIn_step rfl (fun K' hK' => ?_)
        go_simp
        refine hK' _ _ ?_
        exact ⟨_, _, _, _, _, _, _, _, _, _, rfl, keepD (by decide) h0, keepD (by decide) h1, keepD (by decide) h2, fun _ => rfl, keepD (by decide) h4, keepD (by decide) h5, keepD (by decide) h6, keepD (by decide) h7, keepD (by decide) h8, keepD (by decide) h9, .inl ⟨by simp [e10], by simp [e11], _, (by first | rfl | (simp only [World.drewN_drewN]; rfl))⟩⟩
      · simp only [hEi, Bool.false_eq_true, false_and, and_false, or_false] at hw
        obtain ⟨e10, e11, k, rfl⟩ := hw
        refine wpOpIn_step rfl (fun K' hK' => ?_)
        go_simp
        refine hK' _ _ ?_
        exact ⟨_, _, _, _, _, _, _, _, _, _, rfl, keepD (by decide) h0, keepD (by decide) h1, keepD (by decide) h2, keepD (by decide) h3, fun _ => rfl, keepD (by decide) h5, keepD (by decide) h6, keepD (by decide) h7, keepD (by decide) h8, keepD (by decide) h9, .inl ⟨by simp [e10], by simp [e11], _, (by first | rfl | (simp only [World.drewN_drewN]; rfl))⟩⟩
      · have d2 := hdep _ rfl ⟨2, .data⟩ (by simp) rfl
        obtain rfl := h2 d2
        have d3 := hdep _ rfl ⟨3, .data⟩ (by simp) rfl
        obtain rfl := h3 d3
        have d4 := hdep _ rfl ⟨4, .data⟩ (by simp) rfl
        obtain rfl := h4 d4
        simp only [hEi, Bool.false_eq_true, false_and, and_false, or_false] at hw
        obtain ⟨e10, e11, k, rfl⟩ := hw
        refine wpOpIn_step rfl (fun K' hK' => ?_)
        go_simp
        refine ⟨trivial, ?_⟩
        refine (CallsIn.inRound l (callsIn_wide.2 (HCX.out _))).mono ?_
        rintro e V ⟨rfl, kq, rfl⟩
        refine hK' _ _ ?_
        exact ⟨_, _, _, _, _, _, _, _, _, _, rfl, keepD (by decide) h0, keepD (by decide) h1, keepD (by decide) h2, keepD (by decide) h3, keepD (by decide) h4, fun _ => rfl, keepD (by decide) h6, keepD (by decide) h7, keepD (by decide) h8, keepD (by decide) h9, .inl ⟨by simp [e10], by simp [e11], _, (by first | rfl | (simp only [World.drewN_drewN]; rfl))⟩⟩
      · have d5 := hdep _ rfl ⟨5, .data⟩ (by simp) rfl
        obtain rfl := h5 d5
        simp only [hEi, Bool.false_eq_true, false_and, and_false, or_false] at hw
        obtain ⟨e10, e11, k, rfl⟩ := hw
        refine wpOpIn_step rfl (fun K' hK' => ?_)
        go_simp
        refine hK' _ _ ?_
        exact ⟨_, _, _, _, _, _, _, _, _, _, rfl, keepD (by decide) h0, keepD (by decide) h1, keepD (by decide) h2, keepD (by decide) h3, keepD (by decide) h4, keepD (by decide) h5, fun _ => rfl, keepD (by decide) h7, keepD (by decide) h8, keepD (by decide) h9, .inl ⟨by simp [e10], by simp [e11], _, (by first | rfl | (simp only [World.drewN_drewN]; rfl))⟩⟩
      · have d6 := hdep _ rfl ⟨6, .data⟩ (by simp) rfl
        obtain rfl := h6 d6
        simp only [hEi, Bool.false_eq_true, false_and, and_false, or_false] at hw
        obtain ⟨e10, e11, k, rfl⟩ := hw
        refine wpOpIn_step rfl (fun K' hK' => ?_)
        go_simp
        refine hK' _ _ ?_
        exact ⟨_, _, _, _, _, _, _, _, _, _, rfl, keepD (by decide) h0, keepD (by decide) h1, keepD (by decide) h2, keepD (by decide) h3, keepD (by decide) h4, keepD (by decide) h5, keepD (by decide) h6, fun _ => rfl, keepD (by decide) h8, keepD (by decide) h9, .inl ⟨by simp [e10], by simp [e11], _, (by first | rfl | (simp only [World.drewN_drewN]; rfl))⟩⟩
      · have d6 := hdep _ rfl ⟨6, .data⟩ (by simp) rfl
        obtain rfl := h6 d6
        simp only [hEi, Bool.false_eq_true, false_and, and_false, or_false] at hw
        refine wpOpIn_step rfl (fun K' hK' => ?_)
        go_simp
        refine hK' _ _ ?_
        rcases hw with ⟨e10, e11, k, rfl⟩ | ⟨d0, d1, d2, d3, d4, d5, d6, d7, d9, d10, e11, k, rfl⟩
        · exact ⟨_, _, _, _, _, _, _, _, _, _, rfl, keepD (by decide) h0, keepD (by decide) h1, keepD (by decide) h2, keepD (by decide) h3, keepD (by decide) h4, keepD (by decide) h5, keepD (by decide) h6, keepD (by decide) h7, fun _ => rfl, keepD (by decide) h9, .inl ⟨by simp [e10], by simp [e11], _, rfl⟩⟩
        · exact ⟨_, _, _, _, _, _, _, _, _, _, rfl, keepD (by decide) h0, keepD (by decide) h1, keepD (by decide) h2, keepD (by decide) h3, keepD (by decide) h4, keepD (by decide) h5, keepD (by decide) h6, keepD (by decide) h7, fun _ => rfl, keepD (by decide) h9, .inr (.inl ⟨by simp [d0], by simp [d1], by simp [d2], by simp [d3], by simp [d4], by simp [d5], by simp [d6], by simp [d7], by simp [d9], by simp [d10], by simp [e11], _, rfl⟩)⟩
      · have d0 := hdep _ rfl ⟨0, .data⟩ (by simp) rfl
        obtain rfl := h0 d0
        have d1 := hdep _ rfl ⟨1, .data⟩ (by simp) rfl
        obtain rfl := h1 d1
        simp only [hEi, Bool.false_eq_true, false_and, and_false, or_false] at hw
        obtain ⟨e10, e11, k, rfl⟩ := hw
        refine wpOpIn_step rfl (fun K' hK' => ?_)
        go_simp
        refine hK' _ _ ?_
        exact ⟨_, _, _, _, _, _, _, _, _, _, rfl, keepD (by decide) h0, keepD (by decide) h1, keepD (by decide) h2, keepD (by decide) h3, keepD (by decide) h4, keepD (by decide) h5, keepD (by decide) h6, keepD (by decide) h7, keepD (by decide) h8, fun _ => rfl, .inl ⟨by simp [e10], by simp [e11], _, (by first | rfl | (simp only [World.drewN_drewN]; rfl))⟩⟩
      · have d9 := hdep _ rfl ⟨9, .data⟩ (by simp) rfl
        have d7 := hdep _ rfl ⟨7, .data⟩ (by simp) rfl
        have d0 := hdep _ rfl ⟨0, .phase⟩ (by simp) rfl
        have d1 := hdep _ rfl ⟨1, .phase⟩ (by simp) rfl
        have d2 := hdep _ rfl ⟨2, .phase⟩ (by simp) rfl
        have d3 := hdep _ rfl ⟨3, .phase⟩ (by simp) rfl
        have d4 := hdep _ rfl ⟨4, .phase⟩ (by simp) rfl
        have d5 := hdep _ rfl ⟨5, .phase⟩ (by simp) rfl
        have d6 := hdep _ rfl ⟨6, .phase⟩ (by simp) rfl
        obtain rfl := h9 d9
        obtain rfl := h7 d7
        simp only [hEi, Bool.false_eq_true, false_and, and_false, or_false, true_and] at hw
        obtain ⟨e11, k, rfl⟩ := hw
        obtain rfl := h0 d0
        obtain rfl := h1 d1
        obtain rfl := h2 d2
        obtain rfl := h3 d3
        obtain rfl := h4 d4
        obtain rfl := h5 d5
        obtain rfl := h6 d6
        refine wpOpIn_step rfl (fun K' hK' => ?_)
        go_simp
        refine hK' _ _ ?_
        exact ⟨_, _, _, _, _, _, _, _, u28, _, rfl, fun _ => rfl, fun _ => rfl, fun _ => rfl, fun _ => rfl, fun _ => rfl, fun _ => rfl, fun _ => rfl, fun _ => rfl, keepD (by decide) h8, fun _ => rfl, .inr (.inl ⟨by simp [d0], by simp [d1], by simp [d2], by simp [d3], by simp [d4], by simp [d5], by simp [d6], by simp [d7], by simp [d9], by simp, by simp [e11], _, rfl⟩)⟩
      · have d8 := hdep _ rfl ⟨8, .data⟩ (by simp) rfl
        have d10 := hdep _ rfl ⟨10, .chain⟩ (by simp) rfl
        obtain rfl := h8 d8
        simp only [hEi, d10, Bool.true_eq_false, Bool.false_eq_true, false_and, and_false, or_false, false_or, true_and] at hw
        obtain ⟨d0, d1, d2, d3, d4, d5, d6, d7, d9, k, rfl⟩ := hw
        obtain rfl := h0 d0
        obtain rfl := h1 d1
        obtain rfl := h2 d2
        obtain rfl := h3 d3
        obtain rfl := h4 d4
        obtain rfl := h5 d5
        obtain rfl := h6 d6
        obtain rfl := h7 d7
        obtain rfl := h9 d9
        have bR := boxed_other (W := W.drewN k) hR ⟨s + 1, i, none⟩ (by simp) (.int .u32 (q1 : Nat))
        have cR2 := bR.cell
        have fR2 := bR.frozen
        refine wpOpIn_step rfl (fun K' hK' => ?_)
        go_simp
        refine hK' _ _ ?_
        exact ⟨_, _, _, _, _, _, _, _, _, _, rfl, fun _ => rfl, fun _ => rfl, fun _ => rfl, fun _ => rfl, fun _ => rfl, fun _ => rfl, fun _ => rfl, fun _ => rfl, fun _ => rfl, fun _ => rfl, .inr (.inr ⟨by simp [d0], by simp [d1], by simp [d2], by simp [d3], by simp [d4], by simp [d5], by simp [d6], by simp [d7], by simp [d8], by simp [d9], by simp [d10], by simp, _, rfl⟩)⟩
end Go.Proofs.YtfkagknikmibjaaDoor

/- Laws of division: DivSmall. -/
set_option linter.unusedVariables false
set_option linter.unusedSimpArgs false
namespace Go.Proofs.YtfkagknikmibjaaDoor
open Go.RowKit Go.Shelf
attribute [local go_sem] max2_i min2_i max_two min_two

/-- The natural of a row of digits. -/
def dv (m : Nat) : List Nat → Nat
  | [] => 0
  | d :: l => d + m * dv m l
theorem dv_snoc (m d : Nat) : ∀ l, dv m (l ++ [d]) = dv m l + m ^ l.length * d
  | [] => by simp [dv]
  | x :: l => by
    simp only [List.cons_append, dv, dv_snoc m d l, List.length_cons, Nat.pow_succ]
    grind
theorem dv_drop (m : Nat) : ∀ (l : List Nat) (j : Nat), j < l.length → dv m (l.drop j) = gl l j + m * dv m (l.drop (j + 1)) := fun l j h => by
  rw [drop_cons l j h]; rfl
theorem dv_drop_le (m : Nat) (hm : 0 < m) : ∀ (l : List Nat) (j : Nat), dv m (l.drop j) ≤ dv m l
  | [], j => by simp
  | x :: l, 0 => by simp
  | x :: l, j + 1 => by
    simp only [List.drop_succ_cons, dv]
    have h1 := dv_drop_le m hm l j
    have h2 := Nat.le_mul_of_pos_left (dv m l) hm
    omega
theorem NatV.far {W W' : World} {A : Option Addr} {c n : Nat} {row : Option Nat} (h : NatV W A c n) (hg : W.grownBy W' row) (hne : ∀ ad, A = some ad → row ≠ some ad.block) : NatV W' A c n := by
  refine ⟨?_, h.cap, h.cmax⟩
  rcases h.rd with h1 | ⟨ad, rfl, h1⟩
  · exact .inl h1
  · refine .inr ⟨ad, rfl, fun i u hu => ?_⟩
    have h2 := h1 i u hu
    have e : (ad.add i).block = ad.block := by cases ad; simp only [Addr.add]; try (split <;> rfl)
    have h3 := World.block_lt_of_cell? W _ h2
    have h4 := hg.block (ad.add i).block h3 (fun e2 => hne ad rfl (by rw [← e]; exact e2.symm ▸ rfl))
    rw [World.cell?_of_block h4]; exact h2
theorem at_newD {W : World} {o : Obj} {k : Nat} (h : k = W.heap.size) : (W.alloc o).drew.heap[k]? = some o := at_new h
theorem at_oldD {W : World} {o : Obj} {k : Nat} {x : Option Obj} (h : k < W.heap.size) (hx : W.heap[k]? = x) : (W.alloc o).drew.heap[k]? = x := at_old h hx
theorem bel1 (W : World) (o : Obj) : Below W.heap.size W (W.alloc o).drew := ((Below.refl _ _).alloc (Nat.le_refl _) _).drew
theorem bel2 (W : World) (o p : Obj) : Below W.heap.size W ((W.alloc o).alloc p).drew := (((Below.refl _ _).alloc (Nat.le_refl _) _).alloc (by simp) _).drew
theorem small_len {a m n : Nat} (ha : nl a ≤ 20) (hm : 2 ≤ m) (h : a / m ^ n ≠ 0) : n < 32 * 20 := by
  have h1 := nl_le.1 ha
  have h2 : m ^ n ≤ a := Nat.le_of_not_lt fun hlt => h (Nat.div_eq_of_lt hlt)
  have h3 : 2 ^ n ≤ m ^ n := Nat.pow_le_pow_left hm n
  rw [← pow32] at h1
  exact (Nat.pow_lt_pow_iff_right (by decide : 1 < 2)).1 (Nat.lt_of_le_of_lt (Nat.le_trans h3 h2) h1)
theorem rmul1_c (m : Nat) (hm : 2 ≤ m) (hm2 : m < 4294967296) (W : World) (k : Nat) (O : Option Addr) (co ov : Nat) (h : W.heap[k]? = some (.cells #[.int .u32 (m : Nat)] 23 (0, 0))) (hO : NatV W O co ov) (ho : nl ov ≤ 20) :
    Calls Tryd.prog 26 #[.slice O (nl ov) co, .slice (some ⟨k, 0, none⟩) 1 1] W (RetN W (ov * m)) := by
  have e : limbs m = [m] := by
    have := limbs_val (l := [m]) (Lim.one hm2) (.inr (by simp; omega))
    simpa [val] using this
  have hn : nl m = 1 := by unfold nl; rw [e]; rfl
  have hM : NatV W (some ⟨k, 0, none⟩) 1 m := ⟨by rw [e]; exact rd_one W k m h, by rw [hn]; exact Nat.le_refl _, by decide⟩
  have := rmul_c O co ov _ 1 m W hO hM (by omega) (by rw [hn]; decide)
  rwa [hn] at this
set_option maxRecDepth 100000 in
set_option maxHeartbeats 4000000 in
theorem divSmall_c (A : Option Addr) (c : Nat) (l : List Nat) (m : Nat) (w : World) (hG : Flds w) (hl : Rd w A l) (Ll : Lim l) (Ql : l.length ≤ maxLen) (Cl : l.length ≤ c) (Zl : A = none → c = 0) (hm32 : m < 4294967296) :
    Calls Tryd.prog 12 #[.slice A l.length c, .int .u32 (m : Nat)] w fun e w' => e = .returned (.bool true) ∧ Below w.heap.size w w' := by
  replace Zl := Lib.hid Zl
  go_enter Tryd.func12, Tryd.ntmps12
  go_wp2_with (fail)
  refine (Calls.mono (head_c _ hG) ?_)
  rintro e W1 ⟨rfl, hb1⟩
  replace hG := hG.below hb1
  replace hl := hl.below hb1
  have HBT := hb1
  clear hb1
  go_wp2_with (fail)
  obtain ⟨a, Ea⟩ : ∃ zq : Nat, zq = val (l.take 20) := ⟨_, rfl⟩
  have Ba : nl a ≤ 20 := by rw [Ea]; exact made_nl l Ll 20
  refine (Calls.mono (R := RetN W1 a) (by rw [Ea]; exact (made_n_c A c 20 l _ hl Ll Ql Cl Zl.out (by decide))) ?_)
  replace Ea := Lib.hid Ea
  rintro e W2 ⟨X2, c2, rfl, ha, hb2⟩
  replace hG := hG.below hb2
  replace hl := hl.below hb2
  replace HBT := Below.cons HBT hb2
  clear hb2
  by_cases hm0 : m = 0
  · have CZ : Calls Tryd.prog 22 #[.slice X2 (nl a) c2, .int .u32 (m : Nat)] W2 (RetSZ W2) := by rw [hm0]; exact dsmallZ_c _ _ _ _
    have t1 : decide ((m : Int) < 2) = true := by simp; omega
    have t2 : ((m : Int) == 1) = false := ieqF (by omega)
    have t3 : ((m : Int) == 0) = true := ieqT (by omega)
    replace hm0 := Lib.hid hm0
    have hnil := nat_nil (W2)
    have Nnil : Hid (nl 0 = 0) := Lib.hid nl_zero
    have Bnil : nl 0 ≤ 0 := Nat.le_of_eq nl_zero
    go_wp2_with (fail)
    refine (Calls.mono (CZ) ?_)
    rintro e W3 ⟨rfl, hb3⟩
    replace hG := hG.below hb3
    replace hl := hl.below hb3
    replace ha := ha.below hb3
    replace hnil := hnil.below hb3
    replace HBT := Below.cons HBT hb3
    clear hb3
    clear CZ
    have hb4 : Below (W3).heap.size (W3) ((W3).alloc (.cells #[.int .u32 (m : Nat)] 23)) := (Below.refl _ _).alloc (Nat.le_refl _) _
    have g1 := heap_alloc_new (W3) (.cells #[.int .u32 (m : Nat)] 23)
    replace hG := hG.below hb4
    replace hl := hl.below hb4
    replace ha := ha.below hb4
    replace hnil := hnil.below hb4
    replace HBT := Below.cons HBT hb4
    clear hb4
    go_wp2_with (fail)
    obtain ⟨b, Eb⟩ : ∃ zq : Nat, zq = m := ⟨_, rfl⟩
    have Bb : nl b ≤ 1 := by rw [Eb]; exact nl_le.2 (by omega)
    refine (Calls.mono (R := RetN ((W3).alloc (.cells #[.int .u32 (m : Nat)] 23)) b) (by rw [Eb]; exact (rmake1_c _ _ m g1 hm32)) ?_)
    replace Eb := Lib.hid Eb
    rintro e W5 ⟨X5, c5, rfl, hb, hb5⟩
    replace hG := hG.below hb5
    replace hl := hl.below hb5
    replace ha := ha.below hb5
    replace hnil := hnil.below hb5
    replace HBT := Below.cons HBT hb5
    clear hb5
    clear g1
    go_wp2_with (fail)
    refine (Calls.mono (ddivZ_e X2 c2 a X5 c5 b _ (by rw [Eb.out, hm0.out])) ?_)
    rintro e W6 ⟨rfl, hb6⟩
    replace hG := hG.below hb6
    replace hl := hl.below hb6
    replace ha := ha.below hb6
    replace hnil := hnil.below hb6
    replace hb := hb.below hb6
    replace HBT := Below.cons HBT hb6
    clear hb6
    go_wp2_with (fail)
    refine (Calls.mono (at_len2 Nnil.out Nnil.out (same1_t none 0 0 none 0 0 _ hnil hnil (by omega) (by omega) (by rfl))) ?_)
    rintro e W7 ⟨rfl, hb7⟩
    replace hG := hG.below hb7
    replace hl := hl.below hb7
    replace ha := ha.below hb7
    replace hnil := hnil.below hb7
    replace hb := hb.below hb7
    replace HBT := Below.cons HBT hb7
    clear hb7
    have hb8 : Below (W7).heap.size (W7) ((W7).alloc (.cells #[.int .u32 (0 : Nat)] 23)) := (Below.refl _ _).alloc (Nat.le_refl _) _
    have g2 := heap_alloc_new (W7) (.cells #[.int .u32 (0 : Nat)] 23)
    replace hG := hG.below hb8
    replace hl := hl.below hb8
    replace ha := ha.below hb8
    replace hnil := hnil.below hb8
    replace hb := hb.below hb8
    replace HBT := Below.cons HBT hb8
    clear hb8
    go_wp2_with (fail)
    obtain ⟨z, Ez⟩ : ∃ zq : Nat, zq = 0 := ⟨_, rfl⟩
    have Bz : nl z ≤ 0 := by rw [Ez]; rw [nl_zero]; exact Nat.le_refl _
    refine (Calls.mono (R := RetN ((W7).alloc (.cells #[.int .u32 (0 : Nat)] 23)) z) (by rw [Ez]; exact (rmake1_c _ _ 0 g2 (by decide))) ?_)
    replace Ez := Lib.hid Ez
    rintro e W9 ⟨X9, c9, rfl, hz, hb9⟩
    replace hG := hG.below hb9
    replace hl := hl.below hb9
    replace ha := ha.below hb9
    replace hnil := hnil.below hb9
    replace hb := hb.below hb9
    replace HBT := Below.cons HBT hb9
    clear hb9
    clear g2
    go_wp2_with (fail)
    refine (Calls.mono (at_lenR Nnil.out (same1_t X9 c9 z none 0 0 _ hz hnil (by omega) (by omega) (by rw [Ez.out]))) ?_)
    rintro e W10 ⟨rfl, hb10⟩
    replace hG := hG.below hb10
    replace hl := hl.below hb10
    replace ha := ha.below hb10
    replace hnil := hnil.below hb10
    replace hb := hb.below hb10
    replace hz := hz.below hb10
    replace HBT := Below.cons HBT hb10
    clear hb10
    go_wp2_with (fail)
    go_ret
    exact ⟨rfl, HBT⟩
  · have hm1 : 0 < m := by omega
    obtain ⟨r, Er⟩ : ∃ zq : Nat, zq = a % m := ⟨_, rfl⟩
    have Br : r < 4294967296 := by rw [Er]; exact Nat.lt_trans (Nat.mod_lt _ hm1) hm32
    obtain ⟨q, Eq⟩ : ∃ zq : Nat, zq = a / m := ⟨_, rfl⟩
    have Bq : nl q ≤ 20 := by rw [Eq]; have := nl_div a m; omega
    have CS := dsmall_c X2 c2 a m _ ha (by omega) hm32 hm1
    rw [← Eq, ← Er] at CS
    replace Eq := Lib.hid Eq
    replace Er := Lib.hid Er
    replace CS := Lib.hid CS
    go_wp2_with (fail)
    refine (Calls.mono CS.out ?_)
    clear CS
    rintro e W3 ⟨Xq, cq, rfl, hq, hb3⟩
    replace hG := hG.below hb3
    replace hl := hl.below hb3
    replace ha := ha.below hb3
    replace HBT := Below.cons HBT hb3
    clear hb3
    have hb4 : Below (W3).heap.size (W3) ((W3).alloc (.cells #[.int .u32 (m : Nat)] 23)) := (Below.refl _ _).alloc (Nat.le_refl _) _
    have g1 := heap_alloc_new (W3) (.cells #[.int .u32 (m : Nat)] 23)
    replace hG := hG.below hb4
    replace hl := hl.below hb4
    replace ha := ha.below hb4
    replace hq := hq.below hb4
    replace HBT := Below.cons HBT hb4
    clear hb4
    go_wp2_with (fail)
    obtain ⟨b, Eb⟩ : ∃ zq : Nat, zq = m := ⟨_, rfl⟩
    have Bb : nl b ≤ 1 := by rw [Eb]; exact nl_le.2 (by omega)
    refine (Calls.mono (R := RetN ((W3).alloc (.cells #[.int .u32 (m : Nat)] 23)) b) (by rw [Eb]; exact (rmake1_c _ _ m g1 hm32)) ?_)
    replace Eb := Lib.hid Eb
    rintro e W5 ⟨X5, c5, rfl, hb, hb5⟩
    replace hG := hG.below hb5
    replace hl := hl.below hb5
    replace ha := ha.below hb5
    replace hq := hq.below hb5
    replace HBT := Below.cons HBT hb5
    clear hb5
    clear g1
    go_wp2_with (fail)
    have pb : 0 < b := by rw [Eb.out]; exact hm1
    obtain ⟨s, Es⟩ : ∃ zq : Nat, zq = a / b := ⟨_, rfl⟩
    have Bs : nl s ≤ 20 := by rw [Es]; have := nl_div a b; omega
    obtain ⟨u, Eu⟩ : ∃ zq : Nat, zq = a % b := ⟨_, rfl⟩
    have Bu : nl u ≤ 20 := by rw [Eu]; have := nl_mod_le a b; omega
    have CT6 := (ddivmod_c X2 c2 a X5 c5 b _ ha hb (by omega) (by omega) pb)
    rw [← Es, ← Eu] at CT6
    replace Es := Lib.hid Es
    replace Eu := Lib.hid Eu
    refine (Calls.mono CT6 ?_)
    clear CT6
    rintro e W6 ⟨Xs, cs, Xu, cu, rfl, hs, hu, hb6⟩
    replace hG := hG.below hb6
    replace hl := hl.below hb6
    replace ha := ha.below hb6
    replace hq := hq.below hb6
    replace hb := hb.below hb6
    replace HBT := Below.cons HBT hb6
    clear hb6
    go_wp2_with (fail)
    refine (Calls.mono (same1_t Xq cq q Xs cs s _ hq hs (by omega) (by omega) (by rw [Eq.out, Es.out, Eb.out])) ?_)
    rintro e W7 ⟨rfl, hb7⟩
    replace hG := hG.below hb7
    replace hl := hl.below hb7
    replace ha := ha.below hb7
    replace hq := hq.below hb7
    replace hb := hb.below hb7
    replace hs := hs.below hb7
    replace hu := hu.below hb7
    replace HBT := Below.cons HBT hb7
    clear hb7
    have hb8 : Below (W7).heap.size (W7) ((W7).alloc (.cells #[.int .u32 (r : Nat)] 23)) := (Below.refl _ _).alloc (Nat.le_refl _) _
    have g2 := heap_alloc_new (W7) (.cells #[.int .u32 (r : Nat)] 23)
    replace hG := hG.below hb8
    replace hl := hl.below hb8
    replace ha := ha.below hb8
    replace hq := hq.below hb8
    replace hb := hb.below hb8
    replace hs := hs.below hb8
    replace hu := hu.below hb8
    replace HBT := Below.cons HBT hb8
    clear hb8
    go_wp2_with (fail)
    obtain ⟨z, Ez⟩ : ∃ zq : Nat, zq = r := ⟨_, rfl⟩
    have Bz : nl z ≤ 1 := by rw [Ez]; exact nl_le.2 (by omega)
    refine (Calls.mono (R := RetN ((W7).alloc (.cells #[.int .u32 (r : Nat)] 23)) z) (by rw [Ez]; exact (rmake1_c _ _ r g2 Br)) ?_)
    replace Ez := Lib.hid Ez
    rintro e W9 ⟨X9, c9, rfl, hz, hb9⟩
    replace hG := hG.below hb9
    replace hl := hl.below hb9
    replace ha := ha.below hb9
    replace hq := hq.below hb9
    replace hb := hb.below hb9
    replace hs := hs.below hb9
    replace hu := hu.below hb9
    replace HBT := Below.cons HBT hb9
    clear hb9
    clear g2
    go_wp2_with (fail)
    refine (Calls.mono (same1_t X9 c9 z Xu cu u _ hz hu (by omega) (by omega) (by rw [Ez.out, Er.out, Eu.out, Eb.out])) ?_)
    rintro e W10 ⟨rfl, hb10⟩
    replace hG := hG.below hb10
    replace hl := hl.below hb10
    replace ha := ha.below hb10
    replace hq := hq.below hb10
    replace hb := hb.below hb10
    replace hs := hs.below hb10
    replace hu := hu.below hb10
    replace hz := hz.below hb10
    replace HBT := Below.cons HBT hb10
    clear hb10
    by_cases hm2 : m = 1
    · have t1 : decide ((m : Int) < 2) = true := by simp; omega
      have t2 : ((m : Int) == 1) = true := ieqT (by omega)
      have t3 : ((r : Int) == 0) = true := ieqT (by rw [Er.out, hm2, Nat.mod_one]; rfl)
      replace hm2 := Lib.hid hm2
      go_wp2_with (fail)
      refine (Calls.mono (same1_t Xq cq q X2 c2 a _ hq ha (by omega) (by omega) (by rw [Eq.out, hm2.out, Nat.div_one])) ?_)
      rintro e W11 ⟨rfl, hb11⟩
      replace hG := hG.below hb11
      replace hl := hl.below hb11
      replace ha := ha.below hb11
      replace hq := hq.below hb11
      replace hb := hb.below hb11
      replace hs := hs.below hb11
      replace hu := hu.below hb11
      replace hz := hz.below hb11
      replace HBT := Below.cons HBT hb11
      clear hb11
      go_wp2_with (fail)
      go_ret
      exact ⟨rfl, HBT⟩
    · have hm3 : 2 ≤ m := by omega
      have t1 : decide ((m : Int) < 2) = false := by simp; omega
      clear hq
      clear hb
      clear hs
      clear hu
      clear hz
      replace HBT := Lib.hid HBT
      have hown0 : (W10.alloc (.cells #[] 23)).ownsRow W10.heap.size 23 1 (.slice (some ⟨W10.heap.size, 0, none⟩) 0 0) 0 [] := World.ownsRow_lit W10 #[] 0 (Nat.le_refl _) (by decide) rfl
      have hb0 : Below W10.heap.size W10 (W10.alloc (.cells #[] 23)) := (Below.refl _ _).alloc (Nat.le_refl _) _
      obtain ⟨i0, hi, hz0, hz1, hz2⟩ := info_parts info_u32
      replace hm2 := Lib.hid hm2
      have HA : ∀ W, Below W10.heap.size W10 W → NatV W X2 c2 a := fun W h => ha.below h
      have ha1 := HA _ hb0
      replace HA := Lib.hid HA
      go_wp2_with (fail)
      go_loopw [12, 13, 14, 15, 16, 17] (fun l x i y d e wr => ∃ (L : List Nat) (n : Nat) (X : Option Addr) (cx xv : Nat), x = .slice X (nl xv) cx ∧ i = .int .i64 (n : Nat) ∧ Below W10.heap.size W10 wr ∧ wr.ownsRow W10.heap.size 23 1 l n (vals L) ∧ NatV wr X cx xv ∧
        Hid (L.length = n) ∧ Hid (xv = a / m ^ n) ∧ Hid (dv m L + m ^ n * xv = a) ∧ Lim L ∧ Hid (∀ j, j < n → gl L j < m) ∧ nl xv ≤ 20 ∧ n ≤ 640) (fun l x i y d e wr => 641 - (intOf i).toNat)
      case atStart => exact ⟨[], 0, _, _, a, rfl, rfl, hb0, hown0, ha1, Lib.hid rfl, Lib.hid (by rw [Nat.pow_zero, Nat.div_one]), Lib.hid (by simp [dv]), Lim.nil, Lib.hid (fun j h => by omega), Ba, by decide⟩
      case round =>
        obtain ⟨L, n, X, cx, xv, rfl, rfl, hb, hown, hX, hlen, hxv, hdv, hlim, hdig, hxl, hn640⟩ := hrel
        have t4 : decide ((n : Int) < 700) = true := by simp; omega
        by_cases hx0 : xv = 0
        · have t5 : decide (0 < (nl xv : Int)) = false := by rw [hx0, nl_zero]; rfl
          have t8 : decide (0 < nl xv) = false := by rw [hx0, nl_zero]; rfl
          have hdv2 : dv m L = a := by have := hdv.out; rw [hx0, Nat.mul_zero] at this; exact this
          have exl : ((nl xv : Int) == 0) = true := ieqT (by rw [hx0, nl_zero]; rfl)
          obtain ⟨V, cv, rfl, hcv, hcm, hrd⟩ := ownV_rd hown
          obtain ⟨W1, hW1⟩ : ∃ W1, W1 = wr.alloc (.cells #[] 23) := ⟨_, rfl⟩
          have hbw : Below wr.heap.size wr W1 := by rw [hW1]; exact (Below.refl _ _).alloc (Nat.le_refl _) _
          have hRd : ∀ W, Below W1.heap.size W1 W → Rd W V L := fun W h => (RdV.below hrd hbw).below h
          have hB1 : Below W10.heap.size W10 W1 := hb.cons hbw
          have hnil : ∀ P, NatV W1 P 0 0 := fun P => ⟨.inl (by simp [vals, limbs_zero]), by rw [nl_zero]; exact Nat.le_refl _, by decide⟩
          replace hRd := Lib.hid hRd
          replace hdv2 := Lib.hid hdv2
          replace hx0 := Lib.hid hx0
          replace hB1 := Lib.hid hB1
          clear hown hrd hdv hbw hX hb
          go_wp2_with (fail)
          rw [← hW1]
          replace hW1 := Lib.hid hW1
          go_loopw [18, 19] (fun o i wt => ∃ (O : Option Addr) (co ov k : Nat), o = .slice O (nl ov) co ∧ i = .int .i64 ((k : Int) - 1) ∧ k ≤ n ∧ NatV wt O co ov ∧ Hid (ov = dv m (L.drop k)) ∧ Hid (Below W1.heap.size W1 wt)) (fun o i wt => (intOf i + 1).toNat)
          case atStart => exact ⟨_, 0, 0, n, by rw [nl_zero], rfl, Nat.le_refl _, hnil _, Lib.hid (by rw [List.drop_of_length_le (by rw [hlen.out]; exact Nat.le_refl _)]; rfl), Lib.hid (Below.refl _ _)⟩
          case round =>
            obtain ⟨O, co, ov, k, rfl, rfl, hkn, hO, hov, hbt⟩ := hrel
            have hovl : nl ov ≤ 20 := by
              have h1 := dv_drop_le m hm1 L k
              rw [hdv2.out, ← hov.out] at h1
              exact Nat.le_trans (nl_mono h1) Ba
            by_cases hk0 : k = 0
            · have t6 : decide (0 ≤ (k : Int) - 1) = false := by simp; omega
              have hfin : ov = a := by rw [hov.out, hk0, List.drop_zero, hdv2.out]
              have hAt := HA.out _ (hB1.out.cons hbt.out)
              have CE := same1_t O co ov _ _ a wr hO hAt (by omega) (by omega) hfin
              replace CE := Lib.hid CE
              replace hfin := Lib.hid hfin
              have HF := hbt
              go_wp2_with (fail)
              refine CE.out.mono ?_
              rintro e W9 ⟨rfl, hb9⟩
              have HB := (((HBT.out.cons (hB1.out)).cons hbt.out).cons hb9)
              go_wp2_with (fail)
              go_ret
              exact ⟨rfl, HB⟩
            · have t6 : decide (0 ≤ (k : Int) - 1) = true := by simp; omega
              obtain ⟨j, Ej⟩ : ∃ j, k = j + 1 := ⟨k - 1, by omega⟩
              have K1 : (k : Int) - 1 = (j : Int) := by omega
              have hjn : j < n := by omega
              obtain ⟨vd, rfl, hc⟩ := (hRd.out _ hbt.out).get j (by rw [hlen.out]; exact hjn)
              obtain ⟨dg, Edg⟩ : ∃ z, z = gl L j := ⟨_, rfl⟩
              have hdl : dg < 4294967296 := by rw [Edg]; exact hlim.gl j
              have hdm : dg < m := by rw [Edg]; exact hdig.out j hjn
              rw [← Edg] at hc
              have t7 : decide ((m : Int) ≤ (dg : Int)) = false := by simp; omega
              obtain ⟨pr, Epr⟩ : ∃ z, z = ov * m := ⟨_, rfl⟩
              obtain ⟨sm, Esm⟩ : ∃ z, z = pr + dg := ⟨_, rfl⟩
              have hfin : sm = dv m (L.drop j) := by
                rw [Esm, Epr, dv_drop m L j (by rw [hlen.out]; exact hjn), hov.out, Edg, Ej, Nat.mul_comm, Nat.add_comm]
              have hprl : nl pr ≤ 22 := by
                have h1 := nl_mul ov m
                have h2 : nl m ≤ 1 := nl_le.2 (by omega)
                rw [Epr]; omega
              have CM := fun (W : World) (k : Nat) (h : W.heap[k]? = some (.cells #[.int .u32 (m : Nat)] 23 (0, 0))) (hO : NatV W O co ov) => rmul1_c m hm3 hm32 W k O co ov h hO hovl
              have CA := fun (W : World) (P : Option Addr) (p : Nat) (Q : Option Addr) (q : Nat) (h1 : NatV W P p pr) (h2 : NatV W Q q dg) => radd_c P p pr Q q dg W h1 h2 (by omega) (by have h2 : nl dg ≤ 1 := nl_le.2 (by omega); omega)
              rw [← Epr] at CM
              rw [← Esm] at CA
              have B0 : Below wr.heap.size wr wr.drew := (Below.refl _ _).drew
              have HO : ∀ W, Below wr.heap.size wr W → NatV W O co ov := fun W h => hO.below h
              have HC : ∀ W, Below wr.heap.size wr W → W.cell? (vd.add j) = some (.int .u32 (dg : Nat)) := fun W h => cell_below h hc
              have hc0 := HC _ B0
              replace HO := Lib.hid HO
              replace HC := Lib.hid HC
              replace CM := Lib.hid CM
              replace CA := Lib.hid CA
              replace Edg := Lib.hid Edg
              replace Ej := Lib.hid Ej
              replace Epr := Lib.hid Epr
              replace Esm := Lib.hid Esm
              replace hfin := Lib.hid hfin
              clear hO hov
              go_wp2_with (fail)
              go_region_held3 (fun W => W.cell? (vd.add j) = some (.int .u32 (dg : Nat)))
                (first
                  | exact hc0
                  | exact HC.out _ (bel1 _ _)
                  | exact HC.out _ (bel2 _ _ _)
                  | exact HC.out _ HB3
                  | exact HC.out _ HB2
                  | exact HC.out _ HB1
                  | exact HC.out _ (HB1.alloc HB1.size _)
                  | go_keep)
                (first
                  | (go_at_call 26; (with_reducible refine (CM.out _ _ (by first | exact at_newD (by simp) | exact at_oldD (by simp) (at_new (by simp))) (by first | exact HO.out _ (bel1 _ _) | exact HO.out _ (bel2 _ _ _))).mono ?_); rintro e V1 ⟨P1, p1, rfl, hp, m1⟩; have HB1 := Below.cons (w := wr) (by first | exact bel1 _ _ | exact bel2 _ _ _) m1)
                  | (go_at_call 32; (with_reducible refine (rmake1_c _ _ dg (by first | exact at_new (by simp) | exact (m1.block _ (by first | (simp; done) | (simp; omega))).trans (at_newD (by simp)) | exact (m1.block _ (by first | (simp; done) | (simp; omega))).trans (at_oldD (by simp) (at_new (by simp)))) hdl).mono ?_); rintro e V2 ⟨P2, p2, rfl, hd2, m2⟩; have HB2 := Below.cons (w := wr) (by first | exact HB1 | exact HB1.alloc HB1.size _) m2; have hp2 : NatV V2 P1 p1 pr := NatV.below (by first | exact hp | exact hp.below ((Below.refl _ _).alloc (Nat.le_refl _) _)) m2)
                  | (go_at_call 28; (with_reducible refine (CA.out _ _ _ _ _ hp2 hd2).mono ?_); rintro e V3 ⟨P3, p3, rfl, hs3, m3⟩; have HB3 := Below.cons (w := wr) HB2 m3))
              all_goals (clear hp hp2 hd2 m1 m2 m3)
              all_goals (try go_wp2_with (fail))
              all_goals go_roundw
              all_goals first
                | exact ⟨P3, p3, sm, j, rfl, by go_num, by omega, hs3, hfin, Lib.hid (hbt.out.cons HB3)⟩
                | (simp only [intOf]; omega)
        · have t5 : decide (0 < (nl xv : Int)) = true := by have := nl_pos.2 hx0; simp; omega
          have t8 : decide (0 < nl xv) = true := by have := nl_pos.2 hx0; simp; omega
          have CS := dsmall_f X cx xv m wr hX (by omega) hm32 hm1
          obtain ⟨y, Ey⟩ : ∃ y, y = xv / m := ⟨_, rfl⟩
          obtain ⟨dg, Edg⟩ : ∃ d, d = xv % m := ⟨_, rfl⟩
          have hdl : dg < m := by rw [Edg]; exact Nat.mod_lt _ hm1
          have hyl : nl y ≤ 20 := by rw [Ey]; exact Nat.le_trans (nl_div _ _) hxl
          have hyv : y = a / m ^ (n + 1) := by rw [Ey, hxv.out, Nat.div_div_eq_div_mul, Nat.pow_succ]
          have hdv2 : dv m (L ++ [dg]) + m ^ (n + 1) * y = a := by
            have h1 := hdv.out
            have h2 := Nat.div_add_mod xv m
            rw [← Ey, ← Edg] at h2
            rw [dv_snoc, hlen.out, Nat.pow_succ]
            rw [← h2] at h1
            rw [← h1]
            grind
          have hn1 : n + 1 ≤ 640 := by have := small_len Ba hm3 (n := n) (by rw [← hxv.out]; exact hx0); omega
          rw [← Ey, ← Edg] at CS
          replace CS := Lib.hid CS
          replace Ey := Lib.hid Ey
          replace Edg := Lib.hid Edg
          replace hyv := Lib.hid hyv
          replace hdv2 := Lib.hid hdv2
          replace hx0 := Lib.hid hx0
          go_wp2_with (fail)
          refine CS.out.mono ?_
          rintro e W1 ⟨Y, cy, rfl, hY, hb1, hFr⟩
          have hown1 := own_below hown hb1
          have hbn := hb.cons hb1
          obtain ⟨V, cv, rfl, _, _, _⟩ := ownV_rd hown
          have hfar : ∀ ad, Y = some ad → Value.ownBlock (.slice V n cv) ≠ some ad.block := fun ad e h => by
            have h1 := hFr.1 ad e
            rcases hown.2 with ⟨e2, _⟩ | ⟨g, cap, cur, e2, _, hg, _⟩
            · rw [e2] at h; simp [Value.ownBlock] at h
            · rw [e2] at h
              have h2 : g < wr.heap.size := (Array.getElem?_eq_some_iff.1 hg).1
              have h3 : g = ad.block := by simpa [Value.ownBlock] using h
              omega
          go_wp2_with (at_builtin; refine wpList_append_own_at _ rfl _ _ 22 rfl W10.heap.size 23 i0 (.int .u32 0) 1 4 Tryd.underlying22 hi hz0 hz1 hz2 rfl (by decide) _ n (vals L) rfl (hown1.alloc _) ⟨W1.heap.size, 0, none⟩ 1 1 [.int .u32 (dg : Nat)] rfl rfl (cell_one_new _ _ _) (by simp [Value.oneCell']) (by simp only [maxLen]; omega) (by omega) (by simp; have := hbn.size; omega) ?_)
          intro v' w1 hown2 hg1 _ _
          have hba : Below W1.heap.size W1 (W1.alloc (.cells #[.int .u32 (dg : Nat)] 23)) := (Below.refl _ _).alloc (Nat.le_refl _) _
          have hY2 : NatV w1 Y cy y := (hY.below hba).far hg1 hfar
          have hb2 : Below W10.heap.size W10 w1 := (hbn.cons hba).grown hg1 (by simp; have := hbn.size; omega) (fun k e => own_base' hown k e)
          replace hown2 := Lib.hid hown2
          replace hg1 := Lib.hid hg1
          clear hfar
          go_wp2_with (fail)
          go_roundw
          case rel =>
            refine ⟨L ++ [dg], n + 1, Y, cy, y, rfl, by go_num, hb2, by rw [vals_append]; exact hown2.out, hY2, Lib.hid (by simp [hlen.out]), hyv, hdv2, hlim.append (Lim.one (by omega)), Lib.hid ?_, hyl, hn1⟩
            intro j hj
            by_cases hjn : j < n
            · have : gl (L ++ [dg]) j = gl L j := by simp only [gl, List.getD_eq_getElem?_getD]; rw [List.getElem?_append_left (by rw [hlen.out]; exact hjn)]
              rw [this]; exact hdig.out j hjn
            · have e : j = L.length := by rw [hlen.out]; omega
              have : gl (L ++ [dg]) j = dg := by rw [e]; simp [gl]
              rw [this]; exact hdl
          case measure => simp only [intOf]; omega

end Go.Proofs.YtfkagknikmibjaaDoor
