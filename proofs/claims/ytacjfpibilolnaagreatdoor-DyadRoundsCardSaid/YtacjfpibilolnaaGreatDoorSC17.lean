/- Division by a limb, walked: a range over slices.Backward. -/
import Derived.Test.YtacjfpibilolnaaGreatDoorSC16
import Derived.Test.YtacjfpibilolnaaGreatDoorSC12
import Derived.RangeFuncNested
import Derived.Laws.EntriesVeiled
set_option maxRecDepth 100000
set_option maxHeartbeats 4000000
set_option linter.unusedVariables false
set_option linter.unusedSimpArgs false
namespace Go.Proofs.YtacjfpibilolnaaGreatDoor
open Go.RowKit Go.Shelf

attribute [local go_sem] Oper.semAt_some

def runD (m n : Nat) (a : List Nat) (pre : List {x : Nat // x < n}) : List Nat × Nat :=
  pre.foldl (fun s x => (s.1.set x.1 ((s.2 * 4294967296 + gl a x.1) / m), (s.2 * 4294967296 + gl a x.1) % m)) (List.replicate n 0, 0)
theorem runD_snoc (m n : Nat) (a : List Nat) (pre : List {x : Nat // x < n}) (x : {x : Nat // x < n}) : runD m n a (pre ++ [x]) = ((runD m n a pre).1.set x.1 (((runD m n a pre).2 * 4294967296 + gl a x.1) / m), ((runD m n a pre).2 * 4294967296 + gl a x.1) % m) := by
  simp [runD]
theorem snocI {α : Type} {P : List α → Prop} (h0 : P []) (h1 : ∀ l x, P l → P (l ++ [x])) : ∀ l, P l := fun l => by
  rw [← List.reverse_reverse l]
  induction l.reverse with
  | nil => exact h0
  | cons x l ih => rw [List.reverse_cons]; exact h1 _ _ ih
theorem boxed_other {W : World} {B : Nat} {t : TypeId} {v : Value} (h : Boxed W B t v) (p : Addr) (hne : B ≠ p.block) (u : Value) : Boxed (W.setCell p u) B t v := (Below.heap_setCell W p u B hne).trans h
theorem dig_div {h x m : Nat} (hh : h < m) (hx : x < 4294967296) : (h * 4294967296 + x) / m < 4294967296 := by
  rw [Nat.div_lt_iff_lt_mul (by omega)]
  have h1 : (h + 1) * 4294967296 ≤ m * 4294967296 := Nat.mul_le_mul_right _ (by omega)
  rw [Nat.mul_comm 4294967296 m]
  omega
theorem runD_ok {m n : Nat} {a : List Nat} (ha : Lim a) (hm : 0 < m) (pre : List {x : Nat // x < n}) : (runD m n a pre).1.length = n ∧ Lim (runD m n a pre).1 ∧ (runD m n a pre).2 < m := by
  induction pre using snocI with
  | h0 => exact ⟨by simp [runD], Lim.replicate n 0 (by decide), hm⟩
  | h1 pre x ih =>
    rw [runD_snoc]
    exact ⟨by rw [List.length_set]; exact ih.1, ih.2.1.set _ _ (dig_div ih.2.2 (ha.gl _)), Nat.mod_lt _ hm⟩
theorem div_dig_step {u q R m g B : Nat} (hm : 0 < m) (hu : u = (q * m + R) * B + g) : u / m = q * B + (R * B + g) / m ∧ u % m = (R * B + g) % m := by
  have e : u = (R * B + g) + m * (q * B) := by rw [hu, Nat.add_mul]; grind
  rw [e, Nat.add_mul_div_left _ _ hm, Nat.add_mul_mod_self_left]
  exact ⟨by omega, rfl⟩
theorem runD_val (a m n : Nat) (hn : nl a ≤ n) (hm : 0 < m) : ∀ d, d ≤ n → ∀ k, k + d = n → val (runD m n (limbs a) (upto n d)).1 = a / 4294967296 ^ k / m * 4294967296 ^ k ∧ (runD m n (limbs a) (upto n d)).2 = a / 4294967296 ^ k % m ∧ ∀ j, j < k → gl (runD m n (limbs a) (upto n d)).1 j = 0 := by
  intro d
  induction d with
  | zero =>
    intro _ k hk
    rw [div_nl (show nl a ≤ k by omega)]
    refine ⟨by simp [runD, upto, val_replicate], by simp [runD, upto], fun j _ => ?_⟩
    simp [runD, upto, gl, List.getD_eq_getElem?_getD, List.getElem?_replicate]
    split <;> rfl
  | succ d ih =>
    intro hd k hk
    obtain ⟨i1, i2, i3⟩ := ih (by omega) (k + 1) (by omega)
    have hs := upto_step (n := n) (k := k) (by omega)
    rw [show n - (k + 1) = d by omega, show n - k = d + 1 by omega] at hs
    have hlen := (runD_ok (m := m) (n := n) (lim_limbs a) hm (upto n d)).1
    rw [← hs, runD_snoc]
    have hB : (0 : Nat) < 4294967296 := by decide
    have e1 : a / 4294967296 ^ (k + 1) = a / 4294967296 ^ k / 4294967296 := by rw [Nat.pow_succ, Nat.div_div_eq_div_mul]
    have eg := limbs_gl a k
    obtain ⟨u, hu⟩ : ∃ u, u = a / 4294967296 ^ k := ⟨_, rfl⟩
    rw [← hu] at e1 eg
    rw [e1] at i1 i2
    have hdm := div_dig_step (u := u) (q := u / 4294967296 / m) (R := u / 4294967296 % m) (g := u % 4294967296) (B := 4294967296) hm (by
      have h1 := Nat.div_add_mod u 4294967296
      have h2 := Nat.div_add_mod (u / 4294967296) m
      rw [Nat.mul_comm (u / 4294967296 / m) m, h2]
      exact (Nat.div_add_mod' u 4294967296).symm)
    rw [← hu]
    rw [← i2, ← eg] at hdm
    refine ⟨?_, hdm.2.symm, fun j hj => by rw [gl_set_ne (by dsimp only; omega)]; exact i3 j (by omega)⟩
    have hv := val_set k (((runD m n (limbs a) (upto n d)).2 * 4294967296 + gl (limbs a) k) / m) (l := (runD m n (limbs a) (upto n d)).1) (by rw [hlen]; omega)
    rw [← gl_eq, i3 k (by omega), Nat.mul_zero, Nat.add_zero, i1] at hv
    rw [hv, hdm.1, Nat.pow_succ]
    generalize 4294967296 ^ k = P
    grind
theorem dsmall_c (A : Option Addr) (c a m : Nat) (w : World) (hA : NatV w A c a) (ha : nl a ≤ 16777216) (hm : m < 4294967296) (h0 : 0 < m) :
    Calls Tryz.prog 141 #[.slice A (nl a) c, .int .u32 (m : Nat)] w (RetS w (a / m) (a % m)) := by
  refine (callsIn_wide (n := 4)).1 ?_
  have hmk := mk32 (nl a) (nl a) (by omega) (by omega) (by omega)
  simp only [Int.toNat_natCast] at hmk
  have hmb : ((m : Int) == 0) = false := ieqF (by omega)
  obtain ⟨n, hn⟩ : ∃ n, n = nl a := ⟨_, rfl⟩
  have hla : (limbs a).length = n := hn.symm
  have hnl : n ≤ 16777216 := by omega
  have HA := Lib.hid hA
  rw [← hn] at hmk
  rw [show nl a = n from hn.symm]
  replace hn := Lib.hid hn
  clear hA ha
  refine callsIn_of_wp_marks Tryz.func141 rfl trivial ?_ rfl
  simp only [Tryz.ntmps141, List.size_toArray, List.length_cons, List.length_nil, Nat.reduceAdd, Nat.reduceSub, Array.replicate_succ, Array.replicate_zero, List.push_toArray, List.append_toArray, List.nil_append, List.cons_append]
  gi_wp2_with (first
    | (refine ⟨trivial, ?_⟩; gi_at_call 156; refine (callsIn_wide.2 (backward_c A n c _)).mono ?_; rintro e w' ⟨rfl, rfl⟩))
  obtain ⟨s, hs0⟩ : ∃ s, s = w.heap.size := ⟨_, rfl⟩
  obtain ⟨W8, hW8⟩ : ∃ W8, (((((w.alloc (.cells #[.int .u32 (m : Nat)] 58)).alloc (.cells (madeCells #[.int .u32 0] n) 58)).alloc (.cells #[.slice (some ⟨s + 1, 0, none⟩) n n] 22)).alloc (.cells #[.int .u32 0] 58)).alloc (.cells #[.slice A n c] 22)) = W8 := ⟨_, rfl⟩
  have bM : Boxed W8 s 58 (.int .u32 (m : Nat)) := by
    subst hs0 hW8; unfold Boxed; repeat (first | exact at_new (by simp) | refine at_old (by simp <;> omega) ?_)
  have bO : Boxed W8 (s + 2) 22 (.slice (some ⟨s + 1, 0, none⟩) n n) := by
    subst hs0 hW8; unfold Boxed; repeat (first | exact at_new (by simp) | refine at_old (by simp <;> omega) ?_)
  have bR : Boxed W8 (s + 3) 58 (.int .u32 0) := by
    subst hs0 hW8; unfold Boxed; repeat (first | exact at_new (by simp) | refine at_old (by simp <;> omega) ?_)
  have bA : Boxed W8 (s + 4) 22 (.slice A n c) := by
    subst hs0 hW8; unfold Boxed; repeat (first | exact at_new (by simp) | refine at_old (by simp <;> omega) ?_)
  have hR8 : W8.heap[s + 1]? = some (.cells (madeCells #[.int .u32 0] n) 58 (0, 0)) := by
    subst hs0 hW8; repeat (first | exact at_new (by simp) | refine at_old (by simp <;> omega) ?_)
  have hsz : W8.heap.size = s + 5 := by subst hs0 hW8; simp
  have hB0 : Below s w W8 := by
    subst hs0 hW8
    exact ((((((Below.refl _ w).alloc (Nat.le_refl _) _).alloc (by simp) _).alloc (by simp; omega) _).alloc (by simp; omega) _).alloc (by simp; omega) _)
  have hown0 : W8.ownsRow s 58 1 (.slice (some ⟨s + 1, 0, none⟩) n n) n (vals (List.replicate n 0)) := by
    refine ⟨by simp [vals], .inr ⟨s + 1, n, _, rfl, by omega, hR8, Nat.le_refl _, by simp only [maxLen]; omega, by rw [size_madeCells, Nat.mul_one], ?_⟩⟩
    rw [toList_madeCells_one]
    simp [vals]
  rw [← hs0]
  simp only [Nat.add_assoc, Nat.reduceAdd]
  rw [hW8]
  clear hW8
  have HS := Lib.hid hs0
  have hlt : ∀ (X : Option Addr) (l : List Nat), Rd w X l → ∀ ad i, X = some ad → i < l.length → (ad.add i).block < s := fun X l hX ad i e hi => by
    subst e
    obtain ⟨ad', e', hc⟩ := hX.get i hi
    cases e'
    rw [hs0]; exact World.block_lt_of_cell? w _ hc
  clear hs0
  refine wpIn_rangeFunc_ownF (Kp := KeepC (fun k => k < s ∨ k = s + 4)) (w0 := W8) rfl (by omega) (gf := 167) (lb := #[.pointer (some ⟨s + 4, 0, none⟩)]) rfl trivial (enters_of Tryz.func167 (by kernel_rfl) rfl)
    (backward_stops (s + 4) _ A n c (limbs a) W8 hla (by omega) (.inr rfl) (fun ad i e hi => .inl (hlt A (limbs a) HA.out.rd ad i e hi)) bA.cell (HA.out.rd.below (HS.out ▸ hB0)))
    KeepC.t KeepC.b (Below.refl _ _) (fun _ => rfl)
    (fun pre W => (Boxed W (s + 2) 22 (.slice (some ⟨s + 1, 0, none⟩) n n) ∧ W.ownsRow s 58 1 (.slice (some ⟨s + 1, 0, none⟩) n n) n (vals (runD m n (limbs a) pre).1)) ∧ Boxed W (s + 3) 58 (.int .u32 ((runD m n (limbs a) pre).2 : Nat)) ∧
      Boxed W s 58 (.int .u32 (m : Nat)) ∧ Below s w W)
    (fun _ _ _ => False) ?own (fun _ _ _ _ _ hs _ _ => hs) ?start
    (fun x => { tmps := #[.slice A n c, .int .u32 (m : Nat), undef, .pointer (some ⟨s, 0, none⟩), .slice none 0 0, .int .u32 0, .int .i64 0, .pointer (some ⟨s + 2, 0, none⟩), .pointer (some ⟨s + 3, 0, none⟩), .int .i64 (x.1 : Nat), .int .u32 (gl (limbs a) x.1 : Nat),
      .int .u32 (m : Nat), .bool false, .slice A n c, .int .i64 n, .slice (some ⟨s + 1, 0, none⟩) n n, .slice A n c, .func (.func 167) #[] #[.pointer (some ⟨s + 4, 0, none⟩)], .int .i64 (x.1 : Nat), .int .u32 (gl (limbs a) x.1 : Nat),
      undef, undef, undef, undef, undef, undef, undef, undef, undef, undef, undef, undef, undef], defers := [] }) ?assign ?body ?done ?stop
  case own =>
    refine OwnFrom.and (Own.from ?_ _) (OwnFrom.and (Own.from (boxed_own _ _ _) _) (OwnFrom.and (Own.from (boxed_own _ _ _) _) (ownFrom_below (Nat.le_of_eq HS.out) (by omega))))
    intro pre Y Z row h hg hr
    obtain ⟨h1, h2⟩ := h
    refine ⟨boxed_own _ _ (fun _ : Unit => _) () Y Z row h1 hg hr, h2.kept hg (.inr (fun e => ?_))⟩
    obtain ⟨o, ho, hc⟩ := hr (s + 1) e.symm
    rcases h2.2 with ⟨h, _⟩ | ⟨g, cap, cur, h, _, hgb, _⟩
    · cases h
    · cases h; rw [hgb] at ho; cases ho; cases hc
  case start => exact ⟨⟨bO, hown0⟩, bR, bM, hB0⟩
  case assign =>
    intro l x W K hK
    gi_wp2
    exact hK
  case stop =>
    rintro D c pre W _ _ h _
    exact h.elim
  case done =>
    rintro D ys W hD rfl ⟨⟨hv, hrow⟩, hr, hmm, hB⟩ hK
    have hval := runD_val a m n (Nat.le_of_eq hn.out.symm) h0 n (Nat.le_refl _) 0 (by omega)
    rw [Nat.pow_zero, Nat.div_one, Nat.mul_one] at hval
    have hok := runD_ok (m := m) (n := n) (lim_limbs a) h0 (upto n n)
    obtain ⟨X, cx, hXe, hcx, hcm, hrd⟩ := ownV_rd hrow
    cases hXe
    rw [hval.2.1] at hr
    have hc := hv.cell
    have hrc := hr.cell
    have hmake := fun (V : World) (h : Below W.heap.size W V) => make_c (some ⟨s + 1, 0, none⟩) n n (runD m n (limbs a) (upto n n)).1 V hok.1 (hrd.below h) hok.2.1 (by omega) hcx
    rw [hval.1] at hmake
    have HM := Lib.hid hmake
    replace hval := Lib.hid hval
    clear hmake hrow hrd hv hok
    gi_wp2_with (fail)
    refine wpIn_region_inv (fun E a' w' => ∃ (v4 v5 v6 u30 u31 u32 : Value) (Y : Option Addr) (cy : Nat),
      a' = { tmps := #[.slice A n c, .int .u32 (m : Nat), undef, .pointer (some ⟨s, 0, none⟩), v4, v5, v6, .pointer (some ⟨s + 2, 0, none⟩), .pointer (some ⟨s + 3, 0, none⟩), undef, undef,
        .int .u32 (m : Nat), .bool false, .slice A n c, .int .i64 n, .slice (some ⟨s + 1, 0, none⟩) n n, .slice A n c, .func (.func 167) #[] #[.pointer (some ⟨s + 4, 0, none⟩)], undef, undef,
        undef, undef, undef, undef, undef, undef, undef, undef, undef, undef, u30, u31, u32], defers := [{ target := Target.collected D, args := #[] }] } ∧
      (E 0 = true → u30 = .slice (some ⟨s + 1, 0, none⟩) n n) ∧ (E 1 = true → u31 = .slice Y (nl (a / m)) cy ∧ NatV w' Y cy (a / m)) ∧ (E 2 = true → u32 = .int .u32 ((a % m : Nat) : Int)) ∧
      (E 3 = true → v4 = .slice Y (nl (a / m)) cy) ∧ (E 4 = true → v5 = .int .u32 ((a % m : Nat) : Int)) ∧ (E 5 = true → v6 = .int .i64 0) ∧ (E 3 = true → E 1 = true) ∧ Below W.heap.size W w')
      (by kernel_rfl) (by kernel_rfl) ?init ?fin ?step
    case init => exact ⟨_, _, _, _, _, _, none, 0, rfl, by simp, by simp, by simp, by simp, by simp, by simp, by simp, (Below.refl _ _).drew⟩
    case fin =>
      rintro E a' w' ⟨v4, v5, v6, u30, u31, u32, Y, cy, rfl, h30, h31, h32, h4, h5, h6, _, hbY⟩ hall
      obtain ⟨_, hY⟩ := h31 (hall 1 (by decide))
      obtain rfl := h4 (hall 3 (by decide))
      obtain rfl := h5 (hall 4 (by decide))
      obtain rfl := h6 (hall 5 (by decide))
      gi_wp2_with (fail)
      have hDlt : D < W.heap.size := (Array.getElem?_eq_some_iff.1 hK).1
      have hK1 := (hbY.block D hDlt).trans hK
      refine ⟨by simp, .inl ⟨_, _, rfl, run_takeDeferred hK1, ?_⟩⟩
      have hDs : s ≤ D := by omega
      have hWs : s ≤ W.heap.size := by omega
      have hp : Below s w (w'.putObj D (.deferred none)) := (hB.trans (hbY.mono hWs)).trans (belowK_b (w := W8) (by omega) w' D _ _ hD hK1 rfl rfl)
      have hp2 : Below w.heap.size w (w'.putObj D (.deferred none)) := hp.mono (Nat.le_of_eq HS.out.symm)
      refine ⟨.tuple #[.slice Y (nl (a / m)) cy, .int .u32 ((a % m : Nat) : Int), .int .i64 0], by simp [results, Tryz.results141, go_sem], ?_⟩
      refine ⟨Y, cy, rfl, ⟨?_, hY.cap, hY.cmax⟩, hp2⟩
      rcases hY.rd with h | ⟨ad, rfl, h⟩
      · exact .inl h
      · exact .inr ⟨ad, rfl, fun i u hu => cell_kept (h i u hu) (grownBy_putObj' w' D _) (fun r e => by cases e; exact ⟨_, hK1, rfl⟩)⟩
    case step =>
      rintro E a' w' i ⟨v4, v5, v6, u30, u31, u32, Y, cy, rfl, h30, h31, h32, h4, h5, h6, h31', hbY⟩ hi hEi hdep
      have hcell := cbl hbY hc
      have hcellr := cbl hbY hrc
      obtain rfl | rfl | rfl | rfl | rfl | rfl : i = 0 ∨ i = 1 ∨ i = 2 ∨ i = 3 ∨ i = 4 ∨ i = 5 := by
        simp at hi; omega
      · refine wpOpIn_step rfl (fun K' hK' => ?_)
        go_simp
        refine hK' _ _ ?_
        exact ⟨_, _, _, _, _, _, Y, cy, rfl, fun _ => rfl, keepD (by decide) h31, keepD (by decide) h32, keepD (by decide) h4, keepD (by decide) h5, keepD (by decide) h6, (fun h => by first | rfl | (have := h31' (by simpa using h); simpa using this)), hbY⟩
      · have d0 := hdep _ rfl ⟨0, .data⟩ (by simp) rfl
        obtain rfl := h30 d0
        refine wpOpIn_step rfl (fun K' hK' => ?_)
        go_simp
        refine ⟨trivial, ?_⟩
        refine (callsIn_wide.2 (HM.out w' hbY)).mono ?_
        rintro e w1 ⟨Y1, c1, rfl, k1, k2⟩
        refine hK' _ _ ?_
        exact ⟨_, _, _, _, _, _, Y1, c1, rfl, keepD (by decide) h30, fun _ => ⟨rfl, k1⟩, keepD (by decide) h32, fun h => (by have h2 := h31' (by simpa using h); rw [hEi] at h2; cases h2), keepD (by decide) h5, keepD (by decide) h6, (fun h => by simp), Below.cons hbY k2⟩
      · refine wpOpIn_step rfl (fun K' hK' => ?_)
        go_simp
        refine hK' _ _ ?_
        exact ⟨_, _, _, _, _, _, Y, cy, rfl, keepD (by decide) h30, keepD (by decide) h31, fun _ => rfl, keepD (by decide) h4, keepD (by decide) h5, keepD (by decide) h6, (fun h => by first | rfl | (have := h31' (by simpa using h); simpa using this)), hbY⟩
      · have d1 := hdep _ rfl ⟨1, .data⟩ (by simp) rfl
        obtain ⟨rfl, hY⟩ := h31 d1
        refine wpOpIn_step rfl (fun K' hK' => ?_)
        go_simp
        refine hK' _ _ ?_
        exact ⟨_, _, _, _, _, _, Y, cy, rfl, keepD (by decide) h30, fun _ => ⟨rfl, hY⟩, keepD (by decide) h32, fun _ => rfl, keepD (by decide) h5, keepD (by decide) h6, (fun h => by simp [d1]), hbY⟩
      · have d2 := hdep _ rfl ⟨2, .data⟩ (by simp) rfl
        obtain rfl := h32 d2
        refine wpOpIn_step rfl (fun K' hK' => ?_)
        go_simp
        refine hK' _ _ ?_
        exact ⟨_, _, _, _, _, _, Y, cy, rfl, keepD (by decide) h30, keepD (by decide) h31, fun _ => rfl, keepD (by decide) h4, fun _ => rfl, keepD (by decide) h6, (fun h => by first | rfl | (have := h31' (by simpa using h); simpa using this)), hbY⟩
      · refine wpOpIn_step rfl (fun K' hK' => ?_)
        go_simp
        refine hK' _ _ ?_
        exact ⟨_, _, _, _, _, _, Y, cy, rfl, keepD (by decide) h30, keepD (by decide) h31, keepD (by decide) h32, keepD (by decide) h4, keepD (by decide) h5, fun _ => rfl, (fun h => by first | rfl | (have := h31' (by simpa using h); simpa using this)), hbY⟩
  case body =>
    rintro l pre x W ⟨⟨hv, hrow⟩, hR, hM, hB⟩ hlen
    have hx := (lim_limbs a).gl x.1
    have hok := runD_ok (m := m) (n := n) (lim_limbs a) h0 pre
    have hrun := runD_snoc m n (limbs a) pre x
    have HC := fun (V : World) => div32_c (runD m n (limbs a) pre).2 (gl (limbs a) x.1) m V hok.2.2 hx hm
    have hxn := x.2
    obtain ⟨r, hr⟩ : ∃ r, r = (runD m n (limbs a) pre).2 := ⟨_, rfl⟩
    obtain ⟨L, hL⟩ : ∃ L, L = (runD m n (limbs a) pre).1 := ⟨_, rfl⟩
    obtain ⟨g, hg⟩ : ∃ g, g = gl (limbs a) x.1 := ⟨_, rfl⟩
    obtain ⟨i, hi⟩ : ∃ i, i = x.1 := ⟨_, rfl⟩
    rw [← hr, ← hL, ← hg] at hrun
    rw [← hr, ← hg] at HC
    rw [← hg, ← hi]
    rw [← hr] at hR
    rw [← hL] at hrow hok
    rw [← hi] at hxn hrun
    obtain ⟨q1, hq1⟩ : ∃ z, z = (r * 4294967296 + g) / m := ⟨_, rfl⟩
    obtain ⟨r1, hr1⟩ : ∃ z, z = (r * 4294967296 + g) % m := ⟨_, rfl⟩
    rw [← hq1, ← hr1] at HC hrun
    have HCX := Lib.hid HC
    have HRN := Lib.hid hrun
    have HOK := Lib.hid hok
    replace hr := Lib.hid hr
    replace hL := Lib.hid hL
    replace hg := Lib.hid hg
    replace hi := Lib.hid hi
    replace hq1 := Lib.hid hq1
    replace hr1 := Lib.hid hr1
    clear HC hrun hok hmk
    have cO := hv.cell
    have cR := hR.cell
    have cM := hM.cell
    have fR := hR.frozen
    have cL : W.cell? ⟨s + 1, i, none⟩ = some (.int .u32 (gl L i : Nat)) := by rw [hrow.cellAt i (by omega), vals_get L _ (by rw [HOK.out.1]; exact hxn)]
    have fL := hrow.frozenAt i
    gi_wp2_with (fail)
    refine wpIn_region_inv (fun E a' w' => ∃ (u20 u21 u22 u23 u24 u25 u26 u27 u28 u29 : Value),
      a' = { tmps := #[.slice A n c, .int .u32 (m : Nat), undef, .pointer (some ⟨s, 0, none⟩), .slice none 0 0, .int .u32 0, .int .i64 0, .pointer (some ⟨s + 2, 0, none⟩), .pointer (some ⟨s + 3, 0, none⟩), .int .i64 (i : Nat), .int .u32 (g : Nat),
        .int .u32 (m : Nat), .bool false, .slice A n c, .int .i64 n, .slice (some ⟨s + 1, 0, none⟩) n n, .slice A n c, .func (.func 167) #[] #[.pointer (some ⟨s + 4, 0, none⟩)], .int .i64 (i : Nat), .int .u32 (g : Nat),
        u20, u21, u22, u23, u24, u25, u26, u27, u28, u29, undef, undef, undef], defers := [] } ∧
      (E 0 = true → u21 = .slice (some ⟨s + 1, 0, none⟩) n n) ∧ (E 1 = true → u22 = .int .i64 (i : Nat)) ∧ (E 2 = true → u23 = .int .u32 (r : Nat)) ∧ (E 3 = true → u24 = .int .u32 (g : Nat)) ∧ (E 4 = true → u25 = .int .u32 (m : Nat)) ∧
      (E 5 = true → u26 = .tuple #[.int .u32 (q1 : Nat), .int .u32 (r1 : Nat)]) ∧ (E 6 = true → u20 = .tuple #[.int .u32 (q1 : Nat), .int .u32 (r1 : Nat)]) ∧ (E 7 = true → u27 = .int .u32 (q1 : Nat)) ∧ (E 8 = true → u28 = .int .u32 (r1 : Nat)) ∧ (E 9 = true → u29 = .pointer (some ⟨s + 1, i, none⟩)) ∧
      ((E 10 = false ∧ E 11 = false ∧ ∃ k, w' = W.drewN k) ∨ (E 0 = true ∧ E 1 = true ∧ E 2 = true ∧ E 3 = true ∧ E 4 = true ∧ E 5 = true ∧ E 6 = true ∧ E 7 = true ∧ E 9 = true ∧ E 10 = true ∧ E 11 = false ∧ ∃ k, w' = (W.drewN k).setCell ⟨s + 1, i, none⟩ (.int .u32 (q1 : Nat))) ∨ (E 0 = true ∧ E 1 = true ∧ E 2 = true ∧ E 3 = true ∧ E 4 = true ∧ E 5 = true ∧ E 6 = true ∧ E 7 = true ∧ E 8 = true ∧ E 9 = true ∧ E 10 = true ∧ E 11 = true ∧ ∃ k, w' = ((W.drewN k).setCell ⟨s + 1, i, none⟩ (.int .u32 (q1 : Nat))).setCell ⟨s + 3, 0, none⟩ (.int .u32 (r1 : Nat)))))
      (by kernel_rfl) (by kernel_rfl) ?init ?fin ?step
    case init => exact ⟨_, _, _, _, _, _, _, _, _, _, rfl, by simp, by simp, by simp, by simp, by simp, by simp, by simp, by simp, by simp, by simp, .inl ⟨rfl, rfl, 1, rfl⟩⟩
    case fin =>
      rintro E a' w' ⟨u20, u21, u22, u23, u24, u25, u26, u27, u28, u29, rfl, h0, h1, h2, h3, h4, h5, h6, h7, h8, h9, hw⟩ hall
      have d11 := hall 11 (by decide)
      simp only [d11, Bool.true_eq_false, false_and, and_false, or_false, false_or] at hw
      obtain ⟨_, _, _, _, _, _, _, _, _, _, _, _, k, rfl⟩ := hw
      have K0 : KeepsOthers W (W.drewN k) := ⟨Nat.le_refl _, fun _ _ h _ => h⟩
      show KeepsOthers W _ ∧ KeepC _ W _ ∧ _
      refine ⟨(K0.trans (KeepsOthers.setCell _ _ _)).trans (KeepsOthers.setCell _ _ _), ?_, ⟨⟨?_, ?_⟩, ?_, ?_, ?_⟩⟩
      · intro p v hp hv
        rw [World.cell?_of_block (a := p) (Below.heap_setCell _ ⟨s + 3, 0, none⟩ _ p.block (by simp; omega)), World.cell?_of_block (a := p) (Below.heap_setCell _ ⟨s + 1, i, none⟩ _ p.block (by simp; omega))]
        exact hv
      · exact (boxed_other (W := W.drewN k) hv ⟨s + 1, i, none⟩ (by simp) _).other (by omega) _
      · rw [HRN.out, vals_set]
        exact ((show (W.drewN k).ownsRow s 58 1 (.slice (some ⟨s + 1, 0, none⟩) n n) n (vals L) from hrow).stored i (.int .u32 (q1 : Nat))).1.kept (grownBy_setCell' _ (s + 3) _) (.inr (by simp [Value.ownBlock]))
      · rw [HRN.out]
        exact Boxed.set _ (boxed_other (W := W.drewN k) hR ⟨s + 1, i, none⟩ (by simp) _)
      · exact (boxed_other (W := W.drewN k) hM ⟨s + 1, i, none⟩ (by simp) _).other (by omega) _
      · exact ((hB.drewN k).setCell (p := ⟨s + 1, i, none⟩) (by simp) _).setCell (p := ⟨s + 3, 0, none⟩) (by simp) _
    case step =>
      rintro E a' w' j ⟨u20, u21, u22, u23, u24, u25, u26, u27, u28, u29, rfl, h0, h1, h2, h3, h4, h5, h6, h7, h8, h9, hw⟩ hj hEi hdep
      obtain rfl | rfl | rfl | rfl | rfl | rfl | rfl | rfl | rfl | rfl | rfl | rfl : j = 0 ∨ j = 1 ∨ j = 2 ∨ j = 3 ∨ j = 4 ∨ j = 5 ∨ j = 6 ∨ j = 7 ∨ j = 8 ∨ j = 9 ∨ j = 10 ∨ j = 11 := by
        simp at hj; omega
      · simp only [hEi, Bool.false_eq_true, false_and, and_false, or_false] at hw
        obtain ⟨e10, e11, k, rfl⟩ := hw
        refine wpOpIn_step rfl (fun K' hK' => ?_)
        go_simp
        refine hK' _ _ ?_
        exact ⟨_, _, _, _, _, _, _, _, _, _, rfl, fun _ => rfl, keepD (by decide) h1, keepD (by decide) h2, keepD (by decide) h3, keepD (by decide) h4, keepD (by decide) h5, keepD (by decide) h6, keepD (by decide) h7, keepD (by decide) h8, keepD (by decide) h9, .inl ⟨by simp [e10], by simp [e11], _, (by first | rfl | (simp only [World.drewN_drewN]; rfl))⟩⟩
      · simp only [hEi, Bool.false_eq_true, false_and, and_false, or_false] at hw
        obtain ⟨e10, e11, k, rfl⟩ := hw
        refine wpOpIn_step rfl (fun K' hK' => ?_)
        go_simp
        refine hK' _ _ ?_
        exact ⟨_, _, _, _, _, _, _, _, _, _, rfl, keepD (by decide) h0, fun _ => rfl, keepD (by decide) h2, keepD (by decide) h3, keepD (by decide) h4, keepD (by decide) h5, keepD (by decide) h6, keepD (by decide) h7, keepD (by decide) h8, keepD (by decide) h9, .inl ⟨by simp [e10], by simp [e11], _, (by first | rfl | (simp only [World.drewN_drewN]; rfl))⟩⟩
      · simp only [hEi, Bool.false_eq_true, false_and, and_false, or_false] at hw
        obtain ⟨e10, e11, k, rfl⟩ := hw
        refine wpOpIn_step rfl (fun K' hK' => ?_)
        go_simp
        refine hK' _ _ ?_
        exact ⟨_, _, _, _, _, _, _, _, _, _, rfl, keepD (by decide) h0, keepD (by decide) h1, fun _ => rfl, keepD (by decide) h3, keepD (by decide) h4, keepD (by decide) h5, keepD (by decide) h6, keepD (by decide) h7, keepD (by decide) h8, keepD (by decide) h9, .inl ⟨by simp [e10], by simp [e11], _, (by first | rfl | (simp only [World.drewN_drewN]; rfl))⟩⟩
      · simp only [hEi, Bool.false_eq_true, false_and, and_false, or_false] at hw
        obtain ⟨e10, e11, k, rfl⟩ := hw
        refine wpOpIn_step rfl (fun K' hK' => ?_)
        go_simp
        refine hK' _ _ ?_
        exact ⟨_, _, _, _, _, _, _, _, _, _, rfl, keepD (by decide) h0, keepD (by decide) h1, keepD (by decide) h2, fun _ => rfl, keepD (by decide) h4, keepD (by decide) h5, keepD (by decide) h6, keepD (by decide) h7, keepD (by decide) h8, keepD (by decide) h9, .inl ⟨by simp [e10], by simp [e11], _, (by first | rfl | (simp only [World.drewN_drewN]; rfl))⟩⟩
      · simp only [hEi, Bool.false_eq_true, false_and, and_false, or_false] at hw
        obtain ⟨e10, e11, k, rfl⟩ := hw
        refine wpOpIn_step rfl (fun K' hK' => ?_)
        go_simp
        refine hK' _ _ ?_
        exact ⟨_, _, _, _, _, _, _, _, _, _, rfl, keepD (by decide) h0, keepD (by decide) h1, keepD (by decide) h2, keepD (by decide) h3, fun _ => rfl, keepD (by decide) h5, keepD (by decide) h6, keepD (by decide) h7, keepD (by decide) h8, keepD (by decide) h9, .inl ⟨by simp [e10], by simp [e11], _, (by first | rfl | (simp only [World.drewN_drewN]; rfl))⟩⟩
      · have d2 := hdep _ rfl ⟨2, .data⟩ (by simp) rfl
        obtain rfl := h2 d2
        have d3 := hdep _ rfl ⟨3, .data⟩ (by simp) rfl
        obtain rfl := h3 d3
        have d4 := hdep _ rfl ⟨4, .data⟩ (by simp) rfl
        obtain rfl := h4 d4
        simp only [hEi, Bool.false_eq_true, false_and, and_false, or_false] at hw
        obtain ⟨e10, e11, k, rfl⟩ := hw
        refine wpOpIn_step rfl (fun K' hK' => ?_)
        go_simp
        refine ⟨trivial, ?_⟩
        refine (CallsIn.inRound l (callsIn_wide.2 (HCX.out _))).mono ?_
        rintro e V ⟨rfl, kq, rfl⟩
        refine hK' _ _ ?_
        exact ⟨_, _, _, _, _, _, _, _, _, _, rfl, keepD (by decide) h0, keepD (by decide) h1, keepD (by decide) h2, keepD (by decide) h3, keepD (by decide) h4, fun _ => rfl, keepD (by decide) h6, keepD (by decide) h7, keepD (by decide) h8, keepD (by decide) h9, .inl ⟨by simp [e10], by simp [e11], _, (by first | rfl | (simp only [World.drewN_drewN]; rfl))⟩⟩
      · have d5 := hdep _ rfl ⟨5, .data⟩ (by simp) rfl
        obtain rfl := h5 d5
        simp only [hEi, Bool.false_eq_true, false_and, and_false, or_false] at hw
        obtain ⟨e10, e11, k, rfl⟩ := hw
        refine wpOpIn_step rfl (fun K' hK' => ?_)
        go_simp
        refine hK' _ _ ?_
        exact ⟨_, _, _, _, _, _, _, _, _, _, rfl, keepD (by decide) h0, keepD (by decide) h1, keepD (by decide) h2, keepD (by decide) h3, keepD (by decide) h4, keepD (by decide) h5, fun _ => rfl, keepD (by decide) h7, keepD (by decide) h8, keepD (by decide) h9, .inl ⟨by simp [e10], by simp [e11], _, (by first | rfl | (simp only [World.drewN_drewN]; rfl))⟩⟩
      · have d6 := hdep _ rfl ⟨6, .data⟩ (by simp) rfl
        obtain rfl := h6 d6
        simp only [hEi, Bool.false_eq_true, false_and, and_false, or_false] at hw
        obtain ⟨e10, e11, k, rfl⟩ := hw
        refine wpOpIn_step rfl (fun K' hK' => ?_)
        go_simp
        refine hK' _ _ ?_
        exact ⟨_, _, _, _, _, _, _, _, _, _, rfl, keepD (by decide) h0, keepD (by decide) h1, keepD (by decide) h2, keepD (by decide) h3, keepD (by decide) h4, keepD (by decide) h5, keepD (by decide) h6, fun _ => rfl, keepD (by decide) h8, keepD (by decide) h9, .inl ⟨by simp [e10], by simp [e11], _, (by first | rfl | (simp only [World.drewN_drewN]; rfl))⟩⟩
      · have d6 := hdep _ rfl ⟨6, .data⟩ (by simp) rfl
        obtain rfl := h6 d6
        simp only [hEi, Bool.false_eq_true, false_and, and_false, or_false] at hw
        refine wpOpIn_step rfl (fun K' hK' => ?_)
        go_simp
        refine hK' _ _ ?_
        rcases hw with ⟨e10, e11, k, rfl⟩ | ⟨d0, d1, d2, d3, d4, d5, d6, d7, d9, d10, e11, k, rfl⟩
        · exact ⟨_, _, _, _, _, _, _, _, _, _, rfl, keepD (by decide) h0, keepD (by decide) h1, keepD (by decide) h2, keepD (by decide) h3, keepD (by decide) h4, keepD (by decide) h5, keepD (by decide) h6, keepD (by decide) h7, fun _ => rfl, keepD (by decide) h9, .inl ⟨by simp [e10], by simp [e11], _, rfl⟩⟩
        · exact ⟨_, _, _, _, _, _, _, _, _, _, rfl, keepD (by decide) h0, keepD (by decide) h1, keepD (by decide) h2, keepD (by decide) h3, keepD (by decide) h4, keepD (by decide) h5, keepD (by decide) h6, keepD (by decide) h7, fun _ => rfl, keepD (by decide) h9, .inr (.inl ⟨by simp [d0], by simp [d1], by simp [d2], by simp [d3], by simp [d4], by simp [d5], by simp [d6], by simp [d7], by simp [d9], by simp [d10], by simp [e11], _, rfl⟩)⟩
      · have d0 := hdep _ rfl ⟨0, .data⟩ (by simp) rfl
        obtain rfl := h0 d0
        have d1 := hdep _ rfl ⟨1, .data⟩ (by simp) rfl
        obtain rfl := h1 d1
        simp only [hEi, Bool.false_eq_true, false_and, and_false, or_false] at hw
        obtain ⟨e10, e11, k, rfl⟩ := hw
        refine wpOpIn_step rfl (fun K' hK' => ?_)
        go_simp
        refine hK' _ _ ?_
        exact ⟨_, _, _, _, _, _, _, _, _, _, rfl, keepD (by decide) h0, keepD (by decide) h1, keepD (by decide) h2, keepD (by decide) h3, keepD (by decide) h4, keepD (by decide) h5, keepD (by decide) h6, keepD (by decide) h7, keepD (by decide) h8, fun _ => rfl, .inl ⟨by simp [e10], by simp [e11], _, (by first | rfl | (simp only [World.drewN_drewN]; rfl))⟩⟩
      · have d9 := hdep _ rfl ⟨9, .data⟩ (by simp) rfl
        have d7 := hdep _ rfl ⟨7, .data⟩ (by simp) rfl
        have d0 := hdep _ rfl ⟨0, .phase⟩ (by simp) rfl
        have d1 := hdep _ rfl ⟨1, .phase⟩ (by simp) rfl
        have d2 := hdep _ rfl ⟨2, .phase⟩ (by simp) rfl
        have d3 := hdep _ rfl ⟨3, .phase⟩ (by simp) rfl
        have d4 := hdep _ rfl ⟨4, .phase⟩ (by simp) rfl
        have d5 := hdep _ rfl ⟨5, .phase⟩ (by simp) rfl
        have d6 := hdep _ rfl ⟨6, .phase⟩ (by simp) rfl
        obtain rfl := h9 d9
        obtain rfl := h7 d7
        simp only [hEi, Bool.false_eq_true, false_and, and_false, or_false, true_and] at hw
        obtain ⟨e11, k, rfl⟩ := hw
        obtain rfl := h0 d0
        obtain rfl := h1 d1
        obtain rfl := h2 d2
        obtain rfl := h3 d3
        obtain rfl := h4 d4
        obtain rfl := h5 d5
        obtain rfl := h6 d6
        refine wpOpIn_step rfl (fun K' hK' => ?_)
        go_simp
        refine hK' _ _ ?_
        exact ⟨_, _, _, _, _, _, _, _, u28, _, rfl, fun _ => rfl, fun _ => rfl, fun _ => rfl, fun _ => rfl, fun _ => rfl, fun _ => rfl, fun _ => rfl, fun _ => rfl, keepD (by decide) h8, fun _ => rfl, .inr (.inl ⟨by simp [d0], by simp [d1], by simp [d2], by simp [d3], by simp [d4], by simp [d5], by simp [d6], by simp [d7], by simp [d9], by simp, by simp [e11], _, rfl⟩)⟩
      · have d8 := hdep _ rfl ⟨8, .data⟩ (by simp) rfl
        have d10 := hdep _ rfl ⟨10, .chain⟩ (by simp) rfl
        obtain rfl := h8 d8
        simp only [hEi, d10, Bool.true_eq_false, Bool.false_eq_true, false_and, and_false, or_false, false_or, true_and] at hw
        obtain ⟨d0, d1, d2, d3, d4, d5, d6, d7, d9, k, rfl⟩ := hw
        obtain rfl := h0 d0
        obtain rfl := h1 d1
        obtain rfl := h2 d2
        obtain rfl := h3 d3
        obtain rfl := h4 d4
        obtain rfl := h5 d5
        obtain rfl := h6 d6
        obtain rfl := h7 d7
        obtain rfl := h9 d9
        have bR := boxed_other (W := W.drewN k) hR ⟨s + 1, i, none⟩ (by simp) (.int .u32 (q1 : Nat))
        have cR2 := bR.cell
        have fR2 := bR.frozen
        refine wpOpIn_step rfl (fun K' hK' => ?_)
        go_simp
        refine hK' _ _ ?_
        exact ⟨_, _, _, _, _, _, _, _, _, _, rfl, fun _ => rfl, fun _ => rfl, fun _ => rfl, fun _ => rfl, fun _ => rfl, fun _ => rfl, fun _ => rfl, fun _ => rfl, fun _ => rfl, fun _ => rfl, .inr (.inr ⟨by simp [d0], by simp [d1], by simp [d2], by simp [d3], by simp [d4], by simp [d5], by simp [d6], by simp [d7], by simp [d8], by simp [d9], by simp [d10], by simp, _, rfl⟩)⟩
end Go.Proofs.YtacjfpibilolnaaGreatDoor
