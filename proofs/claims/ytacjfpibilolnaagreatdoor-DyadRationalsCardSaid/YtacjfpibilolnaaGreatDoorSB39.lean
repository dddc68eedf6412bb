/- The sums of products, by three primes: the walk. -/
import Derived.Test.YtacjfpibilolnaaGreatDoorSB38
set_option maxRecDepth 100000
set_option maxHeartbeats 4000000
set_option linter.unusedVariables false
set_option linter.unusedSimpArgs false
namespace Go.Proofs.YtacjfpibilolnaaGreatDoor
open Go.RowKit Go.Shelf

/-- The package's variable lies in memory as it was laid. -/
def Flds (w : World) : Prop := w.cell? ⟨1, 0, none⟩ = some (.int .u64 998244353) ∧ w.cell? ⟨1, 1, none⟩ = some (.int .u64 469762049) ∧ w.cell? ⟨1, 2, none⟩ = some (.int .u64 167772161)
theorem Flds.below {w w' : World} (h : Flds w) (hb : Below w.heap.size w w') : Flds w' := ⟨cell_below hb h.1, cell_below hb h.2.1, cell_below hb h.2.2⟩
theorem bitLen_gt (f x : Nat) (h : x < 2 ^ f) : x < 2 ^ Lib.bitLenAux f x := by
  induction f generalizing x with
  | zero => exact h
  | succ f ih =>
    rw [Lib.bitLenAux]
    by_cases e : x = 0
    · rw [if_pos e, e]; exact Nat.two_pow_pos _
    · rw [if_neg e]
      have h1 := ih (x / 2) (by rw [Nat.pow_succ] at h; omega)
      rw [Nat.add_comm, Nat.pow_succ]; omega
def pr : Nat → Nat
  | 0 => 998244353
  | 1 => 469762049
  | _ => 167772161

theorem idx0 (W : World) : (Instr.index 156 (.agg #[.int .u64 998244353, .int .u64 469762049, .int .u64 167772161]) (.int .i64 0)).run Tryz.prog W = .ok (.agg #[.int .u64 998244353]) W := by rfl
theorem idx1 (W : World) : (Instr.index 156 (.agg #[.int .u64 998244353, .int .u64 469762049, .int .u64 167772161]) (.int .i64 1)).run Tryz.prog W = .ok (.agg #[.int .u64 469762049]) W := by rfl
theorem idx2 (W : World) : (Instr.index 156 (.agg #[.int .u64 998244353, .int .u64 469762049, .int .u64 167772161]) (.int .i64 2)).run Tryz.prog W = .ok (.agg #[.int .u64 167772161]) W := by rfl
/-- A row of rests by p. -/
def Rst (W : World) (s N p a b : Nat) (u : Value) : Prop := ∃ bx X, u = .slice (some ⟨bx, 0, none⟩) N N ∧ bx ≠ s ∧ Arr W bx X ∧ X.length = N ∧ ∀ t, t < N → gl X t = cv (gl (limbs a)) (gl (limbs b)) (nl a) t % p
theorem Rst.only {W W' s N p a b u} (h : Rst W s N p a b u) (k : Only s W W') : Rst W' s N p a b u := by
  obtain ⟨bx, X, h1, h2, h3, h4⟩ := h
  exact ⟨bx, X, h1, h2, k.arr h3 h2, h4⟩

theorem inv1_c (W : World) : Calls Tryz.prog 161 #[.agg #[.int .u64 469762049], .int .u64 58720255] W fun e w' => e = .returned (.int .u64 208783132) ∧ Below W.heap.size W w' :=
  finv_pm 469762049 58720255 208783132 W (by decide) (by decide) (by decide) (by decide +kernel)
theorem inv2_c (W : World) : Calls Tryz.prog 161 #[.agg #[.int .u64 167772161], .int .u64 115762800] W fun e w' => e = .returned (.int .u64 29562547) ∧ Below W.heap.size W w' :=
  finv_pm 167772161 115762800 29562547 W (by decide) (by decide) (by decide) (by decide +kernel)
theorem info_r3 : (Tryz.prog.info? 150).map (fun i => (i.zero, i.size, i.bytes)) = some (some (.agg #[.int .u32 0, .int .u32 0, .int .u32 0]), 3, 12) := by kernel_rfl
theorem mkr3 (c : Int) (h0 : 0 ≤ c) (hc : c ≤ 4194304) : ∀ W : World, (Instr.makeSlice 137 (.int .i64 c) (.int .i64 c)).run Tryz.prog W =
    .ok (.slice (some ⟨W.heap.size, 0, none⟩) c.toNat c.toNat) (W.alloc (.cells (vals (List.replicate (3 * c.toNat) 0)).toArray 150)) := fun W => by
  obtain ⟨i0, hi, hz0, hz1, hz2⟩ := info_parts info_r3
  have := run_make (P := Tryz.prog) W 137 150 i0 _ Tryz.underlying137 hi hz0 .i64 .i64 c c h0 (Int.le_refl _) (by rw [hz2]; omega) (by omega)
  rw [hz1] at this
  rw [this]
  congr 4
  apply Array.ext_getElem?
  intro j
  have hz : ∀ m, m < 3 → (Value.agg #[.int .u32 0, .int .u32 0, .int .u32 0]).cells[m]! = .int .u32 0 := by
    intro m hm
    rcases m with _ | _ | _ | m
    · rfl
    · rfl
    · rfl
    · omega
  by_cases hj : j < c.toNat * 3
  · have hj2 : j < 3 * c.toNat := by omega
    have h3 := hz (j % 3) (Nat.mod_lt _ (by decide))
    simp only [madeCells, Array.getElem?_map, List.getElem?_toArray, vals, List.getElem?_map]
    rw [Array.getElem?_range, if_pos hj]
    simp [List.getElem?_replicate, hj2]
    exact h3
  · have hj2 : ¬ j < 3 * c.toNat := by omega
    simp [madeCells, vals, List.getElem?_replicate, hj, hj2]
theorem sub1_c (r x : Nat) (W : World) (hr : r < 469762049) (hx : x < 469762049) : Calls Tryz.prog 163 #[.agg #[.int .u64 469762049], .int .u64 (r : Nat), .int .u64 (x : Nat)] W (RetU W ((r + 469762049 - x) % 469762049)) :=
  fsub_c 469762049 r x W (by decide) (by decide) hr hx
theorem mul1_c (d : Nat) (W : World) (hd : d < 4294967296) : Calls Tryz.prog 162 #[.agg #[.int .u64 469762049], .int .u64 (d : Nat), .int .u64 208783132] W (RetU W (d * 208783132 % 469762049)) :=
  fmul_c 469762049 d 208783132 W (by decide) (by decide) hd (by decide)
theorem sub2_c (r x : Nat) (W : World) (hr : r < 167772161) (hx : x < 167772161) : Calls Tryz.prog 163 #[.agg #[.int .u64 167772161], .int .u64 (r : Nat), .int .u64 (x : Nat)] W (RetU W ((r + 167772161 - x) % 167772161)) :=
  fsub_c 167772161 r x W (by decide) (by decide) hr hx
theorem mul2_c (d : Nat) (W : World) (hd : d < 4294967296) : Calls Tryz.prog 162 #[.agg #[.int .u64 167772161], .int .u64 (d : Nat), .int .u64 29562547] W (RetU W (d * 29562547 % 167772161)) :=
  fmul_c 167772161 d 29562547 W (by decide) (by decide) hd (by decide)
theorem mulq_c (z : Nat) (w : World) (hz : z < 18446744073709551616) :
    Calls Tryz.prog 164 #[.int .u64 (z : Nat), .int .u64 468937312667959297] w fun e w' => e = .returned (.tuple #[.int .u64 ((z * 468937312667959297 / 18446744073709551616 : Nat) : Int), .int .u64 ((z * 468937312667959297 % 18446744073709551616 : Nat) : Int)]) ∧ w' = w :=
  mul64_c z 468937312667959297 w hz (by decide)
theorem add64_0 (x y : Nat) (w : World) :
    (callFunc 165 #[.int .u64 (x : Nat), .int .u64 (y : Nat), .int .u64 0]).run Tryz.prog w =
      .ok (.value (.tuple #[.int .u64 (((x + y) % 18446744073709551616 : Nat) : Int), .int .u64 (((x + y) / 18446744073709551616 : Nat) : Int)])) w :=
  add64_r x y 0 (by decide) w
theorem add_zero_off (o j : Nat) : (Addr.add ⟨o, 0, none⟩ j) = ⟨o, j, none⟩ := by
  unfold Addr.add
  by_cases h : j = 0 <;> simp [h]
theorem row_facts {W : World} {o j n : Nat} {L : List Nat} {t : TypeId} (h : W.heap[o]? = some (.cells (vals L).toArray t (0, 0))) (hl : L.length = n) (hj : j + 2 < n) :
    ((∃ x, W.cell? ⟨o, j, none⟩ = some x) ∧ W.frozen? ⟨o, j, none⟩ = false) ∧
    (∀ v, (∃ x, (W.setCell ⟨o, j, none⟩ v).cell? ⟨o, j + 1, none⟩ = some x) ∧ (W.setCell ⟨o, j, none⟩ v).frozen? ⟨o, j + 1, none⟩ = false) ∧
    (∀ v v', (∃ x, ((W.setCell ⟨o, j, none⟩ v).setCell ⟨o, j + 1, none⟩ v').cell? ⟨o, j + 2, none⟩ = some x) ∧ ((W.setCell ⟨o, j, none⟩ v).setCell ⟨o, j + 1, none⟩ v').frozen? ⟨o, j + 2, none⟩ = false) ∧
    (∀ a b c : Nat, (((W.setCell ⟨o, j, none⟩ (.int .u32 (a : Nat))).setCell ⟨o, j + 1, none⟩ (.int .u32 (b : Nat))).setCell ⟨o, j + 2, none⟩ (.int .u32 (c : Nat))).heap[o]? = some (.cells (vals (((L.set j a).set (j + 1) b).set (j + 2) c)).toArray t (0, 0))) := by
  have h1 := fun v => heap_setCell_same W o j _ _ v h
  have h2 := fun v v' => heap_setCell_same _ o (j + 1) _ _ v' (h1 v)
  have h3 := fun v v' v'' => heap_setCell_same _ o (j + 2) _ _ v'' (h2 v v')
  refine ⟨⟨?_, ?_⟩, fun v => ⟨?_, ?_⟩, fun v v' => ⟨?_, ?_⟩, fun a b c => ?_⟩
  · unfold World.cell?; rw [h]; exact ⟨_, Array.getElem?_eq_getElem (by simp [vals]; omega)⟩
  · unfold World.frozen?; rw [h]; simp
  · unfold World.cell?; rw [h1]; exact ⟨_, Array.getElem?_eq_getElem (by simp [vals]; omega)⟩
  · unfold World.frozen?; rw [h1]; simp
  · unfold World.cell?; rw [h2]; exact ⟨_, Array.getElem?_eq_getElem (by simp [vals]; omega)⟩
  · unfold World.frozen?; rw [h2]; simp
  · rw [h3]; simp [vals, List.map_set]
/-- One row set: its value, the others' kept. -/
theorem row_val {L : List Nat} {i n a b c S : Nat} {f : Nat → Nat} (hl : L.length = 3 * n) (hi : i < n) (hS : a + 4294967296 * b + 4294967296 * 4294967296 * c = S) (hf : S = f i)
    (h : ∀ j, j < i → gl L (3 * j) + 4294967296 * gl L (3 * j + 1) + 4294967296 * 4294967296 * gl L (3 * j + 2) = f j) :
    ∀ j, j < i + 1 → gl (((L.set (i * 3) a).set (i * 3 + 1) b).set (i * 3 + 2) c) (3 * j) + 4294967296 * gl (((L.set (i * 3) a).set (i * 3 + 1) b).set (i * 3 + 2) c) (3 * j + 1) + 4294967296 * 4294967296 * gl (((L.set (i * 3) a).set (i * 3 + 1) b).set (i * 3 + 2) c) (3 * j + 2) = f j := by
  intro j hj
  by_cases e : j = i
  · subst e
    rw [gl_set_ne' (by omega), gl_set_ne' (by omega), show 3 * j = j * 3 by omega, gl_set_eq' (by omega), gl_set_ne' (by omega), gl_set_eq' (by simp; omega), gl_set_eq' (by simp; omega), hS, hf]
  · rw [gl_set_ne' (by omega), gl_set_ne' (by omega), gl_set_ne' (by omega), gl_set_ne' (by omega), gl_set_ne' (by omega), gl_set_ne' (by omega), gl_set_ne' (by omega), gl_set_ne' (by omega), gl_set_ne' (by omega)]
    exact h j (by omega)
theorem rowsV_psum' (L : List Nat) (f : Nat → Nat) (n : Nat) (h : ∀ j, j < n → gl L (3 * j) + 4294967296 * gl L (3 * j + 1) + 4294967296 * 4294967296 * gl L (3 * j + 2) = f j) : rowsV L n = psum f n := by
  induction n with
  | zero => rfl
  | succ n ih => rw [rowsV, psum, ih (fun j hj => h j (by omega)), h n (by omega)]
theorem two_new (W : World) (x y : Value) : (((W.alloc (.cells #[.int .u64 0] 155)).setCell ⟨W.heap.size, 0, none⟩ x).alloc (.cells #[y] 155)).cell? ⟨W.heap.size, 0, none⟩ = some x ∧
    (((W.alloc (.cells #[.int .u64 0] 155)).setCell ⟨W.heap.size, 0, none⟩ x).alloc (.cells #[y] 155)).cell? ⟨W.heap.size + 1, 0, none⟩ = some y ∧
    Below W.heap.size W (((W.alloc (.cells #[.int .u64 0] 155)).setCell ⟨W.heap.size, 0, none⟩ x).alloc (.cells #[y] 155)) := by
  have h1 := heap_setCell_same _ W.heap.size 0 _ _ x (heap_alloc_new W (.cells #[.int .u64 0] 155))
  have hb1 : Below W.heap.size W (W.alloc (.cells #[.int .u64 0] 155)) := (Below.refl _ _).alloc (Nat.le_refl _) _
  have hb2 := hb1.setCell (p := ⟨W.heap.size, 0, none⟩) (Nat.le_refl _) x
  have hs : ((W.alloc (.cells #[.int .u64 0] 155)).setCell ⟨W.heap.size, 0, none⟩ x).heap.size = W.heap.size + 1 := by simp
  refine ⟨?_, ?_, hb2.alloc hb2.size _⟩
  · unfold World.cell?
    rw [Below.heap_alloc _ _ _ (by rw [hs]; exact Nat.lt_succ_self _), h1]; rfl
  · unfold World.cell?
    rw [← hs, heap_alloc_new]; rfl

theorem conv_c (A : Option Addr) (ca a : Nat) (B : Option Addr) (cb b : Nat) (w : World) (hA : NatV w A ca a) (hB : NatV w B cb b) (hG : Flds w) (ha : nl a ≤ 16384) (hb : nl b ≤ 16384) :
    Calls Tryz.prog 148 #[.slice A (nl a) ca, .slice B (nl b) cb] w fun e w' => ∃ X c n L, e = .returned (.slice X n c) ∧ L.length = 3 * n ∧ Rd w' X L ∧ Lim L ∧ n ≤ c ∧ n ≤ 32768 ∧ rowsV L n = a * b ∧ Below w.heap.size w w' := by
  by_cases h0 : nl a = 0 ∨ nl b = 0
  · have hab : a * b = 0 := by
      rcases h0 with h | h
      · rw [nl_eq_zero.1 h, Nat.zero_mul]
      · rw [nl_eq_zero.1 h, Nat.mul_zero]
    rw [hab]
    by_cases h1 : nl a = 0
    · rw [h1]
      go_enter Tryz.func148, Tryz.ntmps148
      go_wp2_with (fail)
      go_ret
      exact ⟨none, 0, 0, [], rfl, rfl, .inl rfl, Lim.nil, Nat.le_refl _, by decide, rfl, .refl _ _⟩
    · have h2 : nl b = 0 := by omega
      have h1' : ((nl a : Int) == 0) = false := ieqF (by omega)
      rw [h2]
      go_enter Tryz.func148, Tryz.ntmps148
      go_wp2_with (fail)
      go_ret
      exact ⟨none, 0, 0, [], rfl, rfl, .inl rfl, Lim.nil, Nat.le_refl _, by decide, rfl, .refl _ _⟩
  · have hb0 : b ≠ 0 := fun e => h0 (.inr (nl_eq_zero.2 e))
    have h1 : ((nl a : Int) == 0) = false := ieqF (by omega)
    have h2 : ((nl b : Int) == 0) = false := ieqF (by omega)
    obtain ⟨n, hn⟩ : ∃ n, n = nl a + nl b - 1 := ⟨_, rfl⟩
    have hn1 : 1 ≤ n := by omega
    have hnI : (nl a : Int) + (nl b : Int) = (n : Int) + 1 := by omega
    have hnB : n ≤ 32767 := by omega
    obtain ⟨n', hn'⟩ : ∃ n', n' = n - 1 := ⟨_, rfl⟩
    have hn'I : (n : Int) - 1 = (n' : Int) := by omega
    obtain ⟨k, hk⟩ : ∃ k, k = Lib.bitLen n' := ⟨_, rfl⟩
    have hk15 : k ≤ 15 := by rw [hk]; exact Lib.bitLen_le n' 15 (by decide) (by show n' < 32768; omega)
    have hnk : n ≤ 2 ^ k := by
      have : n' < 2 ^ k := by rw [hk]; exact bitLen_gt 64 n' (by show n' < 18446744073709551616; omega)
      omega
    have CL := fun (W : World) => len_c n' W (by omega)
    rw [← hk] at CL
    replace CL := Lib.hid CL
    have HN := Lib.hid hn
    have HN' := Lib.hid hn'
    replace hk := Lib.hid hk
    have CA := fun (p : Nat) (hP : Prm p) (W : World) (hA : NatV W A ca a) (hB : NatV W B cb b) => around_c p k A ca a B cb b W hP (by omega) hA hB hb0 (by omega) (by omega) (by omega)
    replace CA := Lib.hid CA
    have hu1 := Tryz.underlying156
    have hu2 := Tryz.underlying155
    have hu3 := Tryz.underlying153
    obtain ⟨g0, g1, g2⟩ := hG
    have h00 : 1 < w.heap.size := World.block_lt_of_cell? w _ g0
    clear hn hn' h0
    go_enter Tryz.func148, Tryz.ntmps148
    go_wp2_with (fail)
    refine (CL.out w).mono ?_
    rintro e w1 ⟨rfl, hw1⟩
    rw [hw1]
    clear hw1
    have hb1 : Below w.heap.size w (w.alloc (.cells #[.slice none 0 0, .slice none 0 0, .slice none 0 0] 153)) := (Below.refl _ _).alloc (Nat.le_refl _) _
    have hobj := heap_alloc_new w (.cells #[.slice none 0 0, .slice none 0 0, .slice none 0 0] 153)
    replace g0 := cbl hb1 g0
    replace g1 := cbl hb1 g1
    replace g2 := cbl hb1 g2
    obtain ⟨s, hs⟩ : ∃ s, s = w.heap.size := ⟨_, rfl⟩
    obtain ⟨N, hN⟩ : ∃ N, N = 2 ^ k := ⟨_, rfl⟩
    rw [← hN] at hnk
    have HNN := Lib.hid hN
    have CA2 := fun p hP W h1 h2 => CA.out p hP W h1 h2
    rw [← hN] at CA2
    replace CA2 := Lib.hid CA2
    clear CA hN
    have hs0 : 1 ≠ s := by omega
    go_wp2_with (fail)
    rw [← hs] at hobj ⊢
    have hsl : w.heap.size ≤ s := by omega
    clear hs
    generalize w.alloc (.cells #[.slice none 0 0, .slice none 0 0, .slice none 0 0] 153) = W0 at *
    have hsW := hb1.size
    go_loopw [8, 9, 44] (fun vi vf ct wr => ∃ (i : Nat) (u0 u1 u2 : Value), ct = .int .i64 i ∧ i ≤ 3 ∧ Only s W0 wr ∧ wr.heap[s]? = some (.cells #[u0, u1, u2] 153 (0, 0)) ∧ Hid ((0 < i → Rst wr s N 998244353 a b u0) ∧ (1 < i → Rst wr s N 469762049 a b u1) ∧ (2 < i → Rst wr s N 167772161 a b u2))) (fun vi vf ct wr => 3 - (intOf ct).toNat)
    case atStart => exact ⟨0, _, _, _, rfl, by decide, .refl _ _, hobj, Lib.hid ⟨fun h => absurd h (by decide), fun h => absurd h (by decide), fun h => absurd h (by decide)⟩⟩
    case round =>
      obtain ⟨i, u0, u1, u2, rfl, hi, ho, hob, hR⟩ := hrel
      have hbr := hb1.trans (ho.below hsl hsW)
      have hAr := hA.below hbr
      have hBr := hB.below hbr
      by_cases hlt : i < 3
      · rcases i with _ | _ | _ | i
        · have hbB : Below wr.heap.size wr (wr.alloc (.cells #[.int .u64 998244353] 155)) := (Below.refl _ _).alloc (Nat.le_refl _) _
          have hcB : (wr.alloc (.cells #[.int .u64 998244353] 155)).cell? ⟨wr.heap.size, 0, none⟩ = some (.int .u64 998244353) := by
            unfold World.cell?; rw [heap_alloc_new]; rfl
          have hix := idx0
          have CC := CA2.out 998244353 prm0 _ (hAr.below hbB) (hBr.below hbB)
          unfold fld at CC
          rw [show ((998244353 : Nat) : Int) = 998244353 from rfl] at CC
          replace CC := Lib.hid CC
          have hsr : s < wr.heap.size := (Array.getElem?_eq_some_iff.1 hob).1
          go_wp2_with (fail)
          refine CC.out.mono ?_
          rintro e W2 ⟨bx, X, rfl, hbxl, hX, hXl, hXv, hb2⟩
          have hoW : Only s W0 W2 := (ho.cons hbB).cons hb2
          have hob2 := (hb2.block s (Nat.lt_of_lt_of_le hsr hbB.size)).trans ((hbB.block s hsr).trans hob)
          obtain ⟨⟨k0, k1, k2⟩, z0, z1, z2⟩ := at_cells hob2
          have hbxs : bx ≠ s := by have := hbB.size; omega
          replace hXv := Lib.hid hXv
          go_wp2_with (fail)
          go_roundw
          case rel =>
            refine ⟨1, .slice (some ⟨bx, 0, none⟩) N N, u1, u2, by go_num, by decide, hoW.store _ _, heap_setCell_same _ s 0 _ _ _ hob2, Lib.hid ⟨?_, ?_, ?_⟩⟩
            · exact fun _ => ⟨bx, X, rfl, hbxs, (Only.set s W2 _ _).arr hX hbxs, hXl, hXv.out⟩
            · exact fun h => absurd h (by decide)
            · exact fun h => absurd h (by decide)
          case measure => simp only [intOf]; decide
        · have hbB : Below wr.heap.size wr (wr.alloc (.cells #[.int .u64 469762049] 155)) := (Below.refl _ _).alloc (Nat.le_refl _) _
          have hcB : (wr.alloc (.cells #[.int .u64 469762049] 155)).cell? ⟨wr.heap.size, 0, none⟩ = some (.int .u64 469762049) := by
            unfold World.cell?; rw [heap_alloc_new]; rfl
          have hix := idx1
          have CC := CA2.out 469762049 prm1 _ (hAr.below hbB) (hBr.below hbB)
          unfold fld at CC
          rw [show ((469762049 : Nat) : Int) = 469762049 from rfl] at CC
          replace CC := Lib.hid CC
          have hsr : s < wr.heap.size := (Array.getElem?_eq_some_iff.1 hob).1
          go_wp2_with (fail)
          refine CC.out.mono ?_
          rintro e W2 ⟨bx, X, rfl, hbxl, hX, hXl, hXv, hb2⟩
          have hoW : Only s W0 W2 := (ho.cons hbB).cons hb2
          have hob2 := (hb2.block s (Nat.lt_of_lt_of_le hsr hbB.size)).trans ((hbB.block s hsr).trans hob)
          obtain ⟨⟨k0, k1, k2⟩, z0, z1, z2⟩ := at_cells hob2
          have hbxs : bx ≠ s := by have := hbB.size; omega
          replace hXv := Lib.hid hXv
          go_wp2_with (fail)
          go_roundw
          case rel =>
            refine ⟨2, u0, .slice (some ⟨bx, 0, none⟩) N N, u2, by go_num, by decide, hoW.store _ _, heap_setCell_same _ s 1 _ _ _ hob2, Lib.hid ⟨?_, ?_, ?_⟩⟩
            · exact fun _ => ((hR.out.1 (by decide)).only ((Only.of hbB).trans (Only.of hb2))).only (Only.set s W2 _ _)
            · exact fun _ => ⟨bx, X, rfl, hbxs, (Only.set s W2 _ _).arr hX hbxs, hXl, hXv.out⟩
            · exact fun h => absurd h (by decide)
          case measure => simp only [intOf]; decide
        · have hbB : Below wr.heap.size wr (wr.alloc (.cells #[.int .u64 167772161] 155)) := (Below.refl _ _).alloc (Nat.le_refl _) _
          have hcB : (wr.alloc (.cells #[.int .u64 167772161] 155)).cell? ⟨wr.heap.size, 0, none⟩ = some (.int .u64 167772161) := by
            unfold World.cell?; rw [heap_alloc_new]; rfl
          have hix := idx2
          have CC := CA2.out 167772161 prm2 _ (hAr.below hbB) (hBr.below hbB)
          unfold fld at CC
          rw [show ((167772161 : Nat) : Int) = 167772161 from rfl] at CC
          replace CC := Lib.hid CC
          have hsr : s < wr.heap.size := (Array.getElem?_eq_some_iff.1 hob).1
          go_wp2_with (fail)
          refine CC.out.mono ?_
          rintro e W2 ⟨bx, X, rfl, hbxl, hX, hXl, hXv, hb2⟩
          have hoW : Only s W0 W2 := (ho.cons hbB).cons hb2
          have hob2 := (hb2.block s (Nat.lt_of_lt_of_le hsr hbB.size)).trans ((hbB.block s hsr).trans hob)
          obtain ⟨⟨k0, k1, k2⟩, z0, z1, z2⟩ := at_cells hob2
          have hbxs : bx ≠ s := by have := hbB.size; omega
          replace hXv := Lib.hid hXv
          go_wp2_with (fail)
          go_roundw
          case rel =>
            refine ⟨3, u0, u1, .slice (some ⟨bx, 0, none⟩) N N, by go_num, by decide, hoW.store _ _, heap_setCell_same _ s 2 _ _ _ hob2, Lib.hid ⟨?_, ?_, ?_⟩⟩
            · exact fun _ => ((hR.out.1 (by decide)).only ((Only.of hbB).trans (Only.of hb2))).only (Only.set s W2 _ _)
            · exact fun _ => ((hR.out.2.1 (by decide)).only ((Only.of hbB).trans (Only.of hb2))).only (Only.set s W2 _ _)
            · exact fun _ => ⟨bx, X, rfl, hbxs, (Only.set s W2 _ _).arr hX hbxs, hXl, hXv.out⟩
          case measure => simp only [intOf]; decide
        · omega
      · obtain rfl : i = 3 := by omega
        obtain ⟨R0, R1, R2⟩ := hR.out
        replace R0 := R0 (by decide)
        replace R1 := R1 (by decide)
        replace R2 := R2 (by decide)
        replace g0 := ho.cell g0 hs0
        replace g1 := ho.cell g1 hs0
        replace g2 := ho.cell g2 hs0
        obtain ⟨W1, rfl⟩ : ∃ W1 : World, W1 = wr := ⟨_, rfl⟩
        have hsr : s < W1.heap.size := (Array.getElem?_eq_some_iff.1 hob).1
        have hd := (Below.refl W1.heap.size W1).drew
        have g0d := cbl hd g0
        have g1d := cbl hd g1
        have g2d := cbl hd g2
        have hgW : 1 < W1.heap.size := World.block_lt_of_cell? W1 _ g1
        have hgN : ¬ 1 = W1.heap.size := by omega
        have hgM : ¬ W1.heap.size = 1 := by omega
        have hal1 : ∀ (m : Nat) (o : Obj), Below W1.heap.size W1 ((W1.drewN m).alloc o) := fun m o => ((Below.refl _ _).drewN m).alloc (Nat.le_refl _) o
        have hal2 : ∀ (m : Nat) (o o' : Obj), Below W1.heap.size W1 (((W1.drewN m).alloc o).alloc o') := fun m o o' => (hal1 m o).alloc (hal1 m o).size o'
        have e01 : ∀ (m : Nat), (W1.drewN m).cell? ⟨1, 1, none⟩ = some (.int .u64 469762049) := fun m => g1
        have e02 : ∀ (m : Nat), (W1.drewN m).cell? ⟨1, 2, none⟩ = some (.int .u64 167772161) := fun m => g2
        have e11 : ∀ (m : Nat) (o : Obj), ((W1.drewN m).alloc o).cell? ⟨1, 1, none⟩ = some (.int .u64 469762049) := fun m o => cell_below (hal1 m o) g1
        have e12 : ∀ (m : Nat) (o : Obj), ((W1.drewN m).alloc o).cell? ⟨1, 2, none⟩ = some (.int .u64 167772161) := fun m o => cell_below (hal1 m o) g2
        have e21 : ∀ (m : Nat) (o o' : Obj), (((W1.drewN m).alloc o).alloc o').cell? ⟨1, 1, none⟩ = some (.int .u64 469762049) := fun m o o' => cell_below (hal2 m o o') g1
        have e22 : ∀ (m : Nat) (o o' : Obj), (((W1.drewN m).alloc o).alloc o').cell? ⟨1, 2, none⟩ = some (.int .u64 167772161) := fun m o o' => cell_below (hal2 m o o') g2
        have hal3 : ∀ (m : Nat) (o o' : Obj) (v : Value), Below W1.heap.size W1 ((((W1.drewN m).alloc o).setCell ⟨W1.heap.size, 0, none⟩ v).alloc o') := fun m o o' v => ((hal1 m o).setCell (p := ⟨W1.heap.size, 0, none⟩) (Nat.le_refl _) v).alloc ((hal1 m o).setCell (p := ⟨W1.heap.size, 0, none⟩) (Nat.le_refl _) v).size o'
        have e31 : ∀ (m : Nat) (o o' : Obj) (v : Value), ((((W1.drewN m).alloc o).setCell ⟨W1.heap.size, 0, none⟩ v).alloc o').cell? ⟨1, 1, none⟩ = some (.int .u64 469762049) := fun m o o' v => cell_below (hal3 m o o' v) g1
        have e32 : ∀ (m : Nat) (o o' : Obj) (v : Value), ((((W1.drewN m).alloc o).setCell ⟨W1.heap.size, 0, none⟩ v).alloc o').cell? ⟨1, 2, none⟩ = some (.int .u64 167772161) := fun m o o' v => cell_below (hal3 m o o' v) g2
        clear hal3
        have st1 : ∀ (m : Nat) (u v : Value), (((W1.drewN m).alloc (.cells #[u] 155)).alloc (.cells #[v] 155)).heap[W1.heap.size]? = some (.cells #[u] 155 (0, 0)) := fun m u v => by
          rw [Below.heap_alloc _ _ _ (by simp)]; exact heap_alloc_new (W1.drewN m) _
        have st2 : ∀ (m : Nat) (u v : Value), (((W1.drewN m).alloc (.cells #[u] 155)).alloc (.cells #[v] 155)).cell? ⟨W1.heap.size, 0, none⟩ = some u := fun m u v => by
          unfold World.cell?; rw [st1]; rfl
        have st3 : ∀ (m : Nat) (u v : Value), (((W1.drewN m).alloc (.cells #[u] 155)).alloc (.cells #[v] 155)).frozen? ⟨W1.heap.size, 0, none⟩ = false := fun m u v => by
          unfold World.frozen?; rw [st1]; rfl
        replace st1 := Lib.hid st1
        clear hAr hBr hA hB CA2 CL ho hobj hb1 hR hal1 hal2
        go_wp2_with (fail)
        go_quiet (fail)
        go_wp2_with (fail)
        go_big_region
        rotate_left
        · skip
          have T := two_new (W1.drewN (nq + 1)) (.int .u64 167772161) (.int .u64 469762049)
          rw [show (W1.drewN (nq + 1)).heap.size = W1.heap.size from rfl] at T
          generalize (((W1.drewN (nq + 1)).alloc (.cells #[.int .u64 0] 155)).setCell ⟨W1.heap.size, 0, none⟩ (.int .u64 167772161)).alloc (.cells #[.int .u64 469762049] 155) = V at T ⊢
          obtain ⟨c2, c1, hbV⟩ := T
          have hbV' : Below W1.heap.size W1 V := ((Below.refl W1.heap.size W1).drewN (nq + 1)).trans hbV
          clear hbV
          obtain ⟨tA, htA⟩ : ∃ tA, tA = W1.heap.size + 1 := ⟨_, rfl⟩
          obtain ⟨tB, htB⟩ : ∃ tB, tB = W1.heap.size := ⟨_, rfl⟩
          clear e01 e02 e11 e12 e21 e22 st1 st2 st3 g0d g1d g2d
          rw [← htA] at c1 ⊢
          rw [← htB] at c2 ⊢
          replace htA := Lib.hid htA
          replace htB := Lib.hid htB
          obtain ⟨x0, X0, eu0, hx0s, hX0, hX0l, hX0v⟩ := R0.only (Only.of (b := s) hbV')
          obtain ⟨x1, X1, eu1, hx1s, hX1, hX1l, hX1v⟩ := R1.only (Only.of (b := s) hbV')
          obtain ⟨x2, X2, eu2, hx2s, hX2, hX2l, hX2v⟩ := R2.only (Only.of (b := s) hbV')
          subst eu0 eu1 eu2
          have hobV := (hbV'.block s hsr).trans hob
          obtain ⟨⟨k0, k1, k2⟩, _, _, _⟩ := at_cells hobV
          replace hX0v := Lib.hid hX0v
          replace hX1v := Lib.hid hX1v
          replace hX2v := Lib.hid hX2v
          clear R0 R1 R2 hob
          have hdV := (Below.refl V.heap.size V).drew
          have d1 := cbl hdV c1
          have d2 := cbl hdV c2
          go_wp2_with (fail)
          go_region_held3 (fun W => W.cell? ⟨tA, 0, none⟩ = some (.int .u64 469762049) ∧ W.cell? ⟨tB, 0, none⟩ = some (.int .u64 167772161))
            (first
              | exact ⟨d1, d2⟩
              | exact ⟨d13, d23⟩
              | exact ⟨d14, d24⟩
              | go_keep)
            (first
              | (go_at_call 161; (with_reducible refine (inv1_c _).mono ?_); rintro e W3 ⟨rfl, hb3⟩; have d13 := cbl hb3 d1; have d23 := cbl hb3 d2)
              | (go_at_call 161; (with_reducible refine (inv2_c _).mono ?_); rintro e W4 ⟨rfl, hb4⟩; have d14 := cbl hb4 d13; have d24 := cbl hb4 d23; have hbW := (hdV.cons hb3).cons hb4))
          replace k0 := cbl hbW k0
          replace k1 := cbl hbW k1
          replace k2 := cbl hbW k2
          replace hX0 := hX0.below hbW
          replace hX1 := hX1.below hbW
          replace hX2 := hX2.below hbW
          have hmk := mkr3 (n : Int) (by omega) (by omega)
          rw [Int.toNat_natCast] at hmk
          obtain ⟨W5, hW5⟩ : ∃ W5, W5 = W4.alloc (.cells (vals (List.replicate (3 * n) 0)).toArray 150) := ⟨_, rfl⟩
          have hb5 : Below W4.heap.size W4 W5 := by rw [hW5]; exact (Below.refl _ _).alloc (Nat.le_refl _) _
          have hO5 : W5.heap[W4.heap.size]? = some (.cells (vals (List.replicate (3 * n) 0)).toArray 150 (0, 0)) := by rw [hW5, heap_alloc_new]
          clear hobV c1 c2 d1 d2 d13 d23
          go_wp2_with (fail)
          rw [← hW5]
          have hso : s ≠ W4.heap.size := by have h : s < W4.heap.size := World.block_lt_of_cell? _ _ k0; omega
          have hx0o : x0 ≠ W4.heap.size := by have := hX0.lt; omega
          have hx1o : x1 ≠ W4.heap.size := by have := hX1.lt; omega
          have hx2o : x2 ≠ W4.heap.size := by have := hX2.lt; omega
          have htAo : tA ≠ W4.heap.size := by have h : tA < W4.heap.size := World.block_lt_of_cell? _ _ d14; omega
          have htBo : tB ≠ W4.heap.size := by have h : tB < W4.heap.size := World.block_lt_of_cell? _ _ d24; omega
          replace k0 := cbl hb5 k0
          replace k1 := cbl hb5 k1
          replace k2 := cbl hb5 k2
          replace hX0 := hX0.below hb5
          replace hX1 := hX1.below hb5
          replace hX2 := hX2.below hb5
          replace d14 := cbl hb5 d14
          replace d24 := cbl hb5 d24
          obtain ⟨o, ho⟩ : ∃ o, o = W4.heap.size := ⟨_, rfl⟩
          rw [← ho] at hso hx0o hx1o hx2o htAo htBo hO5 ⊢
          replace ho := Lib.hid ho
          replace hW5 := Lib.hid hW5
          clear hmk hdV
          go_loopw [17, 18, 19, 20, 21, 22, 23, 24, 86] (fun v17 v18 v19 v20 v21 v22 v23 v24 ct wr => ∃ (i : Nat) (L : List Nat), ct = .int .i64 i ∧ i ≤ n ∧ Only o W5 wr ∧ wr.heap[o]? = some (.cells (vals L).toArray 150 (0, 0)) ∧ Hid (L.length = 3 * n) ∧ Lim L ∧ Hid (∀ j, j < i → gl L (3 * j) + 4294967296 * gl L (3 * j + 1) + 4294967296 * 4294967296 * gl L (3 * j + 2) = cv (gl (limbs a)) (gl (limbs b)) (nl a) j)) (fun v17 v18 v19 v20 v21 v22 v23 v24 ct wr => n - (intOf ct).toNat)
          case atStart => exact ⟨0, _, rfl, Nat.zero_le _, .refl _ _, hO5, Lib.hid (by simp), Lim.replicate _ _ (by decide), Lib.hid (fun j h => absurd h (by omega))⟩
          case round =>
            obtain ⟨i, L, rfl, hi, hoo, hL, hLl, hLm, hLv⟩ := hrel
            by_cases hlt : i < n
            · have hiN : i < N := by omega
              have kk0 := hoo.cell k0 hso
              have kk1 := hoo.cell k1 hso
              have kk2 := hoo.cell k2 hso
              have kA := hoo.cell d14 htAo
              have kB := hoo.cell d24 htBo
              have q0 := (hoo.arr hX0 hx0o).cell i (by rw [hX0l]; exact hiN)
              have q1 := (hoo.arr hX1 hx1o).cell i (by rw [hX1l]; exact hiN)
              have q2 := (hoo.arr hX2 hx2o).cell i (by rw [hX2l]; exact hiN)
              rw [hX0v.out i hiN] at q0
              rw [hX1v.out i hiN] at q1
              rw [hX2v.out i hiN] at q2
              obtain ⟨S, hS⟩ : ∃ S, S = cv (gl (limbs a)) (gl (limbs b)) (nl a) i := ⟨_, rfl⟩
              rw [← hS] at q0 q1 q2
              have hSb : S < 468937312667959297 * 167772161 := by
                have h1 := cv_small (limbs a) (limbs b) (lim_limbs a) (lim_limbs b) (nl a) i
                rw [← hS] at h1
                exact Nat.lt_of_le_of_lt (Nat.le_trans h1 (Nat.mul_le_mul_right _ ha)) (by decide)
              obtain ⟨x, hx⟩ : ∃ x, x = S % 998244353 := ⟨_, rfl⟩
              obtain ⟨r1, hr1⟩ : ∃ r, r = S % 469762049 := ⟨_, rfl⟩
              obtain ⟨r2, hr2⟩ : ∃ r, r = S % 167772161 := ⟨_, rfl⟩
              rw [← hx] at q0
              rw [← hr1] at q1
              rw [← hr2] at q2
              have hxb : x < 998244353 := by rw [hx]; exact Nat.mod_lt _ (by decide)
              have hr1b : r1 < 469762049 := by rw [hr1]; exact Nat.mod_lt _ (by decide)
              have hr2b : r2 < 167772161 := by rw [hr2]; exact Nat.mod_lt _ (by decide)
              obtain ⟨xr, hxr⟩ : ∃ xr, xr = x % 469762049 := ⟨_, rfl⟩
              have hxrI : (x : Int) % 469762049 = (xr : Int) := by omega
              have hxrb : xr < 469762049 := by omega
              obtain ⟨d, hd⟩ : ∃ d, d = (r1 + 469762049 - xr) % 469762049 := ⟨_, rfl⟩
              have hdb : d < 469762049 := by omega
              obtain ⟨y, hy⟩ : ∃ y, y = d * 208783132 % 469762049 := ⟨_, rfl⟩
              have hyb : y < 469762049 := by rw [hy]; exact Nat.mod_lt _ (by decide)
              obtain ⟨low, hlow⟩ : ∃ low, low = x + y * 998244353 := ⟨_, rfl⟩
              have hlowI : (x : Int) + (y : Int) * 998244353 = (low : Int) := by omega
              have hlowb : low < 468937312667959297 := by omega
              obtain ⟨lr, hlr⟩ : ∃ lr, lr = low % 167772161 := ⟨_, rfl⟩
              have hlrI : (low : Int) % 167772161 = (lr : Int) := by omega
              have hlrb : lr < 167772161 := by omega
              obtain ⟨d2, hd2⟩ : ∃ d, d = (r2 + 167772161 - lr) % 167772161 := ⟨_, rfl⟩
              have hd2b : d2 < 167772161 := by omega
              obtain ⟨z, hz⟩ : ∃ z, z = d2 * 29562547 % 167772161 := ⟨_, rfl⟩
              have hzb : z < 167772161 := by rw [hz]; exact Nat.mod_lt _ (by decide)
              have hmain := (crt3 S 998244353 468937312667959297 469762049 167772161 208783132 29562547 (by decide) (by decide) (by decide) (by decide) (by decide) hSb x y low z hx (by rw [hy, hd, hr1, hxr]) hlow (by rw [hz, hd2, hr2, hlr])).2.2
              have C1 := fun (W : World) => sub1_c r1 xr W hr1b hxrb
              have C2 := fun (W : World) => mul1_c d W (by omega)
              have C3 := fun (W : World) => sub2_c r2 lr W hr2b hlrb
              have C4 := fun (W : World) => mul2_c d2 W (by omega)
              rw [← hd] at C1
              rw [← hy] at C2
              rw [← hd2] at C3
              rw [← hz] at C4
              have C5 := fun (W : World) => mulq_c z W (by omega)
              obtain ⟨hi', hhi⟩ : ∃ h, h = z * 468937312667959297 / 18446744073709551616 := ⟨_, rfl⟩
              obtain ⟨lo, hlo⟩ : ∃ l, l = z * 468937312667959297 % 18446744073709551616 := ⟨_, rfl⟩
              rw [← hhi, ← hlo] at C5
              have C6 := fun (W : World) => add64_0 lo low W
              obtain ⟨su, hsu⟩ : ∃ su, su = (lo + low) % 18446744073709551616 := ⟨_, rfl⟩
              obtain ⟨cy, hcy⟩ : ∃ cy, cy = (lo + low) / 18446744073709551616 := ⟨_, rfl⟩
              rw [← hsu, ← hcy] at C6
              have hhib : hi' < 4294967296 := by omega
              have hlob : lo < 18446744073709551616 := by omega
              have hcyb : cy ≤ 1 := by omega
              have hsub : su < 18446744073709551616 := by omega
              have hrow : su + 18446744073709551616 * (hi' + cy) = S := by omega
              have hrowb : hi' + cy < 4294967296 := by omega
              have tx : (x : Int).tmod 469762049 = (xr : Int) := by rw [Int.tmod_eq_emod_of_nonneg (by omega)]; exact hxrI
              have tl : (low : Int).tmod 167772161 = (lr : Int) := by rw [Int.tmod_eq_emod_of_nonneg (by omega)]; exact hlrI
              have zx : IntKind.u64.wrap (xr : Int) = (xr : Int) := IntWalk.u64_in _ (by omega)
              have zl : IntKind.u64.wrap (lr : Int) = (lr : Int) := IntWalk.u64_in _ (by omega)
              replace C1 := Lib.hid C1
              replace C2 := Lib.hid C2
              replace C3 := Lib.hid C3
              replace C4 := Lib.hid C4
              replace C5 := Lib.hid C5
              replace hS := Lib.hid hS
              replace hrow := Lib.hid hrow
              clear hmain hSb hx hr1 hr2 hxr hd hy hlow hlr hd2 hz hhi hlo hsu hcy
              have hdw := (Below.refl wr.heap.size wr).drew
              have jA := cbl hdw kA
              have j1 := cbl hdw kk1
              have jq1 := cbl hdw q1
              go_wp2_with (fail)
              go_region_held3 (fun W => W.cell? ⟨tA, 0, none⟩ = some (.int .u64 469762049) ∧ W.cell? ⟨s, 1, none⟩ = some (.slice (some ⟨x1, 0, none⟩) N N) ∧ W.cell? ⟨x1, i, none⟩ = some (.int .u64 (r1 : Nat)))
                (first
                  | exact ⟨jA, j1, jq1⟩
                  | exact ⟨jA6, j16, jq16⟩
                  | exact ⟨jA7, j17, jq17⟩
                  | go_keep)
                (first
                  | (go_at_call 163; (with_reducible refine (C1.out _).mono ?_); rintro e W6 ⟨rfl, hb6⟩; have jA6 := cbl hb6 jA; have j16 := cbl hb6 j1; have jq16 := cbl hb6 jq1)
                  | (go_at_call 162; (with_reducible refine (C2.out _).mono ?_); rintro e W7 ⟨rfl, hb7⟩; have jA7 := cbl hb7 jA6; have j17 := cbl hb7 j16; have jq17 := cbl hb7 jq16; have hb67 := (hdw.cons hb6).cons hb7))
              have hB7 := (cell_below hb67 kB)
              have h27 := (cell_below hb67 kk2)
              have hq27 := (cell_below hb67 q2)
              have hdw7 := (Below.refl W7.heap.size W7).drew
              have jB := cbl hdw7 hB7
              have j2 := cbl hdw7 h27
              have jq2 := cbl hdw7 hq27
              clear jA j1 jq1 jA6 j16 jq16 jA7 j17 jq17
              go_wp2_with (fail)
              go_region_held3 (fun W => W.cell? ⟨tB, 0, none⟩ = some (.int .u64 167772161) ∧ W.cell? ⟨s, 2, none⟩ = some (.slice (some ⟨x2, 0, none⟩) N N) ∧ W.cell? ⟨x2, i, none⟩ = some (.int .u64 (r2 : Nat)))
                (first
                  | exact ⟨jB, j2, jq2⟩
                  | exact ⟨jB8, j28, jq28⟩
                  | exact ⟨jB9, j29, jq29⟩
                  | go_keep)
                (first
                  | (go_at_call 163; (with_reducible refine (C3.out _).mono ?_); rintro e W8 ⟨rfl, hb8⟩; have jB8 := cbl hb8 jB; have j28 := cbl hb8 j2; have jq28 := cbl hb8 jq2)
                  | (go_at_call 162; (with_reducible refine (C4.out _).mono ?_); rintro e W9 ⟨rfl, hb9⟩; have jB9 := cbl hb9 jB8; have j29 := cbl hb9 j28; have jq29 := cbl hb9 jq28; have hb89 := (hdw7.cons hb8).cons hb9))
              have hb10 := hb67.cons hb89
              have hor : o < wr.heap.size := (Array.getElem?_eq_some_iff.1 hL).1
              have hL9 := (hb10.block o hor).trans hL
              have hoo9 := hoo.cons hb10
              clear jB j2 jq2 jB8 j28 jq28 jB9 j29 jq29 hB7 h27 hq27
              go_wp2_with (fail)
              obtain ⟨⟨⟨u0, fc0⟩, ff0⟩, F1, F2, F3⟩ := row_facts (j := i * 3) hL9 hLl.out (by omega)
              have fc1 := fun v => (F1 v).1
              have ff1 := fun v => (F1 v).2
              have fc2 := fun v v' => (F2 v v').1
              have ff2 := fun v v' => (F2 v v').2
              obtain ⟨g1, fc1⟩ : ∃ g : Value → Value, ∀ v, (W9.setCell ⟨o, i * 3, none⟩ v).cell? ⟨o, i * 3 + 1, none⟩ = some (g v) := ⟨fun v => (fc1 v).choose, fun v => (fc1 v).choose_spec⟩
              obtain ⟨g2, fc2⟩ : ∃ g : Value → Value → Value, ∀ v v', ((W9.setCell ⟨o, i * 3, none⟩ v).setCell ⟨o, i * 3 + 1, none⟩ v').cell? ⟨o, i * 3 + 2, none⟩ = some (g v v') := ⟨fun v v' => (fc2 v v').choose, fun v v' => (fc2 v v').choose_spec⟩
              replace F3 := Lib.hid F3
              clear F1 F2
              refine (C5.out W9).mono ?_
              rintro e W10 ⟨rfl, rfl⟩
              go_wp2_with (simp only [C6])
              go_roundw
              case rel =>
                have ea : ((su : Int) % 4294967296) = ((su % 4294967296 : Nat) : Int) := by omega
                have eb : ((su : Int) / 4294967296) = ((su / 4294967296 : Nat) : Int) := by omega
                have ec : ((hi' : Int) + (cy : Int)) = ((hi' + cy : Nat) : Int) := by omega
                rw [ea, eb, ec]
                refine ⟨i + 1, ((L.set (i * 3) (su % 4294967296)).set (i * 3 + 1) (su / 4294967296)).set (i * 3 + 2) (hi' + cy), by go_num, by omega, ((hoo9.store _ _).store _ _).store _ _, F3.out _ _ _, Lib.hid (by simp [hLl.out]), ((hLm.set _ _ (Nat.mod_lt _ (by decide))).set _ _ (by omega)).set _ _ hrowb, Lib.hid (row_val hLl.out hlt (by have := hrow.out; omega) hS.out hLv.out)⟩
              case measure => simp only [intOf]; omega
            · have hin : i = n := by omega
              have hrv : rowsV L n = a * b := by
                rw [rowsV_psum' L _ n (fun j hj => hLv.out j (by omega))]
                exact cv_mul a b n hb0 (by have := HN.out; omega)
              replace hrv := Lib.hid hrv
              go_wp2_with (fail)
              go_ret
              refine ⟨some ⟨o, 0, none⟩, n, n, L, rfl, hLl.out, .inr ⟨_, rfl, fun j u hu => ?_⟩, hLm, Nat.le_refl _, by omega, hrv.out, ?_⟩
              · unfold World.cell?
                rw [add_zero_off, hL]
                simpa using hu
              · have hT := ((hbr.cons hbV').cons hbW).cons hb5
                have ho4 := ((hbr.cons hbV').cons hbW).size
                exact hT.trans (hoo.below (by have := ho.out; omega) hT.size)
        have T := two_new (W1.drewN (nq + 1)) (.int .u64 469762049) (.int .u64 167772161)
        rw [show (W1.drewN (nq + 1)).heap.size = W1.heap.size from rfl] at T
        generalize (((W1.drewN (nq + 1)).alloc (.cells #[.int .u64 0] 155)).setCell ⟨W1.heap.size, 0, none⟩ (.int .u64 469762049)).alloc (.cells #[.int .u64 167772161] 155) = V at T ⊢
        obtain ⟨c1, c2, hbV⟩ := T
        have hbV' : Below W1.heap.size W1 V := ((Below.refl W1.heap.size W1).drewN (nq + 1)).trans hbV
        clear hbV
        obtain ⟨tB, htB⟩ : ∃ tB, tB = W1.heap.size + 1 := ⟨_, rfl⟩
        obtain ⟨tA, htA⟩ : ∃ tA, tA = W1.heap.size := ⟨_, rfl⟩
        clear e01 e02 e11 e12 e21 e22 st1 st2 st3 g0d g1d g2d
        rw [← htB] at c2 ⊢
        rw [← htA] at c1 ⊢
        replace htA := Lib.hid htA
        replace htB := Lib.hid htB
        obtain ⟨x0, X0, eu0, hx0s, hX0, hX0l, hX0v⟩ := R0.only (Only.of (b := s) hbV')
        obtain ⟨x1, X1, eu1, hx1s, hX1, hX1l, hX1v⟩ := R1.only (Only.of (b := s) hbV')
        obtain ⟨x2, X2, eu2, hx2s, hX2, hX2l, hX2v⟩ := R2.only (Only.of (b := s) hbV')
        subst eu0 eu1 eu2
        have hobV := (hbV'.block s hsr).trans hob
        obtain ⟨⟨k0, k1, k2⟩, _, _, _⟩ := at_cells hobV
        replace hX0v := Lib.hid hX0v
        replace hX1v := Lib.hid hX1v
        replace hX2v := Lib.hid hX2v
        clear R0 R1 R2 hob
        have hdV := (Below.refl V.heap.size V).drew
        have d1 := cbl hdV c1
        have d2 := cbl hdV c2
        go_wp2_with (fail)
        go_region_held3 (fun W => W.cell? ⟨tA, 0, none⟩ = some (.int .u64 469762049) ∧ W.cell? ⟨tB, 0, none⟩ = some (.int .u64 167772161))
          (first
            | exact ⟨d1, d2⟩
            | exact ⟨d13, d23⟩
            | exact ⟨d14, d24⟩
            | go_keep)
          (first
            | (go_at_call 161; (with_reducible refine (inv1_c _).mono ?_); rintro e W3 ⟨rfl, hb3⟩; have d13 := cbl hb3 d1; have d23 := cbl hb3 d2)
            | (go_at_call 161; (with_reducible refine (inv2_c _).mono ?_); rintro e W4 ⟨rfl, hb4⟩; have d14 := cbl hb4 d13; have d24 := cbl hb4 d23; have hbW := (hdV.cons hb3).cons hb4))
        replace k0 := cbl hbW k0
        replace k1 := cbl hbW k1
        replace k2 := cbl hbW k2
        replace hX0 := hX0.below hbW
        replace hX1 := hX1.below hbW
        replace hX2 := hX2.below hbW
        have hmk := mkr3 (n : Int) (by omega) (by omega)
        rw [Int.toNat_natCast] at hmk
        obtain ⟨W5, hW5⟩ : ∃ W5, W5 = W4.alloc (.cells (vals (List.replicate (3 * n) 0)).toArray 150) := ⟨_, rfl⟩
        have hb5 : Below W4.heap.size W4 W5 := by rw [hW5]; exact (Below.refl _ _).alloc (Nat.le_refl _) _
        have hO5 : W5.heap[W4.heap.size]? = some (.cells (vals (List.replicate (3 * n) 0)).toArray 150 (0, 0)) := by rw [hW5, heap_alloc_new]
        clear hobV c1 c2 d1 d2 d13 d23
        go_wp2_with (fail)
        rw [← hW5]
        have hso : s ≠ W4.heap.size := by have h : s < W4.heap.size := World.block_lt_of_cell? _ _ k0; omega
        have hx0o : x0 ≠ W4.heap.size := by have := hX0.lt; omega
        have hx1o : x1 ≠ W4.heap.size := by have := hX1.lt; omega
        have hx2o : x2 ≠ W4.heap.size := by have := hX2.lt; omega
        have htAo : tA ≠ W4.heap.size := by have h : tA < W4.heap.size := World.block_lt_of_cell? _ _ d14; omega
        have htBo : tB ≠ W4.heap.size := by have h : tB < W4.heap.size := World.block_lt_of_cell? _ _ d24; omega
        replace k0 := cbl hb5 k0
        replace k1 := cbl hb5 k1
        replace k2 := cbl hb5 k2
        replace hX0 := hX0.below hb5
        replace hX1 := hX1.below hb5
        replace hX2 := hX2.below hb5
        replace d14 := cbl hb5 d14
        replace d24 := cbl hb5 d24
        obtain ⟨o, ho⟩ : ∃ o, o = W4.heap.size := ⟨_, rfl⟩
        rw [← ho] at hso hx0o hx1o hx2o htAo htBo hO5 ⊢
        replace ho := Lib.hid ho
        replace hW5 := Lib.hid hW5
        clear hmk hdV
        go_loopw [17, 18, 19, 20, 21, 22, 23, 24, 86] (fun v17 v18 v19 v20 v21 v22 v23 v24 ct wr => ∃ (i : Nat) (L : List Nat), ct = .int .i64 i ∧ i ≤ n ∧ Only o W5 wr ∧ wr.heap[o]? = some (.cells (vals L).toArray 150 (0, 0)) ∧ Hid (L.length = 3 * n) ∧ Lim L ∧ Hid (∀ j, j < i → gl L (3 * j) + 4294967296 * gl L (3 * j + 1) + 4294967296 * 4294967296 * gl L (3 * j + 2) = cv (gl (limbs a)) (gl (limbs b)) (nl a) j)) (fun v17 v18 v19 v20 v21 v22 v23 v24 ct wr => n - (intOf ct).toNat)
        case atStart => exact ⟨0, _, rfl, Nat.zero_le _, .refl _ _, hO5, Lib.hid (by simp), Lim.replicate _ _ (by decide), Lib.hid (fun j h => absurd h (by omega))⟩
        case round =>
          obtain ⟨i, L, rfl, hi, hoo, hL, hLl, hLm, hLv⟩ := hrel
          by_cases hlt : i < n
          · have hiN : i < N := by omega
            have kk0 := hoo.cell k0 hso
            have kk1 := hoo.cell k1 hso
            have kk2 := hoo.cell k2 hso
            have kA := hoo.cell d14 htAo
            have kB := hoo.cell d24 htBo
            have q0 := (hoo.arr hX0 hx0o).cell i (by rw [hX0l]; exact hiN)
            have q1 := (hoo.arr hX1 hx1o).cell i (by rw [hX1l]; exact hiN)
            have q2 := (hoo.arr hX2 hx2o).cell i (by rw [hX2l]; exact hiN)
            rw [hX0v.out i hiN] at q0
            rw [hX1v.out i hiN] at q1
            rw [hX2v.out i hiN] at q2
            obtain ⟨S, hS⟩ : ∃ S, S = cv (gl (limbs a)) (gl (limbs b)) (nl a) i := ⟨_, rfl⟩
            rw [← hS] at q0 q1 q2
            have hSb : S < 468937312667959297 * 167772161 := by
              have h1 := cv_small (limbs a) (limbs b) (lim_limbs a) (lim_limbs b) (nl a) i
              rw [← hS] at h1
              exact Nat.lt_of_le_of_lt (Nat.le_trans h1 (Nat.mul_le_mul_right _ ha)) (by decide)
            obtain ⟨x, hx⟩ : ∃ x, x = S % 998244353 := ⟨_, rfl⟩
            obtain ⟨r1, hr1⟩ : ∃ r, r = S % 469762049 := ⟨_, rfl⟩
            obtain ⟨r2, hr2⟩ : ∃ r, r = S % 167772161 := ⟨_, rfl⟩
            rw [← hx] at q0
            rw [← hr1] at q1
            rw [← hr2] at q2
            have hxb : x < 998244353 := by rw [hx]; exact Nat.mod_lt _ (by decide)
            have hr1b : r1 < 469762049 := by rw [hr1]; exact Nat.mod_lt _ (by decide)
            have hr2b : r2 < 167772161 := by rw [hr2]; exact Nat.mod_lt _ (by decide)
            obtain ⟨xr, hxr⟩ : ∃ xr, xr = x % 469762049 := ⟨_, rfl⟩
            have hxrI : (x : Int) % 469762049 = (xr : Int) := by omega
            have hxrb : xr < 469762049 := by omega
            obtain ⟨d, hd⟩ : ∃ d, d = (r1 + 469762049 - xr) % 469762049 := ⟨_, rfl⟩
            have hdb : d < 469762049 := by omega
            obtain ⟨y, hy⟩ : ∃ y, y = d * 208783132 % 469762049 := ⟨_, rfl⟩
            have hyb : y < 469762049 := by rw [hy]; exact Nat.mod_lt _ (by decide)
            obtain ⟨low, hlow⟩ : ∃ low, low = x + y * 998244353 := ⟨_, rfl⟩
            have hlowI : (x : Int) + (y : Int) * 998244353 = (low : Int) := by omega
            have hlowb : low < 468937312667959297 := by omega
            obtain ⟨lr, hlr⟩ : ∃ lr, lr = low % 167772161 := ⟨_, rfl⟩
            have hlrI : (low : Int) % 167772161 = (lr : Int) := by omega
            have hlrb : lr < 167772161 := by omega
            obtain ⟨d2, hd2⟩ : ∃ d, d = (r2 + 167772161 - lr) % 167772161 := ⟨_, rfl⟩
            have hd2b : d2 < 167772161 := by omega
            obtain ⟨z, hz⟩ : ∃ z, z = d2 * 29562547 % 167772161 := ⟨_, rfl⟩
            have hzb : z < 167772161 := by rw [hz]; exact Nat.mod_lt _ (by decide)
            have hmain := (crt3 S 998244353 468937312667959297 469762049 167772161 208783132 29562547 (by decide) (by decide) (by decide) (by decide) (by decide) hSb x y low z hx (by rw [hy, hd, hr1, hxr]) hlow (by rw [hz, hd2, hr2, hlr])).2.2
            have C1 := fun (W : World) => sub1_c r1 xr W hr1b hxrb
            have C2 := fun (W : World) => mul1_c d W (by omega)
            have C3 := fun (W : World) => sub2_c r2 lr W hr2b hlrb
            have C4 := fun (W : World) => mul2_c d2 W (by omega)
            rw [← hd] at C1
            rw [← hy] at C2
            rw [← hd2] at C3
            rw [← hz] at C4
            have C5 := fun (W : World) => mulq_c z W (by omega)
            obtain ⟨hi', hhi⟩ : ∃ h, h = z * 468937312667959297 / 18446744073709551616 := ⟨_, rfl⟩
            obtain ⟨lo, hlo⟩ : ∃ l, l = z * 468937312667959297 % 18446744073709551616 := ⟨_, rfl⟩
            rw [← hhi, ← hlo] at C5
            have C6 := fun (W : World) => add64_0 lo low W
            obtain ⟨su, hsu⟩ : ∃ su, su = (lo + low) % 18446744073709551616 := ⟨_, rfl⟩
            obtain ⟨cy, hcy⟩ : ∃ cy, cy = (lo + low) / 18446744073709551616 := ⟨_, rfl⟩
            rw [← hsu, ← hcy] at C6
            have hhib : hi' < 4294967296 := by omega
            have hlob : lo < 18446744073709551616 := by omega
            have hcyb : cy ≤ 1 := by omega
            have hsub : su < 18446744073709551616 := by omega
            have hrow : su + 18446744073709551616 * (hi' + cy) = S := by omega
            have hrowb : hi' + cy < 4294967296 := by omega
            have tx : (x : Int).tmod 469762049 = (xr : Int) := by rw [Int.tmod_eq_emod_of_nonneg (by omega)]; exact hxrI
            have tl : (low : Int).tmod 167772161 = (lr : Int) := by rw [Int.tmod_eq_emod_of_nonneg (by omega)]; exact hlrI
            have zx : IntKind.u64.wrap (xr : Int) = (xr : Int) := IntWalk.u64_in _ (by omega)
            have zl : IntKind.u64.wrap (lr : Int) = (lr : Int) := IntWalk.u64_in _ (by omega)
            replace C1 := Lib.hid C1
            replace C2 := Lib.hid C2
            replace C3 := Lib.hid C3
            replace C4 := Lib.hid C4
            replace C5 := Lib.hid C5
            replace hS := Lib.hid hS
            replace hrow := Lib.hid hrow
            clear hmain hSb hx hr1 hr2 hxr hd hy hlow hlr hd2 hz hhi hlo hsu hcy
            have hdw := (Below.refl wr.heap.size wr).drew
            have jA := cbl hdw kA
            have j1 := cbl hdw kk1
            have jq1 := cbl hdw q1
            go_wp2_with (fail)
            go_region_held3 (fun W => W.cell? ⟨tA, 0, none⟩ = some (.int .u64 469762049) ∧ W.cell? ⟨s, 1, none⟩ = some (.slice (some ⟨x1, 0, none⟩) N N) ∧ W.cell? ⟨x1, i, none⟩ = some (.int .u64 (r1 : Nat)))
              (first
                | exact ⟨jA, j1, jq1⟩
                | exact ⟨jA6, j16, jq16⟩
                | exact ⟨jA7, j17, jq17⟩
                | go_keep)
              (first
                | (go_at_call 163; (with_reducible refine (C1.out _).mono ?_); rintro e W6 ⟨rfl, hb6⟩; have jA6 := cbl hb6 jA; have j16 := cbl hb6 j1; have jq16 := cbl hb6 jq1)
                | (go_at_call 162; (with_reducible refine (C2.out _).mono ?_); rintro e W7 ⟨rfl, hb7⟩; have jA7 := cbl hb7 jA6; have j17 := cbl hb7 j16; have jq17 := cbl hb7 jq16; have hb67 := (hdw.cons hb6).cons hb7))
            have hB7 := (cell_below hb67 kB)
            have h27 := (cell_below hb67 kk2)
            have hq27 := (cell_below hb67 q2)
            have hdw7 := (Below.refl W7.heap.size W7).drew
            have jB := cbl hdw7 hB7
            have j2 := cbl hdw7 h27
            have jq2 := cbl hdw7 hq27
            clear jA j1 jq1 jA6 j16 jq16 jA7 j17 jq17
            go_wp2_with (fail)
            go_region_held3 (fun W => W.cell? ⟨tB, 0, none⟩ = some (.int .u64 167772161) ∧ W.cell? ⟨s, 2, none⟩ = some (.slice (some ⟨x2, 0, none⟩) N N) ∧ W.cell? ⟨x2, i, none⟩ = some (.int .u64 (r2 : Nat)))
              (first
                | exact ⟨jB, j2, jq2⟩
                | exact ⟨jB8, j28, jq28⟩
                | exact ⟨jB9, j29, jq29⟩
                | go_keep)
              (first
                | (go_at_call 163; (with_reducible refine (C3.out _).mono ?_); rintro e W8 ⟨rfl, hb8⟩; have jB8 := cbl hb8 jB; have j28 := cbl hb8 j2; have jq28 := cbl hb8 jq2)
                | (go_at_call 162; (with_reducible refine (C4.out _).mono ?_); rintro e W9 ⟨rfl, hb9⟩; have jB9 := cbl hb9 jB8; have j29 := cbl hb9 j28; have jq29 := cbl hb9 jq28; have hb89 := (hdw7.cons hb8).cons hb9))
            have hb10 := hb67.cons hb89
            have hor : o < wr.heap.size := (Array.getElem?_eq_some_iff.1 hL).1
            have hL9 := (hb10.block o hor).trans hL
            have hoo9 := hoo.cons hb10
            clear jB j2 jq2 jB8 j28 jq28 jB9 j29 jq29 hB7 h27 hq27
            go_wp2_with (fail)
            obtain ⟨⟨⟨u0, fc0⟩, ff0⟩, F1, F2, F3⟩ := row_facts (j := i * 3) hL9 hLl.out (by omega)
            have fc1 := fun v => (F1 v).1
            have ff1 := fun v => (F1 v).2
            have fc2 := fun v v' => (F2 v v').1
            have ff2 := fun v v' => (F2 v v').2
            obtain ⟨g1, fc1⟩ : ∃ g : Value → Value, ∀ v, (W9.setCell ⟨o, i * 3, none⟩ v).cell? ⟨o, i * 3 + 1, none⟩ = some (g v) := ⟨fun v => (fc1 v).choose, fun v => (fc1 v).choose_spec⟩
            obtain ⟨g2, fc2⟩ : ∃ g : Value → Value → Value, ∀ v v', ((W9.setCell ⟨o, i * 3, none⟩ v).setCell ⟨o, i * 3 + 1, none⟩ v').cell? ⟨o, i * 3 + 2, none⟩ = some (g v v') := ⟨fun v v' => (fc2 v v').choose, fun v v' => (fc2 v v').choose_spec⟩
            replace F3 := Lib.hid F3
            clear F1 F2
            refine (C5.out W9).mono ?_
            rintro e W10 ⟨rfl, rfl⟩
            go_wp2_with (simp only [C6])
            go_roundw
            case rel =>
              have ea : ((su : Int) % 4294967296) = ((su % 4294967296 : Nat) : Int) := by omega
              have eb : ((su : Int) / 4294967296) = ((su / 4294967296 : Nat) : Int) := by omega
              have ec : ((hi' : Int) + (cy : Int)) = ((hi' + cy : Nat) : Int) := by omega
              rw [ea, eb, ec]
              refine ⟨i + 1, ((L.set (i * 3) (su % 4294967296)).set (i * 3 + 1) (su / 4294967296)).set (i * 3 + 2) (hi' + cy), by go_num, by omega, ((hoo9.store _ _).store _ _).store _ _, F3.out _ _ _, Lib.hid (by simp [hLl.out]), ((hLm.set _ _ (Nat.mod_lt _ (by decide))).set _ _ (by omega)).set _ _ hrowb, Lib.hid (row_val hLl.out hlt (by have := hrow.out; omega) hS.out hLv.out)⟩
            case measure => simp only [intOf]; omega
          · have hin : i = n := by omega
            have hrv : rowsV L n = a * b := by
              rw [rowsV_psum' L _ n (fun j hj => hLv.out j (by omega))]
              exact cv_mul a b n hb0 (by have := HN.out; omega)
            replace hrv := Lib.hid hrv
            go_wp2_with (fail)
            go_ret
            refine ⟨some ⟨o, 0, none⟩, n, n, L, rfl, hLl.out, .inr ⟨_, rfl, fun j u hu => ?_⟩, hLm, Nat.le_refl _, by omega, hrv.out, ?_⟩
            · unfold World.cell?
              rw [add_zero_off, hL]
              simpa using hu
            · have hT := ((hbr.cons hbV').cons hbW).cons hb5
              have ho4 := ((hbr.cons hbV').cons hbW).size
              exact hT.trans (hoo.below (by have := ho.out; omega) hT.size)
end Go.Proofs.YtacjfpibilolnaaGreatDoor
