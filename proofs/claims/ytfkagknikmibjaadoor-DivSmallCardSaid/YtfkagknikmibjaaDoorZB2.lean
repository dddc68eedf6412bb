/- A third of a natural; its values at points; a natural cut into thirds. -/
import Derived.Test.YtfkagknikmibjaaDoorZB1
set_option linter.unusedVariables false
set_option linter.unusedSimpArgs false
namespace Go.Proofs.YtfkagknikmibjaaDoor
open Go.RowKit Go.Shelf
attribute [local go_sem] max2_i min2_i max_two min_two

theorem or64 (r x : Nat) (hr : r < 4294967296) (hx : x < 4294967296) : bits .or .u64 ((r : Int) * 4294967296) (x : Int) = ((r * 4294967296 + x : Nat) : Int) := by
  have e : ((r : Int) * 4294967296) = ((r * 4294967296 : Nat) : Int) := by simp
  rw [e, u64_or_nat _ _ (by omega) (by omega)]
  congr 1
  rw [Nat.mul_comm, show 4294967296 = 2 ^ 32 from rfl, ← Nat.two_pow_add_eq_or_of_lt (i := 32) (by omega)]

theorem third_math (a k x q r : Nat) (hq : q = a / 4294967296 ^ (k + 1)) (hx : x = a / 4294967296 ^ k % 4294967296) (hr : r = q % 3) :
    a / 4294967296 ^ k / 3 = 4294967296 * (q / 3) + (r * 4294967296 + x) / 3 ∧ a / 4294967296 ^ k % 3 = (r * 4294967296 + x) % 3 := by
  have h : q = a / 4294967296 ^ k / 4294967296 := by rw [hq, Nat.pow_succ, ← Nat.div_div_eq_div_mul]
  generalize a / 4294967296 ^ k = t at *
  omega

set_option maxRecDepth 100000 in
set_option maxHeartbeats 1000000 in
theorem third_c (A : Option Addr) (c a : Nat) (w : World) (hA : NatV w A c a) (ha : nl a ≤ 1073741824) :
    Calls Tryd.prog 77 #[.slice A (nl a) c] w (RetN w (a / 3)) := by
  have hmk := mk32 (nl a) (nl a) (by omega) (by omega) (by omega)
  have hown0 := ownsMade32 w w.heap.size (nl a) (Nat.le_refl _) (by omega)
  have hb0 : Below w.heap.size w (w.alloc (.cells (madeCells #[.int .u32 0] (nl a)) 23)) := (Below.refl _ _).alloc (Nat.le_refl _) _
  rw [Int.toNat_natCast] at hmk
  go_enter Tryd.func77, Tryd.ntmps77
  go_wp2_with (fail)
  go_loopw [4, 5] (fun vr vi wr => ∃ (k : Nat) (L : List Nat), vi = .int .i64 ((k : Int) - 1) ∧ vr = .int .u64 ((a / 4294967296 ^ k % 3 : Nat) : Int) ∧ k ≤ nl a ∧ Below w.heap.size w wr ∧ wr.ownsRow w.heap.size 23 1 (.slice (some ⟨w.heap.size, 0, none⟩) (nl a) (nl a)) (nl a) (vals L) ∧
    Hid (L.length = nl a) ∧ Lim L ∧ Hid (val L = 4294967296 ^ k * (a / 4294967296 ^ k / 3)) ∧ Hid (∀ j, j < k → gl L j = 0)) (fun vr vi wr => (intOf vi + 1).toNat)
  case atStart =>
    have e : a / 4294967296 ^ nl a = 0 := Nat.div_eq_of_lt (nl_lt a)
    exact ⟨nl a, _, rfl, by rw [e]; rfl, Nat.le_refl _, hb0, hown0, Lib.hid (by simp), Lim.replicate _ _ (by decide), Lib.hid (by rw [val_replicate, e]; simp), Lib.hid (fun j _ => by simp [gl, List.getElem?_replicate]; split <;> rfl)⟩
  case round =>
    obtain ⟨k, L, rfl, rfl, hk, hb, hown, hlen, hlim, hval, hz⟩ := hrel
    cases k with
    | zero =>
      obtain ⟨X, cx, e, hcx, hcm, hrd⟩ := ownV_rd hown
      cases e
      have hv := hval.out
      rw [Nat.pow_zero, Nat.one_mul, Nat.div_one] at hv
      have hmake := make_c (some ⟨w.heap.size, 0, none⟩) (nl a) (nl a) L wr hlen.out hrd hlim (by omega) (Nat.le_refl _)
      rw [hv] at hmake
      have HM := Lib.hid hmake
      clear hmake hown hrd hv
      go_wp2_with (fail)
      refine HM.out.mono ?_
      rintro e w2 ⟨Y, cy, rfl, h1, h2⟩
      go_wp2_with (fail)
      go_ret
      exact ⟨Y, cy, rfl, h1, hb.trans (h2.mono hb.size)⟩
    | succ k =>
      rw [show (((k + 1 : Nat) : Int) - 1) = (k : Int) by omega]
      obtain ⟨ad, rfl, hcx⟩ := (hA.rd.below hb).get k hk
      have hxl := (lim_limbs a).gl k
      obtain ⟨x, hx⟩ : ∃ x, gl (limbs a) k = x := ⟨_, rfl⟩
      rw [hx] at hcx hxl
      obtain ⟨q, hq⟩ : ∃ q, q = a / 4294967296 ^ (k + 1) := ⟨_, rfl⟩
      obtain ⟨r, hr⟩ : ∃ r, r = q % 3 := ⟨_, rfl⟩
      have hm := third_math a k x q r hq (by rw [← hx, limbs_gl]) hr
      rw [← hq] at hval
      rw [← hq, ← hr]
      have hr3 : r < 3 := by omega
      have hor := or64 r x (by omega) hxl
      obtain ⟨t, ht⟩ : ∃ t, r * 4294967296 + x = t := ⟨_, rfl⟩
      rw [ht] at hor hm
      have htb : t < 12884901888 := by omega
      have HM := Lib.hid hm
      have HX := Lib.hid hx
      have HQ := Lib.hid hq
      have HR := Lib.hid hr
      have HT := Lib.hid ht
      clear hm hx hq hr ht
      have hcell : wr.cell? ⟨w.heap.size, k, none⟩ = some (.int .u32 (gl L k : Nat)) := by
        rw [hown.cellAt k (by omega), vals_get L _ (by rw [hlen.out]; omega)]
      have hfo := hown.frozenAt k
      go_wp2_with (fail)
      go_roundw
      case rel =>
        have ed : ((t : Int) / 3) = ((t / 3 : Nat) : Int) := by omega
        have em : ((t : Int) % 3) = ((t % 3 : Nat) : Int) := by omega
        rw [ed, em]
        obtain ⟨r1, r2⟩ := hown.stored k (.int .u32 ((t / 3 : Nat) : Int))
        have hM : k < L.length := by rw [hlen.out]; omega
        refine ⟨k, L.set k (t / 3), rfl, by rw [HM.out.2], by omega, hb.setCell (p := ⟨w.heap.size, k, none⟩) (Nat.le_refl _) _, by rw [vals_set]; exact r1, Lib.hid (by simp [hlen.out]), hlim.set _ _ (by omega), Lib.hid ?_, Lib.hid ?_⟩
        · have hs := val_set k (t / 3) hM
          rw [← gl_eq, hz.out k (by omega), Nat.mul_zero, Nat.add_zero, hval.out, Nat.pow_succ] at hs
          rw [hs, HM.out.1]
          grind
        · intro j hj
          rw [gl_set_ne (by omega)]
          exact hz.out j (by omega)
      case measure => simp [intOf] <;> omega

/-- The array of three naturals. -/
def arr3 (X : Option Addr) (cx x : Nat) (Y : Option Addr) (cy y : Nat) (Z : Option Addr) (cz z : Nat) : Value := .agg #[.slice X (nl x) cx, .slice Y (nl y) cy, .slice Z (nl z) cz]

theorem at_cells {W : World} {b : Nat} {u0 u1 u2 : Value} {t : TypeId} (h : W.heap[b]? = some (.cells #[u0, u1, u2] t (0, 0))) :
    (W.cell? ⟨b, 0, none⟩ = some u0 ∧ W.cell? ⟨b, 1, none⟩ = some u1 ∧ W.cell? ⟨b, 2, none⟩ = some u2) ∧ W.frozen? ⟨b, 0, none⟩ = false ∧ W.frozen? ⟨b, 1, none⟩ = false ∧ W.frozen? ⟨b, 2, none⟩ = false := by
  simp [World.cell?, World.frozen?, h]

/-- Limbs that are read lie in no block that holds slices: they are there when that one is written. -/
theorem Rd.apart {W W' : World} {A : Option Addr} {l : List Nat} {s : Nat} (h : Rd W A l) (hp : ∀ q : Addr, q.block = s → ∀ x : Nat, W.cell? q ≠ some (.int .u32 (x : Nat))) (hk : ∀ k, k ≠ s → W'.heap[k]? = W.heap[k]?) : Rd W' A l := by
  rcases h with h | ⟨ad, rfl, h⟩
  · exact .inl h
  · refine .inr ⟨ad, rfl, fun i u hu => ?_⟩
    have h1 := h i u hu
    obtain ⟨hi, hu2⟩ := List.getElem?_eq_some_iff.1 hu
    have hil : i < l.length := by simpa [vals] using hi
    rw [vals_get l i hil] at hu
    cases hu
    have hne : (ad.add i).block ≠ s := fun e => hp _ e _ h1
    rw [World.cell?_of_block (w := W) (a := ad.add i) (hk _ hne)]
    exact h1
theorem NatV.apart {W W' : World} {A : Option Addr} {c n s : Nat} (h : NatV W A c n) (hp : ∀ q : Addr, q.block = s → ∀ x : Nat, W.cell? q ≠ some (.int .u32 (x : Nat))) (hk : ∀ k, k ≠ s → W'.heap[k]? = W.heap[k]?) : NatV W' A c n := ⟨h.rd.apart hp hk, h.cap, h.cmax⟩
theorem slices_apart {W : World} {s : Nat} {A0 A1 A2 : Option Addr} {n0 n1 n2 c0 c1 c2 : Nat} {t : TypeId} (h : W.heap[s]? = some (.cells #[.slice A0 n0 c0, .slice A1 n1 c1, .slice A2 n2 c2] t (0, 0))) :
    ∀ q : Addr, q.block = s → ∀ x : Nat, W.cell? q ≠ some (.int .u32 (x : Nat)) := by
  intro q hq x
  subst hq
  unfold World.cell?
  rw [h]
  simp only
  split
  · simp
  · rcases hq : q.off with _ | _ | _ | k <;> simp

theorem three_made {W : World} {s : Nat} {a0 a1 a2 u0 u1 u2 : Value} {t : TypeId} (h : W.heap[s]? = some (.cells #[a0, a1, a2] t (0, 0))) :
    (W.setCell ⟨s, 0, none⟩ u0).cell? ⟨s, 0, none⟩ = some u0 ∧ ((W.setCell ⟨s, 0, none⟩ u0).setCell ⟨s, 1, none⟩ u1).cell? ⟨s, 1, none⟩ = some u1 ∧ (((W.setCell ⟨s, 0, none⟩ u0).setCell ⟨s, 1, none⟩ u1).setCell ⟨s, 2, none⟩ u2).cell? ⟨s, 2, none⟩ = some u2 := by
  have h0 := heap_setCell_same W s 0 _ _ u0 h
  have h1 := heap_setCell_same _ s 1 _ _ u1 h0
  have h2 := heap_setCell_same _ s 2 _ _ u2 h1
  refine ⟨?_, ?_, ?_⟩
  · unfold World.cell?; rw [h0]; simp
  · unfold World.cell?; rw [h1]; simp
  · unfold World.cell?; rw [h2]; simp

theorem three_cells {w W : World} {u0 u1 u2 : Value} (h : Below w.heap.size w W) : Below w.heap.size w (((W.setCell ⟨w.heap.size, 0, none⟩ u0).setCell ⟨w.heap.size, 1, none⟩ u1).setCell ⟨w.heap.size, 2, none⟩ u2) :=
  ((h.setCell (p := ⟨w.heap.size, 0, none⟩) (Nat.le_refl _) _).setCell (p := ⟨w.heap.size, 1, none⟩) (Nat.le_refl _) _).setCell (p := ⟨w.heap.size, 2, none⟩) (Nat.le_refl _) _

set_option maxRecDepth 100000 in
set_option maxHeartbeats 1000000 in
theorem cut3_c (A : Option Addr) (c a k m Bk Bn : Nat) (w : World) (hA : NatV w A c a) (ha : nl a ≤ 1073741824) (hk : w.cell? ⟨Bk, 0, none⟩ = some (.int .i64 k)) (hm : w.cell? ⟨Bn, 0, none⟩ = some (.int .i64 ((2 * k + m : Nat) : Int))) (hkm : 2 * k + m ≤ 1073741824) :
    Calls Tryd.prog 74 #[.slice A (nl a) c, .pointer (some ⟨Bk, 0, none⟩), .pointer (some ⟨Bn, 0, none⟩)] w fun e w' => ∃ X cx Y cy Z cz, e = .returned (arr3 X cx (cut a 0 k) Y cy (cut a k k) Z cz (cut a (2 * k) m)) ∧
      NatV w' X cx (cut a 0 k) ∧ NatV w' Y cy (cut a k k) ∧ NatV w' Z cz (cut a (2 * k) m) ∧ Below w.heap.size w w' := by
  have p1 : ∀ W, NatV W A c a → Calls Tryd.prog 71 #[.slice A (nl a) c, .int .i64 0, .int .i64 (k : Int)] W (RetN W (cut a 0 k)) := fun W h => part_e A c a _ _ 0 k W h ha (by omega) (by omega) (by omega)
  have p2 : ∀ W, NatV W A c a → Calls Tryd.prog 71 #[.slice A (nl a) c, .int .i64 (k : Int), .int .i64 (2 * (k : Int))] W (RetN W (cut a k k)) := fun W h => part_e A c a _ _ k k W h ha (by omega) (by omega) (by omega)
  have p3 : ∀ W, NatV W A c a → Calls Tryd.prog 71 #[.slice A (nl a) c, .int .i64 (2 * (k : Int)), .int .i64 ((2 * k + m : Nat) : Int)] W (RetN W (cut a (2 * k) m)) := fun W h => part_e A c a _ _ (2 * k) m W h ha (by omega) (by omega) (by omega)
  have P1 := Lib.hid p1
  have P2 := Lib.hid p2
  have P3 := Lib.hid p3
  obtain ⟨s, hs⟩ : ∃ s, s = 2 * k + m := ⟨_, rfl⟩
  rw [← hs] at hm P3 hkm
  have HS := Lib.hid hs
  have z1 : IntKind.i64.wrap (2 * (k : Int)) = 2 * (k : Int) := IntWalk.i64_in _ (by omega)
  clear p1 p2 p3 hs
  go_enter Tryd.func74, Tryd.ntmps74
  have hb0 : Below w.heap.size w (w.alloc (.cells #[.slice none 0 0, .slice none 0 0, .slice none 0 0] 80)) := (Below.refl _ _).alloc (Nat.le_refl _) _
  have hA0 := hA.below hb0.drew
  have hr0 : ((w.alloc (.cells #[.slice none 0 0, .slice none 0 0, .slice none 0 0] 80)).drew).heap[w.heap.size]? = some (.cells #[.slice none 0 0, .slice none 0 0, .slice none 0 0] 80 (0, 0)) := heap_alloc_new w _
  have hlt0 : w.heap.size < ((w.alloc (.cells #[.slice none 0 0, .slice none 0 0, .slice none 0 0] 80)).drew).heap.size := by show _ < (w.alloc _).heap.size; simp
  have hlt1 : ∀ {W1 : World}, Below ((w.alloc (.cells #[.slice none 0 0, .slice none 0 0, .slice none 0 0] 80)).drew).heap.size ((w.alloc (.cells #[.slice none 0 0, .slice none 0 0, .slice none 0 0] 80)).drew) W1 → w.heap.size < W1.heap.size := fun h => Nat.lt_of_lt_of_le hlt0 h.size
  have hlt2 : ∀ {W1 W2 : World}, Below ((w.alloc (.cells #[.slice none 0 0, .slice none 0 0, .slice none 0 0] 80)).drew).heap.size ((w.alloc (.cells #[.slice none 0 0, .slice none 0 0, .slice none 0 0] 80)).drew) W1 → Below W1.heap.size W1 W2 → w.heap.size < W2.heap.size := fun h k => Nat.lt_of_lt_of_le (hlt1 h) k.size
  have KQ := fun {W : World} {u0 u1 u2 : Value} (h : Below w.heap.size w W) => three_cells (u0 := u0) (u1 := u1) (u2 := u2) h
  have hkne : Bk ≠ w.heap.size := by have := World.block_lt_of_cell? w _ hk; simp at this; omega
  have hmne : Bn ≠ w.heap.size := by have := World.block_lt_of_cell? w _ hm; simp at this; omega
  have hk0 := cell_below hb0.drew hk
  have hm0 := cell_below hb0.drew hm
  go_wp2_with (fail)
  go_region_held3 (fun W => W.cell? ⟨Bk, 0, none⟩ = some (.int .i64 (k : Int)) ∧ W.cell? ⟨Bn, 0, none⟩ = some (.int .i64 (s : Int)) ∧ NatV W A c a)
    (first
      | exact ⟨hk0, hm0, hA0⟩
      | go_keep
      | exact ⟨cell_below (KQ hbt3) hk, cell_below (KQ hbt3) hm, hA.below (KQ hbt3)⟩
      | exact ⟨hk3, hm3, hA3⟩
      | exact ⟨hk2, hm2, hA2⟩
      | exact ⟨hk1, hm1, hA1⟩)
    (first
      | (go_at_call 71; (with_reducible refine (P1.out _ hA0).mono ?_); rintro e W1 ⟨X, cx, rfl, hX, hb1⟩; have hA1 := hA0.below hb1; have hk1 := cell_below hb1 hk0; have hm1 := cell_below hb1 hm0)
      | (go_at_call 71; (with_reducible refine (P2.out _ hA1).mono ?_); rintro e W2 ⟨Y, cy, rfl, hY, hb2⟩; have hA2 := hA1.below hb2; have hk2 := cell_below hb2 hk1; have hm2 := cell_below hb2 hm1)
      | (go_at_call 71; (with_reducible refine (P3.out _ hA2).mono ?_); rintro e W3 ⟨Z, cz, rfl, hZ, hb3⟩; have hA3 := hA2.below hb3; have hk3 := cell_below hb3 hk2; have hm3 := cell_below hb3 hm2; have hbt3 := ((hb0.drew.cons hb1).cons hb2).cons hb3; have hR3 := (((hb3.block _ (hlt2 hb1 hb2)).trans ((hb2.block _ (hlt1 hb1)).trans ((hb1.block _ hlt0).trans hr0)))); have hr3 := at_cells hR3; obtain ⟨⟨q0, q1, q2⟩, f0, f1, f2⟩ := hr3))
  go_wp2_with (fail)
  have hk : ∀ j, j ≠ w.heap.size → (((W3.setCell ⟨w.heap.size, 0, none⟩ (.slice X (nl (cut a 0 k)) cx)).setCell ⟨w.heap.size, 1, none⟩ (.slice Y (nl (cut a k k)) cy)).setCell ⟨w.heap.size, 2, none⟩ (.slice Z (nl (cut a (2 * k) m)) cz)).heap[j]? = W3.heap[j]? := fun j hj => by
    rw [Below.heap_setCell _ _ _ _ (by simpa using hj), Below.heap_setCell _ _ _ _ (by simpa using hj), Below.heap_setCell _ _ _ _ (by simpa using hj)]
  have hp := slices_apart hR3
  obtain ⟨e0, e1, e2⟩ := three_made (u0 := .slice X (nl (cut a 0 k)) cx) (u1 := .slice Y (nl (cut a k k)) cy) (u2 := .slice Z (nl (cut a (2 * k) m)) cz) hR3
  refine bodyPost_ret (v := arr3 X cx (cut a 0 k) Y cy (cut a k k) Z cz (cut a (2 * k) m)) (by simp [results, Tryd.results74, go_sem, arr3, e0, e1, e2]) rfl ⟨X, cx, Y, cy, Z, cz, rfl, ((hX.below hb2).below hb3).apart hp hk, (hY.below hb3).apart hp hk, hZ.apart hp hk, KQ hbt3⟩
end Go.Proofs.YtfkagknikmibjaaDoor

/- The values of a natural, taken as a polynomial of thirds, at three points. -/
set_option linter.unusedVariables false
set_option linter.unusedSimpArgs false
namespace Go.Proofs.YtfkagknikmibjaaDoor
open Go.RowKit Go.Shelf
attribute [local go_sem] max2_i min2_i max_two min_two

set_option maxRecDepth 100000 in
set_option maxHeartbeats 4000000 in
theorem points_c (X : Option Addr) (cx x : Nat) (Y : Option Addr) (cy y : Nat) (Z : Option Addr) (cz z : Nat) (w : World) (hX : NatV w X cx x) (hY : NatV w Y cy y) (hZ : NatV w Z cz z) (hx : nl x ≤ 16777216) (hy : nl y ≤ 16777216) (hz : nl z ≤ 16777216) :
    Calls Tryd.prog 75 #[arr3 X cx x Y cy y Z cz z] w fun e w' => ∃ A a1 c1 B b1 c2 D d1 c3, e = .returned (.tuple #[.slice A (nl a1) c1, .slice B (nl b1) c2, .slice D (nl d1) c3, .bool (decide (x + z < y))]) ∧
      NatV w' A c1 a1 ∧ NatV w' B c2 b1 ∧ NatV w' D c3 d1 ∧ a1 = x + z + y ∧ b1 = x + z - y + (y - (x + z)) ∧ d1 = x + (y * 2 + z * 4) ∧ Below w.heap.size w w' := by
  unfold arr3
  have hb0 : Below w.heap.size w (w.alloc (.cells #[.slice X (nl x) cx, .slice Y (nl y) cy, .slice Z (nl z) cz] 80)) := (Below.refl _ _).alloc (Nat.le_refl _) _
  obtain ⟨⟨q0, q1, q2⟩, _, _, _⟩ := at_cells (heap_alloc_new w (.cells #[.slice X (nl x) cx, .slice Y (nl y) cy, .slice Z (nl z) cz] 80))
  replace hX := hX.below hb0
  replace hY := hY.below hb0
  replace hZ := hZ.below hb0
  go_enter Tryd.func75, Tryd.ntmps75
  have HBT := hb0
  clear hb0
  have hu := Tryd.underlying80
  go_wp2_with (fail)
  obtain ⟨en, Een⟩ : ∃ zq : Nat, zq = x + z := ⟨_, rfl⟩
  have Ben : nl en ≤ 16777217 := by rw [Een]; have := nl_add x z; omega
  refine (Calls.mono (R := RetN _ en) (by rw [Een]; exact add_c X cx x Z cz z _ hX hZ (by omega) (by omega)) ?_)
  replace Een := Lib.hid Een
  rintro e W1 ⟨X1, c1, rfl, hen, hb1⟩
  replace hX := hX.below hb1
  replace hY := hY.below hb1
  replace hZ := hZ.below hb1
  replace q0 := cell_below hb1 q0
  replace q1 := cell_below hb1 q1
  replace q2 := cell_below hb1 q2
  replace HBT := Below.cons HBT hb1
  clear hb1
  go_wp2_with (fail)
  obtain ⟨on, Eon⟩ : ∃ zq : Nat, zq = en + y := ⟨_, rfl⟩
  have Bon : nl on ≤ 16777218 := by rw [Eon]; have := nl_add en y; omega
  refine (Calls.mono (R := RetN W1 on) (by rw [Eon]; exact add_c X1 c1 en Y cy y _ hen hY (by omega) (by omega)) ?_)
  replace Eon := Lib.hid Eon
  rintro e W2 ⟨X2, c2, rfl, hon, hb2⟩
  replace hX := hX.below hb2
  replace hY := hY.below hb2
  replace hZ := hZ.below hb2
  replace q0 := cell_below hb2 q0
  replace q1 := cell_below hb2 q1
  replace q2 := cell_below hb2 q2
  replace hen := hen.below hb2
  replace HBT := Below.cons HBT hb2
  clear hb2
  go_wp2_with (fail)
  refine (apart_c _ _ _ _ _ _ _ hen hY (by omega) (by omega)).mono ?_
  obtain ⟨mi, Emi⟩ : ∃ zq : Nat, zq = en - y + (y - en) := ⟨_, rfl⟩
  rw [← Emi]
  replace Emi := Lib.hid Emi
  rintro e W3 ⟨X3, c3, rfl, hmi, hb3⟩
  replace hX := hX.below hb3
  replace hY := hY.below hb3
  replace hZ := hZ.below hb3
  replace q0 := cell_below hb3 q0
  replace q1 := cell_below hb3 q1
  replace q2 := cell_below hb3 q2
  replace hen := hen.below hb3
  replace hon := hon.below hb3
  replace HBT := Below.cons HBT hb3
  clear hb3
  have HEN : decide (en < y) = decide (x + z < y) := by rw [Een.out]
  replace HEN := Lib.hid HEN
  obtain ⟨bb, Ebb⟩ : ∃ b, b = decide (en < y) := ⟨_, rfl⟩
  rw [← Ebb]
  replace Ebb := Lib.hid Ebb
  go_wp2_with (fail)
  have hd3 : Below (W3).heap.size W3 (W3).drew := (Below.refl _ _).drew
  replace hX := hX.below hd3
  replace hY := hY.below hd3
  replace hZ := hZ.below hd3
  replace q0 := cell_below hd3 q0
  replace q1 := cell_below hd3 q1
  replace q2 := cell_below hd3 q2
  replace hen := hen.below hd3
  replace hon := hon.below hd3
  replace hmi := hmi.below hd3
  replace HBT := Below.cons HBT hd3
  clear hd3
  obtain ⟨y2, Ey2⟩ : ∃ zq : Nat, zq = y * 2 ^ 1 := ⟨_, rfl⟩
  have By2 : nl y2 ≤ 16777218 := by rw [Ey2]; have := nl_shl y 1; omega
  have C3_0 := fun (W : World) (h : NatV W Y cy y) => shl_e Y cy y (1 : Int) 1 W h (by omega) rfl (by omega)
  simp only [← Ey2] at C3_0
  replace Ey2 := Lib.hid Ey2
  replace C3_0 := Lib.hid C3_0
  obtain ⟨z4, Ez4⟩ : ∃ zq : Nat, zq = z * 2 ^ 2 := ⟨_, rfl⟩
  have Bz4 : nl z4 ≤ 16777218 := by rw [Ez4]; have := nl_shl z 2; omega
  have C3_1 := fun (W : World) (h : NatV W Z cz z) => shl_e Z cz z (2 : Int) 2 W h (by omega) rfl (by omega)
  simp only [← Ez4] at C3_1
  replace Ez4 := Lib.hid Ez4
  replace C3_1 := Lib.hid C3_1
  obtain ⟨yz, Eyz⟩ : ∃ zq : Nat, zq = y2 + z4 := ⟨_, rfl⟩
  have Byz : nl yz ≤ 16777219 := by rw [Eyz]; have := nl_add y2 z4; omega
  have C3_2 := fun (W : World) (A : Option Addr) (c : Nat) (B : Option Addr) (d : Nat) (h1 : NatV W A c y2) (h2 : NatV W B d z4) => add_c A c y2 B d z4 W h1 h2 (by omega) (by omega)
  simp only [← Eyz] at C3_2
  replace Eyz := Lib.hid Eyz
  replace C3_2 := Lib.hid C3_2
  obtain ⟨tw, Etw⟩ : ∃ zq : Nat, zq = x + yz := ⟨_, rfl⟩
  have Btw : nl tw ≤ 16777220 := by rw [Etw]; have := nl_add x yz; omega
  have C3_3 := fun (W : World) (A : Option Addr) (c : Nat) (B : Option Addr) (d : Nat) (h1 : NatV W A c x) (h2 : NatV W B d yz) => add_c A c x B d yz W h1 h2 (by omega) (by omega)
  simp only [← Etw] at C3_3
  replace Etw := Lib.hid Etw
  replace C3_3 := Lib.hid C3_3
  go_region_held3 (fun W => W.cell? ⟨w.heap.size, 0, none⟩ = some (.slice X (nl x) cx) ∧ W.cell? ⟨w.heap.size, 1, none⟩ = some (.slice Y (nl y) cy) ∧ W.cell? ⟨w.heap.size, 2, none⟩ = some (.slice Z (nl z) cz))
    (first
      | exact ⟨q0, q1, q2⟩
      | exact ⟨q0_4, q1_4, q2_4⟩
      | exact ⟨q0_5, q1_5, q2_5⟩
      | exact ⟨q0_6, q1_6, q2_6⟩
      | exact ⟨q0_7, q1_7, q2_7⟩
      | go_keep)
    (first
      | (go_at_call 38; (with_reducible refine (C3_0.out _ hY).mono ?_); rintro e W4 ⟨X4, c4, rfl, hy2, hb4⟩; have hX_4 := hX.below hb4; have hY_4 := hY.below hb4; have hZ_4 := hZ.below hb4; have q0_4 := cell_below hb4 q0; have q1_4 := cell_below hb4 q1; have q2_4 := cell_below hb4 q2; have hen_4 := hen.below hb4; have hon_4 := hon.below hb4; have hmi_4 := hmi.below hb4; have HBT_4 := Below.cons HBT hb4)
      | (go_at_call 38; (with_reducible refine (C3_1.out _ hZ_4).mono ?_); rintro e W5 ⟨X5, c5, rfl, hz4, hb5⟩; have hX_5 := hX_4.below hb5; have hY_5 := hY_4.below hb5; have hZ_5 := hZ_4.below hb5; have q0_5 := cell_below hb5 q0_4; have q1_5 := cell_below hb5 q1_4; have q2_5 := cell_below hb5 q2_4; have hen_5 := hen_4.below hb5; have hon_5 := hon_4.below hb5; have hmi_5 := hmi_4.below hb5; have hy2_5 := hy2.below hb5; have HBT_5 := Below.cons HBT_4 hb5)
      | (go_at_call 53; (with_reducible refine (C3_2.out _ _ _ _ _ hy2_5 hz4).mono ?_); rintro e W6 ⟨X6, c6, rfl, hyz, hb6⟩; have hX_6 := hX_5.below hb6; have hY_6 := hY_5.below hb6; have hZ_6 := hZ_5.below hb6; have q0_6 := cell_below hb6 q0_5; have q1_6 := cell_below hb6 q1_5; have q2_6 := cell_below hb6 q2_5; have hen_6 := hen_5.below hb6; have hon_6 := hon_5.below hb6; have hmi_6 := hmi_5.below hb6; have hy2_6 := hy2_5.below hb6; have hz4_6 := hz4.below hb6; have HBT_6 := Below.cons HBT_5 hb6)
      | (go_at_call 53; (with_reducible refine (C3_3.out _ _ _ _ _ hX_6 hyz).mono ?_); rintro e W7 ⟨X7, c7, rfl, htw, hb7⟩; have hX_7 := hX_6.below hb7; have hY_7 := hY_6.below hb7; have hZ_7 := hZ_6.below hb7; have q0_7 := cell_below hb7 q0_6; have q1_7 := cell_below hb7 q1_6; have q2_7 := cell_below hb7 q2_6; have hen_7 := hen_6.below hb7; have hon_7 := hon_6.below hb7; have hmi_7 := hmi_6.below hb7; have hy2_7 := hy2_6.below hb7; have hz4_7 := hz4_6.below hb7; have hyz_7 := hyz.below hb7; have HBT_7 := Below.cons HBT_6 hb7))
  go_wp2_with (fail)
  refine bodyPost_ret (v := .tuple #[.slice X2 (nl on) c2, .slice X3 (nl mi) c3, .slice X7 (nl tw) c7, .bool bb]) (by simp [results, Tryd.results75, go_sem]) rfl ?_
  refine ⟨_, on, _, _, mi, _, _, tw, _, ?_, hon_7, hmi_7, htw, ?_, ?_, ?_, HBT_7⟩
  · rw [← HEN.out, ← Ebb.out]
  · rw [Eon.out, Een.out]
  · rw [Emi.out, Een.out]
  · rw [Etw.out, Eyz.out, Ey2.out, Ez4.out]
end Go.Proofs.YtfkagknikmibjaaDoor

/- Toom's product. -/
set_option linter.unusedVariables false
set_option linter.unusedSimpArgs false
namespace Go.Proofs.YtfkagknikmibjaaDoor
open Go.RowKit Go.Shelf
attribute [local go_sem] max2_i min2_i max_two min_two

/-- What the five points tell of a product of two polynomials of degree 2 (rm: the size of the value at -1, s: its sign is the other one). -/
theorem toom_points (x0 x1 x2 y0 y1 y2 am bm r1 rm r2 : Nat) (ha : am = x0 + x2 - x1 + (x1 - (x0 + x2))) (hb : bm = y0 + y2 - y1 + (y1 - (y0 + y2)))
    (h1 : r1 = (x0 + x2 + x1) * (y0 + y2 + y1)) (hm : rm = am * bm) (h2 : r2 = (x0 + (x1 * 2 + x2 * 4)) * (y0 + (y1 * 2 + y2 * 4))) :
    rm ≤ r1 ∧
    (decide (x0 + x2 < x1) = decide (y0 + y2 < y1) → r1 + rm = 2 * (x0 * y0 + (x0 * y2 + x1 * y1 + x2 * y0) + x2 * y2) ∧ r1 - rm = 2 * ((x0 * y1 + x1 * y0) + (x1 * y2 + x2 * y1))) ∧
    (decide (x0 + x2 < x1) ≠ decide (y0 + y2 < y1) → r1 - rm = 2 * (x0 * y0 + (x0 * y2 + x1 * y1 + x2 * y0) + x2 * y2) ∧ r1 + rm = 2 * ((x0 * y1 + x1 * y0) + (x1 * y2 + x2 * y1))) ∧
    r2 = x0 * y0 + 2 * (x0 * y1 + x1 * y0) + 4 * (x0 * y2 + x1 * y1 + x2 * y0) + 8 * (x1 * y2 + x2 * y1) + 16 * (x2 * y2) := by
  have key : ∀ p q u v : Nat, p ≤ u → q ≤ v → p * q ≤ u * v := fun p q u v h h' => Nat.mul_le_mul h h'
  have hle : rm ≤ r1 := by rw [h1, hm]; exact key _ _ _ _ (by omega) (by omega)
  refine ⟨hle, ?_, ?_, by rw [h2]; grind⟩
  · intro hs
    by_cases hx : x0 + x2 < x1
    · have hy : y0 + y2 < y1 := by simpa [hx] using hs
      obtain ⟨i, hi⟩ : ∃ i, x1 = x0 + x2 + i := ⟨x1 - (x0 + x2), by omega⟩
      obtain ⟨j, hj⟩ : ∃ j, y1 = y0 + y2 + j := ⟨y1 - (y0 + y2), by omega⟩
      have e1 : am = i := by omega
      have e2 : bm = j := by omega
      have e3 : r1 = rm + 2 * ((x0 * y1 + x1 * y0) + (x1 * y2 + x2 * y1)) := by rw [h1, hm, e1, e2, hi, hj]; grind
      refine ⟨?_, by omega⟩
      rw [e3, hm, e1, e2, hi, hj]; grind
    · have hy : ¬ y0 + y2 < y1 := by simpa [hx] using hs
      obtain ⟨i, hi⟩ : ∃ i, x0 + x2 = x1 + i := ⟨x0 + x2 - x1, by omega⟩
      obtain ⟨j, hj⟩ : ∃ j, y0 + y2 = y1 + j := ⟨y0 + y2 - y1, by omega⟩
      have e1 : am = i := by omega
      have e2 : bm = j := by omega
      have e3 : r1 = rm + 2 * ((x0 * y1 + x1 * y0) + (x1 * y2 + x2 * y1)) := by
        have : (x0 * y1 + x1 * y0) + (x1 * y2 + x2 * y1) = (x0 + x2) * y1 + x1 * (y0 + y2) := by grind
        rw [this, h1, hm, e1, e2, hi, hj]; grind
      have e4 : x0 * y0 + (x0 * y2 + x1 * y1 + x2 * y0) + x2 * y2 = (x0 + x2) * (y0 + y2) + x1 * y1 := by grind
      refine ⟨?_, by omega⟩
      rw [e4, h1, hm, e1, e2, hi, hj]; grind
  · intro hs
    by_cases hx : x0 + x2 < x1
    · have hy : ¬ y0 + y2 < y1 := by
        intro h; exact hs (by simp [hx, h])
      obtain ⟨i, hi⟩ : ∃ i, x1 = x0 + x2 + i := ⟨x1 - (x0 + x2), by omega⟩
      obtain ⟨j, hj⟩ : ∃ j, y0 + y2 = y1 + j := ⟨y0 + y2 - y1, by omega⟩
      have e1 : am = i := by omega
      have e2 : bm = j := by omega
      have e4 : x0 * y0 + (x0 * y2 + x1 * y1 + x2 * y0) + x2 * y2 = (x0 + x2) * (y0 + y2) + x1 * y1 := by grind
      have e5 : (x0 * y1 + x1 * y0) + (x1 * y2 + x2 * y1) = (x0 + x2) * y1 + x1 * (y0 + y2) := by grind
      have e3 : r1 = rm + 2 * (x0 * y0 + (x0 * y2 + x1 * y1 + x2 * y0) + x2 * y2) := by rw [e4, h1, hm, e1, e2, hi, hj]; grind
      refine ⟨by omega, ?_⟩
      rw [e5, h1, hm, e1, e2, hi, hj]; grind
    · have hy : y0 + y2 < y1 := by
        by_cases h : y0 + y2 < y1
        · exact h
        · exact absurd (by simp [hx, h]) hs
      obtain ⟨i, hi⟩ : ∃ i, x0 + x2 = x1 + i := ⟨x0 + x2 - x1, by omega⟩
      obtain ⟨j, hj⟩ : ∃ j, y1 = y0 + y2 + j := ⟨y1 - (y0 + y2), by omega⟩
      have e1 : am = i := by omega
      have e2 : bm = j := by omega
      have e4 : x0 * y0 + (x0 * y2 + x1 * y1 + x2 * y0) + x2 * y2 = (x0 + x2) * (y0 + y2) + x1 * y1 := by grind
      have e5 : (x0 * y1 + x1 * y0) + (x1 * y2 + x2 * y1) = (x0 + x2) * y1 + x1 * (y0 + y2) := by grind
      have e3 : r1 = rm + 2 * (x0 * y0 + (x0 * y2 + x1 * y1 + x2 * y0) + x2 * y2) := by rw [e4, h1, hm, e1, e2, hi, hj]; grind
      refine ⟨by omega, ?_⟩
      rw [e5, h1, hm, e1, e2, hi, hj]; grind
theorem cut_thirds {a k m : Nat} (h : nl a ≤ 2 * k + m) : cut a 0 k + 2 ^ (32 * k) * cut a k k + 2 ^ (32 * k) * 2 ^ (32 * k) * cut a (2 * k) m = a := by
  rw [cut_low, cut_high (k := 2 * k) h]
  unfold cut
  have h1 := Nat.div_add_mod a (2 ^ (32 * k))
  have h2 := Nat.div_add_mod (a / 2 ^ (32 * k)) (2 ^ (32 * k))
  rw [show 32 * (2 * k) = 32 * k + 32 * k by omega, Nat.pow_add, ← Nat.div_div_eq_div_mul]
  generalize a / 2 ^ (32 * k) / 2 ^ (32 * k) = c at *
  generalize a / 2 ^ (32 * k) % 2 ^ (32 * k) = b at *
  generalize a % 2 ^ (32 * k) = z at *
  rw [← h2] at h1
  generalize 2 ^ (32 * k) = p at *
  grind
end Go.Proofs.YtfkagknikmibjaaDoor
