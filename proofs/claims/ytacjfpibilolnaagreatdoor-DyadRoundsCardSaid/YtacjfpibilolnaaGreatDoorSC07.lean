/- Whole numbers, walked: what all walks over them use; Make. -/
import Derived.Test.YtacjfpibilolnaaGreatDoorSC01
import Derived.Test.YtacjfpibilolnaaGreatDoorSC06
set_option maxRecDepth 100000
set_option maxHeartbeats 4000000
set_option linter.unusedVariables false
set_option linter.unusedSimpArgs false
namespace Go.Proofs.YtacjfpibilolnaaGreatDoor
open Go.RowKit Go.Shelf
attribute [local go_sem] max2_i min2_i max_two min_two

def RetI (w : World) (z : Int) (e : Ending) (w' : World) : Prop := ∃ A c, e = .returned (.agg #[.bool (sg z), .slice A (nl (mg z)) c]) ∧ NatV w' A c (mg z) ∧ Below w.heap.size w w'
theorem heap_below {w w1 : World} {k : Nat} {o : Obj} (h : Below w.heap.size w w1) (hk : w.heap[k]? = some o) : w1.heap[k]? = some o := (h.block k (Array.getElem?_eq_some_iff.1 hk).1).trans hk
/-- No limb. -/
def NotU (u : Value) : Prop := ∀ x : Nat, u ≠ .int .u32 (x : Nat)
theorem notU_bool (b : Bool) : NotU (.bool b) := fun _ h => by cases h
theorem notU_slice (A : Option Addr) (n c : Nat) : NotU (.slice A n c) := fun _ h => by cases h
theorem notU_i64 (z : Int) : NotU (.int .i64 z) := fun _ h => by cases h
/-- A variable of some cells in memory. -/
structure BoxA (W : World) (k : Nat) (t : TypeId) (us : Array Value) : Prop where
  at_ : W.heap[k]? = some (.cells us t (0, 0))
section
variable {W W' : World} {k : Nat} {t : TypeId} {us : Array Value}
theorem BoxA.below (h : BoxA W k t us) (hb : Below W.heap.size W W') : BoxA W' k t us := ⟨heap_below hb h.at_⟩
theorem BoxA.c {i : Nat} {u : Value} (h : BoxA W k t us) (hi : us[i]? = some u) : W.cell? ⟨k, i, none⟩ = some u := by simp [World.cell?, h.at_, hi]
theorem BoxA.f {i : Nat} (h : BoxA W k t us) : W.frozen? ⟨k, i, none⟩ = false := by simp [World.frozen?, h.at_]
theorem BoxA.lt (h : BoxA W k t us) : k < W.heap.size := (Array.getElem?_eq_some_iff.1 h.at_).1
/-- Naturals lie where they lay when that variable is written. -/
theorem BoxA.keep (h : BoxA W k t us) (hu : ∀ u ∈ us.toList, NotU u) (hW : ∀ j, j ≠ k → W'.heap[j]? = W.heap[j]?) {A : Option Addr} {c n : Nat} (hN : NatV W A c n) : NatV W' A c n := by
  refine ⟨?_, hN.cap, hN.cmax⟩
  rcases hN.rd with h1 | ⟨ad, rfl, h1⟩
  · exact .inl h1
  · refine .inr ⟨ad, rfl, fun i u hi => ?_⟩
    have h2 := h1 i u hi
    obtain ⟨hl, he⟩ := List.getElem?_eq_some_iff.1 hi
    have hil : i < (limbs n).length := by simpa [vals] using hl
    rw [vals_get _ i hil] at hi
    cases hi
    have hne : (ad.add i).block ≠ k := fun e => by
      unfold World.cell? at h2
      rw [e, h.at_] at h2
      simp only at h2
      split at h2
      · cases h2
      · have hm := Array.mem_of_getElem? h2
        exact hu _ (Array.mem_def.1 hm) _ rfl
    rw [World.cell?_of_block (w := W) (a := ad.add i) (hW _ hne)]
    exact h2
theorem set2_far {v0 v1 : Value} (j : Nat) (hj : j ≠ k) : ((W.setCell ⟨k, 0, none⟩ v0).setCell ⟨k, 1, none⟩ v1).heap[j]? = W.heap[j]? := by
  rw [Below.heap_setCell _ _ _ _ (by simpa using hj), Below.heap_setCell _ _ _ _ (by simpa using hj)]
theorem set3_far {v0 v1 v2 : Value} (j : Nat) (hj : j ≠ k) : (((W.setCell ⟨k, 0, none⟩ v0).setCell ⟨k, 1, none⟩ v1).setCell ⟨k, 2, none⟩ v2).heap[j]? = W.heap[j]? := by
  rw [Below.heap_setCell _ _ _ _ (by simpa using hj), Below.heap_setCell _ _ _ _ (by simpa using hj), Below.heap_setCell _ _ _ _ (by simpa using hj)]
theorem BoxA.store2 {u0 u1 : Value} (h : BoxA W k t #[u0, u1]) (v0 v1 : Value) : BoxA ((W.setCell ⟨k, 0, none⟩ v0).setCell ⟨k, 1, none⟩ v1) k t #[v0, v1] := by
  have h0 := heap_setCell_same W k 0 _ _ v0 h.at_
  have h1 := heap_setCell_same _ k 1 _ _ v1 h0
  exact ⟨by simpa using h1⟩
theorem BoxA.store3 {u0 u1 u2 : Value} (h : BoxA W k t #[u0, u1, u2]) (v0 v1 v2 : Value) : BoxA (((W.setCell ⟨k, 0, none⟩ v0).setCell ⟨k, 1, none⟩ v1).setCell ⟨k, 2, none⟩ v2) k t #[v0, v1, v2] := by
  have h0 := heap_setCell_same W k 0 _ _ v0 h.at_
  have h1 := heap_setCell_same _ k 1 _ _ v1 h0
  have h2 := heap_setCell_same _ k 2 _ _ v2 h1
  exact ⟨by simpa using h2⟩
theorem BoxA.keep2 {u0 u1 v0 v1 : Value} (h : BoxA W k t #[u0, u1]) (hu : ∀ u ∈ (#[u0, u1] : Array Value).toList, NotU u) {A : Option Addr} {c n : Nat} (hN : NatV W A c n) : NatV ((W.setCell ⟨k, 0, none⟩ v0).setCell ⟨k, 1, none⟩ v1) A c n := h.keep hu (fun j hj => set2_far j hj) hN
theorem BoxA.keep3 {u0 u1 u2 v0 v1 v2 : Value} (h : BoxA W k t #[u0, u1, u2]) (hu : ∀ u ∈ (#[u0, u1, u2] : Array Value).toList, NotU u) {A : Option Addr} {c n : Nat} (hN : NatV W A c n) : NatV (((W.setCell ⟨k, 0, none⟩ v0).setCell ⟨k, 1, none⟩ v1).setCell ⟨k, 2, none⟩ v2) A c n := h.keep hu (fun j hj => set3_far j hj) hN
theorem Below.store2 {w : World} {v0 v1 : Value} (h : Below w.heap.size w W) (hk : w.heap.size ≤ k) : Below w.heap.size w ((W.setCell ⟨k, 0, none⟩ v0).setCell ⟨k, 1, none⟩ v1) := (h.setCell (p := ⟨k, 0, none⟩) hk _).setCell (p := ⟨k, 1, none⟩) hk _
theorem Below.store3 {w : World} {v0 v1 v2 : Value} (h : Below w.heap.size w W) (hk : w.heap.size ≤ k) : Below w.heap.size w (((W.setCell ⟨k, 0, none⟩ v0).setCell ⟨k, 1, none⟩ v1).setCell ⟨k, 2, none⟩ v2) := ((h.setCell (p := ⟨k, 0, none⟩) hk _).setCell (p := ⟨k, 1, none⟩) hk _).setCell (p := ⟨k, 2, none⟩) hk _
end

theorem drb (w : World) : Below w.heap.size w w.drew := (Below.refl _ _).drew
theorem cbl {w w' : World} {a : Addr} {v : Value} (hb : Below w.heap.size w w') (h : w.cell? a = some v) : w'.cell? a = some v := cell_below hb h
def isU : Value → Bool
  | .int .u32 _ => true
  | _ => false
theorem nuB {us : Array Value} (h : us.toList.all (fun u => !isU u) = true) : ∀ u ∈ us.toList, NotU u := by
  intro u hu x e
  have := List.all_eq_true.1 h u hu
  rw [e] at this
  cases this
theorem bx1 (w : World) (c0 : Array Value) (t0 : TypeId) : Below w.heap.size w (w.alloc (.cells c0 t0)) ∧ BoxA (w.alloc (.cells c0 t0)) (w.heap.size) t0 c0 :=
  ⟨(Below.alloc (Below.refl _ _) (Nat.le_refl _) _), ⟨by repeat (first | exact at_new (by first | (simp; done) | (simp; omega)) | refine at_old (by first | (simp; done) | (simp; omega)) ?_)⟩⟩
theorem bx2 (w : World) (c0 : Array Value) (t0 : TypeId) (c1 : Array Value) (t1 : TypeId) : Below w.heap.size w ((w.alloc (.cells c0 t0)).alloc (.cells c1 t1)) ∧ BoxA ((w.alloc (.cells c0 t0)).alloc (.cells c1 t1)) (w.heap.size) t0 c0 ∧ BoxA ((w.alloc (.cells c0 t0)).alloc (.cells c1 t1)) (w.heap.size + 1) t1 c1 :=
  ⟨(Below.alloc (Below.alloc (Below.refl _ _) (Nat.le_refl _) _) (by simp <;> omega) _), ⟨by repeat (first | exact at_new (by first | (simp; done) | (simp; omega)) | refine at_old (by first | (simp; done) | (simp; omega)) ?_)⟩, ⟨by repeat (first | exact at_new (by first | (simp; done) | (simp; omega)) | refine at_old (by first | (simp; done) | (simp; omega)) ?_)⟩⟩
theorem bx3 (w : World) (c0 : Array Value) (t0 : TypeId) (c1 : Array Value) (t1 : TypeId) (c2 : Array Value) (t2 : TypeId) : Below w.heap.size w (((w.alloc (.cells c0 t0)).alloc (.cells c1 t1)).alloc (.cells c2 t2)) ∧ BoxA (((w.alloc (.cells c0 t0)).alloc (.cells c1 t1)).alloc (.cells c2 t2)) (w.heap.size) t0 c0 ∧ BoxA (((w.alloc (.cells c0 t0)).alloc (.cells c1 t1)).alloc (.cells c2 t2)) (w.heap.size + 1) t1 c1 ∧ BoxA (((w.alloc (.cells c0 t0)).alloc (.cells c1 t1)).alloc (.cells c2 t2)) (w.heap.size + 1 + 1) t2 c2 :=
  ⟨(Below.alloc (Below.alloc (Below.alloc (Below.refl _ _) (Nat.le_refl _) _) (by simp <;> omega) _) (by simp <;> omega) _), ⟨by repeat (first | exact at_new (by first | (simp; done) | (simp; omega)) | refine at_old (by first | (simp; done) | (simp; omega)) ?_)⟩, ⟨by repeat (first | exact at_new (by first | (simp; done) | (simp; omega)) | refine at_old (by first | (simp; done) | (simp; omega)) ?_)⟩, ⟨by repeat (first | exact at_new (by first | (simp; done) | (simp; omega)) | refine at_old (by first | (simp; done) | (simp; omega)) ?_)⟩⟩
theorem bx4 (w : World) (c0 : Array Value) (t0 : TypeId) (c1 : Array Value) (t1 : TypeId) (c2 : Array Value) (t2 : TypeId) (c3 : Array Value) (t3 : TypeId) : Below w.heap.size w ((((w.alloc (.cells c0 t0)).alloc (.cells c1 t1)).alloc (.cells c2 t2)).alloc (.cells c3 t3)) ∧ BoxA ((((w.alloc (.cells c0 t0)).alloc (.cells c1 t1)).alloc (.cells c2 t2)).alloc (.cells c3 t3)) (w.heap.size) t0 c0 ∧ BoxA ((((w.alloc (.cells c0 t0)).alloc (.cells c1 t1)).alloc (.cells c2 t2)).alloc (.cells c3 t3)) (w.heap.size + 1) t1 c1 ∧ BoxA ((((w.alloc (.cells c0 t0)).alloc (.cells c1 t1)).alloc (.cells c2 t2)).alloc (.cells c3 t3)) (w.heap.size + 1 + 1) t2 c2 ∧ BoxA ((((w.alloc (.cells c0 t0)).alloc (.cells c1 t1)).alloc (.cells c2 t2)).alloc (.cells c3 t3)) (w.heap.size + 1 + 1 + 1) t3 c3 :=
  ⟨(Below.alloc (Below.alloc (Below.alloc (Below.alloc (Below.refl _ _) (Nat.le_refl _) _) (by simp <;> omega) _) (by simp <;> omega) _) (by simp <;> omega) _), ⟨by repeat (first | exact at_new (by first | (simp; done) | (simp; omega)) | refine at_old (by first | (simp; done) | (simp; omega)) ?_)⟩, ⟨by repeat (first | exact at_new (by first | (simp; done) | (simp; omega)) | refine at_old (by first | (simp; done) | (simp; omega)) ?_)⟩, ⟨by repeat (first | exact at_new (by first | (simp; done) | (simp; omega)) | refine at_old (by first | (simp; done) | (simp; omega)) ?_)⟩, ⟨by repeat (first | exact at_new (by first | (simp; done) | (simp; omega)) | refine at_old (by first | (simp; done) | (simp; omega)) ?_)⟩⟩
theorem bx5 (w : World) (c0 : Array Value) (t0 : TypeId) (c1 : Array Value) (t1 : TypeId) (c2 : Array Value) (t2 : TypeId) (c3 : Array Value) (t3 : TypeId) (c4 : Array Value) (t4 : TypeId) : Below w.heap.size w (((((w.alloc (.cells c0 t0)).alloc (.cells c1 t1)).alloc (.cells c2 t2)).alloc (.cells c3 t3)).alloc (.cells c4 t4)) ∧ BoxA (((((w.alloc (.cells c0 t0)).alloc (.cells c1 t1)).alloc (.cells c2 t2)).alloc (.cells c3 t3)).alloc (.cells c4 t4)) (w.heap.size) t0 c0 ∧ BoxA (((((w.alloc (.cells c0 t0)).alloc (.cells c1 t1)).alloc (.cells c2 t2)).alloc (.cells c3 t3)).alloc (.cells c4 t4)) (w.heap.size + 1) t1 c1 ∧ BoxA (((((w.alloc (.cells c0 t0)).alloc (.cells c1 t1)).alloc (.cells c2 t2)).alloc (.cells c3 t3)).alloc (.cells c4 t4)) (w.heap.size + 1 + 1) t2 c2 ∧ BoxA (((((w.alloc (.cells c0 t0)).alloc (.cells c1 t1)).alloc (.cells c2 t2)).alloc (.cells c3 t3)).alloc (.cells c4 t4)) (w.heap.size + 1 + 1 + 1) t3 c3 ∧ BoxA (((((w.alloc (.cells c0 t0)).alloc (.cells c1 t1)).alloc (.cells c2 t2)).alloc (.cells c3 t3)).alloc (.cells c4 t4)) (w.heap.size + 1 + 1 + 1 + 1) t4 c4 :=
  ⟨(Below.alloc (Below.alloc (Below.alloc (Below.alloc (Below.alloc (Below.refl _ _) (Nat.le_refl _) _) (by simp <;> omega) _) (by simp <;> omega) _) (by simp <;> omega) _) (by simp <;> omega) _), ⟨by repeat (first | exact at_new (by first | (simp; done) | (simp; omega)) | refine at_old (by first | (simp; done) | (simp; omega)) ?_)⟩, ⟨by repeat (first | exact at_new (by first | (simp; done) | (simp; omega)) | refine at_old (by first | (simp; done) | (simp; omega)) ?_)⟩, ⟨by repeat (first | exact at_new (by first | (simp; done) | (simp; omega)) | refine at_old (by first | (simp; done) | (simp; omega)) ?_)⟩, ⟨by repeat (first | exact at_new (by first | (simp; done) | (simp; omega)) | refine at_old (by first | (simp; done) | (simp; omega)) ?_)⟩, ⟨by repeat (first | exact at_new (by first | (simp; done) | (simp; omega)) | refine at_old (by first | (simp; done) | (simp; omega)) ?_)⟩⟩
theorem imake_t (aA : Option Addr) (ac a : Nat) (z : Int) (w : World) (ha : NatV w aA ac a) (hl : nl a ≤ 1073741824) (hz : mg z = a) (hs : sg z = decide (0 < nl a)) :
    Calls Tryz.prog 64 #[.bool true, .slice aA (nl a) ac] w (RetI w z) := by
  replace hz := Lib.hid hz
  replace hs := Lib.hid hs
  obtain ⟨hb1, Rr⟩ := bx1 w #[.bool false, .slice none 0 0] 24
  replace ha := ha.below hb1
  have HBT := hb1
  clear hb1
  have qr0 := Rr.c (i := 0) rfl
  have qr1 := Rr.c (i := 1) rfl
  have C := make_c aA (nl a) ac (limbs a) _ rfl ha.rd (lim_limbs a) (by omega) ha.cap
  rw [val_limbs] at C
  replace C := Lib.hid C
  go_enter Tryz.func64, Tryz.ntmps64
  go_wp2_with (fail)
  refine C.out.mono ?_
  clear C
  rintro e W1 ⟨X, cx, rfl, hX, hb1⟩
  replace ha := ha.below hb1
  replace Rr := Rr.below hb1
  replace qr0 := cell_below hb1 qr0
  replace qr1 := cell_below hb1 qr1
  replace HBT := Below.cons HBT hb1
  clear hb1
  have fr0 := Rr.f (i := 0)
  have fr1 := Rr.f (i := 1)
  go_wp2_with (fail)
  have RS := Rr.store2 (.bool (decide (0 < nl a))) (.slice X (nl a) cx)
  have e0 := RS.c (i := 0) rfl
  have e1 := RS.c (i := 1) rfl
  refine bodyPost_ret (v := .agg #[.bool (decide (0 < nl a)), .slice X (nl a) cx]) (by simp [results, Tryz.results64, go_sem, e0, e1]) rfl ?_
  exact ⟨X, cx, by rw [hz.out, hs.out], by rw [hz.out]; exact (Rr.keep2 (by intro u hu; simp at hu; rcases hu with rfl | rfl <;> first | exact notU_bool _ | exact notU_slice _ _ _ | exact notU_i64 _) hX), (Below.store2 HBT (by first | exact Nat.le_refl _ | omega))⟩
theorem imake_f (aA : Option Addr) (ac a : Nat) (z : Int) (w : World) (ha : NatV w aA ac a) (hl : nl a ≤ 1073741824) (hz : mg z = a) (hs : sg z = false) :
    Calls Tryz.prog 64 #[.bool false, .slice aA (nl a) ac] w (RetI w z) := by
  replace hz := Lib.hid hz
  replace hs := Lib.hid hs
  obtain ⟨hb1, Rr⟩ := bx1 w #[.bool false, .slice none 0 0] 24
  replace ha := ha.below hb1
  have HBT := hb1
  clear hb1
  have qr0 := Rr.c (i := 0) rfl
  have qr1 := Rr.c (i := 1) rfl
  have C := make_c aA (nl a) ac (limbs a) _ rfl ha.rd (lim_limbs a) (by omega) ha.cap
  rw [val_limbs] at C
  replace C := Lib.hid C
  go_enter Tryz.func64, Tryz.ntmps64
  go_wp2_with (fail)
  refine C.out.mono ?_
  clear C
  rintro e W1 ⟨X, cx, rfl, hX, hb1⟩
  replace ha := ha.below hb1
  replace Rr := Rr.below hb1
  replace qr0 := cell_below hb1 qr0
  replace qr1 := cell_below hb1 qr1
  replace HBT := Below.cons HBT hb1
  clear hb1
  have fr0 := Rr.f (i := 0)
  have fr1 := Rr.f (i := 1)
  go_wp2_with (fail)
  have RS := Rr.store2 (.bool false) (.slice X (nl a) cx)
  have e0 := RS.c (i := 0) rfl
  have e1 := RS.c (i := 1) rfl
  refine bodyPost_ret (v := .agg #[.bool false, .slice X (nl a) cx]) (by simp [results, Tryz.results64, go_sem, e0, e1]) rfl ?_
  exact ⟨X, cx, by rw [hz.out, hs.out], by rw [hz.out]; exact (Rr.keep2 (by intro u hu; simp at hu; rcases hu with rfl | rfl <;> first | exact notU_bool _ | exact notU_slice _ _ _ | exact notU_i64 _) hX), (Below.store2 HBT (by first | exact Nat.le_refl _ | omega))⟩
/-- What Make makes of a sign and a natural. -/
def ival (s : Bool) (a : Nat) : Int := if s then -(a : Int) else a
theorem mg_ival (s : Bool) (a : Nat) : mg (ival s a) = a := by
  unfold mg ival; cases s <;> simp
theorem sg_ival_t (a : Nat) : sg (ival true a) = decide (0 < nl a) := by
  unfold sg ival
  have := @nl_pos a
  simp only [if_true]
  rw [decide_eq_decide, this]; omega
theorem sg_ival_f (a : Nat) : sg (ival false a) = false := by
  unfold sg ival; simp
theorem imake_c (s : Bool) (aA : Option Addr) (ac a : Nat) (w : World) (ha : NatV w aA ac a) (hl : nl a ≤ 1073741824) :
    Calls Tryz.prog 64 #[.bool s, .slice aA (nl a) ac] w (RetI w (ival s a)) := by
  cases s
  · exact imake_f aA ac a _ w ha hl (mg_ival _ _) (sg_ival_f a)
  · exact imake_t aA ac a _ w ha hl (mg_ival _ _) (sg_ival_t a)
theorem ival_sm (z : Int) : ival (sg z) (mg z) = z := by
  unfold ival sg mg
  by_cases h : z < 0
  · simp [h]; omega
  · simp [h]; omega
end Go.Proofs.YtacjfpibilolnaaGreatDoor

/- Products, limb by limb; parts; differences. -/
set_option linter.unusedVariables false
set_option linter.unusedSimpArgs false
namespace Go.Proofs.YtacjfpibilolnaaGreatDoor
open Go.RowKit Go.Shelf
attribute [local go_sem] max2_i min2_i max_two min_two

theorem gl_set_ne {l : List Nat} {i j x : Nat} (h : i ≠ j) : gl (l.set i x) j = gl l j := by
  simp [gl, List.getD_eq_getElem?_getD, List.getElem?_set_ne h]
theorem vals_set (l : List Nat) (i x : Nat) : vals (l.set i x) = (vals l).set i (.int .u32 (x : Nat)) := by simp [vals, List.map_set]
theorem mul_bdI {x y : Nat} (hx : x < 4294967296) (hy : y < 4294967296) : 0 ≤ (x : Int) * (y : Int) ∧ (x : Int) * (y : Int) ≤ 18446744065119617025 := by
  have h : x * y ≤ 18446744065119617025 := Nat.mul_le_mul (show x ≤ 4294967295 by omega) (show y ≤ 4294967295 by omega)
  rw [← Int.natCast_mul]
  generalize x * y = z at *
  omega
theorem mul_bd {x y : Nat} (hx : x < 4294967296) (hy : y < 4294967296) : x * y ≤ 18446744065119617025 :=
  Nat.mul_le_mul (show x ≤ 4294967295 by omega) (show y ≤ 4294967295 by omega)




end Go.Proofs.YtacjfpibilolnaaGreatDoor

/- Products by halves and by thirds: what they are made of. -/
set_option linter.unusedVariables false
set_option linter.unusedSimpArgs false
namespace Go.Proofs.YtacjfpibilolnaaGreatDoor
open Go.RowKit Go.Shelf
attribute [local go_sem] max2_i min2_i max_two min_two

theorem shl_e (A : Option Addr) (c a : Nat) (n : Int) (m : Nat) (w : World) (hA : NatV w A c a) (ha : nl a ≤ 1073741824) (hn : n = (m : Int)) (hm : m ≤ 1073741824) :
    Calls Tryz.prog 104 #[.slice A (nl a) c, .int .i64 n] w (RetN w (a * 2 ^ m)) := by
  subst hn
  have := shl_ci A c a (m : Int) w hA ha (by omega) (by omega)
  rwa [Int.toNat_natCast] at this
theorem shr_e (A : Option Addr) (c a : Nat) (n : Int) (m : Nat) (w : World) (hA : NatV w A c a) (ha : nl a ≤ 1073741824) (hn : n = (m : Int)) (hm : m ≤ 1099511627776) :
    Calls Tryz.prog 105 #[.slice A (nl a) c, .int .i64 n] w (RetN w (a / 2 ^ m)) := by
  subst hn
  have := shr_ci A c a (m : Int) w hA ha (by omega) (by omega)
  rwa [Int.toNat_natCast] at this



end Go.Proofs.YtacjfpibilolnaaGreatDoor

/- Plain numbers for division: windows of a row of limbs, a digit guessed of leading limbs, one step of division by school. No Go in it. -/
set_option linter.unusedVariables false
set_option linter.unusedSimpArgs false
namespace Go.Proofs.YtacjfpibilolnaaGreatDoor

/-- The value of m limbs of a row, from place i on (0 beyond its end). -/
def wnd (X : List Nat) (i : Nat) : Nat → Nat
  | 0 => 0
  | m + 1 => wnd X i m + 4294967296 ^ m * gl X (i + m)
theorem wnd_lt {X : List Nat} (h : Lim X) (i m : Nat) : wnd X i m < 4294967296 ^ m := by
  induction m with
  | zero => simp [wnd]
  | succ m ih =>
    have := h.gl (i + m)
    have h2 := Nat.mul_le_mul_left (4294967296 ^ m) (show gl X (i + m) + 1 ≤ 4294967296 by omega)
    rw [wnd, Nat.pow_succ]
    rw [Nat.mul_add, Nat.mul_one] at h2
    omega
theorem wnd_congr {X Y : List Nat} {i m : Nat} (h : ∀ j, j < m → gl X (i + j) = gl Y (i + j)) : wnd X i m = wnd Y i m := by
  induction m with
  | zero => rfl
  | succ m ih => rw [wnd, wnd, ih (fun j hj => h j (by omega)), h m (by omega)]
theorem wnd_add (X : List Nat) (i m k : Nat) : wnd X i (m + k) = wnd X i m + 4294967296 ^ m * wnd X (i + m) k := by
  induction k with
  | zero => simp [wnd]
  | succ k ih => rw [← Nat.add_assoc, wnd, ih, wnd, Nat.mul_add, Nat.pow_add, Nat.add_assoc i m k]; grind
theorem wnd_val (X : List Nat) (m : Nat) (h : X.length ≤ m) : wnd X 0 m = val X := by
  have key : ∀ m, m ≤ X.length → wnd X 0 m = val (X.take m) := by
    intro m
    induction m with
    | zero => intro _; simp [wnd, val]
    | succ m ih => intro hm; rw [wnd, ih (by omega), val_take_succ _ _ (by omega), Nat.zero_add]
  have h0 : ∀ k, wnd X X.length k = 0 := by
    intro k
    induction k with
    | zero => rfl
    | succ k ih => rw [wnd, ih, gl_of_le (by omega)]; simp
  obtain ⟨k, rfl⟩ : ∃ k, m = X.length + k := ⟨m - X.length, by omega⟩
  rw [wnd_add, Nat.zero_add, h0, key _ (Nat.le_refl _), List.take_of_length_le (Nat.le_refl _)]; simp
theorem wnd_zero {X : List Nat} {i m : Nat} (h : ∀ j, j < m → gl X (i + j) = 0) : wnd X i m = 0 := by
  induction m with
  | zero => rfl
  | succ m ih => rw [wnd, ih (fun j hj => h j (by omega)), h m (by omega)]; simp
theorem wnd_eq_div {X : List Nat} (h : Lim X) (i m : Nat) (hz : ∀ j, i + m ≤ j → gl X j = 0) : wnd X i m = val X / 4294967296 ^ i := by
  have e : val X = wnd X 0 i + 4294967296 ^ i * wnd X i m := by
    rw [← wnd_val X (i + m + X.length) (by omega), wnd_add, wnd_add, Nat.zero_add, Nat.zero_add, wnd_zero (i := i + m) (fun j _ => hz _ (by omega))]; simp
  have hl := wnd_lt h 0 i
  rw [e, Nat.add_mul_div_left _ _ (Nat.pow_pos (by decide)), Nat.div_eq_of_lt hl]; omega

/-! A digit, guessed of three limbs and two. -/
def dig3 (x2 x1 x0 y1 y0 : Nat) : Nat := min ((x2 * 4294967296 * 4294967296 + x1 * 4294967296 + x0) / (y1 * 4294967296 + y0)) 4294967295
theorem dig3_lt (x2 x1 x0 y1 y0 : Nat) : dig3 x2 x1 x0 y1 y0 < 4294967296 := by unfold dig3; omega
theorem dig3_start {x2 x1 x0 y1 y0 : Nat} (hy : 0 < y1) (hx0 : x0 < 4294967296) : dig3 x2 x1 x0 y1 y0 ≤ (x2 * 4294967296 + x1) / y1 := by
  refine Nat.le_trans (Nat.min_le_left _ _) ?_
  have h1 : (x2 * 4294967296 * 4294967296 + x1 * 4294967296 + x0) / (y1 * 4294967296 + y0) ≤ (x2 * 4294967296 * 4294967296 + x1 * 4294967296 + x0) / (y1 * 4294967296) := Nat.div_le_div_left (by omega) (by omega)
  refine Nat.le_trans h1 ?_
  rw [Nat.mul_comm y1, ← Nat.div_div_eq_div_mul]
  have e : (x2 * 4294967296 * 4294967296 + x1 * 4294967296 + x0) / 4294967296 = x2 * 4294967296 + x1 := by omega
  rw [e]; exact Nat.le_refl _
theorem dig3_step {q r x2 x1 x0 y1 y0 : Nat} (hi : q * y1 + r = x2 * 4294967296 + x1) (hq : dig3 x2 x1 x0 y1 y0 ≤ q) (h : 4294967296 ≤ q ∨ r * 4294967296 + x0 < q * y0) (hy : 0 < y1) :
    1 ≤ q ∧ dig3 x2 x1 x0 y1 y0 ≤ q - 1 ∧ (q - 1) * y1 + (r + y1) = x2 * 4294967296 + x1 := by
  have h1 : 1 ≤ q := by
    rcases h with h | h
    · omega
    · rcases Nat.eq_zero_or_pos q with e | e
      · subst e; simp at h
      · exact e
  refine ⟨h1, ?_, ?_⟩
  · have : dig3 x2 x1 x0 y1 y0 < q := by
      rcases h with h | h
      · have := dig3_lt x2 x1 x0 y1 y0; omega
      · refine Nat.lt_of_le_of_lt (Nat.min_le_left _ _) ?_
        rw [Nat.div_lt_iff_lt_mul (by omega), Nat.mul_add, ← Nat.mul_assoc q y1]
        generalize q * y1 = u at *
        generalize q * y0 = v at *
        have e : x2 * 4294967296 * 4294967296 + x1 * 4294967296 = u * 4294967296 + r * 4294967296 := by rw [← Nat.add_mul, ← hi, Nat.add_mul]
        rw [e, Nat.add_assoc]
        exact Nat.add_lt_add_left h _
    omega
  · obtain ⟨k, rfl⟩ : ∃ k, q = k + 1 := ⟨q - 1, by omega⟩
    rw [Nat.add_sub_cancel, ← hi, Nat.succ_mul]; omega
theorem dig3_done {q r x2 x1 x0 y1 y0 : Nat} (hi : q * y1 + r = x2 * 4294967296 + x1) (hq : dig3 x2 x1 x0 y1 y0 ≤ q) (h : q < 4294967296) (h2 : q * y0 ≤ r * 4294967296 + x0) (hy : 0 < y1) : q = dig3 x2 x1 x0 y1 y0 := by
  refine Nat.le_antisymm ?_ hq
  unfold dig3
  rw [Nat.le_min]
  refine ⟨?_, by omega⟩
  rw [Nat.le_div_iff_mul_le (by omega), Nat.mul_add, ← Nat.mul_assoc q y1]
  generalize q * y1 = u at *
  generalize q * y0 = v at *
  omega
theorem dig3_brk {q r x2 x1 x0 y1 y0 : Nat} (hi : q * y1 + r = x2 * 4294967296 + x1) (hq : dig3 x2 x1 x0 y1 y0 ≤ q) (h : 4294967296 ≤ r) (hx : x2 ≤ y1) (hx1 : x1 < 4294967296) (hy0 : y0 < 4294967296) (hy : 0 < y1) : q = dig3 x2 x1 x0 y1 y0 := by
  have h1 : q * y1 < 4294967296 * y1 := by omega
  have h2 : q < 4294967296 := Nat.lt_of_mul_lt_mul_right h1
  refine dig3_done hi hq h2 ?_ hy
  have := Nat.mul_le_mul (show q ≤ 4294967295 by omega) (show y0 ≤ 4294967295 by omega)
  omega
/-- The guessed digit is the digit, or one more. -/
theorem dig3_ok {W y x2 x1 x0 y1 y0 P wl yl : Nat} (hW : W = (x2 * 4294967296 * 4294967296 + x1 * 4294967296 + x0) * P + wl) (hy : y = (y1 * 4294967296 + y0) * P + yl) (hwl : wl < P) (hyl : yl < P) (h1 : 0 < y1) (hlt : W < y * 4294967296) :
    W / y ≤ dig3 x2 x1 x0 y1 y0 ∧ dig3 x2 x1 x0 y1 y0 ≤ W / y + 1 := by
  obtain ⟨X, hX⟩ : ∃ X, X = x2 * 4294967296 * 4294967296 + x1 * 4294967296 + x0 := ⟨_, rfl⟩
  obtain ⟨Y, hY⟩ : ∃ Y, Y = y1 * 4294967296 + y0 := ⟨_, rfl⟩
  have hYb : 4294967296 ≤ Y := by omega
  have hP : 0 < P := by omega
  unfold dig3
  rw [← hX] at hW ⊢
  rw [← hY] at hy ⊢
  clear hX hY
  have hy0 : 0 < y := by rw [hy]; have := Nat.mul_pos (show 0 < Y by omega) hP; omega
  constructor
  · rw [Nat.le_min]
    refine ⟨?_, ?_⟩
    · rw [Nat.le_div_iff_mul_le (by omega)]
      have h2 := Nat.div_mul_le_self W y
      generalize W / y = Q at *
      have h3 : Q * Y * P ≤ X * P + wl := by
        rw [← hW, Nat.mul_assoc]
        refine Nat.le_trans (Nat.mul_le_mul_left Q (show Y * P ≤ y by omega)) h2
      have h4 : Q * Y * P < (X + 1) * P := by rw [Nat.succ_mul]; omega
      have := Nat.lt_of_mul_lt_mul_right h4
      omega
    · have : W / y < 4294967296 := (Nat.div_lt_iff_lt_mul hy0).2 (by rw [Nat.mul_comm]; exact hlt)
      omega
  · obtain ⟨g, hg⟩ : ∃ g, g = min (X / Y) 4294967295 := ⟨_, rfl⟩
    rw [← hg]
    by_cases g0 : g = 0
    · rw [g0]; exact Nat.zero_le _
    have g1 : g ≤ X / Y := by omega
    have g2 : g ≤ 4294967295 := by omega
    have g3 : g * Y ≤ X := (Nat.le_div_iff_mul_le (by omega)).1 g1
    have : g - 1 ≤ W / y := by
      rw [Nat.le_div_iff_mul_le hy0]
      obtain ⟨k, rfl⟩ : ∃ k, g = k + 1 := ⟨g - 1, by omega⟩
      rw [Nat.add_sub_cancel, hy, hW, Nat.mul_add]
      rw [Nat.succ_mul] at g3
      have h5 : k * yl ≤ k * P := Nat.mul_le_mul_left k (by omega)
      have h6 : k * (Y * P) + k * P ≤ X * P := by
        rw [← Nat.mul_assoc, ← Nat.add_mul]
        exact Nat.mul_le_mul_right P (by omega)
      omega
    omega
/-! One step of division by school. -/
theorem take_fin0 {W y g w : Nat} (h : w + g * y = W) (h1 : W / y ≤ g) (hy : 0 < y) : g = W / y ∧ w = W % y := by
  have h2 : g ≤ W / y := by rw [Nat.le_div_iff_mul_le hy]; omega
  have e : g = W / y := Nat.le_antisymm h2 h1
  refine ⟨e, ?_⟩
  have h3 := Nat.div_add_mod W y
  rw [← e, Nat.mul_comm] at h3
  omega
theorem take_fin1 {W y g w w2 c P : Nat} (h : w + g * y = W + P) (hw : w < P) (h1 : g ≤ W / y + 1) (hb : w2 + P * c = w + y) (hw2 : w2 < P) (hyP : y ≤ P) (hy : 0 < y) : 1 ≤ g ∧ g - 1 = W / y ∧ w2 = W % y := by
  have h2 : W / y < g := by
    rw [Nat.div_lt_iff_lt_mul hy]; omega
  have e : g = W / y + 1 := by omega
  have h3 := Nat.div_add_mod W y
  have h4 := Nat.mod_lt W hy
  rw [Nat.mul_comm] at h3
  rw [e, Nat.succ_mul] at h
  generalize W / y * y = z at *
  have h5 : w + y = W % y + P := by omega
  refine ⟨by rw [e]; exact Nat.le_add_left 1 _, by rw [e, Nat.add_sub_cancel], ?_⟩
  rw [h5] at hb
  have hc : c = 1 := by
    rcases c with _ | _ | c
    · simp at hb; omega
    · rfl
    · rw [Nat.mul_add, Nat.mul_add] at hb
      have := Nat.zero_le (P * c)
      omega
  subst hc
  omega
theorem digit_split (V y P : Nat) : V = V / P / y * y * P + (V % P + P * (V / P % y)) := by
  have h1 := Nat.div_add_mod V P
  have h2 := Nat.div_add_mod (V / P) y
  generalize V % P = r at *
  generalize V / P % y = s at *
  generalize V / P / y = q at *
  generalize V / P = d at *
  rw [← h1, ← h2]
  grind
theorem digit_less {V y P : Nat} (hy : 0 < y) (hP : 0 < P) : V % P + P * (V / P % y) < y * P := by
  have h1 := Nat.mod_lt V hP
  have h2 := Nat.mod_lt (V / P) hy
  generalize V % P = r at *
  generalize V / P % y = s at *
  have := Nat.mul_le_mul_right P (show s + 1 ≤ y from h2)
  rw [Nat.succ_mul] at this
  rw [Nat.mul_comm P s]
  omega
theorem rest_shift {a b Q R s : Nat} (h : a * 2 ^ s = Q * (b * 2 ^ s) + R) (hR : R < b * 2 ^ s) (hb : 0 < b) : Q = a / b ∧ R / 2 ^ s = a % b := by
  have hp := Nat.two_pow_pos s
  have h1 : a * 2 ^ s / (b * 2 ^ s) = Q := by
    rw [h, Nat.mul_comm Q, Nat.mul_add_div (by exact Nat.mul_pos hb hp), Nat.div_eq_of_lt hR]; omega
  have h2 : a * 2 ^ s % (b * 2 ^ s) = R := by rw [h, Nat.mul_comm Q, Nat.mul_add_mod, Nat.mod_eq_of_lt hR]
  rw [Nat.mul_div_mul_right _ _ hp] at h1
  rw [Nat.mul_mod_mul_right] at h2
  exact ⟨h1.symm, by rw [← h2, Nat.mul_div_cancel _ hp]⟩
end Go.Proofs.YtacjfpibilolnaaGreatDoor
