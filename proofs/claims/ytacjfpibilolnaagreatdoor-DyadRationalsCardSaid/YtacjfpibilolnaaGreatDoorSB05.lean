/- Whole numbers, walked: what all walks over them use; Make. -/
import Derived.Test.YtacjfpibilolnaaGreatDoorSB01
import Derived.Test.YtacjfpibilolnaaGreatDoorSB04
set_option maxRecDepth 100000
set_option maxHeartbeats 4000000
set_option linter.unusedVariables false
set_option linter.unusedSimpArgs false
namespace Go.Proofs.YtacjfpibilolnaaGreatDoor
open Go.RowKit Go.Shelf
attribute [local go_sem] max2_i min2_i max_two min_two

def RetI (w : World) (z : Int) (e : Ending) (w' : World) : Prop := ∃ A c, e = .returned (.agg #[.bool (sg z), .slice A (nl (mg z)) c]) ∧ NatV w' A c (mg z) ∧ Below w.heap.size w w'
theorem heap_below {w w1 : World} {k : Nat} {o : Obj} (h : Below w.heap.size w w1) (hk : w.heap[k]? = some o) : w1.heap[k]? = some o := (h.block k (Array.getElem?_eq_some_iff.1 hk).1).trans hk
/-- No limb. -/
def NotU (u : Value) : Prop := ∀ x : Nat, u ≠ .int .u32 (x : Nat)
theorem notU_bool (b : Bool) : NotU (.bool b) := fun _ h => by cases h
theorem notU_slice (A : Option Addr) (n c : Nat) : NotU (.slice A n c) := fun _ h => by cases h
theorem notU_i64 (z : Int) : NotU (.int .i64 z) := fun _ h => by cases h
/-- A variable of some cells in memory. -/
structure BoxA (W : World) (k : Nat) (t : TypeId) (us : Array Value) : Prop where
  at_ : W.heap[k]? = some (.cells us t (0, 0))
section
variable {W W' : World} {k : Nat} {t : TypeId} {us : Array Value}
theorem BoxA.below (h : BoxA W k t us) (hb : Below W.heap.size W W') : BoxA W' k t us := ⟨heap_below hb h.at_⟩
theorem BoxA.c {i : Nat} {u : Value} (h : BoxA W k t us) (hi : us[i]? = some u) : W.cell? ⟨k, i, none⟩ = some u := by simp [World.cell?, h.at_, hi]
theorem BoxA.f {i : Nat} (h : BoxA W k t us) : W.frozen? ⟨k, i, none⟩ = false := by simp [World.frozen?, h.at_]
theorem BoxA.lt (h : BoxA W k t us) : k < W.heap.size := (Array.getElem?_eq_some_iff.1 h.at_).1
/-- Naturals lie where they lay when that variable is written. -/
theorem BoxA.keep (h : BoxA W k t us) (hu : ∀ u ∈ us.toList, NotU u) (hW : ∀ j, j ≠ k → W'.heap[j]? = W.heap[j]?) {A : Option Addr} {c n : Nat} (hN : NatV W A c n) : NatV W' A c n := by
  refine ⟨?_, hN.cap, hN.cmax⟩
  rcases hN.rd with h1 | ⟨ad, rfl, h1⟩
  · exact .inl h1
  · refine .inr ⟨ad, rfl, fun i u hi => ?_⟩
    have h2 := h1 i u hi
    obtain ⟨hl, he⟩ := List.getElem?_eq_some_iff.1 hi
    have hil : i < (limbs n).length := by simpa [vals] using hl
    rw [vals_get _ i hil] at hi
    cases hi
    have hne : (ad.add i).block ≠ k := fun e => by
      unfold World.cell? at h2
      rw [e, h.at_] at h2
      simp only at h2
      split at h2
      · cases h2
      · have hm := Array.mem_of_getElem? h2
        exact hu _ (Array.mem_def.1 hm) _ rfl
    rw [World.cell?_of_block (w := W) (a := ad.add i) (hW _ hne)]
    exact h2
theorem set2_far {v0 v1 : Value} (j : Nat) (hj : j ≠ k) : ((W.setCell ⟨k, 0, none⟩ v0).setCell ⟨k, 1, none⟩ v1).heap[j]? = W.heap[j]? := by
  rw [Below.heap_setCell _ _ _ _ (by simpa using hj), Below.heap_setCell _ _ _ _ (by simpa using hj)]
theorem set3_far {v0 v1 v2 : Value} (j : Nat) (hj : j ≠ k) : (((W.setCell ⟨k, 0, none⟩ v0).setCell ⟨k, 1, none⟩ v1).setCell ⟨k, 2, none⟩ v2).heap[j]? = W.heap[j]? := by
  rw [Below.heap_setCell _ _ _ _ (by simpa using hj), Below.heap_setCell _ _ _ _ (by simpa using hj), Below.heap_setCell _ _ _ _ (by simpa using hj)]
theorem BoxA.store2 {u0 u1 : Value} (h : BoxA W k t #[u0, u1]) (v0 v1 : Value) : BoxA ((W.setCell ⟨k, 0, none⟩ v0).setCell ⟨k, 1, none⟩ v1) k t #[v0, v1] := by
  have h0 := heap_setCell_same W k 0 _ _ v0 h.at_
  have h1 := heap_setCell_same _ k 1 _ _ v1 h0
  exact ⟨by simpa using h1⟩
theorem BoxA.store3 {u0 u1 u2 : Value} (h : BoxA W k t #[u0, u1, u2]) (v0 v1 v2 : Value) : BoxA (((W.setCell ⟨k, 0, none⟩ v0).setCell ⟨k, 1, none⟩ v1).setCell ⟨k, 2, none⟩ v2) k t #[v0, v1, v2] := by
  have h0 := heap_setCell_same W k 0 _ _ v0 h.at_
  have h1 := heap_setCell_same _ k 1 _ _ v1 h0
  have h2 := heap_setCell_same _ k 2 _ _ v2 h1
  exact ⟨by simpa using h2⟩
theorem BoxA.keep2 {u0 u1 v0 v1 : Value} (h : BoxA W k t #[u0, u1]) (hu : ∀ u ∈ (#[u0, u1] : Array Value).toList, NotU u) {A : Option Addr} {c n : Nat} (hN : NatV W A c n) : NatV ((W.setCell ⟨k, 0, none⟩ v0).setCell ⟨k, 1, none⟩ v1) A c n := h.keep hu (fun j hj => set2_far j hj) hN
theorem BoxA.keep3 {u0 u1 u2 v0 v1 v2 : Value} (h : BoxA W k t #[u0, u1, u2]) (hu : ∀ u ∈ (#[u0, u1, u2] : Array Value).toList, NotU u) {A : Option Addr} {c n : Nat} (hN : NatV W A c n) : NatV (((W.setCell ⟨k, 0, none⟩ v0).setCell ⟨k, 1, none⟩ v1).setCell ⟨k, 2, none⟩ v2) A c n := h.keep hu (fun j hj => set3_far j hj) hN
theorem Below.store2 {w : World} {v0 v1 : Value} (h : Below w.heap.size w W) (hk : w.heap.size ≤ k) : Below w.heap.size w ((W.setCell ⟨k, 0, none⟩ v0).setCell ⟨k, 1, none⟩ v1) := (h.setCell (p := ⟨k, 0, none⟩) hk _).setCell (p := ⟨k, 1, none⟩) hk _
theorem Below.store3 {w : World} {v0 v1 v2 : Value} (h : Below w.heap.size w W) (hk : w.heap.size ≤ k) : Below w.heap.size w (((W.setCell ⟨k, 0, none⟩ v0).setCell ⟨k, 1, none⟩ v1).setCell ⟨k, 2, none⟩ v2) := ((h.setCell (p := ⟨k, 0, none⟩) hk _).setCell (p := ⟨k, 1, none⟩) hk _).setCell (p := ⟨k, 2, none⟩) hk _
end

theorem drb (w : World) : Below w.heap.size w w.drew := (Below.refl _ _).drew
theorem cbl {w w' : World} {a : Addr} {v : Value} (hb : Below w.heap.size w w') (h : w.cell? a = some v) : w'.cell? a = some v := cell_below hb h
def isU : Value → Bool
  | .int .u32 _ => true
  | _ => false
theorem nuB {us : Array Value} (h : us.toList.all (fun u => !isU u) = true) : ∀ u ∈ us.toList, NotU u := by
  intro u hu x e
  have := List.all_eq_true.1 h u hu
  rw [e] at this
  cases this
theorem bx1 (w : World) (c0 : Array Value) (t0 : TypeId) : Below w.heap.size w (w.alloc (.cells c0 t0)) ∧ BoxA (w.alloc (.cells c0 t0)) (w.heap.size) t0 c0 :=
  ⟨(Below.alloc (Below.refl _ _) (Nat.le_refl _) _), ⟨by repeat (first | exact at_new (by first | (simp; done) | (simp; omega)) | refine at_old (by first | (simp; done) | (simp; omega)) ?_)⟩⟩
theorem bx2 (w : World) (c0 : Array Value) (t0 : TypeId) (c1 : Array Value) (t1 : TypeId) : Below w.heap.size w ((w.alloc (.cells c0 t0)).alloc (.cells c1 t1)) ∧ BoxA ((w.alloc (.cells c0 t0)).alloc (.cells c1 t1)) (w.heap.size) t0 c0 ∧ BoxA ((w.alloc (.cells c0 t0)).alloc (.cells c1 t1)) (w.heap.size + 1) t1 c1 :=
  ⟨(Below.alloc (Below.alloc (Below.refl _ _) (Nat.le_refl _) _) (by simp <;> omega) _), ⟨by repeat (first | exact at_new (by first | (simp; done) | (simp; omega)) | refine at_old (by first | (simp; done) | (simp; omega)) ?_)⟩, ⟨by repeat (first | exact at_new (by first | (simp; done) | (simp; omega)) | refine at_old (by first | (simp; done) | (simp; omega)) ?_)⟩⟩
theorem bx3 (w : World) (c0 : Array Value) (t0 : TypeId) (c1 : Array Value) (t1 : TypeId) (c2 : Array Value) (t2 : TypeId) : Below w.heap.size w (((w.alloc (.cells c0 t0)).alloc (.cells c1 t1)).alloc (.cells c2 t2)) ∧ BoxA (((w.alloc (.cells c0 t0)).alloc (.cells c1 t1)).alloc (.cells c2 t2)) (w.heap.size) t0 c0 ∧ BoxA (((w.alloc (.cells c0 t0)).alloc (.cells c1 t1)).alloc (.cells c2 t2)) (w.heap.size + 1) t1 c1 ∧ BoxA (((w.alloc (.cells c0 t0)).alloc (.cells c1 t1)).alloc (.cells c2 t2)) (w.heap.size + 1 + 1) t2 c2 :=
  ⟨(Below.alloc (Below.alloc (Below.alloc (Below.refl _ _) (Nat.le_refl _) _) (by simp <;> omega) _) (by simp <;> omega) _), ⟨by repeat (first | exact at_new (by first | (simp; done) | (simp; omega)) | refine at_old (by first | (simp; done) | (simp; omega)) ?_)⟩, ⟨by repeat (first | exact at_new (by first | (simp; done) | (simp; omega)) | refine at_old (by first | (simp; done) | (simp; omega)) ?_)⟩, ⟨by repeat (first | exact at_new (by first | (simp; done) | (simp; omega)) | refine at_old (by first | (simp; done) | (simp; omega)) ?_)⟩⟩
theorem bx4 (w : World) (c0 : Array Value) (t0 : TypeId) (c1 : Array Value) (t1 : TypeId) (c2 : Array Value) (t2 : TypeId) (c3 : Array Value) (t3 : TypeId) : Below w.heap.size w ((((w.alloc (.cells c0 t0)).alloc (.cells c1 t1)).alloc (.cells c2 t2)).alloc (.cells c3 t3)) ∧ BoxA ((((w.alloc (.cells c0 t0)).alloc (.cells c1 t1)).alloc (.cells c2 t2)).alloc (.cells c3 t3)) (w.heap.size) t0 c0 ∧ BoxA ((((w.alloc (.cells c0 t0)).alloc (.cells c1 t1)).alloc (.cells c2 t2)).alloc (.cells c3 t3)) (w.heap.size + 1) t1 c1 ∧ BoxA ((((w.alloc (.cells c0 t0)).alloc (.cells c1 t1)).alloc (.cells c2 t2)).alloc (.cells c3 t3)) (w.heap.size + 1 + 1) t2 c2 ∧ BoxA ((((w.alloc (.cells c0 t0)).alloc (.cells c1 t1)).alloc (.cells c2 t2)).alloc (.cells c3 t3)) (w.heap.size + 1 + 1 + 1) t3 c3 :=
  ⟨(Below.alloc (Below.alloc (Below.alloc (Below.alloc (Below.refl _ _) (Nat.le_refl _) _) (by simp <;> omega) _) (by simp <;> omega) _) (by simp <;> omega) _), ⟨by repeat (first | exact at_new (by first | (simp; done) | (simp; omega)) | refine at_old (by first | (simp; done) | (simp; omega)) ?_)⟩, ⟨by repeat (first | exact at_new (by first | (simp; done) | (simp; omega)) | refine at_old (by first | (simp; done) | (simp; omega)) ?_)⟩, ⟨by repeat (first | exact at_new (by first | (simp; done) | (simp; omega)) | refine at_old (by first | (simp; done) | (simp; omega)) ?_)⟩, ⟨by repeat (first | exact at_new (by first | (simp; done) | (simp; omega)) | refine at_old (by first | (simp; done) | (simp; omega)) ?_)⟩⟩
theorem bx5 (w : World) (c0 : Array Value) (t0 : TypeId) (c1 : Array Value) (t1 : TypeId) (c2 : Array Value) (t2 : TypeId) (c3 : Array Value) (t3 : TypeId) (c4 : Array Value) (t4 : TypeId) : Below w.heap.size w (((((w.alloc (.cells c0 t0)).alloc (.cells c1 t1)).alloc (.cells c2 t2)).alloc (.cells c3 t3)).alloc (.cells c4 t4)) ∧ BoxA (((((w.alloc (.cells c0 t0)).alloc (.cells c1 t1)).alloc (.cells c2 t2)).alloc (.cells c3 t3)).alloc (.cells c4 t4)) (w.heap.size) t0 c0 ∧ BoxA (((((w.alloc (.cells c0 t0)).alloc (.cells c1 t1)).alloc (.cells c2 t2)).alloc (.cells c3 t3)).alloc (.cells c4 t4)) (w.heap.size + 1) t1 c1 ∧ BoxA (((((w.alloc (.cells c0 t0)).alloc (.cells c1 t1)).alloc (.cells c2 t2)).alloc (.cells c3 t3)).alloc (.cells c4 t4)) (w.heap.size + 1 + 1) t2 c2 ∧ BoxA (((((w.alloc (.cells c0 t0)).alloc (.cells c1 t1)).alloc (.cells c2 t2)).alloc (.cells c3 t3)).alloc (.cells c4 t4)) (w.heap.size + 1 + 1 + 1) t3 c3 ∧ BoxA (((((w.alloc (.cells c0 t0)).alloc (.cells c1 t1)).alloc (.cells c2 t2)).alloc (.cells c3 t3)).alloc (.cells c4 t4)) (w.heap.size + 1 + 1 + 1 + 1) t4 c4 :=
  ⟨(Below.alloc (Below.alloc (Below.alloc (Below.alloc (Below.alloc (Below.refl _ _) (Nat.le_refl _) _) (by simp <;> omega) _) (by simp <;> omega) _) (by simp <;> omega) _) (by simp <;> omega) _), ⟨by repeat (first | exact at_new (by first | (simp; done) | (simp; omega)) | refine at_old (by first | (simp; done) | (simp; omega)) ?_)⟩, ⟨by repeat (first | exact at_new (by first | (simp; done) | (simp; omega)) | refine at_old (by first | (simp; done) | (simp; omega)) ?_)⟩, ⟨by repeat (first | exact at_new (by first | (simp; done) | (simp; omega)) | refine at_old (by first | (simp; done) | (simp; omega)) ?_)⟩, ⟨by repeat (first | exact at_new (by first | (simp; done) | (simp; omega)) | refine at_old (by first | (simp; done) | (simp; omega)) ?_)⟩, ⟨by repeat (first | exact at_new (by first | (simp; done) | (simp; omega)) | refine at_old (by first | (simp; done) | (simp; omega)) ?_)⟩⟩
theorem imake_t (aA : Option Addr) (ac a : Nat) (z : Int) (w : World) (ha : NatV w aA ac a) (hl : nl a ≤ 1073741824) (hz : mg z = a) (hs : sg z = decide (0 < nl a)) :
    Calls Tryz.prog 64 #[.bool true, .slice aA (nl a) ac] w (RetI w z) := by
  replace hz := Lib.hid hz
  replace hs := Lib.hid hs
  obtain ⟨hb1, Rr⟩ := bx1 w #[.bool false, .slice none 0 0] 24
  replace ha := ha.below hb1
  have HBT := hb1
  clear hb1
  have qr0 := Rr.c (i := 0) rfl
  have qr1 := Rr.c (i := 1) rfl
  have C := make_c aA (nl a) ac (limbs a) _ rfl ha.rd (lim_limbs a) (by omega) ha.cap
  rw [val_limbs] at C
  replace C := Lib.hid C
  go_enter Tryz.func64, Tryz.ntmps64
  go_wp2_with (fail)
  refine C.out.mono ?_
  clear C
  rintro e W1 ⟨X, cx, rfl, hX, hb1⟩
  replace ha := ha.below hb1
  replace Rr := Rr.below hb1
  replace qr0 := cell_below hb1 qr0
  replace qr1 := cell_below hb1 qr1
  replace HBT := Below.cons HBT hb1
  clear hb1
  have fr0 := Rr.f (i := 0)
  have fr1 := Rr.f (i := 1)
  go_wp2_with (fail)
  have RS := Rr.store2 (.bool (decide (0 < nl a))) (.slice X (nl a) cx)
  have e0 := RS.c (i := 0) rfl
  have e1 := RS.c (i := 1) rfl
  refine bodyPost_ret (v := .agg #[.bool (decide (0 < nl a)), .slice X (nl a) cx]) (by simp [results, Tryz.results64, go_sem, e0, e1]) rfl ?_
  exact ⟨X, cx, by rw [hz.out, hs.out], by rw [hz.out]; exact (Rr.keep2 (by intro u hu; simp at hu; rcases hu with rfl | rfl <;> first | exact notU_bool _ | exact notU_slice _ _ _ | exact notU_i64 _) hX), (Below.store2 HBT (by first | exact Nat.le_refl _ | omega))⟩
theorem imake_f (aA : Option Addr) (ac a : Nat) (z : Int) (w : World) (ha : NatV w aA ac a) (hl : nl a ≤ 1073741824) (hz : mg z = a) (hs : sg z = false) :
    Calls Tryz.prog 64 #[.bool false, .slice aA (nl a) ac] w (RetI w z) := by
  replace hz := Lib.hid hz
  replace hs := Lib.hid hs
  obtain ⟨hb1, Rr⟩ := bx1 w #[.bool false, .slice none 0 0] 24
  replace ha := ha.below hb1
  have HBT := hb1
  clear hb1
  have qr0 := Rr.c (i := 0) rfl
  have qr1 := Rr.c (i := 1) rfl
  have C := make_c aA (nl a) ac (limbs a) _ rfl ha.rd (lim_limbs a) (by omega) ha.cap
  rw [val_limbs] at C
  replace C := Lib.hid C
  go_enter Tryz.func64, Tryz.ntmps64
  go_wp2_with (fail)
  refine C.out.mono ?_
  clear C
  rintro e W1 ⟨X, cx, rfl, hX, hb1⟩
  replace ha := ha.below hb1
  replace Rr := Rr.below hb1
  replace qr0 := cell_below hb1 qr0
  replace qr1 := cell_below hb1 qr1
  replace HBT := Below.cons HBT hb1
  clear hb1
  have fr0 := Rr.f (i := 0)
  have fr1 := Rr.f (i := 1)
  go_wp2_with (fail)
  have RS := Rr.store2 (.bool false) (.slice X (nl a) cx)
  have e0 := RS.c (i := 0) rfl
  have e1 := RS.c (i := 1) rfl
  refine bodyPost_ret (v := .agg #[.bool false, .slice X (nl a) cx]) (by simp [results, Tryz.results64, go_sem, e0, e1]) rfl ?_
  exact ⟨X, cx, by rw [hz.out, hs.out], by rw [hz.out]; exact (Rr.keep2 (by intro u hu; simp at hu; rcases hu with rfl | rfl <;> first | exact notU_bool _ | exact notU_slice _ _ _ | exact notU_i64 _) hX), (Below.store2 HBT (by first | exact Nat.le_refl _ | omega))⟩
/-- What Make makes of a sign and a natural. -/
def ival (s : Bool) (a : Nat) : Int := if s then -(a : Int) else a
theorem mg_ival (s : Bool) (a : Nat) : mg (ival s a) = a := by
  unfold mg ival; cases s <;> simp
theorem sg_ival_t (a : Nat) : sg (ival true a) = decide (0 < nl a) := by
  unfold sg ival
  have := @nl_pos a
  simp only [if_true]
  rw [decide_eq_decide, this]; omega
theorem sg_ival_f (a : Nat) : sg (ival false a) = false := by
  unfold sg ival; simp
theorem imake_c (s : Bool) (aA : Option Addr) (ac a : Nat) (w : World) (ha : NatV w aA ac a) (hl : nl a ≤ 1073741824) :
    Calls Tryz.prog 64 #[.bool s, .slice aA (nl a) ac] w (RetI w (ival s a)) := by
  cases s
  · exact imake_f aA ac a _ w ha hl (mg_ival _ _) (sg_ival_f a)
  · exact imake_t aA ac a _ w ha hl (mg_ival _ _) (sg_ival_t a)
theorem ival_sm (z : Int) : ival (sg z) (mg z) = z := by
  unfold ival sg mg
  by_cases h : z < 0
  · simp [h]; omega
  · simp [h]; omega
end Go.Proofs.YtacjfpibilolnaaGreatDoor

/- Products, limb by limb; parts; differences. -/
set_option linter.unusedVariables false
set_option linter.unusedSimpArgs false
namespace Go.Proofs.YtacjfpibilolnaaGreatDoor
open Go.RowKit Go.Shelf
attribute [local go_sem] max2_i min2_i max_two min_two

theorem gl_set_ne {l : List Nat} {i j x : Nat} (h : i ≠ j) : gl (l.set i x) j = gl l j := by
  simp [gl, List.getD_eq_getElem?_getD, List.getElem?_set_ne h]
theorem vals_set (l : List Nat) (i x : Nat) : vals (l.set i x) = (vals l).set i (.int .u32 (x : Nat)) := by simp [vals, List.map_set]
theorem mul_bdI {x y : Nat} (hx : x < 4294967296) (hy : y < 4294967296) : 0 ≤ (x : Int) * (y : Int) ∧ (x : Int) * (y : Int) ≤ 18446744065119617025 := by
  have h : x * y ≤ 18446744065119617025 := Nat.mul_le_mul (show x ≤ 4294967295 by omega) (show y ≤ 4294967295 by omega)
  rw [← Int.natCast_mul]
  generalize x * y = z at *
  omega
theorem mul_bd {x y : Nat} (hx : x < 4294967296) (hy : y < 4294967296) : x * y ≤ 18446744065119617025 :=
  Nat.mul_le_mul (show x ≤ 4294967295 by omega) (show y ≤ 4294967295 by omega)

theorem school_c (A : Option Addr) (c a : Nat) (B : Option Addr) (d b : Nat) (w : World) (hA : NatV w A c a) (hB : NatV w B d b) (ha : nl a ≤ 1073741824) (hb : nl b ≤ 1073741824) :
    Calls Tryz.prog 137 #[.slice A (nl a) c, .slice B (nl b) d] w (RetN w (a * b)) := by
  have hmk := mk32 ((nl a : Int) + nl b) ((nl a : Int) + nl b) (by omega) (by omega) (by omega)
  have hown0 := ownsMade32 w w.heap.size (nl a + nl b) (Nat.le_refl _) (by omega)
  have hb0 : Below w.heap.size w (w.alloc (.cells (madeCells #[.int .u32 0] (nl a + nl b)) 58)) := (Below.refl _ _).alloc (Nat.le_refl _) _
  have e0 : ((nl a : Int) + nl b).toNat = nl a + nl b := by omega
  rw [e0] at hmk
  go_enter Tryz.func137, Tryz.ntmps137
  go_wp2_with (fail)
  go_loopw [6, 7, 8, 9, 10, 19] (fun vi vx vc vk vy ct wr => ∃ (i : Nat) (L : List Nat), ct = .int .i64 i ∧ i ≤ nl a ∧ Below w.heap.size w wr ∧ wr.ownsRow w.heap.size 58 1 (.slice (some ⟨w.heap.size, 0, none⟩) (nl a + nl b) (nl a + nl b)) (nl a + nl b) (vals L) ∧
    L.length = nl a + nl b ∧ Lim L ∧ Hid (val L = val ((limbs a).take i) * b) ∧ Hid (∀ j, i + nl b ≤ j → gl L j = 0)) (fun vi vx vc vk vy ct wr => nl a - (intOf ct).toNat)
  case atStart =>
    exact ⟨0, _, rfl, Nat.zero_le _, hb0, hown0, by simp, Lim.replicate _ _ (by decide), Lib.hid (by rw [val_replicate]; simp [val]), Lib.hid (fun j _ => by simp [gl, List.getElem?_replicate]; split <;> rfl)⟩
  case round =>
    obtain ⟨i, L, rfl, hi, hb, hown, hlen, hlim, hval, hz⟩ := hrel
    by_cases hlt : i < nl a
    · obtain ⟨ad, rfl, hcx⟩ := (hA.rd.below hb).get i hlt
      have hxl := (lim_limbs a).gl i
      obtain ⟨x, hx⟩ : ∃ x, gl (limbs a) i = x := ⟨_, rfl⟩
      rw [hx] at hcx hxl
      have HX := Lib.hid hx
      clear hx
      have HL := Lib.hid hlen
      clear hlen hmk
      obtain ⟨wo, rfl⟩ : ∃ wo : World, wo = wr := ⟨_, rfl⟩
      go_wp2_with (fail)
      go_loopw [8, 9, 10, 26] (fun vc vk vy ct w2 => ∃ (k cr : Nat) (M : List Nat), ct = .int .i64 k ∧ vc = .int .u64 cr ∧ k ≤ nl b ∧ cr < 4294967296 ∧ Below w.heap.size w w2 ∧ w2.ownsRow w.heap.size 58 1 (.slice (some ⟨w.heap.size, 0, none⟩) (nl a + nl b) (nl a + nl b)) (nl a + nl b) (vals M) ∧
        Hid (M.length = nl a + nl b) ∧ Lim M ∧ Hid (val M + 4294967296 ^ (i + k) * cr = val L + 4294967296 ^ i * (x * val ((limbs b).take k))) ∧ Hid (∀ j, i + nl b ≤ j → gl M j = 0)) (fun vc vk vy ct w2 => nl b - (intOf ct).toNat)
      case atStart => exact ⟨0, 0, L, rfl, rfl, Nat.zero_le _, by decide, hb, hown, HL, hlim, Lib.hid (by simp [val]), hz⟩
      case round =>
        obtain ⟨k, cr, M, rfl, rfl, hk, hcr, hb2, hown2, hlen2, hlim2, hval2, hz2⟩ := hrel
        by_cases hlt2 : k < nl b
        · obtain ⟨bd, rfl, hcy⟩ := (hB.rd.below hb2).get k hlt2
          have hyl := (lim_limbs b).gl k
          obtain ⟨y, hy⟩ : ∃ y, gl (limbs b) k = y := ⟨_, rfl⟩
          rw [hy] at hcy hyl
          have HY := Lib.hid hy
          clear hy
          have hM : i + k < M.length := by rw [hlen2.out]; omega
          have hco := hown2.cellAt (i + k) (by omega)
          rw [vals_get M (i + k) hM] at hco
          have hfo := hown2.frozenAt (i + k)
          have hol := hlim2.gl (i + k)
          obtain ⟨o, ho⟩ : ∃ o, gl M (i + k) = o := ⟨_, rfl⟩
          rw [ho] at hco hol
          have HO := Lib.hid ho
          have HM := Lib.hid hM
          clear ho hM
          obtain ⟨hp1, hp2⟩ := mul_bdI hxl hyl
          have i1 : i + k < nl a + nl b := by omega
          go_wp2_with (fail)
          go_roundw
          case rel =>
            have et : ((cr : Int) + ((x : Int) * (y : Int) + (o : Int))) = ((cr + (x * y + o) : Nat) : Int) := by simp
            have hbd := mul_bd hxl hyl
            obtain ⟨t, ht⟩ : ∃ t, cr + (x * y + o) = t := ⟨_, rfl⟩
            rw [et, ht]
            have htb : t < 18446744073709551616 := by rw [← ht]; omega
            obtain ⟨r1, r2⟩ := hown2.stored (i + k) (.int .u32 ((t % 4294967296 : Nat) : Int))
            have hmod : t % 4294967296 < 4294967296 := Nat.mod_lt _ (by decide)
            have ec : ((t : Int) % 4294967296) = ((t % 4294967296 : Nat) : Int) := by omega
            rw [ec]
            refine ⟨k + 1, t / 4294967296, M.set (i + k) (t % 4294967296), by go_num, by congr 1, by omega, by omega, ?_, ?_, Lib.hid ?_, hlim2.set _ _ hmod, Lib.hid ?_, Lib.hid ?_⟩
            · exact hb2.setCell (p := ⟨w.heap.size, i + k, none⟩) (Nat.le_refl _) _
            · rw [vals_set]; exact r1
            · simp [hlen2.out]
            · have hv := hval2.out
              have hs := val_set (i + k) (t % 4294967296) HM.out
              rw [← gl_eq, HO.out] at hs
              rw [val_take_succ _ _ hlt2, HY.out]
              have e := Nat.div_add_mod t 4294967296
              rw [← Nat.add_assoc, Nat.pow_succ]
              rw [Nat.pow_add] at hv hs ⊢
              generalize val (M.set (i + k) (t % 4294967296)) = V at *
              generalize val M = U at *
              generalize val L = S at *
              generalize val ((limbs b).take k) = T at *
              generalize t / 4294967296 = q at *
              generalize t % 4294967296 = r at *
              generalize 4294967296 ^ i = p at *
              generalize 4294967296 ^ k = z at *
              grind
            · intro j hj
              rw [gl_set_ne (by omega)]
              exact hz2.out j hj
          case measure => simp [intOf] <;> omega
        · obtain rfl : k = nl b := by omega
          have hcell : wr.cell? ⟨w.heap.size, i + nl b, none⟩ = some (.int .u32 (gl M (i + nl b) : Nat)) := by
            rw [hown2.cellAt (i + nl b) (by omega), vals_get M _ (by rw [hlen2.out]; omega)]
          have hfo := hown2.frozenAt (i + nl b)
          have hg0 := hz2.out (i + nl b) (by omega)
          have i1 : i + nl b < nl a + nl b := by omega
          go_wp2_with (fail)
          go_roundw
          case rel =>
            have hM : i + nl b < M.length := by rw [hlen2.out]; omega
            obtain ⟨r1, r2⟩ := hown2.stored (i + nl b) (.int .u32 (cr : Nat))
            refine ⟨i + 1, M.set (i + nl b) cr, by go_num, by omega, hb2.setCell (p := ⟨w.heap.size, i + nl b, none⟩) (Nat.le_refl _) _, by rw [vals_set]; exact r1, by simp [hlen2.out], hlim2.set _ _ (by omega), Lib.hid ?_, Lib.hid ?_⟩
            · have hs := val_set (i + nl b) cr hM
              rw [← gl_eq, hg0, Nat.mul_zero, Nat.add_zero] at hs
              have hv := hval2.out
              rw [take_limbs (Nat.le_refl _)] at hv
              rw [hs, hv, hval.out, val_take_succ _ _ hlt, HX.out]
              grind
            · intro j hj
              rw [gl_set_ne (by omega)]
              exact hz2.out j (by omega)
          case measure => simp [intOf] <;> omega
    · obtain rfl : i = nl a := by omega
      obtain ⟨X, cx, e, hcx, hcm, hrd⟩ := ownV_rd hown
      cases e
      have hv := hval.out
      rw [take_limbs (Nat.le_refl _)] at hv
      have hmake := make_c (some ⟨w.heap.size, 0, none⟩) (nl a + nl b) (nl a + nl b) L wr hlen hrd hlim (by omega) (Nat.le_refl _)
      rw [hv] at hmake
      have HM := Lib.hid hmake
      clear hmake hown hrd hv hlen
      go_wp2_with (fail)
      refine HM.out.mono ?_
      rintro e w2 ⟨Y, cy, rfl, h1, h2⟩
      go_wp2_with (fail)
      go_ret
      exact ⟨Y, cy, rfl, h1, hb.trans (h2.mono hb.size)⟩

/-- Limbs from one place on, so many. -/
def cut (a i m : Nat) : Nat := a / 2 ^ (32 * i) % 2 ^ (32 * m)
theorem nl_cut (a i m : Nat) : nl (cut a i m) ≤ m := nl_mod_pow _ _

theorem Rd.sub {w : World} {A : Option Addr} {l : List Nat} (h : Rd w A l) (i m : Nat) : Rd w (A.map fun x => x.add i) ((l.drop i).take m) := by
  rcases h with h | ⟨ad, rfl, h⟩
  · have : l = [] := List.map_eq_nil_iff.1 h
    subst this
    exact .inl (by simp [vals])
  · refine .inr ⟨ad.add i, rfl, fun k u hu => ?_⟩
    rw [Addr.add_add]
    refine h (i + k) u ?_
    simp only [vals, List.map_take, List.map_drop] at hu ⊢
    by_cases hk : k < m
    · rw [List.getElem?_take_of_lt hk, List.getElem?_drop] at hu
      exact hu
    · rw [List.getElem?_take_eq_none (by omega)] at hu; cases hu
theorem cut_val (a i j i' j' : Nat) (hij : i ≤ j) (hi : i' = min i (nl a)) (hj : j' = min j (nl a)) : val (((limbs a).drop i').take (j' - i')) = cut a i (j - i) := by
  rw [val_take ((lim_limbs a).drop i'), val_drop (lim_limbs a), val_limbs]
  unfold cut
  rw [pow32, pow32]
  by_cases h : i < nl a
  · obtain rfl : i' = i := by omega
    by_cases h2 : j ≤ nl a
    · obtain rfl : j' = j := by omega
      rfl
    · obtain rfl : j' = nl a := by omega
      have h3 := nl_shr32 a i'
      rw [pow32] at h3
      rw [Nat.mod_eq_of_lt (nl_le.1 h3), Nat.mod_eq_of_lt (nl_le.1 (by omega))]
  · have h1 : a / 4294967296 ^ i = 0 := Nat.div_eq_of_lt (nl_le.1 (by omega))
    rw [h1, Nat.zero_mod, show j' - i' = 0 by omega, Nat.pow_zero, Nat.mod_one]

theorem part_c (A : Option Addr) (c a : Nat) (i j : Int) (w : World) (hA : NatV w A c a) (ha : nl a ≤ 1073741824) (h0 : 0 ≤ i) (h1 : i ≤ j) (h2 : j ≤ 1099511627776) :
    Calls Tryz.prog 146 #[.slice A (nl a) c, .int .i64 i, .int .i64 j] w (RetN w (cut a i.toNat (j - i).toNat)) := by
  obtain ⟨j, rfl⟩ := Int.eq_ofNat_of_zero_le (Int.le_trans h0 h1)
  obtain ⟨i, rfl⟩ := Int.eq_ofNat_of_zero_le h0
  have hc := hA.cap
  have e3 : ((j : Int) - (i : Int)).toNat = j - i := by omega
  rw [e3, Int.toNat_natCast]
  have hm := fun (X : Option Addr) (n d : Nat) (h : Rd w X (((limbs a).drop (min i (nl a))).take (min j (nl a) - min i (nl a)))) (hn : n = min j (nl a) - min i (nl a)) (hd : n ≤ d) =>
    make_c X n d (((limbs a).drop (min i (nl a))).take (min j (nl a) - min i (nl a))) w (by rw [List.length_take, List.length_drop]; show min _ (nl a - _) = n; omega) h (((lim_limbs a).drop _).take _) (by omega) hd
  rw [cut_val a i j _ _ (by omega) rfl rfl] at hm
  have HM := Lib.hid hm
  have hr := Rd.sub hA.rd (min i (nl a)) (min j (nl a) - min i (nl a))
  have HR := Lib.hid hr
  clear hm hr
  go_enter Tryz.func146, Tryz.ntmps146
  go_wp2_with (fail)
  · have heq : (min (j : Int) (nl a : Int)).toNat = (min (i : Int) (nl a : Int)).toNat := by first | assumption | (symm; assumption)
    refine (HM.out A 0 0 ?_ ?_ (Nat.le_refl _)).mono ?_
    · rw [show min j (nl a) - min i (nl a) = 0 by omega, List.take_zero]; exact Rd.nil
    · omega
    rintro e w2 ⟨Y, cy, rfl, h1, h2⟩
    go_wp2_with (fail)
    go_ret
    exact ⟨Y, cy, rfl, h1, h2⟩
  · refine (HM.out _ _ _ ?_ ?_ (Nat.le_refl _)).mono ?_
    · rw [show (min (i : Int) (nl a : Int)).toNat = min i (nl a) by omega]; exact HR.out
    · omega
    rintro e w2 ⟨Y, cy, rfl, h1, h2⟩
    go_wp2_with (fail)
    go_ret
    exact ⟨Y, cy, rfl, h1, h2⟩
end Go.Proofs.YtacjfpibilolnaaGreatDoor
