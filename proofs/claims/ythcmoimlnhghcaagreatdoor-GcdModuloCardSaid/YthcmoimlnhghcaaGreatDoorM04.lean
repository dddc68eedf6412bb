/- Whole numbers and matrices of them, walked. -/
import Derived.Test.YthcmoimlnhghcaaGreatDoorM03
import Derived.Test.YthcmoimlnhghcaaGreatDoorM01
import Derived.Deep.RegionHeld3
import Derived.RangeFuncCalls
import Derived.OwnWalkIn
import Derived.Laws.AppendOwn
import Derived.IntWalk
import Derived.Deep.CutRange
set_option maxRecDepth 100000
set_option maxHeartbeats 4000000
set_option linter.unusedVariables false
set_option linter.unusedSimpArgs false
namespace Go.Proofs.YthcmoimlnhghcaaGreatDoor
open Go.RowKit Go.Shelf
attribute [local go_sem] max2_i min2_i max_two min_two

/-- What a call that makes a matrix leaves. -/
def RetM (w : World) (m : Mx) (e : Ending) (w' : World) : Prop := ∃ (A : Option Addr) (a : Nat) (B : Option Addr) (b : Nat) (C : Option Addr) (c : Nat) (D : Option Addr) (d : Nat),
  e = .returned (.agg #[.bool (sg m.a), .slice A (nl (mg m.a)) a, .bool (sg m.b), .slice B (nl (mg m.b)) b, .bool (sg m.c), .slice C (nl (mg m.c)) c, .bool (sg m.d), .slice D (nl (mg m.d)) d]) ∧
  NatV w' A a (mg m.a) ∧ NatV w' B b (mg m.b) ∧ NatV w' C c (mg m.c) ∧ NatV w' D d (mg m.d) ∧ Below w.heap.size w w'
theorem lista8 (vs : Array Value) : vs.toList.all (fun u => match u with | .int .u32 _ => false | _ => true) = true → ∀ u ∈ vs.toList, NotU u := by
  intro h u hu x e
  have := List.all_eq_true.1 h u hu
  rw [e] at this
  cases this
section
variable {W : World} {k : Nat} {t : TypeId} {u0 u1 u2 u3 u4 u5 u6 u7 v0 v1 v2 v3 v4 v5 v6 v7 : Value}
theorem set8_far (j : Nat) (hj : j ≠ k) : ((((((((W.setCell ⟨k, 0, none⟩ v0).setCell ⟨k, 1, none⟩ v1).setCell ⟨k, 2, none⟩ v2).setCell ⟨k, 3, none⟩ v3).setCell ⟨k, 4, none⟩ v4).setCell ⟨k, 5, none⟩ v5).setCell ⟨k, 6, none⟩ v6).setCell ⟨k, 7, none⟩ v7).heap[j]? = W.heap[j]? := by
  rw [Below.heap_setCell _ _ _ _ (by simpa using hj), Below.heap_setCell _ _ _ _ (by simpa using hj), Below.heap_setCell _ _ _ _ (by simpa using hj), Below.heap_setCell _ _ _ _ (by simpa using hj), Below.heap_setCell _ _ _ _ (by simpa using hj), Below.heap_setCell _ _ _ _ (by simpa using hj), Below.heap_setCell _ _ _ _ (by simpa using hj), Below.heap_setCell _ _ _ _ (by simpa using hj)]
theorem BoxA.store8 (h : BoxA W k t #[u0, u1, u2, u3, u4, u5, u6, u7]) (v0 v1 v2 v3 v4 v5 v6 v7 : Value) : BoxA ((((((((W.setCell ⟨k, 0, none⟩ v0).setCell ⟨k, 1, none⟩ v1).setCell ⟨k, 2, none⟩ v2).setCell ⟨k, 3, none⟩ v3).setCell ⟨k, 4, none⟩ v4).setCell ⟨k, 5, none⟩ v5).setCell ⟨k, 6, none⟩ v6).setCell ⟨k, 7, none⟩ v7) k t #[v0, v1, v2, v3, v4, v5, v6, v7] := by
  have h0 := heap_setCell_same W k 0 _ _ v0 h.at_
  have h1 := heap_setCell_same _ k 1 _ _ v1 h0
  have h2 := heap_setCell_same _ k 2 _ _ v2 h1
  have h3 := heap_setCell_same _ k 3 _ _ v3 h2
  have h4 := heap_setCell_same _ k 4 _ _ v4 h3
  have h5 := heap_setCell_same _ k 5 _ _ v5 h4
  have h6 := heap_setCell_same _ k 6 _ _ v6 h5
  have h7 := heap_setCell_same _ k 7 _ _ v7 h6
  exact ⟨by simpa using h7⟩
theorem BoxA.keep8 (h : BoxA W k t #[u0, u1, u2, u3, u4, u5, u6, u7]) (hu : ∀ u ∈ (#[u0, u1, u2, u3, u4, u5, u6, u7] : Array Value).toList, NotU u) {A : Option Addr} {c n : Nat} (hN : NatV W A c n) : NatV ((((((((W.setCell ⟨k, 0, none⟩ v0).setCell ⟨k, 1, none⟩ v1).setCell ⟨k, 2, none⟩ v2).setCell ⟨k, 3, none⟩ v3).setCell ⟨k, 4, none⟩ v4).setCell ⟨k, 5, none⟩ v5).setCell ⟨k, 6, none⟩ v6).setCell ⟨k, 7, none⟩ v7) A c n := h.keep hu (fun j hj => set8_far j hj) hN
theorem cell_other8 {b i : Nat} {u : Value} (h : W.cell? ⟨b, i, none⟩ = some u) (hne : b ≠ k) : (((((((((W.setCell ⟨k, 0, none⟩ v0).setCell ⟨k, 1, none⟩ v1).setCell ⟨k, 2, none⟩ v2).setCell ⟨k, 3, none⟩ v3).setCell ⟨k, 4, none⟩ v4).setCell ⟨k, 5, none⟩ v5).setCell ⟨k, 6, none⟩ v6).setCell ⟨k, 7, none⟩ v7)).cell? ⟨b, i, none⟩ = some u := by
  rw [World.cell?_of_block (w := W) (a := ⟨b, i, none⟩) (set8_far b hne)]; exact h
theorem Below.store8 {w : World} (h : Below w.heap.size w W) (hk : w.heap.size ≤ k) : Below w.heap.size w ((((((((W.setCell ⟨k, 0, none⟩ v0).setCell ⟨k, 1, none⟩ v1).setCell ⟨k, 2, none⟩ v2).setCell ⟨k, 3, none⟩ v3).setCell ⟨k, 4, none⟩ v4).setCell ⟨k, 5, none⟩ v5).setCell ⟨k, 6, none⟩ v6).setCell ⟨k, 7, none⟩ v7) := ((((((((h.setCell (p := ⟨k, 0, none⟩) hk _).setCell (p := ⟨k, 1, none⟩) hk _).setCell (p := ⟨k, 2, none⟩) hk _).setCell (p := ⟨k, 3, none⟩) hk _).setCell (p := ⟨k, 4, none⟩) hk _).setCell (p := ⟨k, 5, none⟩) hk _).setCell (p := ⟨k, 6, none⟩) hk _).setCell (p := ⟨k, 7, none⟩) hk _)
end
theorem iof_neg (n : Nat) (w : World) (hn : n ≤ 9223372036854775807) (h0 : 0 < n) :
    Calls Tryz.prog 82 #[.int .i64 (-(n : Int))] w (RetI w (-(n : Int))) := by
  obtain ⟨k, Ek⟩ : ∃ k : Int, k = -(n : Int) + 1 := ⟨_, rfl⟩
  have t1 : decide (-(n : Int) < 0) = true := by simp; omega
  have W1 : IntKind.i64.wrap k = k := IntWalk.i64_in _ (by omega)
  have I1 : -(n : Int) + 1 = k := Ek.symm
  obtain ⟨j, Ej⟩ : ∃ j : Int, j = -k := ⟨_, rfl⟩
  have I2 : -k = j := Ej.symm
  have W2 : IntKind.i64.wrap j = j := IntWalk.i64_in _ (by omega)
  have W3 : IntKind.u64.wrap j = j := by simp [IntKind.wrap, IntKind.signed, IntKind.bits]; omega
  have I3 : j % 18446744073709551616 = j := by omega
  have I4 : j + 1 = (n : Int) := by omega
  have W4 : IntKind.u64.wrap (n : Int) = (n : Int) := by simp [IntKind.wrap, IntKind.signed, IntKind.bits]; omega
  have I5 : (n : Int) % 18446744073709551616 = (n : Int) := by omega
  replace Ek := Lib.hid Ek
  replace Ej := Lib.hid Ej
  obtain ⟨hb1, Rr⟩ := bx1 w #[.bool false, .slice none 0 0] 24
  have HBT := hb1
  clear hb1
  have qr0 := Rr.c (i := 0) rfl
  have qr1 := Rr.c (i := 1) rfl
  go_enter Tryz.func82, Tryz.ntmps82
  go_wp2_with (fail)
  obtain ⟨m, Em⟩ : ∃ zq : Nat, zq = n := ⟨_, rfl⟩
  have Bm : nl m ≤ 2 := by rw [Em]; exact nl_le.2 (Nat.lt_of_le_of_lt hn (by decide))
  refine (Calls.mono (R := RetN (w.alloc (.cells #[.bool false, .slice none 0 0] 24)) m) (by rw [Em]; with_reducible exact (nof_c n _  (by omega))) ?_)
  replace Em := Lib.hid Em
  rintro e W2 ⟨Xm, cm, rfl, hm, hb2⟩
  replace Rr := Rr.below hb2
  replace qr0 := cbl hb2 qr0
  replace qr1 := cbl hb2 qr1
  replace HBT := Below.cons HBT hb2
  clear hb2
  go_wp2_with (fail)
  obtain ⟨z, Ez⟩ : ∃ zq : Int, zq = ival true m := ⟨_, rfl⟩
  refine (Calls.mono (R := RetI W2 z) (by rw [Ez]; with_reducible exact (imake_c true Xm cm m _ hm (by omega))) ?_)
  replace Ez := Lib.hid Ez
  rintro e W3 ⟨Xz, cz, rfl, hz, hb3⟩
  replace Rr := Rr.below hb3
  replace qr0 := cbl hb3 qr0
  replace qr1 := cbl hb3 qr1
  replace hm := hm.below hb3
  replace HBT := Below.cons HBT hb3
  clear hb3
  have fzr0 := Rr.f (i := 0)
  have fzr1 := Rr.f (i := 1)
  go_wp2_with (fail)
  have hzz : z = (-(n : Int)) := by rw [Ez.out, Em.out]; rfl
  subst hzz
  have RS := Rr.store2 (.bool (sg (((-(n : Int)))))) (.slice Xz (nl (mg (((-(n : Int)))))) cz)
  have e0 := RS.c (i := 0) rfl
  have e1 := RS.c (i := 1) rfl
  refine bodyPost_ret (v := .agg #[.bool (sg (((-(n : Int))))), .slice Xz (nl (mg (((-(n : Int)))))) cz]) (by simp [results, Tryz.results82, go_sem, e0, e1]) rfl ?_
  exact ⟨Xz, cz, rfl, (Rr.keep2 (nuB rfl) hz), (Below.store2 HBT (by first | exact Nat.le_refl _ | omega))⟩
theorem iofz_c (z : Int) (w : World) (h0 : -9223372036854775807 ≤ z) (h1 : z < 9223372036854775808) :
    Calls Tryz.prog 82 #[.int .i64 z] w (RetI w z) := by
  rcases Int.lt_or_le z 0 with h | h
  · obtain ⟨n, rfl⟩ := Int.exists_eq_neg_ofNat (show z ≤ 0 by omega)
    exact iof_neg n w (by omega) (by omega)
  · obtain ⟨n, rfl⟩ := Int.eq_ofNat_of_zero_le h
    exact iof_c n w (by omega)
theorem isub_c (aA : Option Addr) (ac : Nat) (a : Int) (bA : Option Addr) (bc : Nat) (b : Int) (w : World) (ha : NatV w aA ac (mg a)) (hb : NatV w bA bc (mg b)) (la : nl (mg a) ≤ 1048576) (lb : nl (mg b) ≤ 1048576) :
    Calls Tryz.prog 139 #[.agg #[.bool (sg a), .slice aA (nl (mg a)) ac], .agg #[.bool (sg b), .slice bA (nl (mg b)) bc]] w (RetI w (a - b)) := by
  obtain ⟨hb1, Ra, Rb, Rr⟩ := bx3 w #[.bool (sg a), .slice aA (nl (mg a)) ac] 24 #[.bool (sg b), .slice bA (nl (mg b)) bc] 24 #[.bool false, .slice none 0 0] 24
  replace ha := ha.below hb1
  replace hb := hb.below hb1
  have HBT := hb1
  clear hb1
  have qa0 := Ra.c (i := 0) rfl
  have qa1 := Ra.c (i := 1) rfl
  have qb0 := Rb.c (i := 0) rfl
  have qb1 := Rb.c (i := 1) rfl
  have qr0 := Rr.c (i := 0) rfl
  have qr1 := Rr.c (i := 1) rfl
  go_enter Tryz.func139, Tryz.ntmps139
  go_wp2_with (fail)
  have hd2 := drb ((((w.alloc (.cells #[.bool (sg a), .slice aA (nl (mg a)) ac] 24)).alloc (.cells #[.bool (sg b), .slice bA (nl (mg b)) bc] 24)).alloc (.cells #[.bool false, .slice none 0 0] 24)))
  replace ha := ha.below hd2
  replace hb := hb.below hd2
  replace Ra := Ra.below hd2
  replace qa0 := cbl hd2 qa0
  replace qa1 := cbl hd2 qa1
  replace Rb := Rb.below hd2
  replace qb0 := cbl hd2 qb0
  replace qb1 := cbl hd2 qb1
  replace Rr := Rr.below hd2
  replace qr0 := cbl hd2 qr0
  replace qr1 := cbl hd2 qr1
  replace HBT := Below.cons HBT hd2
  clear hd2
  obtain ⟨n, En⟩ : ∃ zq : Int, zq = -b := ⟨_, rfl⟩
  have Nn : nl (mg n) ≤ 1048576 := by rw [En, mg_neg]; exact lb
  have C2_0 := fun (W : World) (h1 : NatV W bA bc (mg b)) => ineg_c bA bc b W h1 (by omega)
  simp only [← En] at C2_0
  replace En := Lib.hid En
  replace C2_0 := Lib.hid C2_0
  obtain ⟨z, Ez⟩ : ∃ zq : Int, zq = a + n := ⟨_, rfl⟩
  have C2_1 := fun (W : World) (A : Option Addr) (c : Nat) (h1 : NatV W aA ac (mg a)) (h2 : NatV W A c (mg n)) => iadd_c aA ac a A c n W h1 h2 (by omega) (by omega)
  simp only [← Ez] at C2_1
  replace Ez := Lib.hid Ez
  replace C2_1 := Lib.hid C2_1
  go_region_held3 (fun W => W.cell? ⟨w.heap.size, 0, none⟩ = some (.bool (sg a)) ∧ W.cell? ⟨w.heap.size, 1, none⟩ = some (.slice aA (nl (mg a)) ac) ∧ W.cell? ⟨(w.heap.size + 1), 0, none⟩ = some (.bool (sg b)) ∧ W.cell? ⟨(w.heap.size + 1), 1, none⟩ = some (.slice bA (nl (mg b)) bc))
    (first
      | exact ⟨qa0, qa1, qb0, qb1⟩
      | exact ⟨qa0_3, qa1_3, qb0_3, qb1_3⟩
      | exact ⟨qa0_4, qa1_4, qb0_4, qb1_4⟩
      | exact ⟨((Ra_4.other2 (by simp <;> omega)).c (i := 0) rfl), ((Ra_4.other2 (by simp <;> omega)).c (i := 1) rfl), ((Rb_4.other2 (by simp <;> omega)).c (i := 0) rfl), ((Rb_4.other2 (by simp <;> omega)).c (i := 1) rfl)⟩
      | go_keep)
    (first
      | (go_at_call 68; (with_reducible refine (C2_0.out _ hb).mono ?_); rintro e W3 ⟨Xn, cn, rfl, hn, hb3⟩; have ha_3 := ha.below hb3; have hb_3 := hb.below hb3; have Ra_3 := Ra.below hb3; have qa0_3 := cbl hb3 qa0; have qa1_3 := cbl hb3 qa1; have Rb_3 := Rb.below hb3; have qb0_3 := cbl hb3 qb0; have qb1_3 := cbl hb3 qb1; have Rr_3 := Rr.below hb3; have qr0_3 := cbl hb3 qr0; have qr1_3 := cbl hb3 qr1; have HBT_3 := Below.cons HBT hb3)
      | (go_at_call 72; (with_reducible refine (C2_1.out _ _ _ ha_3 hn).mono ?_); rintro e W4 ⟨Xz, cz, rfl, hz, hb4⟩; have ha_4 := ha_3.below hb4; have hb_4 := hb_3.below hb4; have Ra_4 := Ra_3.below hb4; have qa0_4 := cbl hb4 qa0_3; have qa1_4 := cbl hb4 qa1_3; have Rb_4 := Rb_3.below hb4; have qb0_4 := cbl hb4 qb0_3; have qb1_4 := cbl hb4 qb1_3; have Rr_4 := Rr_3.below hb4; have qr0_4 := cbl hb4 qr0_3; have qr1_4 := cbl hb4 qr1_3; have hn_4 := hn.below hb4; have HBT_4 := Below.cons HBT_3 hb4; have fz0 := Rr_4.f (i := 0); have fz1 := Rr_4.f (i := 1)))
  all_goals (try go_wp2_with (fail))
  have hzz : z = a - b := by rw [Ez.out, En.out]; omega
  subst hzz
  have RS := Rr_4.store2 (.bool (sg ((a - b)))) (.slice Xz (nl (mg ((a - b)))) cz)
  have e0 := RS.c (i := 0) rfl
  have e1 := RS.c (i := 1) rfl
  refine bodyPost_ret (v := .agg #[.bool (sg ((a - b))), .slice Xz (nl (mg ((a - b)))) cz]) (by simp [results, Tryz.results139, go_sem, e0, e1]) rfl ?_
  exact ⟨Xz, cz, rfl, (Rr_4.keep2 (nuB rfl) hz), (Below.store2 HBT_4 (by first | exact Nat.le_refl _ | omega))⟩
theorem whole_c (aA : Option Addr) (ac a : Nat) (w : World) (ha : NatV w aA ac a) (la : nl a ≤ 1073741824) :
    Calls Tryz.prog 100 #[.slice aA (nl a) ac] w (RetI w (a : Int)) := by
  obtain ⟨hb1, Rr⟩ := bx1 w #[.bool false, .slice none 0 0] 24
  replace ha := ha.below hb1
  have HBT := hb1
  clear hb1
  have qr0 := Rr.c (i := 0) rfl
  have qr1 := Rr.c (i := 1) rfl
  go_enter Tryz.func100, Tryz.ntmps100
  go_wp2_with (fail)
  obtain ⟨z, Ez⟩ : ∃ zq : Int, zq = ival false a := ⟨_, rfl⟩
  refine (Calls.mono (R := RetI (w.alloc (.cells #[.bool false, .slice none 0 0] 24)) z) (by rw [Ez]; with_reducible exact (imake_c false aA ac a _ ha (by omega))) ?_)
  replace Ez := Lib.hid Ez
  rintro e W2 ⟨Xz, cz, rfl, hz, hb2⟩
  replace ha := ha.below hb2
  replace Rr := Rr.below hb2
  replace qr0 := cbl hb2 qr0
  replace qr1 := cbl hb2 qr1
  replace HBT := Below.cons HBT hb2
  clear hb2
  have fzr0 := Rr.f (i := 0)
  have fzr1 := Rr.f (i := 1)
  go_wp2_with (fail)
  have hzz : z = (a : Int) := by rw [Ez.out]; rfl
  subst hzz
  have RS := Rr.store2 (.bool (sg (((a : Int))))) (.slice Xz (nl (mg (((a : Int))))) cz)
  have e0 := RS.c (i := 0) rfl
  have e1 := RS.c (i := 1) rfl
  refine bodyPost_ret (v := .agg #[.bool (sg (((a : Int)))), .slice Xz (nl (mg (((a : Int))))) cz]) (by simp [results, Tryz.results100, go_sem, e0, e1]) rfl ?_
  exact ⟨Xz, cz, rfl, (Rr.keep2 (nuB rfl) hz), (Below.store2 HBT (by first | exact Nat.le_refl _ | omega))⟩
theorem unit_c (w : World) : Calls Tryz.prog 86 #[] w (RetM w Mx.one) := by
  have Z0 : ∀ W : World, Calls Tryz.prog 82 #[.int .i64 0] W (RetI W 0) := fun W => iof_c 0 W (by decide)
  replace Z0 := Lib.hid Z0
  obtain ⟨hb1, Rr⟩ := bx1 w #[.bool false, .slice none 0 0, .bool false, .slice none 0 0, .bool false, .slice none 0 0, .bool false, .slice none 0 0] 89
  have HBT := hb1
  clear hb1
  go_enter Tryz.func86, Tryz.ntmps86
  go_wp2_with (fail)
  obtain ⟨z0, Ez0⟩ : ∃ zq : Int, zq = (1 : Int) := ⟨_, rfl⟩
  refine (Calls.mono (R := RetI (w.alloc (.cells #[.bool false, .slice none 0 0, .bool false, .slice none 0 0, .bool false, .slice none 0 0, .bool false, .slice none 0 0] 89)) z0) (by rw [Ez0]; with_reducible exact (iof1_c _)) ?_)
  replace Ez0 := Lib.hid Ez0
  rintro e W2 ⟨Xz0, cz0, rfl, hz0, hb2⟩
  replace Rr := Rr.below hb2
  replace HBT := Below.cons HBT hb2
  clear hb2
  go_wp2_with (fail)
  obtain ⟨z1, Ez1⟩ : ∃ zq : Int, zq = (0 : Int) := ⟨_, rfl⟩
  refine (Calls.mono (R := RetI W2 z1) (by rw [Ez1]; with_reducible exact (Z0.out _)) ?_)
  replace Ez1 := Lib.hid Ez1
  rintro e W3 ⟨Xz1, cz1, rfl, hz1, hb3⟩
  replace Rr := Rr.below hb3
  replace hz0 := hz0.below hb3
  replace HBT := Below.cons HBT hb3
  clear hb3
  go_wp2_with (fail)
  obtain ⟨z2, Ez2⟩ : ∃ zq : Int, zq = (0 : Int) := ⟨_, rfl⟩
  refine (Calls.mono (R := RetI W3 z2) (by rw [Ez2]; with_reducible exact (Z0.out _)) ?_)
  replace Ez2 := Lib.hid Ez2
  rintro e W4 ⟨Xz2, cz2, rfl, hz2, hb4⟩
  replace Rr := Rr.below hb4
  replace hz0 := hz0.below hb4
  replace hz1 := hz1.below hb4
  replace HBT := Below.cons HBT hb4
  clear hb4
  go_wp2_with (fail)
  obtain ⟨z3, Ez3⟩ : ∃ zq : Int, zq = (1 : Int) := ⟨_, rfl⟩
  refine (Calls.mono (R := RetI W4 z3) (by rw [Ez3]; with_reducible exact (iof1_c _)) ?_)
  replace Ez3 := Lib.hid Ez3
  rintro e W5 ⟨Xz3, cz3, rfl, hz3, hb5⟩
  replace Rr := Rr.below hb5
  replace hz0 := hz0.below hb5
  replace hz1 := hz1.below hb5
  replace hz2 := hz2.below hb5
  replace HBT := Below.cons HBT hb5
  clear hb5
  have fz0 := Rr.f (i := 0)
  have cz_0 := Rr.c (i := 0) rfl
  have fz1 := Rr.f (i := 1)
  have cz_1 := Rr.c (i := 1) rfl
  have fz2 := Rr.f (i := 2)
  have cz_2 := Rr.c (i := 2) rfl
  have fz3 := Rr.f (i := 3)
  have cz_3 := Rr.c (i := 3) rfl
  have fz4 := Rr.f (i := 4)
  have cz_4 := Rr.c (i := 4) rfl
  have fz5 := Rr.f (i := 5)
  have cz_5 := Rr.c (i := 5) rfl
  have fz6 := Rr.f (i := 6)
  have cz_6 := Rr.c (i := 6) rfl
  have fz7 := Rr.f (i := 7)
  have cz_7 := Rr.c (i := 7) rfl
  go_wp2_with (fail)
  have hzz0 : z0 = Mx.one.a := by rw [Ez0.out]; rfl
  subst hzz0
  have hzz1 : z1 = Mx.one.b := by rw [Ez1.out]; rfl
  subst hzz1
  have hzz2 : z2 = Mx.one.c := by rw [Ez2.out]; rfl
  subst hzz2
  have hzz3 : z3 = Mx.one.d := by rw [Ez3.out]; rfl
  subst hzz3
  have RS := Rr.store8 (.bool (sg (Mx.one.a))) (.slice Xz0 (nl (mg (Mx.one.a))) cz0) (.bool (sg (Mx.one.b))) (.slice Xz1 (nl (mg (Mx.one.b))) cz1) (.bool (sg (Mx.one.c))) (.slice Xz2 (nl (mg (Mx.one.c))) cz2) (.bool (sg (Mx.one.d))) (.slice Xz3 (nl (mg (Mx.one.d))) cz3)
  have e0 := RS.c (i := 0) rfl
  have e1 := RS.c (i := 1) rfl
  have e2 := RS.c (i := 2) rfl
  have e3 := RS.c (i := 3) rfl
  have e4 := RS.c (i := 4) rfl
  have e5 := RS.c (i := 5) rfl
  have e6 := RS.c (i := 6) rfl
  have e7 := RS.c (i := 7) rfl
  refine bodyPost_ret (v := .agg #[.bool (sg (Mx.one.a)), .slice Xz0 (nl (mg (Mx.one.a))) cz0, .bool (sg (Mx.one.b)), .slice Xz1 (nl (mg (Mx.one.b))) cz1, .bool (sg (Mx.one.c)), .slice Xz2 (nl (mg (Mx.one.c))) cz2, .bool (sg (Mx.one.d)), .slice Xz3 (nl (mg (Mx.one.d))) cz3]) (by simp [results, Tryz.results86, go_sem, e0, e1, e2, e3, e4, e5, e6, e7]) rfl ?_
  exact ⟨Xz0, cz0, Xz1, cz1, Xz2, cz2, Xz3, cz3, rfl, Rr.keep8 (lista8 _ rfl) hz0, Rr.keep8 (lista8 _ rfl) hz1, Rr.keep8 (lista8 _ rfl) hz2, Rr.keep8 (lista8 _ rfl) hz3, Below.store8 HBT (by first | exact Nat.le_refl _ | omega)⟩
end Go.Proofs.YthcmoimlnhghcaaGreatDoor

/- A region that draws its order, whose calls come up in one order alone and whose other operations yield the same at whatever time: it is run one behind the other. -/
set_option linter.unusedVariables false
set_option linter.unusedSimpArgs false
namespace Go.Proofs.YthcmoimlnhghcaaGreatDoor
open Go.RowKit

/-- One behind the other, by a list of operations; 'true': it yields the same in every world that meets S. -/
def SeqP (P : Program) (ops : Array Oper) (Q : Exit → Act → World → Prop) (S : World → Prop) : List (Nat × Bool) → Act → World → Prop
  | [], a, w => Q .normal a w
  | (i, true) :: p, a, w => ∃ o v, ops[i]? = some o ∧ (∀ c a w, Q (.panic c) (a.put o.dst v) w → Q (.panic c) a w) ∧ YieldsIf P ops S o v a ∧ SeqP P ops Q S p (a.put o.dst v) w
  | (i, false) :: p, a, w => wpOp P ops Q i (fun a' w' => S w' ∧ (S w' → SeqP P ops Q S p a' w')) a w
/-- What the order hangs on: number, kind, what it comes behind, what it writes, what it reads. -/
structure Info where
  i : Nat
  t : Bool
  deps : List Nat
  dst : Option Nat
  looks : List Nat
def infoOf (ops : Array Oper) (x : Nat × Bool) : Info :=
  match ops[x.1]? with
  | none => ⟨x.1, x.2, [], none, []⟩
  | some o => ⟨x.1, x.2, (o.after.toList.filter (Region.binds .any)).map (fun e => e.on), o.dst, Oper.looksAt ops o⟩
def apartB (x y : Info) : Bool :=
  (match x.dst with | some d => !y.looks.contains d && y.dst != some d | none => true) && (match y.dst with | some d => !x.looks.contains d | none => true)
def chkTake : List Info → Bool
  | [] => true
  | x :: r => (!x.t || r.all (fun y => y.deps.contains x.i || apartB x y)) && chkTake r
def chkOrder : List Nat → List Info → Bool
  | _, [] => true
  | d, x :: r => !d.contains x.i && x.deps.all (fun k => d.contains k) && chkOrder (x.i :: d) r
def chkCall : Option (List Nat) → List Info → Bool
  | _, [] => true
  | none, x :: r => chkCall (if x.t then none else some [x.i]) r
  | some W, x :: r => x.deps.any (fun k => W.contains k) && chkCall (if x.t then some (x.i :: W) else some [x.i]) r
def chkAll (ops : Array Oper) (p : List (Nat × Bool)) : Bool :=
  let l := p.map (infoOf ops)
  chkTake l && chkOrder [] l && chkCall none l && (List.range ops.size).all (fun k => (p.map (fun x => x.1)).contains k) && p.all (fun x => decide (x.1 < ops.size)) && Region.noSelect ops
/-- The operations behind a call each come behind something from that call on. -/
theorem chkCall_spec : ∀ (l : List Info) (W : List Nat), chkCall (some W) l = true → ∀ x ∈ l, ∃ k ∈ x.deps, k ∈ W ∨ ∃ y ∈ l, y.i = k
  | [], W, h, x, hx => by cases hx
  | y :: r, W, h, x, hx => by
    simp only [chkCall, Bool.and_eq_true] at h
    obtain ⟨h1, h2⟩ := h
    rcases List.mem_cons.1 hx with rfl | hx
    · obtain ⟨k, hk, hc⟩ := List.any_eq_true.1 h1
      exact ⟨k, hk, .inl (by simpa using hc)⟩
    · have h3 : ∃ W', chkCall (some W') r = true ∧ ∀ k ∈ W', k ∈ W ∨ k = y.i := by
        cases ht : y.t with
        | true => rw [ht] at h2; exact ⟨y.i :: W, h2, fun k hk => by rcases List.mem_cons.1 hk with rfl | hk; exact .inr rfl; exact .inl hk⟩
        | false => rw [ht] at h2; exact ⟨[y.i], h2, fun k hk => .inr (by simpa using hk)⟩
      obtain ⟨W', hW, hsub⟩ := h3
      obtain ⟨k, hk, hc⟩ := chkCall_spec r W' hW x hx
      refine ⟨k, hk, ?_⟩
      rcases hc with hc | ⟨z, hz, he⟩
      · rcases hsub k hc with h | h
        · exact .inl h
        · exact .inr ⟨y, List.mem_cons_self .., h.symm⟩
      · exact .inr ⟨z, List.mem_cons_of_mem _ hz, he⟩
theorem infoOf_some {ops : Array Oper} {x : Nat × Bool} {o : Oper} (h : ops[x.1]? = some o) : infoOf ops x = ⟨x.1, x.2, (o.after.toList.filter (Region.binds .any)).map (fun e => e.on), o.dst, Oper.looksAt ops o⟩ := by
  unfold infoOf; rw [h]
theorem infoOf_i (ops : Array Oper) (x : Nat × Bool) : (infoOf ops x).i = x.1 := by unfold infoOf; split <;> rfl
theorem infoOf_t (ops : Array Oper) (x : Nat × Bool) : (infoOf ops x).t = x.2 := by unfold infoOf; split <;> rfl
theorem dep_mem {ops : Array Oper} {x : Nat × Bool} {o : Oper} (h : ops[x.1]? = some o) {k : Nat} : k ∈ (infoOf ops x).deps ↔ ∃ e ∈ o.after, Region.binds .any e = true ∧ e.on = k := by
  rw [infoOf_some h]
  simp only [List.mem_map, List.mem_filter, Array.mem_toList_iff]
  constructor
  · rintro ⟨e, ⟨h1, h2⟩, h3⟩; exact ⟨e, h1, h2, h3⟩
  · rintro ⟨e, h1, h2, h3⟩; exact ⟨e, ⟨h1, h2⟩, h3⟩
theorem apartB_spec {ops : Array Oper} {x y : Nat × Bool} {o o' : Oper} (hx : ops[x.1]? = some o) (hy : ops[y.1]? = some o') (h : apartB (infoOf ops x) (infoOf ops y) = true) : Oper.apart ops o o' = true := by
  rw [infoOf_some hx, infoOf_some hy] at h
  exact h
/-- The region's own walk, from any point of the list on. -/
theorem seq_held {P : Program} {ops : Array Oper} {Q : Exit → Act → World → Prop} {S : World → Prop} (hns : Region.noSelect ops = true) :
    ∀ (p : List (Nat × Bool)) (d : List Nat) (c : Option (List Nat)) (L : Array Bool) (a : Act) (w : World),
      chkTake (p.map (infoOf ops)) = true → chkOrder d (p.map (infoOf ops)) = true → chkCall c (p.map (infoOf ops)) = true →
      (∀ k, k < ops.size → k ∈ d ∨ ∃ x ∈ p, x.1 = k) → (∀ x ∈ p, x.1 < ops.size) →
      (∀ k ∈ d, k < ops.size) → L.size = ops.size → (∀ k, k < ops.size → (L.getD k false = true ↔ k ∈ d)) → S w → SeqP P ops Q S p a w → wpAnyH P .any ops Q S p.length L a w
  | [], d, c, L, a, w, _, _, _, hall, _, _, hs, hL, hS, h => by
    refine ⟨?_, h⟩
    rw [List.eq_nil_iff_forall_not_mem]
    intro j hj
    obtain ⟨h1, o, ho, _⟩ := mem_ready.1 hj
    have hjn : j < ops.size := (Array.getElem?_eq_some_iff.1 ho).1
    have h2 : j ∈ d := by
      rcases hall j hjn with h | ⟨x, hx, _⟩
      · exact h
      · cases hx
    have h3 := (hL j hjn).2 h2
    have hl : j < L.size := by omega
    simp [Array.getD, hl] at h1 h3
    rw [h1] at h3; cases h3
  | (i, b) :: p, d, c, L, a, w, ht, ho, hc, hall, hlt, hdl, hs, hL, hS, h => by
    have hi : i < ops.size := hlt (i, b) (List.mem_cons_self ..)
    obtain ⟨oi, hoi⟩ : ∃ o, ops[i]? = some o := ⟨ops[i], Array.getElem?_eq_getElem hi⟩
    simp only [List.map_cons, chkTake, chkOrder, Bool.and_eq_true, infoOf_i, infoOf_t] at ht ho
    obtain ⟨ht1, ht2⟩ := ht
    obtain ⟨⟨ho0, ho1⟩, ho2⟩ := ho
    have hid : i ∉ d := by simpa using ho0
    have hbit : ∀ k, k < ops.size → ((L.setIfInBounds i true).getD k false = true ↔ k ∈ i :: d) := by
      intro k hk
      rw [bit_set (by omega)]
      by_cases e : k = i
      · rw [if_pos e]; simp [e]
      · rw [if_neg e, hL k hk]; simp [e]
    have hunl : ∀ k, k < ops.size → (L.getD k true = false ↔ k ∉ d) := by
      intro k hk
      have := hL k hk
      have hl : k < L.size := by omega
      simp only [Array.getD, hl, dite_true] at this ⊢
      rw [← this, Bool.not_eq_true]
    have hready : i ∈ Region.ready .any ops L := by
      refine mem_ready.2 ⟨(hunl i hi).2 hid, oi, hoi, fun e he hb => ?_⟩
      have hk : e.on ∈ (infoOf ops (i, b)).deps := (dep_mem (x := (i, b)) hoi).2 ⟨e, he, hb, rfl⟩
      have hd : e.on ∈ d := by have := List.all_eq_true.1 ho1 _ hk; simpa using this
      exact (hL _ (hdl _ hd)).2 hd
    have hcall : ∃ c', chkCall c' (p.map (infoOf ops)) = true ∧ (b = false → ∃ W, c' = some W ∧ W = [i]) := by
      cases c with
      | none =>
        simp only [List.map_cons, chkCall, infoOf_i, infoOf_t] at hc
        cases b with
        | true => exact ⟨_, hc, fun e => by cases e⟩
        | false => exact ⟨_, hc, fun _ => ⟨[i], rfl, rfl⟩⟩
      | some W =>
        simp only [List.map_cons, chkCall, infoOf_i, infoOf_t, Bool.and_eq_true] at hc
        cases b with
        | true => exact ⟨_, hc.2, fun e => by cases e⟩
        | false => exact ⟨_, hc.2, fun _ => ⟨[i], rfl, rfl⟩⟩
    obtain ⟨c', hc', hcW⟩ := hcall
    have hall' : ∀ k, k < ops.size → k ∈ i :: d ∨ ∃ x ∈ p, x.1 = k := by
      intro k hk
      rcases hall k hk with h | ⟨x, hx, e⟩
      · exact .inl (List.mem_cons_of_mem _ h)
      · rcases List.mem_cons.1 hx with rfl | hx
        · exact .inl (by rw [← e]; exact List.mem_cons_self ..)
        · exact .inr ⟨x, hx, e⟩
    have hlt' : ∀ x ∈ p, x.1 < ops.size := fun x hx => hlt x (List.mem_cons_of_mem _ hx)
    have IH := fun a' w' (hS' : S w') (h' : SeqP P ops Q S p a' w') => seq_held hns p (i :: d) c' (L.setIfInBounds i true) a' w' ht2 ho2 hc' hall' hlt' (fun k hk => by rcases List.mem_cons.1 hk with rfl | hk; exact hi; exact hdl k hk) (by simpa using hs) hbit hS' h'
    cases b with
    | true =>
      obtain ⟨o, v, ho', hQ, hy, hrest⟩ := h
      rw [hoi] at ho'; cases ho'
      refine wpAnyH_first hoi ?_ hQ _ _ _ _ ?_ hready hy hS (IH _ _ hS hrest)
      · intro j o cs bl hj e
        have := Array.all_eq_true_iff_forall_mem.1 hns o (Array.mem_of_getElem? hj)
        rw [e] at this; cases this
      · intro j oj hj hne hu hno
        have hjn : j < ops.size := (Array.getElem?_eq_some_iff.1 hj).1
        have hjd : j ∉ d := (hunl j hjn).1 hu
        rcases hall j hjn with h | ⟨x, hx, e⟩
        · exact absurd h hjd
        · rcases List.mem_cons.1 hx with rfl | hx
          · exact absurd e.symm hne
          · subst e
            simp only [Bool.not_true, Bool.false_or] at ht1
            have h1 := List.all_eq_true.1 ht1 _ (List.mem_map_of_mem (f := infoOf ops) hx)
            rcases Bool.or_eq_true_iff.1 h1 with h2 | h2
            · exfalso
              have h3 : i ∈ (infoOf ops x).deps := by simpa using h2
              obtain ⟨e, he, hb, hon⟩ := (dep_mem hj).1 h3
              exact hno e he hb hon
            · exact apartB_spec (x := (i, true)) hoi hj h2
    | false =>
      refine ⟨fun e => (by rw [e] at hready; exact (nomatch hready)), fun j hj => ?_⟩
      have hji : j = i := by
        obtain ⟨h1, oj, hoj, hdep⟩ := mem_ready.1 hj
        have hjn : j < ops.size := (Array.getElem?_eq_some_iff.1 hoj).1
        have hjd : j ∉ d := (hunl j hjn).1 h1
        rcases hall j hjn with h | ⟨x, hx, e⟩
        · exact absurd h hjd
        · rcases List.mem_cons.1 hx with rfl | hx
          · exact e.symm
          · exfalso
            subst e
            obtain ⟨W, rfl, rfl⟩ := hcW rfl
            obtain ⟨k, hk, hW⟩ := chkCall_spec _ _ hc' _ (List.mem_map_of_mem (f := infoOf ops) hx)
            obtain ⟨e, he, hb, hon⟩ := (dep_mem hoj).1 hk
            have hlk := hdep e he hb
            rw [hon] at hlk
            have hkn : k < ops.size := by
              rcases hW with hW | ⟨y, hy, ey⟩
              · simp at hW; omega
              · obtain ⟨z, hz, rfl⟩ := List.mem_map.1 hy
                rw [infoOf_i] at ey; rw [← ey]; exact hlt' z hz
            have hkd := (hL k hkn).1 hlk
            have hnot : ∀ (q : List (Nat × Bool)) (d' : List Nat), chkOrder d' (q.map (infoOf ops)) = true → ∀ z ∈ q, z.1 ∉ d' := by
              intro q
              induction q with
              | nil => intro d' _ z hz; cases hz
              | cons y r ih =>
                intro d' h z hz
                simp only [List.map_cons, chkOrder, Bool.and_eq_true, infoOf_i] at h
                rcases List.mem_cons.1 hz with rfl | hz
                · simpa using h.1.1
                · exact fun hm => ih _ h.2 z hz (List.mem_cons_of_mem _ hm)
            rcases hW with hW | ⟨y, hy, ey⟩
            · simp at hW; subst hW; exact hid hkd
            · obtain ⟨z, hz, rfl⟩ := List.mem_map.1 hy
              rw [infoOf_i] at ey; subst ey
              exact hnot p (i :: d) ho2 z hz (List.mem_cons_of_mem _ hkd)
      subst hji
      exact wpOp_mono (fun a' w' h' => ⟨h'.1, IH a' w' h'.1 (h'.2 h'.1)⟩) h
theorem wp_region_seq {P : Program} {ops : Array Oper} {Q : Exit → Act → World → Prop} {id : Nat} {a : Act} {w : World} (S : World → Prop) (p : List (Nat × Bool)) (hm : P.follows .mixedOrders = true)
    (hc : chkAll ops p = true) (hn : p.length = ops.size) (hS : S w.drew) (h : S w.drew → SeqP P ops Q S p a w.drew) : (Code.region id ops true).wp P Q a w := by
  refine wp_region_held_drew (S := S) hm hS (fun hS => ?_)
  unfold chkAll at hc
  simp only [Bool.and_eq_true] at hc
  obtain ⟨⟨⟨⟨⟨h1, h2⟩, h3⟩, h4⟩, h5⟩, h6⟩ := hc
  have := seq_held (P := P) (Q := Q) (S := S) h6 p [] none (Array.replicate ops.size false) a w.drew h1 h2 h3 ?_ ?_ (fun k hk => nomatch hk) (by simp) ?_ hS (h hS)
  · rw [hn] at this; exact this
  · intro k hk
    have := List.all_eq_true.1 h4 k (List.mem_range.2 hk)
    right
    simp only [List.contains_iff_mem, List.mem_map] at this
    obtain ⟨x, hx, e⟩ := this
    exact ⟨x, hx, e⟩
  · intro x hx
    simpa using List.all_eq_true.1 h5 x hx
  · intro k hk
    simp [Array.getD, hk]
section
variable {P : Program} {ops : Array Oper} {Q : Exit → Act → World → Prop} {S : World → Prop} {p : List (Nat × Bool)} {a : Act} {w : World} {i : Nat} {o : Oper}
theorem SeqP.take {v : Value} (ho : ops.toList[i]? = some o) (hQ : ∀ c a w, Q (.panic c) (a.put o.dst v) w → Q (.panic c) a w) (hy : YieldsIf P ops S o v a) (h : SeqP P ops Q S p (a.put o.dst v) w) : SeqP P ops Q S ((i, true) :: p) a w :=
  ⟨o, v, by rw [← Array.getElem?_toList]; exact ho, hQ, hy, h⟩
theorem SeqP.call (ho : ops.toList[i]? = some o) (hw : Region.wanted o (yielded ops a.tmps) = true) (h : ∀ K : Act → World → Prop, Shut (∀ a w, S w → (S w → SeqP P ops Q S p a w) → K a w) → Oper.wp P o a w K Q) : SeqP P ops Q S ((i, false) :: p) a w := by
  show wpOp P ops Q i _ a w
  unfold wpOp
  rw [show ops[i]? = some o by rw [← Array.getElem?_toList]; exact ho]
  simp only [hw, if_true]
  exact .inl (h _ (fun a w hS h => ⟨hS, h⟩))
theorem SeqP.done (h : Q .normal a w) : SeqP P ops Q S [] a w := h
end
end Go.Proofs.YthcmoimlnhghcaaGreatDoor

/- Matrices: one more step, one behind another. -/
set_option linter.unusedVariables false
set_option linter.unusedSimpArgs false
namespace Go.Proofs.YthcmoimlnhghcaaGreatDoor
open Go.RowKit Go.Shelf
attribute [local go_sem] max2_i min2_i max_two min_two

theorem then_c (m0A : Option Addr) (m0c : Nat) (m1A : Option Addr) (m1c : Nat) (m2A : Option Addr) (m2c : Nat) (m3A : Option Addr) (m3c : Nat) (m : Mx) (qA : Option Addr) (qc q : Nat) (w : World) (hm0 : NatV w m0A m0c (mg m.a)) (hm1 : NatV w m1A m1c (mg m.b)) (hm2 : NatV w m2A m2c (mg m.c)) (hm3 : NatV w m3A m3c (mg m.d)) (hq : NatV w qA qc q) (hG : Flds w) (lm : m.sz 16384) (lq : nl q ≤ 16384) :
    Calls Tryz.prog 89 #[.agg #[.bool (sg m.a), .slice m0A (nl (mg m.a)) m0c, .bool (sg m.b), .slice m1A (nl (mg m.b)) m1c, .bool (sg m.c), .slice m2A (nl (mg m.c)) m2c, .bool (sg m.d), .slice m3A (nl (mg m.d)) m3c], .slice qA (nl q) qc] w (RetM w (m.nx q)) := by
  obtain ⟨lm0, lm1, lm2, lm3⟩ := lm
  obtain ⟨hb1, Rm, Rr⟩ := bx2 w #[.bool (sg m.a), .slice m0A (nl (mg m.a)) m0c, .bool (sg m.b), .slice m1A (nl (mg m.b)) m1c, .bool (sg m.c), .slice m2A (nl (mg m.c)) m2c, .bool (sg m.d), .slice m3A (nl (mg m.d)) m3c] 89 #[.bool false, .slice none 0 0, .bool false, .slice none 0 0, .bool false, .slice none 0 0, .bool false, .slice none 0 0] 89
  replace hm0 := hm0.below hb1
  replace hm1 := hm1.below hb1
  replace hm2 := hm2.below hb1
  replace hm3 := hm3.below hb1
  replace hq := hq.below hb1
  replace hG := hG.below hb1
  have HBT := hb1
  clear hb1
  have qm0 := Rm.c (i := 0) rfl
  have qm1 := Rm.c (i := 1) rfl
  have qm2 := Rm.c (i := 2) rfl
  have qm3 := Rm.c (i := 3) rfl
  have qm4 := Rm.c (i := 4) rfl
  have qm5 := Rm.c (i := 5) rfl
  have qm6 := Rm.c (i := 6) rfl
  have qm7 := Rm.c (i := 7) rfl
  have qr0 := Rr.c (i := 0) rfl
  have qr1 := Rr.c (i := 1) rfl
  have qr2 := Rr.c (i := 2) rfl
  have qr3 := Rr.c (i := 3) rfl
  have qr4 := Rr.c (i := 4) rfl
  have qr5 := Rr.c (i := 5) rfl
  have qr6 := Rr.c (i := 6) rfl
  have qr7 := Rr.c (i := 7) rfl
  clear qr0
  clear qr1
  clear qr2
  clear qr3
  clear qr4
  clear qr5
  clear qr6
  clear qr7
  go_enter Tryz.func89, Tryz.ntmps89
  go_wp2_with (fail)
  obtain ⟨k, Ek⟩ : ∃ zq : Int, zq = (q : Int) := ⟨_, rfl⟩
  have Nk : nl (mg k) ≤ 16384 := by rw [Ek, mg_nat]; exact lq
  refine (Calls.mono (R := RetI ((w.alloc (.cells #[.bool (sg m.a), .slice m0A (nl (mg m.a)) m0c, .bool (sg m.b), .slice m1A (nl (mg m.b)) m1c, .bool (sg m.c), .slice m2A (nl (mg m.c)) m2c, .bool (sg m.d), .slice m3A (nl (mg m.d)) m3c] 89)).alloc (.cells #[.bool false, .slice none 0 0, .bool false, .slice none 0 0, .bool false, .slice none 0 0, .bool false, .slice none 0 0] 89)) k) (by rw [Ek]; with_reducible exact (whole_c qA qc q _ hq (by omega))) ?_)
  replace Ek := Lib.hid Ek
  rintro e W2 ⟨Xk, ck, rfl, hk, hb2⟩
  replace hm0 := hm0.below hb2
  replace hm1 := hm1.below hb2
  replace hm2 := hm2.below hb2
  replace hm3 := hm3.below hb2
  replace hq := hq.below hb2
  replace hG := hG.below hb2
  replace Rm := Rm.below hb2
  replace qm0 := cbl hb2 qm0
  replace qm1 := cbl hb2 qm1
  replace qm2 := cbl hb2 qm2
  replace qm3 := cbl hb2 qm3
  replace qm4 := cbl hb2 qm4
  replace qm5 := cbl hb2 qm5
  replace qm6 := cbl hb2 qm6
  replace qm7 := cbl hb2 qm7
  replace Rr := Rr.below hb2
  replace HBT := Below.cons HBT hb2
  clear hb2
  have ltr := Rr.lt
  replace ltr := Lib.hid ltr
  obtain ⟨hb3, Rk⟩ := bx1 W2 #[.bool (sg k), .slice Xk (nl (mg k)) ck] 24
  replace hm0 := hm0.below hb3
  replace hm1 := hm1.below hb3
  replace hm2 := hm2.below hb3
  replace hm3 := hm3.below hb3
  replace hq := hq.below hb3
  replace hG := hG.below hb3
  replace Rm := Rm.below hb3
  replace qm0 := cbl hb3 qm0
  replace qm1 := cbl hb3 qm1
  replace qm2 := cbl hb3 qm2
  replace qm3 := cbl hb3 qm3
  replace qm4 := cbl hb3 qm4
  replace qm5 := cbl hb3 qm5
  replace qm6 := cbl hb3 qm6
  replace qm7 := cbl hb3 qm7
  replace Rr := Rr.below hb3
  replace hk := hk.below hb3
  replace HBT := Below.cons HBT hb3
  clear hb3
  have qk0 := Rk.c (i := 0) rfl
  have qk1 := Rk.c (i := 1) rfl
  go_wp2_with (fail)
  clear qm0
  clear qm1
  clear qm2
  clear qm3
  clear qm4
  clear qm5
  clear qm6
  clear qm7
  clear qk0
  clear qk1
  have hd4 := drb ((W2.alloc (.cells #[.bool (sg k), .slice Xk (nl (mg k)) ck] 24)))
  replace hm0 := hm0.below hd4
  replace hm1 := hm1.below hd4
  replace hm2 := hm2.below hd4
  replace hm3 := hm3.below hd4
  replace hq := hq.below hd4
  replace hG := hG.below hd4
  replace Rm := Rm.below hd4
  replace Rr := Rr.below hd4
  replace hk := hk.below hd4
  replace Rk := Rk.below hd4
  replace HBT := Below.cons HBT hd4
  clear hd4
  obtain ⟨p, Ep⟩ : ∃ zq : Int, zq = k * m.c := ⟨_, rfl⟩
  have Np : nl (mg p) ≤ 32768 := by rw [Ep]; have := nl_imul k m.c; omega
  have C4_0 := fun (W : World) (A : Option Addr) (c : Nat) (B : Option Addr) (d : Nat) (h1 : NatV W A c (mg k)) (h2 : NatV W B d (mg m.c)) (hG : Flds W) => imul_c A c k B d m.c W h1 h2 hG (by omega) (by omega)
  simp only [← Ep] at C4_0
  replace Ep := Lib.hid Ep
  replace C4_0 := Lib.hid C4_0
  obtain ⟨x, Ex⟩ : ∃ zq : Int, zq = m.a - p := ⟨_, rfl⟩
  have C4_1 := fun (W : World) (A : Option Addr) (c : Nat) (B : Option Addr) (d : Nat) (h1 : NatV W A c (mg m.a)) (h2 : NatV W B d (mg p)) => isub_c A c m.a B d p W h1 h2 (by omega) (by omega)
  simp only [← Ex] at C4_1
  replace Ex := Lib.hid Ex
  replace C4_1 := Lib.hid C4_1
  obtain ⟨s, Es⟩ : ∃ zq : Int, zq = k * m.d := ⟨_, rfl⟩
  have Ns : nl (mg s) ≤ 32768 := by rw [Es]; have := nl_imul k m.d; omega
  have C4_2 := fun (W : World) (A : Option Addr) (c : Nat) (B : Option Addr) (d : Nat) (h1 : NatV W A c (mg k)) (h2 : NatV W B d (mg m.d)) (hG : Flds W) => imul_c A c k B d m.d W h1 h2 hG (by omega) (by omega)
  simp only [← Es] at C4_2
  replace Es := Lib.hid Es
  replace C4_2 := Lib.hid C4_2
  obtain ⟨y, Ey⟩ : ∃ zq : Int, zq = m.b - s := ⟨_, rfl⟩
  have C4_3 := fun (W : World) (A : Option Addr) (c : Nat) (B : Option Addr) (d : Nat) (h1 : NatV W A c (mg m.b)) (h2 : NatV W B d (mg s)) => isub_c A c m.b B d s W h1 h2 (by omega) (by omega)
  simp only [← Ey] at C4_3
  replace Ey := Lib.hid Ey
  replace C4_3 := Lib.hid C4_3
  obtain ⟨S, hS⟩ : ∃ S : World → Prop, S = fun W => W.cell? ⟨w.heap.size, 0, none⟩ = some (.bool (sg m.a)) ∧ W.cell? ⟨w.heap.size, 1, none⟩ = some (.slice m0A (nl (mg m.a)) m0c) ∧ W.cell? ⟨w.heap.size, 2, none⟩ = some (.bool (sg m.b)) ∧ W.cell? ⟨w.heap.size, 3, none⟩ = some (.slice m1A (nl (mg m.b)) m1c) ∧ W.cell? ⟨w.heap.size, 4, none⟩ = some (.bool (sg m.c)) ∧ W.cell? ⟨w.heap.size, 5, none⟩ = some (.slice m2A (nl (mg m.c)) m2c) ∧ W.cell? ⟨w.heap.size, 6, none⟩ = some (.bool (sg m.d)) ∧ W.cell? ⟨w.heap.size, 7, none⟩ = some (.slice m3A (nl (mg m.d)) m3c) ∧ W.cell? ⟨W2.heap.size, 0, none⟩ = some (.bool (sg k)) ∧ W.cell? ⟨W2.heap.size, 1, none⟩ = some (.slice Xk (nl (mg k)) ck) := ⟨_, rfl⟩
  have HSq : S ((W2.alloc (.cells #[.bool (sg k), .slice Xk (nl (mg k)) ck] 24))).drew := by rw [hS]; exact ⟨(Rm.c (i := 0) rfl), (Rm.c (i := 1) rfl), (Rm.c (i := 2) rfl), (Rm.c (i := 3) rfl), (Rm.c (i := 4) rfl), (Rm.c (i := 5) rfl), (Rm.c (i := 6) rfl), (Rm.c (i := 7) rfl), (Rk.c (i := 0) rfl), (Rk.c (i := 1) rfl)⟩
  have hSb : ∀ W W' : World, Below W.heap.size W W' → S W → S W' := by rw [hS]; exact fun W W' hb h => ⟨cell_below hb h.1, cell_below hb h.2.1, cell_below hb h.2.2.1, cell_below hb h.2.2.2.1, cell_below hb h.2.2.2.2.1, cell_below hb h.2.2.2.2.2.1, cell_below hb h.2.2.2.2.2.2.1, cell_below hb h.2.2.2.2.2.2.2.1, cell_below hb h.2.2.2.2.2.2.2.2.1, cell_below hb h.2.2.2.2.2.2.2.2.2⟩
  replace hSb := Lib.hid hSb
  replace hS := Lib.hid hS
  refine wp_region_seq S [(0, true), (1, true), (2, true), (3, true), (4, true), (5, true), (6, true), (7, true), (8, true), (11, true), (12, true), (13, true), (14, true), (15, true), (9, false), (10, false), (16, false), (17, false), (18, true), (19, false)] (by kernel_rfl) (by kernel_rfl) (by kernel_rfl) HSq (fun hSq => ?_)
  clear hSq
  replace HSq := Lib.hid HSq
  clear Rm Rk
  refine SeqP.take (v := ?_) rfl (fun _ _ _ h => h) (Or.inl ⟨by rfl, ?_⟩) ?_
  rotate_left 1
  · intro wq hSw; rw [hS.out] at hSw; (try dsimp only at hSw); go_simp; try with_reducible rfl
  try simp only [Act.put, List.setIfInBounds_toArray, List.set_cons_zero, List.set_cons_succ]
  refine SeqP.take (v := ?_) rfl (fun _ _ _ h => h) (Or.inl ⟨by rfl, ?_⟩) ?_
  rotate_left 1
  · intro wq hSw; rw [hS.out] at hSw; (try dsimp only at hSw); go_simp; try with_reducible rfl
  try simp only [Act.put, List.setIfInBounds_toArray, List.set_cons_zero, List.set_cons_succ]
  refine SeqP.take (v := ?_) rfl (fun _ _ _ h => h) (Or.inl ⟨by rfl, ?_⟩) ?_
  rotate_left 1
  · intro wq hSw; rw [hS.out] at hSw; (try dsimp only at hSw); go_simp; try with_reducible rfl
  try simp only [Act.put, List.setIfInBounds_toArray, List.set_cons_zero, List.set_cons_succ]
  refine SeqP.take (v := ?_) rfl (fun _ _ _ h => h) (Or.inl ⟨by rfl, ?_⟩) ?_
  rotate_left 1
  · intro wq hSw; rw [hS.out] at hSw; (try dsimp only at hSw); go_simp; try with_reducible rfl
  try simp only [Act.put, List.setIfInBounds_toArray, List.set_cons_zero, List.set_cons_succ]
  refine SeqP.take (v := ?_) rfl (fun _ _ _ h => h) (Or.inl ⟨by rfl, ?_⟩) ?_
  rotate_left 1
  · intro wq hSw; rw [hS.out] at hSw; (try dsimp only at hSw); go_simp; try with_reducible rfl
  try simp only [Act.put, List.setIfInBounds_toArray, List.set_cons_zero, List.set_cons_succ]
  refine SeqP.take (v := ?_) rfl (fun _ _ _ h => h) (Or.inl ⟨by rfl, ?_⟩) ?_
  rotate_left 1
  · intro wq hSw; rw [hS.out] at hSw; (try dsimp only at hSw); go_simp; try with_reducible rfl
  try simp only [Act.put, List.setIfInBounds_toArray, List.set_cons_zero, List.set_cons_succ]
  refine SeqP.take (v := ?_) rfl (fun _ _ _ h => h) (Or.inl ⟨by rfl, ?_⟩) ?_
  rotate_left 1
  · intro wq hSw; rw [hS.out] at hSw; (try dsimp only at hSw); go_simp; try with_reducible rfl
  try simp only [Act.put, List.setIfInBounds_toArray, List.set_cons_zero, List.set_cons_succ]
  refine SeqP.take (v := ?_) rfl (fun _ _ _ h => h) (Or.inl ⟨by rfl, ?_⟩) ?_
  rotate_left 1
  · intro wq hSw; rw [hS.out] at hSw; (try dsimp only at hSw); go_simp; try with_reducible rfl
  try simp only [Act.put, List.setIfInBounds_toArray, List.set_cons_zero, List.set_cons_succ]
  refine SeqP.take (v := ?_) rfl (fun _ _ _ h => h) (Or.inl ⟨by rfl, ?_⟩) ?_
  rotate_left 1
  · intro wq hSw; rw [hS.out] at hSw; (try dsimp only at hSw); go_simp; try with_reducible rfl
  try simp only [Act.put, List.setIfInBounds_toArray, List.set_cons_zero, List.set_cons_succ]
  refine SeqP.take (v := ?_) rfl (fun _ _ _ h => h) (Or.inl ⟨by rfl, ?_⟩) ?_
  rotate_left 1
  · intro wq hSw; rw [hS.out] at hSw; (try dsimp only at hSw); go_simp; try with_reducible rfl
  try simp only [Act.put, List.setIfInBounds_toArray, List.set_cons_zero, List.set_cons_succ]
  refine SeqP.take (v := ?_) rfl (fun _ _ _ h => h) (Or.inl ⟨by rfl, ?_⟩) ?_
  rotate_left 1
  · intro wq hSw; rw [hS.out] at hSw; (try dsimp only at hSw); go_simp; try with_reducible rfl
  try simp only [Act.put, List.setIfInBounds_toArray, List.set_cons_zero, List.set_cons_succ]
  refine SeqP.take (v := ?_) rfl (fun _ _ _ h => h) (Or.inl ⟨by rfl, ?_⟩) ?_
  rotate_left 1
  · intro wq hSw; rw [hS.out] at hSw; (try dsimp only at hSw); go_simp; try with_reducible rfl
  try simp only [Act.put, List.setIfInBounds_toArray, List.set_cons_zero, List.set_cons_succ]
  refine SeqP.take (v := ?_) rfl (fun _ _ _ h => h) (Or.inl ⟨by rfl, ?_⟩) ?_
  rotate_left 1
  · intro wq hSw; rw [hS.out] at hSw; (try dsimp only at hSw); go_simp; try with_reducible rfl
  try simp only [Act.put, List.setIfInBounds_toArray, List.set_cons_zero, List.set_cons_succ]
  refine SeqP.take (v := ?_) rfl (fun _ _ _ h => h) (Or.inl ⟨by rfl, ?_⟩) ?_
  rotate_left 1
  · intro wq hSw; rw [hS.out] at hSw; (try dsimp only at hSw); go_simp; try with_reducible rfl
  try simp only [Act.put, List.setIfInBounds_toArray, List.set_cons_zero, List.set_cons_succ]
  refine SeqP.call rfl (by rfl) (fun Kq hKq => ?_)
  go_simp
  go_at_call 76
  with_reducible refine (C4_0.out _ _ _ _ _ hk hm2 hG).mono ?_
  rintro e W5 ⟨Xp, cp, rfl, hp, hb5⟩
  replace hm0 := hm0.below hb5
  replace hm1 := hm1.below hb5
  replace hm2 := hm2.below hb5
  replace hm3 := hm3.below hb5
  replace hq := hq.below hb5
  replace hG := hG.below hb5
  replace Rr := Rr.below hb5
  replace hk := hk.below hb5
  replace HBT := Below.cons HBT hb5
  replace HSq := Lib.hid (hSb.out _ _ hb5 HSq.out)
  clear hb5
  refine hKq.out _ _ HSq.out (fun hSq => ?_)
  clear hSq hKq Kq
  try simp only [Act.put, List.setIfInBounds_toArray, List.set_cons_zero, List.set_cons_succ]
  refine SeqP.call rfl (by rfl) (fun Kq hKq => ?_)
  go_simp
  go_at_call 139
  with_reducible refine (C4_1.out _ _ _ _ _ hm0 hp).mono ?_
  rintro e W6 ⟨Xx, cx, rfl, hx, hb6⟩
  replace hm0 := hm0.below hb6
  replace hm1 := hm1.below hb6
  replace hm2 := hm2.below hb6
  replace hm3 := hm3.below hb6
  replace hq := hq.below hb6
  replace hG := hG.below hb6
  replace Rr := Rr.below hb6
  replace hk := hk.below hb6
  replace hp := hp.below hb6
  replace HBT := Below.cons HBT hb6
  replace HSq := Lib.hid (hSb.out _ _ hb6 HSq.out)
  clear hb6
  refine hKq.out _ _ HSq.out (fun hSq => ?_)
  clear hSq hKq Kq
  try simp only [Act.put, List.setIfInBounds_toArray, List.set_cons_zero, List.set_cons_succ]
  refine SeqP.call rfl (by rfl) (fun Kq hKq => ?_)
  go_simp
  go_at_call 76
  with_reducible refine (C4_2.out _ _ _ _ _ hk hm3 hG).mono ?_
  rintro e W7 ⟨Xs, cs, rfl, hs, hb7⟩
  replace hm0 := hm0.below hb7
  replace hm1 := hm1.below hb7
  replace hm2 := hm2.below hb7
  replace hm3 := hm3.below hb7
  replace hq := hq.below hb7
  replace hG := hG.below hb7
  replace Rr := Rr.below hb7
  replace hk := hk.below hb7
  replace hp := hp.below hb7
  replace hx := hx.below hb7
  replace HBT := Below.cons HBT hb7
  replace HSq := Lib.hid (hSb.out _ _ hb7 HSq.out)
  clear hb7
  refine hKq.out _ _ HSq.out (fun hSq => ?_)
  clear hSq hKq Kq
  try simp only [Act.put, List.setIfInBounds_toArray, List.set_cons_zero, List.set_cons_succ]
  refine SeqP.call rfl (by rfl) (fun Kq hKq => ?_)
  go_simp
  go_at_call 139
  with_reducible refine (C4_3.out _ _ _ _ _ hm1 hs).mono ?_
  rintro e W8 ⟨Xy, cy, rfl, hy, hb8⟩
  replace hm0 := hm0.below hb8
  replace hm1 := hm1.below hb8
  replace hm2 := hm2.below hb8
  replace hm3 := hm3.below hb8
  replace hq := hq.below hb8
  replace hG := hG.below hb8
  replace Rr := Rr.below hb8
  replace hk := hk.below hb8
  replace hp := hp.below hb8
  replace hx := hx.below hb8
  replace hs := hs.below hb8
  replace HBT := Below.cons HBT hb8
  replace HSq := Lib.hid (hSb.out _ _ hb8 HSq.out)
  clear hb8
  refine hKq.out _ _ HSq.out (fun hSq => ?_)
  clear hSq hKq Kq
  try simp only [Act.put, List.setIfInBounds_toArray, List.set_cons_zero, List.set_cons_succ]
  refine SeqP.take (v := ?_) rfl (fun _ _ _ h => h) (Or.inl ⟨by rfl, ?_⟩) ?_
  rotate_left 1
  · intro wq hSw; rw [hS.out] at hSw; (try dsimp only at hSw); go_simp; try with_reducible rfl
  try simp only [Act.put, List.setIfInBounds_toArray, List.set_cons_zero, List.set_cons_succ]
  have HSx := HSq.out
  rw [hS.out] at HSx
  obtain ⟨zx0, zx1, zx2, zx3, zx4, zx5, zx6, zx7, zx8, zx9⟩ := HSx
  have fz0 := Rr.f (i := 0)
  have cz_0 := Rr.c (i := 0) rfl
  have fz1 := Rr.f (i := 1)
  have cz_1 := Rr.c (i := 1) rfl
  have fz2 := Rr.f (i := 2)
  have cz_2 := Rr.c (i := 2) rfl
  have fz3 := Rr.f (i := 3)
  have cz_3 := Rr.c (i := 3) rfl
  have fz4 := Rr.f (i := 4)
  have cz_4 := Rr.c (i := 4) rfl
  have fz5 := Rr.f (i := 5)
  have cz_5 := Rr.c (i := 5) rfl
  have fz6 := Rr.f (i := 6)
  have cz_6 := Rr.c (i := 6) rfl
  have fz7 := Rr.f (i := 7)
  have cz_7 := Rr.c (i := 7) rfl
  refine SeqP.call rfl (by rfl) (fun Kq hKq => ?_)
  go_simp
  refine hKq.out _ _ (by rw [hS.out]; exact ⟨cell_other8 zx0 (by omega), cell_other8 zx1 (by omega), cell_other8 zx2 (by omega), cell_other8 zx3 (by omega), cell_other8 zx4 (by omega), cell_other8 zx5 (by omega), cell_other8 zx6 (by omega), cell_other8 zx7 (by omega), cell_other8 zx8 (Nat.ne_of_gt ltr.out), cell_other8 zx9 (Nat.ne_of_gt ltr.out)⟩) (fun hSq => ?_)
  clear hSq hKq Kq
  clear zx0 zx1 zx2 zx3 zx4 zx5 zx6 zx7 zx8 zx9
  try simp only [Act.put, List.setIfInBounds_toArray, List.set_cons_zero, List.set_cons_succ]
  refine SeqP.done ?_
  clear hSb
  clear HSq
  all_goals (try go_wp2_with (fail))
  have hzx : x = (m.nx q).c := by rw [Ex.out, Ep.out, Ek.out]; rfl
  subst hzx
  have hzy : y = (m.nx q).d := by rw [Ey.out, Es.out, Ek.out]; rfl
  subst hzy
  have RS := Rr.store8 (.bool (sg m.c)) (.slice m2A (nl (mg m.c)) m2c) (.bool (sg m.d)) (.slice m3A (nl (mg m.d)) m3c) (.bool (sg (((m.nx q).c)))) (.slice Xx (nl (mg (((m.nx q).c)))) cx) (.bool (sg (((m.nx q).d)))) (.slice Xy (nl (mg (((m.nx q).d)))) cy)
  have e0 := RS.c (i := 0) rfl
  have e1 := RS.c (i := 1) rfl
  have e2 := RS.c (i := 2) rfl
  have e3 := RS.c (i := 3) rfl
  have e4 := RS.c (i := 4) rfl
  have e5 := RS.c (i := 5) rfl
  have e6 := RS.c (i := 6) rfl
  have e7 := RS.c (i := 7) rfl
  refine bodyPost_ret (v := .agg #[.bool (sg m.c), .slice m2A (nl (mg m.c)) m2c, .bool (sg m.d), .slice m3A (nl (mg m.d)) m3c, .bool (sg (((m.nx q).c))), .slice Xx (nl (mg (((m.nx q).c)))) cx, .bool (sg (((m.nx q).d))), .slice Xy (nl (mg (((m.nx q).d)))) cy]) (by simp [results, Tryz.results89, go_sem, e0, e1, e2, e3, e4, e5, e6, e7]) rfl ?_
  exact ⟨m2A, m2c, m3A, m3c, Xx, cx, Xy, cy, rfl, Rr.keep8 (lista8 _ rfl) hm2, Rr.keep8 (lista8 _ rfl) hm3, Rr.keep8 (lista8 _ rfl) hx, Rr.keep8 (lista8 _ rfl) hy, Below.store8 HBT (by first | exact Nat.le_refl _ | omega)⟩
theorem after1_c (xA : Option Addr) (xc : Nat) (x : Int) (yA : Option Addr) (yc : Nat) (y : Int) (zA : Option Addr) (zc : Nat) (z : Int) (uA : Option Addr) (uc : Nat) (u : Int) (w : World) (hx : NatV w xA xc (mg x)) (hy : NatV w yA yc (mg y)) (hz : NatV w zA zc (mg z)) (hu : NatV w uA uc (mg u)) (hG : Flds w) (lx : nl (mg x) ≤ 16384) (ly : nl (mg y) ≤ 16384) (lz : nl (mg z) ≤ 16384) (lu : nl (mg u) ≤ 16384) :
    Calls Tryz.prog 162 #[.agg #[.bool (sg x), .slice xA (nl (mg x)) xc], .agg #[.bool (sg y), .slice yA (nl (mg y)) yc], .agg #[.bool (sg z), .slice zA (nl (mg z)) zc], .agg #[.bool (sg u), .slice uA (nl (mg u)) uc]] w (RetI w (x * y + z * u)) := by
  obtain ⟨hb1, Rx, Ry, Rz, Ru, Rr⟩ := bx5 w #[.bool (sg x), .slice xA (nl (mg x)) xc] 24 #[.bool (sg y), .slice yA (nl (mg y)) yc] 24 #[.bool (sg z), .slice zA (nl (mg z)) zc] 24 #[.bool (sg u), .slice uA (nl (mg u)) uc] 24 #[.bool false, .slice none 0 0] 24
  replace hx := hx.below hb1
  replace hy := hy.below hb1
  replace hz := hz.below hb1
  replace hu := hu.below hb1
  replace hG := hG.below hb1
  have HBT := hb1
  clear hb1
  have qx0 := Rx.c (i := 0) rfl
  have qx1 := Rx.c (i := 1) rfl
  have qy0 := Ry.c (i := 0) rfl
  have qy1 := Ry.c (i := 1) rfl
  have qz0 := Rz.c (i := 0) rfl
  have qz1 := Rz.c (i := 1) rfl
  have qu0 := Ru.c (i := 0) rfl
  have qu1 := Ru.c (i := 1) rfl
  have qr0 := Rr.c (i := 0) rfl
  have qr1 := Rr.c (i := 1) rfl
  go_enter Tryz.func162, Tryz.ntmps162
  go_wp2_with (fail)
  have hd2 := drb ((((((w.alloc (.cells #[.bool (sg x), .slice xA (nl (mg x)) xc] 24)).alloc (.cells #[.bool (sg y), .slice yA (nl (mg y)) yc] 24)).alloc (.cells #[.bool (sg z), .slice zA (nl (mg z)) zc] 24)).alloc (.cells #[.bool (sg u), .slice uA (nl (mg u)) uc] 24)).alloc (.cells #[.bool false, .slice none 0 0] 24)))
  replace hx := hx.below hd2
  replace hy := hy.below hd2
  replace hz := hz.below hd2
  replace hu := hu.below hd2
  replace hG := hG.below hd2
  replace Rx := Rx.below hd2
  replace qx0 := cbl hd2 qx0
  replace qx1 := cbl hd2 qx1
  replace Ry := Ry.below hd2
  replace qy0 := cbl hd2 qy0
  replace qy1 := cbl hd2 qy1
  replace Rz := Rz.below hd2
  replace qz0 := cbl hd2 qz0
  replace qz1 := cbl hd2 qz1
  replace Ru := Ru.below hd2
  replace qu0 := cbl hd2 qu0
  replace qu1 := cbl hd2 qu1
  replace Rr := Rr.below hd2
  replace qr0 := cbl hd2 qr0
  replace qr1 := cbl hd2 qr1
  replace HBT := Below.cons HBT hd2
  clear hd2
  obtain ⟨p, Ep⟩ : ∃ zq : Int, zq = x * y := ⟨_, rfl⟩
  have Np : nl (mg p) ≤ 32768 := by rw [Ep]; have := nl_imul x y; omega
  have C2_0 := fun (W : World) (A : Option Addr) (c : Nat) (B : Option Addr) (d : Nat) (h1 : NatV W A c (mg x)) (h2 : NatV W B d (mg y)) (hG : Flds W) => imul_c A c x B d y W h1 h2 hG (by omega) (by omega)
  simp only [← Ep] at C2_0
  replace Ep := Lib.hid Ep
  replace C2_0 := Lib.hid C2_0
  obtain ⟨s, Es⟩ : ∃ zq : Int, zq = z * u := ⟨_, rfl⟩
  have Ns : nl (mg s) ≤ 32768 := by rw [Es]; have := nl_imul z u; omega
  have C2_1 := fun (W : World) (A : Option Addr) (c : Nat) (B : Option Addr) (d : Nat) (h1 : NatV W A c (mg z)) (h2 : NatV W B d (mg u)) (hG : Flds W) => imul_c A c z B d u W h1 h2 hG (by omega) (by omega)
  simp only [← Es] at C2_1
  replace Es := Lib.hid Es
  replace C2_1 := Lib.hid C2_1
  obtain ⟨v, Ev⟩ : ∃ zq : Int, zq = p + s := ⟨_, rfl⟩
  have C2_2 := fun (W : World) (A : Option Addr) (c : Nat) (B : Option Addr) (d : Nat) (h1 : NatV W A c (mg p)) (h2 : NatV W B d (mg s)) => iadd_c A c p B d s W h1 h2 (by omega) (by omega)
  simp only [← Ev] at C2_2
  replace Ev := Lib.hid Ev
  replace C2_2 := Lib.hid C2_2
  go_region_held3 (fun W => W.cell? ⟨w.heap.size, 0, none⟩ = some (.bool (sg x)) ∧ W.cell? ⟨w.heap.size, 1, none⟩ = some (.slice xA (nl (mg x)) xc) ∧ W.cell? ⟨(w.heap.size + 1), 0, none⟩ = some (.bool (sg y)) ∧ W.cell? ⟨(w.heap.size + 1), 1, none⟩ = some (.slice yA (nl (mg y)) yc) ∧ W.cell? ⟨(w.heap.size + 1 + 1), 0, none⟩ = some (.bool (sg z)) ∧ W.cell? ⟨(w.heap.size + 1 + 1), 1, none⟩ = some (.slice zA (nl (mg z)) zc) ∧ W.cell? ⟨(w.heap.size + 1 + 1 + 1), 0, none⟩ = some (.bool (sg u)) ∧ W.cell? ⟨(w.heap.size + 1 + 1 + 1), 1, none⟩ = some (.slice uA (nl (mg u)) uc))
    (first
      | exact ⟨qx0, qx1, qy0, qy1, qz0, qz1, qu0, qu1⟩
      | exact ⟨qx0_3, qx1_3, qy0_3, qy1_3, qz0_3, qz1_3, qu0_3, qu1_3⟩
      | exact ⟨qx0_4, qx1_4, qy0_4, qy1_4, qz0_4, qz1_4, qu0_4, qu1_4⟩
      | exact ⟨qx0_5, qx1_5, qy0_5, qy1_5, qz0_5, qz1_5, qu0_5, qu1_5⟩
      | exact ⟨((Rx_5.other2 (by simp <;> omega)).c (i := 0) rfl), ((Rx_5.other2 (by simp <;> omega)).c (i := 1) rfl), ((Ry_5.other2 (by simp <;> omega)).c (i := 0) rfl), ((Ry_5.other2 (by simp <;> omega)).c (i := 1) rfl), ((Rz_5.other2 (by simp <;> omega)).c (i := 0) rfl), ((Rz_5.other2 (by simp <;> omega)).c (i := 1) rfl), ((Ru_5.other2 (by simp <;> omega)).c (i := 0) rfl), ((Ru_5.other2 (by simp <;> omega)).c (i := 1) rfl)⟩
      | go_keep)
    (first
      | (go_at_call 76; (with_reducible refine (C2_0.out _ _ _ _ _ hx hy hG).mono ?_); rintro e W3 ⟨Xp, cp, rfl, hp, hb3⟩; have hx_3 := hx.below hb3; have hy_3 := hy.below hb3; have hz_3 := hz.below hb3; have hu_3 := hu.below hb3; have hG_3 := hG.below hb3; have Rx_3 := Rx.below hb3; have qx0_3 := cbl hb3 qx0; have qx1_3 := cbl hb3 qx1; have Ry_3 := Ry.below hb3; have qy0_3 := cbl hb3 qy0; have qy1_3 := cbl hb3 qy1; have Rz_3 := Rz.below hb3; have qz0_3 := cbl hb3 qz0; have qz1_3 := cbl hb3 qz1; have Ru_3 := Ru.below hb3; have qu0_3 := cbl hb3 qu0; have qu1_3 := cbl hb3 qu1; have Rr_3 := Rr.below hb3; have qr0_3 := cbl hb3 qr0; have qr1_3 := cbl hb3 qr1; have HBT_3 := Below.cons HBT hb3)
      | (go_at_call 76; (with_reducible refine (C2_1.out _ _ _ _ _ hz_3 hu_3 hG_3).mono ?_); rintro e W4 ⟨Xs, cs, rfl, hs, hb4⟩; have hx_4 := hx_3.below hb4; have hy_4 := hy_3.below hb4; have hz_4 := hz_3.below hb4; have hu_4 := hu_3.below hb4; have hG_4 := hG_3.below hb4; have Rx_4 := Rx_3.below hb4; have qx0_4 := cbl hb4 qx0_3; have qx1_4 := cbl hb4 qx1_3; have Ry_4 := Ry_3.below hb4; have qy0_4 := cbl hb4 qy0_3; have qy1_4 := cbl hb4 qy1_3; have Rz_4 := Rz_3.below hb4; have qz0_4 := cbl hb4 qz0_3; have qz1_4 := cbl hb4 qz1_3; have Ru_4 := Ru_3.below hb4; have qu0_4 := cbl hb4 qu0_3; have qu1_4 := cbl hb4 qu1_3; have Rr_4 := Rr_3.below hb4; have qr0_4 := cbl hb4 qr0_3; have qr1_4 := cbl hb4 qr1_3; have hp_4 := hp.below hb4; have HBT_4 := Below.cons HBT_3 hb4)
      | (go_at_call 72; (with_reducible refine (C2_2.out _ _ _ _ _ hp_4 hs).mono ?_); rintro e W5 ⟨Xv, cv, rfl, hv, hb5⟩; have hx_5 := hx_4.below hb5; have hy_5 := hy_4.below hb5; have hz_5 := hz_4.below hb5; have hu_5 := hu_4.below hb5; have hG_5 := hG_4.below hb5; have Rx_5 := Rx_4.below hb5; have qx0_5 := cbl hb5 qx0_4; have qx1_5 := cbl hb5 qx1_4; have Ry_5 := Ry_4.below hb5; have qy0_5 := cbl hb5 qy0_4; have qy1_5 := cbl hb5 qy1_4; have Rz_5 := Rz_4.below hb5; have qz0_5 := cbl hb5 qz0_4; have qz1_5 := cbl hb5 qz1_4; have Ru_5 := Ru_4.below hb5; have qu0_5 := cbl hb5 qu0_4; have qu1_5 := cbl hb5 qu1_4; have Rr_5 := Rr_4.below hb5; have qr0_5 := cbl hb5 qr0_4; have qr1_5 := cbl hb5 qr1_4; have hp_5 := hp_4.below hb5; have hs_5 := hs.below hb5; have HBT_5 := Below.cons HBT_4 hb5; have fz0 := Rr_5.f (i := 0); have fz1 := Rr_5.f (i := 1)))
  all_goals (try go_wp2_with (fail))
  have hzv : v = x * y + z * u := by rw [Ev.out, Ep.out, Es.out]
  subst hzv
  have RS := Rr_5.store2 (.bool (sg ((x * y + z * u)))) (.slice Xv (nl (mg ((x * y + z * u)))) cv)
  have e0 := RS.c (i := 0) rfl
  have e1 := RS.c (i := 1) rfl
  refine bodyPost_ret (v := .agg #[.bool (sg ((x * y + z * u))), .slice Xv (nl (mg ((x * y + z * u)))) cv]) (by simp [results, Tryz.results162, go_sem, e0, e1]) rfl ?_
  exact ⟨Xv, cv, rfl, (Rr_5.keep2 (nuB rfl) hv), (Below.store2 HBT_5 (by first | exact Nat.le_refl _ | omega))⟩
end Go.Proofs.YthcmoimlnhghcaaGreatDoor

/- Variables that hold matrices, in ranges over Euclid's pairs. -/
set_option linter.unusedVariables false
set_option linter.unusedSimpArgs false
namespace Go.Proofs.YthcmoimlnhghcaaGreatDoor
open Go.RowKit Go.Shelf
attribute [local go_sem] max2_i min2_i max_two min_two

attribute [local go_sem] Oper.semAt_some
/-- A variable that holds a matrix. -/
def MxB (W : World) (k : Nat) (m : Mx) : Prop := ∃ (A : Option Addr) (a : Nat) (B : Option Addr) (b : Nat) (C : Option Addr) (c : Nat) (D : Option Addr) (d : Nat),
  BoxA W k 89 #[.bool (sg m.a), .slice A (nl (mg m.a)) a, .bool (sg m.b), .slice B (nl (mg m.b)) b, .bool (sg m.c), .slice C (nl (mg m.c)) c, .bool (sg m.d), .slice D (nl (mg m.d)) d] ∧ NatV W A a (mg m.a) ∧ NatV W B b (mg m.b) ∧ NatV W C c (mg m.c) ∧ NatV W D d (mg m.d)
theorem MxB.below {W W' : World} {k : Nat} {m : Mx} (h : MxB W k m) (hb : Below W.heap.size W W') : MxB W' k m := by
  obtain ⟨A, a, B, b, C, c, D, d, h0, h1, h2, h3, h4⟩ := h
  exact ⟨A, a, B, b, C, c, D, d, h0.below hb, h1.below hb, h2.below hb, h3.below hb, h4.below hb⟩
theorem BoxA.kept {W W' : World} {k : Nat} {t : TypeId} {us : Array Value} {row : Option Nat} (h : BoxA W k t us) (hg : W.grownBy W' row) (hr : ∀ r, row = some r → ∃ o : Obj, W.heap[r]? = some o ∧ o.isCells = false) : BoxA W' k t us :=
  ⟨(hg.block k h.lt (fun e => by obtain ⟨o, ho, hc⟩ := hr k e.symm; rw [h.at_] at ho; cases ho; cases hc)).trans h.at_⟩
theorem MxB.kept {W W' : World} {k : Nat} {m : Mx} {row : Option Nat} (h : MxB W k m) (hg : W.grownBy W' row) (hr : ∀ r, row = some r → ∃ o : Obj, W.heap[r]? = some o ∧ o.isCells = false) : MxB W' k m := by
  obtain ⟨A, a, B, b, C, c, D, d, h0, h1, h2, h3, h4⟩ := h
  exact ⟨A, a, B, b, C, c, D, d, h0.kept hg hr, h1.kept hg hr, h2.kept hg hr, h3.kept hg hr, h4.kept hg hr⟩
theorem BoxA.far8 {W : World} {j k : Nat} {t : TypeId} {us : Array Value} {v0 v1 v2 v3 v4 v5 v6 v7 : Value} (h : BoxA W j t us) (hne : j ≠ k) : BoxA (((((((((W.setCell ⟨k, 0, none⟩ v0).setCell ⟨k, 1, none⟩ v1).setCell ⟨k, 2, none⟩ v2).setCell ⟨k, 3, none⟩ v3).setCell ⟨k, 4, none⟩ v4).setCell ⟨k, 5, none⟩ v5).setCell ⟨k, 6, none⟩ v6).setCell ⟨k, 7, none⟩ v7)) j t us := ⟨(set8_far j hne).trans h.at_⟩
theorem kpu_below {Ba Bb : Nat} {W W' : World} (hb : Below W.heap.size W W') : KpU Ba Bb W W' := ⟨fun p x e => cell_below hb e, fun o _ e => heap_below hb e, fun o _ e => heap_below hb e⟩
theorem ko_below {W W' : World} (hb : Below W.heap.size W W') : KeepsOthers W W' := ⟨hb.size, fun k o hk _ => heap_below hb hk⟩
theorem kpu_far {Ba Bb : Nat} {W W' : World} {k : Nat} {t : TypeId} {us : Array Value} (h : BoxA W k t us) (hu : ∀ u ∈ us.toList, NotU u) (hW : ∀ j, j ≠ k → W'.heap[j]? = W.heap[j]?) (ha : Ba ≠ k) (hb : Bb ≠ k) : KpU Ba Bb W W' := by
  refine ⟨fun p x e => ?_, fun o _ e => (hW _ ha).trans e, fun o _ e => (hW _ hb).trans e⟩
  have hne : p.block ≠ k := fun e2 => by
    unfold World.cell? at e
    rw [e2, h.at_] at e
    simp only at e
    split at e
    · cases e
    · have hm := Array.mem_of_getElem? e
      exact hu _ (Array.mem_def.1 hm) x rfl
  rw [World.cell?_of_block (w := W) (a := p) (hW _ hne)]
  exact e
theorem ko_far {W W' : World} {k : Nat} {t : TypeId} {us : Array Value} (h : BoxA W k t us) (hs : W'.heap.size = W.heap.size) (hW : ∀ j, j ≠ k → W'.heap[j]? = W.heap[j]?) : KeepsOthers W W' := by
  refine ⟨by omega, fun j o hj ho => ?_⟩
  by_cases e : j = k
  · subst e; rw [h.at_] at hj; cases hj; cases ho
  · exact (hW j e).trans hj
theorem size8 {W : World} {k : Nat} {v0 v1 v2 v3 v4 v5 v6 v7 : Value} : (((((((((W.setCell ⟨k, 0, none⟩ v0).setCell ⟨k, 1, none⟩ v1).setCell ⟨k, 2, none⟩ v2).setCell ⟨k, 3, none⟩ v3).setCell ⟨k, 4, none⟩ v4).setCell ⟨k, 5, none⟩ v5).setCell ⟨k, 6, none⟩ v6).setCell ⟨k, 7, none⟩ v7)).heap.size = W.heap.size := by simp [World.setCell]
theorem MxB.far {W : World} {j k : Nat} {m : Mx} {t : TypeId} {us : Array Value} {v0 v1 v2 v3 v4 v5 v6 v7 : Value} (h : MxB W j m) (hk : BoxA W k t us) (hu : ∀ u ∈ us.toList, NotU u) (hne : j ≠ k) : MxB (((((((((W.setCell ⟨k, 0, none⟩ v0).setCell ⟨k, 1, none⟩ v1).setCell ⟨k, 2, none⟩ v2).setCell ⟨k, 3, none⟩ v3).setCell ⟨k, 4, none⟩ v4).setCell ⟨k, 5, none⟩ v5).setCell ⟨k, 6, none⟩ v6).setCell ⟨k, 7, none⟩ v7)) j m := by
  obtain ⟨A, a, B, b, C, c, D, d, h0, h1, h2, h3, h4⟩ := h
  have hW : ∀ j, j ≠ k → (((((((((W.setCell ⟨k, 0, none⟩ v0).setCell ⟨k, 1, none⟩ v1).setCell ⟨k, 2, none⟩ v2).setCell ⟨k, 3, none⟩ v3).setCell ⟨k, 4, none⟩ v4).setCell ⟨k, 5, none⟩ v5).setCell ⟨k, 6, none⟩ v6).setCell ⟨k, 7, none⟩ v7)).heap[j]? = W.heap[j]? := fun j hj => set8_far j hj
  exact ⟨A, a, B, b, C, c, D, d, h0.far8 hne, hk.keep hu hW h1, hk.keep hu hW h2, hk.keep hu hW h3, hk.keep hu hW h4⟩
theorem NatV.mvu {Ba Bb : Nat} {W W' : World} {A : Option Addr} {c n : Nat} (h : NatV W A c n) (hk : MvU Ba Bb W W') : NatV W' A c n :=
  NatV.kpu (Ba := W.heap.size) (Bb := W.heap.size) h ⟨hk.u, fun o _ e => by simp at e, fun o _ e => by simp at e⟩
theorem MxB.mvu {Ba Bb k : Nat} {W W' : World} {m : Mx} (h : MxB W k m) (hk : MvU Ba Bb W W') (ha : k ≠ Ba) (hb : k ≠ Bb) : MxB W' k m := by
  obtain ⟨A, a, B, b, C, c, D, d, h0, h1, h2, h3, h4⟩ := h
  exact ⟨A, a, B, b, C, c, D, d, ⟨(hk.block k h0.lt ha hb).trans h0.at_⟩, h1.mvu hk, h2.mvu hk, h3.mvu hk, h4.mvu hk⟩
theorem BoxA.mvu {Ba Bb k : Nat} {W W' : World} {t : TypeId} {us : Array Value} (h : BoxA W k t us) (hk : MvU Ba Bb W W') (ha : k ≠ Ba) (hb : k ≠ Bb) : BoxA W' k t us := ⟨(hk.block k h.lt ha hb).trans h.at_⟩
theorem Below.st8 {s : Nat} {w W : World} {k : Nat} {v0 v1 v2 v3 v4 v5 v6 v7 : Value} (h : Below s w W) (hk : s ≤ k) : Below s w (((((((((W.setCell ⟨k, 0, none⟩ v0).setCell ⟨k, 1, none⟩ v1).setCell ⟨k, 2, none⟩ v2).setCell ⟨k, 3, none⟩ v3).setCell ⟨k, 4, none⟩ v4).setCell ⟨k, 5, none⟩ v5).setCell ⟨k, 6, none⟩ v6).setCell ⟨k, 7, none⟩ v7)) := ((((((((h.setCell (p := ⟨k, 0, none⟩) hk _).setCell (p := ⟨k, 1, none⟩) hk _).setCell (p := ⟨k, 2, none⟩) hk _).setCell (p := ⟨k, 3, none⟩) hk _).setCell (p := ⟨k, 4, none⟩) hk _).setCell (p := ⟨k, 5, none⟩) hk _).setCell (p := ⟨k, 6, none⟩) hk _).setCell (p := ⟨k, 7, none⟩) hk _)
theorem euc_le (a b : Nat) : ∀ k, (euc a b k).1 ≤ max a b ∧ (euc a b k).2 ≤ max a b
  | 0 => by simp only [euc]; omega
  | k + 1 => by
    obtain ⟨h1, h2⟩ := euc_le a b k
    simp only [euc]
    exact ⟨h2, Nat.le_trans (Nat.mod_le _ _) h1⟩
theorem euc_nl {a b L : Nat} (ha : nl a ≤ L) (hb : nl b ≤ L) (k : Nat) : nl (euc a b k).1 ≤ L ∧ nl (euc a b k).2 ≤ L := by
  obtain ⟨h1, h2⟩ := euc_le a b k
  have h3 := nl_max ha hb
  exact ⟨Nat.le_trans (nl_mono h1) h3, Nat.le_trans (nl_mono h2) h3⟩
theorem own_mxb (k : Nat) (f : List It → Mx) (n : Nat) : OwnFrom n (fun xs W => MxB W k (f xs)) := fun s W W' row hs hg hr => hs.kept hg (fun r e => (hr r e).2)
theorem own_boxA (k : Nat) (t : TypeId) (us : List It → Array Value) (n : Nat) : OwnFrom n (fun xs W => BoxA W k t (us xs)) := fun s W W' row hs hg hr => hs.kept hg (fun r e => (hr r e).2)
theorem own_pure (p : List It → Prop) (n : Nat) : OwnFrom n (fun xs W => p xs) := fun s W W' row hs _ _ => hs
theorem own_size (k n : Nat) : OwnFrom n (fun (_ : List It) W => k ≤ W.heap.size) := fun s W W' row hs hg _ => Nat.le_trans hs hg.size
theorem few_c (A : Option Addr) (c a : Nat) (B : Option Addr) (d b : Nat) (w : World) (hA : NatV w A c a) (hB : NatV w B d b) (hG : Flds w) (la : nl a ≤ 8192) (lb : nl b ≤ 8192) :
    Calls Tryz.prog 142 #[.slice A (nl a) c, .slice B (nl b) d] w fun e w' => ∃ m : Mx, m.U ∧ m.sz (max 1 (max (nl a) (nl b))) ∧ RetM w m e w' := by
  refine (callsIn_wide (n := 4)).1 ?_
  obtain ⟨n, En⟩ : ∃ n, n = nl a / 2 := ⟨_, rfl⟩
  have In : (nl a : Int) / 2 = (n : Int) := by omega
  have Jn : (nl a : Int).tdiv 2 = (n : Int) := by rw [Int.tdiv_eq_ediv_of_nonneg (by omega)]; exact In
  have Wn : IntKind.i64.wrap (n : Int) = (n : Int) := IntWalk.i64_in _ (by omega)
  have hnl : n ≤ 8192 := by omega
  refine callsIn_of_wp_marks Tryz.func142 rfl trivial ?_ rfl
  simp only [Tryz.ntmps142, List.size_toArray, List.length_cons, List.length_nil, Nat.reduceAdd, Nat.reduceSub, Array.replicate_succ, Array.replicate_zero, List.push_toArray, List.append_toArray, List.nil_append, List.cons_append]
  replace En := Lib.hid En
  gi_wp2_with (fail)
  refine ⟨trivial, ?_⟩
  refine (callsIn_wide.2 (unit_c _)).mono ?_
  rintro e w1 ⟨A0, a0, B0, b0, C0, c0, D0, d0, rfl, m0, m1, m2, m3, hb1⟩
  gi_wp2_with (fail)
  refine ⟨trivial, ?_⟩
  refine (callsIn_wide.2 (rests_c A (nl a) c B (nl b) d _)).mono ?_
  rintro e w' ⟨rfl, rfl⟩
  gi_wp2_with (fail)
  obtain ⟨p, hp0⟩ : ∃ p, p = w1.heap.size := ⟨_, rfl⟩
  obtain ⟨s, hs0⟩ : ∃ s, s = w.heap.size := ⟨_, rfl⟩
  have hsz1 := hb1.size
  have hsp : s + 1 ≤ p := by rw [hs0, hp0]; simpa using hsz1
  have hb01 : Below w.heap.size w w1 := Below.cons ((Below.refl _ _).alloc (Nat.le_refl _) _) hb1
  have bR1 : BoxA w1 s 89 #[.bool false, .slice none 0 0, .bool false, .slice none 0 0, .bool false, .slice none 0 0, .bool false, .slice none 0 0] := by rw [hs0]; exact BoxA.below ⟨at_new rfl⟩ hb1
  obtain ⟨W8, hW8⟩ : ∃ W8, ((((w1.alloc (.cells #[.bool (sg Mx.one.a), .slice A0 (nl (mg Mx.one.a)) a0, .bool (sg Mx.one.b), .slice B0 (nl (mg Mx.one.b)) b0, .bool (sg Mx.one.c), .slice C0 (nl (mg Mx.one.c)) c0, .bool (sg Mx.one.d), .slice D0 (nl (mg Mx.one.d)) d0] 89)).alloc (.cells #[.int .i64 (n : Int)] 3)).alloc (.cells #[.slice A (nl a) c] 22)).alloc (.cells #[.slice B (nl b) d] 22)) = W8 := ⟨_, rfl⟩
  have bM : BoxA W8 p 89 #[.bool (sg Mx.one.a), .slice A0 (nl (mg Mx.one.a)) a0, .bool (sg Mx.one.b), .slice B0 (nl (mg Mx.one.b)) b0, .bool (sg Mx.one.c), .slice C0 (nl (mg Mx.one.c)) c0, .bool (sg Mx.one.d), .slice D0 (nl (mg Mx.one.d)) d0] := by
    subst hp0 hW8; refine ⟨?_⟩; repeat (first | exact at_new (by simp) | refine at_old (by simp <;> omega) ?_)
  have bN : BoxA W8 (p + 1) 3 #[.int .i64 (n : Int)] := by
    subst hp0 hW8; refine ⟨?_⟩; repeat (first | exact at_new (by simp) | refine at_old (by simp <;> omega) ?_)
  have bA : Boxed W8 (p + 2) 22 (.slice A (nl a) c) := by
    subst hp0 hW8; unfold Boxed; repeat (first | exact at_new (by simp) | refine at_old (by simp <;> omega) ?_)
  have bB : Boxed W8 (p + 3) 22 (.slice B (nl b) d) := by
    subst hp0 hW8; unfold Boxed; repeat (first | exact at_new (by simp) | refine at_old (by simp <;> omega) ?_)
  have hsz : W8.heap.size = p + 4 := by subst hp0 hW8; simp
  have hB18 : Below w1.heap.size w1 W8 := by
    subst hW8
    exact (((((Below.refl _ w1).alloc (Nat.le_refl _) _).alloc (by simp) _).alloc (by simp; omega) _).alloc (by simp; omega) _)
  have hB08 := hb01.cons hB18
  have hB0 : Below s w W8 := hB08.mono (Nat.le_of_eq hs0)
  have bR := bR1.below hB18
  have hA8 := hA.below hB08
  have hB8 := hB.below hB08
  have M0 := m0.below hB18
  have M1 := m1.below hB18
  have M2 := m2.below hB18
  have M3 := m3.below hB18
  have hG8 := hG.below hB08
  have hsw : ∀ W, Below s w W → Flds W := fun W h => hG.below (h.mono (Nat.le_of_eq hs0.symm))
  rw [← hs0, ← hp0]
  simp only [Nat.add_assoc, Nat.reduceAdd]
  rw [hW8]
  clear hW8 hG8 m0 m1 m2 m3 bR1 hB18 hB08 hb01
  have HS := Lib.hid hs0
  have HP := Lib.hid hp0
  clear hs0 hp0 hsz1 hb1
  replace hsw := Lib.hid hsw
  refine wpIn_rangeX (w0 := W8) rfl (by omega) (gf := 133) (lb := #[.pointer (some ⟨p + 2, 0, none⟩), .pointer (some ⟨p + 3, 0, none⟩)]) rfl trivial (enters_of Tryz.func133 (by kernel_rfl) rfl)
    (rests_seq A c a B d b (p + 2) (p + 3) (by omega) W8 (by omega) (by omega) bA bB hA8 hB8) (fun X Y h k h1 h2 => h.block k h2 (by omega) (by omega))
    KpU.t (fun W l o o' h1 h2 h3 h4 => KpU.bk W l o o' h1 h2 h3 h4) (Below.refl _ _) (fun _ => rfl) (own_euH a b _) (own_euS a b _) (own_euP a b _)
    (fun pre W => MxB W p (eum a b pre.length) ∧ BoxA W (p + 1) 3 #[.int .i64 (n : Int)] ∧ BoxA W s 89 #[.bool false, .slice none 0 0, .bool false, .slice none 0 0, .bool false, .slice none 0 0, .bool false, .slice none 0 0] ∧ (∀ i, i < pre.length → n + 1 < nl (euc a b i).2) ∧ Below s w W ∧ p + 4 ≤ W.heap.size)
    (fun c pre W => c = .ret ∧ (∃ k, (∀ i, i < k → (euc a b i).2 ≠ 0) ∧ MxB W s (eum a b k)) ∧ Below s w W ∧ p + 4 ≤ W.heap.size)
    ?own ?ownx ?mv ?start
    (fun x => { tmps := #[.slice A (nl a) c, .slice B (nl b) d, undef, undef, .pointer (some ⟨s, 0, none⟩), .pointer (some ⟨p, 0, none⟩), .pointer (some ⟨p + 1, 0, none⟩), .slice x.A (nl x.a) x.c, .slice x.B (nl x.b) x.d, undef, undef, undef,
      .agg #[.bool (sg Mx.one.a), .slice A0 (nl (mg Mx.one.a)) a0, .bool (sg Mx.one.b), .slice B0 (nl (mg Mx.one.b)) b0, .bool (sg Mx.one.c), .slice C0 (nl (mg Mx.one.c)) c0, .bool (sg Mx.one.d), .slice D0 (nl (mg Mx.one.d)) d0], .slice A (nl a) c, .int .i64 (nl a : Nat), .int .i64 (n : Int), .slice A (nl a) c, .slice B (nl b) d,
      .func (.func 133) #[] #[.pointer (some ⟨p + 2, 0, none⟩), .pointer (some ⟨p + 3, 0, none⟩)], .slice x.A (nl x.a) x.c, .slice x.B (nl x.b) x.d, undef, undef, undef, undef, undef, undef, undef, undef, undef, undef, undef, undef, undef, undef, undef, undef, undef], defers := [] }) ?assign ?body ?done ?stop
  case own =>
    refine OwnFrom.and (own_mxb p (fun xs => eum a b xs.length) _) (OwnFrom.and (own_boxA (p + 1) _ (fun _ => _) _) (OwnFrom.and (own_boxA s _ (fun _ => _) _) (OwnFrom.and (own_pure _ _) (OwnFrom.and (ownFrom_below (Nat.le_of_eq HS.out) (by omega)) (own_size _ _)))))
  case ownx =>
    rintro c xs W W' row ⟨h1, ⟨k, h2, h3⟩, h4, h5⟩ hg hr
    exact ⟨h1, ⟨k, h2, h3.kept hg (fun r e => (hr r e).2)⟩, ownFrom_below (β := List It) (Nat.le_of_eq HS.out) (by omega) xs W W' row h4 hg hr, Nat.le_trans h5 hg.size⟩
  case mv =>
    rintro x Y Z ⟨h1, h2, h3, h4, h5, h6⟩ hm
    exact ⟨h1.mvu hm (by omega) (by omega), h2.mvu hm (by omega) (by omega), h3.mvu hm (by omega) (by omega), h4, mvu_below h5 hm (by omega) (by omega) (by omega), Nat.le_trans h6 hm.size⟩
  case start => exact ⟨⟨A0, a0, B0, b0, C0, c0, D0, d0, bM, M0, M1, M2, M3⟩, bN, bR, fun i hi => by simp at hi, hB0, by omega⟩
  case assign =>
    intro l x W K hK
    simp only [It.enc]
    gi_wp2
    exact hK
  case done =>
    rintro D ys W hD ⟨pre, x, rfl, hE, hx0⟩ ⟨_, _, _, h4, _, _⟩ hK
    exfalso
    have h1 := h4 pre.length (by simp)
    rw [← hE.2.1] at h1
    simp only [hx0, nl_zero] at h1
    omega
  case stop =>
    rintro D cc pre W hD hP ⟨rfl, ⟨k, hk, hm⟩, hB, hs6⟩ hK
    obtain ⟨X0, x0, X1, x1, X2, x2, X3, x3, hbox, n0, n1, n2, n3⟩ := hm
    gi_wp2_with (fail)
    have hg := grownBy_putObj' W D (.deferred none)
    have hr : ∀ r, some D = some r → ∃ o : Obj, W.heap[r]? = some o ∧ o.isCells = false := fun r e => by cases e; exact ⟨_, hK, rfl⟩
    have hbox' := hbox.kept hg hr
    have N0 := n0.kept hg hr
    have N1 := n1.kept hg hr
    have N2 := n2.kept hg hr
    have N3 := n3.kept hg hr
    have e0 := hbox'.c (i := 0) rfl
    have e1 := hbox'.c (i := 1) rfl
    have e2 := hbox'.c (i := 2) rfl
    have e3 := hbox'.c (i := 3) rfl
    have e4 := hbox'.c (i := 4) rfl
    have e5 := hbox'.c (i := 5) rfl
    have e6 := hbox'.c (i := 6) rfl
    have e7 := hbox'.c (i := 7) rfl
    have hp : Below s w (W.putObj D (.deferred none)) := hB.trans (belowK_b (w := W8) (by omega) W D _ _ hD hK rfl rfl)
    refine ⟨by simp, .inl ⟨_, _, rfl, run_takeDeferred hK, ?_⟩⟩
    refine ⟨.agg #[.bool (sg (eum a b k).a), .slice X0 (nl (mg (eum a b k).a)) x0, .bool (sg (eum a b k).b), .slice X1 (nl (mg (eum a b k).b)) x1, .bool (sg (eum a b k).c), .slice X2 (nl (mg (eum a b k).c)) x2, .bool (sg (eum a b k).d), .slice X3 (nl (mg (eum a b k).d)) x3], by simp [results, Tryz.results142, go_sem, e0, e1, e2, e3, e4, e5, e6, e7], ?_⟩
    exact ⟨eum a b k, eum_U a b k, eum_sz (by omega) (by omega) (by omega) k hk, X0, x0, X1, x1, X2, x2, X3, x3, rfl, N0, N1, N2, N3, hp.mono (Nat.le_of_eq HS.out.symm)⟩
  case body =>
    rintro l pre ⟨XA, xc, xa, YA, yd, yb⟩ W ⟨hM, hN, hR, hlen, hB, hs6⟩ hE
    obtain ⟨⟨hX, hY⟩, hxy, hnz⟩ := hE
    simp only at hX hY hxy
    obtain ⟨X0, x0, X1, x1, X2, x2, X3, x3, hbox, N0, N1, N2, N3⟩ := hM
    have hL := euc_nl la lb pre.length
    rw [← hxy] at hL
    simp only at hL
    have hyb : yb = (euc a b pre.length).2 := by rw [← hxy]
    have hxa : xa = (euc a b pre.length).1 := by rw [← hxy]
    replace hxy := Lib.hid hxy
    obtain ⟨n1, En1⟩ : ∃ z : Int, z = (n : Int) + 1 := ⟨_, rfl⟩
    have In1 : (n : Int) + 1 = n1 := En1.symm
    have Wn1 : IntKind.i64.wrap n1 = n1 := IntWalk.i64_in _ (by omega)
    have qn := hN.c (i := 0) rfl
    have q0 := hbox.c (i := 0) rfl
    have q1 := hbox.c (i := 1) rfl
    have q2 := hbox.c (i := 2) rfl
    have q3 := hbox.c (i := 3) rfl
    have q4 := hbox.c (i := 4) rfl
    have q5 := hbox.c (i := 5) rfl
    have q6 := hbox.c (i := 6) rfl
    have q7 := hbox.c (i := 7) rfl
    by_cases hy : nl yb ≤ n + 1
    · have t1 : decide ((nl yb : Int) ≤ n1) = true := by simp; omega
      replace En1 := Lib.hid En1
      replace hyb := Lib.hid hyb
      replace hxa := Lib.hid hxa
      replace hy := Lib.hid hy
      have fz0 := hR.f (i := 0)
      have cz_0 := hR.c (i := 0) rfl
      have fz1 := hR.f (i := 1)
      have cz_1 := hR.c (i := 1) rfl
      have fz2 := hR.f (i := 2)
      have cz_2 := hR.c (i := 2) rfl
      have fz3 := hR.f (i := 3)
      have cz_3 := hR.c (i := 3) rfl
      have fz4 := hR.f (i := 4)
      have cz_4 := hR.c (i := 4) rfl
      have fz5 := hR.f (i := 5)
      have cz_5 := hR.c (i := 5) rfl
      have fz6 := hR.f (i := 6)
      have cz_6 := hR.c (i := 6) rfl
      have fz7 := hR.f (i := 7)
      have cz_7 := hR.c (i := 7) rfl
      gi_wp2_with (fail)
      exact ⟨ko_far hR size8 (fun j hj => set8_far j hj), kpu_far hR (lista8 _ rfl) (fun j hj => set8_far j hj) (by omega) (by omega), rfl, ⟨pre.length, hnz, X0, x0, X1, x1, X2, x2, X3, x3, hR.store8 _ _ _ _ _ _ _ _, hR.keep8 (lista8 _ rfl) N0, hR.keep8 (lista8 _ rfl) N1, hR.keep8 (lista8 _ rfl) N2, hR.keep8 (lista8 _ rfl) N3⟩, Below.st8 hB (Nat.le_refl _), by rw [size8]; exact hs6⟩
    · have t1 : decide ((nl yb : Int) ≤ n1) = false := by simp; omega
      have hy0 : 0 < yb := by rcases Nat.eq_zero_or_pos yb with z | z; (rw [z, nl_zero] at hy; omega); exact z
      have hy1 : n + 1 < nl yb := by omega
      replace En1 := Lib.hid En1
      replace hyb := Lib.hid hyb
      replace hxa := Lib.hid hxa
      clear hy
      have CD := ddivmod_c XA xc xa YA yd yb W hX hY (by omega) (by omega) hy0
      obtain ⟨q, Eq⟩ : ∃ z, z = xa / yb := ⟨_, rfl⟩
      rw [← Eq] at CD
      have hq : nl q ≤ 8192 := by rw [Eq]; exact Nat.le_trans (nl_div _ _) hL.1
      obtain ⟨m, Em⟩ : ∃ z, z = eum a b pre.length := ⟨_, rfl⟩
      rw [← Em] at hbox N0 N1 N2 N3 q0 q1 q2 q3 q4 q5 q6 q7
      have hms : m.sz 16384 := by rw [Em]; exact (eum_sz (L := 8192) la lb (by decide) _ hnz).mono (by decide)
      have hnx : eum a b (pre.length + 1) = m.nx q := by rw [Em, Eq, hxa.out, hyb.out]; rfl
      replace Eq := Lib.hid Eq
      replace Em := Lib.hid Em
      replace hnx := Lib.hid hnx
      replace CD := Lib.hid CD
      gi_wp2_with (fail)
      refine ⟨trivial, ?_⟩
      refine (callsIn_wide.2 CD.out).mono ?_
      rintro e W2 ⟨Q, cq, R, cr, rfl, hQ, hRr, hb2⟩
      have hbox2 := hbox.below hb2
      have K0 := N0.below hb2
      have K1 := N1.below hb2
      have K2 := N2.below hb2
      have K3 := N3.below hb2
      have hB2 : Below s w W2 := hB.trans (hb2.mono (by omega))
      have q0 := hbox2.c (i := 0) rfl
      have q1 := hbox2.c (i := 1) rfl
      have q2 := hbox2.c (i := 2) rfl
      have q3 := hbox2.c (i := 3) rfl
      have q4 := hbox2.c (i := 4) rfl
      have q5 := hbox2.c (i := 5) rfl
      have q6 := hbox2.c (i := 6) rfl
      have q7 := hbox2.c (i := 7) rfl
      have CT := then_c X0 x0 X1 x1 X2 x2 X3 x3 m Q cq q W2 K0 K1 K2 K3 hQ (hsw.out _ hB2) hms (by omega)
      replace CT := Lib.hid CT
      gi_wp2_with (fail)
      refine ⟨trivial, ?_⟩
      refine (callsIn_wide.2 CT.out).mono ?_
      rintro e W3 ⟨Y0, y0, Y1, y1, Y2, y2, Y3, y3, rfl, V0, V1, V2, V3, hb3⟩
      have hbox3 := hbox2.below hb3
      have fz0 := hbox3.f (i := 0)
      have cz_0 := hbox3.c (i := 0) rfl
      have fz1 := hbox3.f (i := 1)
      have cz_1 := hbox3.c (i := 1) rfl
      have fz2 := hbox3.f (i := 2)
      have cz_2 := hbox3.c (i := 2) rfl
      have fz3 := hbox3.f (i := 3)
      have cz_3 := hbox3.c (i := 3) rfl
      have fz4 := hbox3.f (i := 4)
      have cz_4 := hbox3.c (i := 4) rfl
      have fz5 := hbox3.f (i := 5)
      have cz_5 := hbox3.c (i := 5) rfl
      have fz6 := hbox3.f (i := 6)
      have cz_6 := hbox3.c (i := 6) rfl
      have fz7 := hbox3.f (i := 7)
      have cz_7 := hbox3.c (i := 7) rfl
      gi_wp2_with (fail)
      have hlen2 : ∀ i, i < (pre ++ [(⟨XA, xc, xa, YA, yd, yb⟩ : It)]).length → n + 1 < nl (euc a b i).2 := by
        intro i hi
        simp only [List.length_append, List.length_cons, List.length_nil] at hi
        by_cases e : i = pre.length
        · rw [e, ← hyb.out]; exact hy1
        · exact hlen i (by omega)
      have hN3 : BoxA W3 (p + 1) 3 #[.int .i64 (n : Int)] := (hN.below hb2).below hb3
      have hR3 := (hR.below hb2).below hb3
      refine ⟨(ko_below hb2).trans ((ko_below hb3).trans (ko_far hbox3 size8 (fun j hj => set8_far j hj))), (kpu_below hb2).t ((kpu_below hb3).t (kpu_far hbox3 (lista8 _ rfl) (fun j hj => set8_far j hj) (by omega) (by omega))), ?_, hN3.far8 (by omega), hR3.far8 (by omega), hlen2, Below.st8 (hB2.trans (hb3.mono (by have := hb2.size; omega))) (by omega), by rw [size8]; exact Nat.le_trans hs6 (Nat.le_trans hb2.size hb3.size)⟩
      rw [List.length_append, List.length_cons, List.length_nil, hnx.out]
      exact ⟨Y0, y0, Y1, y1, Y2, y2, Y3, y3, hbox3.store8 _ _ _ _ _ _ _ _, hbox3.keep8 (lista8 _ rfl) V0, hbox3.keep8 (lista8 _ rfl) V1, hbox3.keep8 (lista8 _ rfl) V2, hbox3.keep8 (lista8 _ rfl) V3⟩
end Go.Proofs.YthcmoimlnhghcaaGreatDoor

/- The greatest common divisor with cofactors. -/
set_option linter.unusedVariables false
set_option linter.unusedSimpArgs false
namespace Go.Proofs.YthcmoimlnhghcaaGreatDoor
open Go.RowKit Go.Shelf
attribute [local go_sem] max2_i min2_i max_two min_two

attribute [local go_sem] Oper.semAt_some
/-- What a call leaves that tells a divisor with cofactors. -/
def RetExt (w : World) (g : Nat) (u v : Int) (e : Ending) (w' : World) : Prop := ∃ (X : Option Addr) (c : Nat) (Y : Option Addr) (d : Nat) (Z : Option Addr) (f : Nat),
  e = .returned (.tuple #[.slice X (nl g) c, .agg #[.bool (sg u), .slice Y (nl (mg u)) d], .agg #[.bool (sg v), .slice Z (nl (mg v)) f]]) ∧ NatV w' X c g ∧ NatV w' Y d (mg u) ∧ NatV w' Z f (mg v) ∧ Below w.heap.size w w'
/-- What the variable holds: the natural itself, or the last one that was handed on. -/
def outw (A : Option Addr) (n c : Nat) (pre : List It) : Value := match pre.getLast? with
  | none => .slice A n c
  | some x => .slice x.A (nl x.a) x.c
theorem outw_snoc (A : Option Addr) (n c : Nat) (pre : List It) (x : It) : outw A n c (pre ++ [x]) = .slice x.A (nl x.a) x.c := by simp [outw]
theorem outw_notU (A : Option Addr) (n c : Nat) (pre : List It) : NotU (outw A n c pre) := by
  unfold outw; split <;> exact notU_slice _ _ _
theorem size2 {W : World} {k : Nat} {v0 v1 : Value} : ((W.setCell ⟨k, 0, none⟩ v0).setCell ⟨k, 1, none⟩ v1).heap.size = W.heap.size := by simp [World.setCell]
theorem Below.st2 {s : Nat} {w W : World} {k : Nat} {v0 v1 : Value} (h : Below s w W) (hk : s ≤ k) : Below s w ((W.setCell ⟨k, 0, none⟩ v0).setCell ⟨k, 1, none⟩ v1) := ((h.setCell (p := ⟨k, 0, none⟩) hk _).setCell (p := ⟨k, 1, none⟩) hk _)
theorem BoxA.set1 {W : World} {k : Nat} {t : TypeId} {u v : Value} (h : BoxA W k t #[u]) : BoxA (W.setCell ⟨k, 0, none⟩ v) k t #[v] := ⟨by have := heap_setCell_same W k 0 _ _ v h.at_; simpa using this⟩
theorem size1 {W : World} {k : Nat} {v : Value} : (W.setCell ⟨k, 0, none⟩ v).heap.size = W.heap.size := by simp [World.setCell]
theorem nu1 {u : Value} (h : NotU u) : ∀ v ∈ (#[u] : Array Value).toList, NotU v := by intro v hv; simp at hv; subst hv; exact h
theorem nu2 {u v : Value} (h : NotU u) (k : NotU v) : ∀ x ∈ (#[u, v] : Array Value).toList, NotU x := by intro x hx; simp at hx; rcases hx with rfl | rfl; exact h; exact k
/-- What stays as it is while the results are written. -/
structure ExG (w : World) (s p D : Nat) (CM : Array Value) (O : Value) (g : Nat) (m : Mx) (X0 : Option Addr) (x0 : Nat) (X1 : Option Addr) (x1 : Nat) (G : Option Addr) (gc : Nat) (W : World) : Prop where
  bm : BoxA W p 89 CM
  bo : BoxA W (p + 1) 22 #[O]
  n0 : NatV W X0 x0 (mg m.a)
  n1 : NatV W X1 x1 (mg m.b)
  ng : NatV W G gc g
  b : Below s w W
  z : p + 4 ≤ W.heap.size
  d : W.heap[D]? = some (.deferred (some []))
theorem ExG.drew {w W : World} {s p D : Nat} {CM : Array Value} {O : Value} {g : Nat} {m : Mx} {X0 X1 G : Option Addr} {x0 x1 gc : Nat} (h : ExG w s p D CM O g m X0 x0 X1 x1 G gc W) : ExG w s p D CM O g m X0 x0 X1 x1 G gc W.drew := by
  have hb : Below W.heap.size W W.drew := (Below.refl _ _).drew
  exact ⟨h.bm.below hb, h.bo.below hb, h.n0.below hb, h.n1.below hb, h.ng.below hb, h.b.drew, h.z, h.d⟩
theorem ExG.put {w W : World} {s p D k : Nat} {CM : Array Value} {O : Value} {g : Nat} {m : Mx} {X0 X1 G : Option Addr} {x0 x1 gc : Nat} (h : ExG w s p D CM O g m X0 x0 X1 x1 G gc W) {t : TypeId} {u0 u1 v0 v1 : Value} (hk : BoxA W k t #[u0, u1]) (h0 : NotU u0) (h1 : NotU u1) (ks : s ≤ k) (kp : k < p) (hD : p ≤ D) :
    ExG w s p D CM O g m X0 x0 X1 x1 G gc ((W.setCell ⟨k, 0, none⟩ v0).setCell ⟨k, 1, none⟩ v1) :=
  ⟨h.bm.other2 (by omega), h.bo.other2 (by omega), hk.keep2 (nu2 h0 h1) h.n0, hk.keep2 (nu2 h0 h1) h.n1, hk.keep2 (nu2 h0 h1) h.ng, Below.st2 h.b ks, by rw [size2]; exact h.z, (set2_far D (by omega)).trans h.d⟩
theorem ext_c (A : Option Addr) (c a : Nat) (B : Option Addr) (d b : Nat) (w : World) (hA : NatV w A c a) (hB : NatV w B d b) (hG : Flds w) (la : nl a ≤ 8192) (lb : nl b ≤ 8192) :
    Calls Tryz.prog 34 #[.slice A (nl a) c, .slice B (nl b) d] w (RetExt w (Nat.gcd a b) (exu a b) (exv a b)) := by
  refine (callsIn_wide (n := 4)).1 ?_
  refine callsIn_of_wp_marks Tryz.func34 rfl trivial ?_ rfl
  simp only [Tryz.ntmps34, List.size_toArray, List.length_cons, List.length_nil, Nat.reduceAdd, Nat.reduceSub, Array.replicate_succ, Array.replicate_zero, List.push_toArray, List.append_toArray, List.nil_append, List.cons_append]
  gi_wp2_with (fail)
  refine ⟨trivial, ?_⟩
  refine (callsIn_wide.2 (unit_c _)).mono ?_
  rintro e w1 ⟨A0, a0, B0, b0, C0, c0, D0, d0, rfl, m0, m1, m2, m3, hb1⟩
  gi_wp2_with (fail)
  refine ⟨trivial, ?_⟩
  refine (callsIn_wide.2 (rests_c A (nl a) c B (nl b) d _)).mono ?_
  rintro e w' ⟨rfl, rfl⟩
  gi_wp2_with (fail)
  obtain ⟨p, hp0⟩ : ∃ p, p = w1.heap.size := ⟨_, rfl⟩
  obtain ⟨s, hs0⟩ : ∃ s, s = w.heap.size := ⟨_, rfl⟩
  have hsz1 := hb1.size
  have hsp : s + 2 ≤ p := by rw [hs0, hp0]; simp at hsz1; omega
  have hb00 : Below w.heap.size w ((w.alloc (.cells #[.bool false, .slice none 0 0] 24)).alloc (.cells #[.bool false, .slice none 0 0] 24)) := (((Below.refl _ _).alloc (Nat.le_refl _) _).alloc (by simp) _)
  have hb01 : Below w.heap.size w w1 := Below.cons hb00 hb1
  have bR1 : BoxA w1 s 24 #[.bool false, .slice none 0 0] := by rw [hs0]; exact BoxA.below (W := ((w.alloc (.cells #[.bool false, .slice none 0 0] 24)).alloc (.cells #[.bool false, .slice none 0 0] 24))) ⟨at_old (by simp) (at_new rfl)⟩ hb1
  have bV1 : BoxA w1 (s + 1) 24 #[.bool false, .slice none 0 0] := by rw [hs0]; exact BoxA.below (W := ((w.alloc (.cells #[.bool false, .slice none 0 0] 24)).alloc (.cells #[.bool false, .slice none 0 0] 24))) ⟨at_new (by simp)⟩ hb1
  obtain ⟨W8, hW8⟩ : ∃ W8, ((((w1.alloc (.cells #[.bool (sg Mx.one.a), .slice A0 (nl (mg Mx.one.a)) a0, .bool (sg Mx.one.b), .slice B0 (nl (mg Mx.one.b)) b0, .bool (sg Mx.one.c), .slice C0 (nl (mg Mx.one.c)) c0, .bool (sg Mx.one.d), .slice D0 (nl (mg Mx.one.d)) d0] 89)).alloc (.cells #[.slice A (nl a) c] 22)).alloc (.cells #[.slice A (nl a) c] 22)).alloc (.cells #[.slice B (nl b) d] 22)) = W8 := ⟨_, rfl⟩
  have bM : BoxA W8 p 89 #[.bool (sg Mx.one.a), .slice A0 (nl (mg Mx.one.a)) a0, .bool (sg Mx.one.b), .slice B0 (nl (mg Mx.one.b)) b0, .bool (sg Mx.one.c), .slice C0 (nl (mg Mx.one.c)) c0, .bool (sg Mx.one.d), .slice D0 (nl (mg Mx.one.d)) d0] := by
    subst hp0 hW8; refine ⟨?_⟩; repeat (first | exact at_new (by first | (simp; done) | (simp; omega)) | refine at_old (by simp <;> omega) ?_)
  have bN : BoxA W8 (p + 1) 22 #[.slice A (nl a) c] := by
    subst hp0 hW8; refine ⟨?_⟩; repeat (first | exact at_new (by first | (simp; done) | (simp; omega)) | refine at_old (by simp <;> omega) ?_)
  have bA : Boxed W8 (p + 2) 22 (.slice A (nl a) c) := by
    subst hp0 hW8; unfold Boxed; repeat (first | exact at_new (by first | (simp; done) | (simp; omega)) | refine at_old (by simp <;> omega) ?_)
  have bB : Boxed W8 (p + 3) 22 (.slice B (nl b) d) := by
    subst hp0 hW8; unfold Boxed; repeat (first | exact at_new (by first | (simp; done) | (simp; omega)) | refine at_old (by simp <;> omega) ?_)
  have hsz : W8.heap.size = p + 4 := by subst hp0 hW8; simp
  have hB18 : Below w1.heap.size w1 W8 := by
    subst hW8
    exact (((((Below.refl _ w1).alloc (Nat.le_refl _) _).alloc (by simp) _).alloc (by simp; omega) _).alloc (by simp; omega) _)
  have hB08 := hb01.cons hB18
  have hB0 : Below s w W8 := hB08.mono (Nat.le_of_eq hs0)
  have bR := bR1.below hB18
  have bV := bV1.below hB18
  have hA8 := hA.below hB08
  have hB8 := hB.below hB08
  have M0 := m0.below hB18
  have M1 := m1.below hB18
  have M2 := m2.below hB18
  have M3 := m3.below hB18
  have hG8 := hG.below hB08
  have hsw : ∀ W, Below s w W → Flds W := fun W h => hG.below (h.mono (Nat.le_of_eq hs0.symm))
  rw [← hs0, ← hp0]
  simp only [Nat.add_assoc, Nat.reduceAdd]
  rw [hW8]
  clear hW8 hG8 m0 m1 m2 m3 bR1 bV1 hB18 hB08 hb01
  have HS := Lib.hid hs0
  have HP := Lib.hid hp0
  clear hs0 hp0 hsz1 hb1 hb00
  replace hsw := Lib.hid hsw
  refine wpIn_rangeX (w0 := W8) rfl (by omega) (gf := 133) (lb := #[.pointer (some ⟨p + 2, 0, none⟩), .pointer (some ⟨p + 3, 0, none⟩)]) rfl trivial (enters_of Tryz.func133 (by kernel_rfl) rfl)
    (rests_seq A c a B d b (p + 2) (p + 3) (by omega) W8 (by omega) (by omega) bA bB hA8 hB8) (fun X Y h k h1 h2 => h.block k h2 (by omega) (by omega))
    KpU.t (fun W l o o' h1 h2 h3 h4 => KpU.bk W l o o' h1 h2 h3 h4) (Below.refl _ _) (fun _ => rfl) (own_euH a b _) (own_euS a b _) (own_euP a b _)
    (fun pre W => (∃ k, MxB W p (eum a b k) ∧ ((k = pre.length ∧ ∀ i, i < k → (euc a b i).2 ≠ 0) ∨ (k + 1 = pre.length ∧ (euc a b k).2 = 0))) ∧ BoxA W (p + 1) 22 #[outw A (nl a) c pre] ∧ BoxA W s 24 #[.bool false, .slice none 0 0] ∧ BoxA W (s + 1) 24 #[.bool false, .slice none 0 0] ∧ Below s w W ∧ p + 4 ≤ W.heap.size)
    (fun c pre W => False)
    ?own ?ownx ?mv ?start
    (fun x => { tmps := #[.slice A (nl a) c, .slice B (nl b) d, undef, undef, .slice none 0 0, .pointer (some ⟨s, 0, none⟩), .pointer (some ⟨s + 1, 0, none⟩), .pointer (some ⟨p, 0, none⟩), .pointer (some ⟨p + 1, 0, none⟩), .slice x.A (nl x.a) x.c, .slice x.B (nl x.b) x.d, undef, undef, undef, .agg #[.bool (sg Mx.one.a), .slice A0 (nl (mg Mx.one.a)) a0, .bool (sg Mx.one.b), .slice B0 (nl (mg Mx.one.b)) b0, .bool (sg Mx.one.c), .slice C0 (nl (mg Mx.one.c)) c0, .bool (sg Mx.one.d), .slice D0 (nl (mg Mx.one.d)) d0], .slice A (nl a) c, .slice A (nl a) c, .slice B (nl b) d, .func (.func 133) #[] #[.pointer (some ⟨p + 2, 0, none⟩), .pointer (some ⟨p + 3, 0, none⟩)], .slice x.A (nl x.a) x.c, .slice x.B (nl x.b) x.d, undef, undef, undef, undef, undef, undef, undef, undef, undef, undef, undef, undef, undef, undef, undef, undef, undef, undef, undef], defers := [] }) ?assign ?body ?done ?stop
  case own =>
    refine OwnFrom.and ?_ (OwnFrom.and (own_boxA (p + 1) _ (fun xs => #[outw A (nl a) c xs]) _) (OwnFrom.and (own_boxA s _ (fun _ => _) _) (OwnFrom.and (own_boxA (s + 1) _ (fun _ => _) _) (OwnFrom.and (ownFrom_below (Nat.le_of_eq HS.out) (by omega)) (own_size _ _)))))
    rintro xs W W' row ⟨k, h1, h2⟩ hg hr
    exact ⟨k, h1.kept hg (fun r e => (hr r e).2), h2⟩
  case ownx => rintro c xs W W' row h hg hr; exact h.elim
  case mv =>
    rintro x Y Z ⟨⟨k, h1, h2⟩, h3, h4, h5, h6, h7⟩ hm
    exact ⟨⟨k, h1.mvu hm (by omega) (by omega), h2⟩, h3.mvu hm (by omega) (by omega), h4.mvu hm (by omega) (by omega), h5.mvu hm (by omega) (by omega), mvu_below h6 hm (by omega) (by omega) (by omega), Nat.le_trans h7 hm.size⟩
  case start => exact ⟨⟨0, ⟨A0, a0, B0, b0, C0, c0, D0, d0, bM, M0, M1, M2, M3⟩, .inl ⟨rfl, fun i hi => by omega⟩⟩, bN, bR, bV, hB0, by omega⟩
  case assign =>
    intro l x W K hK
    simp only [It.enc]
    gi_wp2
    exact hK
  case stop =>
    rintro D cc pre W hD hP h hK
    exact h.elim
  case done =>
    rintro D ys W hD ⟨pre, x, rfl, hE, hx0⟩ ⟨⟨k, hM, hk⟩, hO, hR, hV, hB, hs6⟩ hK
    have hxb : (euc a b pre.length).2 = 0 := by rw [← hE.2.1]; exact hx0
    have hkn : k = eun a b := by
      rcases hk with ⟨rfl, h⟩ | ⟨h1, h2⟩
      · exact absurd hxb (h pre.length (by simp))
      · have : k = pre.length := by simpa using h1
        subst this
        exact eun_eq hxb hE.2.2
    have hpn : pre.length = eun a b := eun_eq hxb hE.2.2
    have hxg : x.a = Nat.gcd a b := by
      have h1 := eun_gcd a b
      rw [← hpn, ← hE.2.1] at h1; exact h1
    rw [outw_snoc] at hO
    obtain ⟨m, Em⟩ : ∃ m, m = eum a b k := ⟨_, rfl⟩
    rw [← Em] at hM
    have eu : m.a = exu a b := by rw [Em, hkn]; rfl
    have ev : m.b = exv a b := by rw [Em, hkn]; rfl
    obtain ⟨X0, x0, X1, x1, X2, x2, X3, x3, hbox, N0, N1, N2, N3⟩ := hM
    have hG : ExG w s p D _ _ x.a m X0 x0 X1 x1 x.A x.c W := ⟨hbox, hO, N0, N1, hE.1.1, hB, hs6, hK⟩
    obtain ⟨XA, xc, xa, YA, yd, yb⟩ := x
    simp only at hG hxg hO
    have hDp : p ≤ D := by omega
    replace hxg := Lib.hid hxg
    replace eu := Lib.hid eu
    replace ev := Lib.hid ev
    clear hE hO hbox N0 N1 N2 N3 hB hs6 hK hk hkn hpn hxb hx0 Em
    gi_wp2_with (fail)
    refine wpIn_region_inv (fun E a' w' => ∃ (v4 u35 u36 u37 u38 u39 : Value),
      a' = { tmps := #[.slice A (nl a) c, .slice B (nl b) d, undef, undef, v4, .pointer (some ⟨s, 0, none⟩), .pointer (some ⟨s + 1, 0, none⟩), .pointer (some ⟨p, 0, none⟩), .pointer (some ⟨p + 1, 0, none⟩), undef, undef, undef, undef, undef, .agg #[.bool (sg Mx.one.a), .slice A0 (nl (mg Mx.one.a)) a0, .bool (sg Mx.one.b), .slice B0 (nl (mg Mx.one.b)) b0, .bool (sg Mx.one.c), .slice C0 (nl (mg Mx.one.c)) c0, .bool (sg Mx.one.d), .slice D0 (nl (mg Mx.one.d)) d0], .slice A (nl a) c, .slice A (nl a) c, .slice B (nl b) d, .func (.func 133) #[] #[.pointer (some ⟨p + 2, 0, none⟩), .pointer (some ⟨p + 3, 0, none⟩)], undef, undef, undef, undef, undef, undef, undef, undef, undef, undef, undef, undef, undef, undef, undef, undef, u35, u36, u37, u38, u39], defers := [{ target := Target.collected D, args := #[] }] } ∧
      (E 0 = true → u35 = .slice XA (nl xa) xc) ∧ (E 1 = true → u36 = .pointer (some ⟨p, 0, none⟩)) ∧ (E 2 = true → u37 = .agg #[.bool (sg m.a), .slice X0 (nl (mg m.a)) x0]) ∧ (E 3 = true → u38 = .pointer (some ⟨p, 2, none⟩)) ∧ (E 4 = true → u39 = .agg #[.bool (sg m.b), .slice X1 (nl (mg m.b)) x1]) ∧ (E 5 = true → v4 = .slice XA (nl xa) xc) ∧
      (E 6 = true → BoxA w' s 24 #[.bool (sg m.a), .slice X0 (nl (mg m.a)) x0]) ∧ (E 7 = true → BoxA w' (s + 1) 24 #[.bool (sg m.b), .slice X1 (nl (mg m.b)) x1]) ∧ (∃ r0 r1, BoxA w' s 24 #[r0, r1] ∧ NotU r0 ∧ NotU r1) ∧ (∃ r0 r1, BoxA w' (s + 1) 24 #[r0, r1] ∧ NotU r0 ∧ NotU r1) ∧
      ExG w s p D #[.bool (sg m.a), .slice X0 (nl (mg m.a)) x0, .bool (sg m.b), .slice X1 (nl (mg m.b)) x1, .bool (sg m.c), .slice X2 (nl (mg m.c)) x2, .bool (sg m.d), .slice X3 (nl (mg m.d)) x3] (.slice XA (nl xa) xc) xa m X0 x0 X1 x1 XA xc w') (by kernel_rfl) (by kernel_rfl) ?init ?fin ?step
    case init => exact ⟨_, _, _, _, _, _, rfl, by simp, by simp, by simp, by simp, by simp, by simp, by simp, by simp, ⟨_, _, hR.below (Below.refl _ _).drew, notU_bool _, notU_slice _ _ _⟩, ⟨_, _, hV.below (Below.refl _ _).drew, notU_bool _, notU_slice _ _ _⟩, hG.drew⟩
    case fin =>
      rintro E a' w' ⟨v4, u35, u36, u37, u38, u39, rfl, h0, h1, h2, h3, h4, h5, h6, h7, _, _, hG⟩ hall
      obtain rfl := h5 (hall 5 (by decide))
      have b6 := h6 (hall 6 (by decide))
      have b7 := h7 (hall 7 (by decide))
      gi_wp2_with (fail)
      have hDlt : D < w'.heap.size := (Array.getElem?_eq_some_iff.1 hG.d).1
      have hg := grownBy_putObj' w' D (.deferred none)
      have hr : ∀ r, some D = some r → ∃ o : Obj, w'.heap[r]? = some o ∧ o.isCells = false := fun r e => by cases e; exact ⟨_, hG.d, rfl⟩
      have hp : Below s w (w'.putObj D (.deferred none)) := hG.b.trans (belowK_b (w := W8) (by omega) w' D _ _ (by omega) hG.d rfl rfl)
      have b6' := b6.kept hg hr
      have b7' := b7.kept hg hr
      have e0 := b6'.c (i := 0) rfl
      have e1 := b6'.c (i := 1) rfl
      have e2 := b7'.c (i := 0) rfl
      have e3 := b7'.c (i := 1) rfl
      refine ⟨by simp, .inl ⟨_, _, rfl, run_takeDeferred hG.d, ?_⟩⟩
      refine ⟨.tuple #[.slice XA (nl xa) xc, .agg #[.bool (sg m.a), .slice X0 (nl (mg m.a)) x0], .agg #[.bool (sg m.b), .slice X1 (nl (mg m.b)) x1]], by simp [results, Tryz.results34, go_sem, e0, e1, e2, e3], ?_⟩
      rw [← hxg.out, ← eu.out, ← ev.out]
      exact ⟨XA, xc, X0, x0, X1, x1, rfl, hG.ng.kept hg hr, hG.n0.kept hg hr, hG.n1.kept hg hr, hp.mono (Nat.le_of_eq HS.out.symm)⟩
    case step =>
      rintro E a' w' i ⟨v4, u35, u36, u37, u38, u39, rfl, h0, h1, h2, h3, h4, h5, h6, h7, h8, h9, hG⟩ hi hEi hdep
      have qO := hG.bo.c (i := 0) rfl
      have qm0 := hG.bm.c (i := 0) rfl
      have qm1 := hG.bm.c (i := 1) rfl
      have qm2 := hG.bm.c (i := 2) rfl
      have qm3 := hG.bm.c (i := 3) rfl
      obtain rfl | rfl | rfl | rfl | rfl | rfl | rfl | rfl : i = 0 ∨ i = 1 ∨ i = 2 ∨ i = 3 ∨ i = 4 ∨ i = 5 ∨ i = 6 ∨ i = 7 := by
        simp at hi; omega
      · skip
        refine wpOpIn_step rfl (fun K' hK' => ?_)
        go_simp
        refine hK' _ _ ?_
        exact ⟨_, _, _, _, _, _, rfl, fun _ => rfl, keepD (by decide) h1, keepD (by decide) h2, keepD (by decide) h3, keepD (by decide) h4, keepD (by decide) h5, keepD (by decide) h6, keepD (by decide) h7, h8, h9, hG⟩
      · skip
        refine wpOpIn_step rfl (fun K' hK' => ?_)
        go_simp
        refine hK' _ _ ?_
        exact ⟨_, _, _, _, _, _, rfl, keepD (by decide) h0, fun _ => rfl, keepD (by decide) h2, keepD (by decide) h3, keepD (by decide) h4, keepD (by decide) h5, keepD (by decide) h6, keepD (by decide) h7, h8, h9, hG⟩
      · skip
        have d1 := hdep _ rfl ⟨1, .data⟩ (by simp) rfl
        obtain rfl := h1 d1
        refine wpOpIn_step rfl (fun K' hK' => ?_)
        go_simp
        refine hK' _ _ ?_
        exact ⟨_, _, _, _, _, _, rfl, keepD (by decide) h0, keepD (by decide) h1, fun _ => rfl, keepD (by decide) h3, keepD (by decide) h4, keepD (by decide) h5, keepD (by decide) h6, keepD (by decide) h7, h8, h9, hG⟩
      · skip
        refine wpOpIn_step rfl (fun K' hK' => ?_)
        go_simp
        refine hK' _ _ ?_
        exact ⟨_, _, _, _, _, _, rfl, keepD (by decide) h0, keepD (by decide) h1, keepD (by decide) h2, fun _ => rfl, keepD (by decide) h4, keepD (by decide) h5, keepD (by decide) h6, keepD (by decide) h7, h8, h9, hG⟩
      · skip
        have d3 := hdep _ rfl ⟨3, .data⟩ (by simp) rfl
        obtain rfl := h3 d3
        refine wpOpIn_step rfl (fun K' hK' => ?_)
        go_simp
        refine hK' _ _ ?_
        exact ⟨_, _, _, _, _, _, rfl, keepD (by decide) h0, keepD (by decide) h1, keepD (by decide) h2, keepD (by decide) h3, fun _ => rfl, keepD (by decide) h5, keepD (by decide) h6, keepD (by decide) h7, h8, h9, hG⟩
      · skip
        have d0 := hdep _ rfl ⟨0, .data⟩ (by simp) rfl
        obtain rfl := h0 d0
        refine wpOpIn_step rfl (fun K' hK' => ?_)
        go_simp
        refine hK' _ _ ?_
        exact ⟨_, _, _, _, _, _, rfl, keepD (by decide) h0, keepD (by decide) h1, keepD (by decide) h2, keepD (by decide) h3, keepD (by decide) h4, fun _ => rfl, keepD (by decide) h6, keepD (by decide) h7, h8, h9, hG⟩
      · skip
        have d2 := hdep _ rfl ⟨2, .data⟩ (by simp) rfl
        obtain rfl := h2 d2
        obtain ⟨r0, r1, hbx, z0, z1⟩ := h8
        obtain ⟨r2, r3, hby, z2, z3⟩ := h9
        have fz0 := hbx.f (i := 0)
        have fz1 := hbx.f (i := 1)
        have cz0 := hbx.c (i := 0) rfl
        have cz1 := hbx.c (i := 1) rfl
        have HG := hG.put (k := s) (v0 := .bool (sg m.a)) (v1 := .slice X0 (nl (mg m.a)) x0) hbx z0 z1 (by omega) (by omega) hDp
        have HS2 := hbx.store2 (.bool (sg m.a)) (.slice X0 (nl (mg m.a)) x0)
        have HO2 := hby.other2 (v0 := .bool (sg m.a)) (v1 := .slice X0 (nl (mg m.a)) x0) (k := s) (by omega)
        refine wpOpIn_step rfl (fun K' hK' => ?_)
        go_simp
        refine hK' _ _ ?_
        exact ⟨_, _, _, _, _, _, rfl, keepD (by decide) h0, keepD (by decide) h1, keepD (by decide) h2, keepD (by decide) h3, keepD (by decide) h4, keepD (by decide) h5, fun _ => HS2, keepP (by decide) h7 (fun h => h.other2 (by omega)), ⟨_, _, HS2, notU_bool _, notU_slice _ _ _⟩, ⟨_, _, HO2, z2, z3⟩, HG⟩
      · skip
        have d4 := hdep _ rfl ⟨4, .data⟩ (by simp) rfl
        obtain rfl := h4 d4
        obtain ⟨r0, r1, hbx, z0, z1⟩ := h9
        obtain ⟨r2, r3, hby, z2, z3⟩ := h8
        have fz0 := hbx.f (i := 0)
        have fz1 := hbx.f (i := 1)
        have cz0 := hbx.c (i := 0) rfl
        have cz1 := hbx.c (i := 1) rfl
        have HG := hG.put (k := s + 1) (v0 := .bool (sg m.b)) (v1 := .slice X1 (nl (mg m.b)) x1) hbx z0 z1 (by omega) (by omega) hDp
        have HS2 := hbx.store2 (.bool (sg m.b)) (.slice X1 (nl (mg m.b)) x1)
        have HO2 := hby.other2 (v0 := .bool (sg m.b)) (v1 := .slice X1 (nl (mg m.b)) x1) (k := s + 1) (by omega)
        refine wpOpIn_step rfl (fun K' hK' => ?_)
        go_simp
        refine hK' _ _ ?_
        exact ⟨_, _, _, _, _, _, rfl, keepD (by decide) h0, keepD (by decide) h1, keepD (by decide) h2, keepD (by decide) h3, keepD (by decide) h4, keepD (by decide) h5, keepP (by decide) h6 (fun h => h.other2 (by omega)), fun _ => HS2, ⟨_, _, HO2, z2, z3⟩, ⟨_, _, HS2, notU_bool _, notU_slice _ _ _⟩, HG⟩
  case body =>
    rintro l pre ⟨XA, xc, xa, YA, yd, yb⟩ W ⟨⟨k, hM, hk⟩, hO, hR, hV, hB, hs6⟩ hE
    obtain ⟨⟨hX, hY⟩, hxy, hnz⟩ := hE
    simp only at hX hY hxy
    have hkl : k = pre.length := by
      rcases hk with ⟨h, _⟩ | ⟨h1, h2⟩
      · exact h
      · exact absurd h2 (hnz k (by omega))
    subst hkl
    clear hk
    have hL := euc_nl la lb pre.length
    rw [← hxy] at hL
    simp only at hL
    have hyb : yb = (euc a b pre.length).2 := by rw [← hxy]
    have hxa : xa = (euc a b pre.length).1 := by rw [← hxy]
    replace hxy := Lib.hid hxy
    replace hyb := Lib.hid hyb
    replace hxa := Lib.hid hxa
    obtain ⟨Oc, hOc⟩ : ∃ v, v = outw A (nl a) c pre := ⟨_, rfl⟩
    have hOn : NotU Oc := by rw [hOc]; exact outw_notU _ _ _ _
    rw [← hOc] at hO
    replace hOc := Lib.hid hOc
    have fO := hO.f (i := 0)
    have qO := hO.c (i := 0) rfl
    obtain ⟨W2, hW2⟩ : ∃ W2, W2 = W.setCell ⟨p + 1, 0, none⟩ (.slice XA (nl xa) xc) := ⟨_, rfl⟩
    have hW2f : ∀ j, j ≠ p + 1 → W2.heap[j]? = W.heap[j]? := fun j hj => by rw [hW2]; exact Below.heap_setCell _ _ _ _ (by simpa using hj)
    have hsz2 : W2.heap.size = W.heap.size := by rw [hW2]; exact size1
    have hX2 : NatV W2 XA xc xa := hO.keep (nu1 hOn) hW2f hX
    have hY2 : NatV W2 YA yd yb := hO.keep (nu1 hOn) hW2f hY
    have hO2 : BoxA W2 (p + 1) 22 #[.slice XA (nl xa) xc] := by rw [hW2]; exact hO.set1
    have hR2 : BoxA W2 s 24 #[.bool false, .slice none 0 0] := ⟨(hW2f s (by omega)).trans hR.at_⟩
    have hV2 : BoxA W2 (s + 1) 24 #[.bool false, .slice none 0 0] := ⟨(hW2f (s + 1) (by omega)).trans hV.at_⟩
    have hB2 : Below s w W2 := by rw [hW2]; exact hB.setCell (p := ⟨p + 1, 0, none⟩) (by show s ≤ p + 1; omega) _
    have ko2 : KeepsOthers W W2 := ko_far hO hsz2 hW2f
    have kp2 : KpU (p + 2) (p + 3) W W2 := kpu_far hO (nu1 hOn) hW2f (by omega) (by omega)
    have hM2 : MxB W2 p (eum a b pre.length) := by
      obtain ⟨X0, x0, X1, x1, X2, x2, X3, x3, hbox, N0, N1, N2, N3⟩ := hM
      exact ⟨X0, x0, X1, x1, X2, x2, X3, x3, ⟨(hW2f p (by omega)).trans hbox.at_⟩, hO.keep (nu1 hOn) hW2f N0, hO.keep (nu1 hOn) hW2f N1, hO.keep (nu1 hOn) hW2f N2, hO.keep (nu1 hOn) hW2f N3⟩
    have hlst : ∀ V : World, outw A (nl a) c (pre ++ [(⟨XA, xc, xa, YA, yd, yb⟩ : It)]) = .slice XA (nl xa) xc := fun V => outw_snoc _ _ _ _ _
    clear hM hR hV hB
    replace ko2 := Lib.hid ko2
    replace kp2 := Lib.hid kp2
    replace hlst := Lib.hid hlst
    by_cases hy : yb = 0
    · have t1 : decide (0 < (nl yb : Int)) = false := by rw [hy, nl_zero]; rfl
      have t2 : decide (0 < nl yb) = false := by rw [hy, nl_zero]; rfl
      replace hy := Lib.hid hy
      gi_wp2_with (fail)
      rw [← hW2]
      refine ⟨ko2.out, kp2.out, ⟨pre.length, hM2, .inr ⟨by simp, by rw [← hyb.out]; exact hy.out⟩⟩, ?_, hR2, hV2, hB2, by rw [hsz2]; exact hs6⟩
      rw [hlst.out W2]; exact hO2
    · have t1 : decide (0 < (nl yb : Int)) = true := by have := nl_pos.2 hy; simp; omega
      have t2 : decide (0 < nl yb) = true := by have := nl_pos.2 hy; simp; omega
      have hy0 : 0 < yb := Nat.pos_of_ne_zero hy
      replace hy := Lib.hid hy
      have CD := ddivmod_c XA xc xa YA yd yb W2 hX2 hY2 (by omega) (by omega) hy0
      obtain ⟨q, Eq⟩ : ∃ z, z = xa / yb := ⟨_, rfl⟩
      rw [← Eq] at CD
      have hq : nl q ≤ 8192 := by rw [Eq]; exact Nat.le_trans (nl_div _ _) hL.1
      obtain ⟨m, Em⟩ : ∃ z, z = eum a b pre.length := ⟨_, rfl⟩
      rw [← Em] at hM2
      have hms : m.sz 16384 := by rw [Em]; exact (eum_sz (L := 8192) la lb (by decide) _ hnz).mono (by decide)
      have hnx : eum a b (pre.length + 1) = m.nx q := by rw [Em, Eq, hxa.out, hyb.out]; rfl
      replace Eq := Lib.hid Eq
      replace Em := Lib.hid Em
      replace hnx := Lib.hid hnx
      replace CD := Lib.hid CD
      gi_wp2_with (fail)
      rw [← hW2]
      refine ⟨trivial, ?_⟩
      refine (callsIn_wide.2 CD.out).mono ?_
      rintro e W3 ⟨Q, cq, R, cr, rfl, hQ, hRr, hb3⟩
      obtain ⟨X0, x0, X1, x1, X2, x2, X3, x3, hbox3, K0, K1, K2, K3⟩ := hM2.below hb3
      have hB3 : Below s w W3 := hB2.trans (hb3.mono (by omega))
      have q0 := hbox3.c (i := 0) rfl
      have q1 := hbox3.c (i := 1) rfl
      have q2 := hbox3.c (i := 2) rfl
      have q3 := hbox3.c (i := 3) rfl
      have q4 := hbox3.c (i := 4) rfl
      have q5 := hbox3.c (i := 5) rfl
      have q6 := hbox3.c (i := 6) rfl
      have q7 := hbox3.c (i := 7) rfl
      have CT := then_c X0 x0 X1 x1 X2 x2 X3 x3 m Q cq q W3 K0 K1 K2 K3 hQ (hsw.out _ hB3) hms (by omega)
      replace CT := Lib.hid CT
      gi_wp2_with (fail)
      refine ⟨trivial, ?_⟩
      refine (callsIn_wide.2 CT.out).mono ?_
      rintro e W4 ⟨Y0, y0, Y1, y1, Y2, y2, Y3, y3, rfl, V0, V1, V2, V3, hb4⟩
      have hbox4 := hbox3.below hb4
      have fz0 := hbox4.f (i := 0)
      have cz_0 := hbox4.c (i := 0) rfl
      have fz1 := hbox4.f (i := 1)
      have cz_1 := hbox4.c (i := 1) rfl
      have fz2 := hbox4.f (i := 2)
      have cz_2 := hbox4.c (i := 2) rfl
      have fz3 := hbox4.f (i := 3)
      have cz_3 := hbox4.c (i := 3) rfl
      have fz4 := hbox4.f (i := 4)
      have cz_4 := hbox4.c (i := 4) rfl
      have fz5 := hbox4.f (i := 5)
      have cz_5 := hbox4.c (i := 5) rfl
      have fz6 := hbox4.f (i := 6)
      have cz_6 := hbox4.c (i := 6) rfl
      have fz7 := hbox4.f (i := 7)
      have cz_7 := hbox4.c (i := 7) rfl
      gi_wp2_with (fail)
      have hO4 := (hO2.below hb3).below hb4
      have hR4 := (hR2.below hb3).below hb4
      have hV4 := (hV2.below hb3).below hb4
      refine ⟨ko2.out.trans ((ko_below hb3).trans ((ko_below hb4).trans (ko_far hbox4 size8 (fun j hj => set8_far j hj)))), kp2.out.t ((kpu_below hb3).t ((kpu_below hb4).t (kpu_far hbox4 (lista8 _ rfl) (fun j hj => set8_far j hj) (by omega) (by omega)))), ⟨pre.length + 1, ?_, .inl ⟨by simp, ?_⟩⟩, ?_, hR4.far8 (by omega), hV4.far8 (by omega), Below.st8 (hB3.trans (hb4.mono (by have := hb3.size; omega))) (by omega), by rw [size8]; exact Nat.le_trans hs6 (Nat.le_trans (Nat.le_of_eq hsz2.symm) (Nat.le_trans hb3.size hb4.size))⟩
      · rw [hnx.out]
        exact ⟨Y0, y0, Y1, y1, Y2, y2, Y3, y3, hbox4.store8 _ _ _ _ _ _ _ _, hbox4.keep8 (lista8 _ rfl) V0, hbox4.keep8 (lista8 _ rfl) V1, hbox4.keep8 (lista8 _ rfl) V2, hbox4.keep8 (lista8 _ rfl) V3⟩
      · intro i hi
        by_cases e : i = pre.length
        · rw [e, ← hyb.out]; exact hy.out
        · exact hnz i (by omega)
      · rw [hlst.out W4]; exact hO4.far8 (by omega)
end Go.Proofs.YthcmoimlnhghcaaGreatDoor

/- Appending to a row of the call's own that holds no limbs: it stays so, and naturals stay where they lie. -/
set_option linter.unusedVariables false
set_option linter.unusedSimpArgs false
namespace Go.Proofs.YthcmoimlnhghcaaGreatDoor
open Go.RowKit Go.Shelf
attribute [local go_sem] Oper.semAt_some

/-- The row that a slice of the call's own lies in holds no limbs. -/
def NU (w : World) (v : Value) : Prop := ∀ g, v.ownBlock = some g → ∃ cur e, w.heap[g]? = some (.cells cur e (0, 0)) ∧ ∀ u ∈ cur.toList, NotU u
theorem nu_none (w : World) (n c : Nat) : NU w (.slice none n c) := fun g h => by simp [Value.ownBlock] at h
theorem NU.same {w w' : World} {v : Value} (h : NU w v) (hk : ∀ g o, v.ownBlock = some g → w.heap[g]? = some o → o.isCells = true → w'.heap[g]? = some o) : NU w' v := fun g hg => by
  obtain ⟨cur, e, h1, h2⟩ := h g hg
  exact ⟨cur, e, hk g _ hg h1 rfl, h2⟩
theorem NU.below {w w' : World} {v : Value} (h : NU w v) (hb : Below w.heap.size w w') : NU w' v := h.same fun g o _ h1 _ => heap_below hb h1
theorem NU.kept {w w' : World} {v : Value} {row : Option Nat} (h : NU w v) (hg : w.grownBy w' row) (hr : ∀ r, row = some r → ∃ o : Obj, w.heap[r]? = some o ∧ o.isCells = false) : NU w' v := by
  refine h.same fun g o hgo h1 hc => ?_
  rw [hg.block g (Array.getElem?_eq_some_iff.1 h1).1 (fun e => by obtain ⟨o', h2, h3⟩ := hr g e.symm; rw [h1] at h2; cases h2; rw [hc] at h3; cases h3)]
  exact h1
theorem NU.far {w w' : World} {v : Value} {k : Nat} (h : NU w v) (hk : ∀ g, v.ownBlock = some g → g ≠ k) (hW : ∀ j, j ≠ k → w'.heap[j]? = w.heap[j]?) : NU w' v := h.same fun g o hgo h1 _ => (hW g (hk g hgo)).trans h1
/-- What is no limb's row may grow: limbs stay. -/
theorem u_grown {w w' : World} {v : Value} (h : NU w v) (hg : w.grownBy w' v.ownBlock) (p : Addr) (x : Nat) (e : w.cell? p = some (.int .u32 (x : Nat))) : w'.cell? p = some (.int .u32 (x : Nat)) := by
  have hlt := World.block_lt_of_cell? w _ e
  have hne : some p.block ≠ v.ownBlock := fun e2 => by
    obtain ⟨cur, t, h1, h2⟩ := h p.block e2.symm
    unfold World.cell? at e
    rw [h1] at e
    simp only at e
    split at e
    · cases e
    · have hm := Array.mem_of_getElem? e
      exact h2 _ (Array.mem_def.1 hm) x rfl
  rw [World.cell?_of_block (w := w) (a := p) (hg.block p.block hlt hne)]
  exact e
theorem NatV.grown {w w' : World} {v : Value} {A : Option Addr} {c n : Nat} (hN : NatV w A c n) (h : NU w v) (hg : w.grownBy w' v.ownBlock) : NatV w' A c n :=
  NatV.kpu (Ba := w.heap.size) (Bb := w.heap.size) hN ⟨u_grown h hg, fun o _ e => by simp at e, fun o _ e => by simp at e⟩
theorem mem_zero {z : Array Value} {n : Nat} {u : Value} (hz : 0 < z.size) (h : u ∈ (Builtin.zeroCells z n).toList) : u ∈ z.toList := by
  simp only [Builtin.zeroCells] at h
  simp at h
  obtain ⟨k, _, rfl⟩ := h
  simp only [Array.mem_toList_iff]
  have : k % z.size < z.size := Nat.mod_lt _ hz
  rw [getElem!_pos z (k % z.size) this]
  exact Array.getElem_mem this
theorem run_append_nu {P : Program} (w : World) (base : Nat) (t ty e : TypeId) (i : TypeInfo) (z : Value) (size bytes : Nat) (ht : P.underlying t = some (.slice e)) (hi : P.info? e = some i) (hz : i.zero = some z)
    (hsize : i.size = size) (hby : i.bytes = bytes) (hzs : z.cells.size = size) (hsz : 0 < size)
    (v : Value) (n : Nat) (xs : List Value) (hown : w.ownsRow base e size v n xs)
    (a : Addr) (m c : Nat) (news : List Value) (hl : news.length = m * size) (hnews : ∀ j u, news[j]? = some u → w.cell? (a.add j) = some u) (h1 : ∀ u ∈ news, u.oneCell' = true)
    (h63 : n + m ≤ maxLen) (hbytes : (n + m) * bytes ≤ 140737488355328) (hbase : base ≤ w.heap.size) (hm : 0 < m)
    (hv : NU w v) (hzn : ∀ u ∈ z.cells.toList, NotU u) (hnn : ∀ u ∈ news, NotU u) :
    ∃ v' w', (Builtin.append_ #[t, t] ty #[v, .slice (some a) m c]).run P w = .ok v' w' ∧ w'.ownsRow base e size v' (n + m) (xs ++ news) ∧ w.grownBy w' v.ownBlock ∧ NU w' v' := by
  subst hsize
  subst hby
  have hsmall : n + m ≤ 9223372036854775807 := by simp only [maxLen] at h63; omega
  have hlen : (xs ++ news).length = (n + m) * i.size := by rw [List.length_append, hown.1, hl, Nat.add_mul]
  have hxs : ∀ u ∈ xs, NotU u := by
    rcases hown.2 with ⟨_, h2⟩ | ⟨g, cap, cur, rfl, _, hg, _, _, _, htake⟩
    · have hx : xs = [] := List.eq_nil_of_length_eq_zero (by rw [hown.1, h2, Nat.zero_mul])
      rw [hx]; intro u hu; cases hu
    · obtain ⟨cur', e', h1', h2'⟩ := hv g rfl
      rw [hg] at h1'; cases h1'
      intro u hu
      rw [← htake] at hu
      exact h2' u (List.mem_of_mem_take hu)
  have grown : ∀ (old : Nat), old < n + m → ∀ (row : Option Nat),
      (w.drew.alloc (.cells (xs.toArray ++ news.toArray ++ Builtin.zeroCells z.cells (grownCap w (n + m) old e - (n + m))) e)).ownsRow base e i.size
        (.slice (some ⟨w.heap.size, 0, none⟩) (n + m) (grownCap w (n + m) old e)) (n + m) (xs ++ news) ∧
      w.grownBy (w.drew.alloc (.cells (xs.toArray ++ news.toArray ++ Builtin.zeroCells z.cells (grownCap w (n + m) old e - (n + m))) e)) row ∧
      NU (w.drew.alloc (.cells (xs.toArray ++ news.toArray ++ Builtin.zeroCells z.cells (grownCap w (n + m) old e - (n + m))) e)) (.slice (some ⟨w.heap.size, 0, none⟩) (n + m) (grownCap w (n + m) old e)) := by
    intro old ho row
    have hge := grownCap_ge w (n + m) old e
    have hcm : grownCap w (n + m) old e ≤ maxLen := grownCap_le_maxLen w (n + m) old e h63
    refine ⟨⟨hlen, .inr ⟨w.heap.size, _, _, rfl, hbase, heap_alloc_new w.drew _, hge, hcm, ?_, ?_⟩⟩, ⟨rfl, rfl, rfl, by simp, fun k hk _ => at_old (W := w.drew) hk rfl⟩, ?_⟩
    · simp only [Array.size_append, List.size_toArray, size_zeroCells, hzs, hown.1, hl, ← Nat.add_mul]
      congr 1
      omega
    · simp only [Array.toList_append, List.append_assoc]
      rw [← List.append_assoc, ← hlen]
      exact List.take_left
    · intro g hg
      have hgg : g = w.heap.size := by simpa [Value.ownBlock] using hg.symm
      subst hgg
      refine ⟨_, _, heap_alloc_new w.drew _, ?_⟩
      intro u hu
      simp only [Array.toList_append, List.mem_append] at hu
      rcases hu with (hu | hu) | hu
      · exact hxs u (by simpa using hu)
      · exact hnn u (by simpa using hu)
      · exact hzn u (mem_zero (by omega) hu)
  rcases hown.2 with ⟨rfl, rfl⟩ | ⟨g, cap, cur, rfl, hbg, hg, hnc, hcm, hcs, htake⟩
  · have hx : xs = [] := List.eq_nil_of_length_eq_zero (by simpa using hown.1)
    subst hx
    have hr := run_append_nil (P := P) w t ty e i z ht hi hz a m c news hl hnews (by omega) (by omega) (by have hb := hbytes; simp only [Nat.zero_add] at hb; omega)
    have hgr := grown 0 (by omega) (Value.ownBlock (.slice none 0 0))
    simp only [Nat.zero_add, List.nil_append, Array.empty_append] at hgr ⊢
    exact ⟨_, _, hr, hgr.1, hgr.2.1, hgr.2.2⟩
  · by_cases hroom : n + m ≤ cap
    · have hfit : n * i.size + news.length ≤ cur.size := by rw [hl, hcs, ← Nat.add_mul]; exact Nat.mul_le_mul_right _ hroom
      have hr := run_append_room (P := P) w t ty e i ht hi g n cap cur hg a m c news hl hnews h1 hroom hfit
      refine ⟨_, _, hr, ⟨hlen, .inr ⟨g, cap, _, rfl, hbg, setRow_heap w g cur _ e _ hg, hroom, hcm, ?_, ?_⟩⟩, ⟨rfl, rfl, rfl, by simp, fun k _ hk => setRow_other w g k _ (fun e => hk (by simp [Value.ownBlock, e]))⟩, ?_⟩
      · simp only [List.size_toArray, List.length_append, List.length_take, List.length_drop, Array.length_toList]
        omega
      · rw [htake, ← hlen]
        exact List.take_left
      · intro g' hg'
        have hgg : g' = g := by simpa [Value.ownBlock] using hg'.symm
        subst hgg
        refine ⟨_, _, setRow_heap w g' cur _ e _ hg, ?_⟩
        obtain ⟨cur', e', h1', h2'⟩ := hv g' rfl
        rw [hg] at h1'; cases h1'
        intro u hu
        simp only [List.mem_append] at hu
        rcases hu with (hu | hu) | hu
        · exact h2' u (List.mem_of_mem_take hu)
        · exact hnn u hu
        · exact h2' u (List.mem_of_mem_drop hu)
    · have holds : ∀ j u, xs[j]? = some u → w.cell? ((⟨g, 0, none⟩ : Addr).add j) = some u := hown.cells (g := g) rfl
      have hr := run_append_grow (P := P) w t ty e i z ht hi hz ⟨g, 0, none⟩ n cap xs hown.1 holds a m c news hl hnews (by omega) (by omega) (growslice_fits (by omega) hbytes)
      have hgr := grown cap (by omega) (Value.ownBlock (.slice (some ⟨g, 0, none⟩) n cap))
      exact ⟨_, _, hr, hgr.1, hgr.2.1, hgr.2.2⟩
theorem wpListIn_append_nu {F : Fence} {n : Nat} {P : Program} (w : World) {ops : Array Oper} {rest : List Oper} {o : Oper} {a : Act} {Q : Exit → Act → World → Prop}
    (hg : o.guard = none) (s x : Operand) (t : TypeId) (hop : o.op = Op.call { callee := Callee.builtin Builtin.append, args := #[s, x], argTypes := #[t, t] })
    (base : Nat) (e : TypeId) (i : TypeInfo) (z : Value) (size bytes : Nat) (h1 : P.underlying t = some (.slice e)) (h2 : P.info? e = some i) (h3 : i.zero = some z) (h4 : i.size = size) (h5 : i.bytes = bytes) (h6 : z.cells.size = size) (h7 : 0 < size)
    (v : Value) (k : Nat) (xs : List Value) (hs : a.eval s = v) (hown : w.ownsRow base e size v k xs) (ad : Addr) (m c : Nat) (news : List Value) (hx : a.eval x = .slice (some ad) m c) (hn : news.length = m * size)
    (hc : ∀ j u, news[j]? = some u → w.cell? (ad.add j) = some u) (h1c : ∀ u ∈ news, u.oneCell' = true) (b1 : k + m ≤ maxLen) (b2 : (k + m) * bytes ≤ 140737488355328) (b3 : base ≤ w.heap.size) (hm : 0 < m)
    (hv : NU w v) (hzn : ∀ u ∈ z.cells.toList, NotU u) (hnn : ∀ u ∈ news, NotU u)
    (hK : ∀ v' w', w'.ownsRow base e size v' (k + m) (xs ++ news) → w.grownBy w' v.ownBlock → NU w' v' → wpListIn F n P ops Q rest (a.put o.dst v') w') :
    wpListIn F n P ops Q (o :: rest) a w := by
  refine wpListIn_plain hg fun K hK' => ?_
  obtain ⟨v', w', hrun, r1, r2, r3⟩ := run_append_nu (P := P) w base t o.type e i z size bytes h1 h2 h3 h4 h5 h6 h7 v k xs hown ad m c news hn hc h1c b1 b2 b3 hm hv hzn hnn
  unfold Oper.wpIn
  refine ⟨?_, ?_⟩
  · simp [Oper.about, hop, resolve, Target.leads, Sem.run_pure]
  · rw [Oper.semAt_plain F _ _ (by rw [hop]; intro c hc'; cases hc')]
    simp [execOp, hop, resolve, invoke, builtin, hs, hx, hrun, Result.andThen]
    exact hK' _ _ (hK v' w' r1 r2 r3)
theorem wp_append_nu {P : Program} (w : World) {o : Oper} {a : Act} {K : Act → World → Prop} {Q : Exit → Act → World → Prop} (s x : Operand) (t : TypeId)
    (ho : o.op = .call { callee := .builtin .append, args := #[s, x], argTypes := #[t, t] })
    (base : Nat) (e : TypeId) (i : TypeInfo) (z : Value) (size bytes : Nat) (ht : P.underlying t = some (.slice e)) (hi : P.info? e = some i) (hz : i.zero = some z)
    (hsize : i.size = size) (hby : i.bytes = bytes) (hzs : z.cells.size = size) (hsz : 0 < size)
    (v : Value) (n : Nat) (xs : List Value) (hs : a.eval s = v) (hown : w.ownsRow base e size v n xs)
    (ad : Addr) (m c : Nat) (news : List Value) (hx : a.eval x = .slice (some ad) m c) (hl : news.length = m * size) (hnews : ∀ j u, news[j]? = some u → w.cell? (ad.add j) = some u) (h1 : ∀ u ∈ news, u.oneCell' = true)
    (h63 : n + m ≤ maxLen) (hbytes : (n + m) * bytes ≤ 140737488355328) (hbase : base ≤ w.heap.size) (hm : 0 < m)
    (hv : NU w v) (hzn : ∀ u ∈ z.cells.toList, NotU u) (hnn : ∀ u ∈ news, NotU u)
    (h : ∀ v' w', w'.ownsRow base e size v' (n + m) (xs ++ news) → w.grownBy w' v.ownBlock → NU w' v' → K (a.put o.dst v') w') : o.wp P a w K Q := by
  obtain ⟨v', w', hr, h2, h3, h4⟩ := run_append_nu (P := P) w base t o.type e i z size bytes ht hi hz hsize hby hzs hsz v n xs hown ad m c news hl hnews h1 h63 hbytes hbase hm hv hzn hnn
  unfold Oper.wp execOp
  simp only [ho, resolve, invoke, builtin, Sem.run_bind, Sem.run_pure, Result.andThen_ok, List.map_toArray, List.map_cons, List.map_nil, hs, hx, hr]
  exact h v' w' h2 h3 h4
theorem wpList_append_nu {P : Program} (w : World) {ops : Array Oper} {rest : List Oper} {o : Oper} {a : Act} {Q : Exit → Act → World → Prop} (hgd : o.guard = none) (s x : Operand) (t : TypeId)
    (ho : o.op = .call { callee := .builtin .append, args := #[s, x], argTypes := #[t, t] })
    (base : Nat) (e : TypeId) (i : TypeInfo) (z : Value) (size bytes : Nat) (ht : P.underlying t = some (.slice e)) (hi : P.info? e = some i) (hz : i.zero = some z)
    (hsize : i.size = size) (hby : i.bytes = bytes) (hzs : z.cells.size = size) (hsz : 0 < size)
    (v : Value) (n : Nat) (xs : List Value) (hs : a.eval s = v) (hown : w.ownsRow base e size v n xs)
    (ad : Addr) (m c : Nat) (news : List Value) (hx : a.eval x = .slice (some ad) m c) (hl : news.length = m * size) (hnews : ∀ j u, news[j]? = some u → w.cell? (ad.add j) = some u) (h1 : ∀ u ∈ news, u.oneCell' = true)
    (h63 : n + m ≤ maxLen) (hbytes : (n + m) * bytes ≤ 140737488355328) (hbase : base ≤ w.heap.size) (hm : 0 < m)
    (hv : NU w v) (hzn : ∀ u ∈ z.cells.toList, NotU u) (hnn : ∀ u ∈ news, NotU u)
    (h : ∀ v' w', w'.ownsRow base e size v' (n + m) (xs ++ news) → w.grownBy w' v.ownBlock → NU w' v' → wpList P ops Q rest (a.put o.dst v') w') : wpList P ops Q (o :: rest) a w :=
  wpList_plain hgd fun _ hK => wp_append_nu w s x t ho base e i z size bytes ht hi hz hsize hby hzs hsz v n xs hs hown ad m c news hx hl hnews h1 h63 hbytes hbase hm hv hzn hnn fun v' w' h2 h3 h4 => hK _ _ (h v' w' h2 h3 h4)
end Go.Proofs.YthcmoimlnhghcaaGreatDoor

/- Euclid's quotients. -/
set_option linter.unusedVariables false
set_option linter.unusedSimpArgs false
namespace Go.Proofs.YthcmoimlnhghcaaGreatDoor
open Go.RowKit Go.Shelf
attribute [local go_sem] max2_i min2_i max_two min_two

attribute [local go_sem] Oper.semAt_some
theorem info_sl : (Tryz.prog.info? 22).map (fun i => (i.zero, i.size, i.bytes)) = some (some (.slice none 0 0), 1, 24) := by kernel_rfl
theorem euc_lt {a b : Nat} {k : Nat} (h : (euc a b k).2 ≠ 0) : (euc a b (k + 1)).2 < (euc a b k).2 := by
  simp only [euc]; exact Nat.mod_lt _ (by omega)
theorem mod_half {m n : Nat} (h : n ≤ m) (h0 : 0 < n) : 2 * (m % n) < m := by
  have h1 := Nat.div_add_mod m n
  have h2 := Nat.mod_lt m h0
  have h3 : n ≤ n * (m / n) := Nat.le_mul_of_pos_right _ (Nat.div_pos h h0)
  omega
theorem euc_half (a b : Nat) : ∀ j, (∀ i, i < 2 * j → (euc a b i).2 ≠ 0) → 2 ^ j * (euc a b (2 * j)).2 ≤ b
  | 0, _ => by simp [euc]
  | j + 1, h => by
    have ih := euc_half a b j (fun i hi => h i (by omega))
    have h1 := euc_lt (h (2 * j) (by omega))
    have h2 := h (2 * j + 1) (by omega)
    have h3 : (euc a b (2 * j + 1 + 1)).2 = (euc a b (2 * j)).2 % (euc a b (2 * j + 1)).2 := rfl
    have h4 := mod_half (m := (euc a b (2 * j)).2) (n := (euc a b (2 * j + 1)).2) (by omega) (by omega)
    rw [show 2 * (j + 1) = 2 * j + 1 + 1 by omega, h3, Nat.pow_succ, Nat.mul_assoc]
    exact Nat.le_trans (Nat.mul_le_mul_left _ (by omega)) ih
theorem euc_steps {a b k : Nat} (h : ∀ i, i < k → (euc a b i).2 ≠ 0) : k ≤ 2 * bl b + 2 := by
  rcases Nat.lt_or_ge k 2 with h1 | h1
  · omega
  · obtain ⟨j, hj⟩ : ∃ j, j = (k - 1) / 2 := ⟨_, rfl⟩
    have h2 := euc_half a b j (fun i hi => h i (by omega))
    have h3 := h (2 * j) (by omega)
    have h4 : 2 ^ j ≤ b := by
      refine Nat.le_trans ?_ h2
      exact Nat.le_mul_of_pos_right _ (by omega)
    have h5 := bl_lt b
    have h6 : 2 ^ j < 2 ^ bl b := by omega
    have := (Nat.pow_lt_pow_iff_right (by decide : 1 < 2)).1 h6
    omega
theorem own_same {w w' : World} {base size n : Nat} {e : TypeId} {v : Value} {xs : List Value} (h : w.ownsRow base e size v n xs) (hk : ∀ g o, v.ownBlock = some g → w.heap[g]? = some o → o.isCells = true → w'.heap[g]? = some o) : w'.ownsRow base e size v n xs := by
  refine ⟨h.1, ?_⟩
  rcases h.2 with h1 | ⟨g, cap, cur, rfl, h2, h3, h4⟩
  · exact .inl h1
  · exact .inr ⟨g, cap, cur, rfl, h2, hk g _ rfl h3 rfl, h4⟩
theorem own_shape {w : World} {base size n : Nat} {e : TypeId} {v : Value} {xs : List Value} (h : w.ownsRow base e size v n xs) : ∃ V c, v = .slice V n c := by
  rcases h.2 with ⟨rfl, rfl⟩ | ⟨g, cap, cur, rfl, _⟩
  · exact ⟨none, 0, rfl⟩
  · exact ⟨_, cap, rfl⟩
/-- The cells of a row of slices hold the naturals f 0, f 1 .. -/
def QR (f : Nat → Nat) (W : World) (xs : List Value) : Prop := ∀ j, j < xs.length → ∃ X c, xs[j]? = some (.slice X (nl (f j)) c) ∧ NatV W X c (f j)
theorem QR.map {f : Nat → Nat} {W W' : World} {xs : List Value} (h : QR f W xs) (hN : ∀ (A : Option Addr) (c n : Nat), NatV W A c n → NatV W' A c n) : QR f W' xs := fun j hj => by
  obtain ⟨X, c, h1, h2⟩ := h j hj
  exact ⟨X, c, h1, hN _ _ _ h2⟩
/-- A slice of slices that hold the naturals f 0, f 1 .. -/
def QL (f : Nat → Nat) (W : World) (V : Option Addr) (n : Nat) : Prop := ∀ j, j < n → ∃ ad X d, V = some ad ∧ W.cell? (ad.add j) = some (.slice X (nl (f j)) d) ∧ NatV W X d (f j)
theorem QL.below {f : Nat → Nat} {W W' : World} {V : Option Addr} {n : Nat} (h : QL f W V n) (hb : Below W.heap.size W W') : QL f W' V n := fun j hj => by
  obtain ⟨ad, X, d, h1, h2, h3⟩ := h j hj
  exact ⟨ad, X, d, h1, cell_below hb h2, h3.below hb⟩
theorem ql_of {f : Nat → Nat} {W : World} {base n : Nat} {v : Value} {xs : List Value} (h : W.ownsRow base 22 1 v n xs) (hq : QR f W xs) : ∃ V c, v = .slice V n c ∧ QL f W V n ∧ n ≤ maxLen := by
  have hc := fun g (hg : v.ownBlock = some g) => h.cells hg
  have hl : xs.length = n := by have := h.1; omega
  rcases h.2 with ⟨rfl, rfl⟩ | ⟨g, cap, cur, rfl, h2, h3, h4, h5, _⟩
  · exact ⟨none, 0, rfl, fun j hj => by omega, by decide⟩
  · refine ⟨some ⟨g, 0, none⟩, cap, rfl, fun j hj => ?_, by omega⟩
    obtain ⟨X, c, e1, e2⟩ := hq j (by omega)
    exact ⟨⟨g, 0, none⟩, X, c, rfl, hc g rfl j _ e1, e2⟩
/-- What a call leaves that tells quotients. -/
def RetQs (w : World) (f : Nat → Nat) (n : Nat) (e : Ending) (w' : World) : Prop := ∃ V c, e = .returned (.slice V n c) ∧ QL f w' V n ∧ n ≤ maxLen ∧ Below w.heap.size w w'
/-- What is in the variable. -/
def QsI (a b s : Nat) (pre : List It) (W : World) : Prop := ∃ (v : Value) (xs : List Value) (k : Nat), BoxA W s 48 #[v] ∧ NotU v ∧ W.ownsRow (s + 3) 22 1 v k xs ∧ NU W v ∧ QR (quo a b) W xs ∧ ((k = pre.length ∧ ∀ i, i < k → (euc a b i).2 ≠ 0) ∨ (k + 1 = pre.length ∧ (euc a b k).2 = 0 ∧ ∀ i, i < k → (euc a b i).2 ≠ 0))
theorem own_base {w : World} {base size n : Nat} {e : TypeId} {v : Value} {xs : List Value} (h : w.ownsRow base e size v n xs) {g : Nat} (hg : v.ownBlock = some g) : base ≤ g := (h.lt g hg).1
theorem QsI.move {a b s : Nat} {pre : List It} {W W' : World} (h : QsI a b s pre W) (hs : ∀ o, o.isCells = true → W.heap[s]? = some o → W'.heap[s]? = some o) (hk : ∀ g o, s + 3 ≤ g → W.heap[g]? = some o → o.isCells = true → W'.heap[g]? = some o) (hN : ∀ (A : Option Addr) (c n : Nat), NatV W A c n → NatV W' A c n) : QsI a b s pre W' := by
  obtain ⟨v, xs, k, h1, h2, h3, h4, h5, h6⟩ := h
  exact ⟨v, xs, k, ⟨hs _ rfl h1.at_⟩, h2, own_same h3 (fun g o hg ho hc => hk g o (own_base h3 hg) ho hc), h4.same (fun g o hg ho hc => hk g o (own_base h3 hg) ho hc), h5.map hN, h6⟩
theorem quots_c (A : Option Addr) (c a : Nat) (B : Option Addr) (d b : Nat) (w : World) (hA : NatV w A c a) (hB : NatV w B d b) (la : nl a ≤ 8192) (lb : nl b ≤ 8192) :
    Calls Tryz.prog 36 #[.slice A (nl a) c, .slice B (nl b) d] w (RetQs w (quo a b) (eun a b)) := by
  refine (callsIn_wide (n := 4)).1 ?_
  have hblb := bl_le b
  obtain ⟨i0, hi, hz0, hz1, hz2⟩ := info_parts info_sl
  refine callsIn_of_wp_marks Tryz.func36 rfl trivial ?_ rfl
  simp only [Tryz.ntmps36, List.size_toArray, List.length_cons, List.length_nil, Nat.reduceAdd, Nat.reduceSub, Array.replicate_succ, Array.replicate_zero, List.push_toArray, List.append_toArray, List.nil_append, List.cons_append]
  gi_wp2_with (fail)
  refine ⟨trivial, ?_⟩
  refine (callsIn_wide.2 (rests_c A (nl a) c B (nl b) d _)).mono ?_
  rintro e w' ⟨rfl, rfl⟩
  gi_wp2_with (fail)
  obtain ⟨s, hs0⟩ : ∃ s, s = w.heap.size := ⟨_, rfl⟩
  obtain ⟨W8, hW8⟩ : ∃ W8, (((w.alloc (.cells #[.slice none 0 0] 48)).alloc (.cells #[.slice A (nl a) c] 22)).alloc (.cells #[.slice B (nl b) d] 22)) = W8 := ⟨_, rfl⟩
  have bO : BoxA W8 s 48 #[.slice none 0 0] := by
    subst hs0 hW8; refine ⟨?_⟩; repeat (first | exact at_new (by first | (simp; done) | (simp; omega)) | refine at_old (by simp <;> omega) ?_)
  have bA : Boxed W8 (s + 1) 22 (.slice A (nl a) c) := by
    subst hs0 hW8; unfold Boxed; repeat (first | exact at_new (by first | (simp; done) | (simp; omega)) | refine at_old (by simp <;> omega) ?_)
  have bB : Boxed W8 (s + 2) 22 (.slice B (nl b) d) := by
    subst hs0 hW8; unfold Boxed; repeat (first | exact at_new (by first | (simp; done) | (simp; omega)) | refine at_old (by simp <;> omega) ?_)
  have hsz : W8.heap.size = s + 3 := by subst hs0 hW8; simp
  have hB0 : Below s w W8 := by
    subst hs0 hW8
    exact ((((Below.refl _ w).alloc (Nat.le_refl _) _).alloc (by simp) _).alloc (by simp; omega) _)
  have hA8 := hA.below (hs0 ▸ hB0)
  have hB8 := hB.below (hs0 ▸ hB0)
  rw [← hs0]
  simp only [Nat.add_assoc, Nat.reduceAdd]
  rw [hW8]
  clear hW8
  have HS := Lib.hid hs0
  clear hs0
  refine wpIn_rangeX (w0 := W8) rfl (by omega) (gf := 133) (lb := #[.pointer (some ⟨s + 1, 0, none⟩), .pointer (some ⟨s + 2, 0, none⟩)]) rfl trivial (enters_of Tryz.func133 (by kernel_rfl) rfl)
    (rests_seq A c a B d b (s + 1) (s + 2) (by omega) W8 (by omega) (by omega) bA bB hA8 hB8) (fun X Y h k h1 h2 => h.block k h2 (by omega) (by omega))
    KpU.t (fun W l o o' h1 h2 h3 h4 => KpU.bk W l o o' h1 h2 h3 h4) (Below.refl _ _) (fun _ => rfl) (own_euH a b _) (own_euS a b _) (own_euP a b _)
    (fun pre W => QsI a b s pre W ∧ Below s w W ∧ s + 3 ≤ W.heap.size) (fun _ _ _ => False)
    ?own (fun _ _ _ _ _ hs _ _ => hs) ?mv ?start
    (fun x => { tmps := #[.slice A (nl a) c, .slice B (nl b) d, undef, undef, .slice none 0 0, .pointer (some ⟨s, 0, none⟩), .slice x.A (nl x.a) x.c, .slice x.B (nl x.b) x.d, undef, undef, undef, .slice A (nl a) c, .slice B (nl b) d,
      .func (.func 133) #[] #[.pointer (some ⟨s + 1, 0, none⟩), .pointer (some ⟨s + 2, 0, none⟩)], .slice x.A (nl x.a) x.c, .slice x.B (nl x.b) x.d, undef, undef, undef, undef, undef, undef, undef, undef, undef, undef, undef, undef, undef, undef, undef], defers := [] }) ?assign ?body ?done ?stop
  case own =>
    refine OwnFrom.and ?_ (OwnFrom.and (ownFrom_below (Nat.le_of_eq HS.out) (by omega)) (own_size _ _))
    intro xs W W' row h hg hr
    have hr2 : ∀ r, row = some r → ∃ o : Obj, W.heap[r]? = some o ∧ o.isCells = false := fun r e => (hr r e).2
    have key : ∀ (g : Nat) (o : Obj), W.heap[g]? = some o → o.isCells = true → W'.heap[g]? = some o := fun g o ho hc =>
      (hg.block g (Array.getElem?_eq_some_iff.1 ho).1 (fun e => by obtain ⟨o', h2, h3⟩ := hr2 g e.symm; rw [ho] at h2; cases h2; rw [hc] at h3; cases h3)).trans ho
    exact h.move (fun o hc ho => key s o ho hc) (fun g o _ ho hc => key g o ho hc) (fun A c n hN => hN.kept hg hr2)
  case mv =>
    rintro x Y Z ⟨h1, h2, h3⟩ hm
    exact ⟨h1.move (fun o _ ho => (hm.block s (Array.getElem?_eq_some_iff.1 ho).1 (by omega) (by omega)).trans ho) (fun g o hg ho _ => (hm.block g (Array.getElem?_eq_some_iff.1 ho).1 (by omega) (by omega)).trans ho) (fun A c n hN => hN.mvu hm), mvu_below h2 hm (by omega) (by omega) (by omega), Nat.le_trans h3 hm.size⟩
  case start => exact ⟨⟨.slice none 0 0, [], 0, bO, notU_slice _ _ _, World.ownsRow_nil _ _ _ _, nu_none _ _ _, fun j hj => by simp at hj, .inl ⟨rfl, fun i hi => by omega⟩⟩, hB0, by omega⟩
  case assign =>
    intro l x W K hK
    simp only [It.enc]
    gi_wp2
    exact hK
  case stop =>
    rintro D cc pre W hD hP h hK
    exact h.elim
  case done =>
    rintro D ys W hD ⟨pre, x, rfl, hE, hx0⟩ ⟨⟨v, xs, k, hO, hnv, hown, hnu, hqr, hk⟩, hB, hs3⟩ hK
    have hxb : (euc a b pre.length).2 = 0 := by rw [← hE.2.1]; exact hx0
    have hkn : k = eun a b := by
      rcases hk with ⟨rfl, h⟩ | ⟨h1, h2, h3⟩
      · exact absurd hxb (h pre.length (by simp))
      · exact eun_eq h2 h3
    clear hk
    have qO := hO.c (i := 0) rfl
    replace hkn := Lib.hid hkn
    clear hE hx0 hxb
    gi_wp2_with (fail)
    have hg := grownBy_putObj' W D (.deferred none)
    have hr : ∀ r, some D = some r → ∃ o : Obj, W.heap[r]? = some o ∧ o.isCells = false := fun r e => by cases e; exact ⟨_, hK, rfl⟩
    have hp : Below s w (W.putObj D (.deferred none)) := hB.trans (belowK_b (w := W8) (by omega) W D _ _ hD hK rfl rfl)
    have hown2 := own_same (w' := W.putObj D (.deferred none)) hown (fun g o hgo ho hc => (hg.block g (Array.getElem?_eq_some_iff.1 ho).1 (fun e => by obtain ⟨o', h2, h3⟩ := hr g e.symm; rw [ho] at h2; cases h2; rw [hc] at h3; cases h3)).trans ho)
    have hqr2 := hqr.map (W' := W.putObj D (.deferred none)) (fun A c n hN => hN.kept hg hr)
    obtain ⟨V, cv, rfl, hql, hmx⟩ := ql_of hown2 hqr2
    refine ⟨by simp, .inl ⟨_, _, rfl, run_takeDeferred hK, ?_⟩⟩
    refine ⟨_, results_tmp rfl _ _ _, ?_⟩
    rw [← hkn.out]
    exact ⟨V, cv, rfl, hql, hmx, hp.mono (Nat.le_of_eq HS.out.symm)⟩
  case body =>
    rintro l pre ⟨XA, xc, xa, YA, yd, yb⟩ W ⟨hQ, hB, hs3⟩ hE
    obtain ⟨⟨hX, hY⟩, hxy, hnz⟩ := hE
    simp only at hX hY hxy
    have hL := euc_nl la lb pre.length
    rw [← hxy] at hL
    simp only at hL
    have hyb : yb = (euc a b pre.length).2 := by rw [← hxy]
    have hxa : xa = (euc a b pre.length).1 := by rw [← hxy]
    replace hxy := Lib.hid hxy
    replace hyb := Lib.hid hyb
    replace hxa := Lib.hid hxa
    obtain ⟨v, xs, k, hO, hnv, hown, hnu, hqr, hk⟩ := hQ
    have hkl : k = pre.length := by
      rcases hk with ⟨h, _⟩ | ⟨h1, h2, _⟩
      · exact h
      · exact absurd h2 (hnz k (by omega))
    subst hkl
    clear hk
    by_cases hy : yb = 0
    · have t1 : decide (0 < (nl yb : Int)) = false := by rw [hy, nl_zero]; rfl
      have t2 : decide (0 < nl yb) = false := by rw [hy, nl_zero]; rfl
      replace hy := Lib.hid hy
      gi_wp2_with (fail)
      exact ⟨KeepsOthers.refl _, kpu_below (Below.refl _ _), ⟨v, xs, pre.length, hO, hnv, hown, hnu, hqr, .inr ⟨by simp, by rw [← hyb.out]; exact hy.out, hnz⟩⟩, hB, hs3⟩
    · have t1 : decide (0 < (nl yb : Int)) = true := by have := nl_pos.2 hy; simp; omega
      have t2 : decide (0 < nl yb) = true := by have := nl_pos.2 hy; simp; omega
      have hy0 : 0 < yb := Nat.pos_of_ne_zero hy
      have CD := ddivmod_c XA xc xa YA yd yb W hX hY (by omega) (by omega) hy0
      obtain ⟨q, Eq⟩ : ∃ z, z = xa / yb := ⟨_, rfl⟩
      rw [← Eq] at CD
      have hqq : q = quo a b pre.length := by rw [Eq, hxa.out, hyb.out]; rfl
      have hst := euc_steps (a := a) (b := b) (k := pre.length) hnz
      have hk1 : pre.length + 1 ≤ 600000 := by omega
      replace Eq := Lib.hid Eq
      replace hqq := Lib.hid hqq
      replace CD := Lib.hid CD
      replace hst := Lib.hid hst
      gi_wp2_with (fail)
      refine ⟨trivial, ?_⟩
      refine (callsIn_wide.2 CD.out).mono ?_
      rintro e W2 ⟨Q, cq, R, cr, rfl, hQ, hRr, hb2⟩
      have hO2 := hO.below hb2
      have qO := hO2.c (i := 0) rfl
      obtain ⟨W3, hW3⟩ : ∃ W3, W3 = W2.alloc (.cells #[.slice Q (nl q) cq] 22) := ⟨_, rfl⟩
      have hb3 : Below W2.heap.size W2 W3 := by rw [hW3]; exact (Below.refl _ _).alloc (Nat.le_refl _) _
      have hnew : BoxA W3 W2.heap.size 22 #[.slice Q (nl q) cq] := by rw [hW3]; exact ⟨at_new rfl⟩
      have hb23 := hb2.cons hb3
      have hown3 := own_same (w' := W3) hown (fun g o _ ho _ => heap_below hb23 ho)
      have hnu3 := hnu.below hb23
      have hO3 := hO.below hb23
      have hQ3 := hQ.below hb3
      have hqr3 := hqr.map (W' := W3) (fun A c n hN => hN.below hb23)
      have hB3 : Below s w W3 := hB.trans (hb23.mono (by omega))
      have hsz3 : s + 3 ≤ W3.heap.size := Nat.le_trans hs3 hb23.size
      have hk63 : pre.length + 1 ≤ maxLen := by simp only [maxLen]; omega
      have hkby : (pre.length + 1) * 24 ≤ 140737488355328 := by omega
      have hnews : ∀ j u, ([.slice Q (nl q) cq] : List Value)[j]? = some u → W3.cell? ((⟨W2.heap.size, 0, none⟩ : Addr).add j) = some u := by
        intro j u hu
        have hj : j = 0 := by
          cases j with
          | zero => rfl
          | succ j => simp at hu
        subst hj
        simp at hu
        subst hu
        have h := hnew.c (i := 0) rfl
        simpa [Addr.add] using h
      have hKB := Lib.hid hB3
      clear hB hb2 hb3 hown hnu hO2 hX hY hO hRr hQ hqr
      have HX : ∀ (v' : Value) (w' : World), w'.ownsRow (s + 3) 22 1 v' (pre.length + 1) (xs ++ [.slice Q (nl q) cq]) → W3.grownBy w' v.ownBlock → NU w' v' → NotU v' ∧ BoxA w' s 48 #[v] ∧ KeepsOthers W (w'.setCell ⟨s, 0, none⟩ v') ∧ KpU (s + 1) (s + 2) W (w'.setCell ⟨s, 0, none⟩ v') ∧ (QsI a b s (pre ++ [(⟨XA, xc, xa, YA, yd, yb⟩ : It)]) (w'.setCell ⟨s, 0, none⟩ v')) ∧ Below s w (w'.setCell ⟨s, 0, none⟩ v') ∧ s + 3 ≤ (w'.setCell ⟨s, 0, none⟩ v').heap.size := by
        intro v' w' ho hg hn
        have hgs : ∀ g, v.ownBlock = some g → s + 3 ≤ g := fun g h => own_base hown3 h
        have hnb : ∀ k, k < s + 3 → some k ≠ v.ownBlock := fun k hk e => by have := hgs k e.symm; omega
        have hOw : BoxA w' s 48 #[v] := ⟨(hg.block s hO3.lt (hnb s (by omega))).trans hO3.at_⟩
        have hnv' : NotU v' := by
          rcases ho.2 with ⟨rfl, _⟩ | ⟨g, cap, cur, rfl, _⟩ <;> exact notU_slice _ _ _
        have hf : ∀ j, j ≠ s → (w'.setCell ⟨s, 0, none⟩ v').heap[j]? = w'.heap[j]? := fun j hj => Below.heap_setCell _ _ _ _ (by simpa using hj)
        have ko1 : KeepsOthers W3 w' := KeepsOthers.of_grownBy hg (fun j o hj ho' => by
          obtain ⟨cur, e, h1, _⟩ := hnu3 j hj
          rw [ho'] at h1; cases h1; rfl)
        have kp1 : KpU (s + 1) (s + 2) W3 w' := ⟨u_grown hnu3 hg, fun o _ e => (hg.block (s + 1) (Array.getElem?_eq_some_iff.1 e).1 (hnb (s + 1) (by omega))).trans e, fun o _ e => (hg.block (s + 2) (Array.getElem?_eq_some_iff.1 e).1 (hnb (s + 2) (by omega))).trans e⟩
        have hNk : ∀ (A : Option Addr) (c n : Nat), NatV W3 A c n → NatV (w'.setCell ⟨s, 0, none⟩ v') A c n := fun A c n hN => hOw.keep (nu1 hnv) hf (hN.grown hnu3 hg)
        have hlx : xs.length = pre.length := by have := hown3.1; omega
        refine ⟨hnv', hOw, (ko_below hb23).trans (ko1.trans (ko_far hOw size1 hf)), (kpu_below hb23).t (kp1.t (kpu_far hOw (nu1 hnv) hf (by omega) (by omega))), ⟨v', _, pre.length + 1, hOw.set1, hnv', own_same ho (fun g o hgo ho' _ => (hf g (by have := own_base ho hgo; omega)).trans ho'), hn.same (fun g o hgo ho' _ => (hf g (by have := own_base ho hgo; omega)).trans ho'), ?_, .inl ⟨by simp, ?_⟩⟩, ?_, ?_⟩
        · intro j hj
          simp only [List.length_append, List.length_cons, List.length_nil] at hj
          by_cases e : j = pre.length
          · subst e
            refine ⟨Q, cq, ?_, ?_⟩
            · rw [← hqq.out, List.getElem?_append_right (by omega), hlx, Nat.sub_self]; rfl
            · rw [← hqq.out]; exact hNk _ _ _ hQ3
          · obtain ⟨X, cx, e1, e2⟩ := hqr3 j (by omega)
            exact ⟨X, cx, by rw [List.getElem?_append_left (by omega)]; exact e1, hNk _ _ _ e2⟩
        · intro i hi
          by_cases e : i = pre.length
          · rw [e, ← hyb.out]; exact hy
          · exact hnz i (by omega)
        · have hg' : Below s w w' := hKB.out.trans ⟨hg.os, hg.tape, hg.output, hg.size, fun k hk => hg.block k (by omega) (hnb k (by omega))⟩
          exact hg'.setCell (p := ⟨s, 0, none⟩) (Nat.le_refl _) _
        · rw [size1]; exact Nat.le_trans hsz3 hg.size
      replace HX := Lib.hid HX
      replace hy := Lib.hid hy
      clear hO3 hqr3 hQ3 hb23
      gi_wp2_with (gi_at_builtin; rw [← hW3]; refine wpListIn_append_nu _ rfl (.tmp 26) (.tmp 28) 48 rfl (s + 3) 22 i0 (.slice none 0 0) 1 24 Tryz.underlying48 hi hz0 hz1 hz2 rfl (by decide) v pre.length xs rfl hown3 ⟨W2.heap.size, 0, none⟩ 1 1 [.slice Q (nl q) cq] rfl rfl hnews (by intro u hu; simp at hu; subst hu; rfl) hk63 hkby hsz3 (by decide) hnu3 (by intro u hu; simp [Value.cells] at hu; subst hu; exact notU_slice _ _ _) (by intro u hu; simp at hu; subst hu; exact notU_slice _ _ _) ?_; intro v' w' hn1 hn2 hn3; obtain ⟨V, cV, rfl⟩ := own_shape hn1; obtain ⟨x1, x2, x3⟩ := HX.out _ w' hn1 hn2 hn3; have cz0 := x2.c (i := 0) rfl; have fz0 := x2.f (i := 0))
      exact x3
end Go.Proofs.YthcmoimlnhghcaaGreatDoor

/- A region that draws its order and writes nothing that was there: what each operation yields is told by a kind, whatever the order. -/
set_option linter.unusedVariables false
set_option linter.unusedSimpArgs false
namespace Go.Proofs.YthcmoimlnhghcaaGreatDoor
open Go.RowKit Go.Shelf

/-- What an operation yields. -/
inductive Kd where
  | val (v : Value)
  | nat (n : Nat)
  | one (n : Nat)
  | int (z : Int)
  | qs (f : Nat → Nat) (n : Nat)
def Kd.R : Kd → Value → World → Prop
  | .val v, u, _ => u = v
  | .nat n, u, w => ∃ X c, u = .slice X (nl n) c ∧ NatV w X c n
  | .one n, u, w => ∃ X c, u = .slice X 1 c ∧ NatV w X c n ∧ nl n = 1
  | .int z, u, w => ∃ X c, u = .agg #[.bool (sg z), .slice X (nl (mg z)) c] ∧ NatV w X c (mg z)
  | .qs f n, u, w => ∃ V c, u = .slice V n c ∧ QL f w V n
theorem Kd.keep : ∀ (k : Kd) (u : Value) (W W' : World), Below W.heap.size W W' → k.R u W → k.R u W'
  | .val v, u, W, W', hb, h => h
  | .nat n, u, W, W', hb, ⟨X, c, h1, h2⟩ => ⟨X, c, h1, h2.below hb⟩
  | .one n, u, W, W', hb, ⟨X, c, h1, h2, h3⟩ => ⟨X, c, h1, h2.below hb, h3⟩
  | .int z, u, W, W', hb, ⟨X, c, h1, h2⟩ => ⟨X, c, h1, h2.below hb⟩
  | .qs f n, u, W, W', hb, ⟨V, c, h1, h2⟩ => ⟨V, c, h1, h2.below hb⟩
def kdAt (ks : List Kd) (i : Nat) : Kd := ks.getD i (.val undef)
/-- Each operation writes a slot of its own. -/
def dstOk (ops : List Oper) (n : Nat) : Bool := ops.all (fun o => match o.dst with | some k => decide (k < n) | none => false) && decide ((ops.map (fun o => o.dst.getD 0)).Nodup)
/-- What holds while the region runs. -/
structure MSt (ops : Array Oper) (a0 : Act) (w0 : World) (ks : List Kd) (E : Nat → Bool) (a : Act) (w : World) : Prop where
  d : a.defers = a0.defers
  z : a.tmps.size = a0.tmps.size
  old : ∀ k, (ops.toList.all (fun o => o.dst != some k)) = true → a.tmps[k]? = a0.tmps[k]?
  new : ∀ i k, ((ops.toList[i]?).bind (fun o => o.dst)) = some k → E i = true → ∃ v, a.tmps[k]? = some v ∧ (kdAt ks i).R v w
  b : Below w0.heap.size w0 w
/-- One operation's duty. -/
def StepOk (P : Program) (ops : Array Oper) (Q : Exit → Act → World → Prop) (a0 : Act) (w0 : World) (ks : List Kd) (i : Nat) (o : Oper) : Prop :=
  ∀ E a w, MSt ops a0 w0 ks E a w → (∀ e ∈ o.after, Region.binds .any e = true → E e.on = true) → wpOp P ops Q i (fun a' w' => ∃ v, a' = a.put o.dst v ∧ (kdAt ks i).R v w' ∧ Below w.heap.size w w') a w
def AllSteps (P : Program) (ops : Array Oper) (Q : Exit → Act → World → Prop) (a0 : Act) (w0 : World) (ks : List Kd) : Nat → List Oper → Prop
  | _, [] => True
  | i, o :: r => StepOk P ops Q a0 w0 ks i o ∧ AllSteps P ops Q a0 w0 ks (i + 1) r
theorem allSteps_get {P : Program} {ops : Array Oper} {Q : Exit → Act → World → Prop} {a0 : Act} {w0 : World} {ks : List Kd} : ∀ (l : List Oper) (b : Nat), AllSteps P ops Q a0 w0 ks b l → ∀ (j : Nat) (o : Oper), l[j]? = some o → StepOk P ops Q a0 w0 ks (b + j) o
  | [], b, h, j, o, ho => by simp at ho
  | x :: r, b, h, j, o, ho => by
    cases j with
    | zero => simp at ho; subst ho; exact h.1
    | succ j =>
      have := allSteps_get r (b + 1) h.2 j o (by simpa using ho)
      rw [show b + (j + 1) = b + 1 + j by omega]; exact this
theorem nodup_get : ∀ (l : List Nat), l.Nodup → ∀ (i j x : Nat), l[i]? = some x → l[j]? = some x → i = j
  | [], _, i, j, x, hi, _ => by simp at hi
  | y :: r, h, i, j, x, hi, hj => by
    rw [List.nodup_cons] at h
    cases i with
    | zero =>
      simp at hi
      cases j with
      | zero => rfl
      | succ j => simp at hj; exact absurd (List.mem_of_getElem? hj) (by rw [← hi]; exact h.1)
    | succ i =>
      simp at hi
      cases j with
      | zero => simp at hj; exact absurd (List.mem_of_getElem? hi) (by rw [← hj]; exact h.1)
      | succ j => simp at hj; rw [nodup_get r h.2 i j x hi hj]
theorem wp_region_mono {P : Program} {ops : Array Oper} {Q : Exit → Act → World → Prop} {id : Nat} {a0 : Act} {w0 : World} (ks : List Kd) (hm : P.follows .mixedOrders = true)
    (hd : edgesDown ops = true) (hn : dstOk ops.toList a0.tmps.size = true)
    (hs : AllSteps P ops Q a0 w0 ks 0 ops.toList)
    (hq : ∀ a w, MSt ops a0 w0 ks (fun _ => true) a w → Q .normal a w) : (Code.region id ops true).wp P Q a0 w0 := by
  unfold dstOk at hn
  rw [Bool.and_eq_true] at hn
  obtain ⟨hn1, hn2⟩ := hn
  have hn2 := of_decide_eq_true hn2
  have hdst : ∀ (i : Nat) (o : Oper), ops.toList[i]? = some o → ∃ k, o.dst = some k ∧ k < a0.tmps.size := by
    intro i o ho
    have := List.all_eq_true.1 hn1 o (List.mem_of_getElem? ho)
    split at this
    · rename_i k hk; exact ⟨k, hk, of_decide_eq_true this⟩
    · cases this
  have huniq : ∀ (i j : Nat) (o o' : Oper) (k : Nat), ops.toList[i]? = some o → ops.toList[j]? = some o' → o.dst = some k → o'.dst = some k → i = j := by
    intro i j o o' k hi hj h1 h2
    refine nodup_get _ hn2 i j k ?_ ?_
    · rw [List.getElem?_map, hi]; simp [h1]
    · rw [List.getElem?_map, hj]; simp [h2]
  refine wp_region_inv (fun E a w => MSt ops a0 w0 ks E a w ∧ (∀ i, E i = true → i < ops.size)) hm hd ⟨⟨rfl, rfl, fun _ _ => rfl, fun i k _ h => (Bool.noConfusion h), (Below.refl _ _).drew⟩, fun i h => (Bool.noConfusion h)⟩ ?_ ?_
  · rintro E a w ⟨st, hlt⟩ hall
    refine hq a w ⟨st.d, st.z, st.old, fun i k hk _ => st.new i k hk (hall i ?_), st.b⟩
    have : i < ops.toList.length := by
      rcases Nat.lt_or_ge i ops.toList.length with h | h
      · exact h
      · rw [List.getElem?_eq_none h] at hk; cases hk
    simpa using this
  · rintro E a w i ⟨st, hlt⟩ hi hE hdep
    obtain ⟨o, ho⟩ : ∃ o, ops[i]? = some o := ⟨ops[i], Array.getElem?_eq_getElem hi⟩
    have hol : ops.toList[i]? = some o := by rw [Array.getElem?_toList]; exact ho
    have hstep := allSteps_get ops.toList 0 hs i o hol
    rw [Nat.zero_add] at hstep
    obtain ⟨k, hk, hkz⟩ := hdst i o hol
    refine wpOp_mono ?_ (hstep E a w st (hdep o ho))
    rintro a' w' ⟨v, rfl, hv, hb⟩
    rw [hk]
    refine ⟨⟨st.d, ?_, ?_, ?_, st.b.cons hb⟩, ?_⟩
    · simp only [Act.put, Array.size_setIfInBounds]; exact st.z
    · intro j hj
      have hne : j ≠ k := fun e => by
        have := List.all_eq_true.1 hj o (List.mem_of_getElem? hol)
        rw [hk, e] at this
        simp at this
      simp only [Act.put]
      rw [Array.getElem?_setIfInBounds_ne (Ne.symm hne)]
      exact st.old j hj
    · intro j kj hj hEj
      by_cases e : j = i
      · subst e
        rw [hol] at hj
        simp only [Option.bind_some] at hj
        rw [hk] at hj; cases hj
        exact ⟨v, by simp only [Act.put]; rw [Array.getElem?_setIfInBounds_self]; rw [if_pos (by rw [st.z]; exact hkz)], hv⟩
      · simp only [if_neg e] at hEj
        obtain ⟨u, h1, h2⟩ := st.new j kj hj hEj
        obtain ⟨oj, hoj, hkj⟩ : ∃ oj, ops.toList[j]? = some oj ∧ oj.dst = some kj := by
          cases h : ops.toList[j]? with
          | none => rw [h] at hj; cases hj
          | some oj => rw [h] at hj; exact ⟨oj, rfl, hj⟩
        have hne : k ≠ kj := fun e2 => e (huniq j i oj o kj hoj hol hkj (by rw [hk, e2]))
        refine ⟨u, by simp only [Act.put]; rw [Array.getElem?_setIfInBounds_ne hne]; exact h1, Kd.keep _ _ _ _ hb h2⟩
    · intro j hj
      by_cases e : j = i
      · rw [e]; exact hi
      · simp only [if_neg e] at hj; exact hlt j hj
theorem wpOp_want {P : Program} {ops : Array Oper} {Q : Exit → Act → World → Prop} {i : Nat} {o : Oper} {a : Act} {w : World} {K : Act → World → Prop} (ho : ops.toList[i]? = some o) (hw : Region.wanted o (yielded ops a.tmps) = true)
    (h : ∀ K' : Act → World → Prop, Shut (∀ a w, K a w → K' a w) → Oper.wp P o a w K' Q) : wpOp P ops Q i K a w := by
  unfold wpOp
  rw [show ops[i]? = some o by rw [← Array.getElem?_toList]; exact ho]
  simp only [hw, if_true]
  exact .inl (h _ (fun a w h => h))
end Go.Proofs.YthcmoimlnhghcaaGreatDoor

/- Naturals as numbers, one bit; leading parts of two naturals, and the steps that they tell. -/
set_option linter.unusedVariables false
set_option linter.unusedSimpArgs false
namespace Go.Proofs.YthcmoimlnhghcaaGreatDoor
open Go.RowKit Go.Shelf
attribute [local go_sem] max2_i min2_i max_two min_two

theorem max_four (ats : Array TypeId) (ty : TypeId) (a b c d : Value) : Builtin.max_ ats ty #[a, b, c, d] = (Builtin.max2 a b >>= fun s => Builtin.max2 s c >>= fun s => Builtin.max2 s d >>= fun s => pure s) := by simp only [Builtin.max_, List.foldlM_cons, List.foldlM_nil]
attribute [local go_sem] max_four
theorem lead_two {x y : Nat} (hx : x < 4294967296) (hy : y < 4294967296) : bits .or .u64 (x : Int) ((y : Int) * 4294967296) = ((y * 4294967296 + x : Nat) : Int) := by
  have e : ((y : Int) * 4294967296) = ((y * 4294967296 : Nat) : Int) := by simp
  rw [e, u64_or_nat _ _ (by omega) (by omega)]
  congr 1
  rw [Nat.or_comm, Nat.mul_comm, show 4294967296 = 2 ^ 32 from rfl, ← Nat.two_pow_add_eq_or_of_lt (i := 32) (by omega)]
theorem or_zero64 {x : Nat} (hx : x < 18446744073709551616) : bits .or .u64 0 (x : Int) = (x : Int) := by
  have := u64_or_nat 0 x (by omega) hx
  rw [Nat.zero_or] at this; exact this
theorem low_parts {a : Nat} (h : nl a ≤ 2) : a = gl (limbs a) 1 * 4294967296 + gl (limbs a) 0 := by
  have h1 := nl_le.1 h
  rw [limbs_gl, limbs_gl]
  have : a < 18446744073709551616 := h1
  simp only [Nat.pow_zero, Nat.div_one, Nat.pow_one]
  omega
theorem low_0 (A : Option Addr) (c a : Nat) (w : World) (hA : NatV w A c a) (hn : nl a = 0) :
    Calls Tryz.prog 98 #[.slice A 0 c] w fun e w' => e = .returned (.tuple #[.int .u64 (a : Nat), .bool true]) ∧ w' = w := by
  have hp := low_parts (a := a) (by omega)
  obtain ⟨x0, hx0⟩ : ∃ x, x = gl (limbs a) 0 := ⟨_, rfl⟩
  have hl0 : x0 < 4294967296 := by rw [hx0]; exact (lim_limbs a).gl 0
  obtain ⟨x1, hx1⟩ : ∃ x, x = gl (limbs a) 1 := ⟨_, rfl⟩
  have hl1 : x1 < 4294967296 := by rw [hx1]; exact (lim_limbs a).gl 1
  rw [← hx0, ← hx1] at hp
  have z1 : x1 = 0 := by rw [hx1, limbs_gl, div_nl (by omega)]
  have z0 : x0 = 0 := by rw [hx0, limbs_gl, div_nl (by omega)]
  have za : a = 0 := by omega
  have W0 : IntKind.u64.wrap (x0 : Int) = (x0 : Int) := by simp [IntKind.wrap, IntKind.signed, IntKind.bits]; omega
  replace hp := Lib.hid hp
  replace hx0 := Lib.hid hx0
  replace hx1 := Lib.hid hx1
  go_enter Tryz.func98, Tryz.ntmps98
  go_wp2_with (fail)
  refine wp_loop_rounds 1 ?_
  rw [rounds_succ]
  go_wp2_with (fail)
  refine bodyPost_ret (v := .tuple #[.int .u64 (a : Nat), .bool true]) (by simp [results, Tryz.results98, go_sem, za]) rfl ⟨rfl, rfl⟩
theorem low_1 (A : Option Addr) (c a : Nat) (w : World) (hA : NatV w A c a) (hn : nl a = 1) :
    Calls Tryz.prog 98 #[.slice A 1 c] w fun e w' => e = .returned (.tuple #[.int .u64 (a : Nat), .bool true]) ∧ w' = w := by
  have hp := low_parts (a := a) (by omega)
  obtain ⟨x0, hx0⟩ : ∃ x, x = gl (limbs a) 0 := ⟨_, rfl⟩
  have hl0 : x0 < 4294967296 := by rw [hx0]; exact (lim_limbs a).gl 0
  obtain ⟨x1, hx1⟩ : ∃ x, x = gl (limbs a) 1 := ⟨_, rfl⟩
  have hl1 : x1 < 4294967296 := by rw [hx1]; exact (lim_limbs a).gl 1
  rw [← hx0, ← hx1] at hp
  obtain ⟨ad, rfl, hc0⟩ := hA.rd.get 0 (by unfold nl at hn; omega)
  rw [← hx0, show ad.add 0 = ad by cases ad; simp [Addr.add]; try (split <;> simp)] at hc0
  have hc0' : w.cell? (ad.add 0) = some (.int .u32 (x0 : Nat)) := by rw [show ad.add 0 = ad by cases ad; simp [Addr.add]; try (split <;> simp)]; exact hc0
  have o0 := or_zero64 (x := x0) (by omega)
  have o0' : bits .or .u64 0 ((x0 : Int) * 1) = (x0 : Int) := by rw [Int.mul_one]; exact o0
  have z1 : x1 = 0 := by rw [hx1, limbs_gl, div_nl (by omega)]
  have za : a = x0 := by omega
  have W0 : IntKind.u64.wrap (x0 : Int) = (x0 : Int) := by simp [IntKind.wrap, IntKind.signed, IntKind.bits]; omega
  replace hp := Lib.hid hp
  replace hx0 := Lib.hid hx0
  replace hx1 := Lib.hid hx1
  go_enter Tryz.func98, Tryz.ntmps98
  go_wp2_with (fail)
  refine wp_loop_rounds 2 ?_
  rw [rounds_succ]
  go_wp2_with (fail)
  rw [rounds_succ]
  go_wp2_with (fail)
  refine bodyPost_ret (v := .tuple #[.int .u64 (a : Nat), .bool true]) (by simp [results, Tryz.results98, go_sem, za]) rfl ⟨rfl, rfl⟩
theorem low_2 (A : Option Addr) (c a : Nat) (w : World) (hA : NatV w A c a) (hn : nl a = 2) :
    Calls Tryz.prog 98 #[.slice A 2 c] w fun e w' => e = .returned (.tuple #[.int .u64 (a : Nat), .bool true]) ∧ w' = w := by
  have hp := low_parts (a := a) (by omega)
  obtain ⟨x0, hx0⟩ : ∃ x, x = gl (limbs a) 0 := ⟨_, rfl⟩
  have hl0 : x0 < 4294967296 := by rw [hx0]; exact (lim_limbs a).gl 0
  obtain ⟨x1, hx1⟩ : ∃ x, x = gl (limbs a) 1 := ⟨_, rfl⟩
  have hl1 : x1 < 4294967296 := by rw [hx1]; exact (lim_limbs a).gl 1
  rw [← hx0, ← hx1] at hp
  obtain ⟨ad, rfl, hc0⟩ := hA.rd.get 0 (by unfold nl at hn; omega)
  obtain ⟨ad', e', hc1⟩ := hA.rd.get 1 (by unfold nl at hn; omega)
  cases e'
  rw [← hx0, show ad.add 0 = ad by cases ad; simp [Addr.add]; try (split <;> simp)] at hc0
  have hc0' : w.cell? (ad.add 0) = some (.int .u32 (x0 : Nat)) := by rw [show ad.add 0 = ad by cases ad; simp [Addr.add]; try (split <;> simp)]; exact hc0
  have o0 := or_zero64 (x := x0) (by omega)
  have o0' : bits .or .u64 0 ((x0 : Int) * 1) = (x0 : Int) := by rw [Int.mul_one]; exact o0
  rw [← hx1] at hc1
  have hc1' : w.cell? ⟨ad.block, ad.off + 1, none⟩ = some (.int .u32 (x1 : Nat)) := by have h := hc1; unfold Addr.add at h; rw [if_neg (by decide)] at h; exact h
  have o1 := lead_two hl0 hl1
  rw [← hp] at o1
  have W1 : IntKind.u64.wrap ((x1 : Int) * 4294967296) = (x1 : Int) * 4294967296 := by simp [IntKind.wrap, IntKind.signed, IntKind.bits]; omega
  have W0 : IntKind.u64.wrap (x0 : Int) = (x0 : Int) := by simp [IntKind.wrap, IntKind.signed, IntKind.bits]; omega
  replace hp := Lib.hid hp
  replace hx0 := Lib.hid hx0
  replace hx1 := Lib.hid hx1
  go_enter Tryz.func98, Tryz.ntmps98
  go_wp2_with (fail)
  refine wp_loop_rounds 3 ?_
  rw [rounds_succ]
  go_wp2_with (fail)
  rw [rounds_succ]
  go_wp2_with (fail)
  rw [rounds_succ]
  go_wp2_with (fail)
  refine bodyPost_ret (v := .tuple #[.int .u64 (a : Nat), .bool true]) (by simp [results, Tryz.results98, go_sem]) rfl ⟨rfl, rfl⟩
theorem low_c (A : Option Addr) (c a : Nat) (w : World) (hA : NatV w A c a) (ha : nl a ≤ 2) :
    Calls Tryz.prog 98 #[.slice A (nl a) c] w fun e w' => e = .returned (.tuple #[.int .u64 (a : Nat), .bool true]) ∧ w' = w := by
  obtain h | h | h : nl a = 0 ∨ nl a = 1 ∨ nl a = 2 := by omega
  · rw [h]; exact low_0 A c a w hA h
  · rw [h]; exact low_1 A c a w hA h
  · rw [h]; exact low_2 A c a w hA h
theorem lowNot_c (A : Option Addr) (c n : Nat) (w : World) (ha : 2 < n) :
    Calls Tryz.prog 98 #[.slice A n c] w fun e w' => e = .returned (.tuple #[.int .u64 0, .bool false]) ∧ w' = w := by
  have t1 : decide (2 < (n : Int)) = true := by simp; omega
  have t2 : decide (2 < n) = true := by simp; omega
  go_enter Tryz.func98, Tryz.ntmps98
  go_wp2_with (fail)
  exact bodyPost_ret (v := .tuple #[.int .u64 0, .bool false]) (by simp [results, Tryz.results98, go_sem]) rfl ⟨rfl, rfl⟩
theorem bit_c (A : Option Addr) (c a i : Nat) (w : World) (hA : NatV w A c a) (ha : nl a ≤ 1073741824) (hi1 : i ≤ 1099511627776) :
    Calls Tryz.prog 105 #[.slice A (nl a) c, .int .i64 (i : Nat)] w fun e w' => e = .returned (.int .u32 (a / 2 ^ i % 2 : Nat)) ∧ w = w' := by
  obtain ⟨q, hq⟩ : ∃ q, q = i / 32 := ⟨_, rfl⟩
  obtain ⟨s, hs⟩ : ∃ s, s = i % 32 := ⟨_, rfl⟩
  have hqI : (i : Int) / 32 = (q : Int) := by omega
  have hsI : (i : Int) % 32 = (s : Int) := by omega
  have hqT : (i : Int).tdiv 32 = (q : Int) := by rw [Int.tdiv_eq_ediv_of_nonneg (by omega)]; exact hqI
  have hsT : (i : Int).tmod 32 = (s : Int) := by rw [Int.tmod_eq_emod_of_nonneg (by omega)]; exact hsI
  have hsl : s < 32 := by omega
  have his : i = 32 * q + s := by omega
  have hql : q ≤ 1099511627776 := by omega
  have hv := bit_mid a q s hsl
  rw [← his] at hv
  obtain ⟨x, hx⟩ : ∃ x, x = gl (limbs a) q := ⟨_, rfl⟩
  have hxl : x < 4294967296 := by rw [hx]; exact (lim_limbs a).gl q
  have hx2 := hx
  rw [limbs_gl] at hx2
  rw [← hx2] at hv
  obtain ⟨y, hy⟩ : ∃ y, y = x / 2 ^ s := ⟨_, rfl⟩
  have hyI : (x : Int) / 2 ^ s = (y : Int) := by rw [hy, Int.natCast_ediv, Int.natCast_pow]; rfl
  have hyl : y < 4294967296 := by rw [hy]; exact Nat.lt_of_le_of_lt (Nat.div_le_self _ _) hxl
  have hand := and_one_u32 y hyl
  rw [hy, hv, ← hy] at hand
  have t1 : decide ((i : Int) < 0) = false := by simp
  have CA := at_c A (nl a) c (limbs a) q w rfl hA.rd hql (by omega)
  rw [← hx] at CA
  replace CA := Lib.hid CA
  replace hx := Lib.hid hx
  replace hx2 := Lib.hid hx2
  replace hv := Lib.hid hv
  replace hq := Lib.hid hq
  replace hs := Lib.hid hs
  replace his := Lib.hid his
  replace hy := Lib.hid hy
  go_enter Tryz.func105, Tryz.ntmps105
  go_wp2_with (fail)
  refine CA.out.mono ?_
  rintro e w' ⟨rfl, rfl⟩
  go_wp2_with (fail)
  go_ret
  exact ⟨rfl, rfl⟩
theorem lead_c (A : Option Addr) (c a n : Nat) (w : World) (hA : NatV w A c a) (ha : nl a ≤ 1073741824) (hn : n ≤ 1099511627776) (hl : a / 2 ^ n < 1152921504606846976) :
    Calls Tryz.prog 94 #[.slice A (nl a) c, .int .i64 (n : Nat)] w fun e w' => e = .returned (.int .i64 (a / 2 ^ n : Nat)) ∧ Below w.heap.size w w' := by
  have CS := shr_ci A c a (n : Int) w hA ha (Int.natCast_nonneg n) (by omega)
  rw [Int.toNat_natCast] at CS
  obtain ⟨x, hx⟩ : ∃ x, x = a / 2 ^ n := ⟨_, rfl⟩
  rw [← hx] at CS hl ⊢
  have hx2 : nl x ≤ 2 := nl_le.2 (Nat.lt_trans hl (by decide))
  have W1 : IntKind.i64.wrap (x : Int) = (x : Int) := IntWalk.i64_in _ (by omega)
  replace hx := Lib.hid hx
  replace CS := Lib.hid CS
  go_enter Tryz.func94, Tryz.ntmps94
  go_wp2_with (fail)
  refine CS.out.mono ?_
  rintro e w1 ⟨X, cx, rfl, hX, hb⟩
  go_wp2_with (fail)
  refine (low_c X cx x w1 hX hx2).mono ?_
  rintro e w2 ⟨rfl, hw⟩
  subst hw
  go_wp2_with (fail)
  go_ret
  exact ⟨rfl, hb⟩
end Go.Proofs.YthcmoimlnhghcaaGreatDoor

/- The steps that two leading parts tell. -/
set_option linter.unusedVariables false
set_option linter.unusedSimpArgs false
namespace Go.Proofs.YthcmoimlnhghcaaGreatDoor
open Go.RowKit Go.Shelf
attribute [local go_sem] max2_i min2_i max_two min_two

attribute [local go_sem] max_four
/-- What a call leaves that tells steps. -/
def RetMB (w : World) (p r : Nat) (e : Ending) (w' : World) : Prop := ∃ (m : Mx) (f : Bool) (A : Option Addr) (a : Nat) (B : Option Addr) (b : Nat) (C : Option Addr) (c : Nat) (D : Option Addr) (d : Nat),
  e = .returned (.tuple #[.agg #[.bool (sg m.a), .slice A (nl (mg m.a)) a, .bool (sg m.b), .slice B (nl (mg m.b)) b, .bool (sg m.c), .slice C (nl (mg m.c)) c, .bool (sg m.d), .slice D (nl (mg m.d)) d], .bool f]) ∧
  Lst p r m ∧ m.sz 1 ∧ (f = true → m.b ≠ 0) ∧ NatV w' A a (mg m.a) ∧ NatV w' B b (mg m.b) ∧ NatV w' C c (mg m.c) ∧ NatV w' D d (mg m.d) ∧ Below w.heap.size w w'
theorem bd_mul {q c K : Int} (h0 : 0 ≤ q) (h1 : q < K) (h2 : -K < c) (h3 : c < K) : -(K * K) ≤ q * c ∧ q * c ≤ K * K := by
  have hK : 0 ≤ K := by omega
  have a1 : q * c ≤ q * K := Int.mul_le_mul_of_nonneg_left (by omega) h0
  have a2 : q * (-K) ≤ q * c := Int.mul_le_mul_of_nonneg_left (by omega) h0
  have a3 : q * K ≤ K * K := Int.mul_le_mul_of_nonneg_right (by omega) hK
  rw [Int.mul_neg] at a2
  omega
theorem sz_small {a b c d : Int} (h1 : -1073741824 < a ∧ a < 1073741824) (h2 : -1073741824 < b ∧ b < 1073741824) (h3 : -1073741824 < c ∧ c < 1073741824) (h4 : -1073741824 < d ∧ d < 1073741824) : (⟨a, b, c, d⟩ : Mx).sz 1 := by
  refine ⟨nl_le.2 ?_, nl_le.2 ?_, nl_le.2 ?_, nl_le.2 ?_⟩ <;> simp only [mg, Nat.pow_one] <;> omega
theorem steps_c (p r : Nat) (w : World) (hp : p < 1152921504606846976) (hr : r < 1152921504606846976) :
    Calls Tryz.prog 93 #[.int .i64 (p : Nat), .int .i64 (r : Nat)] w (RetMB w p r) := by
  obtain ⟨hb1, Rr⟩ := bx1 w #[.bool false, .slice none 0 0, .bool false, .slice none 0 0, .bool false, .slice none 0 0, .bool false, .slice none 0 0] 89
  have HBT := hb1
  clear hb1
  go_enter Tryz.func93, Tryz.ntmps93
  go_wp2_with (fail)
  go_loop [0, 1, 6, 7, 8, 9, 10, 11, 12] (fun vx vy va vb vc vd vq ve vf => ∃ (a b c d x y : Int), vx = .int .i64 x ∧ vy = .int .i64 y ∧ va = .int .i64 a ∧ vb = .int .i64 b ∧ vc = .int .i64 c ∧ vd = .int .i64 d ∧ Hid (Lst p r ⟨a, b, c, d⟩) ∧ Hid (x = a * p + b * r) ∧ Hid (y = c * p + d * r) ∧ (-1073741824 < a ∧ a < 1073741824) ∧ (-1073741824 < b ∧ b < 1073741824) ∧ (-1073741824 < c ∧ c < 1073741824) ∧ (-1073741824 < d ∧ d < 1073741824)) (fun vx vy va vb vc vd vq ve vf => (intOf vy + intOf vc).toNat)
  case atStart => exact ⟨1, 0, 0, 1, p, r, rfl, rfl, rfl, rfl, rfl, rfl, Lib.hid (lst_one (by omega) (by omega)), Lib.hid (by omega), Lib.hid (by omega), by omega, by omega, by omega, by omega⟩
  case round =>
    obtain ⟨a, b, c, d, x, y, rfl, rfl, rfl, rfl, rfl, rfl, hL, hx, hy, ba, bb, bc, bd⟩ := hrel
    obtain ⟨P, EP⟩ : ∃ z : Int, z = x + a := ⟨_, rfl⟩
    have IP : x + a = P := EP.symm
    obtain ⟨S, ES⟩ : ∃ z : Int, z = x + b := ⟨_, rfl⟩
    have IS : x + b = S := ES.symm
    obtain ⟨R, ER⟩ : ∃ z : Int, z = y + c := ⟨_, rfl⟩
    have IR : y + c = R := ER.symm
    obtain ⟨T, ET⟩ : ∃ z : Int, z = y + d := ⟨_, rfl⟩
    have IT : y + d = T := ET.symm
    have hk := hL.out.k
    have hp0 := hL.out.p
    have hs0 := hL.out.s
    have hr0 := hL.out.r
    have ht0 := hL.out.t
    simp only [← hx.out, ← hy.out] at hk hp0 hs0 hr0 ht0
    have hxo : a = 1 ∧ b = 0 ∧ c = 0 ∧ d = 1 → x = p ∧ y = r := fun ⟨k1, k2, k3, k4⟩ => by have h1 := hx.out; have h2 := hy.out; rw [k1, k2] at h1; rw [k3, k4] at h2; omega
    have bP : 0 ≤ P ∧ P ≤ 1152921504606846977 := by rcases hk with k | k; (have := hxo k; omega); omega
    have bS : 0 ≤ S ∧ S ≤ 1152921504606846977 := by rcases hk with k | k; (have := hxo k; omega); omega
    have bR : 0 ≤ R ∧ R ≤ 1152921504606846977 := by rcases hk with k | k; (have := hxo k; omega); omega
    have bT : 0 ≤ T ∧ T ≤ 1152921504606846977 := by rcases hk with k | k; (have := hxo k; omega); omega
    have WP : IntKind.i64.wrap P = P := IntWalk.i64_in _ (by omega)
    have WS : IntKind.i64.wrap S = S := IntWalk.i64_in _ (by omega)
    have WR : IntKind.i64.wrap R = R := IntWalk.i64_in _ (by omega)
    have WT : IntKind.i64.wrap T = T := IntWalk.i64_in _ (by omega)
    clear hk hp0 hs0 hr0 ht0 hxo
    by_cases hR : R = 0
    · skip
      have t1 : (R != 0) = false := ineF hR
      replace hR := Lib.hid hR
      replace EP := Lib.hid EP
      replace ES := Lib.hid ES
      replace ER := Lib.hid ER
      replace ET := Lib.hid ET
      obtain ⟨fb, Efb⟩ : ∃ f : Bool, f = (b != 0) := ⟨_, rfl⟩
      have If : (b != 0) = fb := Efb.symm
      have hfb : fb = true → b ≠ 0 := by rw [Efb]; simp
      replace Efb := Lib.hid Efb
      replace hfb := Lib.hid hfb
      go_wp2_with (fail)
      obtain ⟨z0, Ez0⟩ : ∃ zq : Int, zq = a := ⟨_, rfl⟩
      refine (Calls.mono (R := RetI (w.alloc (.cells #[.bool false, .slice none 0 0, .bool false, .slice none 0 0, .bool false, .slice none 0 0, .bool false, .slice none 0 0] 89)) z0) (by rw [Ez0]; with_reducible exact (iofz_c a _ (by omega) (by omega))) ?_)
      replace Ez0 := Lib.hid Ez0
      rintro e W2 ⟨Xz0, cz0, rfl, hz0, hb2⟩
      replace Rr := Rr.below hb2
      replace HBT := Below.cons HBT hb2
      clear hb2
      go_wp2_with (fail)
      obtain ⟨z1, Ez1⟩ : ∃ zq : Int, zq = b := ⟨_, rfl⟩
      refine (Calls.mono (R := RetI W2 z1) (by rw [Ez1]; with_reducible exact (iofz_c b _ (by omega) (by omega))) ?_)
      replace Ez1 := Lib.hid Ez1
      rintro e W3 ⟨Xz1, cz1, rfl, hz1, hb3⟩
      replace Rr := Rr.below hb3
      replace hz0 := hz0.below hb3
      replace HBT := Below.cons HBT hb3
      clear hb3
      go_wp2_with (fail)
      obtain ⟨z2, Ez2⟩ : ∃ zq : Int, zq = c := ⟨_, rfl⟩
      refine (Calls.mono (R := RetI W3 z2) (by rw [Ez2]; with_reducible exact (iofz_c c _ (by omega) (by omega))) ?_)
      replace Ez2 := Lib.hid Ez2
      rintro e W4 ⟨Xz2, cz2, rfl, hz2, hb4⟩
      replace Rr := Rr.below hb4
      replace hz0 := hz0.below hb4
      replace hz1 := hz1.below hb4
      replace HBT := Below.cons HBT hb4
      clear hb4
      go_wp2_with (fail)
      obtain ⟨z3, Ez3⟩ : ∃ zq : Int, zq = d := ⟨_, rfl⟩
      refine (Calls.mono (R := RetI W4 z3) (by rw [Ez3]; with_reducible exact (iofz_c d _ (by omega) (by omega))) ?_)
      replace Ez3 := Lib.hid Ez3
      rintro e W5 ⟨Xz3, cz3, rfl, hz3, hb5⟩
      replace Rr := Rr.below hb5
      replace hz0 := hz0.below hb5
      replace hz1 := hz1.below hb5
      replace hz2 := hz2.below hb5
      replace HBT := Below.cons HBT hb5
      clear hb5
      have fz0 := Rr.f (i := 0)
      have cz_0 := Rr.c (i := 0) rfl
      have fz1 := Rr.f (i := 1)
      have cz_1 := Rr.c (i := 1) rfl
      have fz2 := Rr.f (i := 2)
      have cz_2 := Rr.c (i := 2) rfl
      have fz3 := Rr.f (i := 3)
      have cz_3 := Rr.c (i := 3) rfl
      have fz4 := Rr.f (i := 4)
      have cz_4 := Rr.c (i := 4) rfl
      have fz5 := Rr.f (i := 5)
      have cz_5 := Rr.c (i := 5) rfl
      have fz6 := Rr.f (i := 6)
      have cz_6 := Rr.c (i := 6) rfl
      have fz7 := Rr.f (i := 7)
      have cz_7 := Rr.c (i := 7) rfl
      go_wp2_with (fail)
      have hz0 : z0 = a := by rw [Ez0.out]
      subst hz0
      have hz1 : z1 = b := by rw [Ez1.out]
      subst hz1
      have hz2 : z2 = c := by rw [Ez2.out]
      subst hz2
      have hz3 : z3 = d := by rw [Ez3.out]
      subst hz3
      have RS := Rr.store8 (.bool (sg z0)) (.slice Xz0 (nl (mg z0)) cz0) (.bool (sg z1)) (.slice Xz1 (nl (mg z1)) cz1) (.bool (sg z2)) (.slice Xz2 (nl (mg z2)) cz2) (.bool (sg z3)) (.slice Xz3 (nl (mg z3)) cz3)
      have e0 := RS.c (i := 0) rfl
      have e1 := RS.c (i := 1) rfl
      have e2 := RS.c (i := 2) rfl
      have e3 := RS.c (i := 3) rfl
      have e4 := RS.c (i := 4) rfl
      have e5 := RS.c (i := 5) rfl
      have e6 := RS.c (i := 6) rfl
      have e7 := RS.c (i := 7) rfl
      refine bodyPost_ret (v := .tuple #[.agg #[.bool (sg z0), .slice Xz0 (nl (mg z0)) cz0, .bool (sg z1), .slice Xz1 (nl (mg z1)) cz1, .bool (sg z2), .slice Xz2 (nl (mg z2)) cz2, .bool (sg z3), .slice Xz3 (nl (mg z3)) cz3], .bool fb]) (by simp [results, Tryz.results93, go_sem, e0, e1, e2, e3, e4, e5, e6, e7]) rfl ?_
      exact ⟨⟨z0, z1, z2, z3⟩, fb, Xz0, cz0, Xz1, cz1, Xz2, cz2, Xz3, cz3, rfl, hL.out, sz_small ba bb bc bd, hfb.out, Rr.keep8 (lista8 _ rfl) hz0, Rr.keep8 (lista8 _ rfl) hz1, Rr.keep8 (lista8 _ rfl) hz2, Rr.keep8 (lista8 _ rfl) hz3, Below.store8 HBT (by first | exact Nat.le_refl _ | omega)⟩
    · skip
      have t1 : (R != 0) = true := ineT hR
      by_cases hT : T = 0
      · skip
        have t2 : (T != 0) = false := ineF hT
        replace hT := Lib.hid hT
        replace EP := Lib.hid EP
        replace ES := Lib.hid ES
        replace ER := Lib.hid ER
        replace ET := Lib.hid ET
        obtain ⟨fb, Efb⟩ : ∃ f : Bool, f = (b != 0) := ⟨_, rfl⟩
        have If : (b != 0) = fb := Efb.symm
        have hfb : fb = true → b ≠ 0 := by rw [Efb]; simp
        replace Efb := Lib.hid Efb
        replace hfb := Lib.hid hfb
        go_wp2_with (fail)
        obtain ⟨z0, Ez0⟩ : ∃ zq : Int, zq = a := ⟨_, rfl⟩
        refine (Calls.mono (R := RetI (w.alloc (.cells #[.bool false, .slice none 0 0, .bool false, .slice none 0 0, .bool false, .slice none 0 0, .bool false, .slice none 0 0] 89)) z0) (by rw [Ez0]; with_reducible exact (iofz_c a _ (by omega) (by omega))) ?_)
        replace Ez0 := Lib.hid Ez0
        rintro e W2 ⟨Xz0, cz0, rfl, hz0, hb2⟩
        replace Rr := Rr.below hb2
        replace HBT := Below.cons HBT hb2
        clear hb2
        go_wp2_with (fail)
        obtain ⟨z1, Ez1⟩ : ∃ zq : Int, zq = b := ⟨_, rfl⟩
        refine (Calls.mono (R := RetI W2 z1) (by rw [Ez1]; with_reducible exact (iofz_c b _ (by omega) (by omega))) ?_)
        replace Ez1 := Lib.hid Ez1
        rintro e W3 ⟨Xz1, cz1, rfl, hz1, hb3⟩
        replace Rr := Rr.below hb3
        replace hz0 := hz0.below hb3
        replace HBT := Below.cons HBT hb3
        clear hb3
        go_wp2_with (fail)
        obtain ⟨z2, Ez2⟩ : ∃ zq : Int, zq = c := ⟨_, rfl⟩
        refine (Calls.mono (R := RetI W3 z2) (by rw [Ez2]; with_reducible exact (iofz_c c _ (by omega) (by omega))) ?_)
        replace Ez2 := Lib.hid Ez2
        rintro e W4 ⟨Xz2, cz2, rfl, hz2, hb4⟩
        replace Rr := Rr.below hb4
        replace hz0 := hz0.below hb4
        replace hz1 := hz1.below hb4
        replace HBT := Below.cons HBT hb4
        clear hb4
        go_wp2_with (fail)
        obtain ⟨z3, Ez3⟩ : ∃ zq : Int, zq = d := ⟨_, rfl⟩
        refine (Calls.mono (R := RetI W4 z3) (by rw [Ez3]; with_reducible exact (iofz_c d _ (by omega) (by omega))) ?_)
        replace Ez3 := Lib.hid Ez3
        rintro e W5 ⟨Xz3, cz3, rfl, hz3, hb5⟩
        replace Rr := Rr.below hb5
        replace hz0 := hz0.below hb5
        replace hz1 := hz1.below hb5
        replace hz2 := hz2.below hb5
        replace HBT := Below.cons HBT hb5
        clear hb5
        have fz0 := Rr.f (i := 0)
        have cz_0 := Rr.c (i := 0) rfl
        have fz1 := Rr.f (i := 1)
        have cz_1 := Rr.c (i := 1) rfl
        have fz2 := Rr.f (i := 2)
        have cz_2 := Rr.c (i := 2) rfl
        have fz3 := Rr.f (i := 3)
        have cz_3 := Rr.c (i := 3) rfl
        have fz4 := Rr.f (i := 4)
        have cz_4 := Rr.c (i := 4) rfl
        have fz5 := Rr.f (i := 5)
        have cz_5 := Rr.c (i := 5) rfl
        have fz6 := Rr.f (i := 6)
        have cz_6 := Rr.c (i := 6) rfl
        have fz7 := Rr.f (i := 7)
        have cz_7 := Rr.c (i := 7) rfl
        go_wp2_with (fail)
        have hz0 : z0 = a := by rw [Ez0.out]
        subst hz0
        have hz1 : z1 = b := by rw [Ez1.out]
        subst hz1
        have hz2 : z2 = c := by rw [Ez2.out]
        subst hz2
        have hz3 : z3 = d := by rw [Ez3.out]
        subst hz3
        have RS := Rr.store8 (.bool (sg z0)) (.slice Xz0 (nl (mg z0)) cz0) (.bool (sg z1)) (.slice Xz1 (nl (mg z1)) cz1) (.bool (sg z2)) (.slice Xz2 (nl (mg z2)) cz2) (.bool (sg z3)) (.slice Xz3 (nl (mg z3)) cz3)
        have e0 := RS.c (i := 0) rfl
        have e1 := RS.c (i := 1) rfl
        have e2 := RS.c (i := 2) rfl
        have e3 := RS.c (i := 3) rfl
        have e4 := RS.c (i := 4) rfl
        have e5 := RS.c (i := 5) rfl
        have e6 := RS.c (i := 6) rfl
        have e7 := RS.c (i := 7) rfl
        refine bodyPost_ret (v := .tuple #[.agg #[.bool (sg z0), .slice Xz0 (nl (mg z0)) cz0, .bool (sg z1), .slice Xz1 (nl (mg z1)) cz1, .bool (sg z2), .slice Xz2 (nl (mg z2)) cz2, .bool (sg z3), .slice Xz3 (nl (mg z3)) cz3], .bool fb]) (by simp [results, Tryz.results93, go_sem, e0, e1, e2, e3, e4, e5, e6, e7]) rfl ?_
        exact ⟨⟨z0, z1, z2, z3⟩, fb, Xz0, cz0, Xz1, cz1, Xz2, cz2, Xz3, cz3, rfl, hL.out, sz_small ba bb bc bd, hfb.out, Rr.keep8 (lista8 _ rfl) hz0, Rr.keep8 (lista8 _ rfl) hz1, Rr.keep8 (lista8 _ rfl) hz2, Rr.keep8 (lista8 _ rfl) hz3, Below.store8 HBT (by first | exact Nat.le_refl _ | omega)⟩
      · skip
        have t2 : (T != 0) = true := ineT hT
        have R0 : 0 < R := by omega
        have T0 : 0 < T := by omega
        obtain ⟨Q, EQ⟩ : ∃ z : Int, z = P / R := ⟨_, rfl⟩
        have IQ : P / R = Q := EQ.symm
        have JQ : P.tdiv R = Q := by rw [Int.tdiv_eq_ediv_of_nonneg (by omega)]; exact IQ
        have bQ : 0 ≤ Q ∧ Q ≤ 1152921504606846977 := by rw [EQ]; exact ⟨Int.ediv_nonneg (by omega) (by omega), Int.le_trans (Int.ediv_le_self _ (by omega)) (by omega)⟩
        have WQ : IntKind.i64.wrap Q = Q := IntWalk.i64_in _ (by omega)
        obtain ⟨U, EU⟩ : ∃ z : Int, z = S / T := ⟨_, rfl⟩
        have IU : S / T = U := EU.symm
        have JU : S.tdiv T = U := by rw [Int.tdiv_eq_ediv_of_nonneg (by omega)]; exact IU
        have bU : 0 ≤ U ∧ U ≤ 1152921504606846977 := by rw [EU]; exact ⟨Int.ediv_nonneg (by omega) (by omega), Int.le_trans (Int.ediv_le_self _ (by omega)) (by omega)⟩
        have WU : IntKind.i64.wrap U = U := IntWalk.i64_in _ (by omega)
        replace EQ := Lib.hid EQ
        replace EU := Lib.hid EU
        by_cases hq : Q ≠ U
        · skip
          have t3 : (Q != U) = true := ineT hq
          replace hq := Lib.hid hq
          replace EP := Lib.hid EP
          replace ES := Lib.hid ES
          replace ER := Lib.hid ER
          replace ET := Lib.hid ET
          obtain ⟨fb, Efb⟩ : ∃ f : Bool, f = (b != 0) := ⟨_, rfl⟩
          have If : (b != 0) = fb := Efb.symm
          have hfb : fb = true → b ≠ 0 := by rw [Efb]; simp
          replace Efb := Lib.hid Efb
          replace hfb := Lib.hid hfb
          go_wp2_with (fail)
          obtain ⟨z0, Ez0⟩ : ∃ zq : Int, zq = a := ⟨_, rfl⟩
          refine (Calls.mono (R := RetI (w.alloc (.cells #[.bool false, .slice none 0 0, .bool false, .slice none 0 0, .bool false, .slice none 0 0, .bool false, .slice none 0 0] 89)) z0) (by rw [Ez0]; with_reducible exact (iofz_c a _ (by omega) (by omega))) ?_)
          replace Ez0 := Lib.hid Ez0
          rintro e W2 ⟨Xz0, cz0, rfl, hz0, hb2⟩
          replace Rr := Rr.below hb2
          replace HBT := Below.cons HBT hb2
          clear hb2
          go_wp2_with (fail)
          obtain ⟨z1, Ez1⟩ : ∃ zq : Int, zq = b := ⟨_, rfl⟩
          refine (Calls.mono (R := RetI W2 z1) (by rw [Ez1]; with_reducible exact (iofz_c b _ (by omega) (by omega))) ?_)
          replace Ez1 := Lib.hid Ez1
          rintro e W3 ⟨Xz1, cz1, rfl, hz1, hb3⟩
          replace Rr := Rr.below hb3
          replace hz0 := hz0.below hb3
          replace HBT := Below.cons HBT hb3
          clear hb3
          go_wp2_with (fail)
          obtain ⟨z2, Ez2⟩ : ∃ zq : Int, zq = c := ⟨_, rfl⟩
          refine (Calls.mono (R := RetI W3 z2) (by rw [Ez2]; with_reducible exact (iofz_c c _ (by omega) (by omega))) ?_)
          replace Ez2 := Lib.hid Ez2
          rintro e W4 ⟨Xz2, cz2, rfl, hz2, hb4⟩
          replace Rr := Rr.below hb4
          replace hz0 := hz0.below hb4
          replace hz1 := hz1.below hb4
          replace HBT := Below.cons HBT hb4
          clear hb4
          go_wp2_with (fail)
          obtain ⟨z3, Ez3⟩ : ∃ zq : Int, zq = d := ⟨_, rfl⟩
          refine (Calls.mono (R := RetI W4 z3) (by rw [Ez3]; with_reducible exact (iofz_c d _ (by omega) (by omega))) ?_)
          replace Ez3 := Lib.hid Ez3
          rintro e W5 ⟨Xz3, cz3, rfl, hz3, hb5⟩
          replace Rr := Rr.below hb5
          replace hz0 := hz0.below hb5
          replace hz1 := hz1.below hb5
          replace hz2 := hz2.below hb5
          replace HBT := Below.cons HBT hb5
          clear hb5
          have fz0 := Rr.f (i := 0)
          have cz_0 := Rr.c (i := 0) rfl
          have fz1 := Rr.f (i := 1)
          have cz_1 := Rr.c (i := 1) rfl
          have fz2 := Rr.f (i := 2)
          have cz_2 := Rr.c (i := 2) rfl
          have fz3 := Rr.f (i := 3)
          have cz_3 := Rr.c (i := 3) rfl
          have fz4 := Rr.f (i := 4)
          have cz_4 := Rr.c (i := 4) rfl
          have fz5 := Rr.f (i := 5)
          have cz_5 := Rr.c (i := 5) rfl
          have fz6 := Rr.f (i := 6)
          have cz_6 := Rr.c (i := 6) rfl
          have fz7 := Rr.f (i := 7)
          have cz_7 := Rr.c (i := 7) rfl
          go_wp2_with (fail)
          have hz0 : z0 = a := by rw [Ez0.out]
          subst hz0
          have hz1 : z1 = b := by rw [Ez1.out]
          subst hz1
          have hz2 : z2 = c := by rw [Ez2.out]
          subst hz2
          have hz3 : z3 = d := by rw [Ez3.out]
          subst hz3
          have RS := Rr.store8 (.bool (sg z0)) (.slice Xz0 (nl (mg z0)) cz0) (.bool (sg z1)) (.slice Xz1 (nl (mg z1)) cz1) (.bool (sg z2)) (.slice Xz2 (nl (mg z2)) cz2) (.bool (sg z3)) (.slice Xz3 (nl (mg z3)) cz3)
          have e0 := RS.c (i := 0) rfl
          have e1 := RS.c (i := 1) rfl
          have e2 := RS.c (i := 2) rfl
          have e3 := RS.c (i := 3) rfl
          have e4 := RS.c (i := 4) rfl
          have e5 := RS.c (i := 5) rfl
          have e6 := RS.c (i := 6) rfl
          have e7 := RS.c (i := 7) rfl
          refine bodyPost_ret (v := .tuple #[.agg #[.bool (sg z0), .slice Xz0 (nl (mg z0)) cz0, .bool (sg z1), .slice Xz1 (nl (mg z1)) cz1, .bool (sg z2), .slice Xz2 (nl (mg z2)) cz2, .bool (sg z3), .slice Xz3 (nl (mg z3)) cz3], .bool fb]) (by simp [results, Tryz.results93, go_sem, e0, e1, e2, e3, e4, e5, e6, e7]) rfl ?_
          exact ⟨⟨z0, z1, z2, z3⟩, fb, Xz0, cz0, Xz1, cz1, Xz2, cz2, Xz3, cz3, rfl, hL.out, sz_small ba bb bc bd, hfb.out, Rr.keep8 (lista8 _ rfl) hz0, Rr.keep8 (lista8 _ rfl) hz1, Rr.keep8 (lista8 _ rfl) hz2, Rr.keep8 (lista8 _ rfl) hz3, Below.store8 HBT (by first | exact Nat.le_refl _ | omega)⟩
        · skip
          have hq2 : Q = U := Decidable.not_not.1 hq
          clear hq WU bU
          subst hq2
          have t3 : (Q != Q) = false := ineF rfl
          by_cases hQ : 1073741824 ≤ Q
          · skip
            have t4 : decide (1073741824 ≤ Q) = true := decide_eq_true hQ
            replace EP := Lib.hid EP
            replace ES := Lib.hid ES
            replace ER := Lib.hid ER
            replace ET := Lib.hid ET
            obtain ⟨fb, Efb⟩ : ∃ f : Bool, f = (b != 0) := ⟨_, rfl⟩
            have If : (b != 0) = fb := Efb.symm
            have hfb : fb = true → b ≠ 0 := by rw [Efb]; simp
            replace Efb := Lib.hid Efb
            replace hfb := Lib.hid hfb
            go_wp2_with (fail)
            obtain ⟨z0, Ez0⟩ : ∃ zq : Int, zq = a := ⟨_, rfl⟩
            refine (Calls.mono (R := RetI (w.alloc (.cells #[.bool false, .slice none 0 0, .bool false, .slice none 0 0, .bool false, .slice none 0 0, .bool false, .slice none 0 0] 89)) z0) (by rw [Ez0]; with_reducible exact (iofz_c a _ (by omega) (by omega))) ?_)
            replace Ez0 := Lib.hid Ez0
            rintro e W2 ⟨Xz0, cz0, rfl, hz0, hb2⟩
            replace Rr := Rr.below hb2
            replace HBT := Below.cons HBT hb2
            clear hb2
            go_wp2_with (fail)
            obtain ⟨z1, Ez1⟩ : ∃ zq : Int, zq = b := ⟨_, rfl⟩
            refine (Calls.mono (R := RetI W2 z1) (by rw [Ez1]; with_reducible exact (iofz_c b _ (by omega) (by omega))) ?_)
            replace Ez1 := Lib.hid Ez1
            rintro e W3 ⟨Xz1, cz1, rfl, hz1, hb3⟩
            replace Rr := Rr.below hb3
            replace hz0 := hz0.below hb3
            replace HBT := Below.cons HBT hb3
            clear hb3
            go_wp2_with (fail)
            obtain ⟨z2, Ez2⟩ : ∃ zq : Int, zq = c := ⟨_, rfl⟩
            refine (Calls.mono (R := RetI W3 z2) (by rw [Ez2]; with_reducible exact (iofz_c c _ (by omega) (by omega))) ?_)
            replace Ez2 := Lib.hid Ez2
            rintro e W4 ⟨Xz2, cz2, rfl, hz2, hb4⟩
            replace Rr := Rr.below hb4
            replace hz0 := hz0.below hb4
            replace hz1 := hz1.below hb4
            replace HBT := Below.cons HBT hb4
            clear hb4
            go_wp2_with (fail)
            obtain ⟨z3, Ez3⟩ : ∃ zq : Int, zq = d := ⟨_, rfl⟩
            refine (Calls.mono (R := RetI W4 z3) (by rw [Ez3]; with_reducible exact (iofz_c d _ (by omega) (by omega))) ?_)
            replace Ez3 := Lib.hid Ez3
            rintro e W5 ⟨Xz3, cz3, rfl, hz3, hb5⟩
            replace Rr := Rr.below hb5
            replace hz0 := hz0.below hb5
            replace hz1 := hz1.below hb5
            replace hz2 := hz2.below hb5
            replace HBT := Below.cons HBT hb5
            clear hb5
            have fz0 := Rr.f (i := 0)
            have cz_0 := Rr.c (i := 0) rfl
            have fz1 := Rr.f (i := 1)
            have cz_1 := Rr.c (i := 1) rfl
            have fz2 := Rr.f (i := 2)
            have cz_2 := Rr.c (i := 2) rfl
            have fz3 := Rr.f (i := 3)
            have cz_3 := Rr.c (i := 3) rfl
            have fz4 := Rr.f (i := 4)
            have cz_4 := Rr.c (i := 4) rfl
            have fz5 := Rr.f (i := 5)
            have cz_5 := Rr.c (i := 5) rfl
            have fz6 := Rr.f (i := 6)
            have cz_6 := Rr.c (i := 6) rfl
            have fz7 := Rr.f (i := 7)
            have cz_7 := Rr.c (i := 7) rfl
            go_wp2_with (fail)
            have hz0 : z0 = a := by rw [Ez0.out]
            subst hz0
            have hz1 : z1 = b := by rw [Ez1.out]
            subst hz1
            have hz2 : z2 = c := by rw [Ez2.out]
            subst hz2
            have hz3 : z3 = d := by rw [Ez3.out]
            subst hz3
            have RS := Rr.store8 (.bool (sg z0)) (.slice Xz0 (nl (mg z0)) cz0) (.bool (sg z1)) (.slice Xz1 (nl (mg z1)) cz1) (.bool (sg z2)) (.slice Xz2 (nl (mg z2)) cz2) (.bool (sg z3)) (.slice Xz3 (nl (mg z3)) cz3)
            have e0 := RS.c (i := 0) rfl
            have e1 := RS.c (i := 1) rfl
            have e2 := RS.c (i := 2) rfl
            have e3 := RS.c (i := 3) rfl
            have e4 := RS.c (i := 4) rfl
            have e5 := RS.c (i := 5) rfl
            have e6 := RS.c (i := 6) rfl
            have e7 := RS.c (i := 7) rfl
            refine bodyPost_ret (v := .tuple #[.agg #[.bool (sg z0), .slice Xz0 (nl (mg z0)) cz0, .bool (sg z1), .slice Xz1 (nl (mg z1)) cz1, .bool (sg z2), .slice Xz2 (nl (mg z2)) cz2, .bool (sg z3), .slice Xz3 (nl (mg z3)) cz3], .bool fb]) (by simp [results, Tryz.results93, go_sem, e0, e1, e2, e3, e4, e5, e6, e7]) rfl ?_
            exact ⟨⟨z0, z1, z2, z3⟩, fb, Xz0, cz0, Xz1, cz1, Xz2, cz2, Xz3, cz3, rfl, hL.out, sz_small ba bb bc bd, hfb.out, Rr.keep8 (lista8 _ rfl) hz0, Rr.keep8 (lista8 _ rfl) hz1, Rr.keep8 (lista8 _ rfl) hz2, Rr.keep8 (lista8 _ rfl) hz3, Below.store8 HBT (by first | exact Nat.le_refl _ | omega)⟩
          · skip
            have t4 : decide (1073741824 ≤ Q) = false := decide_eq_false hQ
            obtain ⟨n, Hn⟩ := Int.eq_ofNat_of_zero_le bQ.1
            replace Hn := Lib.hid Hn
            obtain ⟨g, Eg⟩ : ∃ z : Int, z = Q * c := ⟨_, rfl⟩
            have Ig : Q * c = g := Eg.symm
            obtain ⟨h, Eh⟩ : ∃ z : Int, z = Q * d := ⟨_, rfl⟩
            have Ih : Q * d = h := Eh.symm
            have bg : -1152921504606846976 ≤ g ∧ g ≤ 1152921504606846976 := by rw [Eg]; exact bd_mul (K := 1073741824) bQ.1 (by omega) bc.1 bc.2
            have bh : -1152921504606846976 ≤ h ∧ h ≤ 1152921504606846976 := by rw [Eh]; exact bd_mul (K := 1073741824) bQ.1 (by omega) bd.1 bd.2
            obtain ⟨u, Eu⟩ : ∃ z : Int, z = a - g := ⟨_, rfl⟩
            have Iu : a - g = u := Eu.symm
            obtain ⟨v, Ev⟩ : ∃ z : Int, z = b - h := ⟨_, rfl⟩
            have Iv : b - h = v := Ev.symm
            obtain ⟨u', Eu'⟩ : ∃ z : Int, z = -u := ⟨_, rfl⟩
            have Iu' : -u = u' := Eu'.symm
            obtain ⟨v', Ev'⟩ : ∃ z : Int, z = -v := ⟨_, rfl⟩
            have Iv' : -v = v' := Ev'.symm
            have Wg : IntKind.i64.wrap g = g := IntWalk.i64_in _ (by omega)
            have Wh : IntKind.i64.wrap h = h := IntWalk.i64_in _ (by omega)
            have Wu : IntKind.i64.wrap u = u := IntWalk.i64_in _ (by omega)
            have Wv : IntKind.i64.wrap v = v := IntWalk.i64_in _ (by omega)
            have Wu' : IntKind.i64.wrap u' = u' := IntWalk.i64_in _ (by omega)
            have Wv' : IntKind.i64.wrap v' = v' := IntWalk.i64_in _ (by omega)
            obtain ⟨M, EM⟩ : ∃ z : Int, z = max (max (max u u') v) v' := ⟨_, rfl⟩
            have IM : max (max (max u u') v) v' = M := EM.symm
            have bM : u ≤ M ∧ u' ≤ M ∧ v ≤ M ∧ v' ≤ M := by omega
            replace Eg := Lib.hid Eg
            replace Eh := Lib.hid Eh
            replace Eu := Lib.hid Eu
            replace Ev := Lib.hid Ev
            replace Eu' := Lib.hid Eu'
            replace Ev' := Lib.hid Ev'
            replace EM := Lib.hid EM
            by_cases hM : 1073741824 ≤ M
            · skip
              have t5 : decide (1073741824 ≤ M) = true := decide_eq_true hM
              replace EP := Lib.hid EP
              replace ES := Lib.hid ES
              replace ER := Lib.hid ER
              replace ET := Lib.hid ET
              obtain ⟨fb, Efb⟩ : ∃ f : Bool, f = (b != 0) := ⟨_, rfl⟩
              have If : (b != 0) = fb := Efb.symm
              have hfb : fb = true → b ≠ 0 := by rw [Efb]; simp
              replace Efb := Lib.hid Efb
              replace hfb := Lib.hid hfb
              go_wp2_with (fail)
              obtain ⟨z0, Ez0⟩ : ∃ zq : Int, zq = a := ⟨_, rfl⟩
              refine (Calls.mono (R := RetI (w.alloc (.cells #[.bool false, .slice none 0 0, .bool false, .slice none 0 0, .bool false, .slice none 0 0, .bool false, .slice none 0 0] 89)) z0) (by rw [Ez0]; with_reducible exact (iofz_c a _ (by omega) (by omega))) ?_)
              replace Ez0 := Lib.hid Ez0
              rintro e W2 ⟨Xz0, cz0, rfl, hz0, hb2⟩
              replace Rr := Rr.below hb2
              replace HBT := Below.cons HBT hb2
              clear hb2
              go_wp2_with (fail)
              obtain ⟨z1, Ez1⟩ : ∃ zq : Int, zq = b := ⟨_, rfl⟩
              refine (Calls.mono (R := RetI W2 z1) (by rw [Ez1]; with_reducible exact (iofz_c b _ (by omega) (by omega))) ?_)
              replace Ez1 := Lib.hid Ez1
              rintro e W3 ⟨Xz1, cz1, rfl, hz1, hb3⟩
              replace Rr := Rr.below hb3
              replace hz0 := hz0.below hb3
              replace HBT := Below.cons HBT hb3
              clear hb3
              go_wp2_with (fail)
              obtain ⟨z2, Ez2⟩ : ∃ zq : Int, zq = c := ⟨_, rfl⟩
              refine (Calls.mono (R := RetI W3 z2) (by rw [Ez2]; with_reducible exact (iofz_c c _ (by omega) (by omega))) ?_)
              replace Ez2 := Lib.hid Ez2
              rintro e W4 ⟨Xz2, cz2, rfl, hz2, hb4⟩
              replace Rr := Rr.below hb4
              replace hz0 := hz0.below hb4
              replace hz1 := hz1.below hb4
              replace HBT := Below.cons HBT hb4
              clear hb4
              go_wp2_with (fail)
              obtain ⟨z3, Ez3⟩ : ∃ zq : Int, zq = d := ⟨_, rfl⟩
              refine (Calls.mono (R := RetI W4 z3) (by rw [Ez3]; with_reducible exact (iofz_c d _ (by omega) (by omega))) ?_)
              replace Ez3 := Lib.hid Ez3
              rintro e W5 ⟨Xz3, cz3, rfl, hz3, hb5⟩
              replace Rr := Rr.below hb5
              replace hz0 := hz0.below hb5
              replace hz1 := hz1.below hb5
              replace hz2 := hz2.below hb5
              replace HBT := Below.cons HBT hb5
              clear hb5
              have fz0 := Rr.f (i := 0)
              have cz_0 := Rr.c (i := 0) rfl
              have fz1 := Rr.f (i := 1)
              have cz_1 := Rr.c (i := 1) rfl
              have fz2 := Rr.f (i := 2)
              have cz_2 := Rr.c (i := 2) rfl
              have fz3 := Rr.f (i := 3)
              have cz_3 := Rr.c (i := 3) rfl
              have fz4 := Rr.f (i := 4)
              have cz_4 := Rr.c (i := 4) rfl
              have fz5 := Rr.f (i := 5)
              have cz_5 := Rr.c (i := 5) rfl
              have fz6 := Rr.f (i := 6)
              have cz_6 := Rr.c (i := 6) rfl
              have fz7 := Rr.f (i := 7)
              have cz_7 := Rr.c (i := 7) rfl
              go_wp2_with (fail)
              have hz0 : z0 = a := by rw [Ez0.out]
              subst hz0
              have hz1 : z1 = b := by rw [Ez1.out]
              subst hz1
              have hz2 : z2 = c := by rw [Ez2.out]
              subst hz2
              have hz3 : z3 = d := by rw [Ez3.out]
              subst hz3
              have RS := Rr.store8 (.bool (sg z0)) (.slice Xz0 (nl (mg z0)) cz0) (.bool (sg z1)) (.slice Xz1 (nl (mg z1)) cz1) (.bool (sg z2)) (.slice Xz2 (nl (mg z2)) cz2) (.bool (sg z3)) (.slice Xz3 (nl (mg z3)) cz3)
              have e0 := RS.c (i := 0) rfl
              have e1 := RS.c (i := 1) rfl
              have e2 := RS.c (i := 2) rfl
              have e3 := RS.c (i := 3) rfl
              have e4 := RS.c (i := 4) rfl
              have e5 := RS.c (i := 5) rfl
              have e6 := RS.c (i := 6) rfl
              have e7 := RS.c (i := 7) rfl
              refine bodyPost_ret (v := .tuple #[.agg #[.bool (sg z0), .slice Xz0 (nl (mg z0)) cz0, .bool (sg z1), .slice Xz1 (nl (mg z1)) cz1, .bool (sg z2), .slice Xz2 (nl (mg z2)) cz2, .bool (sg z3), .slice Xz3 (nl (mg z3)) cz3], .bool fb]) (by simp [results, Tryz.results93, go_sem, e0, e1, e2, e3, e4, e5, e6, e7]) rfl ?_
              exact ⟨⟨z0, z1, z2, z3⟩, fb, Xz0, cz0, Xz1, cz1, Xz2, cz2, Xz3, cz3, rfl, hL.out, sz_small ba bb bc bd, hfb.out, Rr.keep8 (lista8 _ rfl) hz0, Rr.keep8 (lista8 _ rfl) hz1, Rr.keep8 (lista8 _ rfl) hz2, Rr.keep8 (lista8 _ rfl) hz3, Below.store8 HBT (by first | exact Nat.le_refl _ | omega)⟩
            · skip
              have t5 : decide (1073741824 ≤ M) = false := decide_eq_false hM
              obtain ⟨k, Ek⟩ : ∃ z : Int, z = Q * y := ⟨_, rfl⟩
              have Ik : Q * y = k := Ek.symm
              have bk0 : k = Q * R - g := by rw [Ek, ER, Eg.out, Int.mul_add]; omega
              have bk1 : Q * R ≤ P := by rw [EQ.out]; exact Int.ediv_mul_le P (by omega)
              have bk2 : 0 ≤ Q * R := Int.mul_nonneg bQ.1 bR.1
              obtain ⟨l, El⟩ : ∃ z : Int, z = Q * R := ⟨_, rfl⟩
              rw [← El] at bk0 bk1 bk2
              obtain ⟨j, Ej⟩ : ∃ z : Int, z = x - k := ⟨_, rfl⟩
              have Ij : x - k = j := Ej.symm
              have Wk : IntKind.i64.wrap k = k := IntWalk.i64_in _ (by omega)
              have Wj : IntKind.i64.wrap j = j := IntWalk.i64_in _ (by omega)
              have hnx := lst_nx hL.out (q := n) (x := x) (y := y) hx.out hy.out (show 0 < y + c by omega) (show 0 < y + d by omega) (show (n : Int) = (x + a) / (y + c) by rw [← Hn.out, IP, IR]; exact EQ.out) (show (n : Int) = (x + b) / (y + d) by rw [← Hn.out, IS, IT]; exact EU.out)
              have em : (⟨a, b, c, d⟩ : Mx).nx n = ⟨c, d, u, v⟩ := by simp only [Mx.nx]; rw [← Hn.out, Eu.out, Ev.out, Eg.out, Eh.out]
              rw [em, ← Hn.out] at hnx
              obtain ⟨n1, n2, n3, n4⟩ := hnx
              simp only at n1 n2 n3 n4
              rw [Ik, Ij] at n3 n4
              rw [IR] at n4
              have n1' := Lib.hid n1
              have n2' := Lib.hid n2.symm
              have n3' := Lib.hid n3.symm
              have n4' := Lib.hid n4
              clear n1 n2 n3 n4 em
              replace EP := Lib.hid EP
              replace ES := Lib.hid ES
              replace ER := Lib.hid ER
              replace ET := Lib.hid ET
              replace Ek := Lib.hid Ek
              replace El := Lib.hid El
              replace Ej := Lib.hid Ej
              replace bk0 := Lib.hid bk0
              go_wp2_with (fail)
              have bu2 : -1073741824 < u ∧ u < 1073741824 := by clear IM IP IS IR IT IQ IU JQ JU Ig Ih Iu Iv Ik Ij; omega
              have bv2 : -1073741824 < v ∧ v < 1073741824 := by clear IM IP IS IR IT IQ IU JQ JU Ig Ih Iu Iv Ik Ij; omega
              have hme : (intOf (.int .i64 j) + intOf (.int .i64 u)).toNat < (intOf (.int .i64 y) + intOf (.int .i64 c)).toNat := by
                have h1 := n4'.out
                show (j + u).toNat < (y + c).toNat
                clear IM Ig Ih Iu Iv Ik Ij
                omega
              refine ⟨⟨c, d, u, v, y, j, rfl, rfl, rfl, rfl, rfl, rfl, n1', n2', n3', bc, bd, bu2, bv2⟩, hme⟩
end Go.Proofs.YthcmoimlnhghcaaGreatDoor

/- What a matrix makes of two naturals. -/
set_option linter.unusedVariables false
set_option linter.unusedSimpArgs false
namespace Go.Proofs.YthcmoimlnhghcaaGreatDoor
open Go.RowKit Go.Shelf
attribute [local go_sem] max2_i min2_i max_two min_two

/-- What a call leaves that makes two naturals. -/
def RetTwo (w : World) (x y : Nat) (e : Ending) (w' : World) : Prop := ∃ (X : Option Addr) (c : Nat) (Y : Option Addr) (d : Nat),
  e = .returned (.tuple #[.slice X (nl x) c, .slice Y (nl y) d]) ∧ NatV w' X c x ∧ NatV w' Y d y ∧ Below w.heap.size w w'
theorem do_c (m0A : Option Addr) (m0c : Nat) (m1A : Option Addr) (m1c : Nat) (m2A : Option Addr) (m2c : Nat) (m3A : Option Addr) (m3c : Nat) (m : Mx) (aA : Option Addr) (ac a : Nat) (bA : Option Addr) (bc b : Nat) (w : World) (hm0 : NatV w m0A m0c (mg m.a)) (hm1 : NatV w m1A m1c (mg m.b)) (hm2 : NatV w m2A m2c (mg m.c)) (hm3 : NatV w m3A m3c (mg m.d)) (ha : NatV w aA ac a) (hb : NatV w bA bc b) (hG : Flds w) (lm : m.sz 16384) (la : nl a ≤ 16384) (lb : nl b ≤ 16384) :
    Calls Tryz.prog 95 #[.agg #[.bool (sg m.a), .slice m0A (nl (mg m.a)) m0c, .bool (sg m.b), .slice m1A (nl (mg m.b)) m1c, .bool (sg m.c), .slice m2A (nl (mg m.c)) m2c, .bool (sg m.d), .slice m3A (nl (mg m.d)) m3c], .slice aA (nl a) ac, .slice bA (nl b) bc] w (RetTwo w (mg (m.x a b)) (mg (m.y a b))) := by
  obtain ⟨lm0, lm1, lm2, lm3⟩ := lm
  obtain ⟨hb1, Rm⟩ := bx1 w #[.bool (sg m.a), .slice m0A (nl (mg m.a)) m0c, .bool (sg m.b), .slice m1A (nl (mg m.b)) m1c, .bool (sg m.c), .slice m2A (nl (mg m.c)) m2c, .bool (sg m.d), .slice m3A (nl (mg m.d)) m3c] 89
  replace hm0 := hm0.below hb1
  replace hm1 := hm1.below hb1
  replace hm2 := hm2.below hb1
  replace hm3 := hm3.below hb1
  replace ha := ha.below hb1
  replace hb := hb.below hb1
  replace hG := hG.below hb1
  have HBT := hb1
  clear hb1
  have qm0 := Rm.c (i := 0) rfl
  have qm1 := Rm.c (i := 1) rfl
  have qm2 := Rm.c (i := 2) rfl
  have qm3 := Rm.c (i := 3) rfl
  have qm4 := Rm.c (i := 4) rfl
  have qm5 := Rm.c (i := 5) rfl
  have qm6 := Rm.c (i := 6) rfl
  have qm7 := Rm.c (i := 7) rfl
  go_enter Tryz.func95, Tryz.ntmps95
  go_wp2_with (fail)
  obtain ⟨x, Ex⟩ : ∃ zq : Int, zq = (a : Int) := ⟨_, rfl⟩
  have Nx : nl (mg x) ≤ 16384 := by rw [Ex, mg_nat]; exact la
  refine (Calls.mono (R := RetI (w.alloc (.cells #[.bool (sg m.a), .slice m0A (nl (mg m.a)) m0c, .bool (sg m.b), .slice m1A (nl (mg m.b)) m1c, .bool (sg m.c), .slice m2A (nl (mg m.c)) m2c, .bool (sg m.d), .slice m3A (nl (mg m.d)) m3c] 89)) x) (by rw [Ex]; with_reducible exact (whole_c aA ac a _ ha (by omega))) ?_)
  replace Ex := Lib.hid Ex
  rintro e W2 ⟨Xx, cx, rfl, hx, hb2⟩
  replace hm0 := hm0.below hb2
  replace hm1 := hm1.below hb2
  replace hm2 := hm2.below hb2
  replace hm3 := hm3.below hb2
  replace ha := ha.below hb2
  replace hb := hb.below hb2
  replace hG := hG.below hb2
  replace Rm := Rm.below hb2
  replace qm0 := cbl hb2 qm0
  replace qm1 := cbl hb2 qm1
  replace qm2 := cbl hb2 qm2
  replace qm3 := cbl hb2 qm3
  replace qm4 := cbl hb2 qm4
  replace qm5 := cbl hb2 qm5
  replace qm6 := cbl hb2 qm6
  replace qm7 := cbl hb2 qm7
  replace HBT := Below.cons HBT hb2
  clear hb2
  go_wp2_with (fail)
  obtain ⟨y, Ey⟩ : ∃ zq : Int, zq = (b : Int) := ⟨_, rfl⟩
  have Ny : nl (mg y) ≤ 16384 := by rw [Ey, mg_nat]; exact lb
  refine (Calls.mono (R := RetI W2 y) (by rw [Ey]; with_reducible exact (whole_c bA bc b _ hb (by omega))) ?_)
  replace Ey := Lib.hid Ey
  rintro e W3 ⟨Xy, cy, rfl, hy, hb3⟩
  replace hm0 := hm0.below hb3
  replace hm1 := hm1.below hb3
  replace hm2 := hm2.below hb3
  replace hm3 := hm3.below hb3
  replace ha := ha.below hb3
  replace hb := hb.below hb3
  replace hG := hG.below hb3
  replace Rm := Rm.below hb3
  replace qm0 := cbl hb3 qm0
  replace qm1 := cbl hb3 qm1
  replace qm2 := cbl hb3 qm2
  replace qm3 := cbl hb3 qm3
  replace qm4 := cbl hb3 qm4
  replace qm5 := cbl hb3 qm5
  replace qm6 := cbl hb3 qm6
  replace qm7 := cbl hb3 qm7
  replace hx := hx.below hb3
  replace HBT := Below.cons HBT hb3
  clear hb3
  obtain ⟨hb4, Rx, Ry⟩ := bx2 W3 #[.bool (sg x), .slice Xx (nl (mg x)) cx] 24 #[.bool (sg y), .slice Xy (nl (mg y)) cy] 24
  replace hm0 := hm0.below hb4
  replace hm1 := hm1.below hb4
  replace hm2 := hm2.below hb4
  replace hm3 := hm3.below hb4
  replace ha := ha.below hb4
  replace hb := hb.below hb4
  replace hG := hG.below hb4
  replace Rm := Rm.below hb4
  replace qm0 := cbl hb4 qm0
  replace qm1 := cbl hb4 qm1
  replace qm2 := cbl hb4 qm2
  replace qm3 := cbl hb4 qm3
  replace qm4 := cbl hb4 qm4
  replace qm5 := cbl hb4 qm5
  replace qm6 := cbl hb4 qm6
  replace qm7 := cbl hb4 qm7
  replace hx := hx.below hb4
  replace hy := hy.below hb4
  replace HBT := Below.cons HBT hb4
  clear hb4
  have qx0 := Rx.c (i := 0) rfl
  have qx1 := Rx.c (i := 1) rfl
  have qy0 := Ry.c (i := 0) rfl
  have qy1 := Ry.c (i := 1) rfl
  go_wp2_with (fail)
  obtain ⟨p0, Ep0⟩ : ∃ z : Int, z = m.a * x := ⟨_, rfl⟩
  have Np0 : nl (mg p0) ≤ 32768 := by rw [Ep0]; have := nl_imul m.a x; omega
  have Cp0 := fun (W : World) (h1 : NatV W m0A m0c (mg m.a)) (h2 : NatV W Xx cx (mg x)) (hG : Flds W) => imul_c m0A m0c m.a Xx cx x W h1 h2 hG (by omega) (by omega)
  rw [← Ep0] at Cp0
  obtain ⟨q0, Eq0⟩ : ∃ z : Int, z = m.b * y := ⟨_, rfl⟩
  have Nq0 : nl (mg q0) ≤ 32768 := by rw [Eq0]; have := nl_imul m.b y; omega
  have Cq0 := fun (W : World) (h1 : NatV W m1A m1c (mg m.b)) (h2 : NatV W Xy cy (mg y)) (hG : Flds W) => imul_c m1A m1c m.b Xy cy y W h1 h2 hG (by omega) (by omega)
  rw [← Eq0] at Cq0
  obtain ⟨u, Eu⟩ : ∃ z : Int, z = p0 + q0 := ⟨_, rfl⟩
  have Cu := fun (W : World) (A : Option Addr) (c : Nat) (B : Option Addr) (d : Nat) (h1 : NatV W A c (mg p0)) (h2 : NatV W B d (mg q0)) => iadd_c A c p0 B d q0 W h1 h2 (by omega) (by omega)
  rw [← Eu] at Cu
  replace Ep0 := Lib.hid Ep0
  replace Eq0 := Lib.hid Eq0
  replace Eu := Lib.hid Eu
  replace Cp0 := Lib.hid Cp0
  replace Cq0 := Lib.hid Cq0
  replace Cu := Lib.hid Cu
  generalize hV0 : ((W3.alloc (.cells #[.bool (sg x), .slice Xx (nl (mg x)) cx] 24)).alloc (.cells #[.bool (sg y), .slice Xy (nl (mg y)) cy] 24)) = V0 at *
  replace hV0 := Lib.hid hV0
  refine wp_region_inv (fun E a' w' => ∃ (u16 u17 u18 u19 u20 u21 u22 u23 u24 u10 : Value),
    a' = { tmps := #[.agg #[.bool (sg m.a), .slice m0A (nl (mg m.a)) m0c, .bool (sg m.b), .slice m1A (nl (mg m.b)) m1c, .bool (sg m.c), .slice m2A (nl (mg m.c)) m2c, .bool (sg m.d), .slice m3A (nl (mg m.d)) m3c], .slice aA (nl a) ac, .slice bA (nl b) bc, .pointer (some ⟨w.heap.size, 0, none⟩), undef, undef, .slice none 0 0, .slice none 0 0, .pointer (some ⟨W3.heap.size, 0, none⟩), .pointer (some ⟨(W3.heap.size + 1), 0, none⟩), u10, undef, .slice aA (nl a) ac, .agg #[.bool (sg x), .slice Xx (nl (mg x)) cx], .slice bA (nl b) bc, .agg #[.bool (sg y), .slice Xy (nl (mg y)) cy], u16, u17, u18, u19, u20, u21, u22, u23, u24, undef, undef, undef, undef, undef, undef, undef, undef, undef, undef, undef, undef, undef], defers := [] } ∧
    (E 0 = true → u16 = .pointer (some ⟨w.heap.size, 0, none⟩)) ∧
    (E 1 = true → u17 = .agg #[.bool (sg m.a), .slice m0A (nl (mg m.a)) m0c]) ∧
    (E 2 = true → u18 = .agg #[.bool (sg x), .slice Xx (nl (mg x)) cx]) ∧
    (E 3 = true → PI u19 p0 w') ∧
    (E 4 = true → u20 = .pointer (some ⟨w.heap.size, 2, none⟩)) ∧
    (E 5 = true → u21 = .agg #[.bool (sg m.b), .slice m1A (nl (mg m.b)) m1c]) ∧
    (E 6 = true → u22 = .agg #[.bool (sg y), .slice Xy (nl (mg y)) cy]) ∧
    (E 7 = true → PI u23 q0 w') ∧
    (E 8 = true → PI u24 u w') ∧
    (E 9 = true → PB2 24 V0.heap.size u10 w') ∧
    (E 10 = true → PBI V0.heap.size u10 u w') ∧
    (E 10 = true → E 9 = true) ∧
    Below V0.heap.size V0 w') (by kernel_rfl) (by kernel_rfl) ?init ?fin ?step
  case init => exact ⟨_, _, _, _, _, _, _, _, _, _, rfl, by simp, by simp, by simp, by simp, by simp, by simp, by simp, by simp, by simp, by simp, by simp, by simp, (Below.refl _ _).drew⟩
  case step =>
    rintro E a' w' i ⟨u16, u17, u18, u19, u20, u21, u22, u23, u24, u10, rfl, h0, h1, h2, h3, h4, h5, h6, h7, h8, h9, h10, hD10, hB⟩ hi hEi hdep
    have qm0 := cbl hB qm0
    have qm1 := cbl hB qm1
    have qm2 := cbl hB qm2
    have qm3 := cbl hB qm3
    have qm4 := cbl hB qm4
    have qm5 := cbl hB qm5
    have qm6 := cbl hB qm6
    have qm7 := cbl hB qm7
    have qx0 := cbl hB qx0
    have qx1 := cbl hB qx1
    have qy0 := cbl hB qy0
    have qy1 := cbl hB qy1
    obtain rfl | rfl | rfl | rfl | rfl | rfl | rfl | rfl | rfl | rfl | rfl : i = 0 ∨ i = 1 ∨ i = 2 ∨ i = 3 ∨ i = 4 ∨ i = 5 ∨ i = 6 ∨ i = 7 ∨ i = 8 ∨ i = 9 ∨ i = 10 := by simp at hi; omega
    · skip
      refine wpOp_step rfl (fun K' hK' => ?_)
      go_simp
      refine hK' _ _ ?_
      exact ⟨_, _, _, _, _, _, _, _, _, _, rfl, fun _ => rfl, keepD (by decide) h1, keepD (by decide) h2, keepD (by decide) h3, keepD (by decide) h4, keepD (by decide) h5, keepD (by decide) h6, keepD (by decide) h7, keepD (by decide) h8, keepD (by decide) h9, keepD (by decide) h10, (fun h => by have := hD10 (by simpa using h); simpa using this), hB⟩
    · skip
      have d0 := hdep _ rfl ⟨0, .data⟩ (by simp) rfl
      obtain rfl := h0 d0
      refine wpOp_step rfl (fun K' hK' => ?_)
      go_simp
      refine hK' _ _ ?_
      exact ⟨_, _, _, _, _, _, _, _, _, _, rfl, keepD (by decide) h0, fun _ => rfl, keepD (by decide) h2, keepD (by decide) h3, keepD (by decide) h4, keepD (by decide) h5, keepD (by decide) h6, keepD (by decide) h7, keepD (by decide) h8, keepD (by decide) h9, keepD (by decide) h10, (fun h => by have := hD10 (by simpa using h); simpa using this), hB⟩
    · skip
      refine wpOp_step rfl (fun K' hK' => ?_)
      go_simp
      refine hK' _ _ ?_
      exact ⟨_, _, _, _, _, _, _, _, _, _, rfl, keepD (by decide) h0, keepD (by decide) h1, fun _ => rfl, keepD (by decide) h3, keepD (by decide) h4, keepD (by decide) h5, keepD (by decide) h6, keepD (by decide) h7, keepD (by decide) h8, keepD (by decide) h9, keepD (by decide) h10, (fun h => by have := hD10 (by simpa using h); simpa using this), hB⟩
    · skip
      have d1 := hdep _ rfl ⟨1, .data⟩ (by simp) rfl
      obtain rfl := h1 d1
      have d2 := hdep _ rfl ⟨2, .data⟩ (by simp) rfl
      obtain rfl := h2 d2
      refine wpOp_step rfl (fun K' hK' => ?_)
      go_simp
      refine (Calls.mono (Cp0.out w' (hm0.below hB) (hx.below hB) (hG.below hB)) ?_)
      rintro e W1 ⟨Xr, cr, rfl, kr, kb⟩
      refine hK' _ _ ?_
      exact ⟨_, _, _, _, _, _, _, _, _, _, rfl, keepD (by decide) h0, keepD (by decide) h1, keepD (by decide) h2, fun _ => ⟨Xr, cr, rfl, kr⟩, keepD (by decide) h4, keepD (by decide) h5, keepD (by decide) h6, keepP (by decide) h7 (fun h => h.below kb), keepP (by decide) h8 (fun h => h.below kb), keepP (by decide) h9 (fun h => h.below kb), keepP (by decide) h10 (fun h => h.below kb), (fun h => by have := hD10 (by simpa using h); simpa using this), Below.cons hB kb⟩
    · skip
      refine wpOp_step rfl (fun K' hK' => ?_)
      go_simp
      refine hK' _ _ ?_
      exact ⟨_, _, _, _, _, _, _, _, _, _, rfl, keepD (by decide) h0, keepD (by decide) h1, keepD (by decide) h2, keepD (by decide) h3, fun _ => rfl, keepD (by decide) h5, keepD (by decide) h6, keepD (by decide) h7, keepD (by decide) h8, keepD (by decide) h9, keepD (by decide) h10, (fun h => by have := hD10 (by simpa using h); simpa using this), hB⟩
    · skip
      have d4 := hdep _ rfl ⟨4, .data⟩ (by simp) rfl
      obtain rfl := h4 d4
      refine wpOp_step rfl (fun K' hK' => ?_)
      go_simp
      refine hK' _ _ ?_
      exact ⟨_, _, _, _, _, _, _, _, _, _, rfl, keepD (by decide) h0, keepD (by decide) h1, keepD (by decide) h2, keepD (by decide) h3, keepD (by decide) h4, fun _ => rfl, keepD (by decide) h6, keepD (by decide) h7, keepD (by decide) h8, keepD (by decide) h9, keepD (by decide) h10, (fun h => by have := hD10 (by simpa using h); simpa using this), hB⟩
    · skip
      refine wpOp_step rfl (fun K' hK' => ?_)
      go_simp
      refine hK' _ _ ?_
      exact ⟨_, _, _, _, _, _, _, _, _, _, rfl, keepD (by decide) h0, keepD (by decide) h1, keepD (by decide) h2, keepD (by decide) h3, keepD (by decide) h4, keepD (by decide) h5, fun _ => rfl, keepD (by decide) h7, keepD (by decide) h8, keepD (by decide) h9, keepD (by decide) h10, (fun h => by have := hD10 (by simpa using h); simpa using this), hB⟩
    · skip
      have d5 := hdep _ rfl ⟨5, .data⟩ (by simp) rfl
      obtain rfl := h5 d5
      have d6 := hdep _ rfl ⟨6, .data⟩ (by simp) rfl
      obtain rfl := h6 d6
      refine wpOp_step rfl (fun K' hK' => ?_)
      go_simp
      refine (Calls.mono (Cq0.out w' (hm1.below hB) (hy.below hB) (hG.below hB)) ?_)
      rintro e W1 ⟨Xr, cr, rfl, kr, kb⟩
      refine hK' _ _ ?_
      exact ⟨_, _, _, _, _, _, _, _, _, _, rfl, keepD (by decide) h0, keepD (by decide) h1, keepD (by decide) h2, keepP (by decide) h3 (fun h => h.below kb), keepD (by decide) h4, keepD (by decide) h5, keepD (by decide) h6, fun _ => ⟨Xr, cr, rfl, kr⟩, keepP (by decide) h8 (fun h => h.below kb), keepP (by decide) h9 (fun h => h.below kb), keepP (by decide) h10 (fun h => h.below kb), (fun h => by have := hD10 (by simpa using h); simpa using this), Below.cons hB kb⟩
    · skip
      have d3 := hdep _ rfl ⟨3, .data⟩ (by simp) rfl
      obtain ⟨X_3, c_3, rfl, k_3⟩ := h3 d3
      have d7 := hdep _ rfl ⟨7, .data⟩ (by simp) rfl
      obtain ⟨X_7, c_7, rfl, k_7⟩ := h7 d7
      refine wpOp_step rfl (fun K' hK' => ?_)
      go_simp
      refine (Calls.mono (Cu.out w' _ _ _ _ k_3 k_7) ?_)
      rintro e W1 ⟨Xr, cr, rfl, kr, kb⟩
      refine hK' _ _ ?_
      exact ⟨_, _, _, _, _, _, _, _, _, _, rfl, keepD (by decide) h0, keepD (by decide) h1, keepD (by decide) h2, keepP (by decide) h3 (fun h => h.below kb), keepD (by decide) h4, keepD (by decide) h5, keepD (by decide) h6, keepP (by decide) h7 (fun h => h.below kb), fun _ => ⟨Xr, cr, rfl, kr⟩, keepP (by decide) h9 (fun h => h.below kb), keepP (by decide) h10 (fun h => h.below kb), (fun h => by have := hD10 (by simpa using h); simpa using this), Below.cons hB kb⟩
    · skip
      have kb : Below w'.heap.size w' (w'.alloc (.cells #[.bool false, .slice none 0 0] 24)) := (Below.refl _ _).alloc (Nat.le_refl _) _
      refine wpOp_step rfl (fun K' hK' => ?_)
      go_simp
      refine hK' _ _ ?_
      exact ⟨_, _, _, _, _, _, _, _, _, _, rfl, keepD (by decide) h0, keepD (by decide) h1, keepD (by decide) h2, keepP (by decide) h3 (fun h => h.below kb), keepD (by decide) h4, keepD (by decide) h5, keepD (by decide) h6, keepP (by decide) h7 (fun h => h.below kb), keepP (by decide) h8 (fun h => h.below kb), fun _ => ⟨_, _, _, rfl, hB.size, ⟨at_new rfl⟩, notU_bool _, notU_slice _ _ _⟩, (fun h => by have h2 := hD10 (by simpa using h); rw [hEi] at h2; cases h2), (fun _ => by simp), Below.cons hB kb⟩
    · skip
      have d9 := hdep _ rfl ⟨9, .data⟩ (by simp) rfl
      obtain ⟨nb, z0, z1, rfl, hn, hb, nz0, nz1⟩ := h9 d9
      have d8 := hdep _ rfl ⟨8, .data⟩ (by simp) rfl
      obtain ⟨X_8, c_8, rfl, k_8⟩ := h8 d8
      have fz0 := hb.f (i := 0)
      have cz0 := hb.c (i := 0) rfl
      have fz1 := hb.f (i := 1)
      have cz1 := hb.c (i := 1) rfl
      have hp := hb.put2 (notU2 nz0 nz1) (.bool (sg u)) (.slice X_8 (nl (mg u)) c_8)
      have hs := hb.store2 (.bool (sg u)) (.slice X_8 (nl (mg u)) c_8)
      refine wpOp_step rfl (fun K' hK' => ?_)
      go_simp
      refine hK' _ _ ?_
      exact ⟨_, _, _, _, _, _, _, _, _, _, rfl, keepD (by decide) h0, keepD (by decide) h1, keepD (by decide) h2, keepP (by decide) h3 (fun h => h.put hp), keepD (by decide) h4, keepD (by decide) h5, keepD (by decide) h6, keepP (by decide) h7 (fun h => h.put hp), keepP (by decide) h8 (fun h => h.put hp), (fun _ => ⟨nb, _, _, rfl, hn, hs, notU_bool _, notU_slice _ _ _⟩), fun _ => ⟨nb, X_8, c_8, rfl, hn, hs, hp.nat k_8⟩, (fun _ => by simp [d9]), Below.store2 hB hn⟩
  case fin =>
    rintro E a' w' ⟨u16, u17, u18, u19, u20, u21, u22, u23, u24, u10, rfl, h0, h1, h2, h3, h4, h5, h6, h7, h8, h9, h10, hD10, hB⟩ hall
    obtain ⟨nbu, Xu, cu, rfl, hnu, Ru, hu⟩ := h10 (hall 10 (by simp))
    replace hm0 := hm0.below hB
    replace hm1 := hm1.below hB
    replace hm2 := hm2.below hB
    replace hm3 := hm3.below hB
    replace ha := ha.below hB
    replace hb := hb.below hB
    replace hG := hG.below hB
    replace Rm := Rm.below hB
    replace qm0 := cbl hB qm0
    replace qm1 := cbl hB qm1
    replace qm2 := cbl hB qm2
    replace qm3 := cbl hB qm3
    replace qm4 := cbl hB qm4
    replace qm5 := cbl hB qm5
    replace qm6 := cbl hB qm6
    replace qm7 := cbl hB qm7
    replace hx := hx.below hB
    replace hy := hy.below hB
    replace Rx := Rx.below hB
    replace qx0 := cbl hB qx0
    replace qx1 := cbl hB qx1
    replace Ry := Ry.below hB
    replace qy0 := cbl hB qy0
    replace qy1 := cbl hB qy1
    replace HBT := Below.cons HBT hB
    have kvu := hnu
    have qu0 := Ru.c (i := 0) rfl
    have qu1 := Ru.c (i := 1) rfl
    clear hall
    generalize hV1 : w' = V1 at *
    clear hV1
    go_wp2_with (fail)
    obtain ⟨p1, Ep1⟩ : ∃ z : Int, z = m.c * x := ⟨_, rfl⟩
    have Np1 : nl (mg p1) ≤ 32768 := by rw [Ep1]; have := nl_imul m.c x; omega
    have Cp1 := fun (W : World) (h1 : NatV W m2A m2c (mg m.c)) (h2 : NatV W Xx cx (mg x)) (hG : Flds W) => imul_c m2A m2c m.c Xx cx x W h1 h2 hG (by omega) (by omega)
    rw [← Ep1] at Cp1
    obtain ⟨q1, Eq1⟩ : ∃ z : Int, z = m.d * y := ⟨_, rfl⟩
    have Nq1 : nl (mg q1) ≤ 32768 := by rw [Eq1]; have := nl_imul m.d y; omega
    have Cq1 := fun (W : World) (h1 : NatV W m3A m3c (mg m.d)) (h2 : NatV W Xy cy (mg y)) (hG : Flds W) => imul_c m3A m3c m.d Xy cy y W h1 h2 hG (by omega) (by omega)
    rw [← Eq1] at Cq1
    obtain ⟨v, Ev⟩ : ∃ z : Int, z = p1 + q1 := ⟨_, rfl⟩
    have Cv := fun (W : World) (A : Option Addr) (c : Nat) (B : Option Addr) (d : Nat) (h1 : NatV W A c (mg p1)) (h2 : NatV W B d (mg q1)) => iadd_c A c p1 B d q1 W h1 h2 (by omega) (by omega)
    rw [← Ev] at Cv
    replace Ep1 := Lib.hid Ep1
    replace Eq1 := Lib.hid Eq1
    replace Ev := Lib.hid Ev
    replace Cp1 := Lib.hid Cp1
    replace Cq1 := Lib.hid Cq1
    replace Cv := Lib.hid Cv
    refine wp_region_inv (fun E a' w' => ∃ (u25 u26 u27 u28 u29 u30 u31 u32 u33 u11 : Value),
      a' = { tmps := #[.agg #[.bool (sg m.a), .slice m0A (nl (mg m.a)) m0c, .bool (sg m.b), .slice m1A (nl (mg m.b)) m1c, .bool (sg m.c), .slice m2A (nl (mg m.c)) m2c, .bool (sg m.d), .slice m3A (nl (mg m.d)) m3c], .slice aA (nl a) ac, .slice bA (nl b) bc, .pointer (some ⟨w.heap.size, 0, none⟩), undef, undef, .slice none 0 0, .slice none 0 0, .pointer (some ⟨W3.heap.size, 0, none⟩), .pointer (some ⟨(W3.heap.size + 1), 0, none⟩), .pointer (some ⟨nbu, 0, none⟩), u11, .slice aA (nl a) ac, .agg #[.bool (sg x), .slice Xx (nl (mg x)) cx], .slice bA (nl b) bc, .agg #[.bool (sg y), .slice Xy (nl (mg y)) cy], u16, u17, u18, u19, u20, u21, u22, u23, u24, u25, u26, u27, u28, u29, u30, u31, u32, u33, undef, undef, undef, undef], defers := [] } ∧
      (E 0 = true → u25 = .pointer (some ⟨w.heap.size, 4, none⟩)) ∧
      (E 1 = true → u26 = .agg #[.bool (sg m.c), .slice m2A (nl (mg m.c)) m2c]) ∧
      (E 2 = true → u27 = .agg #[.bool (sg x), .slice Xx (nl (mg x)) cx]) ∧
      (E 3 = true → PI u28 p1 w') ∧
      (E 4 = true → u29 = .pointer (some ⟨w.heap.size, 6, none⟩)) ∧
      (E 5 = true → u30 = .agg #[.bool (sg m.d), .slice m3A (nl (mg m.d)) m3c]) ∧
      (E 6 = true → u31 = .agg #[.bool (sg y), .slice Xy (nl (mg y)) cy]) ∧
      (E 7 = true → PI u32 q1 w') ∧
      (E 8 = true → PI u33 v w') ∧
      (E 9 = true → PB2 24 V1.heap.size u11 w') ∧
      (E 10 = true → PBI V1.heap.size u11 v w') ∧
      (E 10 = true → E 9 = true) ∧
      Below V1.heap.size V1 w') (by kernel_rfl) (by kernel_rfl) ?init ?fin ?step
    case init => exact ⟨_, _, _, _, _, _, _, _, _, _, rfl, by simp, by simp, by simp, by simp, by simp, by simp, by simp, by simp, by simp, by simp, by simp, by simp, (Below.refl _ _).drew⟩
    case step =>
      rintro E a' w' i ⟨u25, u26, u27, u28, u29, u30, u31, u32, u33, u11, rfl, h0, h1, h2, h3, h4, h5, h6, h7, h8, h9, h10, hD10, hB⟩ hi hEi hdep
      have qm0 := cbl hB qm0
      have qm1 := cbl hB qm1
      have qm2 := cbl hB qm2
      have qm3 := cbl hB qm3
      have qm4 := cbl hB qm4
      have qm5 := cbl hB qm5
      have qm6 := cbl hB qm6
      have qm7 := cbl hB qm7
      have qx0 := cbl hB qx0
      have qx1 := cbl hB qx1
      have qy0 := cbl hB qy0
      have qy1 := cbl hB qy1
      obtain rfl | rfl | rfl | rfl | rfl | rfl | rfl | rfl | rfl | rfl | rfl : i = 0 ∨ i = 1 ∨ i = 2 ∨ i = 3 ∨ i = 4 ∨ i = 5 ∨ i = 6 ∨ i = 7 ∨ i = 8 ∨ i = 9 ∨ i = 10 := by simp at hi; omega
      · skip
        refine wpOp_step rfl (fun K' hK' => ?_)
        go_simp
        refine hK' _ _ ?_
        exact ⟨_, _, _, _, _, _, _, _, _, _, rfl, fun _ => rfl, keepD (by decide) h1, keepD (by decide) h2, keepD (by decide) h3, keepD (by decide) h4, keepD (by decide) h5, keepD (by decide) h6, keepD (by decide) h7, keepD (by decide) h8, keepD (by decide) h9, keepD (by decide) h10, (fun h => by have := hD10 (by simpa using h); simpa using this), hB⟩
      · skip
        have d0 := hdep _ rfl ⟨0, .data⟩ (by simp) rfl
        obtain rfl := h0 d0
        refine wpOp_step rfl (fun K' hK' => ?_)
        go_simp
        refine hK' _ _ ?_
        exact ⟨_, _, _, _, _, _, _, _, _, _, rfl, keepD (by decide) h0, fun _ => rfl, keepD (by decide) h2, keepD (by decide) h3, keepD (by decide) h4, keepD (by decide) h5, keepD (by decide) h6, keepD (by decide) h7, keepD (by decide) h8, keepD (by decide) h9, keepD (by decide) h10, (fun h => by have := hD10 (by simpa using h); simpa using this), hB⟩
      · skip
        refine wpOp_step rfl (fun K' hK' => ?_)
        go_simp
        refine hK' _ _ ?_
        exact ⟨_, _, _, _, _, _, _, _, _, _, rfl, keepD (by decide) h0, keepD (by decide) h1, fun _ => rfl, keepD (by decide) h3, keepD (by decide) h4, keepD (by decide) h5, keepD (by decide) h6, keepD (by decide) h7, keepD (by decide) h8, keepD (by decide) h9, keepD (by decide) h10, (fun h => by have := hD10 (by simpa using h); simpa using this), hB⟩
      · skip
        have d1 := hdep _ rfl ⟨1, .data⟩ (by simp) rfl
        obtain rfl := h1 d1
        have d2 := hdep _ rfl ⟨2, .data⟩ (by simp) rfl
        obtain rfl := h2 d2
        refine wpOp_step rfl (fun K' hK' => ?_)
        go_simp
        refine (Calls.mono (Cp1.out w' (hm2.below hB) (hx.below hB) (hG.below hB)) ?_)
        rintro e W1 ⟨Xr, cr, rfl, kr, kb⟩
        refine hK' _ _ ?_
        exact ⟨_, _, _, _, _, _, _, _, _, _, rfl, keepD (by decide) h0, keepD (by decide) h1, keepD (by decide) h2, fun _ => ⟨Xr, cr, rfl, kr⟩, keepD (by decide) h4, keepD (by decide) h5, keepD (by decide) h6, keepP (by decide) h7 (fun h => h.below kb), keepP (by decide) h8 (fun h => h.below kb), keepP (by decide) h9 (fun h => h.below kb), keepP (by decide) h10 (fun h => h.below kb), (fun h => by have := hD10 (by simpa using h); simpa using this), Below.cons hB kb⟩
      · skip
        refine wpOp_step rfl (fun K' hK' => ?_)
        go_simp
        refine hK' _ _ ?_
        exact ⟨_, _, _, _, _, _, _, _, _, _, rfl, keepD (by decide) h0, keepD (by decide) h1, keepD (by decide) h2, keepD (by decide) h3, fun _ => rfl, keepD (by decide) h5, keepD (by decide) h6, keepD (by decide) h7, keepD (by decide) h8, keepD (by decide) h9, keepD (by decide) h10, (fun h => by have := hD10 (by simpa using h); simpa using this), hB⟩
      · skip
        have d4 := hdep _ rfl ⟨4, .data⟩ (by simp) rfl
        obtain rfl := h4 d4
        refine wpOp_step rfl (fun K' hK' => ?_)
        go_simp
        refine hK' _ _ ?_
        exact ⟨_, _, _, _, _, _, _, _, _, _, rfl, keepD (by decide) h0, keepD (by decide) h1, keepD (by decide) h2, keepD (by decide) h3, keepD (by decide) h4, fun _ => rfl, keepD (by decide) h6, keepD (by decide) h7, keepD (by decide) h8, keepD (by decide) h9, keepD (by decide) h10, (fun h => by have := hD10 (by simpa using h); simpa using this), hB⟩
      · skip
        refine wpOp_step rfl (fun K' hK' => ?_)
        go_simp
        refine hK' _ _ ?_
        exact ⟨_, _, _, _, _, _, _, _, _, _, rfl, keepD (by decide) h0, keepD (by decide) h1, keepD (by decide) h2, keepD (by decide) h3, keepD (by decide) h4, keepD (by decide) h5, fun _ => rfl, keepD (by decide) h7, keepD (by decide) h8, keepD (by decide) h9, keepD (by decide) h10, (fun h => by have := hD10 (by simpa using h); simpa using this), hB⟩
      · skip
        have d5 := hdep _ rfl ⟨5, .data⟩ (by simp) rfl
        obtain rfl := h5 d5
        have d6 := hdep _ rfl ⟨6, .data⟩ (by simp) rfl
        obtain rfl := h6 d6
        refine wpOp_step rfl (fun K' hK' => ?_)
        go_simp
        refine (Calls.mono (Cq1.out w' (hm3.below hB) (hy.below hB) (hG.below hB)) ?_)
        rintro e W1 ⟨Xr, cr, rfl, kr, kb⟩
        refine hK' _ _ ?_
        exact ⟨_, _, _, _, _, _, _, _, _, _, rfl, keepD (by decide) h0, keepD (by decide) h1, keepD (by decide) h2, keepP (by decide) h3 (fun h => h.below kb), keepD (by decide) h4, keepD (by decide) h5, keepD (by decide) h6, fun _ => ⟨Xr, cr, rfl, kr⟩, keepP (by decide) h8 (fun h => h.below kb), keepP (by decide) h9 (fun h => h.below kb), keepP (by decide) h10 (fun h => h.below kb), (fun h => by have := hD10 (by simpa using h); simpa using this), Below.cons hB kb⟩
      · skip
        have d3 := hdep _ rfl ⟨3, .data⟩ (by simp) rfl
        obtain ⟨X_3, c_3, rfl, k_3⟩ := h3 d3
        have d7 := hdep _ rfl ⟨7, .data⟩ (by simp) rfl
        obtain ⟨X_7, c_7, rfl, k_7⟩ := h7 d7
        refine wpOp_step rfl (fun K' hK' => ?_)
        go_simp
        refine (Calls.mono (Cv.out w' _ _ _ _ k_3 k_7) ?_)
        rintro e W1 ⟨Xr, cr, rfl, kr, kb⟩
        refine hK' _ _ ?_
        exact ⟨_, _, _, _, _, _, _, _, _, _, rfl, keepD (by decide) h0, keepD (by decide) h1, keepD (by decide) h2, keepP (by decide) h3 (fun h => h.below kb), keepD (by decide) h4, keepD (by decide) h5, keepD (by decide) h6, keepP (by decide) h7 (fun h => h.below kb), fun _ => ⟨Xr, cr, rfl, kr⟩, keepP (by decide) h9 (fun h => h.below kb), keepP (by decide) h10 (fun h => h.below kb), (fun h => by have := hD10 (by simpa using h); simpa using this), Below.cons hB kb⟩
      · skip
        have kb : Below w'.heap.size w' (w'.alloc (.cells #[.bool false, .slice none 0 0] 24)) := (Below.refl _ _).alloc (Nat.le_refl _) _
        refine wpOp_step rfl (fun K' hK' => ?_)
        go_simp
        refine hK' _ _ ?_
        exact ⟨_, _, _, _, _, _, _, _, _, _, rfl, keepD (by decide) h0, keepD (by decide) h1, keepD (by decide) h2, keepP (by decide) h3 (fun h => h.below kb), keepD (by decide) h4, keepD (by decide) h5, keepD (by decide) h6, keepP (by decide) h7 (fun h => h.below kb), keepP (by decide) h8 (fun h => h.below kb), fun _ => ⟨_, _, _, rfl, hB.size, ⟨at_new rfl⟩, notU_bool _, notU_slice _ _ _⟩, (fun h => by have h2 := hD10 (by simpa using h); rw [hEi] at h2; cases h2), (fun _ => by simp), Below.cons hB kb⟩
      · skip
        have d9 := hdep _ rfl ⟨9, .data⟩ (by simp) rfl
        obtain ⟨nb, z0, z1, rfl, hn, hb, nz0, nz1⟩ := h9 d9
        have d8 := hdep _ rfl ⟨8, .data⟩ (by simp) rfl
        obtain ⟨X_8, c_8, rfl, k_8⟩ := h8 d8
        have fz0 := hb.f (i := 0)
        have cz0 := hb.c (i := 0) rfl
        have fz1 := hb.f (i := 1)
        have cz1 := hb.c (i := 1) rfl
        have hp := hb.put2 (notU2 nz0 nz1) (.bool (sg v)) (.slice X_8 (nl (mg v)) c_8)
        have hs := hb.store2 (.bool (sg v)) (.slice X_8 (nl (mg v)) c_8)
        refine wpOp_step rfl (fun K' hK' => ?_)
        go_simp
        refine hK' _ _ ?_
        exact ⟨_, _, _, _, _, _, _, _, _, _, rfl, keepD (by decide) h0, keepD (by decide) h1, keepD (by decide) h2, keepP (by decide) h3 (fun h => h.put hp), keepD (by decide) h4, keepD (by decide) h5, keepD (by decide) h6, keepP (by decide) h7 (fun h => h.put hp), keepP (by decide) h8 (fun h => h.put hp), (fun _ => ⟨nb, _, _, rfl, hn, hs, notU_bool _, notU_slice _ _ _⟩), fun _ => ⟨nb, X_8, c_8, rfl, hn, hs, hp.nat k_8⟩, (fun _ => by simp [d9]), Below.store2 hB hn⟩
    case fin =>
      rintro E a' w' ⟨u25, u26, u27, u28, u29, u30, u31, u32, u33, u11, rfl, h0, h1, h2, h3, h4, h5, h6, h7, h8, h9, h10, hD10, hB⟩ hall
      obtain ⟨nbv, Xv, cv, rfl, hnv, Rv, hv⟩ := h10 (hall 10 (by simp))
      replace hm0 := hm0.below hB
      replace hm1 := hm1.below hB
      replace hm2 := hm2.below hB
      replace hm3 := hm3.below hB
      replace ha := ha.below hB
      replace hb := hb.below hB
      replace hG := hG.below hB
      replace Rm := Rm.below hB
      replace qm0 := cbl hB qm0
      replace qm1 := cbl hB qm1
      replace qm2 := cbl hB qm2
      replace qm3 := cbl hB qm3
      replace qm4 := cbl hB qm4
      replace qm5 := cbl hB qm5
      replace qm6 := cbl hB qm6
      replace qm7 := cbl hB qm7
      replace hx := hx.below hB
      replace hy := hy.below hB
      replace Rx := Rx.below hB
      replace qx0 := cbl hB qx0
      replace qx1 := cbl hB qx1
      replace Ry := Ry.below hB
      replace qy0 := cbl hB qy0
      replace qy1 := cbl hB qy1
      replace hu := hu.below hB
      replace Ru := Ru.below hB
      replace qu0 := cbl hB qu0
      replace qu1 := cbl hB qu1
      replace HBT := Below.cons HBT hB
      have kvv := hnv
      have qv0 := Rv.c (i := 0) rfl
      have qv1 := Rv.c (i := 1) rfl
      clear hall
      generalize hV2 : w' = V2 at *
      clear hV2
      go_wp2_with (fail)
      clear qm0
      clear qm1
      clear qm2
      clear qm3
      clear qm4
      clear qm5
      clear qm6
      clear qm7
      clear qx0
      clear qx1
      clear qy0
      clear qy1
      clear Rm
      clear Rx
      clear Ry
      go_quiet (fail)
      have hb5 : Below (V2).heap.size (V2) ((V2).drewN nq) := below_drewN (Below.refl _ _) nq
      replace hm0 := hm0.below hb5
      replace hm1 := hm1.below hb5
      replace hm2 := hm2.below hb5
      replace hm3 := hm3.below hb5
      replace ha := ha.below hb5
      replace hb := hb.below hb5
      replace hG := hG.below hb5
      replace hx := hx.below hb5
      replace hy := hy.below hb5
      replace hu := hu.below hb5
      replace Ru := Ru.below hb5
      replace qu0 := cbl hb5 qu0
      replace qu1 := cbl hb5 qu1
      replace hv := hv.below hb5
      replace Rv := Rv.below hb5
      replace qv0 := cbl hb5 qv0
      replace qv1 := cbl hb5 qv1
      replace HBT := Below.cons HBT hb5
      clear hb5
      go_wp2_with (fail)
      have eU : mg (m.x a b) = mg u := by rw [Eu.out, Ep0.out, Eq0.out, Ex.out, Ey.out]; rfl
      have eV : mg (m.y a b) = mg v := by rw [Ev.out, Ep1.out, Eq1.out, Ex.out, Ey.out]; rfl
      rw [eU, eV]
      refine bodyPost_ret (v := .tuple #[.slice Xu (nl (mg u)) cu, .slice Xv (nl (mg v)) cv]) (by simp [results, Tryz.results95, go_sem]) rfl ?_
      exact ⟨Xu, cu, Xv, cv, rfl, hu, hv, HBT⟩
end Go.Proofs.YthcmoimlnhghcaaGreatDoor

/- The greatest common divisor by leading limbs. -/
set_option linter.unusedVariables false
set_option linter.unusedSimpArgs false
namespace Go.Proofs.YthcmoimlnhghcaaGreatDoor
open Go.RowKit Go.Shelf
attribute [local go_sem] max2_i min2_i max_two min_two

theorem lead_lt {x : Nat} {n : Nat} (h : bl x = n + 60) : x / 2 ^ n < 1152921504606846976 := by
  have h1 := bl_lt x
  rw [h] at h1
  rw [Nat.div_lt_iff_lt_mul (Nat.two_pow_pos n)]
  rw [Nat.pow_add, Nat.mul_comm] at h1
  exact h1
theorem bl_big {x : Nat} (h : 2 < nl x) : 64 < bl x := by
  have h0 : x ≠ 0 := fun e => by rw [e, nl_zero] at h; omega
  obtain ⟨L, h1, h2, _⟩ := bl_top h0
  omega
/-- A step's numbers. -/
theorem lehmer_step {x y n : Nat} {m : Mx} (hL : Lst ((x / 2 ^ n : Nat) : Int) ((y / 2 ^ n : Nat) : Int) m) (hb : m.b ≠ 0) (h0 : 0 < x + y) :
    Nat.gcd (mg (m.x x y)) (mg (m.y x y)) = Nat.gcd x y ∧ mg (m.y x y) ≤ mg (m.x x y) ∧ mg (m.x x y) ≤ y ∧ mg (m.y x y) < y := by
  obtain ⟨h1, h2, h3⟩ := lst_end hL hb (N := 2 ^ n) (Nat.two_pow_pos n) rfl rfl h0
  refine ⟨Mx.gcd hL.u x y, ?_, ?_, ?_⟩ <;> unfold mg <;> omega
theorem lehmer_c (A : Option Addr) (c a : Nat) (B : Option Addr) (d b : Nat) (w : World) (hA : NatV w A c a) (hB : NatV w B d b) (hG : Flds w) (la : nl a ≤ 8192) (lb : nl b ≤ 8192) :
    Calls Tryz.prog 40 #[.slice A (nl a) c, .slice B (nl b) d] w (RetN w (Nat.gcd a b)) := by
  go_enter Tryz.func40, Tryz.ntmps40
  go_wp2_with (fail)
  refine (cmp_c A c a B d b w hA hB (by omega) (by omega)).mono ?_
  rintro e w1 ⟨rfl, hb1⟩
  go_upto_if 15 with (fail)
  go_cut [0, 1] from 12 to 17 (fun v0 v1 wx => ∃ (x y : Nat) (X : Option Addr) (cx : Nat) (Y : Option Addr) (cy : Nat), v0 = .slice X (nl x) cx ∧ v1 = .slice Y (nl y) cy ∧ NatV wx X cx x ∧ NatV wx Y cy y ∧ Below w.heap.size w wx ∧ Hid (Nat.gcd x y = Nat.gcd a b) ∧ y ≤ x ∧ nl x ≤ 8192 ∧ nl y ≤ 8192)
  case first =>
    by_cases h : a < b
    · have t1 : decide (cmpN a b < 0) = true := decide_eq_true (cmpN_neg.2 h)
      simp only [t1]
      go_wp2_with (fail)
      go_meet
      exact ⟨b, a, B, d, A, c, rfl, rfl, hB.below hb1, hA.below hb1, hb1, Lib.hid (Nat.gcd_comm b a), by omega, lb, la⟩
    · have t1 : decide (cmpN a b < 0) = false := decide_eq_false (fun e => h (cmpN_neg.1 e))
      simp only [t1]
      go_wp2_with (fail)
      go_meet
      exact ⟨a, b, A, c, B, d, rfl, rfl, hA.below hb1, hB.below hb1, hb1, Lib.hid rfl, by omega, la, lb⟩
  case rest =>
    obtain ⟨x0, y0, X0, cx0, Y0, cy0, rfl, rfl, hX0, hY0, hb0, hg0, hyx0, lx0, ly0⟩ := hcut
    go_wp2_with (fail)
    go_loopw [0, 1, 5, 6, 7, 8, 9, 10, 11] (fun v0 v1 v5 v6 v7 v8 v9 v10 v11 wr => ∃ (x y : Nat) (X : Option Addr) (cx : Nat) (Y : Option Addr) (cy : Nat), v0 = .slice X (nl x) cx ∧ v1 = .slice Y (nl y) cy ∧ NatV wr X cx x ∧ NatV wr Y cy y ∧ Below w.heap.size w wr ∧ Hid (Nat.gcd x y = Nat.gcd a b) ∧ y ≤ x ∧ nl x ≤ 8192 ∧ nl y ≤ 8192) (fun v0 v1 v5 v6 v7 v8 v9 v10 v11 wr => natAt wr (some v1))
    case atStart => exact ⟨x0, y0, X0, cx0, Y0, cy0, rfl, rfl, hX0, hY0, hb0, hg0, hyx0, lx0, ly0⟩
    case round =>
      obtain ⟨x, y, X, cx, Y, cy, rfl, rfl, hX, hY, hbr, hg, hyx, lx, ly⟩ := hrel
      have hY0 := Lib.hid hY
      by_cases h0 : nl y ≤ 2
      · have t1 : decide (2 < (nl y : Int)) = false := by simp; omega
        have t2 : decide (2 < nl y) = false := by simp; omega
        have CE := gcd_c X cx x Y cy y wr hX hY (by omega) (by omega)
        rw [hg.out] at CE
        replace CE := Lib.hid CE
        go_wp2_with (fail)
        refine CE.out.mono ?_
        rintro e w1 ⟨Z, cz, rfl, hZ, hb1⟩
        go_wp2_with (fail)
        go_ret
        exact ⟨Z, cz, rfl, hZ, hbr.cons hb1⟩
      · have t1 : decide (2 < (nl y : Int)) = true := by simp; omega
        have t2 : decide (2 < nl y) = true := by simp; omega
        have hbig : 64 < bl y := bl_big (by omega)
        have hble := bl_le x
        have hblx : bl y ≤ bl x := by
          have h1 := bl_ge (a := y) (fun e => by rw [e, nl_zero] at h0; omega)
          have h2 := bl_lt x
          have h3 : 2 ^ (bl y - 1) < 2 ^ bl x := by omega
          have := (Nat.pow_lt_pow_iff_right (by decide : 1 < 2)).1 h3
          omega
        obtain ⟨n, En⟩ : ∃ n, bl x = n + 60 := ⟨bl x - 60, by omega⟩
        have In : (bl x : Int) - 60 = (n : Int) := by omega
        have Wn : IntKind.i64.wrap (n : Int) = (n : Int) := IntWalk.i64_in _ (by omega)
        have px := lead_lt En
        have py : y / 2 ^ n < 1152921504606846976 := Nat.lt_of_le_of_lt (Nat.div_le_div_right hyx) px
        have hxy0 : 0 < x + y := by have : y ≠ 0 := fun e => by rw [e, nl_zero] at h0; omega
                                    omega
        have hy0 : 0 < y := by have : y ≠ 0 := fun e => by rw [e, nl_zero] at h0; omega
                               omega
        have ln : n ≤ 1099511627776 := by omega
        obtain ⟨p, Ep⟩ : ∃ z, z = x / 2 ^ n := ⟨_, rfl⟩
        obtain ⟨q, Eq⟩ : ∃ z, z = y / 2 ^ n := ⟨_, rfl⟩
        have CP := fun (W : World) (h : NatV W X cx x) => lead_c X cx x n W h (by omega) ln px
        have CQ := fun (W : World) (h : NatV W Y cy y) => lead_c Y cy y n W h (by omega) ln py
        rw [← Ep] at CP px
        rw [← Eq] at CQ py
        replace CP := Lib.hid CP
        replace CQ := Lib.hid CQ
        replace Ep := Lib.hid Ep
        replace Eq := Lib.hid Eq
        replace En := Lib.hid En
        replace hble := Lib.hid hble
        replace hblx := Lib.hid hblx
        have CB := bits_c X cx x wr hX (by omega)
        replace CB := Lib.hid CB
        go_wp2_with (fail)
        refine CB.out.mono ?_
        rintro e w1 ⟨rfl, hw1⟩
        subst hw1
        clear CB
        go_wp2_with (fail)
        refine (CP.out _ hX).mono ?_
        rintro e w1 ⟨rfl, hb1⟩
        replace hX := hX.below hb1
        replace hY := hY.below hb1
        have hbr1 := hbr.cons hb1
        go_wp2_with (fail)
        refine (CQ.out _ hY).mono ?_
        rintro e w2 ⟨rfl, hb2⟩
        replace hX := hX.below hb2
        replace hY := hY.below hb2
        have hbr2 := hbr1.cons hb2
        go_wp2_with (fail)
        refine (steps_c p q w2 px py).mono ?_
        rintro e w3 ⟨m, f, mA, ma, mB, mb, mC, mc, mD, md, rfl, hL, hsz, hf, m0, m1, m2, m3, hb3⟩
        replace hX := hX.below hb3
        replace hY := hY.below hb3
        have hbr3 := hbr2.cons hb3
        have hb4 : Below w3.heap.size w3 (w3.alloc (.cells #[.bool (sg m.a), .slice mA (nl (mg m.a)) ma, .bool (sg m.b), .slice mB (nl (mg m.b)) mb, .bool (sg m.c), .slice mC (nl (mg m.c)) mc, .bool (sg m.d), .slice mD (nl (mg m.d)) md] 89)) := (Below.refl _ _).alloc (Nat.le_refl _) _
        have RM : BoxA (w3.alloc (.cells #[.bool (sg m.a), .slice mA (nl (mg m.a)) ma, .bool (sg m.b), .slice mB (nl (mg m.b)) mb, .bool (sg m.c), .slice mC (nl (mg m.c)) mc, .bool (sg m.d), .slice mD (nl (mg m.d)) md] 89)) w3.heap.size 89 #[.bool (sg m.a), .slice mA (nl (mg m.a)) ma, .bool (sg m.b), .slice mB (nl (mg m.b)) mb, .bool (sg m.c), .slice mC (nl (mg m.c)) mc, .bool (sg m.d), .slice mD (nl (mg m.d)) md] := ⟨at_new rfl⟩
        replace hX := hX.below hb4
        replace hY := hY.below hb4
        replace m0 := m0.below hb4
        replace m1 := m1.below hb4
        replace m2 := m2.below hb4
        replace m3 := m3.below hb4
        have hbr4 := hbr3.cons hb4
        have hsx := Mx.sz_x (m := m) (l := 8192) hsz lx ly
        replace hL := Lib.hid hL
        replace hf := Lib.hid hf
        clear hb1 hb2 hb3 hb4 hbr hbr1 hbr2 hbr3 CP CQ
        cases f with
        | false =>
          go_wp2_with (fail)
          refine (ddivmod_c X cx x Y cy y _ hX hY (by omega) (by omega) hy0).mono ?_
          rintro e w5 ⟨Z, cz, R, cr, rfl, hZ, hR, hb5⟩
          have hY5 := hY.below hb5
          have hmeas : natAt w5 (some (.slice R (nl (x % y)) cr)) < y := by rw [hR.at_]; exact Nat.mod_lt _ hy0
          have hg2 : Hid (Nat.gcd y (x % y) = Nat.gcd a b) := Lib.hid (by rw [← hg.out, Nat.gcd_comm x y, Nat.gcd_rec y x, Nat.gcd_comm])
          have hrl : x % y ≤ y := Nat.le_of_lt (Nat.mod_lt _ hy0)
          have lr : nl (x % y) ≤ 8192 := Nat.le_trans (nl_mono hrl) ly
          replace hmeas := Lib.hid hmeas
          go_wp2_with (fail)
          go_roundw
          case rel => exact ⟨y, x % y, Y, cy, R, cr, rfl, rfl, hY5, hR, hbr4.cons hb5, hg2, hrl, ly, lr⟩
          case measure => rw [hY0.out.at_]; exact hmeas.out
        | true =>
          have hst := lehmer_step (x := x) (y := y) (n := n) (m := m) (by rw [← Ep.out, ← Eq.out]; exact hL.out) (hf.out rfl) hxy0
          obtain ⟨s1, s2, s3, s4⟩ := hst
          have CD := do_c mA ma mB mb mC mc mD md m X cx x Y cy y _ m0 m1 m2 m3 hX hY (hG.below hbr4) (hsz.mono (by decide)) (by omega) (by omega)
          obtain ⟨u, Eu⟩ : ∃ z, z = mg (m.x x y) := ⟨_, rfl⟩
          obtain ⟨v, Ev⟩ : ∃ z, z = mg (m.y x y) := ⟨_, rfl⟩
          rw [← Eu, ← Ev] at CD s1 s2
          rw [← Eu] at s3
          rw [← Ev] at s4
          replace CD := Lib.hid CD
          replace Eu := Lib.hid Eu
          replace Ev := Lib.hid Ev
          have q0 := RM.c (i := 0) rfl
          have q1 := RM.c (i := 1) rfl
          have q2 := RM.c (i := 2) rfl
          have q3 := RM.c (i := 3) rfl
          have q4 := RM.c (i := 4) rfl
          have q5 := RM.c (i := 5) rfl
          have q6 := RM.c (i := 6) rfl
          have q7 := RM.c (i := 7) rfl
          go_wp2_with (fail)
          refine CD.out.mono ?_
          rintro e w5 ⟨U, cu, V, cv, rfl, hU, hV, hb5⟩
          have hmeas : natAt w5 (some (.slice V (nl v) cv)) < y := by rw [hV.at_]; exact s4
          have hg2 : Hid (Nat.gcd u v = Nat.gcd a b) := Lib.hid (by rw [s1, hg.out])
          have lu : nl u ≤ 8192 := Nat.le_trans (nl_mono s3) ly
          have lv : nl v ≤ 8192 := Nat.le_trans (nl_mono s2) lu
          replace hmeas := Lib.hid hmeas
          clear q0 q1 q2 q3 q4 q5 q6 q7 s1 s3 s4
          go_wp2_with (fail)
          go_roundw
          case rel => exact ⟨u, v, U, cu, V, cv, rfl, rfl, hU, hV, hbr4.cons hb5, hg2, s2, lu, lv⟩
          case measure => rw [hY0.out.at_]; exact hmeas.out
end Go.Proofs.YthcmoimlnhghcaaGreatDoor

/- Matrices: one behind another. -/
set_option linter.unusedVariables false
set_option linter.unusedSimpArgs false
namespace Go.Proofs.YthcmoimlnhghcaaGreatDoor
open Go.RowKit Go.Shelf
attribute [local go_sem] max2_i min2_i max_two min_two

theorem after_c (m0A : Option Addr) (m0c : Nat) (m1A : Option Addr) (m1c : Nat) (m2A : Option Addr) (m2c : Nat) (m3A : Option Addr) (m3c : Nat) (m : Mx) (n0A : Option Addr) (n0c : Nat) (n1A : Option Addr) (n1c : Nat) (n2A : Option Addr) (n2c : Nat) (n3A : Option Addr) (n3c : Nat) (n : Mx) (w : World) (hm0 : NatV w m0A m0c (mg m.a)) (hm1 : NatV w m1A m1c (mg m.b)) (hm2 : NatV w m2A m2c (mg m.c)) (hm3 : NatV w m3A m3c (mg m.d)) (hn0 : NatV w n0A n0c (mg n.a)) (hn1 : NatV w n1A n1c (mg n.b)) (hn2 : NatV w n2A n2c (mg n.c)) (hn3 : NatV w n3A n3c (mg n.d)) (hG : Flds w) (lm : m.sz 16384) (ln : n.sz 16384) :
    Calls Tryz.prog 143 #[.agg #[.bool (sg m.a), .slice m0A (nl (mg m.a)) m0c, .bool (sg m.b), .slice m1A (nl (mg m.b)) m1c, .bool (sg m.c), .slice m2A (nl (mg m.c)) m2c, .bool (sg m.d), .slice m3A (nl (mg m.d)) m3c], .agg #[.bool (sg n.a), .slice n0A (nl (mg n.a)) n0c, .bool (sg n.b), .slice n1A (nl (mg n.b)) n1c, .bool (sg n.c), .slice n2A (nl (mg n.c)) n2c, .bool (sg n.d), .slice n3A (nl (mg n.d)) n3c]] w (RetM w (m.af n)) := by
  obtain ⟨lm0, lm1, lm2, lm3⟩ := lm
  obtain ⟨ln0, ln1, ln2, ln3⟩ := ln
  obtain ⟨hb1, Rm, Rn, Rr⟩ := bx3 w #[.bool (sg m.a), .slice m0A (nl (mg m.a)) m0c, .bool (sg m.b), .slice m1A (nl (mg m.b)) m1c, .bool (sg m.c), .slice m2A (nl (mg m.c)) m2c, .bool (sg m.d), .slice m3A (nl (mg m.d)) m3c] 89 #[.bool (sg n.a), .slice n0A (nl (mg n.a)) n0c, .bool (sg n.b), .slice n1A (nl (mg n.b)) n1c, .bool (sg n.c), .slice n2A (nl (mg n.c)) n2c, .bool (sg n.d), .slice n3A (nl (mg n.d)) n3c] 89 #[.bool false, .slice none 0 0, .bool false, .slice none 0 0, .bool false, .slice none 0 0, .bool false, .slice none 0 0] 89
  replace hm0 := hm0.below hb1
  replace hm1 := hm1.below hb1
  replace hm2 := hm2.below hb1
  replace hm3 := hm3.below hb1
  replace hn0 := hn0.below hb1
  replace hn1 := hn1.below hb1
  replace hn2 := hn2.below hb1
  replace hn3 := hn3.below hb1
  replace hG := hG.below hb1
  have HBT := hb1
  clear hb1
  have qm0 := Rm.c (i := 0) rfl
  have qm1 := Rm.c (i := 1) rfl
  have qm2 := Rm.c (i := 2) rfl
  have qm3 := Rm.c (i := 3) rfl
  have qm4 := Rm.c (i := 4) rfl
  have qm5 := Rm.c (i := 5) rfl
  have qm6 := Rm.c (i := 6) rfl
  have qm7 := Rm.c (i := 7) rfl
  have qn0 := Rn.c (i := 0) rfl
  have qn1 := Rn.c (i := 1) rfl
  have qn2 := Rn.c (i := 2) rfl
  have qn3 := Rn.c (i := 3) rfl
  have qn4 := Rn.c (i := 4) rfl
  have qn5 := Rn.c (i := 5) rfl
  have qn6 := Rn.c (i := 6) rfl
  have qn7 := Rn.c (i := 7) rfl
  have qr0 := Rr.c (i := 0) rfl
  have qr1 := Rr.c (i := 1) rfl
  have qr2 := Rr.c (i := 2) rfl
  have qr3 := Rr.c (i := 3) rfl
  have qr4 := Rr.c (i := 4) rfl
  have qr5 := Rr.c (i := 5) rfl
  have qr6 := Rr.c (i := 6) rfl
  have qr7 := Rr.c (i := 7) rfl
  clear qr0
  clear qr1
  clear qr2
  clear qr3
  clear qr4
  clear qr5
  clear qr6
  clear qr7
  go_enter Tryz.func143, Tryz.ntmps143
  go_wp2_with (fail)
  clear qm0
  clear qn0
  clear qm1
  clear qn1
  clear qm2
  clear qn2
  clear qm3
  clear qn3
  clear qm4
  clear qn4
  clear qm5
  clear qn5
  clear qm6
  clear qn6
  clear qm7
  clear qn7
  have hd2 := drb ((((w.alloc (.cells #[.bool (sg m.a), .slice m0A (nl (mg m.a)) m0c, .bool (sg m.b), .slice m1A (nl (mg m.b)) m1c, .bool (sg m.c), .slice m2A (nl (mg m.c)) m2c, .bool (sg m.d), .slice m3A (nl (mg m.d)) m3c] 89)).alloc (.cells #[.bool (sg n.a), .slice n0A (nl (mg n.a)) n0c, .bool (sg n.b), .slice n1A (nl (mg n.b)) n1c, .bool (sg n.c), .slice n2A (nl (mg n.c)) n2c, .bool (sg n.d), .slice n3A (nl (mg n.d)) n3c] 89)).alloc (.cells #[.bool false, .slice none 0 0, .bool false, .slice none 0 0, .bool false, .slice none 0 0, .bool false, .slice none 0 0] 89)))
  replace hm0 := hm0.below hd2
  replace hm1 := hm1.below hd2
  replace hm2 := hm2.below hd2
  replace hm3 := hm3.below hd2
  replace hn0 := hn0.below hd2
  replace hn1 := hn1.below hd2
  replace hn2 := hn2.below hd2
  replace hn3 := hn3.below hd2
  replace hG := hG.below hd2
  replace Rm := Rm.below hd2
  replace Rn := Rn.below hd2
  replace Rr := Rr.below hd2
  replace HBT := Below.cons HBT hd2
  clear hd2
  obtain ⟨x, Ex⟩ : ∃ zq : Int, zq = n.a * m.a + n.b * m.c := ⟨_, rfl⟩
  have C2_0 := fun (W : World) (h1 : NatV W n0A n0c (mg n.a)) (h2 : NatV W m0A m0c (mg m.a)) (h3 : NatV W n1A n1c (mg n.b)) (h4 : NatV W m2A m2c (mg m.c)) (hG : Flds W) => after1_c n0A n0c n.a m0A m0c m.a n1A n1c n.b m2A m2c m.c W h1 h2 h3 h4 hG (by omega) (by omega) (by omega) (by omega)
  simp only [← Ex] at C2_0
  replace Ex := Lib.hid Ex
  replace C2_0 := Lib.hid C2_0
  obtain ⟨y, Ey⟩ : ∃ zq : Int, zq = n.a * m.b + n.b * m.d := ⟨_, rfl⟩
  have C2_1 := fun (W : World) (h1 : NatV W n0A n0c (mg n.a)) (h2 : NatV W m1A m1c (mg m.b)) (h3 : NatV W n1A n1c (mg n.b)) (h4 : NatV W m3A m3c (mg m.d)) (hG : Flds W) => after1_c n0A n0c n.a m1A m1c m.b n1A n1c n.b m3A m3c m.d W h1 h2 h3 h4 hG (by omega) (by omega) (by omega) (by omega)
  simp only [← Ey] at C2_1
  replace Ey := Lib.hid Ey
  replace C2_1 := Lib.hid C2_1
  obtain ⟨z, Ez⟩ : ∃ zq : Int, zq = n.c * m.a + n.d * m.c := ⟨_, rfl⟩
  have C2_2 := fun (W : World) (h1 : NatV W n2A n2c (mg n.c)) (h2 : NatV W m0A m0c (mg m.a)) (h3 : NatV W n3A n3c (mg n.d)) (h4 : NatV W m2A m2c (mg m.c)) (hG : Flds W) => after1_c n2A n2c n.c m0A m0c m.a n3A n3c n.d m2A m2c m.c W h1 h2 h3 h4 hG (by omega) (by omega) (by omega) (by omega)
  simp only [← Ez] at C2_2
  replace Ez := Lib.hid Ez
  replace C2_2 := Lib.hid C2_2
  obtain ⟨v, Ev⟩ : ∃ zq : Int, zq = n.c * m.b + n.d * m.d := ⟨_, rfl⟩
  have C2_3 := fun (W : World) (h1 : NatV W n2A n2c (mg n.c)) (h2 : NatV W m1A m1c (mg m.b)) (h3 : NatV W n3A n3c (mg n.d)) (h4 : NatV W m3A m3c (mg m.d)) (hG : Flds W) => after1_c n2A n2c n.c m1A m1c m.b n3A n3c n.d m3A m3c m.d W h1 h2 h3 h4 hG (by omega) (by omega) (by omega) (by omega)
  simp only [← Ev] at C2_3
  replace Ev := Lib.hid Ev
  replace C2_3 := Lib.hid C2_3
  obtain ⟨S, hS⟩ : ∃ S : World → Prop, S = fun W => W.cell? ⟨w.heap.size, 0, none⟩ = some (.bool (sg m.a)) ∧ W.cell? ⟨w.heap.size, 1, none⟩ = some (.slice m0A (nl (mg m.a)) m0c) ∧ W.cell? ⟨w.heap.size, 2, none⟩ = some (.bool (sg m.b)) ∧ W.cell? ⟨w.heap.size, 3, none⟩ = some (.slice m1A (nl (mg m.b)) m1c) ∧ W.cell? ⟨w.heap.size, 4, none⟩ = some (.bool (sg m.c)) ∧ W.cell? ⟨w.heap.size, 5, none⟩ = some (.slice m2A (nl (mg m.c)) m2c) ∧ W.cell? ⟨w.heap.size, 6, none⟩ = some (.bool (sg m.d)) ∧ W.cell? ⟨w.heap.size, 7, none⟩ = some (.slice m3A (nl (mg m.d)) m3c) ∧ W.cell? ⟨(w.heap.size + 1), 0, none⟩ = some (.bool (sg n.a)) ∧ W.cell? ⟨(w.heap.size + 1), 1, none⟩ = some (.slice n0A (nl (mg n.a)) n0c) ∧ W.cell? ⟨(w.heap.size + 1), 2, none⟩ = some (.bool (sg n.b)) ∧ W.cell? ⟨(w.heap.size + 1), 3, none⟩ = some (.slice n1A (nl (mg n.b)) n1c) ∧ W.cell? ⟨(w.heap.size + 1), 4, none⟩ = some (.bool (sg n.c)) ∧ W.cell? ⟨(w.heap.size + 1), 5, none⟩ = some (.slice n2A (nl (mg n.c)) n2c) ∧ W.cell? ⟨(w.heap.size + 1), 6, none⟩ = some (.bool (sg n.d)) ∧ W.cell? ⟨(w.heap.size + 1), 7, none⟩ = some (.slice n3A (nl (mg n.d)) n3c) := ⟨_, rfl⟩
  have HSq : S ((((w.alloc (.cells #[.bool (sg m.a), .slice m0A (nl (mg m.a)) m0c, .bool (sg m.b), .slice m1A (nl (mg m.b)) m1c, .bool (sg m.c), .slice m2A (nl (mg m.c)) m2c, .bool (sg m.d), .slice m3A (nl (mg m.d)) m3c] 89)).alloc (.cells #[.bool (sg n.a), .slice n0A (nl (mg n.a)) n0c, .bool (sg n.b), .slice n1A (nl (mg n.b)) n1c, .bool (sg n.c), .slice n2A (nl (mg n.c)) n2c, .bool (sg n.d), .slice n3A (nl (mg n.d)) n3c] 89)).alloc (.cells #[.bool false, .slice none 0 0, .bool false, .slice none 0 0, .bool false, .slice none 0 0, .bool false, .slice none 0 0] 89))).drew := by rw [hS]; exact ⟨(Rm.c (i := 0) rfl), (Rm.c (i := 1) rfl), (Rm.c (i := 2) rfl), (Rm.c (i := 3) rfl), (Rm.c (i := 4) rfl), (Rm.c (i := 5) rfl), (Rm.c (i := 6) rfl), (Rm.c (i := 7) rfl), (Rn.c (i := 0) rfl), (Rn.c (i := 1) rfl), (Rn.c (i := 2) rfl), (Rn.c (i := 3) rfl), (Rn.c (i := 4) rfl), (Rn.c (i := 5) rfl), (Rn.c (i := 6) rfl), (Rn.c (i := 7) rfl)⟩
  have hSb : ∀ W W' : World, Below W.heap.size W W' → S W → S W' := by rw [hS]; exact fun W W' hb h => ⟨cell_below hb h.1, cell_below hb h.2.1, cell_below hb h.2.2.1, cell_below hb h.2.2.2.1, cell_below hb h.2.2.2.2.1, cell_below hb h.2.2.2.2.2.1, cell_below hb h.2.2.2.2.2.2.1, cell_below hb h.2.2.2.2.2.2.2.1, cell_below hb h.2.2.2.2.2.2.2.2.1, cell_below hb h.2.2.2.2.2.2.2.2.2.1, cell_below hb h.2.2.2.2.2.2.2.2.2.2.1, cell_below hb h.2.2.2.2.2.2.2.2.2.2.2.1, cell_below hb h.2.2.2.2.2.2.2.2.2.2.2.2.1, cell_below hb h.2.2.2.2.2.2.2.2.2.2.2.2.2.1, cell_below hb h.2.2.2.2.2.2.2.2.2.2.2.2.2.2.1, cell_below hb h.2.2.2.2.2.2.2.2.2.2.2.2.2.2.2⟩
  replace hSb := Lib.hid hSb
  replace hS := Lib.hid hS
  refine wp_region_seq S [(0, true), (1, true), (2, true), (3, true), (4, true), (5, true), (6, true), (7, true), (8, true), (10, true), (11, true), (12, true), (13, true), (14, true), (15, true), (16, true), (17, true), (18, true), (20, true), (21, true), (22, true), (23, true), (24, true), (25, true), (26, true), (27, true), (28, true), (30, true), (31, true), (32, true), (33, true), (34, true), (35, true), (36, true), (37, true), (38, true), (9, false), (19, false), (29, false), (39, false), (40, true), (41, false)] (by kernel_rfl) (by kernel_rfl) (by kernel_rfl) HSq (fun hSq => ?_)
  clear hSq
  replace HSq := Lib.hid HSq
  clear Rm Rn
  refine SeqP.take (v := ?_) rfl (fun _ _ _ h => h) (Or.inl ⟨by rfl, ?_⟩) ?_
  rotate_left 1
  · intro wq hSw; rw [hS.out] at hSw; (try dsimp only at hSw); go_simp; try with_reducible rfl
  try simp only [Act.put, List.setIfInBounds_toArray, List.set_cons_zero, List.set_cons_succ]
  refine SeqP.take (v := ?_) rfl (fun _ _ _ h => h) (Or.inl ⟨by rfl, ?_⟩) ?_
  rotate_left 1
  · intro wq hSw; rw [hS.out] at hSw; (try dsimp only at hSw); go_simp; try with_reducible rfl
  try simp only [Act.put, List.setIfInBounds_toArray, List.set_cons_zero, List.set_cons_succ]
  refine SeqP.take (v := ?_) rfl (fun _ _ _ h => h) (Or.inl ⟨by rfl, ?_⟩) ?_
  rotate_left 1
  · intro wq hSw; rw [hS.out] at hSw; (try dsimp only at hSw); go_simp; try with_reducible rfl
  try simp only [Act.put, List.setIfInBounds_toArray, List.set_cons_zero, List.set_cons_succ]
  refine SeqP.take (v := ?_) rfl (fun _ _ _ h => h) (Or.inl ⟨by rfl, ?_⟩) ?_
  rotate_left 1
  · intro wq hSw; rw [hS.out] at hSw; (try dsimp only at hSw); go_simp; try with_reducible rfl
  try simp only [Act.put, List.setIfInBounds_toArray, List.set_cons_zero, List.set_cons_succ]
  refine SeqP.take (v := ?_) rfl (fun _ _ _ h => h) (Or.inl ⟨by rfl, ?_⟩) ?_
  rotate_left 1
  · intro wq hSw; rw [hS.out] at hSw; (try dsimp only at hSw); go_simp; try with_reducible rfl
  try simp only [Act.put, List.setIfInBounds_toArray, List.set_cons_zero, List.set_cons_succ]
  refine SeqP.take (v := ?_) rfl (fun _ _ _ h => h) (Or.inl ⟨by rfl, ?_⟩) ?_
  rotate_left 1
  · intro wq hSw; rw [hS.out] at hSw; (try dsimp only at hSw); go_simp; try with_reducible rfl
  try simp only [Act.put, List.setIfInBounds_toArray, List.set_cons_zero, List.set_cons_succ]
  refine SeqP.take (v := ?_) rfl (fun _ _ _ h => h) (Or.inl ⟨by rfl, ?_⟩) ?_
  rotate_left 1
  · intro wq hSw; rw [hS.out] at hSw; (try dsimp only at hSw); go_simp; try with_reducible rfl
  try simp only [Act.put, List.setIfInBounds_toArray, List.set_cons_zero, List.set_cons_succ]
  refine SeqP.take (v := ?_) rfl (fun _ _ _ h => h) (Or.inl ⟨by rfl, ?_⟩) ?_
  rotate_left 1
  · intro wq hSw; rw [hS.out] at hSw; (try dsimp only at hSw); go_simp; try with_reducible rfl
  try simp only [Act.put, List.setIfInBounds_toArray, List.set_cons_zero, List.set_cons_succ]
  refine SeqP.take (v := ?_) rfl (fun _ _ _ h => h) (Or.inl ⟨by rfl, ?_⟩) ?_
  rotate_left 1
  · intro wq hSw; rw [hS.out] at hSw; (try dsimp only at hSw); go_simp; try with_reducible rfl
  try simp only [Act.put, List.setIfInBounds_toArray, List.set_cons_zero, List.set_cons_succ]
  refine SeqP.take (v := ?_) rfl (fun _ _ _ h => h) (Or.inl ⟨by rfl, ?_⟩) ?_
  rotate_left 1
  · intro wq hSw; rw [hS.out] at hSw; (try dsimp only at hSw); go_simp; try with_reducible rfl
  try simp only [Act.put, List.setIfInBounds_toArray, List.set_cons_zero, List.set_cons_succ]
  refine SeqP.take (v := ?_) rfl (fun _ _ _ h => h) (Or.inl ⟨by rfl, ?_⟩) ?_
  rotate_left 1
  · intro wq hSw; rw [hS.out] at hSw; (try dsimp only at hSw); go_simp; try with_reducible rfl
  try simp only [Act.put, List.setIfInBounds_toArray, List.set_cons_zero, List.set_cons_succ]
  refine SeqP.take (v := ?_) rfl (fun _ _ _ h => h) (Or.inl ⟨by rfl, ?_⟩) ?_
  rotate_left 1
  · intro wq hSw; rw [hS.out] at hSw; (try dsimp only at hSw); go_simp; try with_reducible rfl
  try simp only [Act.put, List.setIfInBounds_toArray, List.set_cons_zero, List.set_cons_succ]
  refine SeqP.take (v := ?_) rfl (fun _ _ _ h => h) (Or.inl ⟨by rfl, ?_⟩) ?_
  rotate_left 1
  · intro wq hSw; rw [hS.out] at hSw; (try dsimp only at hSw); go_simp; try with_reducible rfl
  try simp only [Act.put, List.setIfInBounds_toArray, List.set_cons_zero, List.set_cons_succ]
  refine SeqP.take (v := ?_) rfl (fun _ _ _ h => h) (Or.inl ⟨by rfl, ?_⟩) ?_
  rotate_left 1
  · intro wq hSw; rw [hS.out] at hSw; (try dsimp only at hSw); go_simp; try with_reducible rfl
  try simp only [Act.put, List.setIfInBounds_toArray, List.set_cons_zero, List.set_cons_succ]
  refine SeqP.take (v := ?_) rfl (fun _ _ _ h => h) (Or.inl ⟨by rfl, ?_⟩) ?_
  rotate_left 1
  · intro wq hSw; rw [hS.out] at hSw; (try dsimp only at hSw); go_simp; try with_reducible rfl
  try simp only [Act.put, List.setIfInBounds_toArray, List.set_cons_zero, List.set_cons_succ]
  refine SeqP.take (v := ?_) rfl (fun _ _ _ h => h) (Or.inl ⟨by rfl, ?_⟩) ?_
  rotate_left 1
  · intro wq hSw; rw [hS.out] at hSw; (try dsimp only at hSw); go_simp; try with_reducible rfl
  try simp only [Act.put, List.setIfInBounds_toArray, List.set_cons_zero, List.set_cons_succ]
  refine SeqP.take (v := ?_) rfl (fun _ _ _ h => h) (Or.inl ⟨by rfl, ?_⟩) ?_
  rotate_left 1
  · intro wq hSw; rw [hS.out] at hSw; (try dsimp only at hSw); go_simp; try with_reducible rfl
  try simp only [Act.put, List.setIfInBounds_toArray, List.set_cons_zero, List.set_cons_succ]
  refine SeqP.take (v := ?_) rfl (fun _ _ _ h => h) (Or.inl ⟨by rfl, ?_⟩) ?_
  rotate_left 1
  · intro wq hSw; rw [hS.out] at hSw; (try dsimp only at hSw); go_simp; try with_reducible rfl
  try simp only [Act.put, List.setIfInBounds_toArray, List.set_cons_zero, List.set_cons_succ]
  refine SeqP.take (v := ?_) rfl (fun _ _ _ h => h) (Or.inl ⟨by rfl, ?_⟩) ?_
  rotate_left 1
  · intro wq hSw; rw [hS.out] at hSw; (try dsimp only at hSw); go_simp; try with_reducible rfl
  try simp only [Act.put, List.setIfInBounds_toArray, List.set_cons_zero, List.set_cons_succ]
  refine SeqP.take (v := ?_) rfl (fun _ _ _ h => h) (Or.inl ⟨by rfl, ?_⟩) ?_
  rotate_left 1
  · intro wq hSw; rw [hS.out] at hSw; (try dsimp only at hSw); go_simp; try with_reducible rfl
  try simp only [Act.put, List.setIfInBounds_toArray, List.set_cons_zero, List.set_cons_succ]
  refine SeqP.take (v := ?_) rfl (fun _ _ _ h => h) (Or.inl ⟨by rfl, ?_⟩) ?_
  rotate_left 1
  · intro wq hSw; rw [hS.out] at hSw; (try dsimp only at hSw); go_simp; try with_reducible rfl
  try simp only [Act.put, List.setIfInBounds_toArray, List.set_cons_zero, List.set_cons_succ]
  refine SeqP.take (v := ?_) rfl (fun _ _ _ h => h) (Or.inl ⟨by rfl, ?_⟩) ?_
  rotate_left 1
  · intro wq hSw; rw [hS.out] at hSw; (try dsimp only at hSw); go_simp; try with_reducible rfl
  try simp only [Act.put, List.setIfInBounds_toArray, List.set_cons_zero, List.set_cons_succ]
  refine SeqP.take (v := ?_) rfl (fun _ _ _ h => h) (Or.inl ⟨by rfl, ?_⟩) ?_
  rotate_left 1
  · intro wq hSw; rw [hS.out] at hSw; (try dsimp only at hSw); go_simp; try with_reducible rfl
  try simp only [Act.put, List.setIfInBounds_toArray, List.set_cons_zero, List.set_cons_succ]
  refine SeqP.take (v := ?_) rfl (fun _ _ _ h => h) (Or.inl ⟨by rfl, ?_⟩) ?_
  rotate_left 1
  · intro wq hSw; rw [hS.out] at hSw; (try dsimp only at hSw); go_simp; try with_reducible rfl
  try simp only [Act.put, List.setIfInBounds_toArray, List.set_cons_zero, List.set_cons_succ]
  refine SeqP.take (v := ?_) rfl (fun _ _ _ h => h) (Or.inl ⟨by rfl, ?_⟩) ?_
  rotate_left 1
  · intro wq hSw; rw [hS.out] at hSw; (try dsimp only at hSw); go_simp; try with_reducible rfl
  try simp only [Act.put, List.setIfInBounds_toArray, List.set_cons_zero, List.set_cons_succ]
  refine SeqP.take (v := ?_) rfl (fun _ _ _ h => h) (Or.inl ⟨by rfl, ?_⟩) ?_
  rotate_left 1
  · intro wq hSw; rw [hS.out] at hSw; (try dsimp only at hSw); go_simp; try with_reducible rfl
  try simp only [Act.put, List.setIfInBounds_toArray, List.set_cons_zero, List.set_cons_succ]
  refine SeqP.take (v := ?_) rfl (fun _ _ _ h => h) (Or.inl ⟨by rfl, ?_⟩) ?_
  rotate_left 1
  · intro wq hSw; rw [hS.out] at hSw; (try dsimp only at hSw); go_simp; try with_reducible rfl
  try simp only [Act.put, List.setIfInBounds_toArray, List.set_cons_zero, List.set_cons_succ]
  refine SeqP.take (v := ?_) rfl (fun _ _ _ h => h) (Or.inl ⟨by rfl, ?_⟩) ?_
  rotate_left 1
  · intro wq hSw; rw [hS.out] at hSw; (try dsimp only at hSw); go_simp; try with_reducible rfl
  try simp only [Act.put, List.setIfInBounds_toArray, List.set_cons_zero, List.set_cons_succ]
  refine SeqP.take (v := ?_) rfl (fun _ _ _ h => h) (Or.inl ⟨by rfl, ?_⟩) ?_
  rotate_left 1
  · intro wq hSw; rw [hS.out] at hSw; (try dsimp only at hSw); go_simp; try with_reducible rfl
  try simp only [Act.put, List.setIfInBounds_toArray, List.set_cons_zero, List.set_cons_succ]
  refine SeqP.take (v := ?_) rfl (fun _ _ _ h => h) (Or.inl ⟨by rfl, ?_⟩) ?_
  rotate_left 1
  · intro wq hSw; rw [hS.out] at hSw; (try dsimp only at hSw); go_simp; try with_reducible rfl
  try simp only [Act.put, List.setIfInBounds_toArray, List.set_cons_zero, List.set_cons_succ]
  refine SeqP.take (v := ?_) rfl (fun _ _ _ h => h) (Or.inl ⟨by rfl, ?_⟩) ?_
  rotate_left 1
  · intro wq hSw; rw [hS.out] at hSw; (try dsimp only at hSw); go_simp; try with_reducible rfl
  try simp only [Act.put, List.setIfInBounds_toArray, List.set_cons_zero, List.set_cons_succ]
  refine SeqP.take (v := ?_) rfl (fun _ _ _ h => h) (Or.inl ⟨by rfl, ?_⟩) ?_
  rotate_left 1
  · intro wq hSw; rw [hS.out] at hSw; (try dsimp only at hSw); go_simp; try with_reducible rfl
  try simp only [Act.put, List.setIfInBounds_toArray, List.set_cons_zero, List.set_cons_succ]
  refine SeqP.take (v := ?_) rfl (fun _ _ _ h => h) (Or.inl ⟨by rfl, ?_⟩) ?_
  rotate_left 1
  · intro wq hSw; rw [hS.out] at hSw; (try dsimp only at hSw); go_simp; try with_reducible rfl
  try simp only [Act.put, List.setIfInBounds_toArray, List.set_cons_zero, List.set_cons_succ]
  refine SeqP.take (v := ?_) rfl (fun _ _ _ h => h) (Or.inl ⟨by rfl, ?_⟩) ?_
  rotate_left 1
  · intro wq hSw; rw [hS.out] at hSw; (try dsimp only at hSw); go_simp; try with_reducible rfl
  try simp only [Act.put, List.setIfInBounds_toArray, List.set_cons_zero, List.set_cons_succ]
  refine SeqP.take (v := ?_) rfl (fun _ _ _ h => h) (Or.inl ⟨by rfl, ?_⟩) ?_
  rotate_left 1
  · intro wq hSw; rw [hS.out] at hSw; (try dsimp only at hSw); go_simp; try with_reducible rfl
  try simp only [Act.put, List.setIfInBounds_toArray, List.set_cons_zero, List.set_cons_succ]
  refine SeqP.take (v := ?_) rfl (fun _ _ _ h => h) (Or.inl ⟨by rfl, ?_⟩) ?_
  rotate_left 1
  · intro wq hSw; rw [hS.out] at hSw; (try dsimp only at hSw); go_simp; try with_reducible rfl
  try simp only [Act.put, List.setIfInBounds_toArray, List.set_cons_zero, List.set_cons_succ]
  refine SeqP.call rfl (by rfl) (fun Kq hKq => ?_)
  go_simp
  go_at_call 162
  with_reducible refine (C2_0.out _ hn0 hm0 hn1 hm2 hG).mono ?_
  rintro e W3 ⟨Xx, cx, rfl, hx, hb3⟩
  replace hm0 := hm0.below hb3
  replace hm1 := hm1.below hb3
  replace hm2 := hm2.below hb3
  replace hm3 := hm3.below hb3
  replace hn0 := hn0.below hb3
  replace hn1 := hn1.below hb3
  replace hn2 := hn2.below hb3
  replace hn3 := hn3.below hb3
  replace hG := hG.below hb3
  replace Rr := Rr.below hb3
  replace HBT := Below.cons HBT hb3
  replace HSq := Lib.hid (hSb.out _ _ hb3 HSq.out)
  clear hb3
  refine hKq.out _ _ HSq.out (fun hSq => ?_)
  clear hSq hKq Kq
  try simp only [Act.put, List.setIfInBounds_toArray, List.set_cons_zero, List.set_cons_succ]
  refine SeqP.call rfl (by rfl) (fun Kq hKq => ?_)
  go_simp
  go_at_call 162
  with_reducible refine (C2_1.out _ hn0 hm1 hn1 hm3 hG).mono ?_
  rintro e W4 ⟨Xy, cy, rfl, hy, hb4⟩
  replace hm0 := hm0.below hb4
  replace hm1 := hm1.below hb4
  replace hm2 := hm2.below hb4
  replace hm3 := hm3.below hb4
  replace hn0 := hn0.below hb4
  replace hn1 := hn1.below hb4
  replace hn2 := hn2.below hb4
  replace hn3 := hn3.below hb4
  replace hG := hG.below hb4
  replace Rr := Rr.below hb4
  replace hx := hx.below hb4
  replace HBT := Below.cons HBT hb4
  replace HSq := Lib.hid (hSb.out _ _ hb4 HSq.out)
  clear hb4
  refine hKq.out _ _ HSq.out (fun hSq => ?_)
  clear hSq hKq Kq
  try simp only [Act.put, List.setIfInBounds_toArray, List.set_cons_zero, List.set_cons_succ]
  refine SeqP.call rfl (by rfl) (fun Kq hKq => ?_)
  go_simp
  go_at_call 162
  with_reducible refine (C2_2.out _ hn2 hm0 hn3 hm2 hG).mono ?_
  rintro e W5 ⟨Xz, cz, rfl, hz, hb5⟩
  replace hm0 := hm0.below hb5
  replace hm1 := hm1.below hb5
  replace hm2 := hm2.below hb5
  replace hm3 := hm3.below hb5
  replace hn0 := hn0.below hb5
  replace hn1 := hn1.below hb5
  replace hn2 := hn2.below hb5
  replace hn3 := hn3.below hb5
  replace hG := hG.below hb5
  replace Rr := Rr.below hb5
  replace hx := hx.below hb5
  replace hy := hy.below hb5
  replace HBT := Below.cons HBT hb5
  replace HSq := Lib.hid (hSb.out _ _ hb5 HSq.out)
  clear hb5
  refine hKq.out _ _ HSq.out (fun hSq => ?_)
  clear hSq hKq Kq
  try simp only [Act.put, List.setIfInBounds_toArray, List.set_cons_zero, List.set_cons_succ]
  refine SeqP.call rfl (by rfl) (fun Kq hKq => ?_)
  go_simp
  go_at_call 162
  with_reducible refine (C2_3.out _ hn2 hm1 hn3 hm3 hG).mono ?_
  rintro e W6 ⟨Xv, cv, rfl, hv, hb6⟩
  replace hm0 := hm0.below hb6
  replace hm1 := hm1.below hb6
  replace hm2 := hm2.below hb6
  replace hm3 := hm3.below hb6
  replace hn0 := hn0.below hb6
  replace hn1 := hn1.below hb6
  replace hn2 := hn2.below hb6
  replace hn3 := hn3.below hb6
  replace hG := hG.below hb6
  replace Rr := Rr.below hb6
  replace hx := hx.below hb6
  replace hy := hy.below hb6
  replace hz := hz.below hb6
  replace HBT := Below.cons HBT hb6
  replace HSq := Lib.hid (hSb.out _ _ hb6 HSq.out)
  clear hb6
  refine hKq.out _ _ HSq.out (fun hSq => ?_)
  clear hSq hKq Kq
  try simp only [Act.put, List.setIfInBounds_toArray, List.set_cons_zero, List.set_cons_succ]
  refine SeqP.take (v := ?_) rfl (fun _ _ _ h => h) (Or.inl ⟨by rfl, ?_⟩) ?_
  rotate_left 1
  · intro wq hSw; rw [hS.out] at hSw; (try dsimp only at hSw); go_simp; try with_reducible rfl
  try simp only [Act.put, List.setIfInBounds_toArray, List.set_cons_zero, List.set_cons_succ]
  have HSx := HSq.out
  rw [hS.out] at HSx
  obtain ⟨zx0, zx1, zx2, zx3, zx4, zx5, zx6, zx7, zx8, zx9, zx10, zx11, zx12, zx13, zx14, zx15⟩ := HSx
  have fz0 := Rr.f (i := 0)
  have cz_0 := Rr.c (i := 0) rfl
  have fz1 := Rr.f (i := 1)
  have cz_1 := Rr.c (i := 1) rfl
  have fz2 := Rr.f (i := 2)
  have cz_2 := Rr.c (i := 2) rfl
  have fz3 := Rr.f (i := 3)
  have cz_3 := Rr.c (i := 3) rfl
  have fz4 := Rr.f (i := 4)
  have cz_4 := Rr.c (i := 4) rfl
  have fz5 := Rr.f (i := 5)
  have cz_5 := Rr.c (i := 5) rfl
  have fz6 := Rr.f (i := 6)
  have cz_6 := Rr.c (i := 6) rfl
  have fz7 := Rr.f (i := 7)
  have cz_7 := Rr.c (i := 7) rfl
  refine SeqP.call rfl (by rfl) (fun Kq hKq => ?_)
  go_simp
  refine hKq.out _ _ (by rw [hS.out]; exact ⟨cell_other8 zx0 (by omega), cell_other8 zx1 (by omega), cell_other8 zx2 (by omega), cell_other8 zx3 (by omega), cell_other8 zx4 (by omega), cell_other8 zx5 (by omega), cell_other8 zx6 (by omega), cell_other8 zx7 (by omega), cell_other8 zx8 (by omega), cell_other8 zx9 (by omega), cell_other8 zx10 (by omega), cell_other8 zx11 (by omega), cell_other8 zx12 (by omega), cell_other8 zx13 (by omega), cell_other8 zx14 (by omega), cell_other8 zx15 (by omega)⟩) (fun hSq => ?_)
  clear hSq hKq Kq
  clear zx0 zx1 zx2 zx3 zx4 zx5 zx6 zx7 zx8 zx9 zx10 zx11 zx12 zx13 zx14 zx15
  try simp only [Act.put, List.setIfInBounds_toArray, List.set_cons_zero, List.set_cons_succ]
  refine SeqP.done ?_
  clear hSb
  clear HSq
  all_goals (try go_wp2_with (fail))
  have hzx : x = (m.af n).a := by rw [Ex.out]; rfl
  subst hzx
  have hzy : y = (m.af n).b := by rw [Ey.out]; rfl
  subst hzy
  have hzz : z = (m.af n).c := by rw [Ez.out]; rfl
  subst hzz
  have hzv : v = (m.af n).d := by rw [Ev.out]; rfl
  subst hzv
  have RS := Rr.store8 (.bool (sg (((m.af n).a)))) (.slice Xx (nl (mg (((m.af n).a)))) cx) (.bool (sg (((m.af n).b)))) (.slice Xy (nl (mg (((m.af n).b)))) cy) (.bool (sg (((m.af n).c)))) (.slice Xz (nl (mg (((m.af n).c)))) cz) (.bool (sg (((m.af n).d)))) (.slice Xv (nl (mg (((m.af n).d)))) cv)
  have e0 := RS.c (i := 0) rfl
  have e1 := RS.c (i := 1) rfl
  have e2 := RS.c (i := 2) rfl
  have e3 := RS.c (i := 3) rfl
  have e4 := RS.c (i := 4) rfl
  have e5 := RS.c (i := 5) rfl
  have e6 := RS.c (i := 6) rfl
  have e7 := RS.c (i := 7) rfl
  refine bodyPost_ret (v := .agg #[.bool (sg (((m.af n).a))), .slice Xx (nl (mg (((m.af n).a)))) cx, .bool (sg (((m.af n).b))), .slice Xy (nl (mg (((m.af n).b)))) cy, .bool (sg (((m.af n).c))), .slice Xz (nl (mg (((m.af n).c)))) cz, .bool (sg (((m.af n).d))), .slice Xv (nl (mg (((m.af n).d)))) cv]) (by simp [results, Tryz.results143, go_sem, e0, e1, e2, e3, e4, e5, e6, e7]) rfl ?_
  exact ⟨Xx, cx, Xy, cy, Xz, cz, Xv, cv, rfl, Rr.keep8 (lista8 _ rfl) hx, Rr.keep8 (lista8 _ rfl) hy, Rr.keep8 (lista8 _ rfl) hz, Rr.keep8 (lista8 _ rfl) hv, Below.store8 HBT (by first | exact Nat.le_refl _ | omega)⟩
end Go.Proofs.YthcmoimlnhghcaaGreatDoor
