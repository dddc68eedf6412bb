/- For all inputs a whole number times a power of 2, with powers of 2 moved from the one to the other, is the same: DyadMakes returns true and leaves its arguments as they were. Conditions: Each package-level variable that the row lists (math/bits.deBruijn32tab) holds at the call what the library's text lays; the tie is given and covers the pruned copy of the repository. -/
import Derived.Test.YtacjfpibilolnaaGreatDoorSA15
import Derived.Test.YtacjfpibilolnaaGreatDoorSA14
import Derived.Test.YtacjfpibilolnaaGreatDoorCards
import Derived.Test.YtacjfpibilolnaaGreatDoorTie
import Derived.SevenTiedAt
/- Laws of dyadic numbers: DyadMakes. -/
set_option linter.unusedVariables false
set_option linter.unusedSimpArgs false
namespace Go.Proofs.YtacjfpibilolnaaGreatDoor
open Go.RowKit Go.Shelf
attribute [local go_sem] max2_i min2_i max_two min_two

set_option maxRecDepth 100000 in
set_option maxHeartbeats 4000000 in
theorem dyadMakes_c (sa : Bool) (x : Int) (n : Nat) (A : Option Addr) (c : Nat) (l : List Nat) (w : World) (hT : Tab w) (hl : Rd w A l) (Ll : Lim l) (Ql : l.length ≤ maxLen) (Cl : l.length ≤ c) (Zl : A = none → c = 0) (hx : -32768 ≤ x ∧ x ≤ 32767) (hn8 : n < 256) :
    Calls Tryz.prog 4 #[.agg #[.bool sa, .slice A l.length c], .int .i16 x, .int .u8 (n : Nat)] w fun e w' => e = .returned (.bool true) ∧ Below w.heap.size w w' := by
  replace Zl := Lib.hid Zl
  have hT0 := hT
  have hl0 := hl
  obtain ⟨k, Ek⟩ : ∃ y, y = n % 201 := ⟨_, rfl⟩
  have Ik : (n : Int) % 201 = (k : Int) := by omega
  have Jk : (n : Int).tmod 201 = (k : Int) := by rw [Int.tmod_eq_emod_of_nonneg (by omega)]; exact Ik
  have Bk : k < 201 := by omega
  replace Ek := Lib.hid Ek
  obtain ⟨xk, Exk⟩ : ∃ q : Int, q = x - (k : Int) := ⟨_, rfl⟩
  have Ixk : x - (k : Int) = xk := Exk.symm
  have bxk : -40000 ≤ xk ∧ xk ≤ 40000 := by omega
  have Wxk : IntKind.i64.wrap xk = xk := IntWalk.i64_in _ (by omega)
  have Wx : IntKind.i64.wrap x = x := IntWalk.i64_in _ (by omega)
  replace Exk := Lib.hid Exk
  have hb1 : Below (w).heap.size (w) (w.alloc (.cells #[.bool sa, .slice A l.length c] 24)) := (Below.alloc (Below.refl _ _) (Nat.le_refl _) _)
  replace hT := hT.below hb1
  replace hl := hl.below hb1
  have HBT := hb1
  clear hb1
  have Rm : BoxA (w.alloc (.cells #[.bool sa, .slice A l.length c] 24)) w.heap.size 24 #[.bool sa, .slice A l.length c] := ⟨by repeat (first | exact at_new (by first | (simp; done) | (simp; omega)) | refine at_old (by first | (simp; done) | (simp; omega)) ?_)⟩
  have qm0 := Rm.c (i := 0) rfl
  have qm1 := Rm.c (i := 1) rfl
  go_enter Tryz.func4, Tryz.ntmps4
  go_wp2_with (fail)
  refine (Calls.mono (dhead_c _ hT) ?_)
  rintro e W2 ⟨rfl, hb2⟩
  replace hT := hT.below hb2
  replace hl := hl.below hb2
  replace Rm := Rm.below hb2
  replace qm0 := cell_below hb2 qm0
  replace qm1 := cell_below hb2 qm1
  replace HBT := Below.cons HBT hb2
  clear hb2
  go_wp2_with (fail)
  obtain ⟨z, Ez⟩ : ∃ zq : Int, zq = ival sa (val (l.take 8)) := ⟨_, rfl⟩
  have Nz : nl (mg z) ≤ 8 := by rw [Ez, mg_ival]; exact made_nl l Ll 8
  obtain ⟨zs, Ezs⟩ : ∃ q : Int, q = z.sign := ⟨_, rfl⟩
  replace Ezs := Lib.hid Ezs
  refine (Calls.mono (R := RetI W2 z) (by rw [Ez]; with_reducible exact (zmadeI_c sa A c l 8 8 _ hl Ll Ql Cl Zl.out (by decide) rfl)) ?_)
  replace Ez := Lib.hid Ez
  rintro e W3 ⟨Xz, cz, rfl, hz, hb3⟩
  replace hT := hT.below hb3
  replace hl := hl.below hb3
  replace Rm := Rm.below hb3
  replace qm0 := cell_below hb3 qm0
  replace qm1 := cell_below hb3 qm1
  replace HBT := Below.cons HBT hb3
  clear hb3
  have fm0_4 := Rm.f (i := 0)
  have fm1_4 := Rm.f (i := 1)
  have Rm_4 := Rm.store2 (.bool (sg z)) (.slice Xz (nl (mg z)) cz)
  have qm0_4 := Rm_4.c (i := 0) rfl
  have qm1_4 := Rm_4.c (i := 1) rfl
  have hz_4 := Rm.keep2 (v0 := .bool (sg z)) (v1 := .slice Xz (nl (mg z)) cz) (by intro u hu; simp at hu; rcases hu with rfl | rfl <;> first | exact notU_bool _ | exact notU_slice _ _ _ | exact notU_i64 _) hz
  have HBT_4 := Below.store2 (v0 := .bool (sg z)) (v1 := .slice Xz (nl (mg z)) cz) HBT (k := w.heap.size) (by first | exact Nat.le_refl _ | omega)
  have hT_4 := hT0.below HBT_4
  have hl_4 := hl0.below HBT_4
  go_wp2_with (fail)
  clear fm0_4 fm1_4 Rm hT hl qm0 qm1 hz HBT
  obtain ⟨u, Eu⟩ : ∃ zq : Rat, zq = dval z x := ⟨_, rfl⟩
  have Ou : DB u 8 33024 := by rw [Eu]; exact (db_val Nz (E := 32768) (by omega)).mono (by decide) (by decide)
  refine (Calls.mono (R := RetD ((W3.setCell ⟨w.heap.size, 0, none⟩ (.bool (sg z))).setCell ⟨w.heap.size, 1, none⟩ (.slice Xz (nl (mg z)) cz)) u) (by rw [Eu]; with_reducible exact (dmake_c Xz cz z x _ hz_4 hT_4 (by omega) (by omega))) ?_)
  replace Eu := Lib.hid Eu
  rintro e W5 ⟨Xu, cu, rfl, hu, hb5⟩
  replace Rm_4 := Rm_4.below hb5
  replace hT_4 := hT_4.below hb5
  replace hl_4 := hl_4.below hb5
  replace qm0_4 := cell_below hb5 qm0_4
  replace qm1_4 := cell_below hb5 qm1_4
  replace hz_4 := hz_4.below hb5
  have HBT := Below.cons HBT_4 hb5
  clear hb5
  have hb6 : Below (W5).heap.size (W5) (W5.alloc (.cells #[.bool (sg (dmn u)), .slice Xu (nl (mg (dmn u))) cu, .int .i64 (dex u)] 28)) := (Below.alloc (Below.refl _ _) (Nat.le_refl _) _)
  replace Rm_4 := Rm_4.below hb6
  replace hT_4 := hT_4.below hb6
  replace hl_4 := hl_4.below hb6
  replace qm0_4 := cell_below hb6 qm0_4
  replace qm1_4 := cell_below hb6 qm1_4
  replace hz_4 := hz_4.below hb6
  replace hu := hu.below hb6
  replace HBT := Below.cons HBT hb6
  clear hb6
  have Ru : BoxA (W5.alloc (.cells #[.bool (sg (dmn u)), .slice Xu (nl (mg (dmn u))) cu, .int .i64 (dex u)] 28)) W5.heap.size 28 #[.bool (sg (dmn u)), .slice Xu (nl (mg (dmn u))) cu, .int .i64 (dex u)] := ⟨by repeat (first | exact at_new (by first | (simp; done) | (simp; omega)) | refine at_old (by first | (simp; done) | (simp; omega)) ?_)⟩
  have qu0 := Ru.c (i := 0) rfl
  have qu1 := Ru.c (i := 1) rfl
  have qu2 := Ru.c (i := 2) rfl
  go_wp2_with (fail)
  obtain ⟨y, Ey⟩ : ∃ zq : Int, zq = shf z (k : Int) := ⟨_, rfl⟩
  have Ny : nl (mg y) ≤ 15 := by rw [Ey]; exact nl_shf_b Nz (D := 200) (by omega) (by omega)
  refine (Calls.mono (R := RetI (W5.alloc (.cells #[.bool (sg (dmn u)), .slice Xu (nl (mg (dmn u))) cu, .int .i64 (dex u)] 28)) y) (by rw [Ey]; with_reducible exact (zshift_c Xz cz z (k : Int) _ hz_4 (by omega) (by omega))) ?_)
  replace Ey := Lib.hid Ey
  rintro e W7 ⟨Xy, cy, rfl, hy, hb7⟩
  replace Rm_4 := Rm_4.below hb7
  replace hT_4 := hT_4.below hb7
  replace hl_4 := hl_4.below hb7
  replace qm0_4 := cell_below hb7 qm0_4
  replace qm1_4 := cell_below hb7 qm1_4
  replace hz_4 := hz_4.below hb7
  replace hu := hu.below hb7
  replace Ru := Ru.below hb7
  replace qu0 := cell_below hb7 qu0
  replace qu1 := cell_below hb7 qu1
  replace qu2 := cell_below hb7 qu2
  replace HBT := Below.cons HBT hb7
  clear hb7
  go_wp2_with (fail)
  obtain ⟨v, Ev⟩ : ∃ zq : Rat, zq = dval y xk := ⟨_, rfl⟩
  have Huv : v = u := by rw [Ev, Ey.out, Exk.out, dval_up, Eu.out]
  replace Huv := Lib.hid Huv
  refine (Calls.mono (R := RetD W7 v) (by rw [Ev]; with_reducible exact (dmake_c Xy cy y xk _ hy hT_4 (by omega) (by omega))) ?_)
  replace Ev := Lib.hid Ev
  rintro e W8 ⟨Xv, cv, rfl, hv, hb8⟩
  replace Rm_4 := Rm_4.below hb8
  replace hT_4 := hT_4.below hb8
  replace hl_4 := hl_4.below hb8
  replace qm0_4 := cell_below hb8 qm0_4
  replace qm1_4 := cell_below hb8 qm1_4
  replace hz_4 := hz_4.below hb8
  replace hu := hu.below hb8
  replace Ru := Ru.below hb8
  replace qu0 := cell_below hb8 qu0
  replace qu1 := cell_below hb8 qu1
  replace qu2 := cell_below hb8 qu2
  replace hy := hy.below hb8
  replace HBT := Below.cons HBT hb8
  clear hb8
  have hb9 : Below (W8).heap.size (W8) (W8.alloc (.cells #[.bool (sg (dmn v)), .slice Xv (nl (mg (dmn v))) cv, .int .i64 (dex v)] 28)) := (Below.alloc (Below.refl _ _) (Nat.le_refl _) _)
  replace Rm_4 := Rm_4.below hb9
  replace hT_4 := hT_4.below hb9
  replace hl_4 := hl_4.below hb9
  replace qm0_4 := cell_below hb9 qm0_4
  replace qm1_4 := cell_below hb9 qm1_4
  replace hz_4 := hz_4.below hb9
  replace hu := hu.below hb9
  replace Ru := Ru.below hb9
  replace qu0 := cell_below hb9 qu0
  replace qu1 := cell_below hb9 qu1
  replace qu2 := cell_below hb9 qu2
  replace hy := hy.below hb9
  replace hv := hv.below hb9
  replace HBT := Below.cons HBT hb9
  clear hb9
  have Rv : BoxA (W8.alloc (.cells #[.bool (sg (dmn v)), .slice Xv (nl (mg (dmn v))) cv, .int .i64 (dex v)] 28)) W8.heap.size 28 #[.bool (sg (dmn v)), .slice Xv (nl (mg (dmn v))) cv, .int .i64 (dex v)] := ⟨by repeat (first | exact at_new (by first | (simp; done) | (simp; omega)) | refine at_old (by first | (simp; done) | (simp; omega)) ?_)⟩
  have qv0 := Rv.c (i := 0) rfl
  have qv1 := Rv.c (i := 1) rfl
  have qv2 := Rv.c (i := 2) rfl
  go_wp2_with (fail)
  clear hy
  clear Ru
  clear Rv
  clear Rm_4
  have hd10 : Below ((W8.alloc (.cells #[.bool (sg (dmn v)), .slice Xv (nl (mg (dmn v))) cv, .int .i64 (dex v)] 28))).heap.size (W8.alloc (.cells #[.bool (sg (dmn v)), .slice Xv (nl (mg (dmn v))) cv, .int .i64 (dex v)] 28)) ((W8.alloc (.cells #[.bool (sg (dmn v)), .slice Xv (nl (mg (dmn v))) cv, .int .i64 (dex v)] 28))).drew := (Below.refl _ _).drew
  replace hT_4 := hT_4.below hd10
  replace hl_4 := hl_4.below hd10
  replace qm0_4 := cell_below hd10 qm0_4
  replace qm1_4 := cell_below hd10 qm1_4
  replace hz_4 := hz_4.below hd10
  replace hu := hu.below hd10
  replace qu0 := cell_below hd10 qu0
  replace qu1 := cell_below hd10 qu1
  replace qu2 := cell_below hd10 qu2
  replace hv := hv.below hd10
  replace qv0 := cell_below hd10 qv0
  replace qv1 := cell_below hd10 qv1
  replace qv2 := cell_below hd10 qv2
  replace HBT := Below.cons HBT hd10
  clear hd10
  replace qu0 : ((W8.alloc (.cells #[.bool (sg (dmn v)), .slice Xv (nl (mg (dmn v))) cv, .int .i64 (dex v)] 28))).drew.cell? ⟨W5.heap.size, 0, none⟩ = some (.bool (sg (dmn u))) := qu0
  replace qu1 : ((W8.alloc (.cells #[.bool (sg (dmn v)), .slice Xv (nl (mg (dmn v))) cv, .int .i64 (dex v)] 28))).drew.cell? ⟨W5.heap.size, 1, none⟩ = some (.slice Xu (nl (mg (dmn u))) cu) := qu1
  replace qu2 : ((W8.alloc (.cells #[.bool (sg (dmn v)), .slice Xv (nl (mg (dmn v))) cv, .int .i64 (dex v)] 28))).drew.cell? ⟨W5.heap.size, 2, none⟩ = some (.int .i64 (dex u)) := qu2
  replace qv0 : ((W8.alloc (.cells #[.bool (sg (dmn v)), .slice Xv (nl (mg (dmn v))) cv, .int .i64 (dex v)] 28))).drew.cell? ⟨W8.heap.size, 0, none⟩ = some (.bool (sg (dmn v))) := qv0
  replace qv1 : ((W8.alloc (.cells #[.bool (sg (dmn v)), .slice Xv (nl (mg (dmn v))) cv, .int .i64 (dex v)] 28))).drew.cell? ⟨W8.heap.size, 1, none⟩ = some (.slice Xv (nl (mg (dmn v))) cv) := qv1
  replace qv2 : ((W8.alloc (.cells #[.bool (sg (dmn v)), .slice Xv (nl (mg (dmn v))) cv, .int .i64 (dex v)] 28))).drew.cell? ⟨W8.heap.size, 2, none⟩ = some (.int .i64 (dex v)) := qv2
  replace qm0_4 : ((W8.alloc (.cells #[.bool (sg (dmn v)), .slice Xv (nl (mg (dmn v))) cv, .int .i64 (dex v)] 28))).drew.cell? ⟨w.heap.size, 0, none⟩ = some (.bool (sg z)) := qm0_4
  replace qm1_4 : ((W8.alloc (.cells #[.bool (sg (dmn v)), .slice Xv (nl (mg (dmn v))) cv, .int .i64 (dex v)] 28))).drew.cell? ⟨w.heap.size, 1, none⟩ = some (.slice Xz (nl (mg z)) cz) := qm1_4
  have C10_0 := fun (W : World) (A0 : Option Addr) (c0 : Nat) (A1 : Option Addr) (c1 : Nat) (h0 : NatV W A0 c0 (mg (dmn u))) (h1 : NatV W A1 c1 (mg (dmn v)))  => (show Calls Tryz.prog 19 #[.agg #[.bool (sg (dmn u)), .slice A0 (nl (mg (dmn u))) c0, .int .i64 (dex u)], .agg #[.bool (sg (dmn v)), .slice A1 (nl (mg (dmn v))) c1, .int .i64 (dex v)]] W (fun e w' => e = .returned (.bool true) ∧ Below W.heap.size W w') by exact tsameT_c A0 c0 u A1 c1 v W h0 h1 (Ou.ok (by decide) (by decide)) (by exact Huv.out.symm))
  replace C10_0 := Lib.hid C10_0
  have C10_1 := fun (W : World) (A0 : Option Addr) (c0 : Nat) (h0 : NatV W A0 c0 (mg (dmn u)))  => (show Calls Tryz.prog 26 #[.agg #[.bool (sg (dmn u)), .slice A0 (nl (mg (dmn u))) c0, .int .i64 (dex u)]] W (fun e w' => e = .returned (.bool true) ∧ Below W.heap.size W w') by exact drightT_c A0 c0 u W h0 (Nat.le_trans Ou.l (by decide)) (by have := Ou.e; omega))
  replace C10_1 := Lib.hid C10_1
  have C10_2 := fun (W : World) (A0 : Option Addr) (c0 : Nat) (h0 : NatV W A0 c0 (mg (dmn u)))  => (show Calls Tryz.prog 27 #[.agg #[.bool (sg (dmn u)), .slice A0 (nl (mg (dmn u))) c0, .int .i64 (dex u)]] W (fun e w' => e = .returned (.bool true) ∧ Below W.heap.size W w') by exact trightT_c A0 c0 u W h0 (Nat.le_trans Ou.l (by decide)) (by have := Ou.e; omega))
  replace C10_2 := Lib.hid C10_2
  have C10_3 := fun (W : World) (A0 : Option Addr) (c0 : Nat) (h0 : NatV W A0 c0 (mg (dmn u)))  => (show Calls Tryz.prog 28 #[.agg #[.bool (sg (dmn u)), .slice A0 (nl (mg (dmn u))) c0, .int .i64 (dex u)]] W (fun e w' => e = .returned (.int .i64 zs) ∧ Below W.heap.size W w') by have CR := dsign_c A0 c0 u W h0; rw [show (dmn u).sign = zs by rw [Eu.out, dmn_sign, Ezs.out]] at CR; exact CR)
  replace C10_3 := Lib.hid C10_3
  have C10_4 := fun (W : World) (A : Option Addr) (c : Nat) (h : NatV W A c (mg z)) => (show Calls Tryz.prog 29 #[.agg #[.bool (sg z), .slice A (nl (mg z)) c]] W (fun e w' => e = .returned (.int .i64 zs) ∧ Below W.heap.size W w') by rw [Ezs.out]; exact zsign_c A c z W h (by omega))
  replace C10_4 := Lib.hid C10_4
  obtain ⟨p, Ep⟩ : ∃ zq : Rat, zq = u := ⟨_, rfl⟩
  have Op : DB p 8 33024 := by rw [Ep]; exact Ou
  have C10_5 := fun (W : World) (A : Option Addr) (c : Nat) (h : NatV W A c (mg (dmn u))) (hT : Tab W) => (show Calls Tryz.prog 24 #[.agg #[.bool (sg ((dmn u))), .slice A (nl (mg ((dmn u)))) c], .int .i64 (dex u)] W (RetD W p) by rw [Ep]; have CR := dmake_c A c (dmn u) (dex u) W h hT (Nat.le_trans Ou.l (by decide)) (by have := Ou.e; omega); rw [dval_q Ou.d] at CR; exact CR)
  replace Ep := Lib.hid Ep
  replace C10_5 := Lib.hid C10_5
  have C10_6 := fun (W : World) (A0 : Option Addr) (c0 : Nat) (A1 : Option Addr) (c1 : Nat) (h0 : NatV W A0 c0 (mg (dmn p))) (h1 : NatV W A1 c1 (mg (dmn u)))  => (show Calls Tryz.prog 19 #[.agg #[.bool (sg (dmn p)), .slice A0 (nl (mg (dmn p))) c0, .int .i64 (dex p)], .agg #[.bool (sg (dmn u)), .slice A1 (nl (mg (dmn u))) c1, .int .i64 (dex u)]] W (fun e w' => e = .returned (.bool true) ∧ Below W.heap.size W w') by exact tsameT_c A0 c0 p A1 c1 u W h0 h1 (Op.ok (by decide) (by decide)) (by exact Ep.out))
  replace C10_6 := Lib.hid C10_6
  go_region_held3 (fun W => W.cell? ⟨W5.heap.size, 0, none⟩ = some (.bool (sg (dmn u))) ∧ W.cell? ⟨W5.heap.size, 1, none⟩ = some (.slice Xu (nl (mg (dmn u))) cu) ∧ W.cell? ⟨W5.heap.size, 2, none⟩ = some (.int .i64 (dex u)) ∧ W.cell? ⟨W8.heap.size, 0, none⟩ = some (.bool (sg (dmn v))) ∧ W.cell? ⟨W8.heap.size, 1, none⟩ = some (.slice Xv (nl (mg (dmn v))) cv) ∧ W.cell? ⟨W8.heap.size, 2, none⟩ = some (.int .i64 (dex v)) ∧ W.cell? ⟨w.heap.size, 0, none⟩ = some (.bool (sg z)) ∧ W.cell? ⟨w.heap.size, 1, none⟩ = some (.slice Xz (nl (mg z)) cz))
    (first
      | with_reducible exact ⟨qu0, qu1, qu2, qv0, qv1, qv2, qm0_4, qm1_4⟩
      | with_reducible exact ⟨qu0_11, qu1_11, qu2_11, qv0_11, qv1_11, qv2_11, qm0_11, qm1_11⟩
      | with_reducible exact ⟨qu0_12, qu1_12, qu2_12, qv0_12, qv1_12, qv2_12, qm0_12, qm1_12⟩
      | with_reducible exact ⟨qu0_13, qu1_13, qu2_13, qv0_13, qv1_13, qv2_13, qm0_13, qm1_13⟩
      | with_reducible exact ⟨qu0_14, qu1_14, qu2_14, qv0_14, qv1_14, qv2_14, qm0_14, qm1_14⟩
      | with_reducible exact ⟨qu0_15, qu1_15, qu2_15, qv0_15, qv1_15, qv2_15, qm0_15, qm1_15⟩
      | with_reducible exact ⟨qu0_16, qu1_16, qu2_16, qv0_16, qv1_16, qv2_16, qm0_16, qm1_16⟩
      | with_reducible exact ⟨qu0_17, qu1_17, qu2_17, qv0_17, qv1_17, qv2_17, qm0_17, qm1_17⟩
      | go_keep)
    (first
      | (go_at_call 19; (with_reducible refine (C10_0.out _ _ _ _ _ hu hv ).mono ?_); rintro e W11 ⟨rfl, hb11⟩; have hT_11 := hT_4.below hb11; have hl_11 := hl_4.below hb11; have qm0_11 := cell_below hb11 qm0_4; have qm1_11 := cell_below hb11 qm1_4; have hz_11 := hz_4.below hb11; have hu_11 := hu.below hb11; have qu0_11 := cell_below hb11 qu0; have qu1_11 := cell_below hb11 qu1; have qu2_11 := cell_below hb11 qu2; have hv_11 := hv.below hb11; have qv0_11 := cell_below hb11 qv0; have qv1_11 := cell_below hb11 qv1; have qv2_11 := cell_below hb11 qv2; have HBT_11 := Below.cons HBT hb11)
      | (go_at_call 26; (with_reducible refine (C10_1.out _ _ _ hu_11 ).mono ?_); rintro e W12 ⟨rfl, hb12⟩; have hT_12 := hT_11.below hb12; have hl_12 := hl_11.below hb12; have qm0_12 := cell_below hb12 qm0_11; have qm1_12 := cell_below hb12 qm1_11; have hz_12 := hz_11.below hb12; have hu_12 := hu_11.below hb12; have qu0_12 := cell_below hb12 qu0_11; have qu1_12 := cell_below hb12 qu1_11; have qu2_12 := cell_below hb12 qu2_11; have qv0_12 := cell_below hb12 qv0_11; have qv1_12 := cell_below hb12 qv1_11; have qv2_12 := cell_below hb12 qv2_11; have HBT_12 := Below.cons HBT_11 hb12)
      | (go_at_call 27; (with_reducible refine (C10_2.out _ _ _ hu_12 ).mono ?_); rintro e W13 ⟨rfl, hb13⟩; have hT_13 := hT_12.below hb13; have hl_13 := hl_12.below hb13; have qm0_13 := cell_below hb13 qm0_12; have qm1_13 := cell_below hb13 qm1_12; have hz_13 := hz_12.below hb13; have hu_13 := hu_12.below hb13; have qu0_13 := cell_below hb13 qu0_12; have qu1_13 := cell_below hb13 qu1_12; have qu2_13 := cell_below hb13 qu2_12; have qv0_13 := cell_below hb13 qv0_12; have qv1_13 := cell_below hb13 qv1_12; have qv2_13 := cell_below hb13 qv2_12; have HBT_13 := Below.cons HBT_12 hb13)
      | (go_at_call 28; (with_reducible refine (C10_3.out _ _ _ hu_13 ).mono ?_); rintro e W14 ⟨rfl, hb14⟩; have hT_14 := hT_13.below hb14; have hl_14 := hl_13.below hb14; have qm0_14 := cell_below hb14 qm0_13; have qm1_14 := cell_below hb14 qm1_13; have hz_14 := hz_13.below hb14; have hu_14 := hu_13.below hb14; have qu0_14 := cell_below hb14 qu0_13; have qu1_14 := cell_below hb14 qu1_13; have qu2_14 := cell_below hb14 qu2_13; have qv0_14 := cell_below hb14 qv0_13; have qv1_14 := cell_below hb14 qv1_13; have qv2_14 := cell_below hb14 qv2_13; have HBT_14 := Below.cons HBT_13 hb14)
      | (go_at_call 29; (with_reducible refine (C10_4.out _ _ _ hz_14).mono ?_); rintro e W15 ⟨rfl, hb15⟩; have hT_15 := hT_14.below hb15; have hl_15 := hl_14.below hb15; have qm0_15 := cell_below hb15 qm0_14; have qm1_15 := cell_below hb15 qm1_14; have hz_15 := hz_14.below hb15; have hu_15 := hu_14.below hb15; have qu0_15 := cell_below hb15 qu0_14; have qu1_15 := cell_below hb15 qu1_14; have qu2_15 := cell_below hb15 qu2_14; have qv0_15 := cell_below hb15 qv0_14; have qv1_15 := cell_below hb15 qv1_14; have qv2_15 := cell_below hb15 qv2_14; have HBT_15 := Below.cons HBT_14 hb15)
      | (go_at_call 24; (with_reducible refine (C10_5.out _ _ _ hu_15 hT_15).mono ?_); rintro e W16 ⟨Xp, cp, rfl, hp, hb16⟩; have hT_16 := hT_15.below hb16; have hl_16 := hl_15.below hb16; have qm0_16 := cell_below hb16 qm0_15; have qm1_16 := cell_below hb16 qm1_15; have hz_16 := hz_15.below hb16; have hu_16 := hu_15.below hb16; have qu0_16 := cell_below hb16 qu0_15; have qu1_16 := cell_below hb16 qu1_15; have qu2_16 := cell_below hb16 qu2_15; have qv0_16 := cell_below hb16 qv0_15; have qv1_16 := cell_below hb16 qv1_15; have qv2_16 := cell_below hb16 qv2_15; have HBT_16 := Below.cons HBT_15 hb16)
      | (go_at_call 19; (with_reducible refine (C10_6.out _ _ _ _ _ hp hu_16 ).mono ?_); rintro e W17 ⟨rfl, hb17⟩; have hT_17 := hT_16.below hb17; have hl_17 := hl_16.below hb17; have qm0_17 := cell_below hb17 qm0_16; have qm1_17 := cell_below hb17 qm1_16; have hz_17 := hz_16.below hb17; have hu_17 := hu_16.below hb17; have qu0_17 := cell_below hb17 qu0_16; have qu1_17 := cell_below hb17 qu1_16; have qu2_17 := cell_below hb17 qu2_16; have qv0_17 := cell_below hb17 qv0_16; have qv1_17 := cell_below hb17 qv1_16; have qv2_17 := cell_below hb17 qv2_16; have hp_17 := hp.below hb17; have HBT_17 := Below.cons HBT_16 hb17))
  all_goals (try go_wp2_with (fail))
  go_ret
  exact ⟨rfl, HBT_17⟩
end Go.Proofs.YtacjfpibilolnaaGreatDoor

set_option linter.unusedVariables false
set_option linter.unusedSimpArgs false
namespace Go.Proofs.YtacjfpibilolnaaGreatDoor
open Go.RowKit Go.ChangeShapes Go.WideShapes Go.ChangeAt

set_option maxRecDepth 100000 in
theorem dyadMakes_lifted (os : Os) (started : os.Started) (H : Type) (enc : TypeId × Value → H) :
    ReturnsInHanded {} Tryz.checked os 4 .any (fun w args => (Rows.dyadMakesSpec.pre enc Tryz.prog Tryz.f4 [] false w args ∧ laidMetH Tryz.prog [("math/bits.deBruijn32tab", Rows.laid_math_bits_deBruijn32tab)] w) ∧ sizedMet enc Tryz.prog Tryz.f4 (OpenSpec.ofChange Rows.dyadMakesSpec) false w args)
      (Rows.dyadMakesSpec.post enc Tryz.prog Tryz.f4 false true false false) := by
  refine returnsInHanded_of_change_and (C := Tryz.checked) (X := fun w _ => laidMetH Tryz.prog [("math/bits.deBruijn32tab", Rows.laid_math_bits_deBruijn32tab)] w) (fun _ _ _ hh h => h.of_heap hh) row_own started (by kernel_rfl) Tryz.func4
    (ChangeSpec.witness_shaped (enc := enc) (C := Tryz.checked) (os := os) (X := fun w _ => laidMetH Tryz.prog [("math/bits.deBruijn32tab", Rows.laid_math_bits_deBruijn32tab)] w) false (World.doorLaid Tryz.prog 400 os) #[.agg #[.bool false, .slice none 0 0], .int .i16 0, .int .u8 0] 8 rfl (World.shaped_of_RefB (by kernel_rfl) (by kernel_rfl)) (by kernel_rfl) (by kernel_rfl) (by kernel_rfl) (door_met os _)) ?_
  intro W base args ds gs before hval0 hW _ _ hL _
  have hval : ∀ (j : Nat) t v, Tryz.f4.params[j]? = some t → args[j]? = some v → Value.okWide Tryz.prog W .any base t v := hval0
  have hW' := hW
  obtain ⟨p, q, hA0, hV, rfl, hfz, hnd⟩ := hW
  have hA : DataW.TrodAll enc Tryz.prog W 0 (fun _ => true) true Tryz.f4.params.toList args.toList ds p := hA0
  rw [Tryz.params4] at hA hval
  obtain ⟨v0, vs0, d0, ds0, p0, q0, hargs, rfl, rfl, h0, r0⟩ := trodAll_cons hA
  obtain ⟨v1, vs1, d1, ds1, p1, q1, rfl, rfl, rfl, h1, r1⟩ := trodAll_cons r0
  obtain ⟨v2, vs2, d2, ds2, p2, q2, rfl, rfl, rfl, h2, r2⟩ := trodAll_cons r1
  obtain ⟨rfl, rfl, rfl⟩ := trodAll_nil r2
  obtain rfl : args = #[v0, v1, v2] := by cases args; simp_all
  obtain ⟨rfl, rfl⟩ := trodVars_none hV
  have hT := tab_of_laid hL
  have k0 := h0
  have lt0 : ∀ x ∈ p0, x.block < W.heap.size := by obtain ⟨m, hm⟩ := k0; exact DataW.trod_lt m _ _ _ hm
  obtain ⟨b0, A0, c0, l0, rfl, i0⟩ := open_zi (hval 0 24 v0 rfl rfl) h0
  obtain ⟨z1, rfl, rfl, rfl, w1⟩ := open_int Tryz.underlying41 (hval 1 41 v1 rfl rfl) h1
  have bz1 := bounds_i16 w1
  obtain ⟨z2, rfl, rfl, rfl, w2⟩ := open_int Tryz.underlying5 (hval 2 5 v2 rfl rfl) h2
  have bz2 := bounds_u8 w2
  obtain ⟨n2, rfl⟩ := Int.eq_ofNat_of_zero_le bz2.1
  have bn2 : n2 < 256 := by omega
  clear hA0 hval0 hval hL
  have hcall := dyadMakes_c b0 z1 n2 A0 c0 l0 W hT i0.1 i0.2.1 i0.2.2.1 i0.2.2.2.1 i0.2.2.2.2 bz1 bn2
  refine hcall.mono fun e W' ⟨he, bel⟩ => ?_
  subst he
  exact ⟨_, rfl, _, _, _, [], _, [], hW', trodAll_mk1 (shut_bool Tryz.underlying4 _), (trodAll_cons_mk (Below.trod row_out (by kernel_rfl) (of_decide_eq_true (by kernel_rfl)) k0 bel lt0) (trodAll_cons_mk (shut_int Tryz.underlying41 w1) (trodAll_cons_mk (shut_int Tryz.underlying5 w2) trodAll_mk0))), rfl, bel.frame _, fun h => by cases h⟩
theorem dyadMakes_holds : Rows.DyadMakesSaid :=
  OpenClaim.holds_of_wide 4 Tryz.f4 rfl rfl rfl rfl rfl rfl rfl ⟨rfl, rfl, rfl, rfl, rfl⟩ rfl rfl rfl rfl rfl (by kernel_rfl) Tryz.func4 (by kernel_rfl)
    (of_decide_eq_true (by kernel_rfl)) (by unfold Func.isWrapper; first | (rw [if_pos (by decide +kernel)]; kernel_rfl) | (rw [if_neg (by decide +kernel)]; exact ⟨rfl, rfl⟩))
    (fun os started H enc _ => dyadMakes_lifted os started H enc)

/-- The card, tied to the program's text. -/
theorem dyadMakes_card : Rows.DyadMakesCardSaid :=
  Claim7.holds_tied_plain_at .later [] [.data] true (true, "c40366035f47d3ac072167c9252c36368376323eeb282c459406779c221647a3") false
    dyadMakes_holds (fun _ h => by cases h) (by kernel_rfl) (fun _ h => by cases h) dyadMakes_row_tie rfl ⟨rfl, rfl⟩ (by kernel_rfl) rfl
    (fun f fn hf hfn => by
      obtain rfl : f = 4 := Option.some.inj ((show Tryz.prog.funcNamed "ziggurat/zigguratlaw10.DyadMakes" = some 4 by kernel_rfl).symm.trans hf) |>.symm
      obtain rfl : fn = Tryz.f4 := (Option.some.inj (Tryz.func4.symm.trans hfn)).symm
      exact ⟨by kernel_rfl, fun j t ht => by
        rw [Tryz.params4] at ht
        have hm : t ∈ [24, 41, 5] := by simpa using Array.mem_of_getElem? ht
        have hall : ([24, 41, 5].all fun u => !Tryz.prog.wantsStandIn u) = true := by kernel_rfl
        exact (show Tryz.prog.wantsStandIn t = false by simpa using List.all_eq_true.1 hall t hm)⟩)
    (by kernel_rfl)
#print axioms dyadMakes_card
end Go.Proofs.YtacjfpibilolnaaGreatDoor
