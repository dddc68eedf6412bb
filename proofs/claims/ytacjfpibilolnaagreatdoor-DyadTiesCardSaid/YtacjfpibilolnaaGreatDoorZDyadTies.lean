/- For all inputs what lies just between two multiples goes, to the nearest, to the even one: DyadTies returns true and leaves its arguments as they were. Conditions: Each package-level variable that the row lists (math/bits.deBruijn32tab) holds at the call what the library's text lays; the tie is given and covers the pruned copy of the repository. -/
import Derived.Test.YtacjfpibilolnaaGreatDoorSA15
import Derived.Test.YtacjfpibilolnaaGreatDoorSA14
import Derived.Test.YtacjfpibilolnaaGreatDoorCards
import Derived.Test.YtacjfpibilolnaaGreatDoorTie
import Derived.SevenTiedAt
/- Laws of dyadic numbers: DyadTies. -/
set_option linter.unusedVariables false
set_option linter.unusedSimpArgs false
namespace Go.Proofs.YtacjfpibilolnaaGreatDoor
open Go.RowKit Go.Shelf
attribute [local go_sem] max2_i min2_i max_two min_two

set_option maxRecDepth 100000 in
set_option maxHeartbeats 4000000 in
theorem dyadTies_c0 (sa : Bool) (b0 : Nat) (A : Option Addr) (c : Nat) (l : List Nat) (w : World) (hT : Tab w) (hl : Rd w A l) (Ll : Lim l) (Ql : l.length ≤ maxLen) (Cl : l.length ≤ c) (Zl : A = none → c = 0) (h0 : b0 < 65536) (ho : ival sa (val (l.take 6)) % 2 = 0) :
    Calls Tryz.prog 6 #[.agg #[.bool sa, .slice A l.length c], .int .u16 (b0 : Nat)] w fun e w' => e = .returned (.bool true) ∧ Below w.heap.size w w' := by
  replace Zl := Lib.hid Zl
  have hT0 := hT
  have hl0 := hl
  obtain ⟨rn, Ern⟩ : ∃ y, y = b0 % 401 := ⟨_, rfl⟩
  have Irn : (b0 : Int) % 401 = (rn : Int) := by omega
  have Jrn : (b0 : Int).tmod 401 = (rn : Int) := by rw [Int.tmod_eq_emod_of_nonneg (by omega)]; exact Irn
  have Brn : rn < 401 := by omega
  replace Ern := Lib.hid Ern
  obtain ⟨n, En⟩ : ∃ q : Int, q = (rn : Int) - 200 := ⟨_, rfl⟩
  have In : (rn : Int) - 200 = n := En.symm
  have Bn : -200 ≤ n ∧ n ≤ 200 := by omega
  have Wn : IntKind.i64.wrap n = n := IntWalk.i64_in _ (by omega)
  have Wrn : IntKind.i64.wrap (rn : Int) = (rn : Int) := IntWalk.i64_in _ (by omega)
  replace En := Lib.hid En
  have Wb0 : IntKind.i64.wrap (b0 : Int) = (b0 : Int) := IntWalk.i64_in _ (by omega)
  obtain ⟨nn, Enn⟩ : ∃ q : Int, q = -n := ⟨_, rfl⟩
  have Inn : -n = nn := Enn.symm
  have Wnn : IntKind.i64.wrap nn = nn := IntWalk.i64_in _ (by omega)
  obtain ⟨n1, En1⟩ : ∃ q : Int, q = nn - 1 := ⟨_, rfl⟩
  have In1 : nn - 1 = n1 := En1.symm
  have Wn1 : IntKind.i64.wrap n1 = n1 := IntWalk.i64_in _ (by omega)
  replace Enn := Lib.hid Enn
  replace En1 := Lib.hid En1
  have hb1 : Below (w).heap.size (w) (w.alloc (.cells #[.bool sa, .slice A l.length c] 24)) := (Below.alloc (Below.refl _ _) (Nat.le_refl _) _)
  replace hT := hT.below hb1
  replace hl := hl.below hb1
  have HBT := hb1
  clear hb1
  have Rm : BoxA (w.alloc (.cells #[.bool sa, .slice A l.length c] 24)) w.heap.size 24 #[.bool sa, .slice A l.length c] := ⟨by repeat (first | exact at_new (by first | (simp; done) | (simp; omega)) | refine at_old (by first | (simp; done) | (simp; omega)) ?_)⟩
  have qm0 := Rm.c (i := 0) rfl
  have qm1 := Rm.c (i := 1) rfl
  go_enter Tryz.func6, Tryz.ntmps6
  go_wp2_with (fail)
  refine (Calls.mono (dhead_c _ hT) ?_)
  rintro e W2 ⟨rfl, hb2⟩
  replace hT := hT.below hb2
  replace hl := hl.below hb2
  replace Rm := Rm.below hb2
  replace qm0 := cell_below hb2 qm0
  replace qm1 := cell_below hb2 qm1
  replace HBT := Below.cons HBT hb2
  clear hb2
  go_wp2_with (fail)
  obtain ⟨z, Ez⟩ : ∃ zq : Int, zq = ival sa (val (l.take 6)) := ⟨_, rfl⟩
  have Nz : nl (mg z) ≤ 6 := by rw [Ez, mg_ival]; exact made_nl l Ll 6
  have hoz : z % 2 = 0 := by rw [Ez]; exact ho
  replace hoz := Lib.hid hoz
  replace ho := Lib.hid ho
  refine (Calls.mono (R := RetI W2 z) (by rw [Ez]; with_reducible exact (zmadeI_c sa A c l 6 6 _ hl Ll Ql Cl Zl.out (by decide) rfl)) ?_)
  replace Ez := Lib.hid Ez
  rintro e W3 ⟨Xz, cz, rfl, hz, hb3⟩
  replace hT := hT.below hb3
  replace hl := hl.below hb3
  replace Rm := Rm.below hb3
  replace qm0 := cell_below hb3 qm0
  replace qm1 := cell_below hb3 qm1
  replace HBT := Below.cons HBT hb3
  clear hb3
  have fm0_4 := Rm.f (i := 0)
  have fm1_4 := Rm.f (i := 1)
  have Rm_4 := Rm.store2 (.bool (sg z)) (.slice Xz (nl (mg z)) cz)
  have qm0_4 := Rm_4.c (i := 0) rfl
  have qm1_4 := Rm_4.c (i := 1) rfl
  have hz_4 := Rm.keep2 (v0 := .bool (sg z)) (v1 := .slice Xz (nl (mg z)) cz) (by intro u hu; simp at hu; rcases hu with rfl | rfl <;> first | exact notU_bool _ | exact notU_slice _ _ _ | exact notU_i64 _) hz
  have HBT_4 := Below.store2 (v0 := .bool (sg z)) (v1 := .slice Xz (nl (mg z)) cz) HBT (k := w.heap.size) (by first | exact Nat.le_refl _ | omega)
  have hT_4 := hT0.below HBT_4
  have hl_4 := hl0.below HBT_4
  go_wp2_with (fail)
  clear fm0_4 fm1_4 Rm hT hl qm0 qm1 hz HBT
  obtain ⟨y, Ey⟩ : ∃ zq : Int, zq = shf z 1 := ⟨_, rfl⟩
  have Ny : nl (mg y) ≤ 7 := by rw [Ey]; exact nl_shf_b Nz (D := 1) (by decide) (by decide)
  have Hy : y = 2 * z := by rw [Ey]; unfold shf; simp; omega
  replace Hy := Lib.hid Hy
  refine (Calls.mono (R := RetI ((W3.setCell ⟨w.heap.size, 0, none⟩ (.bool (sg z))).setCell ⟨w.heap.size, 1, none⟩ (.slice Xz (nl (mg z)) cz)) y) (by rw [Ey]; with_reducible exact (zshift_c Xz cz z 1 _ hz_4 (by omega) (by decide))) ?_)
  replace Ey := Lib.hid Ey
  rintro e W5 ⟨Xy, cy, rfl, hy, hb5⟩
  replace Rm_4 := Rm_4.below hb5
  replace hT_4 := hT_4.below hb5
  replace hl_4 := hl_4.below hb5
  replace qm0_4 := cell_below hb5 qm0_4
  replace qm1_4 := cell_below hb5 qm1_4
  replace hz_4 := hz_4.below hb5
  have HBT := Below.cons HBT_4 hb5
  clear hb5
  go_wp2_with (fail)
  obtain ⟨one, Eone⟩ : ∃ zq : Int, zq = (1 : Int) := ⟨_, rfl⟩
  have None : nl (mg one) ≤ 1 := by rw [Eone]; exact Nat.le_of_eq nl_one
  refine (Calls.mono (R := RetI W5 one) (by rw [Eone]; with_reducible exact (zof1_c _)) ?_)
  replace Eone := Lib.hid Eone
  rintro e W6 ⟨Xone, cone, rfl, hone, hb6⟩
  replace Rm_4 := Rm_4.below hb6
  replace hT_4 := hT_4.below hb6
  replace hl_4 := hl_4.below hb6
  replace qm0_4 := cell_below hb6 qm0_4
  replace qm1_4 := cell_below hb6 qm1_4
  replace hz_4 := hz_4.below hb6
  replace hy := hy.below hb6
  replace HBT := Below.cons HBT hb6
  clear hb6
  go_wp2_with (fail)
  obtain ⟨t, Et⟩ : ∃ zq : Int, zq = y + one := ⟨_, rfl⟩
  have Nt : nl (mg t) ≤ 8 := by rw [Et]; have := nl_mono (Int.natAbs_add_le y one); have h2 := nl_add (mg y) (mg one); unfold mg at *; omega
  have Ht : t = 2 * z + 1 := by rw [Et, Hy.out, Eone.out]
  replace Ht := Lib.hid Ht
  refine (Calls.mono (R := RetI W6 t) (by rw [Et]; with_reducible exact (zadd_c Xy cy y Xone cone one _ hy hone (by omega) (by omega))) ?_)
  replace Et := Lib.hid Et
  rintro e W7 ⟨Xt, ct, rfl, ht, hb7⟩
  replace Rm_4 := Rm_4.below hb7
  replace hT_4 := hT_4.below hb7
  replace hl_4 := hl_4.below hb7
  replace qm0_4 := cell_below hb7 qm0_4
  replace qm1_4 := cell_below hb7 qm1_4
  replace hz_4 := hz_4.below hb7
  replace hy := hy.below hb7
  replace hone := hone.below hb7
  replace HBT := Below.cons HBT hb7
  clear hb7
  go_wp2_with (fail)
  obtain ⟨dy, Edy⟩ : ∃ zq : Rat, zq = dval t n1 := ⟨_, rfl⟩
  have Ody : DB dy 8 600 := by rw [Edy]; exact (db_val Nt (E := 201) (by omega)).mono (by decide) (by decide)
  have sdy := db_sz Ody
  refine (Calls.mono (R := RetD W7 dy) (by rw [Edy]; with_reducible exact (tmake_c Xt ct t n1 _ ht (by omega) (by omega))) ?_)
  replace Edy := Lib.hid Edy
  rintro e W8 ⟨Xdy, cdy, rfl, hdy, hb8⟩
  replace Rm_4 := Rm_4.below hb8
  replace hT_4 := hT_4.below hb8
  replace hl_4 := hl_4.below hb8
  replace qm0_4 := cell_below hb8 qm0_4
  replace qm1_4 := cell_below hb8 qm1_4
  replace hz_4 := hz_4.below hb8
  replace hy := hy.below hb8
  replace hone := hone.below hb8
  replace ht := ht.below hb8
  replace HBT := Below.cons HBT hb8
  clear hb8
  go_wp2_with (fail)
  obtain ⟨v, Ev⟩ : ∃ zq : Rat, zq = dy := ⟨_, rfl⟩
  have Nv : nl (mg v.num) ≤ 60 ∧ nl v.den ≤ 60 := by rw [Ev]; omega
  have Hv : v = dval (2 * z + 1) (-n - 1) := by rw [Ev, Edy.out, Ht.out, En1.out, Enn.out]
  replace Hv := Lib.hid Hv
  refine (Calls.mono (R := RetR W8 v) (by rw [Ev]; with_reducible exact (trat_c Xdy cdy dy _ hdy (Ody.ok (by decide) (by decide)))) ?_)
  replace Ev := Lib.hid Ev
  rintro e W9 ⟨Xv, cv, Yv, dv, rfl, hv, gv, hb9⟩
  replace Rm_4 := Rm_4.below hb9
  replace hT_4 := hT_4.below hb9
  replace hl_4 := hl_4.below hb9
  replace qm0_4 := cell_below hb9 qm0_4
  replace qm1_4 := cell_below hb9 qm1_4
  replace hz_4 := hz_4.below hb9
  replace hy := hy.below hb9
  replace hone := hone.below hb9
  replace ht := ht.below hb9
  replace hdy := hdy.below hb9
  replace HBT := Below.cons HBT hb9
  clear hb9
  have hb10 : Below (W9).heap.size (W9) (W9.alloc (.cells #[.bool (sg v.num), .slice Xv (nl (mg v.num)) cv, .slice Yv (nl v.den) dv] 26)) := (Below.alloc (Below.refl _ _) (Nat.le_refl _) _)
  replace Rm_4 := Rm_4.below hb10
  replace hT_4 := hT_4.below hb10
  replace hl_4 := hl_4.below hb10
  replace qm0_4 := cell_below hb10 qm0_4
  replace qm1_4 := cell_below hb10 qm1_4
  replace hz_4 := hz_4.below hb10
  replace hy := hy.below hb10
  replace hone := hone.below hb10
  replace ht := ht.below hb10
  replace hdy := hdy.below hb10
  replace hv := hv.below hb10
  replace gv := gv.below hb10
  replace HBT := Below.cons HBT hb10
  clear hb10
  have Rv : BoxA (W9.alloc (.cells #[.bool (sg v.num), .slice Xv (nl (mg v.num)) cv, .slice Yv (nl v.den) dv] 26)) W9.heap.size 26 #[.bool (sg v.num), .slice Xv (nl (mg v.num)) cv, .slice Yv (nl v.den) dv] := ⟨by repeat (first | exact at_new (by first | (simp; done) | (simp; omega)) | refine at_old (by first | (simp; done) | (simp; omega)) ?_)⟩
  have qv0 := Rv.c (i := 0) rfl
  have qv1 := Rv.c (i := 1) rfl
  have qv2 := Rv.c (i := 2) rfl
  go_wp2_with (fail)
  obtain ⟨x, Ex⟩ : ∃ zq : Rat, zq = dval (z) nn := ⟨_, rfl⟩
  have Ox : DB x 8 600 := by rw [Ex]; exact (db_val (l := 8) (E := 200) (by omega) (by omega)).mono (by decide) (by decide)
  have CT : Calls Tryz.prog 15 #[.agg #[.bool (sg v.num), .slice Xv (nl (mg v.num)) cv, .slice Yv (nl v.den) dv], .int .i64 n, .int .i64 4] (W9.alloc (.cells #[.bool (sg v.num), .slice Xv (nl (mg v.num)) cv, .slice Yv (nl v.den) dv] 26)) (RetDe (W9.alloc (.cells #[.bool (sg v.num), .slice Xv (nl (mg v.num)) cv, .slice Yv (nl v.den) dv] 26)) x 0) := by rw [Ex]; rw [show dval (z) nn = dval (rnd 4 (v * (2 : Rat) ^ n)) (-n) by rw [Hv.out, half_val, half_near, if_neg (by rw [hoz.out]; decide), Enn.out]]; exact cut_in Xv cv Yv dv v n 4 _ hv gv hT_4 (by omega) (by omega) (by decide) (by decide) (by omega)
  replace Ex := Lib.hid Ex
  refine (Calls.mono CT ?_)
  clear CT
  rintro e W11 ⟨Xx, cx, rfl, hx, hb11⟩
  replace Rm_4 := Rm_4.below hb11
  replace hT_4 := hT_4.below hb11
  replace hl_4 := hl_4.below hb11
  replace qm0_4 := cell_below hb11 qm0_4
  replace qm1_4 := cell_below hb11 qm1_4
  replace hz_4 := hz_4.below hb11
  replace hy := hy.below hb11
  replace hone := hone.below hb11
  replace ht := ht.below hb11
  replace hdy := hdy.below hb11
  replace hv := hv.below hb11
  replace gv := gv.below hb11
  replace Rv := Rv.below hb11
  replace qv0 := cell_below hb11 qv0
  replace qv1 := cell_below hb11 qv1
  replace qv2 := cell_below hb11 qv2
  replace HBT := Below.cons HBT hb11
  clear hb11
  have hzm := Rm_4.lt
  replace hzm := Lib.hid hzm
  have hb12 : Below (W11).heap.size (W11) (W11.alloc (.cells #[.bool (sg (dmn x)), .slice Xx (nl (mg (dmn x))) cx, .int .i64 (dex x)] 28)) := (Below.alloc (Below.refl _ _) (Nat.le_refl _) _)
  replace Rm_4 := Rm_4.below hb12
  replace hT_4 := hT_4.below hb12
  replace hl_4 := hl_4.below hb12
  replace qm0_4 := cell_below hb12 qm0_4
  replace qm1_4 := cell_below hb12 qm1_4
  replace hz_4 := hz_4.below hb12
  replace hy := hy.below hb12
  replace hone := hone.below hb12
  replace ht := ht.below hb12
  replace hdy := hdy.below hb12
  replace hv := hv.below hb12
  replace gv := gv.below hb12
  replace Rv := Rv.below hb12
  replace qv0 := cell_below hb12 qv0
  replace qv1 := cell_below hb12 qv1
  replace qv2 := cell_below hb12 qv2
  replace hx := hx.below hb12
  replace HBT := Below.cons HBT hb12
  clear hb12
  have Rx : BoxA (W11.alloc (.cells #[.bool (sg (dmn x)), .slice Xx (nl (mg (dmn x))) cx, .int .i64 (dex x)] 28)) W11.heap.size 28 #[.bool (sg (dmn x)), .slice Xx (nl (mg (dmn x))) cx, .int .i64 (dex x)] := ⟨by repeat (first | exact at_new (by first | (simp; done) | (simp; omega)) | refine at_old (by first | (simp; done) | (simp; omega)) ?_)⟩
  have qx0 := Rx.c (i := 0) rfl
  have qx1 := Rx.c (i := 1) rfl
  have qx2 := Rx.c (i := 2) rfl
  clear hdy
  clear ht
  clear hy
  clear hone
  clear hv gv
  clear Rv
  clear qv0
  clear qv1
  clear qv2
  have km0 := qm0_4
  have km1 := qm1_4
  have hb13 : Below ((W11.alloc (.cells #[.bool (sg (dmn x)), .slice Xx (nl (mg (dmn x))) cx, .int .i64 (dex x)] 28))).heap.size ((W11.alloc (.cells #[.bool (sg (dmn x)), .slice Xx (nl (mg (dmn x))) cx, .int .i64 (dex x)] 28))) ((W11.alloc (.cells #[.bool (sg (dmn x)), .slice Xx (nl (mg (dmn x))) cx, .int .i64 (dex x)] 28)).alloc (.cells #[.bool (sg z), .slice Xz (nl (mg z)) cz] 24)) := (Below.alloc (Below.refl _ _) (Nat.le_refl _) _)
  replace Rm_4 := Rm_4.below hb13
  replace hT_4 := hT_4.below hb13
  replace hl_4 := hl_4.below hb13
  replace qm0_4 := cell_below hb13 qm0_4
  replace qm1_4 := cell_below hb13 qm1_4
  replace hz_4 := hz_4.below hb13
  replace hx := hx.below hb13
  replace Rx := Rx.below hb13
  replace qx0 := cell_below hb13 qx0
  replace qx1 := cell_below hb13 qx1
  replace qx2 := cell_below hb13 qx2
  replace HBT := Below.cons HBT hb13
  clear hb13
  have Rw0 : BoxA ((W11.alloc (.cells #[.bool (sg (dmn x)), .slice Xx (nl (mg (dmn x))) cx, .int .i64 (dex x)] 28)).alloc (.cells #[.bool (sg z), .slice Xz (nl (mg z)) cz] 24)) (W11.heap.size + 1) 24 #[.bool (sg z), .slice Xz (nl (mg z)) cz] := ⟨by repeat (first | exact at_new (by first | (simp; done) | (simp; omega)) | refine at_old (by first | (simp; done) | (simp; omega)) ?_)⟩
  have qw00 := Rw0.c (i := 0) rfl
  have qw01 := Rw0.c (i := 1) rfl
  go_wp2_with (fail)
  clear km0 km1
  have hbit : mg z / 2 ^ 0 % 2 = 0 := by have := hoz.out; rw [Nat.pow_zero, Nat.div_one]; unfold mg; omega
  have CB := rbit_c _ _ (mg z) 0 _ hz_4 (by omega) (by decide)
  rw [hbit] at CB
  clear hbit
  refine (Calls.mono CB ?_)
  clear CB
  rintro e w' ⟨rfl, hw⟩
  first | subst hw | (replace hw := hw.symm; subst hw)
  go_wp2_with (fail)
  clear Rm_4
  clear Rx
  clear Rw0
  clear qm0_4
  clear qm1_4
  have hd14 : Below (((W11.alloc (.cells #[.bool (sg (dmn x)), .slice Xx (nl (mg (dmn x))) cx, .int .i64 (dex x)] 28)).alloc (.cells #[.bool (sg z), .slice Xz (nl (mg z)) cz] 24))).heap.size ((W11.alloc (.cells #[.bool (sg (dmn x)), .slice Xx (nl (mg (dmn x))) cx, .int .i64 (dex x)] 28)).alloc (.cells #[.bool (sg z), .slice Xz (nl (mg z)) cz] 24)) (((W11.alloc (.cells #[.bool (sg (dmn x)), .slice Xx (nl (mg (dmn x))) cx, .int .i64 (dex x)] 28)).alloc (.cells #[.bool (sg z), .slice Xz (nl (mg z)) cz] 24))).drew := (Below.refl _ _).drew
  replace hT_4 := hT_4.below hd14
  replace hl_4 := hl_4.below hd14
  replace hz_4 := hz_4.below hd14
  replace hx := hx.below hd14
  replace qx0 := cell_below hd14 qx0
  replace qx1 := cell_below hd14 qx1
  replace qx2 := cell_below hd14 qx2
  replace qw00 := cell_below hd14 qw00
  replace qw01 := cell_below hd14 qw01
  replace HBT := Below.cons HBT hd14
  clear hd14
  replace qx0 : (((W11.alloc (.cells #[.bool (sg (dmn x)), .slice Xx (nl (mg (dmn x))) cx, .int .i64 (dex x)] 28)).alloc (.cells #[.bool (sg z), .slice Xz (nl (mg z)) cz] 24))).drew.cell? ⟨W11.heap.size, 0, none⟩ = some (.bool (sg (dmn x))) := qx0
  replace qx1 : (((W11.alloc (.cells #[.bool (sg (dmn x)), .slice Xx (nl (mg (dmn x))) cx, .int .i64 (dex x)] 28)).alloc (.cells #[.bool (sg z), .slice Xz (nl (mg z)) cz] 24))).drew.cell? ⟨W11.heap.size, 1, none⟩ = some (.slice Xx (nl (mg (dmn x))) cx) := qx1
  replace qx2 : (((W11.alloc (.cells #[.bool (sg (dmn x)), .slice Xx (nl (mg (dmn x))) cx, .int .i64 (dex x)] 28)).alloc (.cells #[.bool (sg z), .slice Xz (nl (mg z)) cz] 24))).drew.cell? ⟨W11.heap.size, 2, none⟩ = some (.int .i64 (dex x)) := qx2
  replace qw00 : (((W11.alloc (.cells #[.bool (sg (dmn x)), .slice Xx (nl (mg (dmn x))) cx, .int .i64 (dex x)] 28)).alloc (.cells #[.bool (sg z), .slice Xz (nl (mg z)) cz] 24))).drew.cell? ⟨(W11.heap.size + 1), 0, none⟩ = some (.bool (sg z)) := qw00
  replace qw01 : (((W11.alloc (.cells #[.bool (sg (dmn x)), .slice Xx (nl (mg (dmn x))) cx, .int .i64 (dex x)] 28)).alloc (.cells #[.bool (sg z), .slice Xz (nl (mg z)) cz] 24))).drew.cell? ⟨(W11.heap.size + 1), 1, none⟩ = some (.slice Xz (nl (mg z)) cz) := qw01
  obtain ⟨g, Eg⟩ : ∃ zq : Rat, zq = dval z nn := ⟨_, rfl⟩
  have C14_0 := fun (W : World) (A : Option Addr) (c : Nat) (h : NatV W A c (mg z)) => (show Calls Tryz.prog 37 #[.agg #[.bool (sg z), .slice A (nl (mg z)) c], .int .i64 nn] W (RetD W g) by rw [Eg]; exact tmake_c A c z nn W h (by omega) (by omega))
  replace Eg := Lib.hid Eg
  replace C14_0 := Lib.hid C14_0
  have C14_1 := fun (W : World) (A0 : Option Addr) (c0 : Nat) (A1 : Option Addr) (c1 : Nat) (h0 : NatV W A0 c0 (mg (dmn x))) (h1 : NatV W A1 c1 (mg (dmn g)))  => (show Calls Tryz.prog 19 #[.agg #[.bool (sg (dmn x)), .slice A0 (nl (mg (dmn x))) c0, .int .i64 (dex x)], .agg #[.bool (sg (dmn g)), .slice A1 (nl (mg (dmn g))) c1, .int .i64 (dex g)]] W (fun e w' => e = .returned (.bool true) ∧ Below W.heap.size W w') by exact tsameT_c A0 c0 x A1 c1 g W h0 h1 (Ox.ok (by decide) (by decide)) (by rw [Ex.out, Eg.out]))
  replace C14_1 := Lib.hid C14_1
  go_region_held3 (fun W => W.cell? ⟨W11.heap.size, 0, none⟩ = some (.bool (sg (dmn x))) ∧ W.cell? ⟨W11.heap.size, 1, none⟩ = some (.slice Xx (nl (mg (dmn x))) cx) ∧ W.cell? ⟨W11.heap.size, 2, none⟩ = some (.int .i64 (dex x)) ∧ W.cell? ⟨(W11.heap.size + 1), 0, none⟩ = some (.bool (sg z)) ∧ W.cell? ⟨(W11.heap.size + 1), 1, none⟩ = some (.slice Xz (nl (mg z)) cz))
    (first
      | with_reducible exact ⟨qx0, qx1, qx2, qw00, qw01⟩
      | with_reducible exact ⟨qx0_15, qx1_15, qx2_15, qw00_15, qw01_15⟩
      | with_reducible exact ⟨qx0_16, qx1_16, qx2_16, qw00_16, qw01_16⟩
      | go_keep)
    (first
      | (go_at_call 37; (with_reducible refine (C14_0.out _ _ _ hz_4).mono ?_); rintro e W15 ⟨Xg, cg, rfl, hg, hb15⟩; have hT_15 := hT_4.below hb15; have hl_15 := hl_4.below hb15; have hz_15 := hz_4.below hb15; have hx_15 := hx.below hb15; have qx0_15 := cell_below hb15 qx0; have qx1_15 := cell_below hb15 qx1; have qx2_15 := cell_below hb15 qx2; have qw00_15 := cell_below hb15 qw00; have qw01_15 := cell_below hb15 qw01; have HBT_15 := Below.cons HBT hb15)
      | (go_at_call 19; (with_reducible refine (C14_1.out _ _ _ _ _ hx_15 hg ).mono ?_); rintro e W16 ⟨rfl, hb16⟩; have hT_16 := hT_15.below hb16; have hl_16 := hl_15.below hb16; have hz_16 := hz_15.below hb16; have hx_16 := hx_15.below hb16; have qx0_16 := cell_below hb16 qx0_15; have qx1_16 := cell_below hb16 qx1_15; have qx2_16 := cell_below hb16 qx2_15; have qw00_16 := cell_below hb16 qw00_15; have qw01_16 := cell_below hb16 qw01_15; have hg_16 := hg.below hb16; have HBT_16 := Below.cons HBT_15 hb16))
  all_goals (try go_wp2_with (fail))
  go_ret
  exact ⟨rfl, HBT_16⟩
set_option maxRecDepth 100000 in
set_option maxHeartbeats 4000000 in
theorem dyadTies_c1 (sa : Bool) (b0 : Nat) (A : Option Addr) (c : Nat) (l : List Nat) (w : World) (hT : Tab w) (hl : Rd w A l) (Ll : Lim l) (Ql : l.length ≤ maxLen) (Cl : l.length ≤ c) (Zl : A = none → c = 0) (h0 : b0 < 65536) (ho : ival sa (val (l.take 6)) % 2 = 1) :
    Calls Tryz.prog 6 #[.agg #[.bool sa, .slice A l.length c], .int .u16 (b0 : Nat)] w fun e w' => e = .returned (.bool true) ∧ Below w.heap.size w w' := by
  replace Zl := Lib.hid Zl
  have hT0 := hT
  have hl0 := hl
  obtain ⟨rn, Ern⟩ : ∃ y, y = b0 % 401 := ⟨_, rfl⟩
  have Irn : (b0 : Int) % 401 = (rn : Int) := by omega
  have Jrn : (b0 : Int).tmod 401 = (rn : Int) := by rw [Int.tmod_eq_emod_of_nonneg (by omega)]; exact Irn
  have Brn : rn < 401 := by omega
  replace Ern := Lib.hid Ern
  obtain ⟨n, En⟩ : ∃ q : Int, q = (rn : Int) - 200 := ⟨_, rfl⟩
  have In : (rn : Int) - 200 = n := En.symm
  have Bn : -200 ≤ n ∧ n ≤ 200 := by omega
  have Wn : IntKind.i64.wrap n = n := IntWalk.i64_in _ (by omega)
  have Wrn : IntKind.i64.wrap (rn : Int) = (rn : Int) := IntWalk.i64_in _ (by omega)
  replace En := Lib.hid En
  have Wb0 : IntKind.i64.wrap (b0 : Int) = (b0 : Int) := IntWalk.i64_in _ (by omega)
  obtain ⟨nn, Enn⟩ : ∃ q : Int, q = -n := ⟨_, rfl⟩
  have Inn : -n = nn := Enn.symm
  have Wnn : IntKind.i64.wrap nn = nn := IntWalk.i64_in _ (by omega)
  obtain ⟨n1, En1⟩ : ∃ q : Int, q = nn - 1 := ⟨_, rfl⟩
  have In1 : nn - 1 = n1 := En1.symm
  have Wn1 : IntKind.i64.wrap n1 = n1 := IntWalk.i64_in _ (by omega)
  replace Enn := Lib.hid Enn
  replace En1 := Lib.hid En1
  have hb1 : Below (w).heap.size (w) (w.alloc (.cells #[.bool sa, .slice A l.length c] 24)) := (Below.alloc (Below.refl _ _) (Nat.le_refl _) _)
  replace hT := hT.below hb1
  replace hl := hl.below hb1
  have HBT := hb1
  clear hb1
  have Rm : BoxA (w.alloc (.cells #[.bool sa, .slice A l.length c] 24)) w.heap.size 24 #[.bool sa, .slice A l.length c] := ⟨by repeat (first | exact at_new (by first | (simp; done) | (simp; omega)) | refine at_old (by first | (simp; done) | (simp; omega)) ?_)⟩
  have qm0 := Rm.c (i := 0) rfl
  have qm1 := Rm.c (i := 1) rfl
  go_enter Tryz.func6, Tryz.ntmps6
  go_wp2_with (fail)
  refine (Calls.mono (dhead_c _ hT) ?_)
  rintro e W2 ⟨rfl, hb2⟩
  replace hT := hT.below hb2
  replace hl := hl.below hb2
  replace Rm := Rm.below hb2
  replace qm0 := cell_below hb2 qm0
  replace qm1 := cell_below hb2 qm1
  replace HBT := Below.cons HBT hb2
  clear hb2
  go_wp2_with (fail)
  obtain ⟨z, Ez⟩ : ∃ zq : Int, zq = ival sa (val (l.take 6)) := ⟨_, rfl⟩
  have Nz : nl (mg z) ≤ 6 := by rw [Ez, mg_ival]; exact made_nl l Ll 6
  have hoz : z % 2 = 1 := by rw [Ez]; exact ho
  replace hoz := Lib.hid hoz
  replace ho := Lib.hid ho
  refine (Calls.mono (R := RetI W2 z) (by rw [Ez]; with_reducible exact (zmadeI_c sa A c l 6 6 _ hl Ll Ql Cl Zl.out (by decide) rfl)) ?_)
  replace Ez := Lib.hid Ez
  rintro e W3 ⟨Xz, cz, rfl, hz, hb3⟩
  replace hT := hT.below hb3
  replace hl := hl.below hb3
  replace Rm := Rm.below hb3
  replace qm0 := cell_below hb3 qm0
  replace qm1 := cell_below hb3 qm1
  replace HBT := Below.cons HBT hb3
  clear hb3
  have fm0_4 := Rm.f (i := 0)
  have fm1_4 := Rm.f (i := 1)
  have Rm_4 := Rm.store2 (.bool (sg z)) (.slice Xz (nl (mg z)) cz)
  have qm0_4 := Rm_4.c (i := 0) rfl
  have qm1_4 := Rm_4.c (i := 1) rfl
  have hz_4 := Rm.keep2 (v0 := .bool (sg z)) (v1 := .slice Xz (nl (mg z)) cz) (by intro u hu; simp at hu; rcases hu with rfl | rfl <;> first | exact notU_bool _ | exact notU_slice _ _ _ | exact notU_i64 _) hz
  have HBT_4 := Below.store2 (v0 := .bool (sg z)) (v1 := .slice Xz (nl (mg z)) cz) HBT (k := w.heap.size) (by first | exact Nat.le_refl _ | omega)
  have hT_4 := hT0.below HBT_4
  have hl_4 := hl0.below HBT_4
  go_wp2_with (fail)
  clear fm0_4 fm1_4 Rm hT hl qm0 qm1 hz HBT
  obtain ⟨y, Ey⟩ : ∃ zq : Int, zq = shf z 1 := ⟨_, rfl⟩
  have Ny : nl (mg y) ≤ 7 := by rw [Ey]; exact nl_shf_b Nz (D := 1) (by decide) (by decide)
  have Hy : y = 2 * z := by rw [Ey]; unfold shf; simp; omega
  replace Hy := Lib.hid Hy
  refine (Calls.mono (R := RetI ((W3.setCell ⟨w.heap.size, 0, none⟩ (.bool (sg z))).setCell ⟨w.heap.size, 1, none⟩ (.slice Xz (nl (mg z)) cz)) y) (by rw [Ey]; with_reducible exact (zshift_c Xz cz z 1 _ hz_4 (by omega) (by decide))) ?_)
  replace Ey := Lib.hid Ey
  rintro e W5 ⟨Xy, cy, rfl, hy, hb5⟩
  replace Rm_4 := Rm_4.below hb5
  replace hT_4 := hT_4.below hb5
  replace hl_4 := hl_4.below hb5
  replace qm0_4 := cell_below hb5 qm0_4
  replace qm1_4 := cell_below hb5 qm1_4
  replace hz_4 := hz_4.below hb5
  have HBT := Below.cons HBT_4 hb5
  clear hb5
  go_wp2_with (fail)
  obtain ⟨one, Eone⟩ : ∃ zq : Int, zq = (1 : Int) := ⟨_, rfl⟩
  have None : nl (mg one) ≤ 1 := by rw [Eone]; exact Nat.le_of_eq nl_one
  refine (Calls.mono (R := RetI W5 one) (by rw [Eone]; with_reducible exact (zof1_c _)) ?_)
  replace Eone := Lib.hid Eone
  rintro e W6 ⟨Xone, cone, rfl, hone, hb6⟩
  replace Rm_4 := Rm_4.below hb6
  replace hT_4 := hT_4.below hb6
  replace hl_4 := hl_4.below hb6
  replace qm0_4 := cell_below hb6 qm0_4
  replace qm1_4 := cell_below hb6 qm1_4
  replace hz_4 := hz_4.below hb6
  replace hy := hy.below hb6
  replace HBT := Below.cons HBT hb6
  clear hb6
  go_wp2_with (fail)
  obtain ⟨t, Et⟩ : ∃ zq : Int, zq = y + one := ⟨_, rfl⟩
  have Nt : nl (mg t) ≤ 8 := by rw [Et]; have := nl_mono (Int.natAbs_add_le y one); have h2 := nl_add (mg y) (mg one); unfold mg at *; omega
  have Ht : t = 2 * z + 1 := by rw [Et, Hy.out, Eone.out]
  replace Ht := Lib.hid Ht
  refine (Calls.mono (R := RetI W6 t) (by rw [Et]; with_reducible exact (zadd_c Xy cy y Xone cone one _ hy hone (by omega) (by omega))) ?_)
  replace Et := Lib.hid Et
  rintro e W7 ⟨Xt, ct, rfl, ht, hb7⟩
  replace Rm_4 := Rm_4.below hb7
  replace hT_4 := hT_4.below hb7
  replace hl_4 := hl_4.below hb7
  replace qm0_4 := cell_below hb7 qm0_4
  replace qm1_4 := cell_below hb7 qm1_4
  replace hz_4 := hz_4.below hb7
  replace hy := hy.below hb7
  replace hone := hone.below hb7
  replace HBT := Below.cons HBT hb7
  clear hb7
  go_wp2_with (fail)
  obtain ⟨dy, Edy⟩ : ∃ zq : Rat, zq = dval t n1 := ⟨_, rfl⟩
  have Ody : DB dy 8 600 := by rw [Edy]; exact (db_val Nt (E := 201) (by omega)).mono (by decide) (by decide)
  have sdy := db_sz Ody
  refine (Calls.mono (R := RetD W7 dy) (by rw [Edy]; with_reducible exact (tmake_c Xt ct t n1 _ ht (by omega) (by omega))) ?_)
  replace Edy := Lib.hid Edy
  rintro e W8 ⟨Xdy, cdy, rfl, hdy, hb8⟩
  replace Rm_4 := Rm_4.below hb8
  replace hT_4 := hT_4.below hb8
  replace hl_4 := hl_4.below hb8
  replace qm0_4 := cell_below hb8 qm0_4
  replace qm1_4 := cell_below hb8 qm1_4
  replace hz_4 := hz_4.below hb8
  replace hy := hy.below hb8
  replace hone := hone.below hb8
  replace ht := ht.below hb8
  replace HBT := Below.cons HBT hb8
  clear hb8
  go_wp2_with (fail)
  obtain ⟨v, Ev⟩ : ∃ zq : Rat, zq = dy := ⟨_, rfl⟩
  have Nv : nl (mg v.num) ≤ 60 ∧ nl v.den ≤ 60 := by rw [Ev]; omega
  have Hv : v = dval (2 * z + 1) (-n - 1) := by rw [Ev, Edy.out, Ht.out, En1.out, Enn.out]
  replace Hv := Lib.hid Hv
  refine (Calls.mono (R := RetR W8 v) (by rw [Ev]; with_reducible exact (trat_c Xdy cdy dy _ hdy (Ody.ok (by decide) (by decide)))) ?_)
  replace Ev := Lib.hid Ev
  rintro e W9 ⟨Xv, cv, Yv, dv, rfl, hv, gv, hb9⟩
  replace Rm_4 := Rm_4.below hb9
  replace hT_4 := hT_4.below hb9
  replace hl_4 := hl_4.below hb9
  replace qm0_4 := cell_below hb9 qm0_4
  replace qm1_4 := cell_below hb9 qm1_4
  replace hz_4 := hz_4.below hb9
  replace hy := hy.below hb9
  replace hone := hone.below hb9
  replace ht := ht.below hb9
  replace hdy := hdy.below hb9
  replace HBT := Below.cons HBT hb9
  clear hb9
  have hb10 : Below (W9).heap.size (W9) (W9.alloc (.cells #[.bool (sg v.num), .slice Xv (nl (mg v.num)) cv, .slice Yv (nl v.den) dv] 26)) := (Below.alloc (Below.refl _ _) (Nat.le_refl _) _)
  replace Rm_4 := Rm_4.below hb10
  replace hT_4 := hT_4.below hb10
  replace hl_4 := hl_4.below hb10
  replace qm0_4 := cell_below hb10 qm0_4
  replace qm1_4 := cell_below hb10 qm1_4
  replace hz_4 := hz_4.below hb10
  replace hy := hy.below hb10
  replace hone := hone.below hb10
  replace ht := ht.below hb10
  replace hdy := hdy.below hb10
  replace hv := hv.below hb10
  replace gv := gv.below hb10
  replace HBT := Below.cons HBT hb10
  clear hb10
  have Rv : BoxA (W9.alloc (.cells #[.bool (sg v.num), .slice Xv (nl (mg v.num)) cv, .slice Yv (nl v.den) dv] 26)) W9.heap.size 26 #[.bool (sg v.num), .slice Xv (nl (mg v.num)) cv, .slice Yv (nl v.den) dv] := ⟨by repeat (first | exact at_new (by first | (simp; done) | (simp; omega)) | refine at_old (by first | (simp; done) | (simp; omega)) ?_)⟩
  have qv0 := Rv.c (i := 0) rfl
  have qv1 := Rv.c (i := 1) rfl
  have qv2 := Rv.c (i := 2) rfl
  go_wp2_with (fail)
  obtain ⟨x, Ex⟩ : ∃ zq : Rat, zq = dval (z + 1) nn := ⟨_, rfl⟩
  have Ox : DB x 8 600 := by rw [Ex]; exact (db_val (l := 8) (E := 200) (by have := nl_mono (Int.natAbs_add_le z 1); have h2 := nl_add (mg z) 1; have h3 := nl_one; unfold mg at *; simp only [Int.natAbs_one] at this; omega) (by omega)).mono (by decide) (by decide)
  have CT : Calls Tryz.prog 15 #[.agg #[.bool (sg v.num), .slice Xv (nl (mg v.num)) cv, .slice Yv (nl v.den) dv], .int .i64 n, .int .i64 4] (W9.alloc (.cells #[.bool (sg v.num), .slice Xv (nl (mg v.num)) cv, .slice Yv (nl v.den) dv] 26)) (RetDe (W9.alloc (.cells #[.bool (sg v.num), .slice Xv (nl (mg v.num)) cv, .slice Yv (nl v.den) dv] 26)) x 0) := by rw [Ex]; rw [show dval (z + 1) nn = dval (rnd 4 (v * (2 : Rat) ^ n)) (-n) by rw [Hv.out, half_val, half_near, if_pos hoz.out, Enn.out]]; exact cut_in Xv cv Yv dv v n 4 _ hv gv hT_4 (by omega) (by omega) (by decide) (by decide) (by omega)
  replace Ex := Lib.hid Ex
  refine (Calls.mono CT ?_)
  clear CT
  rintro e W11 ⟨Xx, cx, rfl, hx, hb11⟩
  replace Rm_4 := Rm_4.below hb11
  replace hT_4 := hT_4.below hb11
  replace hl_4 := hl_4.below hb11
  replace qm0_4 := cell_below hb11 qm0_4
  replace qm1_4 := cell_below hb11 qm1_4
  replace hz_4 := hz_4.below hb11
  replace hy := hy.below hb11
  replace hone := hone.below hb11
  replace ht := ht.below hb11
  replace hdy := hdy.below hb11
  replace hv := hv.below hb11
  replace gv := gv.below hb11
  replace Rv := Rv.below hb11
  replace qv0 := cell_below hb11 qv0
  replace qv1 := cell_below hb11 qv1
  replace qv2 := cell_below hb11 qv2
  replace HBT := Below.cons HBT hb11
  clear hb11
  have hzm := Rm_4.lt
  replace hzm := Lib.hid hzm
  have hb12 : Below (W11).heap.size (W11) (W11.alloc (.cells #[.bool (sg (dmn x)), .slice Xx (nl (mg (dmn x))) cx, .int .i64 (dex x)] 28)) := (Below.alloc (Below.refl _ _) (Nat.le_refl _) _)
  replace Rm_4 := Rm_4.below hb12
  replace hT_4 := hT_4.below hb12
  replace hl_4 := hl_4.below hb12
  replace qm0_4 := cell_below hb12 qm0_4
  replace qm1_4 := cell_below hb12 qm1_4
  replace hz_4 := hz_4.below hb12
  replace hy := hy.below hb12
  replace hone := hone.below hb12
  replace ht := ht.below hb12
  replace hdy := hdy.below hb12
  replace hv := hv.below hb12
  replace gv := gv.below hb12
  replace Rv := Rv.below hb12
  replace qv0 := cell_below hb12 qv0
  replace qv1 := cell_below hb12 qv1
  replace qv2 := cell_below hb12 qv2
  replace hx := hx.below hb12
  replace HBT := Below.cons HBT hb12
  clear hb12
  have Rx : BoxA (W11.alloc (.cells #[.bool (sg (dmn x)), .slice Xx (nl (mg (dmn x))) cx, .int .i64 (dex x)] 28)) W11.heap.size 28 #[.bool (sg (dmn x)), .slice Xx (nl (mg (dmn x))) cx, .int .i64 (dex x)] := ⟨by repeat (first | exact at_new (by first | (simp; done) | (simp; omega)) | refine at_old (by first | (simp; done) | (simp; omega)) ?_)⟩
  have qx0 := Rx.c (i := 0) rfl
  have qx1 := Rx.c (i := 1) rfl
  have qx2 := Rx.c (i := 2) rfl
  clear hdy
  clear ht
  clear hy
  clear hone
  clear hv gv
  clear Rv
  clear qv0
  clear qv1
  clear qv2
  have km0 := qm0_4
  have km1 := qm1_4
  have hb13 : Below ((W11.alloc (.cells #[.bool (sg (dmn x)), .slice Xx (nl (mg (dmn x))) cx, .int .i64 (dex x)] 28))).heap.size ((W11.alloc (.cells #[.bool (sg (dmn x)), .slice Xx (nl (mg (dmn x))) cx, .int .i64 (dex x)] 28))) ((W11.alloc (.cells #[.bool (sg (dmn x)), .slice Xx (nl (mg (dmn x))) cx, .int .i64 (dex x)] 28)).alloc (.cells #[.bool (sg z), .slice Xz (nl (mg z)) cz] 24)) := (Below.alloc (Below.refl _ _) (Nat.le_refl _) _)
  replace Rm_4 := Rm_4.below hb13
  replace hT_4 := hT_4.below hb13
  replace hl_4 := hl_4.below hb13
  replace qm0_4 := cell_below hb13 qm0_4
  replace qm1_4 := cell_below hb13 qm1_4
  replace hz_4 := hz_4.below hb13
  replace hx := hx.below hb13
  replace Rx := Rx.below hb13
  replace qx0 := cell_below hb13 qx0
  replace qx1 := cell_below hb13 qx1
  replace qx2 := cell_below hb13 qx2
  replace HBT := Below.cons HBT hb13
  clear hb13
  have Rw0 : BoxA ((W11.alloc (.cells #[.bool (sg (dmn x)), .slice Xx (nl (mg (dmn x))) cx, .int .i64 (dex x)] 28)).alloc (.cells #[.bool (sg z), .slice Xz (nl (mg z)) cz] 24)) (W11.heap.size + 1) 24 #[.bool (sg z), .slice Xz (nl (mg z)) cz] := ⟨by repeat (first | exact at_new (by first | (simp; done) | (simp; omega)) | refine at_old (by first | (simp; done) | (simp; omega)) ?_)⟩
  have qw00 := Rw0.c (i := 0) rfl
  have qw01 := Rw0.c (i := 1) rfl
  go_wp2_with (fail)
  clear km0 km1
  have hbit : mg z / 2 ^ 0 % 2 = 1 := by have := hoz.out; rw [Nat.pow_zero, Nat.div_one]; unfold mg; omega
  have CB := rbit_c _ _ (mg z) 0 _ hz_4 (by omega) (by decide)
  rw [hbit] at CB
  clear hbit
  refine (Calls.mono CB ?_)
  clear CB
  rintro e w' ⟨rfl, hw⟩
  first | subst hw | (replace hw := hw.symm; subst hw)
  go_wp2_with (fail)
  replace hzm := hzm.out
  have hd14 : Below (((W11.alloc (.cells #[.bool (sg (dmn x)), .slice Xx (nl (mg (dmn x))) cx, .int .i64 (dex x)] 28)).alloc (.cells #[.bool (sg z), .slice Xz (nl (mg z)) cz] 24))).heap.size ((W11.alloc (.cells #[.bool (sg (dmn x)), .slice Xx (nl (mg (dmn x))) cx, .int .i64 (dex x)] 28)).alloc (.cells #[.bool (sg z), .slice Xz (nl (mg z)) cz] 24)) (((W11.alloc (.cells #[.bool (sg (dmn x)), .slice Xx (nl (mg (dmn x))) cx, .int .i64 (dex x)] 28)).alloc (.cells #[.bool (sg z), .slice Xz (nl (mg z)) cz] 24))).drew := (Below.refl _ _).drew
  replace Rm_4 := Rm_4.below hd14
  replace hT_4 := hT_4.below hd14
  replace hl_4 := hl_4.below hd14
  replace qm0_4 := cell_below hd14 qm0_4
  replace qm1_4 := cell_below hd14 qm1_4
  replace hz_4 := hz_4.below hd14
  replace hx := hx.below hd14
  replace Rx := Rx.below hd14
  replace qx0 := cell_below hd14 qx0
  replace qx1 := cell_below hd14 qx1
  replace qx2 := cell_below hd14 qx2
  replace Rw0 := Rw0.below hd14
  replace qw00 := cell_below hd14 qw00
  replace qw01 := cell_below hd14 qw01
  replace HBT := Below.cons HBT hd14
  clear hd14
  obtain ⟨o2, Eo2⟩ : ∃ zq : Int, zq = (1 : Int) := ⟨_, rfl⟩
  have No2 : nl (mg o2) ≤ 1 := by rw [Eo2]; exact Nat.le_of_eq nl_one
  have C14_0 := fun (W : World) => (show Calls Tryz.prog 31 #[.int .i64 1] W (RetI W o2) by rw [Eo2]; exact zof1_c W)
  replace Eo2 := Lib.hid Eo2
  replace C14_0 := Lib.hid C14_0
  obtain ⟨z1, Ez1⟩ : ∃ zq : Int, zq = z + o2 := ⟨_, rfl⟩
  have Nz1 : nl (mg z1) ≤ 8 := by rw [Ez1]; have := nl_mono (Int.natAbs_add_le z o2); have h2 := nl_add (mg z) (mg o2); unfold mg at *; omega
  have C14_1 := fun (W : World) (A : Option Addr) (c : Nat) (B : Option Addr) (d : Nat) (h1 : NatV W A c (mg z)) (h2 : NatV W B d (mg o2)) => (show Calls Tryz.prog 38 #[.agg #[.bool (sg z), .slice A (nl (mg z)) c], .agg #[.bool (sg o2), .slice B (nl (mg o2)) d]] W (RetI W z1) by rw [Ez1]; exact zadd_c A c z B d o2 W h1 h2 (by omega) (by omega))
  replace Ez1 := Lib.hid Ez1
  replace C14_1 := Lib.hid C14_1
  go_region_held3 (fun W => W.cell? ⟨w.heap.size, 0, none⟩ = some (.bool (sg z)) ∧ W.cell? ⟨w.heap.size, 1, none⟩ = some (.slice Xz (nl (mg z)) cz))
    (first
      | exact ⟨qm0_4, qm1_4⟩
      | exact ⟨qm0_15, qm1_15⟩
      | exact ⟨qm0_16, qm1_16⟩
      | exact ⟨((Rm_16.other2 (by simp <;> omega)).c (i := 0) rfl), ((Rm_16.other2 (by simp <;> omega)).c (i := 1) rfl)⟩
      | go_keep)
    (first
      | (go_at_call 31; (with_reducible refine (C14_0.out _).mono ?_); rintro e W15 ⟨Xo2, co2, rfl, ho2, hb15⟩; have Rm_15 := Rm_4.below hb15; have hT_15 := hT_4.below hb15; have hl_15 := hl_4.below hb15; have qm0_15 := cell_below hb15 qm0_4; have qm1_15 := cell_below hb15 qm1_4; have hz_15 := hz_4.below hb15; have hx_15 := hx.below hb15; have Rx_15 := Rx.below hb15; have qx0_15 := cell_below hb15 qx0; have qx1_15 := cell_below hb15 qx1; have qx2_15 := cell_below hb15 qx2; have Rw0_15 := Rw0.below hb15; have qw00_15 := cell_below hb15 qw00; have qw01_15 := cell_below hb15 qw01; have HBT_15 := Below.cons HBT hb15)
      | (go_at_call 38; (with_reducible refine (C14_1.out _ _ _ _ _ hz_15 ho2).mono ?_); rintro e W16 ⟨Xz1, cz1, rfl, hz1, hb16⟩; have Rm_16 := Rm_15.below hb16; have hT_16 := hT_15.below hb16; have hl_16 := hl_15.below hb16; have qm0_16 := cell_below hb16 qm0_15; have qm1_16 := cell_below hb16 qm1_15; have hz_16 := hz_15.below hb16; have hx_16 := hx_15.below hb16; have Rx_16 := Rx_15.below hb16; have qx0_16 := cell_below hb16 qx0_15; have qx1_16 := cell_below hb16 qx1_15; have qx2_16 := cell_below hb16 qx2_15; have Rw0_16 := Rw0_15.below hb16; have qw00_16 := cell_below hb16 qw00_15; have qw01_16 := cell_below hb16 qw01_15; have ho2_16 := ho2.below hb16; have HBT_16 := Below.cons HBT_15 hb16; have fz0 := Rw0_16.f (i := 0); have fz1 := Rw0_16.f (i := 1)))
  have fw00_17 := Rw0_16.f (i := 0)
  have fw01_17 := Rw0_16.f (i := 1)
  have Rm_17 : BoxA ((W16.setCell ⟨(W11.heap.size + 1), 0, none⟩ (.bool (sg z1))).setCell ⟨(W11.heap.size + 1), 1, none⟩ (.slice Xz1 (nl (mg z1)) cz1)) _ _ _ := Rm_16.other2 (by simp <;> omega)
  have Rx_17 : BoxA ((W16.setCell ⟨(W11.heap.size + 1), 0, none⟩ (.bool (sg z1))).setCell ⟨(W11.heap.size + 1), 1, none⟩ (.slice Xz1 (nl (mg z1)) cz1)) _ _ _ := Rx_16.other2 (by simp <;> omega)
  have Rw0_17 := Rw0_16.store2 (.bool (sg z1)) (.slice Xz1 (nl (mg z1)) cz1)
  have qm0_17 := Rm_17.c (i := 0) rfl
  have qm1_17 := Rm_17.c (i := 1) rfl
  have hz_17 := Rw0_16.keep2 (v0 := .bool (sg z1)) (v1 := .slice Xz1 (nl (mg z1)) cz1) (by intro u hu; simp at hu; rcases hu with rfl | rfl <;> first | exact notU_bool _ | exact notU_slice _ _ _ | exact notU_i64 _) hz_16
  have hx_17 := Rw0_16.keep2 (v0 := .bool (sg z1)) (v1 := .slice Xz1 (nl (mg z1)) cz1) (by intro u hu; simp at hu; rcases hu with rfl | rfl <;> first | exact notU_bool _ | exact notU_slice _ _ _ | exact notU_i64 _) hx_16
  have qx0_17 := Rx_17.c (i := 0) rfl
  have qx1_17 := Rx_17.c (i := 1) rfl
  have qx2_17 := Rx_17.c (i := 2) rfl
  have qw00_17 := Rw0_17.c (i := 0) rfl
  have qw01_17 := Rw0_17.c (i := 1) rfl
  have ho2_17 := Rw0_16.keep2 (v0 := .bool (sg z1)) (v1 := .slice Xz1 (nl (mg z1)) cz1) (by intro u hu; simp at hu; rcases hu with rfl | rfl <;> first | exact notU_bool _ | exact notU_slice _ _ _ | exact notU_i64 _) ho2_16
  have hz1_17 := Rw0_16.keep2 (v0 := .bool (sg z1)) (v1 := .slice Xz1 (nl (mg z1)) cz1) (by intro u hu; simp at hu; rcases hu with rfl | rfl <;> first | exact notU_bool _ | exact notU_slice _ _ _ | exact notU_i64 _) hz1
  have HBT_17 := Below.store2 (v0 := .bool (sg z1)) (v1 := .slice Xz1 (nl (mg z1)) cz1) HBT_16 (k := (W11.heap.size + 1)) (by first | exact Nat.le_refl _ | omega)
  have hT_17 := hT0.below HBT_17
  have hl_17 := hl0.below HBT_17
  all_goals (try go_wp2_with (fail))
  clear fw00_17 fw01_17 Rm_16 Rx_16 Rw0_16 hT_16 hl_16 qm0_16 qm1_16 hz_16 hx_16 qx0_16 qx1_16 qx2_16 qw00_16 qw01_16 ho2_16 hz1 HBT_16 fz0 fz1
  clear Rm_17
  clear Rx_17
  clear Rw0_17
  clear qm0_17
  clear qm1_17
  have hd18 : Below (((W16.setCell ⟨(W11.heap.size + 1), 0, none⟩ (.bool (sg z1))).setCell ⟨(W11.heap.size + 1), 1, none⟩ (.slice Xz1 (nl (mg z1)) cz1))).heap.size ((W16.setCell ⟨(W11.heap.size + 1), 0, none⟩ (.bool (sg z1))).setCell ⟨(W11.heap.size + 1), 1, none⟩ (.slice Xz1 (nl (mg z1)) cz1)) (((W16.setCell ⟨(W11.heap.size + 1), 0, none⟩ (.bool (sg z1))).setCell ⟨(W11.heap.size + 1), 1, none⟩ (.slice Xz1 (nl (mg z1)) cz1))).drew := (Below.refl _ _).drew
  replace hT_17 := hT_17.below hd18
  replace hl_17 := hl_17.below hd18
  replace hz_17 := hz_17.below hd18
  replace hx_17 := hx_17.below hd18
  replace qx0_17 := cell_below hd18 qx0_17
  replace qx1_17 := cell_below hd18 qx1_17
  replace qx2_17 := cell_below hd18 qx2_17
  replace qw00_17 := cell_below hd18 qw00_17
  replace qw01_17 := cell_below hd18 qw01_17
  replace ho2_17 := ho2_17.below hd18
  replace hz1_17 := hz1_17.below hd18
  have HBT := Below.cons HBT_17 hd18
  clear hd18
  replace qx0_17 : (((W16.setCell ⟨(W11.heap.size + 1), 0, none⟩ (.bool (sg z1))).setCell ⟨(W11.heap.size + 1), 1, none⟩ (.slice Xz1 (nl (mg z1)) cz1))).drew.cell? ⟨W11.heap.size, 0, none⟩ = some (.bool (sg (dmn x))) := qx0_17
  replace qx1_17 : (((W16.setCell ⟨(W11.heap.size + 1), 0, none⟩ (.bool (sg z1))).setCell ⟨(W11.heap.size + 1), 1, none⟩ (.slice Xz1 (nl (mg z1)) cz1))).drew.cell? ⟨W11.heap.size, 1, none⟩ = some (.slice Xx (nl (mg (dmn x))) cx) := qx1_17
  replace qx2_17 : (((W16.setCell ⟨(W11.heap.size + 1), 0, none⟩ (.bool (sg z1))).setCell ⟨(W11.heap.size + 1), 1, none⟩ (.slice Xz1 (nl (mg z1)) cz1))).drew.cell? ⟨W11.heap.size, 2, none⟩ = some (.int .i64 (dex x)) := qx2_17
  replace qw00_17 : (((W16.setCell ⟨(W11.heap.size + 1), 0, none⟩ (.bool (sg z1))).setCell ⟨(W11.heap.size + 1), 1, none⟩ (.slice Xz1 (nl (mg z1)) cz1))).drew.cell? ⟨(W11.heap.size + 1), 0, none⟩ = some (.bool (sg z1)) := qw00_17
  replace qw01_17 : (((W16.setCell ⟨(W11.heap.size + 1), 0, none⟩ (.bool (sg z1))).setCell ⟨(W11.heap.size + 1), 1, none⟩ (.slice Xz1 (nl (mg z1)) cz1))).drew.cell? ⟨(W11.heap.size + 1), 1, none⟩ = some (.slice Xz1 (nl (mg z1)) cz1) := qw01_17
  obtain ⟨g, Eg⟩ : ∃ zq : Rat, zq = dval z1 nn := ⟨_, rfl⟩
  have C18_0 := fun (W : World) (A : Option Addr) (c : Nat) (h : NatV W A c (mg z1)) => (show Calls Tryz.prog 37 #[.agg #[.bool (sg z1), .slice A (nl (mg z1)) c], .int .i64 nn] W (RetD W g) by rw [Eg]; exact tmake_c A c z1 nn W h (by omega) (by omega))
  replace Eg := Lib.hid Eg
  replace C18_0 := Lib.hid C18_0
  have C18_1 := fun (W : World) (A0 : Option Addr) (c0 : Nat) (A1 : Option Addr) (c1 : Nat) (h0 : NatV W A0 c0 (mg (dmn x))) (h1 : NatV W A1 c1 (mg (dmn g)))  => (show Calls Tryz.prog 19 #[.agg #[.bool (sg (dmn x)), .slice A0 (nl (mg (dmn x))) c0, .int .i64 (dex x)], .agg #[.bool (sg (dmn g)), .slice A1 (nl (mg (dmn g))) c1, .int .i64 (dex g)]] W (fun e w' => e = .returned (.bool true) ∧ Below W.heap.size W w') by exact tsameT_c A0 c0 x A1 c1 g W h0 h1 (Ox.ok (by decide) (by decide)) (by rw [Ex.out, Eg.out, Ez1.out, Eo2.out]))
  replace C18_1 := Lib.hid C18_1
  go_region_held3 (fun W => W.cell? ⟨W11.heap.size, 0, none⟩ = some (.bool (sg (dmn x))) ∧ W.cell? ⟨W11.heap.size, 1, none⟩ = some (.slice Xx (nl (mg (dmn x))) cx) ∧ W.cell? ⟨W11.heap.size, 2, none⟩ = some (.int .i64 (dex x)) ∧ W.cell? ⟨(W11.heap.size + 1), 0, none⟩ = some (.bool (sg z1)) ∧ W.cell? ⟨(W11.heap.size + 1), 1, none⟩ = some (.slice Xz1 (nl (mg z1)) cz1))
    (first
      | with_reducible exact ⟨qx0_17, qx1_17, qx2_17, qw00_17, qw01_17⟩
      | with_reducible exact ⟨qx0_19, qx1_19, qx2_19, qw00_19, qw01_19⟩
      | with_reducible exact ⟨qx0_20, qx1_20, qx2_20, qw00_20, qw01_20⟩
      | go_keep)
    (first
      | (go_at_call 37; (with_reducible refine (C18_0.out _ _ _ hz1_17).mono ?_); rintro e W19 ⟨Xg, cg, rfl, hg, hb19⟩; have hT_19 := hT_17.below hb19; have hl_19 := hl_17.below hb19; have hz_19 := hz_17.below hb19; have hx_19 := hx_17.below hb19; have qx0_19 := cell_below hb19 qx0_17; have qx1_19 := cell_below hb19 qx1_17; have qx2_19 := cell_below hb19 qx2_17; have qw00_19 := cell_below hb19 qw00_17; have qw01_19 := cell_below hb19 qw01_17; have ho2_19 := ho2_17.below hb19; have hz1_19 := hz1_17.below hb19; have HBT_19 := Below.cons HBT hb19)
      | (go_at_call 19; (with_reducible refine (C18_1.out _ _ _ _ _ hx_19 hg ).mono ?_); rintro e W20 ⟨rfl, hb20⟩; have hT_20 := hT_19.below hb20; have hl_20 := hl_19.below hb20; have hz_20 := hz_19.below hb20; have hx_20 := hx_19.below hb20; have qx0_20 := cell_below hb20 qx0_19; have qx1_20 := cell_below hb20 qx1_19; have qx2_20 := cell_below hb20 qx2_19; have qw00_20 := cell_below hb20 qw00_19; have qw01_20 := cell_below hb20 qw01_19; have ho2_20 := ho2_19.below hb20; have hz1_20 := hz1_19.below hb20; have hg_20 := hg.below hb20; have HBT_20 := Below.cons HBT_19 hb20))
  all_goals (try go_wp2_with (fail))
  go_ret
  exact ⟨rfl, HBT_20⟩
theorem dyadTies_c (sa : Bool) (b0 : Nat) (A : Option Addr) (c : Nat) (l : List Nat) (w : World) (hT : Tab w) (hl : Rd w A l) (Ll : Lim l) (Ql : l.length ≤ maxLen) (Cl : l.length ≤ c) (Zl : A = none → c = 0) (h0 : b0 < 65536) :
    Calls Tryz.prog 6 #[.agg #[.bool sa, .slice A l.length c], .int .u16 (b0 : Nat)] w fun e w' => e = .returned (.bool true) ∧ Below w.heap.size w w' := by
  obtain h | h : ival sa (val (l.take 6)) % 2 = 0 ∨ ival sa (val (l.take 6)) % 2 = 1 := by omega
  · exact dyadTies_c0 sa b0 A c l w hT hl Ll Ql Cl Zl h0 h
  · exact dyadTies_c1 sa b0 A c l w hT hl Ll Ql Cl Zl h0 h
end Go.Proofs.YtacjfpibilolnaaGreatDoor

set_option linter.unusedVariables false
set_option linter.unusedSimpArgs false
namespace Go.Proofs.YtacjfpibilolnaaGreatDoor
open Go.RowKit Go.ChangeShapes Go.WideShapes Go.ChangeAt

set_option maxRecDepth 100000 in
theorem dyadTies_lifted (os : Os) (started : os.Started) (H : Type) (enc : TypeId × Value → H) :
    ReturnsInHanded {} Tryz.checked os 6 .any (fun w args => (Rows.dyadTiesSpec.pre enc Tryz.prog Tryz.f6 [] false w args ∧ laidMetH Tryz.prog [("math/bits.deBruijn32tab", Rows.laid_math_bits_deBruijn32tab)] w) ∧ sizedMet enc Tryz.prog Tryz.f6 (OpenSpec.ofChange Rows.dyadTiesSpec) false w args)
      (Rows.dyadTiesSpec.post enc Tryz.prog Tryz.f6 false true false false) := by
  refine returnsInHanded_of_change_and (C := Tryz.checked) (X := fun w _ => laidMetH Tryz.prog [("math/bits.deBruijn32tab", Rows.laid_math_bits_deBruijn32tab)] w) (fun _ _ _ hh h => h.of_heap hh) row_own started (by kernel_rfl) Tryz.func6
    (ChangeSpec.witness_shaped (enc := enc) (C := Tryz.checked) (os := os) (X := fun w _ => laidMetH Tryz.prog [("math/bits.deBruijn32tab", Rows.laid_math_bits_deBruijn32tab)] w) false (World.doorLaid Tryz.prog 400 os) #[.agg #[.bool false, .slice none 0 0], .int .u16 0] 8 rfl (World.shaped_of_RefB (by kernel_rfl) (by kernel_rfl)) (by kernel_rfl) (by kernel_rfl) (by kernel_rfl) (door_met os _)) ?_
  intro W base args ds gs before hval0 hW _ _ hL _
  have hval : ∀ (j : Nat) t v, Tryz.f6.params[j]? = some t → args[j]? = some v → Value.okWide Tryz.prog W .any base t v := hval0
  have hW' := hW
  obtain ⟨p, q, hA0, hV, rfl, hfz, hnd⟩ := hW
  have hA : DataW.TrodAll enc Tryz.prog W 0 (fun _ => true) true Tryz.f6.params.toList args.toList ds p := hA0
  rw [Tryz.params6] at hA hval
  obtain ⟨v0, vs0, d0, ds0, p0, q0, hargs, rfl, rfl, h0, r0⟩ := trodAll_cons hA
  obtain ⟨v1, vs1, d1, ds1, p1, q1, rfl, rfl, rfl, h1, r1⟩ := trodAll_cons r0
  obtain ⟨rfl, rfl, rfl⟩ := trodAll_nil r1
  obtain rfl : args = #[v0, v1] := by cases args; simp_all
  obtain ⟨rfl, rfl⟩ := trodVars_none hV
  have hT := tab_of_laid hL
  have k0 := h0
  have lt0 : ∀ x ∈ p0, x.block < W.heap.size := by obtain ⟨m, hm⟩ := k0; exact DataW.trod_lt m _ _ _ hm
  obtain ⟨b0, A0, c0, l0, rfl, i0⟩ := open_zi (hval 0 24 v0 rfl rfl) h0
  obtain ⟨z1, rfl, rfl, rfl, w1⟩ := open_int Tryz.underlying48 (hval 1 48 v1 rfl rfl) h1
  have bz1 := bounds_u16 w1
  obtain ⟨n1, rfl⟩ := Int.eq_ofNat_of_zero_le bz1.1
  have bn1 : n1 < 65536 := by omega
  clear hA0 hval0 hval hL
  have hcall := dyadTies_c b0 n1 A0 c0 l0 W hT i0.1 i0.2.1 i0.2.2.1 i0.2.2.2.1 i0.2.2.2.2 bn1
  refine hcall.mono fun e W' ⟨he, bel⟩ => ?_
  subst he
  exact ⟨_, rfl, _, _, _, [], _, [], hW', trodAll_mk1 (shut_bool Tryz.underlying4 _), (trodAll_cons_mk (Below.trod row_out (by kernel_rfl) (of_decide_eq_true (by kernel_rfl)) k0 bel lt0) (trodAll_cons_mk (shut_int Tryz.underlying48 w1) trodAll_mk0)), rfl, bel.frame _, fun h => by cases h⟩
theorem dyadTies_holds : Rows.DyadTiesSaid :=
  OpenClaim.holds_of_wide 6 Tryz.f6 rfl rfl rfl rfl rfl rfl rfl ⟨rfl, rfl, rfl, rfl, rfl⟩ rfl rfl rfl rfl rfl (by kernel_rfl) Tryz.func6 (by kernel_rfl)
    (of_decide_eq_true (by kernel_rfl)) (by unfold Func.isWrapper; first | (rw [if_pos (by decide +kernel)]; kernel_rfl) | (rw [if_neg (by decide +kernel)]; exact ⟨rfl, rfl⟩))
    (fun os started H enc _ => dyadTies_lifted os started H enc)

/-- The card, tied to the program's text. -/
theorem dyadTies_card : Rows.DyadTiesCardSaid :=
  Claim7.holds_tied_plain_at .later [] [.data] true (true, "c40366035f47d3ac072167c9252c36368376323eeb282c459406779c221647a3") false
    dyadTies_holds (fun _ h => by cases h) (by kernel_rfl) (fun _ h => by cases h) dyadTies_row_tie rfl ⟨rfl, rfl⟩ (by kernel_rfl) rfl
    (fun f fn hf hfn => by
      obtain rfl : f = 6 := Option.some.inj ((show Tryz.prog.funcNamed "ziggurat/zigguratlaw10.DyadTies" = some 6 by kernel_rfl).symm.trans hf) |>.symm
      obtain rfl : fn = Tryz.f6 := (Option.some.inj (Tryz.func6.symm.trans hfn)).symm
      exact ⟨by kernel_rfl, fun j t ht => by
        rw [Tryz.params6] at ht
        have hm : t ∈ [24, 48] := by simpa using Array.mem_of_getElem? ht
        have hall : ([24, 48].all fun u => !Tryz.prog.wantsStandIn u) = true := by kernel_rfl
        exact (show Tryz.prog.wantsStandIn t = false by simpa using List.all_eq_true.1 hall t hm)⟩)
    (by kernel_rfl)
#print axioms dyadTies_card
end Go.Proofs.YtacjfpibilolnaaGreatDoor
