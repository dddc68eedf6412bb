/- The document's dyadic numbers, walked: Mul. -/
import Derived.Test.YthcmoimlnhghcaaGreatDoorD04
import Derived.Test.YthcmoimlnhghcaaGreatDoorD01
import Derived.Test.YthcmoimlnhghcaaGreatDoorRows
import Derived.Deep.Strs
import Derived.ProofKit
import Derived.LaidMore
import Derived.OpenShut
import Derived.Stop.Joined
import Derived.Deep.Slices
import Derived.Below
import Derived.Carry
import Derived.Test.YthcmoimlnhghcaaGreatDoorD02
import Derived.Deep.RegionHeld3
set_option maxRecDepth 100000
set_option maxHeartbeats 4000000
set_option linter.unusedVariables false
set_option linter.unusedSimpArgs false
namespace Go.Proofs.YthcmoimlnhghcaaGreatDoor
open Go.RowKit Go.Shelf
attribute [local go_sem] max2_i min2_i max_two min_two

theorem dyd_mul {a b : Rat} (ha : Dyd a) (hb : Dyd b) : Dyd (a * b) := by
  refine ⟨dmn a * dmn b, dex a + dex b, ?_⟩
  conv => lhs; rw [← dval_q ha, ← dval_q hb]
  unfold dval
  rw [Rat.intCast_mul, zp_add]
  generalize ((dmn a : Int) : Rat) = x
  generalize ((dmn b : Int) : Rat) = y
  generalize (2 : Rat) ^ dex a = u
  generalize (2 : Rat) ^ dex b = v
  grind
theorem tmul_c (aA : Option Addr) (ac : Nat) (a : Rat) (bA : Option Addr) (bc : Nat) (b : Rat) (w : World) (ha : NatV w aA ac (mg (dmn a))) (hb : NatV w bA bc (mg (dmn b))) (oa : DOk a) (ob : DOk b) (la : nl (mg a.num) ≤ 200000) (ma : nl a.den ≤ 200000) (lb : nl (mg b.num) ≤ 200000) (mb : nl b.den ≤ 200000) :
    Calls Tryz.prog 25 #[.agg #[.bool (sg (dmn a)), .slice aA (nl (mg (dmn a))) ac, .int .i64 (dex a)], .agg #[.bool (sg (dmn b)), .slice bA (nl (mg (dmn b))) bc, .int .i64 (dex b)]] w (RetD w (a * b)) := by
  have sz : nl (mg (a * b).num) ≤ 524289 ∧ nl (a * b).den ≤ 400000 := by have := mul_sz a b; omega
  have hd := of_dyd (dyd_mul oa.d ob.d)
  have hbl := bl_le (a * b).den
  obtain ⟨m, Em⟩ : ∃ z : Rat, z = a * b := ⟨_, rfl⟩
  rw [← Em] at sz hd hbl ⊢
  replace hd := Lib.hid hd
  replace oa := Lib.hid oa
  replace ob := Lib.hid ob
  replace Em := Lib.hid Em
  obtain ⟨hb1, Ra, Rb, Rr⟩ := bx3 w #[.bool (sg (dmn a)), .slice aA (nl (mg (dmn a))) ac, .int .i64 (dex a)] 26 #[.bool (sg (dmn b)), .slice bA (nl (mg (dmn b))) bc, .int .i64 (dex b)] 26 #[.bool false, .slice none 0 0, .int .i64 0] 26
  replace ha := ha.below hb1
  replace hb := hb.below hb1
  have HBT := hb1
  clear hb1
  have qa0 := Ra.c (i := 0) rfl
  have qa1 := Ra.c (i := 1) rfl
  have qa2 := Ra.c (i := 2) rfl
  have qb0 := Rb.c (i := 0) rfl
  have qb1 := Rb.c (i := 1) rfl
  have qb2 := Rb.c (i := 2) rfl
  have qr0 := Rr.c (i := 0) rfl
  have qr1 := Rr.c (i := 1) rfl
  have qr2 := Rr.c (i := 2) rfl
  go_enter Tryz.func25, Tryz.ntmps25
  go_wp2_with (fail)
  have hd2 := drb ((((w.alloc (.cells #[.bool (sg (dmn a)), .slice aA (nl (mg (dmn a))) ac, .int .i64 (dex a)] 26)).alloc (.cells #[.bool (sg (dmn b)), .slice bA (nl (mg (dmn b))) bc, .int .i64 (dex b)] 26)).alloc (.cells #[.bool false, .slice none 0 0, .int .i64 0] 26)))
  replace ha := ha.below hd2
  replace hb := hb.below hd2
  replace Ra := Ra.below hd2
  replace qa0 := cbl hd2 qa0
  replace qa1 := cbl hd2 qa1
  replace qa2 := cbl hd2 qa2
  replace Rb := Rb.below hd2
  replace qb0 := cbl hd2 qb0
  replace qb1 := cbl hd2 qb1
  replace qb2 := cbl hd2 qb2
  replace Rr := Rr.below hd2
  replace qr0 := cbl hd2 qr0
  replace qr1 := cbl hd2 qr1
  replace qr2 := cbl hd2 qr2
  replace HBT := Below.cons HBT hd2
  clear hd2
  obtain ⟨x, Ex⟩ : ∃ zq : Rat, zq = a := ⟨_, rfl⟩
  have Nx : nl (mg x.num) ≤ 200000 ∧ nl x.den ≤ 200000 := by rw [Ex]; exact ⟨la, ma⟩
  have C2_0 := fun (W : World) (h1 : NatV W aA ac (mg (dmn a))) => (show Calls Tryz.prog 30 #[.agg #[.bool (sg (dmn a)), .slice aA (nl (mg (dmn a))) ac, .int .i64 (dex a)]] W (RetR W x) by rw [Ex]; exact trat_c aA ac a W h1 oa.out)
  replace Ex := Lib.hid Ex
  replace C2_0 := Lib.hid C2_0
  obtain ⟨y, Ey⟩ : ∃ zq : Rat, zq = b := ⟨_, rfl⟩
  have Ny : nl (mg y.num) ≤ 200000 ∧ nl y.den ≤ 200000 := by rw [Ey]; exact ⟨lb, mb⟩
  have C2_1 := fun (W : World) (h1 : NatV W bA bc (mg (dmn b))) => (show Calls Tryz.prog 30 #[.agg #[.bool (sg (dmn b)), .slice bA (nl (mg (dmn b))) bc, .int .i64 (dex b)]] W (RetR W y) by rw [Ey]; exact trat_c bA bc b W h1 ob.out)
  replace Ey := Lib.hid Ey
  replace C2_1 := Lib.hid C2_1
  obtain ⟨u, Eu⟩ : ∃ zq : Rat, zq = m := ⟨_, rfl⟩
  have Nu : nl (mg u.num) ≤ 1048576 ∧ nl u.den ≤ 1048576 ∧ bl u.den ≤ 1000000000 := by rw [Eu]; omega
  have hu2 : Hid (dval u.num (1 - (bl u.den : Int)) = u) := by rw [Eu]; exact hd
  have C2_2 := fun (W : World) (A : Option Addr) (c : Nat) (B : Option Addr) (d : Nat) (A2 : Option Addr) (c2 : Nat) (B2 : Option Addr) (d2 : Nat) (h1 : NatV W A c (mg x.num)) (h2 : NatV W B d x.den) (h3 : NatV W A2 c2 (mg y.num)) (h4 : NatV W B2 d2 y.den) => (show Calls Tryz.prog 77 #[.agg #[.bool (sg x.num), .slice A (nl (mg x.num)) c, .slice B (nl x.den) d], .agg #[.bool (sg y.num), .slice A2 (nl (mg y.num)) c2, .slice B2 (nl y.den) d2]] W (RetR W u) by rw [Eu, Em.out, ← Ex.out, ← Ey.out]; exact r9mul_c A c B d x A2 c2 B2 d2 y W h1 h2 h3 h4 (by omega) (by omega) (by omega) (by omega))
  replace Eu := Lib.hid Eu
  replace C2_2 := Lib.hid C2_2
  obtain ⟨q, Eq⟩ : ∃ zq : Rat, zq = u := ⟨_, rfl⟩
  have C2_3 := fun (W : World) (A : Option Addr) (c : Nat) (B : Option Addr) (d : Nat) (h1 : NatV W A c (mg u.num)) (h2 : NatV W B d u.den) => (show Calls Tryz.prog 73 #[.agg #[.bool (sg u.num), .slice A (nl (mg u.num)) c, .slice B (nl u.den) d]] W (RetD W q) by rw [Eq]; exact tof_c A c B d u W h1 h2 hu2.out Nu.1 Nu.2.1 Nu.2.2)
  replace Eq := Lib.hid Eq
  replace C2_3 := Lib.hid C2_3
  go_region_held3 (fun W => W.cell? ⟨w.heap.size, 0, none⟩ = some (.bool (sg (dmn a))) ∧ W.cell? ⟨w.heap.size, 1, none⟩ = some (.slice aA (nl (mg (dmn a))) ac) ∧ W.cell? ⟨w.heap.size, 2, none⟩ = some (.int .i64 (dex a)) ∧ W.cell? ⟨(w.heap.size + 1), 0, none⟩ = some (.bool (sg (dmn b))) ∧ W.cell? ⟨(w.heap.size + 1), 1, none⟩ = some (.slice bA (nl (mg (dmn b))) bc) ∧ W.cell? ⟨(w.heap.size + 1), 2, none⟩ = some (.int .i64 (dex b)))
    (first
      | exact ⟨qa0, qa1, qa2, qb0, qb1, qb2⟩
      | exact ⟨qa0_3, qa1_3, qa2_3, qb0_3, qb1_3, qb2_3⟩
      | exact ⟨qa0_4, qa1_4, qa2_4, qb0_4, qb1_4, qb2_4⟩
      | exact ⟨qa0_5, qa1_5, qa2_5, qb0_5, qb1_5, qb2_5⟩
      | exact ⟨qa0_6, qa1_6, qa2_6, qb0_6, qb1_6, qb2_6⟩
      | exact ⟨((Ra_6.other3 (by simp <;> omega)).c (i := 0) rfl), ((Ra_6.other3 (by simp <;> omega)).c (i := 1) rfl), ((Ra_6.other3 (by simp <;> omega)).c (i := 2) rfl), ((Rb_6.other3 (by simp <;> omega)).c (i := 0) rfl), ((Rb_6.other3 (by simp <;> omega)).c (i := 1) rfl), ((Rb_6.other3 (by simp <;> omega)).c (i := 2) rfl)⟩
      | go_keep)
    (first
      | (go_at_call 30; (with_reducible refine (C2_0.out _ ha).mono ?_); rintro e W3 ⟨Xx, cx, Yx, dx, rfl, hx, gx, hb3⟩; have ha_3 := ha.below hb3; have hb_3 := hb.below hb3; have Ra_3 := Ra.below hb3; have qa0_3 := cbl hb3 qa0; have qa1_3 := cbl hb3 qa1; have qa2_3 := cbl hb3 qa2; have Rb_3 := Rb.below hb3; have qb0_3 := cbl hb3 qb0; have qb1_3 := cbl hb3 qb1; have qb2_3 := cbl hb3 qb2; have Rr_3 := Rr.below hb3; have qr0_3 := cbl hb3 qr0; have qr1_3 := cbl hb3 qr1; have qr2_3 := cbl hb3 qr2; have HBT_3 := Below.cons HBT hb3)
      | (go_at_call 30; (with_reducible refine (C2_1.out _ hb_3).mono ?_); rintro e W4 ⟨Xy, cy, Yy, dy, rfl, hy, gy, hb4⟩; have ha_4 := ha_3.below hb4; have hb_4 := hb_3.below hb4; have Ra_4 := Ra_3.below hb4; have qa0_4 := cbl hb4 qa0_3; have qa1_4 := cbl hb4 qa1_3; have qa2_4 := cbl hb4 qa2_3; have Rb_4 := Rb_3.below hb4; have qb0_4 := cbl hb4 qb0_3; have qb1_4 := cbl hb4 qb1_3; have qb2_4 := cbl hb4 qb2_3; have Rr_4 := Rr_3.below hb4; have qr0_4 := cbl hb4 qr0_3; have qr1_4 := cbl hb4 qr1_3; have qr2_4 := cbl hb4 qr2_3; have hx_4 := hx.below hb4; have gx_4 := gx.below hb4; have HBT_4 := Below.cons HBT_3 hb4)
      | (go_at_call 77; (with_reducible refine (C2_2.out _ _ _ _ _ _ _ _ _ hx_4 gx_4 hy gy).mono ?_); rintro e W5 ⟨Xu, cu, Yu, du, rfl, hu, gu, hb5⟩; have ha_5 := ha_4.below hb5; have hb_5 := hb_4.below hb5; have Ra_5 := Ra_4.below hb5; have qa0_5 := cbl hb5 qa0_4; have qa1_5 := cbl hb5 qa1_4; have qa2_5 := cbl hb5 qa2_4; have Rb_5 := Rb_4.below hb5; have qb0_5 := cbl hb5 qb0_4; have qb1_5 := cbl hb5 qb1_4; have qb2_5 := cbl hb5 qb2_4; have Rr_5 := Rr_4.below hb5; have qr0_5 := cbl hb5 qr0_4; have qr1_5 := cbl hb5 qr1_4; have qr2_5 := cbl hb5 qr2_4; have hx_5 := hx_4.below hb5; have gx_5 := gx_4.below hb5; have hy_5 := hy.below hb5; have gy_5 := gy.below hb5; have HBT_5 := Below.cons HBT_4 hb5)
      | (go_at_call 73; (with_reducible refine (C2_3.out _ _ _ _ _ hu gu).mono ?_); rintro e W6 ⟨Xq, cq, rfl, hq, hb6⟩; have ha_6 := ha_5.below hb6; have hb_6 := hb_5.below hb6; have Ra_6 := Ra_5.below hb6; have qa0_6 := cbl hb6 qa0_5; have qa1_6 := cbl hb6 qa1_5; have qa2_6 := cbl hb6 qa2_5; have Rb_6 := Rb_5.below hb6; have qb0_6 := cbl hb6 qb0_5; have qb1_6 := cbl hb6 qb1_5; have qb2_6 := cbl hb6 qb2_5; have Rr_6 := Rr_5.below hb6; have qr0_6 := cbl hb6 qr0_5; have qr1_6 := cbl hb6 qr1_5; have qr2_6 := cbl hb6 qr2_5; have hx_6 := hx_5.below hb6; have gx_6 := gx_5.below hb6; have hy_6 := hy_5.below hb6; have gy_6 := gy_5.below hb6; have hu_6 := hu.below hb6; have gu_6 := gu.below hb6; have HBT_6 := Below.cons HBT_5 hb6; have fz0 := Rr_6.f (i := 0); have fz1 := Rr_6.f (i := 1); have fz2 := Rr_6.f (i := 2)))
  all_goals (try go_wp2_with (fail))
  have hzq : q = m := by rw [Eq.out, Eu.out]
  have RS := Rr_6.store3 (.bool (sg (dmn q))) (.slice Xq (nl (mg (dmn q))) cq) (.int .i64 (dex q))
  have e0 := RS.c (i := 0) rfl
  have e1 := RS.c (i := 1) rfl
  have e2 := RS.c (i := 2) rfl
  refine bodyPost_ret (v := .agg #[.bool (sg (dmn q)), .slice Xq (nl (mg (dmn q))) cq, .int .i64 (dex q)]) (by simp [results, Tryz.results25, go_sem, e0, e1, e2]) rfl ?_
  rw [← hzq]
  exact ⟨Xq, cq, rfl, (Rr_6.keep3 (nuB rfl) hq), (Below.store3 HBT_6 (by first | exact Nat.le_refl _ | omega))⟩
def cutE (x : Int) : Int := Int.tmod (bits .and .i64 x 65535) 401 - 200
theorem tmade_c (sa : Bool) (A : Option Addr) (c m : Nat) (l : List Nat) (x : Int) (w : World) (h : Rd w A l) (hL : Lim l) (hl : l.length ≤ maxLen) (hc : l.length ≤ c) (hnil : A = none → c = 0) (hm : m ≤ 65536) (hx : -200 ≤ cutE x ∧ cutE x ≤ 200) :
    Calls Tryz.prog 55 #[.agg #[.bool sa, .slice A l.length c, .int .i64 x], .int .i64 (m : Nat)] w (RetD w (dval (ival sa (val (l.take m))) (cutE x))) := by
  have lv : nl (val (l.take m)) ≤ 65536 := Nat.le_trans (made_nl l hL m) hm
  obtain ⟨y, Ey⟩ : ∃ z, z = cutE x := ⟨_, rfl⟩
  have Iy : Int.tmod (bits .and .i64 x 65535) 401 - 200 = y := Ey.symm
  rw [← Ey] at hx ⊢
  have Wy : IntKind.i64.wrap y = y := IntWalk.i64_in _ (by omega)
  replace Ey := Lib.hid Ey
  obtain ⟨hb1, Ra, Rr⟩ := bx2 w #[.bool sa, .slice A l.length c, .int .i64 x] 26 #[.bool false, .slice none 0 0, .int .i64 0] 26
  replace h := h.below hb1
  have HBT := hb1
  clear hb1
  have qa0 := Ra.c (i := 0) rfl
  have qa1 := Ra.c (i := 1) rfl
  have qa2 := Ra.c (i := 2) rfl
  have qr0 := Rr.c (i := 0) rfl
  have qr1 := Rr.c (i := 1) rfl
  have qr2 := Rr.c (i := 2) rfl
  go_enter Tryz.func55, Tryz.ntmps55
  go_wp2_with (fail)
  have hd2 := drb (((w.alloc (.cells #[.bool sa, .slice A l.length c, .int .i64 x] 26)).alloc (.cells #[.bool false, .slice none 0 0, .int .i64 0] 26)))
  replace h := h.below hd2
  replace Ra := Ra.below hd2
  replace qa0 := cbl hd2 qa0
  replace qa1 := cbl hd2 qa1
  replace qa2 := cbl hd2 qa2
  replace Rr := Rr.below hd2
  replace qr0 := cbl hd2 qr0
  replace qr1 := cbl hd2 qr1
  replace qr2 := cbl hd2 qr2
  replace HBT := Below.cons HBT hd2
  clear hd2
  obtain ⟨n, En⟩ : ∃ zq : Int, zq = ival sa (val (l.take m)) := ⟨_, rfl⟩
  have Nn : nl (mg n) ≤ 65536 := by rw [En, mg_ival]; exact lv
  have C2_0 := fun (W : World) (h1 : Rd W A l) => zmade_c sa A c m l W h1 hL hl hc hnil (by omega)
  simp only [← En] at C2_0
  replace En := Lib.hid En
  replace C2_0 := Lib.hid C2_0
  obtain ⟨q, Eq⟩ : ∃ zq : Rat, zq = dval n y := ⟨_, rfl⟩
  have C2_1 := fun (W : World) (A : Option Addr) (c : Nat) (h1 : NatV W A c (mg n)) => tmake_c A c n y W h1 (by omega) (by omega)
  simp only [← Eq] at C2_1
  replace Eq := Lib.hid Eq
  replace C2_1 := Lib.hid C2_1
  go_region_held3 (fun W => W.cell? ⟨w.heap.size, 0, none⟩ = some (.bool sa) ∧ W.cell? ⟨w.heap.size, 1, none⟩ = some (.slice A l.length c) ∧ W.cell? ⟨w.heap.size, 2, none⟩ = some (.int .i64 x))
    (first
      | exact ⟨qa0, qa1, qa2⟩
      | exact ⟨qa0_3, qa1_3, qa2_3⟩
      | exact ⟨qa0_4, qa1_4, qa2_4⟩
      | exact ⟨((Ra_4.other3 (by simp <;> omega)).c (i := 0) rfl), ((Ra_4.other3 (by simp <;> omega)).c (i := 1) rfl), ((Ra_4.other3 (by simp <;> omega)).c (i := 2) rfl)⟩
      | go_keep)
    (first
      | (go_at_call 10; (with_reducible refine (C2_0.out _ h).mono ?_); rintro e W3 ⟨Xn, cn, rfl, hn, hb3⟩; have h_3 := h.below hb3; have Ra_3 := Ra.below hb3; have qa0_3 := cbl hb3 qa0; have qa1_3 := cbl hb3 qa1; have qa2_3 := cbl hb3 qa2; have Rr_3 := Rr.below hb3; have qr0_3 := cbl hb3 qr0; have qr1_3 := cbl hb3 qr1; have qr2_3 := cbl hb3 qr2; have HBT_3 := Below.cons HBT hb3)
      | (go_at_call 13; (with_reducible refine (C2_1.out _ _ _ hn).mono ?_); rintro e W4 ⟨Xq, cq, rfl, hq, hb4⟩; have h_4 := h_3.below hb4; have Ra_4 := Ra_3.below hb4; have qa0_4 := cbl hb4 qa0_3; have qa1_4 := cbl hb4 qa1_3; have qa2_4 := cbl hb4 qa2_3; have Rr_4 := Rr_3.below hb4; have qr0_4 := cbl hb4 qr0_3; have qr1_4 := cbl hb4 qr1_3; have qr2_4 := cbl hb4 qr2_3; have hn_4 := hn.below hb4; have HBT_4 := Below.cons HBT_3 hb4; have fz0 := Rr_4.f (i := 0); have fz1 := Rr_4.f (i := 1); have fz2 := Rr_4.f (i := 2)))
  all_goals (try go_wp2_with (fail))
  have hzq : q = (dval (ival sa (val (l.take m))) y) := by rw [Eq.out, En.out]
  subst hzq
  have RS := Rr_4.store3 (.bool (sg (dmn (((dval (ival sa (val (l.take m))) y)))))) (.slice Xq (nl (mg (dmn (((dval (ival sa (val (l.take m))) y)))))) cq) (.int .i64 (dex (((dval (ival sa (val (l.take m))) y)))))
  have e0 := RS.c (i := 0) rfl
  have e1 := RS.c (i := 1) rfl
  have e2 := RS.c (i := 2) rfl
  refine bodyPost_ret (v := .agg #[.bool (sg (dmn (((dval (ival sa (val (l.take m))) y))))), .slice Xq (nl (mg (dmn (((dval (ival sa (val (l.take m))) y)))))) cq, .int .i64 (dex (((dval (ival sa (val (l.take m))) y))))]) (by simp [results, Tryz.results55, go_sem, e0, e1, e2]) rfl ?_
  exact ⟨Xq, cq, rfl, (Rr_4.keep3 (nuB rfl) hq), (Below.store3 HBT_4 (by first | exact Nat.le_refl _ | omega))⟩
theorem add_sz2 (a b : Rat) (la : nl (mg a.num) ≤ 100000) (ma : nl a.den ≤ 100000) (lb : nl (mg b.num) ≤ 100000) (mb : nl b.den ≤ 100000) : nl (mg (a + b).num) ≤ 200001 ∧ nl (a + b).den ≤ 200000 := by
  have h0 : a.den * b.den ≠ 0 := Nat.mul_ne_zero a.den_nz b.den_nz
  rw [Rat.add_def', Rat.num_mkRat, Rat.den_mkRat, if_neg h0, if_neg h0]
  constructor
  · refine Nat.le_trans (nl_mono (Int.natAbs_ediv_le_natAbs _ _)) ?_
    have h1 : mg (a.num * (b.den : Int) + b.num * (a.den : Int)) ≤ mg a.num * b.den + mg b.num * a.den := by
      refine Nat.le_trans (Int.natAbs_add_le _ _) ?_
      rw [Int.natAbs_mul, Int.natAbs_mul]; exact Nat.le_refl _
    refine Nat.le_trans (nl_mono h1) ?_
    have h2 := nl_add (mg a.num * b.den) (mg b.num * a.den)
    have h3 := nl_mul (mg a.num) b.den
    have h4 := nl_mul (mg b.num) a.den
    have h5 : ∀ x y : Nat, nl x ≤ 200000 → nl y ≤ 200000 → nl (x + y) ≤ 200001 := by
      intro x y hx hy
      have := nl_add x y
      omega
    exact h5 _ _ (by omega) (by omega)
  · refine Nat.le_trans (nl_div _ _) ?_
    have := nl_mul a.den b.den; omega
theorem dyd_pow (n : Int) : Dyd ((2 : Rat) ^ n) := ⟨1, n, by unfold dval; simp⟩
theorem tmid_c (aA : Option Addr) (ac : Nat) (a : Rat) (bA : Option Addr) (bc : Nat) (b : Rat) (w : World) (ha : NatV w aA ac (mg (dmn a))) (hb : NatV w bA bc (mg (dmn b))) (oa : DOk a) (ob : DOk b) (la : nl (mg a.num) ≤ 100000) (ma : nl a.den ≤ 100000) (lb : nl (mg b.num) ≤ 100000) (mb : nl b.den ≤ 100000) :
    Calls Tryz.prog 27 #[.agg #[.bool (sg (dmn a)), .slice aA (nl (mg (dmn a))) ac, .int .i64 (dex a)], .agg #[.bool (sg (dmn b)), .slice bA (nl (mg (dmn b))) bc, .int .i64 (dex b)]] w (RetD w ((a + b) * (2 : Rat) ^ (-1 : Int))) := by
  have sz := add_sz2 a b la ma lb mb
  have sp := pow_sz (-1) (by decide)
  have sm := mul_sz (a + b) ((2 : Rat) ^ (-1 : Int))
  have hd := of_dyd (dyd_mul (dyd_add oa ob) (dyd_pow (-1)))
  have hbl := bl_le ((a + b) * (2 : Rat) ^ (-1 : Int)).den
  obtain ⟨p, Ep⟩ : ∃ z : Rat, z = (2 : Rat) ^ (-1 : Int) := ⟨_, rfl⟩
  rw [← Ep] at sp sm hd hbl ⊢
  obtain ⟨g, Eg⟩ : ∃ z : Rat, z = a + b := ⟨_, rfl⟩
  rw [← Eg] at sz sm hd hbl ⊢
  obtain ⟨m, Em⟩ : ∃ z : Rat, z = g * p := ⟨_, rfl⟩
  rw [← Em] at sm hd hbl ⊢
  replace hd := Lib.hid hd
  replace oa := Lib.hid oa
  replace ob := Lib.hid ob
  replace Em := Lib.hid Em
  replace Eg := Lib.hid Eg
  replace Ep := Lib.hid Ep
  obtain ⟨hb1, Ra, Rb, Rr⟩ := bx3 w #[.bool (sg (dmn a)), .slice aA (nl (mg (dmn a))) ac, .int .i64 (dex a)] 26 #[.bool (sg (dmn b)), .slice bA (nl (mg (dmn b))) bc, .int .i64 (dex b)] 26 #[.bool false, .slice none 0 0, .int .i64 0] 26
  replace ha := ha.below hb1
  replace hb := hb.below hb1
  have HBT := hb1
  clear hb1
  have qa0 := Ra.c (i := 0) rfl
  have qa1 := Ra.c (i := 1) rfl
  have qa2 := Ra.c (i := 2) rfl
  have qb0 := Rb.c (i := 0) rfl
  have qb1 := Rb.c (i := 1) rfl
  have qb2 := Rb.c (i := 2) rfl
  have qr0 := Rr.c (i := 0) rfl
  have qr1 := Rr.c (i := 1) rfl
  have qr2 := Rr.c (i := 2) rfl
  go_enter Tryz.func27, Tryz.ntmps27
  go_wp2_with (fail)
  have hd2 := drb ((((w.alloc (.cells #[.bool (sg (dmn a)), .slice aA (nl (mg (dmn a))) ac, .int .i64 (dex a)] 26)).alloc (.cells #[.bool (sg (dmn b)), .slice bA (nl (mg (dmn b))) bc, .int .i64 (dex b)] 26)).alloc (.cells #[.bool false, .slice none 0 0, .int .i64 0] 26)))
  replace ha := ha.below hd2
  replace hb := hb.below hd2
  replace Ra := Ra.below hd2
  replace qa0 := cbl hd2 qa0
  replace qa1 := cbl hd2 qa1
  replace qa2 := cbl hd2 qa2
  replace Rb := Rb.below hd2
  replace qb0 := cbl hd2 qb0
  replace qb1 := cbl hd2 qb1
  replace qb2 := cbl hd2 qb2
  replace Rr := Rr.below hd2
  replace qr0 := cbl hd2 qr0
  replace qr1 := cbl hd2 qr1
  replace qr2 := cbl hd2 qr2
  replace HBT := Below.cons HBT hd2
  clear hd2
  obtain ⟨x, Ex⟩ : ∃ zq : Rat, zq = a := ⟨_, rfl⟩
  have Nx : nl (mg x.num) ≤ 100000 ∧ nl x.den ≤ 100000 := by rw [Ex]; exact ⟨la, ma⟩
  have C2_0 := fun (W : World) (h1 : NatV W aA ac (mg (dmn a))) => (show Calls Tryz.prog 30 #[.agg #[.bool (sg (dmn a)), .slice aA (nl (mg (dmn a))) ac, .int .i64 (dex a)]] W (RetR W x) by rw [Ex]; exact trat_c aA ac a W h1 oa.out)
  replace Ex := Lib.hid Ex
  replace C2_0 := Lib.hid C2_0
  obtain ⟨y, Ey⟩ : ∃ zq : Rat, zq = b := ⟨_, rfl⟩
  have Ny : nl (mg y.num) ≤ 100000 ∧ nl y.den ≤ 100000 := by rw [Ey]; exact ⟨lb, mb⟩
  have C2_1 := fun (W : World) (h1 : NatV W bA bc (mg (dmn b))) => (show Calls Tryz.prog 30 #[.agg #[.bool (sg (dmn b)), .slice bA (nl (mg (dmn b))) bc, .int .i64 (dex b)]] W (RetR W y) by rw [Ey]; exact trat_c bA bc b W h1 ob.out)
  replace Ey := Lib.hid Ey
  replace C2_1 := Lib.hid C2_1
  obtain ⟨u, Eu⟩ : ∃ zq : Rat, zq = g := ⟨_, rfl⟩
  have Nu : nl (mg u.num) ≤ 200001 ∧ nl u.den ≤ 200000 := by rw [Eu]; exact sz
  have C2_2 := fun (W : World) (A : Option Addr) (c : Nat) (B : Option Addr) (d : Nat) (A2 : Option Addr) (c2 : Nat) (B2 : Option Addr) (d2 : Nat) (h1 : NatV W A c (mg x.num)) (h2 : NatV W B d x.den) (h3 : NatV W A2 c2 (mg y.num)) (h4 : NatV W B2 d2 y.den) => (show Calls Tryz.prog 74 #[.agg #[.bool (sg x.num), .slice A (nl (mg x.num)) c, .slice B (nl x.den) d], .agg #[.bool (sg y.num), .slice A2 (nl (mg y.num)) c2, .slice B2 (nl y.den) d2]] W (RetR W u) by rw [Eu, Eg.out, ← Ex.out, ← Ey.out]; exact r9add_c A c B d x A2 c2 B2 d2 y W h1 h2 h3 h4 (by omega) (by omega) (by omega) (by omega))
  replace Eu := Lib.hid Eu
  replace C2_2 := Lib.hid C2_2
  obtain ⟨v, Ev⟩ : ∃ zq : Rat, zq = p := ⟨_, rfl⟩
  have Nv : nl (mg v.num) ≤ 31251 ∧ nl v.den ≤ 31251 := by rw [Ev]; exact sp
  have C2_3 := fun (W : World) => (show Calls Tryz.prog 78 #[.int .i64 (-1)] W (RetR W v) by rw [Ev, Ep.out]; exact tpow_c (-1) W (by decide))
  replace Ev := Lib.hid Ev
  replace C2_3 := Lib.hid C2_3
  obtain ⟨k, Ek⟩ : ∃ zq : Rat, zq = m := ⟨_, rfl⟩
  have Nk : nl (mg k.num) ≤ 1048576 ∧ nl k.den ≤ 1048576 ∧ bl k.den ≤ 1000000000 := by rw [Ek]; omega
  have hk2 : Hid (dval k.num (1 - (bl k.den : Int)) = k) := by rw [Ek]; exact hd
  have C2_4 := fun (W : World) (A : Option Addr) (c : Nat) (B : Option Addr) (d : Nat) (A2 : Option Addr) (c2 : Nat) (B2 : Option Addr) (d2 : Nat) (h1 : NatV W A c (mg u.num)) (h2 : NatV W B d u.den) (h3 : NatV W A2 c2 (mg v.num)) (h4 : NatV W B2 d2 v.den) => (show Calls Tryz.prog 77 #[.agg #[.bool (sg u.num), .slice A (nl (mg u.num)) c, .slice B (nl u.den) d], .agg #[.bool (sg v.num), .slice A2 (nl (mg v.num)) c2, .slice B2 (nl v.den) d2]] W (RetR W k) by rw [Ek, Em.out, ← Eu.out, ← Ev.out]; exact r9mul_c A c B d u A2 c2 B2 d2 v W h1 h2 h3 h4 (by omega) (by omega) (by omega) (by omega))
  replace Ek := Lib.hid Ek
  replace C2_4 := Lib.hid C2_4
  obtain ⟨q, Eq⟩ : ∃ zq : Rat, zq = k := ⟨_, rfl⟩
  have C2_5 := fun (W : World) (A : Option Addr) (c : Nat) (B : Option Addr) (d : Nat) (h1 : NatV W A c (mg k.num)) (h2 : NatV W B d k.den) => (show Calls Tryz.prog 73 #[.agg #[.bool (sg k.num), .slice A (nl (mg k.num)) c, .slice B (nl k.den) d]] W (RetD W q) by rw [Eq]; exact tof_c A c B d k W h1 h2 hk2.out Nk.1 Nk.2.1 Nk.2.2)
  replace Eq := Lib.hid Eq
  replace C2_5 := Lib.hid C2_5
  go_region_held3 (fun W => W.cell? ⟨w.heap.size, 0, none⟩ = some (.bool (sg (dmn a))) ∧ W.cell? ⟨w.heap.size, 1, none⟩ = some (.slice aA (nl (mg (dmn a))) ac) ∧ W.cell? ⟨w.heap.size, 2, none⟩ = some (.int .i64 (dex a)) ∧ W.cell? ⟨(w.heap.size + 1), 0, none⟩ = some (.bool (sg (dmn b))) ∧ W.cell? ⟨(w.heap.size + 1), 1, none⟩ = some (.slice bA (nl (mg (dmn b))) bc) ∧ W.cell? ⟨(w.heap.size + 1), 2, none⟩ = some (.int .i64 (dex b)))
    (first
      | exact ⟨qa0, qa1, qa2, qb0, qb1, qb2⟩
      | exact ⟨qa0_3, qa1_3, qa2_3, qb0_3, qb1_3, qb2_3⟩
      | exact ⟨qa0_4, qa1_4, qa2_4, qb0_4, qb1_4, qb2_4⟩
      | exact ⟨qa0_5, qa1_5, qa2_5, qb0_5, qb1_5, qb2_5⟩
      | exact ⟨qa0_6, qa1_6, qa2_6, qb0_6, qb1_6, qb2_6⟩
      | exact ⟨qa0_7, qa1_7, qa2_7, qb0_7, qb1_7, qb2_7⟩
      | exact ⟨qa0_8, qa1_8, qa2_8, qb0_8, qb1_8, qb2_8⟩
      | exact ⟨((Ra_8.other3 (by simp <;> omega)).c (i := 0) rfl), ((Ra_8.other3 (by simp <;> omega)).c (i := 1) rfl), ((Ra_8.other3 (by simp <;> omega)).c (i := 2) rfl), ((Rb_8.other3 (by simp <;> omega)).c (i := 0) rfl), ((Rb_8.other3 (by simp <;> omega)).c (i := 1) rfl), ((Rb_8.other3 (by simp <;> omega)).c (i := 2) rfl)⟩
      | go_keep)
    (first
      | (go_at_call 30; (with_reducible refine (C2_0.out _ ha).mono ?_); rintro e W3 ⟨Xx, cx, Yx, dx, rfl, hx, gx, hb3⟩; have ha_3 := ha.below hb3; have hb_3 := hb.below hb3; have Ra_3 := Ra.below hb3; have qa0_3 := cbl hb3 qa0; have qa1_3 := cbl hb3 qa1; have qa2_3 := cbl hb3 qa2; have Rb_3 := Rb.below hb3; have qb0_3 := cbl hb3 qb0; have qb1_3 := cbl hb3 qb1; have qb2_3 := cbl hb3 qb2; have Rr_3 := Rr.below hb3; have qr0_3 := cbl hb3 qr0; have qr1_3 := cbl hb3 qr1; have qr2_3 := cbl hb3 qr2; have HBT_3 := Below.cons HBT hb3)
      | (go_at_call 30; (with_reducible refine (C2_1.out _ hb_3).mono ?_); rintro e W4 ⟨Xy, cy, Yy, dy, rfl, hy, gy, hb4⟩; have ha_4 := ha_3.below hb4; have hb_4 := hb_3.below hb4; have Ra_4 := Ra_3.below hb4; have qa0_4 := cbl hb4 qa0_3; have qa1_4 := cbl hb4 qa1_3; have qa2_4 := cbl hb4 qa2_3; have Rb_4 := Rb_3.below hb4; have qb0_4 := cbl hb4 qb0_3; have qb1_4 := cbl hb4 qb1_3; have qb2_4 := cbl hb4 qb2_3; have Rr_4 := Rr_3.below hb4; have qr0_4 := cbl hb4 qr0_3; have qr1_4 := cbl hb4 qr1_3; have qr2_4 := cbl hb4 qr2_3; have hx_4 := hx.below hb4; have gx_4 := gx.below hb4; have HBT_4 := Below.cons HBT_3 hb4)
      | (go_at_call 74; (with_reducible refine (C2_2.out _ _ _ _ _ _ _ _ _ hx_4 gx_4 hy gy).mono ?_); rintro e W5 ⟨Xu, cu, Yu, du, rfl, hu, gu, hb5⟩; have ha_5 := ha_4.below hb5; have hb_5 := hb_4.below hb5; have Ra_5 := Ra_4.below hb5; have qa0_5 := cbl hb5 qa0_4; have qa1_5 := cbl hb5 qa1_4; have qa2_5 := cbl hb5 qa2_4; have Rb_5 := Rb_4.below hb5; have qb0_5 := cbl hb5 qb0_4; have qb1_5 := cbl hb5 qb1_4; have qb2_5 := cbl hb5 qb2_4; have Rr_5 := Rr_4.below hb5; have qr0_5 := cbl hb5 qr0_4; have qr1_5 := cbl hb5 qr1_4; have qr2_5 := cbl hb5 qr2_4; have hx_5 := hx_4.below hb5; have gx_5 := gx_4.below hb5; have hy_5 := hy.below hb5; have gy_5 := gy.below hb5; have HBT_5 := Below.cons HBT_4 hb5)
      | (go_at_call 78; (with_reducible refine (C2_3.out _).mono ?_); rintro e W6 ⟨Xv, cv, Yv, dv, rfl, hv, gv, hb6⟩; have ha_6 := ha_5.below hb6; have hb_6 := hb_5.below hb6; have Ra_6 := Ra_5.below hb6; have qa0_6 := cbl hb6 qa0_5; have qa1_6 := cbl hb6 qa1_5; have qa2_6 := cbl hb6 qa2_5; have Rb_6 := Rb_5.below hb6; have qb0_6 := cbl hb6 qb0_5; have qb1_6 := cbl hb6 qb1_5; have qb2_6 := cbl hb6 qb2_5; have Rr_6 := Rr_5.below hb6; have qr0_6 := cbl hb6 qr0_5; have qr1_6 := cbl hb6 qr1_5; have qr2_6 := cbl hb6 qr2_5; have hx_6 := hx_5.below hb6; have gx_6 := gx_5.below hb6; have hy_6 := hy_5.below hb6; have gy_6 := gy_5.below hb6; have hu_6 := hu.below hb6; have gu_6 := gu.below hb6; have HBT_6 := Below.cons HBT_5 hb6)
      | (go_at_call 77; (with_reducible refine (C2_4.out _ _ _ _ _ _ _ _ _ hu_6 gu_6 hv gv).mono ?_); rintro e W7 ⟨Xk, ck, Yk, dk, rfl, hk, gk, hb7⟩; have ha_7 := ha_6.below hb7; have hb_7 := hb_6.below hb7; have Ra_7 := Ra_6.below hb7; have qa0_7 := cbl hb7 qa0_6; have qa1_7 := cbl hb7 qa1_6; have qa2_7 := cbl hb7 qa2_6; have Rb_7 := Rb_6.below hb7; have qb0_7 := cbl hb7 qb0_6; have qb1_7 := cbl hb7 qb1_6; have qb2_7 := cbl hb7 qb2_6; have Rr_7 := Rr_6.below hb7; have qr0_7 := cbl hb7 qr0_6; have qr1_7 := cbl hb7 qr1_6; have qr2_7 := cbl hb7 qr2_6; have hx_7 := hx_6.below hb7; have gx_7 := gx_6.below hb7; have hy_7 := hy_6.below hb7; have gy_7 := gy_6.below hb7; have hu_7 := hu_6.below hb7; have gu_7 := gu_6.below hb7; have hv_7 := hv.below hb7; have gv_7 := gv.below hb7; have HBT_7 := Below.cons HBT_6 hb7)
      | (go_at_call 73; (with_reducible refine (C2_5.out _ _ _ _ _ hk gk).mono ?_); rintro e W8 ⟨Xq, cq, rfl, hq, hb8⟩; have ha_8 := ha_7.below hb8; have hb_8 := hb_7.below hb8; have Ra_8 := Ra_7.below hb8; have qa0_8 := cbl hb8 qa0_7; have qa1_8 := cbl hb8 qa1_7; have qa2_8 := cbl hb8 qa2_7; have Rb_8 := Rb_7.below hb8; have qb0_8 := cbl hb8 qb0_7; have qb1_8 := cbl hb8 qb1_7; have qb2_8 := cbl hb8 qb2_7; have Rr_8 := Rr_7.below hb8; have qr0_8 := cbl hb8 qr0_7; have qr1_8 := cbl hb8 qr1_7; have qr2_8 := cbl hb8 qr2_7; have hx_8 := hx_7.below hb8; have gx_8 := gx_7.below hb8; have hy_8 := hy_7.below hb8; have gy_8 := gy_7.below hb8; have hu_8 := hu_7.below hb8; have gu_8 := gu_7.below hb8; have hv_8 := hv_7.below hb8; have gv_8 := gv_7.below hb8; have hk_8 := hk.below hb8; have gk_8 := gk.below hb8; have HBT_8 := Below.cons HBT_7 hb8; have fz0 := Rr_8.f (i := 0); have fz1 := Rr_8.f (i := 1); have fz2 := Rr_8.f (i := 2)))
  all_goals (try go_wp2_with (fail))
  have hzq : q = m := by rw [Eq.out, Ek.out]
  have RS := Rr_8.store3 (.bool (sg (dmn q))) (.slice Xq (nl (mg (dmn q))) cq) (.int .i64 (dex q))
  have e0 := RS.c (i := 0) rfl
  have e1 := RS.c (i := 1) rfl
  have e2 := RS.c (i := 2) rfl
  refine bodyPost_ret (v := .agg #[.bool (sg (dmn q)), .slice Xq (nl (mg (dmn q))) cq, .int .i64 (dex q)]) (by simp [results, Tryz.results27, go_sem, e0, e1, e2]) rfl ?_
  rw [← hzq]
  exact ⟨Xq, cq, rfl, (Rr_8.keep3 (nuB rfl) hq), (Below.store3 HBT_8 (by first | exact Nat.le_refl _ | omega))⟩
theorem right_c (A : Option Addr) (c a : Nat) (w : World) (hA : NatV w A c a) (ha : nl a ≤ 65536) :
    Calls Tryz.prog 112 #[.slice A (nl a) c] w fun e w' => e = .returned (.bool true) ∧ w' = w := by
  by_cases h : nl a = 0
  · rw [h]
    go_enter Tryz.func112, Tryz.ntmps112
    go_wp2_with (fail)
    go_ret
    exact ⟨rfl, rfl⟩
  · obtain ⟨k, hk⟩ : ∃ k, nl a = k + 1 := ⟨nl a - 1, by omega⟩
    obtain ⟨ad, rfl, hcx⟩ := hA.rd.get k (by show k < nl a; omega)
    have hne : gl (limbs a) k ≠ 0 := by
      have h2 := limbs_last a (fun e => h (by rw [e, nl_zero]))
      rwa [hk, Nat.add_sub_cancel] at h2
    obtain ⟨x, hx⟩ : ∃ x, x = gl (limbs a) k := ⟨_, rfl⟩
    rw [← hx] at hcx hne
    have h1 : ((nl a : Int) == 0) = false := ieqF (by omega)
    have hkI : (nl a : Int) - 1 = (k : Int) := by omega
    have hkl : k < nl a := by omega
    have h2 : ((x : Int) != 0) = true := ineT (by omega)
    have h3 : decide ((nl a : Int) ≤ 65536) = true := by simp; omega
    replace hx := Lib.hid hx
    clear hne h hk
    go_enter Tryz.func112, Tryz.ntmps112
    go_wp2_with (fail)
    go_ret
    exact ⟨rfl, rfl⟩

theorem iright_n (aA : Option Addr) (ac : Nat) (a : Int) (w : World) (ha : NatV w aA ac (mg a)) (la : nl (mg a) ≤ 65536) (h0 : a < 0) :
    Calls Tryz.prog 53 #[.agg #[.bool (sg a), .slice aA (nl (mg a)) ac]] w (fun e w' => e = .returned (.bool true) ∧ Below w.heap.size w w') := by
  have ts : sg a = true := sg_t h0
  have m0 : mg a ≠ 0 := fun k => by have := mg_zero.1 k; omega
  have t1 : ((nl (mg a) : Int) == 0) = false := ieqF (by have := nl_pos.2 m0; omega)
  have t2 : (nl (mg a) == 0) = false := by have := nl_pos.2 m0; simp; omega
  replace h0 := Lib.hid h0
  obtain ⟨hb1, Ra⟩ := bx1 w #[.bool true, .slice aA (nl (mg a)) ac] 24
  replace ha := ha.below hb1
  have HBT := hb1
  clear hb1
  have qa0 := Ra.c (i := 0) rfl
  have qa1 := Ra.c (i := 1) rfl
  go_enter Tryz.func53, Tryz.ntmps53
  go_wp2_with (fail)
  refine (Calls.mono (right_c aA ac (mg a) _ ha la) ?_)
  rintro e w' ⟨rfl, hw⟩
  subst hw
  go_wp2_with (fail)
  go_ret
  exact ⟨rfl, HBT⟩
theorem iright_z (aA : Option Addr) (ac : Nat) (a : Int) (w : World) (ha : NatV w aA ac (mg a)) (la : nl (mg a) ≤ 65536) (h0 : a = 0) :
    Calls Tryz.prog 53 #[.agg #[.bool (sg a), .slice aA (nl (mg a)) ac]] w (fun e w' => e = .returned (.bool true) ∧ Below w.heap.size w w') := by
  have ts : sg a = false := sg_f (by omega)
  replace h0 := Lib.hid h0
  obtain ⟨hb1, Ra⟩ := bx1 w #[.bool false, .slice aA (nl (mg a)) ac] 24
  replace ha := ha.below hb1
  have HBT := hb1
  clear hb1
  have qa0 := Ra.c (i := 0) rfl
  have qa1 := Ra.c (i := 1) rfl
  go_enter Tryz.func53, Tryz.ntmps53
  go_wp2_with (fail)
  refine (Calls.mono (right_c aA ac (mg a) _ ha la) ?_)
  rintro e w' ⟨rfl, hw⟩
  subst hw
  go_wp2_with (fail)
  go_ret
  exact ⟨rfl, HBT⟩
theorem iright_p (aA : Option Addr) (ac : Nat) (a : Int) (w : World) (ha : NatV w aA ac (mg a)) (la : nl (mg a) ≤ 65536) (h0 : 0 < a) :
    Calls Tryz.prog 53 #[.agg #[.bool (sg a), .slice aA (nl (mg a)) ac]] w (fun e w' => e = .returned (.bool true) ∧ Below w.heap.size w w') := by
  have ts : sg a = false := sg_f (by omega)
  replace h0 := Lib.hid h0
  obtain ⟨hb1, Ra⟩ := bx1 w #[.bool false, .slice aA (nl (mg a)) ac] 24
  replace ha := ha.below hb1
  have HBT := hb1
  clear hb1
  have qa0 := Ra.c (i := 0) rfl
  have qa1 := Ra.c (i := 1) rfl
  go_enter Tryz.func53, Tryz.ntmps53
  go_wp2_with (fail)
  refine (Calls.mono (right_c aA ac (mg a) _ ha la) ?_)
  rintro e w' ⟨rfl, hw⟩
  subst hw
  go_wp2_with (fail)
  go_ret
  exact ⟨rfl, HBT⟩
theorem iright_c (aA : Option Addr) (ac : Nat) (a : Int) (w : World) (ha : NatV w aA ac (mg a)) (la : nl (mg a) ≤ 65536) :
    Calls Tryz.prog 53 #[.agg #[.bool (sg a), .slice aA (nl (mg a)) ac]] w fun e w' => e = .returned (.bool true) ∧ Below w.heap.size w w' := by
  obtain h | h | h : a < 0 ∨ a = 0 ∨ 0 < a := by omega
  · exact iright_n aA ac a w ha la h
  · exact iright_z aA ac a w ha la h
  · exact iright_p aA ac a w ha la h
def rightD (z e : Int) : Bool := if z = 0 then e == 0 else decide (z % 2 = 1) && (decide (-100000 ≤ e) && decide (e ≤ 100000))
theorem dright_z (aA : Option Addr) (ac : Nat) (a x : Int) (w : World) (ha : NatV w aA ac (mg a)) (la : nl (mg a) ≤ 65536) (h0 : a = 0) :
    Calls Tryz.prog 7 #[.agg #[.bool (sg a), .slice aA (nl (mg a)) ac, .int .i64 x]] w (fun e w' => e = .returned (.bool (rightD a x)) ∧ Below w.heap.size w w') := by
  have hr : rightD a x = (x == 0) := by unfold rightD; rw [if_pos h0]
  have t1 : decide (0 < (nl (mg a) : Int)) = false := by rw [h0, mg0, nl_zero]; rfl
  have t2 : decide (0 < nl (mg a)) = false := by rw [h0, mg0, nl_zero]; rfl
  have t3 : ((nl (mg a) : Int) == 0) = true := ieqT (by rw [h0, mg0, nl_zero]; rfl)
  have t4 : (nl (mg a) == 0) = true := by rw [h0, mg0, nl_zero]; rfl
  rw [hr]
  clear hr
  replace h0 := Lib.hid h0
  obtain ⟨hb1, Ra⟩ := bx1 w #[.bool (sg a), .slice aA (nl (mg a)) ac, .int .i64 x] 26
  replace ha := ha.below hb1
  have HBT := hb1
  clear hb1
  have qa0 := Ra.c (i := 0) rfl
  have qa1 := Ra.c (i := 1) rfl
  have qa2 := Ra.c (i := 2) rfl
  go_enter Tryz.func7, Tryz.ntmps7
  go_wp2_with (fail)
  refine (Calls.mono (iright_c aA ac a _ ha la) ?_)
  rintro e W1 ⟨rfl, hb1⟩
  replace ha := ha.below hb1
  replace Ra := Ra.below hb1
  replace qa0 := cbl hb1 qa0
  replace qa1 := cbl hb1 qa1
  replace qa2 := cbl hb1 qa2
  replace HBT := Below.cons HBT hb1
  clear hb1
  go_wp2_with (fail)
  go_ret
  exact ⟨rfl, HBT⟩
theorem dright_e (aA : Option Addr) (ac : Nat) (a x : Int) (w : World) (ha : NatV w aA ac (mg a)) (la : nl (mg a) ≤ 65536) (h0 : a ≠ 0) (h1 : a % 2 = 0) :
    Calls Tryz.prog 7 #[.agg #[.bool (sg a), .slice aA (nl (mg a)) ac, .int .i64 x]] w (fun e w' => e = .returned (.bool (rightD a x)) ∧ Below w.heap.size w w') := by
  have m0 : mg a ≠ 0 := fun k => h0 (mg_zero.1 k)
  have t1 : decide (0 < (nl (mg a) : Int)) = true := by have := nl_pos.2 m0; simp; omega
  have t2 : decide (0 < nl (mg a)) = true := by have := nl_pos.2 m0; simp; omega
  have t3 : ((nl (mg a) : Int) == 0) = false := ieqF (by have := nl_pos.2 m0; omega)
  have t4 : (nl (mg a) == 0) = false := by have := nl_pos.2 m0; simp; omega
  have t9 := nl_pos.2 m0
  replace m0 := Lib.hid m0
  have hr : rightD a x = false := by unfold rightD; rw [if_neg h0, decide_eq_false (by omega)]; rfl
  rw [hr]
  clear hr
  replace h0 := Lib.hid h0
  obtain ⟨hb1, Ra⟩ := bx1 w #[.bool (sg a), .slice aA (nl (mg a)) ac, .int .i64 x] 26
  replace ha := ha.below hb1
  have HBT := hb1
  clear hb1
  have qa0 := Ra.c (i := 0) rfl
  have qa1 := Ra.c (i := 1) rfl
  have qa2 := Ra.c (i := 2) rfl
  go_enter Tryz.func7, Tryz.ntmps7
  go_wp2_with (fail)
  refine (Calls.mono (iright_c aA ac a _ ha la) ?_)
  rintro e W1 ⟨rfl, hb1⟩
  replace ha := ha.below hb1
  replace Ra := Ra.below hb1
  replace qa0 := cbl hb1 qa0
  replace qa1 := cbl hb1 qa1
  replace qa2 := cbl hb1 qa2
  replace HBT := Below.cons HBT hb1
  clear hb1
  obtain ⟨ad, eX, hc0⟩ := ha.rd.get 0 (by exact t9)
  obtain ⟨y, Ey⟩ : ∃ x, x = gl (limbs (mg a)) 0 := ⟨_, rfl⟩
  have hxl : y < 4294967296 := by rw [Ey]; exact (lim_limbs _).gl 0
  have hxv : y = mg a / 4294967296 ^ 0 % 4294967296 := by rw [Ey, limbs_gl]
  rw [← Ey, show ad.add 0 = ad by cases ad; simp [Addr.add]; try (split <;> simp)] at hc0
  have hod := odd_limb hxv
  have hand := and_one_u32 y hxl
  have hy : y % 2 = 0 := by simp only [decide_eq_decide] at hod; omega
  rw [hy] at hand
  replace Ey := Lib.hid Ey
  replace hxv := Lib.hid hxv
  replace hod := Lib.hid hod
  replace hy := Lib.hid hy
  replace h1 := Lib.hid h1
  subst eX
  go_wp2_with (fail)
  go_ret
  exact ⟨rfl, HBT⟩
theorem dright_o (aA : Option Addr) (ac : Nat) (a x : Int) (w : World) (ha : NatV w aA ac (mg a)) (la : nl (mg a) ≤ 65536) (h0 : a ≠ 0) (h1 : a % 2 = 1) (h2 : -100000 ≤ x) :
    Calls Tryz.prog 7 #[.agg #[.bool (sg a), .slice aA (nl (mg a)) ac, .int .i64 x]] w (fun e w' => e = .returned (.bool (rightD a x)) ∧ Below w.heap.size w w') := by
  have m0 : mg a ≠ 0 := fun k => h0 (mg_zero.1 k)
  have t1 : decide (0 < (nl (mg a) : Int)) = true := by have := nl_pos.2 m0; simp; omega
  have t2 : decide (0 < nl (mg a)) = true := by have := nl_pos.2 m0; simp; omega
  have t3 : ((nl (mg a) : Int) == 0) = false := ieqF (by have := nl_pos.2 m0; omega)
  have t4 : (nl (mg a) == 0) = false := by have := nl_pos.2 m0; simp; omega
  have t9 := nl_pos.2 m0
  replace m0 := Lib.hid m0
  have t5 : decide (-100000 ≤ x) = true := decide_eq_true h2
  have hr : rightD a x = decide (x ≤ 100000) := by unfold rightD; rw [if_neg h0, decide_eq_true h1, t5]; rfl
  rw [hr]
  clear hr
  replace h0 := Lib.hid h0
  obtain ⟨hb1, Ra⟩ := bx1 w #[.bool (sg a), .slice aA (nl (mg a)) ac, .int .i64 x] 26
  replace ha := ha.below hb1
  have HBT := hb1
  clear hb1
  have qa0 := Ra.c (i := 0) rfl
  have qa1 := Ra.c (i := 1) rfl
  have qa2 := Ra.c (i := 2) rfl
  go_enter Tryz.func7, Tryz.ntmps7
  go_wp2_with (fail)
  refine (Calls.mono (iright_c aA ac a _ ha la) ?_)
  rintro e W1 ⟨rfl, hb1⟩
  replace ha := ha.below hb1
  replace Ra := Ra.below hb1
  replace qa0 := cbl hb1 qa0
  replace qa1 := cbl hb1 qa1
  replace qa2 := cbl hb1 qa2
  replace HBT := Below.cons HBT hb1
  clear hb1
  obtain ⟨ad, eX, hc0⟩ := ha.rd.get 0 (by exact t9)
  obtain ⟨y, Ey⟩ : ∃ x, x = gl (limbs (mg a)) 0 := ⟨_, rfl⟩
  have hxl : y < 4294967296 := by rw [Ey]; exact (lim_limbs _).gl 0
  have hxv : y = mg a / 4294967296 ^ 0 % 4294967296 := by rw [Ey, limbs_gl]
  rw [← Ey, show ad.add 0 = ad by cases ad; simp [Addr.add]; try (split <;> simp)] at hc0
  have hod := odd_limb hxv
  have hand := and_one_u32 y hxl
  have hy : y % 2 = 1 := by simp only [decide_eq_decide] at hod; omega
  rw [hy] at hand
  replace Ey := Lib.hid Ey
  replace hxv := Lib.hid hxv
  replace hod := Lib.hid hod
  replace hy := Lib.hid hy
  replace h1 := Lib.hid h1
  subst eX
  go_wp2_with (fail)
  go_ret
  exact ⟨rfl, HBT⟩
theorem dright_l (aA : Option Addr) (ac : Nat) (a x : Int) (w : World) (ha : NatV w aA ac (mg a)) (la : nl (mg a) ≤ 65536) (h0 : a ≠ 0) (h1 : a % 2 = 1) (h2 : x < -100000) :
    Calls Tryz.prog 7 #[.agg #[.bool (sg a), .slice aA (nl (mg a)) ac, .int .i64 x]] w (fun e w' => e = .returned (.bool (rightD a x)) ∧ Below w.heap.size w w') := by
  have m0 : mg a ≠ 0 := fun k => h0 (mg_zero.1 k)
  have t1 : decide (0 < (nl (mg a) : Int)) = true := by have := nl_pos.2 m0; simp; omega
  have t2 : decide (0 < nl (mg a)) = true := by have := nl_pos.2 m0; simp; omega
  have t3 : ((nl (mg a) : Int) == 0) = false := ieqF (by have := nl_pos.2 m0; omega)
  have t4 : (nl (mg a) == 0) = false := by have := nl_pos.2 m0; simp; omega
  have t9 := nl_pos.2 m0
  replace m0 := Lib.hid m0
  have t5 : decide (-100000 ≤ x) = false := decide_eq_false (by omega)
  have hr : rightD a x = false := by unfold rightD; rw [if_neg h0, decide_eq_true h1, t5]; rfl
  rw [hr]
  clear hr
  replace h0 := Lib.hid h0
  obtain ⟨hb1, Ra⟩ := bx1 w #[.bool (sg a), .slice aA (nl (mg a)) ac, .int .i64 x] 26
  replace ha := ha.below hb1
  have HBT := hb1
  clear hb1
  have qa0 := Ra.c (i := 0) rfl
  have qa1 := Ra.c (i := 1) rfl
  have qa2 := Ra.c (i := 2) rfl
  go_enter Tryz.func7, Tryz.ntmps7
  go_wp2_with (fail)
  refine (Calls.mono (iright_c aA ac a _ ha la) ?_)
  rintro e W1 ⟨rfl, hb1⟩
  replace ha := ha.below hb1
  replace Ra := Ra.below hb1
  replace qa0 := cbl hb1 qa0
  replace qa1 := cbl hb1 qa1
  replace qa2 := cbl hb1 qa2
  replace HBT := Below.cons HBT hb1
  clear hb1
  obtain ⟨ad, eX, hc0⟩ := ha.rd.get 0 (by exact t9)
  obtain ⟨y, Ey⟩ : ∃ x, x = gl (limbs (mg a)) 0 := ⟨_, rfl⟩
  have hxl : y < 4294967296 := by rw [Ey]; exact (lim_limbs _).gl 0
  have hxv : y = mg a / 4294967296 ^ 0 % 4294967296 := by rw [Ey, limbs_gl]
  rw [← Ey, show ad.add 0 = ad by cases ad; simp [Addr.add]; try (split <;> simp)] at hc0
  have hod := odd_limb hxv
  have hand := and_one_u32 y hxl
  have hy : y % 2 = 1 := by simp only [decide_eq_decide] at hod; omega
  rw [hy] at hand
  replace Ey := Lib.hid Ey
  replace hxv := Lib.hid hxv
  replace hod := Lib.hid hod
  replace hy := Lib.hid hy
  replace h1 := Lib.hid h1
  subst eX
  go_wp2_with (fail)
  go_ret
  exact ⟨rfl, HBT⟩
theorem dright_c (aA : Option Addr) (ac : Nat) (a x : Int) (w : World) (ha : NatV w aA ac (mg a)) (la : nl (mg a) ≤ 65536) :
    Calls Tryz.prog 7 #[.agg #[.bool (sg a), .slice aA (nl (mg a)) ac, .int .i64 x]] w (fun e w' => e = .returned (.bool (rightD a x)) ∧ Below w.heap.size w w') := by
  by_cases h0 : a = 0
  · exact dright_z aA ac a x w ha la h0
  · by_cases h1 : a % 2 = 0
    · exact dright_e aA ac a x w ha la h0 h1
    · by_cases h2 : -100000 ≤ x
      · exact dright_o aA ac a x w ha la h0 (by omega) h2
      · exact dright_l aA ac a x w ha la h0 (by omega) (by omega)
theorem zright_n (aA : Option Addr) (ac : Nat) (a : Int) (w : World) (ha : NatV w aA ac (mg a)) (la : nl (mg a) ≤ 65536) (h0 : a < 0) :
    Calls Tryz.prog 54 #[.agg #[.bool (sg a), .slice aA (nl (mg a)) ac]] w (fun e w' => e = .returned (.bool true) ∧ Below w.heap.size w w') := by
  have ts : sg a = true := sg_t h0
  have m0 : mg a ≠ 0 := fun k => by have := mg_zero.1 k; omega
  have t1 : ((nl (mg a) : Int) == 0) = false := ieqF (by have := nl_pos.2 m0; omega)
  have t2 : (nl (mg a) == 0) = false := by have := nl_pos.2 m0; simp; omega
  have t5 : decide (0 < (nl (mg a) : Int)) = true := by have := nl_pos.2 m0; simp; omega
  have t6 : decide (0 < nl (mg a)) = true := by have := nl_pos.2 m0; simp; omega
  replace h0 := Lib.hid h0
  obtain ⟨hb1, Ra⟩ := bx1 w #[.bool true, .slice aA (nl (mg a)) ac] 24
  replace ha := ha.below hb1
  have HBT := hb1
  clear hb1
  have qa0 := Ra.c (i := 0) rfl
  have qa1 := Ra.c (i := 1) rfl
  go_enter Tryz.func54, Tryz.ntmps54
  go_wp2_with (fail)
  refine (Calls.mono (rright_c aA ac (mg a) _ ha la) ?_)
  rintro e w' ⟨rfl, hw⟩
  subst hw
  go_wp2_with (fail)
  go_ret
  exact ⟨rfl, HBT⟩
theorem zright_z (aA : Option Addr) (ac : Nat) (a : Int) (w : World) (ha : NatV w aA ac (mg a)) (la : nl (mg a) ≤ 65536) (h0 : a = 0) :
    Calls Tryz.prog 54 #[.agg #[.bool (sg a), .slice aA (nl (mg a)) ac]] w (fun e w' => e = .returned (.bool true) ∧ Below w.heap.size w w') := by
  have ts : sg a = false := sg_f (by omega)
  replace h0 := Lib.hid h0
  obtain ⟨hb1, Ra⟩ := bx1 w #[.bool false, .slice aA (nl (mg a)) ac] 24
  replace ha := ha.below hb1
  have HBT := hb1
  clear hb1
  have qa0 := Ra.c (i := 0) rfl
  have qa1 := Ra.c (i := 1) rfl
  go_enter Tryz.func54, Tryz.ntmps54
  go_wp2_with (fail)
  refine (Calls.mono (rright_c aA ac (mg a) _ ha la) ?_)
  rintro e w' ⟨rfl, hw⟩
  subst hw
  go_wp2_with (fail)
  go_ret
  exact ⟨rfl, HBT⟩
theorem zright_p (aA : Option Addr) (ac : Nat) (a : Int) (w : World) (ha : NatV w aA ac (mg a)) (la : nl (mg a) ≤ 65536) (h0 : 0 < a) :
    Calls Tryz.prog 54 #[.agg #[.bool (sg a), .slice aA (nl (mg a)) ac]] w (fun e w' => e = .returned (.bool true) ∧ Below w.heap.size w w') := by
  have ts : sg a = false := sg_f (by omega)
  replace h0 := Lib.hid h0
  obtain ⟨hb1, Ra⟩ := bx1 w #[.bool false, .slice aA (nl (mg a)) ac] 24
  replace ha := ha.below hb1
  have HBT := hb1
  clear hb1
  have qa0 := Ra.c (i := 0) rfl
  have qa1 := Ra.c (i := 1) rfl
  go_enter Tryz.func54, Tryz.ntmps54
  go_wp2_with (fail)
  refine (Calls.mono (rright_c aA ac (mg a) _ ha la) ?_)
  rintro e w' ⟨rfl, hw⟩
  subst hw
  go_wp2_with (fail)
  go_ret
  exact ⟨rfl, HBT⟩
theorem zright_c (aA : Option Addr) (ac : Nat) (a : Int) (w : World) (ha : NatV w aA ac (mg a)) (la : nl (mg a) ≤ 65536) :
    Calls Tryz.prog 54 #[.agg #[.bool (sg a), .slice aA (nl (mg a)) ac]] w fun e w' => e = .returned (.bool true) ∧ Below w.heap.size w w' := by
  obtain h | h | h : a < 0 ∨ a = 0 ∨ 0 < a := by omega
  · exact zright_n aA ac a w ha la h
  · exact zright_z aA ac a w ha la h
  · exact zright_p aA ac a w ha la h
theorem tright_z (aA : Option Addr) (ac : Nat) (a x : Int) (w : World) (ha : NatV w aA ac (mg a)) (la : nl (mg a) ≤ 65536) (h0 : a = 0) :
    Calls Tryz.prog 8 #[.agg #[.bool (sg a), .slice aA (nl (mg a)) ac, .int .i64 x]] w (fun e w' => e = .returned (.bool (rightD a x)) ∧ Below w.heap.size w w') := by
  have hr : rightD a x = (x == 0) := by unfold rightD; rw [if_pos h0]
  have t1 : decide (0 < (nl (mg a) : Int)) = false := by rw [h0, mg0, nl_zero]; rfl
  have t2 : decide (0 < nl (mg a)) = false := by rw [h0, mg0, nl_zero]; rfl
  have t3 : ((nl (mg a) : Int) == 0) = true := ieqT (by rw [h0, mg0, nl_zero]; rfl)
  have t4 : (nl (mg a) == 0) = true := by rw [h0, mg0, nl_zero]; rfl
  rw [hr]
  clear hr
  replace h0 := Lib.hid h0
  obtain ⟨hb1, Ra⟩ := bx1 w #[.bool (sg a), .slice aA (nl (mg a)) ac, .int .i64 x] 26
  replace ha := ha.below hb1
  have HBT := hb1
  clear hb1
  have qa0 := Ra.c (i := 0) rfl
  have qa1 := Ra.c (i := 1) rfl
  have qa2 := Ra.c (i := 2) rfl
  go_enter Tryz.func8, Tryz.ntmps8
  go_wp2_with (fail)
  refine (Calls.mono (zright_c aA ac a _ ha la) ?_)
  rintro e W1 ⟨rfl, hb1⟩
  replace ha := ha.below hb1
  replace Ra := Ra.below hb1
  replace qa0 := cbl hb1 qa0
  replace qa1 := cbl hb1 qa1
  replace qa2 := cbl hb1 qa2
  replace HBT := Below.cons HBT hb1
  clear hb1
  go_wp2_with (fail)
  go_ret
  exact ⟨rfl, HBT⟩
theorem tright_e (aA : Option Addr) (ac : Nat) (a x : Int) (w : World) (ha : NatV w aA ac (mg a)) (la : nl (mg a) ≤ 65536) (h0 : a ≠ 0) (h1 : a % 2 = 0) :
    Calls Tryz.prog 8 #[.agg #[.bool (sg a), .slice aA (nl (mg a)) ac, .int .i64 x]] w (fun e w' => e = .returned (.bool (rightD a x)) ∧ Below w.heap.size w w') := by
  have m0 : mg a ≠ 0 := fun k => h0 (mg_zero.1 k)
  have t1 : decide (0 < (nl (mg a) : Int)) = true := by have := nl_pos.2 m0; simp; omega
  have t2 : decide (0 < nl (mg a)) = true := by have := nl_pos.2 m0; simp; omega
  have t3 : ((nl (mg a) : Int) == 0) = false := ieqF (by have := nl_pos.2 m0; omega)
  have t4 : (nl (mg a) == 0) = false := by have := nl_pos.2 m0; simp; omega
  have t9 := nl_pos.2 m0
  replace m0 := Lib.hid m0
  have hr : rightD a x = false := by unfold rightD; rw [if_neg h0, decide_eq_false (by omega)]; rfl
  rw [hr]
  clear hr
  replace h0 := Lib.hid h0
  obtain ⟨hb1, Ra⟩ := bx1 w #[.bool (sg a), .slice aA (nl (mg a)) ac, .int .i64 x] 26
  replace ha := ha.below hb1
  have HBT := hb1
  clear hb1
  have qa0 := Ra.c (i := 0) rfl
  have qa1 := Ra.c (i := 1) rfl
  have qa2 := Ra.c (i := 2) rfl
  go_enter Tryz.func8, Tryz.ntmps8
  go_wp2_with (fail)
  refine (Calls.mono (zright_c aA ac a _ ha la) ?_)
  rintro e W1 ⟨rfl, hb1⟩
  replace ha := ha.below hb1
  replace Ra := Ra.below hb1
  replace qa0 := cbl hb1 qa0
  replace qa1 := cbl hb1 qa1
  replace qa2 := cbl hb1 qa2
  replace HBT := Below.cons HBT hb1
  clear hb1
  obtain ⟨ad, eX, hc0⟩ := ha.rd.get 0 (by exact t9)
  obtain ⟨y, Ey⟩ : ∃ x, x = gl (limbs (mg a)) 0 := ⟨_, rfl⟩
  have hxl : y < 4294967296 := by rw [Ey]; exact (lim_limbs _).gl 0
  have hxv : y = mg a / 4294967296 ^ 0 % 4294967296 := by rw [Ey, limbs_gl]
  rw [← Ey, show ad.add 0 = ad by cases ad; simp [Addr.add]; try (split <;> simp)] at hc0
  have hod := odd_limb hxv
  have hand := and_one_u32 y hxl
  have hy : y % 2 = 0 := by simp only [decide_eq_decide] at hod; omega
  have hm : (y : Int) % 2 = 0 := by omega
  have hm2 : Int.tmod (y : Int) 2 = 0 := by rw [Int.tmod_eq_emod_of_nonneg (Int.natCast_nonneg y)]; exact hm
  clear hand
  replace Ey := Lib.hid Ey
  replace hxv := Lib.hid hxv
  replace hod := Lib.hid hod
  replace hy := Lib.hid hy
  replace h1 := Lib.hid h1
  subst eX
  go_wp2_with (fail)
  go_ret
  exact ⟨rfl, HBT⟩
theorem tright_o (aA : Option Addr) (ac : Nat) (a x : Int) (w : World) (ha : NatV w aA ac (mg a)) (la : nl (mg a) ≤ 65536) (h0 : a ≠ 0) (h1 : a % 2 = 1) (h2 : -100000 ≤ x) :
    Calls Tryz.prog 8 #[.agg #[.bool (sg a), .slice aA (nl (mg a)) ac, .int .i64 x]] w (fun e w' => e = .returned (.bool (rightD a x)) ∧ Below w.heap.size w w') := by
  have m0 : mg a ≠ 0 := fun k => h0 (mg_zero.1 k)
  have t1 : decide (0 < (nl (mg a) : Int)) = true := by have := nl_pos.2 m0; simp; omega
  have t2 : decide (0 < nl (mg a)) = true := by have := nl_pos.2 m0; simp; omega
  have t3 : ((nl (mg a) : Int) == 0) = false := ieqF (by have := nl_pos.2 m0; omega)
  have t4 : (nl (mg a) == 0) = false := by have := nl_pos.2 m0; simp; omega
  have t9 := nl_pos.2 m0
  replace m0 := Lib.hid m0
  have t5 : decide (-100000 ≤ x) = true := decide_eq_true h2
  have hr : rightD a x = decide (x ≤ 100000) := by unfold rightD; rw [if_neg h0, decide_eq_true h1, t5]; rfl
  rw [hr]
  clear hr
  replace h0 := Lib.hid h0
  obtain ⟨hb1, Ra⟩ := bx1 w #[.bool (sg a), .slice aA (nl (mg a)) ac, .int .i64 x] 26
  replace ha := ha.below hb1
  have HBT := hb1
  clear hb1
  have qa0 := Ra.c (i := 0) rfl
  have qa1 := Ra.c (i := 1) rfl
  have qa2 := Ra.c (i := 2) rfl
  go_enter Tryz.func8, Tryz.ntmps8
  go_wp2_with (fail)
  refine (Calls.mono (zright_c aA ac a _ ha la) ?_)
  rintro e W1 ⟨rfl, hb1⟩
  replace ha := ha.below hb1
  replace Ra := Ra.below hb1
  replace qa0 := cbl hb1 qa0
  replace qa1 := cbl hb1 qa1
  replace qa2 := cbl hb1 qa2
  replace HBT := Below.cons HBT hb1
  clear hb1
  obtain ⟨ad, eX, hc0⟩ := ha.rd.get 0 (by exact t9)
  obtain ⟨y, Ey⟩ : ∃ x, x = gl (limbs (mg a)) 0 := ⟨_, rfl⟩
  have hxl : y < 4294967296 := by rw [Ey]; exact (lim_limbs _).gl 0
  have hxv : y = mg a / 4294967296 ^ 0 % 4294967296 := by rw [Ey, limbs_gl]
  rw [← Ey, show ad.add 0 = ad by cases ad; simp [Addr.add]; try (split <;> simp)] at hc0
  have hod := odd_limb hxv
  have hand := and_one_u32 y hxl
  have hy : y % 2 = 1 := by simp only [decide_eq_decide] at hod; omega
  have hm : (y : Int) % 2 = 1 := by omega
  have hm2 : Int.tmod (y : Int) 2 = 1 := by rw [Int.tmod_eq_emod_of_nonneg (Int.natCast_nonneg y)]; exact hm
  clear hand
  replace Ey := Lib.hid Ey
  replace hxv := Lib.hid hxv
  replace hod := Lib.hid hod
  replace hy := Lib.hid hy
  replace h1 := Lib.hid h1
  subst eX
  go_wp2_with (fail)
  go_ret
  exact ⟨rfl, HBT⟩
theorem tright_l (aA : Option Addr) (ac : Nat) (a x : Int) (w : World) (ha : NatV w aA ac (mg a)) (la : nl (mg a) ≤ 65536) (h0 : a ≠ 0) (h1 : a % 2 = 1) (h2 : x < -100000) :
    Calls Tryz.prog 8 #[.agg #[.bool (sg a), .slice aA (nl (mg a)) ac, .int .i64 x]] w (fun e w' => e = .returned (.bool (rightD a x)) ∧ Below w.heap.size w w') := by
  have m0 : mg a ≠ 0 := fun k => h0 (mg_zero.1 k)
  have t1 : decide (0 < (nl (mg a) : Int)) = true := by have := nl_pos.2 m0; simp; omega
  have t2 : decide (0 < nl (mg a)) = true := by have := nl_pos.2 m0; simp; omega
  have t3 : ((nl (mg a) : Int) == 0) = false := ieqF (by have := nl_pos.2 m0; omega)
  have t4 : (nl (mg a) == 0) = false := by have := nl_pos.2 m0; simp; omega
  have t9 := nl_pos.2 m0
  replace m0 := Lib.hid m0
  have t5 : decide (-100000 ≤ x) = false := decide_eq_false (by omega)
  have hr : rightD a x = false := by unfold rightD; rw [if_neg h0, decide_eq_true h1, t5]; rfl
  rw [hr]
  clear hr
  replace h0 := Lib.hid h0
  obtain ⟨hb1, Ra⟩ := bx1 w #[.bool (sg a), .slice aA (nl (mg a)) ac, .int .i64 x] 26
  replace ha := ha.below hb1
  have HBT := hb1
  clear hb1
  have qa0 := Ra.c (i := 0) rfl
  have qa1 := Ra.c (i := 1) rfl
  have qa2 := Ra.c (i := 2) rfl
  go_enter Tryz.func8, Tryz.ntmps8
  go_wp2_with (fail)
  refine (Calls.mono (zright_c aA ac a _ ha la) ?_)
  rintro e W1 ⟨rfl, hb1⟩
  replace ha := ha.below hb1
  replace Ra := Ra.below hb1
  replace qa0 := cbl hb1 qa0
  replace qa1 := cbl hb1 qa1
  replace qa2 := cbl hb1 qa2
  replace HBT := Below.cons HBT hb1
  clear hb1
  obtain ⟨ad, eX, hc0⟩ := ha.rd.get 0 (by exact t9)
  obtain ⟨y, Ey⟩ : ∃ x, x = gl (limbs (mg a)) 0 := ⟨_, rfl⟩
  have hxl : y < 4294967296 := by rw [Ey]; exact (lim_limbs _).gl 0
  have hxv : y = mg a / 4294967296 ^ 0 % 4294967296 := by rw [Ey, limbs_gl]
  rw [← Ey, show ad.add 0 = ad by cases ad; simp [Addr.add]; try (split <;> simp)] at hc0
  have hod := odd_limb hxv
  have hand := and_one_u32 y hxl
  have hy : y % 2 = 1 := by simp only [decide_eq_decide] at hod; omega
  have hm : (y : Int) % 2 = 1 := by omega
  have hm2 : Int.tmod (y : Int) 2 = 1 := by rw [Int.tmod_eq_emod_of_nonneg (Int.natCast_nonneg y)]; exact hm
  clear hand
  replace Ey := Lib.hid Ey
  replace hxv := Lib.hid hxv
  replace hod := Lib.hid hod
  replace hy := Lib.hid hy
  replace h1 := Lib.hid h1
  subst eX
  go_wp2_with (fail)
  go_ret
  exact ⟨rfl, HBT⟩
theorem tright_c (aA : Option Addr) (ac : Nat) (a x : Int) (w : World) (ha : NatV w aA ac (mg a)) (la : nl (mg a) ≤ 65536) :
    Calls Tryz.prog 8 #[.agg #[.bool (sg a), .slice aA (nl (mg a)) ac, .int .i64 x]] w (fun e w' => e = .returned (.bool (rightD a x)) ∧ Below w.heap.size w w') := by
  by_cases h0 : a = 0
  · exact tright_z aA ac a x w ha la h0
  · by_cases h1 : a % 2 = 0
    · exact tright_e aA ac a x w ha la h0 h1
    · by_cases h2 : -100000 ≤ x
      · exact tright_o aA ac a x w ha la h0 (by omega) h2
      · exact tright_l aA ac a x w ha la h0 (by omega) (by omega)
end Go.Proofs.YthcmoimlnhghcaaGreatDoor

namespace Go.Proofs.YthcmoimlnhghcaaGreatDoor

end Go.Proofs.YthcmoimlnhghcaaGreatDoor

namespace Go.Proofs.YthcmoimlnhghcaaGreatDoor
open Go.RowKit Go.Shelf
attribute [local go_sem] max2_i min2_i max_two min_two

def RetDr (w : World) (z x : Int) (e : Ending) (w' : World) : Prop := ∃ A c, e = .returned (.agg #[.bool (sg z), .slice A (nl (mg z)) c, .int .i64 x]) ∧ NatV w' A c (mg z) ∧ Below w.heap.size w w'
theorem retDr_nz {w w' : World} {z x : Int} {e : Ending} (h : RetDr w z x e w') (hn : Nz z x) : RetD w (dval z x) e w' := by
  obtain ⟨A, c, h1, h2, h3⟩ := h
  obtain ⟨k1, k2⟩ := form_of_nz hn
  exact ⟨A, c, by rw [k1, k2]; exact h1, by rw [k1]; exact h2, h3⟩
theorem ld_c (z x : Int) (w : World) (h0 : -9223372036854775808 ≤ z) (h1 : z < 9223372036854775808) :
    Calls Tryz.prog 50 #[.int .i64 z, .int .i64 x] w (RetDr w z x) := by
  obtain ⟨hb1, Rr⟩ := bx1 w #[.bool false, .slice none 0 0, .int .i64 0] 26
  have HBT := hb1
  clear hb1
  have qr0 := Rr.c (i := 0) rfl
  have qr1 := Rr.c (i := 1) rfl
  have qr2 := Rr.c (i := 2) rfl
  go_enter Tryz.func50, Tryz.ntmps50
  go_wp2_with (fail)
  obtain ⟨v, Ev⟩ : ∃ zq : Int, zq = z := ⟨_, rfl⟩
  refine (Calls.mono (R := RetI (w.alloc (.cells #[.bool false, .slice none 0 0, .int .i64 0] 26)) v) (by rw [Ev]; with_reducible exact (zof_c z _ h0 h1)) ?_)
  replace Ev := Lib.hid Ev
  rintro e W2 ⟨Xv, cv, rfl, hv, hb2⟩
  replace Rr := Rr.below hb2
  replace qr0 := cbl hb2 qr0
  replace qr1 := cbl hb2 qr1
  replace qr2 := cbl hb2 qr2
  replace HBT := Below.cons HBT hb2
  clear hb2
  have fzr0 := Rr.f (i := 0)
  have fzr1 := Rr.f (i := 1)
  have fzr2 := Rr.f (i := 2)
  go_wp2_with (fail)
  have hzv : v = z := by exact Ev.out
  subst hzv
  have RS := Rr.store3 (.bool (sg v)) (.slice Xv (nl (mg v)) cv) (.int .i64 x)
  have e0 := RS.c (i := 0) rfl
  have e1 := RS.c (i := 1) rfl
  have e2 := RS.c (i := 2) rfl
  refine bodyPost_ret (v := .agg #[.bool (sg v), .slice Xv (nl (mg v)) cv, .int .i64 x]) (by simp [results, Tryz.results50, go_sem, e0, e1, e2]) rfl ?_
  exact ⟨Xv, cv, rfl, (Rr.keep3 (nuB rfl) hv), (Below.store3 HBT (by first | exact Nat.le_refl _ | omega))⟩
theorem lq_c (n m : Int) (w : World) (n0 : -1000000 ≤ n) (n1 : n ≤ 1000000) (m0 : 0 < m) (m1 : m ≤ 1000000) :
    Calls Tryz.prog 48 #[.int .i64 n, .int .i64 m] w (RetR w (Rat.divInt n m)) := by
  obtain ⟨y, Ey⟩ : ∃ z : Rat, z = Rat.divInt n m := ⟨_, rfl⟩
  rw [← Ey]
  replace Ey := Lib.hid Ey
  obtain ⟨hb1, Rr⟩ := bx1 w #[.bool false, .slice none 0 0, .slice none 0 0] 41
  have HBT := hb1
  clear hb1
  have qr0 := Rr.c (i := 0) rfl
  have qr1 := Rr.c (i := 1) rfl
  have qr2 := Rr.c (i := 2) rfl
  go_enter Tryz.func48, Tryz.ntmps48
  go_wp2_with (fail)
  obtain ⟨u, Eu⟩ : ∃ zq : Int, zq = n := ⟨_, rfl⟩
  have Nu : nl (mg u) ≤ 1 := by rw [Eu]; exact nl_le.2 (by unfold mg; omega)
  refine (Calls.mono (R := RetI (w.alloc (.cells #[.bool false, .slice none 0 0, .slice none 0 0] 41)) u) (by rw [Eu]; with_reducible exact (zof_c n _ (by omega) (by omega))) ?_)
  replace Eu := Lib.hid Eu
  rintro e W2 ⟨Xu, cu, rfl, hu, hb2⟩
  replace Rr := Rr.below hb2
  replace qr0 := cbl hb2 qr0
  replace qr1 := cbl hb2 qr1
  replace qr2 := cbl hb2 qr2
  replace HBT := Below.cons HBT hb2
  clear hb2
  go_wp2_with (fail)
  obtain ⟨v, Ev⟩ : ∃ zq : Int, zq = m := ⟨_, rfl⟩
  have Nv : nl (mg v) ≤ 1 := by rw [Ev]; exact nl_le.2 (by unfold mg; omega)
  have pv : 0 < v := by omega
  refine (Calls.mono (R := RetI W2 v) (by rw [Ev]; with_reducible exact (zof_c m _ (by omega) (by omega))) ?_)
  replace Ev := Lib.hid Ev
  rintro e W3 ⟨Xv, cv, rfl, hv, hb3⟩
  replace Rr := Rr.below hb3
  replace qr0 := cbl hb3 qr0
  replace qr1 := cbl hb3 qr1
  replace qr2 := cbl hb3 qr2
  replace hu := hu.below hb3
  replace HBT := Below.cons HBT hb3
  clear hb3
  go_wp2_with (fail)
  obtain ⟨q, Eq⟩ : ∃ zq : Rat, zq = Rat.divInt u v := ⟨_, rfl⟩
  have CT4 := (r9make_c Xu cu u Xv cv v _ hu hv (by omega) (by omega) pv)
  rw [← Eq] at CT4
  replace Eq := Lib.hid Eq
  replace CT4 := Lib.hid CT4
  refine (Calls.mono CT4.out ?_)
  clear CT4
  rintro e W4 ⟨Xq, cq, Yq, dq, rfl, hq, gq, hb4⟩
  replace Rr := Rr.below hb4
  replace qr0 := cbl hb4 qr0
  replace qr1 := cbl hb4 qr1
  replace qr2 := cbl hb4 qr2
  replace hu := hu.below hb4
  replace hv := hv.below hb4
  replace HBT := Below.cons HBT hb4
  clear hb4
  obtain ⟨hb5, Rq⟩ := bx1 W4 #[.bool (sg q.num), .slice Xq (nl (mg q.num)) cq, .slice Yq (nl q.den) dq] 41
  replace Rr := Rr.below hb5
  replace qr0 := cbl hb5 qr0
  replace qr1 := cbl hb5 qr1
  replace qr2 := cbl hb5 qr2
  replace hu := hu.below hb5
  replace hv := hv.below hb5
  replace hq := hq.below hb5
  replace gq := gq.below hb5
  replace HBT := Below.cons HBT hb5
  clear hb5
  have qq0 := Rq.c (i := 0) rfl
  have qq1 := Rq.c (i := 1) rfl
  have qq2 := Rq.c (i := 2) rfl
  have fzr0 := Rr.f (i := 0)
  have fzr1 := Rr.f (i := 1)
  have fzr2 := Rr.f (i := 2)
  go_wp2_with (fail)
  have hzq : q = y := by rw [Eq.out, Eu.out, Ev.out, Ey.out]
  subst hzq
  have RS := Rr.store3 (.bool (sg q.num)) (.slice Xq (nl (mg q.num)) cq) (.slice Yq (nl q.den) dq)
  have e0 := RS.c (i := 0) rfl
  have e1 := RS.c (i := 1) rfl
  have e2 := RS.c (i := 2) rfl
  refine bodyPost_ret (v := .agg #[.bool (sg q.num), .slice Xq (nl (mg q.num)) cq, .slice Yq (nl q.den) dq]) (by simp [results, Tryz.results48, go_sem, e0, e1, e2]) rfl ?_
  exact ⟨Xq, cq, Yq, dq, rfl, (Rr.keep3 (nuB rfl) hq), (Rr.keep3 (nuB rfl) gq), (Below.store3 HBT (by first | exact Nat.le_refl _ | omega))⟩
end Go.Proofs.YthcmoimlnhghcaaGreatDoor

namespace Go.Proofs.YthcmoimlnhghcaaGreatDoor

theorem dbl (x : Rat) : x + x = 2 * x := by grind
end Go.Proofs.YthcmoimlnhghcaaGreatDoor

namespace Go.Proofs.YthcmoimlnhghcaaGreatDoor
open Go.RowKit Go.Shelf
attribute [local go_sem] max2_i min2_i max_two min_two

theorem PBR.put {W W' : World} {u : Value} {q : Rat} {n0 k : Nat} (h : PBR n0 u q W) (hp : Put W W' k) (hne : u ≠ .pointer (some ⟨k, 0, none⟩)) : PBR n0 u q W' := by
  obtain ⟨nb, X, c, Y, d, h1, h2, h3, h4, h5⟩ := h
  exact ⟨nb, X, c, Y, d, h1, h2, ⟨(hp.far nb (fun e => hne (by rw [h1, e]))).trans h3.at_⟩, hp.nat h4, hp.nat h5⟩
end Go.Proofs.YthcmoimlnhghcaaGreatDoor

namespace Go.Proofs.YthcmoimlnhghcaaGreatDoor
open Go.RowKit Go.Shelf

structure DB (q : Rat) (l E : Nat) : Prop where
  d : Dyd q
  l : nl (mg (dmn q)) ≤ l
  e : -(E : Int) ≤ dex q ∧ dex q ≤ E
theorem DB.ok {q : Rat} {l E : Nat} (h : DB q l E) (hl : l ≤ 100000) (hE : E ≤ 1000000) : DOk q := ⟨h.d, by have := h.l; omega, by have := h.e; omega⟩
theorem DB.mono {q : Rat} {l E l2 E2 : Nat} (h : DB q l E) (hl : l ≤ l2) (hE : E ≤ E2) : DB q l2 E2 := ⟨h.d, by have := h.l; omega, by have := h.e; omega⟩
theorem db_val {z e : Int} {l E : Nat} (hl : nl (mg z) ≤ l) (he : -(E : Int) ≤ e ∧ e ≤ E) : DB (dval z e) l (E + 32 * l) := by
  obtain ⟨h1, h2⟩ := form_bd z e
  refine ⟨dyd_val z e, by omega, ?_⟩
  omega
theorem db_neg {q : Rat} {l E : Nat} (h : DB q l E) : DB (-q) l E := by
  obtain ⟨h1, h2⟩ := form_neg h.d
  exact ⟨dyd_neg h.d, by rw [h1, mg_neg]; exact h.l, by rw [h2]; exact h.e⟩
theorem nl_shf_b {z d : Int} {l D : Nat} (h : nl (mg z) ≤ l) (h0 : 0 ≤ d) (h1 : d ≤ D) : nl (mg (shf z d)) ≤ l + (D / 32 + 1) := by
  obtain ⟨k, rfl⟩ := Int.eq_ofNat_of_zero_le h0
  unfold shf
  rw [if_pos h0, Int.toNat_natCast, mg_mul]
  have e : mg ((2 : Int) ^ k) = 2 ^ k := by unfold mg; rw [Int.natAbs_pow]; rfl
  rw [e]
  have h2 := nl_mul (mg z) (2 ^ k)
  rw [nl_two_pow] at h2
  have h3 : k / 32 ≤ D / 32 := Nat.div_le_div_right (by omega)
  omega
theorem db_add {a b : Rat} {l E : Nat} (ha : DB a l E) (hb : DB b l E) : DB (a + b) (l + E / 16 + 3) (E + 32 * (l + E / 16 + 3)) := by
  have h1 := ha.e
  have h2 := hb.e
  obtain ⟨F, hF⟩ : ∃ F, F = min (dex a) (dex b) := ⟨_, rfl⟩
  have hs : a + b = dval (shf (dmn a) (dex a - F) + shf (dmn b) (dex b - F)) F := by
    rw [dval_add, lev ha.d (by omega), lev hb.d (by omega)]
  have n1 := nl_shf_b ha.l (d := dex a - F) (D := 2 * E) (by omega) (by omega)
  have n2 := nl_shf_b hb.l (d := dex b - F) (D := 2 * E) (by omega) (by omega)
  have h3 := nl_add (mg (shf (dmn a) (dex a - F))) (mg (shf (dmn b) (dex b - F)))
  have h4 : nl (mg (shf (dmn a) (dex a - F) + shf (dmn b) (dex b - F))) ≤ nl (mg (shf (dmn a) (dex a - F)) + mg (shf (dmn b) (dex b - F))) := nl_mono (Int.natAbs_add_le _ _)
  rw [hs]
  exact db_val (by omega) (by omega)
theorem db_sub {a b : Rat} {l E : Nat} (ha : DB a l E) (hb : DB b l E) : DB (a - b) (l + E / 16 + 3) (E + 32 * (l + E / 16 + 3)) := by
  rw [Rat.sub_eq_add_neg]; exact db_add ha (db_neg hb)
theorem dmul_val2 {a b : Rat} (ha : Dyd a) (hb : Dyd b) : dval (dmn a * dmn b) (dex a + dex b) = a * b := by
  conv => rhs; rw [← dval_q ha, ← dval_q hb]
  unfold dval
  rw [Rat.intCast_mul, zp_add]
  generalize ((dmn a : Int) : Rat) = x
  generalize ((dmn b : Int) : Rat) = y
  generalize (2 : Rat) ^ dex a = u
  generalize (2 : Rat) ^ dex b = v
  grind
theorem db_mul {a b : Rat} {l E m F : Nat} (ha : DB a l E) (hb : DB b m F) : DB (a * b) (l + m) (E + F + 32 * (l + m)) := by
  have h1 := ha.e
  have h2 := hb.e
  rw [← dmul_val2 ha.d hb.d]
  refine db_val ?_ (by omega)
  rw [mg_mul]
  have := nl_mul (mg (dmn a)) (mg (dmn b))
  have h3 := ha.l
  have h4 := hb.l
  omega
theorem db_half {a : Rat} {l E : Nat} (ha : DB a l E) : DB (a * (1 / 2)) l (E + 1 + 32 * l) := by
  have h1 := ha.e
  have e := dval_half (dmn a) (dex a)
  rw [dval_q ha.d] at e
  rw [← e]
  exact db_val ha.l (by omega)
theorem pow_szb (n : Int) {E : Nat} (h : -(E : Int) ≤ n ∧ n ≤ E) : nl (mg ((2 : Rat) ^ n).num) ≤ E / 32 + 1 ∧ nl ((2 : Rat) ^ n).den ≤ E / 32 + 1 := by
  rcases Int.lt_or_le n 0 with hn | hn
  · obtain ⟨k, rfl⟩ := Int.exists_eq_neg_ofNat (show n ≤ 0 by omega)
    rw [← pow_mk]
    have h0 : (2 ^ k : Nat) ≠ 0 := Nat.pos_iff_ne_zero.1 (Nat.two_pow_pos k)
    rw [Rat.num_mkRat, Rat.den_mkRat, if_neg h0, if_neg h0]
    have hd := nl_div (2 ^ k) (Nat.gcd (2 ^ k) (Int.natAbs 1))
    have hp := nl_two_pow k
    have hm : mg (1 / ((Nat.gcd (2 ^ k) (Int.natAbs 1) : Nat) : Int)) ≤ 1 := Int.natAbs_ediv_le_natAbs 1 _
    have h1 := nl_mono hm
    rw [nl_one] at h1
    have h3 : k / 32 ≤ E / 32 := Nat.div_le_div_right (by omega)
    constructor
    · omega
    · omega
  · obtain ⟨k, rfl⟩ := Int.eq_ofNat_of_zero_le hn
    rw [← pow_up, Rat.num_intCast, Rat.den_intCast, shf_one, mg_nat, nl_two_pow, nl_one]
    have h3 : k / 32 ≤ E / 32 := Nat.div_le_div_right (by omega)
    constructor <;> omega
theorem right_form {q : Rat} (h : -100000 ≤ dex q ∧ dex q ≤ 100000) : rightD (dmn q) (dex q) = true := by
  unfold rightD
  rcases nz_q q with k | ⟨k1, k2⟩
  · rw [if_neg (by omega), decide_eq_true k, decide_eq_true h.1, decide_eq_true h.2]; rfl
  · rw [if_pos k1, k2]; rfl
def PD (u : Value) (q : Rat) (W : World) : Prop := ∃ X c, u = .agg #[.bool (sg (dmn q)), .slice X (nl (mg (dmn q))) c, .int .i64 (dex q)] ∧ NatV W X c (mg (dmn q))
def PBD (n0 : Nat) (u : Value) (q : Rat) (W : World) : Prop := ∃ nb X c, u = .pointer (some ⟨nb, 0, none⟩) ∧ n0 ≤ nb ∧ BoxA W nb 26 #[.bool (sg (dmn q)), .slice X (nl (mg (dmn q))) c, .int .i64 (dex q)] ∧ NatV W X c (mg (dmn q))
theorem PD.below {W W' : World} {u : Value} {q : Rat} (h : PD u q W) (hb : Below W.heap.size W W') : PD u q W' := by
  obtain ⟨X, c, h1, h2⟩ := h; exact ⟨X, c, h1, h2.below hb⟩
theorem PD.put {W W' : World} {u : Value} {q : Rat} {k : Nat} (h : PD u q W) (hp : Put W W' k) : PD u q W' := by
  obtain ⟨X, c, h1, h2⟩ := h; exact ⟨X, c, h1, hp.nat h2⟩
theorem PBD.below {W W' : World} {u : Value} {q : Rat} {n0 : Nat} (h : PBD n0 u q W) (hb : Below W.heap.size W W') : PBD n0 u q W' := by
  obtain ⟨nb, X, c, h1, h2, h3, h4⟩ := h; exact ⟨nb, X, c, h1, h2, h3.below hb, h4.below hb⟩
theorem PBD.put {W W' : World} {u : Value} {q : Rat} {n0 k : Nat} (h : PBD n0 u q W) (hp : Put W W' k) (hne : u ≠ .pointer (some ⟨k, 0, none⟩)) : PBD n0 u q W' := by
  obtain ⟨nb, X, c, h1, h2, h3, h4⟩ := h
  exact ⟨nb, X, c, h1, h2, ⟨(hp.far nb (fun e => hne (by rw [h1, e]))).trans h3.at_⟩, hp.nat h4⟩
theorem tsameT_c (aA : Option Addr) (ac : Nat) (a : Rat) (bA : Option Addr) (bc : Nat) (b : Rat) (w : World) (ha : NatV w aA ac (mg (dmn a))) (hb : NatV w bA bc (mg (dmn b))) (oa : DOk a) (h : a = b) :
    Calls Tryz.prog 11 #[.agg #[.bool (sg (dmn a)), .slice aA (nl (mg (dmn a))) ac, .int .i64 (dex a)], .agg #[.bool (sg (dmn b)), .slice bA (nl (mg (dmn b))) bc, .int .i64 (dex b)]] w (fun e w' => e = .returned (.bool true) ∧ Below w.heap.size w w') := by
  subst h
  have l := oa.l
  refine (tsame_c aA ac a bA bc a w ha hb oa.d oa.d (by omega) (by omega)).mono ?_
  rintro e w1 ⟨rfl, h1⟩
  exact ⟨by rw [decide_eq_true rfl], h1⟩
theorem r9sameT_c (aA : Option Addr) (ac : Nat) (aB : Option Addr) (ad : Nat) (a : Rat) (bA : Option Addr) (bc : Nat) (bB : Option Addr) (bd : Nat) (b : Rat) (w : World) (ha : NatV w aA ac (mg a.num)) (ga : NatV w aB ad a.den) (hb : NatV w bA bc (mg b.num)) (gb : NatV w bB bd b.den) (la : nl (mg a.num) ≤ 1073741824) (ma : nl a.den ≤ 1073741824) (h : a = b) :
    Calls Tryz.prog 28 #[.agg #[.bool (sg a.num), .slice aA (nl (mg a.num)) ac, .slice aB (nl a.den) ad], .agg #[.bool (sg b.num), .slice bA (nl (mg b.num)) bc, .slice bB (nl b.den) bd]] w (fun e w' => e = .returned (.bool true) ∧ Below w.heap.size w w') := by
  subst h
  refine (r9same_c aA ac aB ad a bA bc bB bd a w ha ga hb gb la ma la ma).mono ?_
  rintro e w1 ⟨rfl, h1⟩
  exact ⟨by rw [decide_eq_true rfl], h1⟩
theorem zsameT_c (aA : Option Addr) (ac : Nat) (a : Int) (bA : Option Addr) (bc : Nat) (b : Int) (w : World) (ha : NatV w aA ac (mg a)) (hb : NatV w bA bc (mg b)) (la : nl (mg a) ≤ 1073741824) (h : a = b) :
    Calls Tryz.prog 42 #[.agg #[.bool (sg a), .slice aA (nl (mg a)) ac], .agg #[.bool (sg b), .slice bA (nl (mg b)) bc]] w (fun e w' => e = .returned (.bool true) ∧ Below w.heap.size w w') := by
  subst h
  refine (zsame_c aA ac a bA bc a w ha hb la la).mono ?_
  rintro e w1 ⟨rfl, h1⟩
  exact ⟨by rw [decide_eq_true rfl], h1⟩
theorem drightT_c (aA : Option Addr) (ac : Nat) (a : Rat) (w : World) (ha : NatV w aA ac (mg (dmn a))) (l : nl (mg (dmn a)) ≤ 65536) (h : -100000 ≤ dex a ∧ dex a ≤ 100000) :
    Calls Tryz.prog 7 #[.agg #[.bool (sg (dmn a)), .slice aA (nl (mg (dmn a))) ac, .int .i64 (dex a)]] w (fun e w' => e = .returned (.bool true) ∧ Below w.heap.size w w') := by
  refine (dright_c aA ac (dmn a) (dex a) w ha l).mono ?_
  rintro e w1 ⟨rfl, h1⟩
  exact ⟨by rw [right_form h], h1⟩
theorem zmadeI_c (sa : Bool) (A : Option Addr) (c : Nat) (l : List Nat) (m : Nat) (i : Int) (w : World) (hl : Rd w A l) (Ll : Lim l) (Ql : l.length ≤ maxLen) (Cl : l.length ≤ c) (Zl : A = none → c = 0) (hm : m ≤ 65536) (hi : (m : Int) = i) :
    Calls Tryz.prog 10 #[.agg #[.bool sa, .slice A l.length c], .int .i64 i] w (RetI w (ival sa (val (l.take m)))) := by
  subst hi; exact zmade_c sa A c m l w hl Ll Ql Cl Zl (by omega)
theorem and16 (x : Int) : ∃ y : Nat, bits .and .i64 x 65535 = y ∧ y < 65536 := by
  have h1 : (BitVec.ofInt 64 x).toNat &&& 65535 < 2 ^ 16 := Nat.and_lt_two_pow _ (by decide)
  refine ⟨(BitVec.ofInt 64 x).toNat &&& 65535, ?_, h1⟩
  show IntKind.i64.wrap ((BitVec.ofInt 64 x &&& BitVec.ofInt 64 65535).toNat : Int) = _
  rw [BitVec.toNat_and, show (BitVec.ofInt 64 65535).toNat = 65535 from rfl]
  exact IntWalk.i64_in _ (by omega)
theorem cutE_bd (x : Int) : -200 ≤ cutE x ∧ cutE x ≤ 200 := by
  obtain ⟨y, h1, h2⟩ := and16 x
  unfold cutE
  rw [h1, Int.tmod_eq_emod_of_nonneg (by omega)]
  omega
theorem tmadeI_c (sa : Bool) (A : Option Addr) (c : Nat) (l : List Nat) (x : Int) (m : Nat) (i : Int) (w : World) (hl : Rd w A l) (Ll : Lim l) (Ql : l.length ≤ maxLen) (Cl : l.length ≤ c) (Zl : A = none → c = 0) (hm : m ≤ 65536) (hi : (m : Int) = i) :
    Calls Tryz.prog 55 #[.agg #[.bool sa, .slice A l.length c, .int .i64 x], .int .i64 i] w (RetD w (dval (ival sa (val (l.take m))) (cutE x))) := by
  subst hi; exact tmade_c sa A c m l x w hl Ll Ql Cl Zl hm (cutE_bd x)
theorem db_sz {a : Rat} {l E : Nat} (h : DB a l E) : nl (mg a.num) ≤ l + (E / 32 + 1) ∧ nl a.den ≤ 1 + (E / 32 + 1) := by
  have h1 := mul_sz ((dmn a : Int) : Rat) ((2 : Rat) ^ dex a)
  have h2 := pow_szb (dex a) h.e
  have h3 := h.l
  rw [dval_eq a h.d, Rat.num_intCast, Rat.den_intCast, nl_one] at h1
  omega
end Go.Proofs.YthcmoimlnhghcaaGreatDoor

namespace Go.Proofs.YthcmoimlnhghcaaGreatDoor
open Go.RowKit Go.ChangeShapes Go.WideShapes Go.ChangeAt

theorem row_own : ownKnob Tryz.prog.godebug = none := by kernel_rfl
theorem row_out : laidOutB Tryz.prog = true := by kernel_rfl
theorem row_globD : Tryz.prog.globalNamed "math/bits.deBruijn32tab" = some 0 := by kernel_rfl
theorem row_globDT : (Tryz.prog.globals[0]?).map (·.type) = some 139 := by kernel_rfl
theorem row_cellsB : Tryz.prog.cellsOf 4 = 1 := by kernel_rfl
theorem row_cells8 : Tryz.prog.cellsOf 5 = 1 := by kernel_rfl
theorem row_cellsI : Tryz.prog.cellsOf 3 = 1 := by kernel_rfl
theorem row_cellsZ : Tryz.prog.cellsOf 24 = 2 := by kernel_rfl
theorem row_cells32 : Tryz.prog.cellsOf 65 = 1 := by kernel_rfl
theorem row_cellsS : Tryz.prog.cellsOf 22 = 1 := by kernel_rfl

section
variable {H : Type} {enc : TypeId × Value → H} {W : World} {base : Nat} {sp : Nat → Bool} {held : Bool}

def IsL (W : World) (A : Option Addr) (c : Nat) (l : List Nat) : Prop := Rd W A l ∧ Lim l ∧ l.length ≤ maxLen ∧ l.length ≤ c ∧ (A = none → c = 0)
theorem open_nat {fuel : Nat} {cs : List Value} {x : DataW H × List MemPlace} (h : DataW.trod enc Tryz.prog W base sp held fuel 22 cs = some x) :
    ∃ A c l, cs = [.slice A l.length c] ∧ IsL W A c l := by
  rcases open_ints Tryz.underlying22 Tryz.underlying65 row_cells32 h with ⟨rfl, _⟩ | ⟨a, len, cap, zs, rfl, _, hl, hm, hz, _, hcell, hwf⟩
  · exact ⟨none, 0, [], rfl, Rd.nil, Lim.nil, by decide, Nat.le_refl _, fun _ => rfl⟩
  · have hlz : len ≤ zs.length := by rw [hz]; split <;> omega
    have hlen : ((zs.take len).map Int.toNat).length = len := by rw [List.length_map, List.length_take]; omega
    refine ⟨some a, cap, (zs.take len).map Int.toNat, by rw [hlen], ?_, ?_, by rw [hlen]; omega, by rw [hlen]; exact hl, fun e => by cases e⟩
    · refine .inr ⟨a, rfl, fun i u hu => ?_⟩
      have hi : i < len := by
        have := (List.getElem?_eq_some_iff.1 hu).1
        rw [vals_length, hlen] at this; exact this
      have hi2 : i < zs.length := by omega
      rw [hcell i hi2]
      have h0 := bounds_u32 (hwf _ (List.getElem_mem hi2))
      simp only [vals, List.map_map, List.getElem?_map, List.getElem?_take_of_lt hi, List.getElem?_eq_getElem hi2, Option.map_some] at hu
      rw [← Option.some.inj hu]
      simp only [Function.comp, List.getD_eq_getElem?_getD, List.getElem?_eq_getElem hi2, Option.getD_some]
      rw [Int.toNat_of_nonneg h0.1]
    · intro y hy
      obtain ⟨z, hz2, rfl⟩ := List.mem_map.1 hy
      have := bounds_u32 (hwf _ (List.mem_of_mem_take hz2))
      omega

theorem open_mag {fuel : Nat} {cs : List Value} {x : DataW H × List MemPlace} (h : DataW.trod enc Tryz.prog W base sp held fuel 24 cs = some x) :
    ∃ b A c l, cs = [.bool b, .slice A l.length c] ∧ IsL W A c l := by
  obtain ⟨y0, y1, n, _, hl, h0, h1⟩ := trod_struct2 Tryz.underlying24 h
  rw [row_cellsZ] at hl
  match cs, hl with
  | [c0, c1], _ =>
    have e0 : DataW.trod enc Tryz.prog W base sp held n 4 (([c0, c1].drop 0).take (Tryz.prog.cellsOf 4)) = some y0 := h0
    have e1 : DataW.trod enc Tryz.prog W base sp held n 22 (([c0, c1].drop 1).take (Tryz.prog.cellsOf 22)) = some y1 := h1
    rw [row_cellsB] at e0
    rw [row_cellsS] at e1
    obtain ⟨b, kb, _⟩ := DataW.trod_bool Tryz.underlying4 (show DataW.trod enc Tryz.prog W base sp held n 4 [c0] = some y0 from e0)
    obtain ⟨A, c, l, k1, i1⟩ := open_nat (show DataW.trod enc Tryz.prog W base sp held n 22 [c1] = some y1 from e1)
    simp only [List.cons.injEq, and_true] at kb k1
    subst kb k1
    exact ⟨b, A, c, l, rfl, i1⟩
theorem okw_dyad {r : Reach} {b0 : Nat} {v : Value} (hv : Value.okWide Tryz.prog W r b0 26 v) : ∃ cs : Array Value, v = .agg cs ∧ cs.size = 3 := by
  simp only [Value.okWide, Tryz.underlying26] at hv
  obtain ⟨cs, rfl, hcs, _⟩ := hv
  exact ⟨cs, rfl, by rw [hcs]; kernel_rfl⟩
theorem open_dy {r : Reach} {b0 : Nat} {v : Value} {d : DataW H} {ps : List MemPlace} (hv : Value.okWide Tryz.prog W r b0 26 v) (h : DataW.Trod enc Tryz.prog W base sp held 26 v d ps) :
    ∃ b A c l x, v = .agg #[.bool b, .slice A l.length c, .int .i64 x] ∧ IsL W A c l := by
  obtain ⟨⟨cl⟩, rfl, hs⟩ := okw_dyad hv
  obtain ⟨fuel, hf⟩ := h
  obtain ⟨y0, y1, n, _, hl, h0, h1⟩ := trod_struct2 Tryz.underlying26 hf
  simp only [Value.cells] at h0 h1
  match cl, hs with
  | [c0, c1, c2], _ =>
    have e0 : DataW.trod enc Tryz.prog W base sp held n 24 (([c0, c1, c2].drop 0).take (Tryz.prog.cellsOf 24)) = some y0 := h0
    have e1 : DataW.trod enc Tryz.prog W base sp held n 3 (([c0, c1, c2].drop 2).take (Tryz.prog.cellsOf 3)) = some y1 := h1
    rw [row_cellsZ] at e0
    rw [row_cellsI] at e1
    obtain ⟨b, A, c, l, k0, i⟩ := open_mag (show DataW.trod enc Tryz.prog W base sp held n 24 [c0, c1] = some y0 from e0)
    obtain ⟨z, k1, _, _⟩ := DataW.trod_int Tryz.underlying3 (show DataW.trod enc Tryz.prog W base sp held n 3 [c2] = some y1 from e1)
    simp only [List.cons.injEq, and_true] at k0 k1
    obtain ⟨rfl, rfl⟩ := k0
    subst k1
    exact ⟨b, A, c, l, z, rfl, i⟩
end
theorem tab_core {W : World} {g0 : Nat} {t0 : TypeId} {cs0 : List Value} {xs : List (DataW Unit × List MemPlace)} {n : Nat} (hxs : xs.length = 32) (hl : cs0.length = 32)
    (hx : xs.map Prod.fst = Lib.deBruijn32tab.map (fun k => (DataW.lit (.int .u8 (k : Nat)) : DataW Unit)))
    (he : ∀ i, i < 32 → DataW.trod (fun _ => ()) Tryz.prog W 0 (fun _ => true) false n 5 ((cs0.drop i).take 1) = xs[i]?)
    (cell : ∀ i, W.cell? ⟨g0, i, none⟩ = cs0[i]?) : TabAt g0 Lib.deBruijn32tab W := by
  intro j hj
  have hj32 : j < 32 := hj
  have e := he j hj32
  rw [List.getElem?_eq_getElem (by omega : j < xs.length)] at e
  obtain ⟨z, hz, hd, _⟩ := DataW.trod_int Tryz.underlying5 e
  have h1 : (xs.map Prod.fst)[j]? = (Lib.deBruijn32tab.map (fun k => (DataW.lit (.int .u8 (k : Nat)) : DataW Unit)))[j]? := by rw [hx]
  rw [List.getElem?_map, List.getElem?_map, List.getElem?_eq_getElem (by omega : j < xs.length), hd, List.getElem?_eq_getElem hj] at h1
  simp only [Option.map_some, Option.some.injEq, DataW.lit.injEq, Lit.int.injEq, true_and] at h1
  rw [cell j]
  have h2 := congrArg (fun l => l[0]?) hz
  simp only [List.getElem?_take_of_lt Nat.zero_lt_one, List.getElem?_drop, Nat.add_zero, List.getElem?_cons_zero] at h2
  rw [h2, h1, List.getD_eq_getElem?_getD, List.getElem?_eq_getElem hj]; rfl
end Go.Proofs.YthcmoimlnhghcaaGreatDoor

namespace Go.Proofs.YthcmoimlnhghcaaGreatDoor
open Go.RowKit Go.Shelf

structure Prm (p : Nat) : Prop where
  two : 2 < p
  small : p < 1073741824
  one : p % 1048576 = 1
  half : 3 ^ ((p - 1) / 2) % p = p - 1
  full : 2 ^ (p - 1) % p = 1
def rt (p k : Nat) : Nat := 3 ^ ((p - 1) / 2 ^ k) % p
theorem Prm.dvd {p : Nat} (h : Prm p) (k : Nat) (hk : k ≤ 20) : (p - 1) / 2 ^ k * 2 ^ k = p - 1 := by
  refine Nat.div_mul_cancel ?_
  have h1 : 1048576 ∣ p - 1 := by have := h.one; have := h.two; omega
  exact Nat.dvd_trans (show 2 ^ k ∣ 2 ^ 20 from Nat.pow_dvd_pow 2 hk) h1
section
variable {p : Nat} [NeZero p] {φ : Nat → Fin p}
theorem Prm.neg (h : Prm p) (hφ : Hom p φ) : pw (φ 3) ((p - 1) / 2) = -1 := by
  have h1 : φ (3 ^ ((p - 1) / 2)) = φ (p - 1) := by rw [← hφ.modp, h.half]
  rw [hφ.pow] at h1
  rw [h1]
  have h2 := hφ.add (p - 1) 1
  have := h.two
  rw [Nat.sub_add_cancel (by omega), hφ.p0, hφ.one] at h2
  grind
theorem Prm.root (h : Prm p) (hφ : Hom p φ) (k : Nat) (hk : k ≤ 20) : k = 0 ∨ pw (φ (rt p k)) (2 ^ (k - 1)) = -1 := by
  cases k with
  | zero => exact .inl rfl
  | succ k =>
    right
    unfold rt
    rw [hφ.modp, hφ.pow, pw_pw, Nat.add_sub_cancel, ← h.neg hφ]
    congr 1
    have h1 := h.dvd (k + 1) hk
    generalize (p - 1) / 2 ^ (k + 1) = x at h1 ⊢
    rw [Nat.pow_succ, ← Nat.mul_assoc] at h1
    omega
theorem Prm.unit (h : Prm p) (hφ : Hom p φ) : pw (φ 3) (p - 1) = 1 := by
  have h1 : p - 1 = (p - 1) / 2 * 2 := by have := h.one; have := h.two; omega
  rw [h1, ← pw_pw, h.neg hφ]
  simp only [pw]; grind
theorem Prm.back (h : Prm p) (hφ : Hom p φ) (k : Nat) : φ (rt p k) * φ (rt p k ^ (p - 2) % p) = 1 := by
  rw [hφ.modp, hφ.pow, ← pw_1 (φ (rt p k)), pw_pw, ← pw_add]
  have := h.two
  rw [show 1 + 1 * (p - 2) = p - 1 by omega]
  unfold rt
  rw [hφ.modp, hφ.pow, pw_pw, Nat.mul_comm, ← pw_pw, h.unit hφ, pw_one]
theorem sm_ones (hφ : Hom p φ) (n : Nat) : sm (fun _ => (1 : Fin p)) n = φ n := by
  induction n with
  | zero => exact hφ.zero.symm
  | succ n ih => rw [sm, ih, hφ.add, hφ.one]
theorem Prm.over (h : Prm p) (hφ : Hom p φ) (k : Nat) : φ (2 ^ k) * φ ((2 ^ k) ^ (p - 2) % p) = 1 := by
  rw [hφ.modp, hφ.pow (2 ^ k), ← pw_1 (φ (2 ^ k)), pw_pw, ← pw_add]
  have := h.two
  rw [show 1 + 1 * (p - 2) = p - 1 by omega, ← hφ.pow, ← Nat.pow_mul, Nat.mul_comm, Nat.pow_mul, hφ.pow, ← hφ.modp, h.full, hφ.one, pw_one]
theorem conv_math (h : Prm p) (hφ : Hom p φ) (k la lb : Nat) (hk : k ≤ 20) (a b X Y Z : Nat → Nat) (ha : ∀ i, la ≤ i → a i = 0) (hb : ∀ i, lb ≤ i → b i = 0) (hN : la + lb ≤ 2 ^ k + 1) (hl : 0 < lb) (hla : la ≤ 2 ^ k) (hlb : lb ≤ 2 ^ k)
    (hX : ∀ t, t < 2 ^ k → φ (X t) = dft (fun j => φ (a j)) (φ (rt p k)) (2 ^ k) t) (hY : ∀ t, t < 2 ^ k → φ (Y t) = dft (fun j => φ (b j)) (φ (rt p k)) (2 ^ k) t)
    (hZ : ∀ t, t < 2 ^ k → φ (Z t) = dft (fun j => φ (X j * Y j % p)) (φ (rt p k ^ (p - 2) % p)) (2 ^ k) t) :
    ∀ t, t < 2 ^ k → Z t * ((2 ^ k) ^ (p - 2) % p) % p = cv a b la t % p := by
  intro t ht
  have hp := h.two
  refine hφ.eq (Nat.mod_lt _ (by omega)) ?_ 
  rw [hφ.modp, hφ.mul, hZ t ht, hφ.cv]
  have e : dft (fun j => φ (X j * Y j % p)) (φ (rt p k ^ (p - 2) % p)) (2 ^ k) t = dft (dft (cv (fun i => φ (a i)) (fun i => φ (b i)) la) (φ (rt p k)) (2 ^ k)) (φ (rt p k ^ (p - 2) % p)) (2 ^ k) t := by
    unfold dft
    refine sm_congr fun j hj => ?_
    congr 1
    show φ (X j * Y j % p) = _
    rw [hφ.modp, hφ.mul, hX j hj, hY j hj]
    have hc := cv_poly (fun i => φ (a i)) (fun i => φ (b i)) la lb (2 ^ k) (pw (φ (rt p k)) j) (fun i hi => by simp only [hb i hi, hφ.zero]) hN hl
    simp only [pw_pw] at hc
    rw [hc]
    unfold dft
    obtain ⟨r, hr⟩ : ∃ r, 2 ^ k = la + r := ⟨2 ^ k - la, by omega⟩
    obtain ⟨r', hr'⟩ : ∃ r', 2 ^ k = lb + r' := ⟨2 ^ k - lb, by omega⟩
    have e1 : sm (fun i => φ (a i) * pw (φ (rt p k)) (j * i)) (2 ^ k) = sm (fun i => φ (a i) * pw (φ (rt p k)) (j * i)) la := by
      rw [hr]; exact sm_more _ _ _ fun i hi => by simp only [ha i hi, hφ.zero]; grind
    have e2 : sm (fun i => φ (b i) * pw (φ (rt p k)) (j * i)) (2 ^ k) = sm (fun i => φ (b i) * pw (φ (rt p k)) (j * i)) lb := by
      rw [hr']; exact sm_more _ _ _ fun i hi => by simp only [hb i hi, hφ.zero]; grind
    rw [e1, e2]
  rw [e, dft_back _ _ _ k t (h.root hφ k hk) (h.back hφ k) ht, sm_ones hφ]
  have := h.over hφ k
  grind
end

theorem mk64 (c : Int) (h0 : 0 ≤ c) (hc : c ≤ 4194304) : ∀ W : World, (Instr.makeSlice 164 (.int .i64 c) (.int .i64 c)).run Tryz.prog W =
    .ok (.slice (some ⟨W.heap.size, 0, none⟩) c.toNat c.toNat) (W.alloc (.cells (v64 (List.replicate c.toNat 0)).toArray 106)) := fun W => by
  obtain ⟨i0, hi, hz0, hz1, hz2⟩ := info_parts info_u64
  have := run_make (P := Tryz.prog) W 164 106 i0 _ Tryz.underlying164 hi hz0 .i64 .i64 c c h0 (Int.le_refl _) (by rw [hz2]; omega) (by omega)
  rw [hz1, Nat.mul_one] at this
  rw [this]
  congr 4
  apply Array.toList_inj.1
  show (madeCells #[.int .u64 0] c.toNat).toList = _
  rw [toList_madeCells_one]
  simp [v64]
end Go.Proofs.YthcmoimlnhghcaaGreatDoor

namespace Go.Proofs.YthcmoimlnhghcaaGreatDoor
open Go.RowKit Go.Shelf

theorem arr_made (W : World) (n : Nat) : Arr (W.alloc (.cells (v64 (List.replicate n 0)).toArray 106)) W.heap.size (List.replicate n 0) := by
  unfold Arr; rw [heap_alloc_new]
theorem gl_rep (n i : Nat) : gl (List.replicate n 0) i = 0 := by
  simp [gl, List.getElem?_replicate]; split <;> rfl

theorem step_set {L : List Nat} {i n z : Nat} (N O : Nat → Nat) (hi : i < n) (hl : L.length = n) (hz : z = N i) (h : ∀ t, gl L t = if t < i then N t else O t) (t : Nat) : gl (L.set i z) t = if t < i + 1 then N t else O t := by
  by_cases e : t = i
  · have c : t < i + 1 := by omega
    rw [if_pos c, e, gl_set_eq' (by omega), hz]
  · rw [gl_set_ne' (by omega), h t]
    by_cases c : t < i
    · rw [if_pos c, if_pos (by omega)]
    · rw [if_neg c, if_neg (by omega)]

theorem around_c (p k : Nat) (A : Option Addr) (ca a : Nat) (B : Option Addr) (cb b : Nat) (w : World) (hP : Prm p) (hk : k ≤ 20) (hA : NatV w A ca a) (hB : NatV w B cb b) (hb : b ≠ 0) (hN : nl a + nl b ≤ 2 ^ k + 1) (hla : nl a ≤ 2 ^ k) (hlb : nl b ≤ 2 ^ k) :
    Calls Tryz.prog 174 #[fld p, .slice A (nl a) ca, .slice B (nl b) cb, .int .i64 (k : Nat)] w fun e w' => ∃ bx X, e = .returned (.slice (some ⟨bx, 0, none⟩) (2 ^ k : Nat) (2 ^ k : Nat)) ∧ w.heap.size ≤ bx ∧ Arr w' bx X ∧ X.length = 2 ^ k ∧
      (∀ t, t < 2 ^ k → gl X t = cv (gl (limbs a)) (gl (limbs b)) (nl a) t % p) ∧ Below w.heap.size w w' := by
  obtain ⟨n, hnk⟩ : ∃ n, n = 2 ^ k := ⟨_, rfl⟩
  have hnb : n ≤ 1048576 := by rw [hnk]; exact Nat.pow_le_pow_right (by decide) (show k ≤ 20 by omega)
  have hn1 : 1 ≤ n := by rw [hnk]; exact Nat.two_pow_pos k
  have hnI : (2 : Int) ^ k = (n : Int) := by rw [hnk]; simp
  have hp2 := hP.two
  have hpB := hP.small
  have HNK := Lib.hid hnk
  have HPP := Lib.hid hP
  rw [← hnk] at hN hla hlb ⊢
  have hmk := mk64 (n : Int) (by omega) (by omega)
  rw [Int.toNat_natCast] at hmk
  clear hnk
  have hp0 : ((p : Int) == 0) = false := ieqF (by omega)
  have hu := Tryz.underlying167
  have hE : ∃ E : World, E = (((w.alloc (.cells #[.int .u64 (p : Nat)] 167)).alloc (.cells (v64 (List.replicate n 0)).toArray 106)).alloc (.cells (v64 (List.replicate n 0)).toArray 106)).drew := ⟨_, rfl⟩
  obtain ⟨E, hE⟩ := hE
  have hs1 : (w.alloc (.cells #[.int .u64 (p : Nat)] 167)).heap.size = w.heap.size + 1 := by simp
  have hs2 : ((w.alloc (.cells #[.int .u64 (p : Nat)] 167)).alloc (.cells (v64 (List.replicate n 0)).toArray 106)).heap.size = w.heap.size + 1 + 1 := by simp
  have hb0 : Below w.heap.size w (w.alloc (.cells #[.int .u64 (p : Nat)] 167)) := (Below.refl _ _).alloc (Nat.le_refl _) _
  have hb1 : Below (w.heap.size + 1) (w.alloc (.cells #[.int .u64 (p : Nat)] 167)) ((w.alloc (.cells #[.int .u64 (p : Nat)] 167)).alloc (.cells (v64 (List.replicate n 0)).toArray 106)) := (Below.refl _ _).alloc (by omega) _
  have hb2 : Below (w.heap.size + 1 + 1) ((w.alloc (.cells #[.int .u64 (p : Nat)] 167)).alloc (.cells (v64 (List.replicate n 0)).toArray 106)) E := by
    rw [hE]; exact ((Below.refl _ _).alloc (by omega) _).drew
  have hbE : Below w.heap.size w E := (hb0.trans (hb1.mono (by omega))).trans (hb2.mono (by omega))
  have hcE : E.cell? ⟨w.heap.size, 0, none⟩ = some (.int .u64 (p : Nat)) := by
    have h0 : (w.alloc (.cells #[.int .u64 (p : Nat)] 167)).cell? ⟨w.heap.size, 0, none⟩ = some (.int .u64 (p : Nat)) := by
      unfold World.cell?; rw [heap_alloc_new]; rfl
    exact cell_below (hs2 ▸ hb2) (cell_below (hs1 ▸ hb1) h0)
  have hx1 : Arr E (w.heap.size + 1) (List.replicate n 0) := by
    have h0 := arr_made (w.alloc (.cells #[.int .u64 (p : Nat)] 167)) n
    rw [hs1] at h0
    exact h0.keep (hb2.block _ (by omega))
  have hx2 : Arr E (w.heap.size + 1 + 1) (List.replicate n 0) := by
    have h0 := arr_made ((w.alloc (.cells #[.int .u64 (p : Nat)] 167)).alloc (.cells (v64 (List.replicate n 0)).toArray 106)) n
    rw [hs2] at h0
    rw [hE]; exact h0
  have hsE := hbE.size
  clear hb0 hb1 hb2 hs1 hs2
  have G1 := And.intro hx1 (And.intro hx2 (show w.heap.size + 1 ≠ w.heap.size + 1 + 1 ∧ w.heap.size + 1 + 1 ≠ w.heap.size + 1 ∧ w.heap.size ≠ w.heap.size + 1 ∧ w.heap.size ≠ w.heap.size + 1 + 1 ∧ w.heap.size ≤ w.heap.size + 1 ∧ w.heap.size ≤ w.heap.size + 1 + 1 by omega))
  have G2 := And.intro hx2 (And.intro hx1 (show w.heap.size + 1 + 1 ≠ w.heap.size + 1 ∧ w.heap.size + 1 ≠ w.heap.size + 1 + 1 ∧ w.heap.size ≠ w.heap.size + 1 + 1 ∧ w.heap.size ≠ w.heap.size + 1 ∧ w.heap.size ≤ w.heap.size + 1 + 1 ∧ w.heap.size ≤ w.heap.size + 1 by omega))
  replace G1 := Lib.hid G1
  replace G2 := Lib.hid G2
  clear hx1 hx2
  unfold fld at *
  go_enter Tryz.func174, Tryz.ntmps174
  go_wp2_with (fail)
  go_big_region
  rotate_left
  · clear G1
    rw [← hE]
    generalize w.heap.size + 1 + 1 = bx at *
    generalize w.heap.size + 1 = bz at *
    have GG := G2
    clear G2
    obtain ⟨hX, hY, hxz, hzx, hsx, hsz, hlx, hlz⟩ := GG.out
    clear GG hE
    go_wp2_with (fail)
    go_loopw [11, 12, 27] (fun vi vx ct wr => ∃ (i : Nat) (M : List Nat), ct = .int .i64 i ∧ i ≤ nl a ∧ Only bx E wr ∧ Arr wr bx M ∧ Hid (M.length = n) ∧ Hid (∀ t, gl M t = if t < i then gl (limbs a) t % p else 0)) (fun vi vx ct wr => nl a - (intOf ct).toNat)
    case atStart => exact ⟨0, _, rfl, Nat.zero_le _, .refl _ _, hX, Lib.hid (by simp), Lib.hid (fun t => by rw [if_neg (by omega), gl_rep])⟩
    case round =>
      obtain ⟨i, M, rfl, hi, ho, hM, hMl, hMv⟩ := hrel
      by_cases hlt : i < nl a
      · obtain ⟨ad, rfl, hcx⟩ := (hA.rd.below (hbE.trans (ho.below hlx hsE))).get i hlt
        have hxl := (lim_limbs a).gl i
        obtain ⟨x, hx⟩ : ∃ x, x = gl (limbs a) i := ⟨_, rfl⟩
        rw [← hx] at hcx hxl
        replace hx := Lib.hid hx
        have hcp := ho.cell hcE hsx
        have hin : i < n := by omega
        have hc1 := hM.cell i (by rw [hMl.out]; exact hin)
        have hf1 := hM.frozen i
        obtain ⟨y, hy⟩ : ∃ y, y = x % p := ⟨_, rfl⟩
        have hyI : (x : Int) % (p : Int) = (y : Int) := by rw [hy]; simp
        have hyp : y < p := by rw [hy]; exact Nat.mod_lt _ (by omega)
        replace hy := Lib.hid hy
        go_wp2_with (fail)
        go_roundw
        case rel =>
          refine ⟨i + 1, M.set i y, by go_num, by omega, ho.store _ _, hM.store i y, Lib.hid (by simp [hMl.out]), Lib.hid (fun t => ?_)⟩
          by_cases e : t = i
          · have c : t < i + 1 := by omega
            rw [if_pos c, e, gl_set_eq' (by rw [hMl.out]; exact hin), hy.out, hx.out]
          · rw [gl_set_ne' (by omega), hMv.out t]
            by_cases c : t < i
            · rw [if_pos c, if_pos (by omega)]
            · rw [if_neg c, if_neg (by omega)]
        case measure => simp only [intOf]; omega
      · have hia : i = nl a := by omega
        have hMp : ∀ t, gl M t = gl (limbs a) t % p := fun t => by
          rw [hMv.out t]
          split
          · rfl
          · rw [gl_of_le (l := limbs a) (by show nl a ≤ t; omega)]; simp
        replace hMp := Lib.hid hMp
        replace hia := Lib.hid hia
        have hY1 := ho.arr hY hzx
        have hc1 := ho.cell hcE hsx
        have hb1 := hbE.trans (ho.below hlx hsE)
        have hs1 := hb1.size
        obtain ⟨W1, rfl⟩ : ∃ W1 : World, W1 = wr := ⟨_, rfl⟩
        clear hMv ho hX hY hcE hbE hsE hi
        go_wp2_with (fail)
        go_loopw [13, 14, 43] (fun vi vx ct wr => ∃ (i : Nat) (Q : List Nat), ct = .int .i64 i ∧ i ≤ nl b ∧ Only bz W1 wr ∧ Arr wr bz Q ∧ Hid (Q.length = n) ∧ Hid (∀ t, gl Q t = if t < i then gl (limbs b) t % p else 0)) (fun vi vx ct wr => nl b - (intOf ct).toNat)
        case atStart => exact ⟨0, _, rfl, Nat.zero_le _, .refl _ _, hY1, Lib.hid (by simp), Lib.hid (fun t => by rw [if_neg (by omega), gl_rep])⟩
        case round =>
          obtain ⟨j, Q, rfl, hj, ho, hQ, hQl, hQv⟩ := hrel
          by_cases hlt : j < nl b
          · obtain ⟨ad, rfl, hcx⟩ := (hB.rd.below (hb1.trans (ho.below hlz hs1))).get j hlt
            have hxl := (lim_limbs b).gl j
            obtain ⟨x, hx⟩ : ∃ x, x = gl (limbs b) j := ⟨_, rfl⟩
            rw [← hx] at hcx hxl
            replace hx := Lib.hid hx
            have hcp := ho.cell hc1 hsz
            have hjn : j < n := by omega
            have hc2 := hQ.cell j (by rw [hQl.out]; exact hjn)
            have hf2 := hQ.frozen j
            obtain ⟨y, hy⟩ : ∃ y, y = x % p := ⟨_, rfl⟩
            have hyI : (x : Int) % (p : Int) = (y : Int) := by rw [hy]; simp
            have hyp : y < p := by rw [hy]; exact Nat.mod_lt _ (by omega)
            replace hy := Lib.hid hy
            go_wp2_with (fail)
            go_roundw
            case rel =>
              refine ⟨j + 1, Q.set j y, by go_num, by omega, ho.store _ _, hQ.store j y, Lib.hid (by simp [hQl.out]), Lib.hid (fun t => ?_)⟩
              by_cases e : t = j
              · have c : t < j + 1 := by omega
                rw [if_pos c, e, gl_set_eq' (by rw [hQl.out]; exact hjn), hy.out, hx.out]
              · rw [gl_set_ne' (by omega), hQv.out t]
                by_cases c : t < j
                · rw [if_pos c, if_pos (by omega)]
                · rw [if_neg c, if_neg (by omega)]
            case measure => simp only [intOf]; omega
          · have hjb : j = nl b := by omega
            have hQp : ∀ t, gl Q t = gl (limbs b) t % p := fun t => by
              rw [hQv.out t]
              split
              · rfl
              · rw [gl_of_le (l := limbs b) (by show nl b ≤ t; omega)]; simp
            replace hQp := Lib.hid hQp
            replace hjb := Lib.hid hjb
            have hcp := ho.cell hc1 hsz
            have hM2 := ho.arr hM hxz
            have hb2 := hb1.trans (ho.below hlz hs1)
            have hs2 := hb2.size
            clear hQv ho hM hY1 hc1 hb1 hs1 hj
            obtain ⟨rw', hrw⟩ : ∃ r, r = rt p k := ⟨_, rfl⟩
            have hrwp : rw' < p := by rw [hrw]; exact Nat.mod_lt _ (by omega)
            have CR := froot_c p k wr hp2 (by omega) hk
            rw [show 3 ^ ((p - 1) / 2 ^ k) % p = rw' from hrw.symm] at CR
            replace CR := Lib.hid CR
            replace hrw := Lib.hid hrw
            unfold fld at CR
            go_wp2_with (fail)
            refine CR.out.mono ?_
            rintro e W3 ⟨rfl, hbd⟩
            clear CR
            haveI hnz : NeZero p := ⟨by omega⟩
            obtain ⟨φ, hφ⟩ : ∃ φ : Nat → Fin p, Hom p φ := ⟨_, hom_fin p⟩
            have hM3 := hM2.below hbd
            have hQ3 := hQ.below hbd
            have hc3 := cell_below hbd hcp
            have hb3 := hb2.cons hbd
            have hs3 := hb3.size
            have CX := run_c p bx k rw' M W3 hφ (by omega) hpB hk hM3 (by rw [hMl.out, HNK.out]) (fun t => by rw [hMp.out]; exact Nat.mod_lt _ (by omega)) hrwp (by rw [hrw.out]; exact HPP.out.root hφ k hk)
            rw [← HNK.out] at CX
            unfold fld at CX
            replace CX := Lib.hid CX
            clear hM2 hQ hcp hb2 hs2 hbd
            go_wp2_with (fail)
            refine CX.out.mono ?_
            rintro e W4 ⟨rfl, ho4, X, hX4, hXl, hXp, hXv⟩
            replace hXl := Lib.hid hXl
            replace hXp := Lib.hid hXp
            replace hXv := Lib.hid hXv
            have hQ4 := ho4.arr hQ3 hzx
            have hc4 := ho4.cell hc3 hsx
            have hb4 := hb3.trans (ho4.below hlx hs3)
            have hs4 := hb4.size
            have CY := run_c p bz k rw' Q W4 hφ (by omega) hpB hk hQ4 (by rw [hQl.out, HNK.out]) (fun t => by rw [hQp.out]; exact Nat.mod_lt _ (by omega)) hrwp (by rw [hrw.out]; exact HPP.out.root hφ k hk)
            rw [← HNK.out] at CY
            unfold fld at CY
            replace CY := Lib.hid CY
            clear hM3 hQ3 hc3 hb3 hs3 ho4 CX
            go_wp2_with (fail)
            refine CY.out.mono ?_
            rintro e W5 ⟨rfl, ho5, Y, hY5, hYl, hYp, hYv⟩
            replace hYl := Lib.hid hYl
            replace hYp := Lib.hid hYp
            replace hYv := Lib.hid hYv
            have hX5 := ho5.arr hX4 hxz
            have hc5 := ho5.cell hc4 hsz
            have hb5 := hb4.trans (ho5.below hlz hs4)
            have hs5 := hb5.size
            clear hX4 hQ4 hc4 hb4 hs4 ho5 CY
            go_wp2_with (fail)
            go_loopw [16, 72] (fun vi ct wr => ∃ (i : Nat) (L : List Nat), ct = .int .i64 i ∧ i ≤ n ∧ Only bx W5 wr ∧ Arr wr bx L ∧ Hid (L.length = n) ∧ Hid (∀ t, gl L t = if t < i then gl X t * gl Y t % p else gl X t)) (fun vi ct wr => n - (intOf ct).toNat)
            case atStart => exact ⟨0, X, rfl, Nat.zero_le _, .refl _ _, hX5, Lib.hid hXl.out, Lib.hid (fun t => by rw [if_neg (by omega)])⟩
            case round =>
              obtain ⟨i, L, rfl, hi, ho, hL, hLl, hLv⟩ := hrel
              by_cases hlt : i < n
              · have hcp := ho.cell hc5 hsx
                have hYr := ho.arr hY5 hzx
                have q1 := hL.cell i (by rw [hLl.out]; exact hlt)
                have q2 := hYr.cell i (by rw [hYl.out]; exact hlt)
                have hxv : gl L i = gl X i := by rw [hLv.out i, if_neg (by omega)]
                have hxp := hXp.out i
                have hyp := hYp.out i
                obtain ⟨x, hx⟩ : ∃ x, x = gl X i := ⟨_, rfl⟩
                obtain ⟨y, hy⟩ : ∃ y, y = gl Y i := ⟨_, rfl⟩
                rw [hxv, ← hx] at q1
                rw [← hy] at q2 hyp
                rw [← hx] at hxp
                obtain ⟨z, hz⟩ : ∃ z, z = x * y % p := ⟨_, rfl⟩
                have CM := fun (W : World) => fmul_c p x y W (by omega) (by omega) (by omega) (by omega)
                rw [← hz] at CM
                unfold fld at CM
                replace CM := Lib.hid CM
                replace hx := Lib.hid hx
                replace hy := Lib.hid hy
                replace hz := Lib.hid hz
                have hd := (Below.refl wr.heap.size wr).drew
                have gp := cell_below hd hcp
                have g1 := cell_below hd q1
                have g2 := cell_below hd q2
                clear hxv
                go_wp2_with (fail)
                go_region_with (go_at_call 176; (with_reducible refine (CM.out _).mono ?_); rintro e V4 ⟨rfl, hbv⟩; have hLV := (show Arr wr.drew bx L from hL).below hbv; have fz := hLV.frozen i; have hcq := hLV.cell i (by rw [hLl.out]; exact hlt))
                all_goals
                  go_wp2_with (fail)
                  go_roundw
                  case rel =>
                    refine ⟨i + 1, L.set i z, by go_num, by omega, (ho.drew.cons hbv).store _ _, hLV.store i z, Lib.hid (by simp [hLl.out]), Lib.hid (fun t => ?_)⟩
                    exact step_set (fun t => gl X t * gl Y t % p) (fun t => gl X t) hlt hLl.out (by rw [hz.out, hx.out, hy.out]) hLv.out t
                  case measure => simp only [intOf]; omega
              · have hin : i = n := by omega
                have hcp := ho.cell hc5 hsx
                have hb6 := hb5.trans (ho.below hlx hs5)
                have hs6 := hb6.size
                have hLp : ∀ t, gl L t < p := fun t => by
                  rw [hLv.out t]
                  split
                  · exact Nat.mod_lt _ (by omega)
                  · exact hXp.out t
                have hLe : ∀ t, t < n → gl L t = gl X t * gl Y t % p := fun t ht => by rw [hLv.out t, if_pos (by omega)]
                replace hLp := Lib.hid hLp
                replace hLe := Lib.hid hLe
                replace hin := Lib.hid hin
                obtain ⟨iv, hiv⟩ : ∃ iv, iv = rw' ^ (p - 2) % p := ⟨_, rfl⟩
                have hivp : iv < p := by rw [hiv]; exact Nat.mod_lt _ (by omega)
                have CI := fun (W : World) => finv_c p rw' W hp2 (by omega) (by omega)
                rw [← hiv] at CI
                have CZ := fun (W : World) (hW : Arr W bx L) => run_c p bx k iv L W hφ (by omega) hpB hk hW (by rw [hLl.out, HNK.out]) hLp.out hivp (by
                  rcases HPP.out.root hφ k hk with h | h
                  · exact .inl h
                  · right
                    have h1 := HPP.out.back hφ k
                    rw [← hrw.out, ← hiv] at h1
                    have h2 : pw (φ rw' * φ iv) (2 ^ (k - 1)) = 1 := by rw [h1, pw_one]
                    rw [pw_base, hrw.out, h] at h2
                    grind)
                rw [← HNK.out] at CZ
                unfold fld at CI CZ
                replace CI := Lib.hid CI
                replace CZ := Lib.hid CZ
                replace hiv := Lib.hid hiv
                have hd := (Below.refl wr.heap.size wr).drew
                have gp := cell_below hd hcp
                have gb := hb6.cons hd
                have gL := hL.below hd
                clear hLv ho hX5 hc5 hb5 hs5 hi
                go_wp2_with (fail)
                go_region_held3 (fun W => W.cell? ⟨w.heap.size, 0, none⟩ = some (.int .u64 (p : Nat)))
                  (first
                    | exact gp
                    | exact gp7
                    | exact gp8
                    | go_keep)
                  (first
                    | (go_at_call 175; (with_reducible refine (CI.out _).mono ?_); rintro e W7 ⟨rfl, hb7⟩; have gp7 := cell_below hb7 gp; have gb7 := gb.cons hb7; have gL7 := gL.below hb7)
                    | (go_at_call 185; (with_reducible refine (CZ.out _ gL7).mono ?_); rintro e W8 ⟨rfl, ho8, Z, hZ, hZl, hZp, hZv⟩; have gp8 := ho8.cell gp7 hsx; have gb8 := gb7.trans (ho8.below hlx gb7.size)))
                replace hZl := Lib.hid hZl
                replace hZp := Lib.hid hZp
                replace hZv := Lib.hid hZv
                have hs8 := gb8.size
                obtain ⟨ov, hov⟩ : ∃ ov, ov = n ^ (p - 2) % p := ⟨_, rfl⟩
                have hovp : ov < p := by rw [hov]; exact Nat.mod_lt _ (by omega)
                have CO := fun (W : World) => finv_c p n W hp2 (by omega) (by omega)
                rw [← hov] at CO
                unfold fld at CO
                replace CO := Lib.hid CO
                replace hov := Lib.hid hov
                have zn : IntKind.u64.wrap (n : Int) = (n : Int) := IntWalk.u64_in _ (by omega)
                have hd8 := (Below.refl W8.heap.size W8).drew
                have g9 := cell_below hd8 gp8
                have gb9 := gb8.cons hd8
                have gZ9 := hZ.below hd8
                clear gp gb gL gp7 gb7 gL7 hcp hb6 hs6 CI CZ ho8
                go_wp2_with (fail)
                go_region_held3 (fun W => W.cell? ⟨w.heap.size, 0, none⟩ = some (.int .u64 (p : Nat)))
                  (first
                    | exact g9
                    | exact g10
                    | go_keep)
                  (first
                    | (go_at_call 175; (with_reducible refine (CO.out _).mono ?_); rintro e W10 ⟨rfl, hb10⟩; have g10 := cell_below hb10 g9; have gb10 := gb9.cons hb10; have gZ10 := gZ9.below hb10))
                clear g9 gb9 gZ9 hd8 CO hs8
                have hs10 := gb10.size
                obtain ⟨WA, rfl⟩ : ∃ WA : World, WA = W10 := ⟨_, rfl⟩
                go_wp2_with (fail)
                go_loopw [18, 102] (fun vi ct wr => ∃ (i : Nat) (L : List Nat), ct = .int .i64 i ∧ i ≤ n ∧ Only bx WA wr ∧ Arr wr bx L ∧ Hid (L.length = n) ∧ Hid (∀ t, gl L t = if t < i then gl Z t * ov % p else gl Z t)) (fun vi ct wr => n - (intOf ct).toNat)
                case atStart => exact ⟨0, Z, rfl, Nat.zero_le _, .refl _ _, gZ10, Lib.hid hZl.out, Lib.hid (fun t => by rw [if_neg (by omega)])⟩
                case round =>
                  obtain ⟨i, L, rfl, hi, ho, hL, hLl, hLv⟩ := hrel
                  by_cases hlt : i < n
                  · have hcp := ho.cell g10 hsx
                    have q1 := hL.cell i (by rw [hLl.out]; exact hlt)
                    have hxv : gl L i = gl Z i := by rw [hLv.out i, if_neg (by omega)]
                    have hxp := hZp.out i
                    obtain ⟨x, hx⟩ : ∃ x, x = gl Z i := ⟨_, rfl⟩
                    rw [hxv, ← hx] at q1
                    rw [← hx] at hxp
                    obtain ⟨z, hz⟩ : ∃ z, z = x * ov % p := ⟨_, rfl⟩
                    have CM := fun (W : World) => fmul_c p x ov W (by omega) (by omega) (by omega) (by omega)
                    rw [← hz] at CM
                    unfold fld at CM
                    replace CM := Lib.hid CM
                    replace hx := Lib.hid hx
                    replace hz := Lib.hid hz
                    have hd := (Below.refl wr.heap.size wr).drew
                    have gp := cell_below hd hcp
                    have g1 := cell_below hd q1
                    clear hxv
                    go_wp2_with (fail)
                    go_region_with (go_at_call 176; (with_reducible refine (CM.out _).mono ?_); rintro e V4 ⟨rfl, hbv⟩; have hLV := (show Arr wr.drew bx L from hL).below hbv; have fz := hLV.frozen i; have hcq := hLV.cell i (by rw [hLl.out]; exact hlt))
                    all_goals
                      go_wp2_with (fail)
                      go_roundw
                      case rel =>
                        refine ⟨i + 1, L.set i z, by go_num, by omega, (ho.drew.cons hbv).store _ _, hLV.store i z, Lib.hid (by simp [hLl.out]), Lib.hid (fun t => ?_)⟩
                        exact step_set (fun t => gl Z t * ov % p) (fun t => gl Z t) hlt hLl.out (by rw [hz.out, hx.out]) hLv.out t
                      case measure => simp only [intOf]; omega
                  · have hin2 : i = n := by omega
                    have hfin : ∀ t, t < n → gl L t = cv (gl (limbs a)) (gl (limbs b)) (nl a) t % p := fun t ht => by
                      rw [hLv.out t, if_pos (by omega), hov.out, HNK.out]
                      refine conv_math HPP.out hφ k (nl a) (nl b) hk (gl (limbs a)) (gl (limbs b)) (gl X) (gl Y) (gl Z) (fun i hi => gl_of_le hi) (fun i hi => gl_of_le hi) (by rw [← HNK.out]; exact hN) (nl_pos.2 hb) (by rw [← HNK.out]; exact hla) (by rw [← HNK.out]; exact hlb) ?_ ?_ ?_ t (by rw [← HNK.out]; exact ht)
                      · intro t ht
                        rw [hXv.out t (by rw [HNK.out]; exact ht), HNK.out, hrw.out]
                        refine sm_congr fun j _ => ?_
                        show φ (gl M j) * _ = _
                        rw [hMp.out j, hφ.modp]
                      · intro t ht
                        rw [hYv.out t (by rw [HNK.out]; exact ht), HNK.out, hrw.out]
                        refine sm_congr fun j _ => ?_
                        show φ (gl Q j) * _ = _
                        rw [hQp.out j, hφ.modp]
                      · intro t ht
                        rw [hZv.out t (by rw [HNK.out]; exact ht), HNK.out, hiv.out, hrw.out]
                        refine sm_congr fun j hj => ?_
                        show φ (gl _ j) * _ = _
                        rw [hLe.out j (by rw [HNK.out]; exact hj)]
                    go_wp2_with (fail)
                    go_ret
                    exact ⟨bx, L, rfl, hlx, hL, hLl.out, hfin, gb10.trans (ho.below hlx hs10)⟩
  clear G2
  rw [← hE]
  generalize w.heap.size + 1 + 1 = bz at *
  generalize w.heap.size + 1 = bx at *
  have GG := G1
  clear G1
  obtain ⟨hX, hY, hxz, hzx, hsx, hsz, hlx, hlz⟩ := GG.out
  clear GG hE
  go_wp2_with (fail)
  go_loopw [11, 12, 27] (fun vi vx ct wr => ∃ (i : Nat) (M : List Nat), ct = .int .i64 i ∧ i ≤ nl a ∧ Only bx E wr ∧ Arr wr bx M ∧ Hid (M.length = n) ∧ Hid (∀ t, gl M t = if t < i then gl (limbs a) t % p else 0)) (fun vi vx ct wr => nl a - (intOf ct).toNat)
  case atStart => exact ⟨0, _, rfl, Nat.zero_le _, .refl _ _, hX, Lib.hid (by simp), Lib.hid (fun t => by rw [if_neg (by omega), gl_rep])⟩
  case round =>
    obtain ⟨i, M, rfl, hi, ho, hM, hMl, hMv⟩ := hrel
    by_cases hlt : i < nl a
    · obtain ⟨ad, rfl, hcx⟩ := (hA.rd.below (hbE.trans (ho.below hlx hsE))).get i hlt
      have hxl := (lim_limbs a).gl i
      obtain ⟨x, hx⟩ : ∃ x, x = gl (limbs a) i := ⟨_, rfl⟩
      rw [← hx] at hcx hxl
      replace hx := Lib.hid hx
      have hcp := ho.cell hcE hsx
      have hin : i < n := by omega
      have hc1 := hM.cell i (by rw [hMl.out]; exact hin)
      have hf1 := hM.frozen i
      obtain ⟨y, hy⟩ : ∃ y, y = x % p := ⟨_, rfl⟩
      have hyI : (x : Int) % (p : Int) = (y : Int) := by rw [hy]; simp
      have hyp : y < p := by rw [hy]; exact Nat.mod_lt _ (by omega)
      replace hy := Lib.hid hy
      go_wp2_with (fail)
      go_roundw
      case rel =>
        refine ⟨i + 1, M.set i y, by go_num, by omega, ho.store _ _, hM.store i y, Lib.hid (by simp [hMl.out]), Lib.hid (fun t => ?_)⟩
        by_cases e : t = i
        · have c : t < i + 1 := by omega
          rw [if_pos c, e, gl_set_eq' (by rw [hMl.out]; exact hin), hy.out, hx.out]
        · rw [gl_set_ne' (by omega), hMv.out t]
          by_cases c : t < i
          · rw [if_pos c, if_pos (by omega)]
          · rw [if_neg c, if_neg (by omega)]
      case measure => simp only [intOf]; omega
    · have hia : i = nl a := by omega
      have hMp : ∀ t, gl M t = gl (limbs a) t % p := fun t => by
        rw [hMv.out t]
        split
        · rfl
        · rw [gl_of_le (l := limbs a) (by show nl a ≤ t; omega)]; simp
      replace hMp := Lib.hid hMp
      replace hia := Lib.hid hia
      have hY1 := ho.arr hY hzx
      have hc1 := ho.cell hcE hsx
      have hb1 := hbE.trans (ho.below hlx hsE)
      have hs1 := hb1.size
      obtain ⟨W1, rfl⟩ : ∃ W1 : World, W1 = wr := ⟨_, rfl⟩
      clear hMv ho hX hY hcE hbE hsE hi
      go_wp2_with (fail)
      go_loopw [13, 14, 43] (fun vi vx ct wr => ∃ (i : Nat) (Q : List Nat), ct = .int .i64 i ∧ i ≤ nl b ∧ Only bz W1 wr ∧ Arr wr bz Q ∧ Hid (Q.length = n) ∧ Hid (∀ t, gl Q t = if t < i then gl (limbs b) t % p else 0)) (fun vi vx ct wr => nl b - (intOf ct).toNat)
      case atStart => exact ⟨0, _, rfl, Nat.zero_le _, .refl _ _, hY1, Lib.hid (by simp), Lib.hid (fun t => by rw [if_neg (by omega), gl_rep])⟩
      case round =>
        obtain ⟨j, Q, rfl, hj, ho, hQ, hQl, hQv⟩ := hrel
        by_cases hlt : j < nl b
        · obtain ⟨ad, rfl, hcx⟩ := (hB.rd.below (hb1.trans (ho.below hlz hs1))).get j hlt
          have hxl := (lim_limbs b).gl j
          obtain ⟨x, hx⟩ : ∃ x, x = gl (limbs b) j := ⟨_, rfl⟩
          rw [← hx] at hcx hxl
          replace hx := Lib.hid hx
          have hcp := ho.cell hc1 hsz
          have hjn : j < n := by omega
          have hc2 := hQ.cell j (by rw [hQl.out]; exact hjn)
          have hf2 := hQ.frozen j
          obtain ⟨y, hy⟩ : ∃ y, y = x % p := ⟨_, rfl⟩
          have hyI : (x : Int) % (p : Int) = (y : Int) := by rw [hy]; simp
          have hyp : y < p := by rw [hy]; exact Nat.mod_lt _ (by omega)
          replace hy := Lib.hid hy
          go_wp2_with (fail)
          go_roundw
          case rel =>
            refine ⟨j + 1, Q.set j y, by go_num, by omega, ho.store _ _, hQ.store j y, Lib.hid (by simp [hQl.out]), Lib.hid (fun t => ?_)⟩
            by_cases e : t = j
            · have c : t < j + 1 := by omega
              rw [if_pos c, e, gl_set_eq' (by rw [hQl.out]; exact hjn), hy.out, hx.out]
            · rw [gl_set_ne' (by omega), hQv.out t]
              by_cases c : t < j
              · rw [if_pos c, if_pos (by omega)]
              · rw [if_neg c, if_neg (by omega)]
          case measure => simp only [intOf]; omega
        · have hjb : j = nl b := by omega
          have hQp : ∀ t, gl Q t = gl (limbs b) t % p := fun t => by
            rw [hQv.out t]
            split
            · rfl
            · rw [gl_of_le (l := limbs b) (by show nl b ≤ t; omega)]; simp
          replace hQp := Lib.hid hQp
          replace hjb := Lib.hid hjb
          have hcp := ho.cell hc1 hsz
          have hM2 := ho.arr hM hxz
          have hb2 := hb1.trans (ho.below hlz hs1)
          have hs2 := hb2.size
          clear hQv ho hM hY1 hc1 hb1 hs1 hj
          obtain ⟨rw', hrw⟩ : ∃ r, r = rt p k := ⟨_, rfl⟩
          have hrwp : rw' < p := by rw [hrw]; exact Nat.mod_lt _ (by omega)
          have CR := froot_c p k wr hp2 (by omega) hk
          rw [show 3 ^ ((p - 1) / 2 ^ k) % p = rw' from hrw.symm] at CR
          replace CR := Lib.hid CR
          replace hrw := Lib.hid hrw
          unfold fld at CR
          go_wp2_with (fail)
          refine CR.out.mono ?_
          rintro e W3 ⟨rfl, hbd⟩
          clear CR
          haveI hnz : NeZero p := ⟨by omega⟩
          obtain ⟨φ, hφ⟩ : ∃ φ : Nat → Fin p, Hom p φ := ⟨_, hom_fin p⟩
          have hM3 := hM2.below hbd
          have hQ3 := hQ.below hbd
          have hc3 := cell_below hbd hcp
          have hb3 := hb2.cons hbd
          have hs3 := hb3.size
          have CX := run_c p bx k rw' M W3 hφ (by omega) hpB hk hM3 (by rw [hMl.out, HNK.out]) (fun t => by rw [hMp.out]; exact Nat.mod_lt _ (by omega)) hrwp (by rw [hrw.out]; exact HPP.out.root hφ k hk)
          rw [← HNK.out] at CX
          unfold fld at CX
          replace CX := Lib.hid CX
          clear hM2 hQ hcp hb2 hs2 hbd
          go_wp2_with (fail)
          refine CX.out.mono ?_
          rintro e W4 ⟨rfl, ho4, X, hX4, hXl, hXp, hXv⟩
          replace hXl := Lib.hid hXl
          replace hXp := Lib.hid hXp
          replace hXv := Lib.hid hXv
          have hQ4 := ho4.arr hQ3 hzx
          have hc4 := ho4.cell hc3 hsx
          have hb4 := hb3.trans (ho4.below hlx hs3)
          have hs4 := hb4.size
          have CY := run_c p bz k rw' Q W4 hφ (by omega) hpB hk hQ4 (by rw [hQl.out, HNK.out]) (fun t => by rw [hQp.out]; exact Nat.mod_lt _ (by omega)) hrwp (by rw [hrw.out]; exact HPP.out.root hφ k hk)
          rw [← HNK.out] at CY
          unfold fld at CY
          replace CY := Lib.hid CY
          clear hM3 hQ3 hc3 hb3 hs3 ho4 CX
          go_wp2_with (fail)
          refine CY.out.mono ?_
          rintro e W5 ⟨rfl, ho5, Y, hY5, hYl, hYp, hYv⟩
          replace hYl := Lib.hid hYl
          replace hYp := Lib.hid hYp
          replace hYv := Lib.hid hYv
          have hX5 := ho5.arr hX4 hxz
          have hc5 := ho5.cell hc4 hsz
          have hb5 := hb4.trans (ho5.below hlz hs4)
          have hs5 := hb5.size
          clear hX4 hQ4 hc4 hb4 hs4 ho5 CY
          go_wp2_with (fail)
          go_loopw [16, 72] (fun vi ct wr => ∃ (i : Nat) (L : List Nat), ct = .int .i64 i ∧ i ≤ n ∧ Only bx W5 wr ∧ Arr wr bx L ∧ Hid (L.length = n) ∧ Hid (∀ t, gl L t = if t < i then gl X t * gl Y t % p else gl X t)) (fun vi ct wr => n - (intOf ct).toNat)
          case atStart => exact ⟨0, X, rfl, Nat.zero_le _, .refl _ _, hX5, Lib.hid hXl.out, Lib.hid (fun t => by rw [if_neg (by omega)])⟩
          case round =>
            obtain ⟨i, L, rfl, hi, ho, hL, hLl, hLv⟩ := hrel
            by_cases hlt : i < n
            · have hcp := ho.cell hc5 hsx
              have hYr := ho.arr hY5 hzx
              have q1 := hL.cell i (by rw [hLl.out]; exact hlt)
              have q2 := hYr.cell i (by rw [hYl.out]; exact hlt)
              have hxv : gl L i = gl X i := by rw [hLv.out i, if_neg (by omega)]
              have hxp := hXp.out i
              have hyp := hYp.out i
              obtain ⟨x, hx⟩ : ∃ x, x = gl X i := ⟨_, rfl⟩
              obtain ⟨y, hy⟩ : ∃ y, y = gl Y i := ⟨_, rfl⟩
              rw [hxv, ← hx] at q1
              rw [← hy] at q2 hyp
              rw [← hx] at hxp
              obtain ⟨z, hz⟩ : ∃ z, z = x * y % p := ⟨_, rfl⟩
              have CM := fun (W : World) => fmul_c p x y W (by omega) (by omega) (by omega) (by omega)
              rw [← hz] at CM
              unfold fld at CM
              replace CM := Lib.hid CM
              replace hx := Lib.hid hx
              replace hy := Lib.hid hy
              replace hz := Lib.hid hz
              have hd := (Below.refl wr.heap.size wr).drew
              have gp := cell_below hd hcp
              have g1 := cell_below hd q1
              have g2 := cell_below hd q2
              clear hxv
              go_wp2_with (fail)
              go_region_with (go_at_call 176; (with_reducible refine (CM.out _).mono ?_); rintro e V4 ⟨rfl, hbv⟩; have hLV := (show Arr wr.drew bx L from hL).below hbv; have fz := hLV.frozen i; have hcq := hLV.cell i (by rw [hLl.out]; exact hlt))
              all_goals
                go_wp2_with (fail)
                go_roundw
                case rel =>
                  refine ⟨i + 1, L.set i z, by go_num, by omega, (ho.drew.cons hbv).store _ _, hLV.store i z, Lib.hid (by simp [hLl.out]), Lib.hid (fun t => ?_)⟩
                  exact step_set (fun t => gl X t * gl Y t % p) (fun t => gl X t) hlt hLl.out (by rw [hz.out, hx.out, hy.out]) hLv.out t
                case measure => simp only [intOf]; omega
            · have hin : i = n := by omega
              have hcp := ho.cell hc5 hsx
              have hb6 := hb5.trans (ho.below hlx hs5)
              have hs6 := hb6.size
              have hLp : ∀ t, gl L t < p := fun t => by
                rw [hLv.out t]
                split
                · exact Nat.mod_lt _ (by omega)
                · exact hXp.out t
              have hLe : ∀ t, t < n → gl L t = gl X t * gl Y t % p := fun t ht => by rw [hLv.out t, if_pos (by omega)]
              replace hLp := Lib.hid hLp
              replace hLe := Lib.hid hLe
              replace hin := Lib.hid hin
              obtain ⟨iv, hiv⟩ : ∃ iv, iv = rw' ^ (p - 2) % p := ⟨_, rfl⟩
              have hivp : iv < p := by rw [hiv]; exact Nat.mod_lt _ (by omega)
              have CI := fun (W : World) => finv_c p rw' W hp2 (by omega) (by omega)
              rw [← hiv] at CI
              have CZ := fun (W : World) (hW : Arr W bx L) => run_c p bx k iv L W hφ (by omega) hpB hk hW (by rw [hLl.out, HNK.out]) hLp.out hivp (by
                rcases HPP.out.root hφ k hk with h | h
                · exact .inl h
                · right
                  have h1 := HPP.out.back hφ k
                  rw [← hrw.out, ← hiv] at h1
                  have h2 : pw (φ rw' * φ iv) (2 ^ (k - 1)) = 1 := by rw [h1, pw_one]
                  rw [pw_base, hrw.out, h] at h2
                  grind)
              rw [← HNK.out] at CZ
              unfold fld at CI CZ
              replace CI := Lib.hid CI
              replace CZ := Lib.hid CZ
              replace hiv := Lib.hid hiv
              have hd := (Below.refl wr.heap.size wr).drew
              have gp := cell_below hd hcp
              have gb := hb6.cons hd
              have gL := hL.below hd
              clear hLv ho hX5 hc5 hb5 hs5 hi
              go_wp2_with (fail)
              go_region_held3 (fun W => W.cell? ⟨w.heap.size, 0, none⟩ = some (.int .u64 (p : Nat)))
                (first
                  | exact gp
                  | exact gp7
                  | exact gp8
                  | go_keep)
                (first
                  | (go_at_call 175; (with_reducible refine (CI.out _).mono ?_); rintro e W7 ⟨rfl, hb7⟩; have gp7 := cell_below hb7 gp; have gb7 := gb.cons hb7; have gL7 := gL.below hb7)
                  | (go_at_call 185; (with_reducible refine (CZ.out _ gL7).mono ?_); rintro e W8 ⟨rfl, ho8, Z, hZ, hZl, hZp, hZv⟩; have gp8 := ho8.cell gp7 hsx; have gb8 := gb7.trans (ho8.below hlx gb7.size)))
              replace hZl := Lib.hid hZl
              replace hZp := Lib.hid hZp
              replace hZv := Lib.hid hZv
              have hs8 := gb8.size
              obtain ⟨ov, hov⟩ : ∃ ov, ov = n ^ (p - 2) % p := ⟨_, rfl⟩
              have hovp : ov < p := by rw [hov]; exact Nat.mod_lt _ (by omega)
              have CO := fun (W : World) => finv_c p n W hp2 (by omega) (by omega)
              rw [← hov] at CO
              unfold fld at CO
              replace CO := Lib.hid CO
              replace hov := Lib.hid hov
              have zn : IntKind.u64.wrap (n : Int) = (n : Int) := IntWalk.u64_in _ (by omega)
              have hd8 := (Below.refl W8.heap.size W8).drew
              have g9 := cell_below hd8 gp8
              have gb9 := gb8.cons hd8
              have gZ9 := hZ.below hd8
              clear gp gb gL gp7 gb7 gL7 hcp hb6 hs6 CI CZ ho8
              go_wp2_with (fail)
              go_region_held3 (fun W => W.cell? ⟨w.heap.size, 0, none⟩ = some (.int .u64 (p : Nat)))
                (first
                  | exact g9
                  | exact g10
                  | go_keep)
                (first
                  | (go_at_call 175; (with_reducible refine (CO.out _).mono ?_); rintro e W10 ⟨rfl, hb10⟩; have g10 := cell_below hb10 g9; have gb10 := gb9.cons hb10; have gZ10 := gZ9.below hb10))
              clear g9 gb9 gZ9 hd8 CO hs8
              have hs10 := gb10.size
              obtain ⟨WA, rfl⟩ : ∃ WA : World, WA = W10 := ⟨_, rfl⟩
              go_wp2_with (fail)
              go_loopw [18, 102] (fun vi ct wr => ∃ (i : Nat) (L : List Nat), ct = .int .i64 i ∧ i ≤ n ∧ Only bx WA wr ∧ Arr wr bx L ∧ Hid (L.length = n) ∧ Hid (∀ t, gl L t = if t < i then gl Z t * ov % p else gl Z t)) (fun vi ct wr => n - (intOf ct).toNat)
              case atStart => exact ⟨0, Z, rfl, Nat.zero_le _, .refl _ _, gZ10, Lib.hid hZl.out, Lib.hid (fun t => by rw [if_neg (by omega)])⟩
              case round =>
                obtain ⟨i, L, rfl, hi, ho, hL, hLl, hLv⟩ := hrel
                by_cases hlt : i < n
                · have hcp := ho.cell g10 hsx
                  have q1 := hL.cell i (by rw [hLl.out]; exact hlt)
                  have hxv : gl L i = gl Z i := by rw [hLv.out i, if_neg (by omega)]
                  have hxp := hZp.out i
                  obtain ⟨x, hx⟩ : ∃ x, x = gl Z i := ⟨_, rfl⟩
                  rw [hxv, ← hx] at q1
                  rw [← hx] at hxp
                  obtain ⟨z, hz⟩ : ∃ z, z = x * ov % p := ⟨_, rfl⟩
                  have CM := fun (W : World) => fmul_c p x ov W (by omega) (by omega) (by omega) (by omega)
                  rw [← hz] at CM
                  unfold fld at CM
                  replace CM := Lib.hid CM
                  replace hx := Lib.hid hx
                  replace hz := Lib.hid hz
                  have hd := (Below.refl wr.heap.size wr).drew
                  have gp := cell_below hd hcp
                  have g1 := cell_below hd q1
                  clear hxv
                  go_wp2_with (fail)
                  go_region_with (go_at_call 176; (with_reducible refine (CM.out _).mono ?_); rintro e V4 ⟨rfl, hbv⟩; have hLV := (show Arr wr.drew bx L from hL).below hbv; have fz := hLV.frozen i; have hcq := hLV.cell i (by rw [hLl.out]; exact hlt))
                  all_goals
                    go_wp2_with (fail)
                    go_roundw
                    case rel =>
                      refine ⟨i + 1, L.set i z, by go_num, by omega, (ho.drew.cons hbv).store _ _, hLV.store i z, Lib.hid (by simp [hLl.out]), Lib.hid (fun t => ?_)⟩
                      exact step_set (fun t => gl Z t * ov % p) (fun t => gl Z t) hlt hLl.out (by rw [hz.out, hx.out]) hLv.out t
                    case measure => simp only [intOf]; omega
                · have hin2 : i = n := by omega
                  have hfin : ∀ t, t < n → gl L t = cv (gl (limbs a)) (gl (limbs b)) (nl a) t % p := fun t ht => by
                    rw [hLv.out t, if_pos (by omega), hov.out, HNK.out]
                    refine conv_math HPP.out hφ k (nl a) (nl b) hk (gl (limbs a)) (gl (limbs b)) (gl X) (gl Y) (gl Z) (fun i hi => gl_of_le hi) (fun i hi => gl_of_le hi) (by rw [← HNK.out]; exact hN) (nl_pos.2 hb) (by rw [← HNK.out]; exact hla) (by rw [← HNK.out]; exact hlb) ?_ ?_ ?_ t (by rw [← HNK.out]; exact ht)
                    · intro t ht
                      rw [hXv.out t (by rw [HNK.out]; exact ht), HNK.out, hrw.out]
                      refine sm_congr fun j _ => ?_
                      show φ (gl M j) * _ = _
                      rw [hMp.out j, hφ.modp]
                    · intro t ht
                      rw [hYv.out t (by rw [HNK.out]; exact ht), HNK.out, hrw.out]
                      refine sm_congr fun j _ => ?_
                      show φ (gl Q j) * _ = _
                      rw [hQp.out j, hφ.modp]
                    · intro t ht
                      rw [hZv.out t (by rw [HNK.out]; exact ht), HNK.out, hiv.out, hrw.out]
                      refine sm_congr fun j hj => ?_
                      show φ (gl _ j) * _ = _
                      rw [hLe.out j (by rw [HNK.out]; exact hj)]
                  go_wp2_with (fail)
                  go_ret
                  exact ⟨bx, L, rfl, hlx, hL, hLl.out, hfin, gb10.trans (ho.below hlx hs10)⟩
def pm : Nat → Nat → Nat → Nat → Nat
  | 0, _, _, m => 1 % m
  | f + 1, b, e, m => if e % 2 = 1 then pm f (b * b % m) (e / 2) m * b % m else pm f (b * b % m) (e / 2) m
theorem pm_eq (f b e m : Nat) (h : e < 2 ^ f) : pm f b e m = b ^ e % m := by
  induction f generalizing b e with
  | zero =>
    have : e = 0 := by simpa using h
    rw [this]; rfl
  | succ f ih =>
    have h2 : e / 2 < 2 ^ f := by rw [Nat.pow_succ] at h; omega
    have hb : b ^ e = b ^ (e % 2) * (b * b) ^ (e / 2) := by
      rw [← Nat.pow_two, ← Nat.pow_mul, ← Nat.pow_add]
      congr 1; omega
    rw [pm, ih _ _ h2, ← Nat.pow_mod]
    split
    · rename_i h1
      rw [hb, h1, Nat.pow_one, Nat.mod_mul_mod, Nat.mul_comm]
    · have h1 : e % 2 = 0 := by omega
      rw [hb, h1, Nat.pow_zero, Nat.one_mul]
theorem prm_of (p : Nat) (h1 : 2 < p) (h2 : p < 1073741824) (h3 : p % 1048576 = 1) (h4 : pm 30 3 ((p - 1) / 2) p = p - 1) (h5 : pm 30 2 (p - 1) p = 1) : Prm p :=
  ⟨h1, h2, h3, (pm_eq 30 _ _ _ (by show _ < 1073741824; omega)).symm.trans h4, by rw [← pm_eq 30 _ _ _ (by show _ < 1073741824; omega)]; exact h5⟩
theorem prm0 : Prm 998244353 := prm_of _ (by decide) (by decide) (by decide) (by decide +kernel) (by decide +kernel)
theorem prm1 : Prm 469762049 := prm_of _ (by decide) (by decide) (by decide) (by decide +kernel) (by decide +kernel)
theorem prm2 : Prm 167772161 := prm_of _ (by decide) (by decide) (by decide) (by decide +kernel) (by decide +kernel)

theorem finv_pm (p a v : Nat) (w : World) (hp : 2 < p) (hp2 : p < 1073741824) (ha : a < 18446744073709551616) (hv : pm 30 a (p - 2) p = v) :
    Calls Tryz.prog 175 #[fld p, .int .u64 (a : Nat)] w (RetU w v) := by
  rw [← hv, pm_eq _ _ _ _ (by show _ < 1073741824; omega)]
  exact finv_c p a w hp (by omega) ha

theorem crt (S p m i : Nat) (hm : 1 < m) (h : p * i % m = 1) : (S % m + m - S % p % m) % m * i % m = S / p % m := by
  haveI : NeZero m := ⟨by omega⟩
  obtain ⟨φ, hφ⟩ : ∃ φ : Nat → Fin m, Hom m φ := ⟨_, hom_fin m⟩
  refine hφ.eq (Nat.mod_lt _ (by omega)) ?_
  have h1 : φ (p * i) = 1 := by rw [← hφ.modp, h, hφ.one]
  rw [hφ.mul] at h1
  have h2 : φ S = φ p * φ (S / p) + φ (S % p) := by rw [← hφ.mul, ← hφ.add, Nat.div_add_mod]
  have h3 := Nat.mod_lt (S % p) (show 0 < m by omega)
  rw [hφ.modp, hφ.mul, hφ.sub (by omega), hφ.modp, hφ.modp, h2]
  grind
theorem crt3 (S p q m n i j : Nat) (hq : q = p * m) (hm : 1 < m) (hn : 1 < n) (h1 : p * i % m = 1) (h2 : q * j % n = 1) (hS : S < q * n) (x y low z : Nat) (hx : x = S % p) (hy : y = (S % m + m - x % m) % m * i % m) (hl : low = x + y * p) (hz : z = (S % n + n - low % n) % n * j % n) :
    low = S % q ∧ z = S / q ∧ z * q + low = S := by
  have e1 : low = S % q := by rw [hl, hy, hx, crt S p m i hm h1, hq, Nat.mod_mul, Nat.mul_comm]
  have e2 : z = S / q := by
    rw [hz, e1, crt S q n j hn h2]
    exact Nat.mod_eq_of_lt (Nat.div_lt_of_lt_mul hS)
  exact ⟨e1, e2, by rw [e1, e2, Nat.mul_comm]; exact Nat.div_add_mod S q⟩

theorem pw_nat (x n : Nat) : pw x n = x ^ n := by
  induction n with
  | zero => rfl
  | succ n ih => rw [pw, ih, Nat.pow_succ]
theorem val_sm (l : List Nat) : ∀ k, k ≤ l.length → val (l.take k) = sm (fun s => gl l s * 4294967296 ^ s) k := by
  intro k
  induction k with
  | zero => intro _; simp [val, sm]
  | succ k ih => intro h; rw [val_take_succ _ _ h, ih (by omega), sm, Nat.mul_comm]
theorem psum_sm (f : Nat → Nat) (n : Nat) : psum f n = sm (fun j => f j * 4294967296 ^ j) n := by
  induction n with
  | zero => rfl
  | succ n ih => rw [psum, ih, sm]
theorem cv_mul (a b M : Nat) (hb : b ≠ 0) (hM : nl a + nl b ≤ M + 1) : psum (cv (gl (limbs a)) (gl (limbs b)) (nl a)) M = a * b := by
  have h := NatS.cv_poly (gl (limbs a)) (gl (limbs b)) (nl a) (nl b) M 4294967296 (fun t ht => gl_of_le ht) hM (nl_pos.2 hb)
  simp only [pw_nat] at h
  rw [psum_sm, h]
  have h1 := val_sm (limbs a) (nl a) (Nat.le_refl _)
  have h2 := val_sm (limbs b) (nl b) (Nat.le_refl _)
  rw [show (limbs a).take (nl a) = limbs a from List.take_of_length_le (Nat.le_refl _), val_limbs] at h1
  rw [show (limbs b).take (nl b) = limbs b from List.take_of_length_le (Nat.le_refl _), val_limbs] at h2
  rw [← h1, ← h2]
theorem cv_small (a b : List Nat) (ha : Lim a) (hb : Lim b) (n j : Nat) : cv (gl a) (gl b) n j ≤ n * (4294967295 * 4294967295) := by
  unfold cv
  induction n with
  | zero => simp [sm]
  | succ n ih =>
    rw [sm, Nat.add_mul, Nat.one_mul]
    refine Nat.add_le_add ih ?_
    split
    · exact Nat.mul_le_mul (Nat.le_of_lt_succ (ha.gl _)) (Nat.le_of_lt_succ (hb.gl _))
    · exact Nat.zero_le _
def Flds (w : World) : Prop := w.cell? ⟨2, 0, none⟩ = some (.int .u64 998244353) ∧ w.cell? ⟨2, 1, none⟩ = some (.int .u64 469762049) ∧ w.cell? ⟨2, 2, none⟩ = some (.int .u64 167772161)
theorem Flds.below {w w' : World} (h : Flds w) (hb : Below w.heap.size w w') : Flds w' := ⟨cell_below hb h.1, cell_below hb h.2.1, cell_below hb h.2.2⟩
theorem bitLen_gt (f x : Nat) (h : x < 2 ^ f) : x < 2 ^ Lib.bitLenAux f x := by
  induction f generalizing x with
  | zero => exact h
  | succ f ih =>
    rw [Lib.bitLenAux]
    by_cases e : x = 0
    · rw [if_pos e, e]; exact Nat.two_pow_pos _
    · rw [if_neg e]
      have h1 := ih (x / 2) (by rw [Nat.pow_succ] at h; omega)
      rw [Nat.add_comm, Nat.pow_succ]; omega
def pr : Nat → Nat
  | 0 => 998244353
  | 1 => 469762049
  | _ => 167772161

theorem idx0 (W : World) : (Instr.index 168 (.agg #[.int .u64 998244353, .int .u64 469762049, .int .u64 167772161]) (.int .i64 0)).run Tryz.prog W = .ok (.agg #[.int .u64 998244353]) W := by rfl
theorem idx1 (W : World) : (Instr.index 168 (.agg #[.int .u64 998244353, .int .u64 469762049, .int .u64 167772161]) (.int .i64 1)).run Tryz.prog W = .ok (.agg #[.int .u64 469762049]) W := by rfl
theorem idx2 (W : World) : (Instr.index 168 (.agg #[.int .u64 998244353, .int .u64 469762049, .int .u64 167772161]) (.int .i64 2)).run Tryz.prog W = .ok (.agg #[.int .u64 167772161]) W := by rfl
def Rst (W : World) (s N p a b : Nat) (u : Value) : Prop := ∃ bx X, u = .slice (some ⟨bx, 0, none⟩) N N ∧ bx ≠ s ∧ Arr W bx X ∧ X.length = N ∧ ∀ t, t < N → gl X t = cv (gl (limbs a)) (gl (limbs b)) (nl a) t % p
theorem Rst.only {W W' s N p a b u} (h : Rst W s N p a b u) (k : Only s W W') : Rst W' s N p a b u := by
  obtain ⟨bx, X, h1, h2, h3, h4⟩ := h
  exact ⟨bx, X, h1, h2, k.arr h3 h2, h4⟩

theorem inv1_c (W : World) : Calls Tryz.prog 175 #[.agg #[.int .u64 469762049], .int .u64 58720255] W fun e w' => e = .returned (.int .u64 208783132) ∧ Below W.heap.size W w' :=
  finv_pm 469762049 58720255 208783132 W (by decide) (by decide) (by decide) (by decide +kernel)
theorem inv2_c (W : World) : Calls Tryz.prog 175 #[.agg #[.int .u64 167772161], .int .u64 115762800] W fun e w' => e = .returned (.int .u64 29562547) ∧ Below W.heap.size W w' :=
  finv_pm 167772161 115762800 29562547 W (by decide) (by decide) (by decide) (by decide +kernel)
theorem info_r3 : (Tryz.prog.info? 162).map (fun i => (i.zero, i.size, i.bytes)) = some (some (.agg #[.int .u32 0, .int .u32 0, .int .u32 0]), 3, 12) := by kernel_rfl
theorem mkr3 (c : Int) (h0 : 0 ≤ c) (hc : c ≤ 4194304) : ∀ W : World, (Instr.makeSlice 149 (.int .i64 c) (.int .i64 c)).run Tryz.prog W =
    .ok (.slice (some ⟨W.heap.size, 0, none⟩) c.toNat c.toNat) (W.alloc (.cells (vals (List.replicate (3 * c.toNat) 0)).toArray 162)) := fun W => by
  obtain ⟨i0, hi, hz0, hz1, hz2⟩ := info_parts info_r3
  have := run_make (P := Tryz.prog) W 149 162 i0 _ Tryz.underlying149 hi hz0 .i64 .i64 c c h0 (Int.le_refl _) (by rw [hz2]; omega) (by omega)
  rw [hz1] at this
  rw [this]
  congr 4
  apply Array.ext_getElem?
  intro j
  have hz : ∀ m, m < 3 → (Value.agg #[.int .u32 0, .int .u32 0, .int .u32 0]).cells[m]! = .int .u32 0 := by
    intro m hm
    rcases m with _ | _ | _ | m
    · rfl
    · rfl
    · rfl
    · omega
  by_cases hj : j < c.toNat * 3
  · have hj2 : j < 3 * c.toNat := by omega
    have h3 := hz (j % 3) (Nat.mod_lt _ (by decide))
    simp only [madeCells, Array.getElem?_map, List.getElem?_toArray, vals, List.getElem?_map]
    rw [Array.getElem?_range, if_pos hj]
    simp [List.getElem?_replicate, hj2]
    exact h3
  · have hj2 : ¬ j < 3 * c.toNat := by omega
    simp [madeCells, vals, List.getElem?_replicate, hj, hj2]
theorem sub1_c (r x : Nat) (W : World) (hr : r < 469762049) (hx : x < 469762049) : Calls Tryz.prog 177 #[.agg #[.int .u64 469762049], .int .u64 (r : Nat), .int .u64 (x : Nat)] W (RetU W ((r + 469762049 - x) % 469762049)) :=
  fsub_c 469762049 r x W (by decide) (by decide) hr hx
theorem mul1_c (d : Nat) (W : World) (hd : d < 4294967296) : Calls Tryz.prog 176 #[.agg #[.int .u64 469762049], .int .u64 (d : Nat), .int .u64 208783132] W (RetU W (d * 208783132 % 469762049)) :=
  fmul_c 469762049 d 208783132 W (by decide) (by decide) hd (by decide)
theorem sub2_c (r x : Nat) (W : World) (hr : r < 167772161) (hx : x < 167772161) : Calls Tryz.prog 177 #[.agg #[.int .u64 167772161], .int .u64 (r : Nat), .int .u64 (x : Nat)] W (RetU W ((r + 167772161 - x) % 167772161)) :=
  fsub_c 167772161 r x W (by decide) (by decide) hr hx
theorem mul2_c (d : Nat) (W : World) (hd : d < 4294967296) : Calls Tryz.prog 176 #[.agg #[.int .u64 167772161], .int .u64 (d : Nat), .int .u64 29562547] W (RetU W (d * 29562547 % 167772161)) :=
  fmul_c 167772161 d 29562547 W (by decide) (by decide) hd (by decide)
theorem mulq_c (z : Nat) (w : World) (hz : z < 18446744073709551616) :
    Calls Tryz.prog 178 #[.int .u64 (z : Nat), .int .u64 468937312667959297] w fun e w' => e = .returned (.tuple #[.int .u64 ((z * 468937312667959297 / 18446744073709551616 : Nat) : Int), .int .u64 ((z * 468937312667959297 % 18446744073709551616 : Nat) : Int)]) ∧ w' = w :=
  mul64_c z 468937312667959297 w hz (by decide)
theorem add64_0 (x y : Nat) (w : World) :
    (callFunc 179 #[.int .u64 (x : Nat), .int .u64 (y : Nat), .int .u64 0]).run Tryz.prog w =
      .ok (.value (.tuple #[.int .u64 (((x + y) % 18446744073709551616 : Nat) : Int), .int .u64 (((x + y) / 18446744073709551616 : Nat) : Int)])) w :=
  add64_r x y 0 (by decide) w
theorem add_zero_off (o j : Nat) : (Addr.add ⟨o, 0, none⟩ j) = ⟨o, j, none⟩ := by
  unfold Addr.add
  by_cases h : j = 0 <;> simp [h]
theorem row_facts {W : World} {o j n : Nat} {L : List Nat} {t : TypeId} (h : W.heap[o]? = some (.cells (vals L).toArray t (0, 0))) (hl : L.length = n) (hj : j + 2 < n) :
    ((∃ x, W.cell? ⟨o, j, none⟩ = some x) ∧ W.frozen? ⟨o, j, none⟩ = false) ∧
    (∀ v, (∃ x, (W.setCell ⟨o, j, none⟩ v).cell? ⟨o, j + 1, none⟩ = some x) ∧ (W.setCell ⟨o, j, none⟩ v).frozen? ⟨o, j + 1, none⟩ = false) ∧
    (∀ v v', (∃ x, ((W.setCell ⟨o, j, none⟩ v).setCell ⟨o, j + 1, none⟩ v').cell? ⟨o, j + 2, none⟩ = some x) ∧ ((W.setCell ⟨o, j, none⟩ v).setCell ⟨o, j + 1, none⟩ v').frozen? ⟨o, j + 2, none⟩ = false) ∧
    (∀ a b c : Nat, (((W.setCell ⟨o, j, none⟩ (.int .u32 (a : Nat))).setCell ⟨o, j + 1, none⟩ (.int .u32 (b : Nat))).setCell ⟨o, j + 2, none⟩ (.int .u32 (c : Nat))).heap[o]? = some (.cells (vals (((L.set j a).set (j + 1) b).set (j + 2) c)).toArray t (0, 0))) := by
  have h1 := fun v => heap_setCell_same W o j _ _ v h
  have h2 := fun v v' => heap_setCell_same _ o (j + 1) _ _ v' (h1 v)
  have h3 := fun v v' v'' => heap_setCell_same _ o (j + 2) _ _ v'' (h2 v v')
  refine ⟨⟨?_, ?_⟩, fun v => ⟨?_, ?_⟩, fun v v' => ⟨?_, ?_⟩, fun a b c => ?_⟩
  · unfold World.cell?; rw [h]; exact ⟨_, Array.getElem?_eq_getElem (by simp [vals]; omega)⟩
  · unfold World.frozen?; rw [h]; simp
  · unfold World.cell?; rw [h1]; exact ⟨_, Array.getElem?_eq_getElem (by simp [vals]; omega)⟩
  · unfold World.frozen?; rw [h1]; simp
  · unfold World.cell?; rw [h2]; exact ⟨_, Array.getElem?_eq_getElem (by simp [vals]; omega)⟩
  · unfold World.frozen?; rw [h2]; simp
  · rw [h3]; simp [vals, List.map_set]
theorem row_val {L : List Nat} {i n a b c S : Nat} {f : Nat → Nat} (hl : L.length = 3 * n) (hi : i < n) (hS : a + 4294967296 * b + 4294967296 * 4294967296 * c = S) (hf : S = f i)
    (h : ∀ j, j < i → gl L (3 * j) + 4294967296 * gl L (3 * j + 1) + 4294967296 * 4294967296 * gl L (3 * j + 2) = f j) :
    ∀ j, j < i + 1 → gl (((L.set (i * 3) a).set (i * 3 + 1) b).set (i * 3 + 2) c) (3 * j) + 4294967296 * gl (((L.set (i * 3) a).set (i * 3 + 1) b).set (i * 3 + 2) c) (3 * j + 1) + 4294967296 * 4294967296 * gl (((L.set (i * 3) a).set (i * 3 + 1) b).set (i * 3 + 2) c) (3 * j + 2) = f j := by
  intro j hj
  by_cases e : j = i
  · subst e
    rw [gl_set_ne' (by omega), gl_set_ne' (by omega), show 3 * j = j * 3 by omega, gl_set_eq' (by omega), gl_set_ne' (by omega), gl_set_eq' (by simp; omega), gl_set_eq' (by simp; omega), hS, hf]
  · rw [gl_set_ne' (by omega), gl_set_ne' (by omega), gl_set_ne' (by omega), gl_set_ne' (by omega), gl_set_ne' (by omega), gl_set_ne' (by omega), gl_set_ne' (by omega), gl_set_ne' (by omega), gl_set_ne' (by omega)]
    exact h j (by omega)
theorem rowsV_psum' (L : List Nat) (f : Nat → Nat) (n : Nat) (h : ∀ j, j < n → gl L (3 * j) + 4294967296 * gl L (3 * j + 1) + 4294967296 * 4294967296 * gl L (3 * j + 2) = f j) : rowsV L n = psum f n := by
  induction n with
  | zero => rfl
  | succ n ih => rw [rowsV, psum, ih (fun j hj => h j (by omega)), h n (by omega)]
theorem two_new (W : World) (x y : Value) : (((W.alloc (.cells #[.int .u64 0] 167)).setCell ⟨W.heap.size, 0, none⟩ x).alloc (.cells #[y] 167)).cell? ⟨W.heap.size, 0, none⟩ = some x ∧
    (((W.alloc (.cells #[.int .u64 0] 167)).setCell ⟨W.heap.size, 0, none⟩ x).alloc (.cells #[y] 167)).cell? ⟨W.heap.size + 1, 0, none⟩ = some y ∧
    Below W.heap.size W (((W.alloc (.cells #[.int .u64 0] 167)).setCell ⟨W.heap.size, 0, none⟩ x).alloc (.cells #[y] 167)) := by
  have h1 := heap_setCell_same _ W.heap.size 0 _ _ x (heap_alloc_new W (.cells #[.int .u64 0] 167))
  have hb1 : Below W.heap.size W (W.alloc (.cells #[.int .u64 0] 167)) := (Below.refl _ _).alloc (Nat.le_refl _) _
  have hb2 := hb1.setCell (p := ⟨W.heap.size, 0, none⟩) (Nat.le_refl _) x
  have hs : ((W.alloc (.cells #[.int .u64 0] 167)).setCell ⟨W.heap.size, 0, none⟩ x).heap.size = W.heap.size + 1 := by simp
  refine ⟨?_, ?_, hb2.alloc hb2.size _⟩
  · unfold World.cell?
    rw [Below.heap_alloc _ _ _ (by rw [hs]; exact Nat.lt_succ_self _), h1]; rfl
  · unfold World.cell?
    rw [← hs, heap_alloc_new]; rfl

theorem conv_c (A : Option Addr) (ca a : Nat) (B : Option Addr) (cb b : Nat) (w : World) (hA : NatV w A ca a) (hB : NatV w B cb b) (hG : Flds w) (ha : nl a ≤ 16384) (hb : nl b ≤ 16384) :
    Calls Tryz.prog 165 #[.slice A (nl a) ca, .slice B (nl b) cb] w fun e w' => ∃ X c n L, e = .returned (.slice X n c) ∧ L.length = 3 * n ∧ Rd w' X L ∧ Lim L ∧ n ≤ c ∧ n ≤ 32768 ∧ rowsV L n = a * b ∧ Below w.heap.size w w' := by
  by_cases h0 : nl a = 0 ∨ nl b = 0
  · have hab : a * b = 0 := by
      rcases h0 with h | h
      · rw [nl_eq_zero.1 h, Nat.zero_mul]
      · rw [nl_eq_zero.1 h, Nat.mul_zero]
    rw [hab]
    by_cases h1 : nl a = 0
    · rw [h1]
      go_enter Tryz.func165, Tryz.ntmps165
      go_wp2_with (fail)
      go_ret
      exact ⟨none, 0, 0, [], rfl, rfl, .inl rfl, Lim.nil, Nat.le_refl _, by decide, rfl, .refl _ _⟩
    · have h2 : nl b = 0 := by omega
      have h1' : ((nl a : Int) == 0) = false := ieqF (by omega)
      rw [h2]
      go_enter Tryz.func165, Tryz.ntmps165
      go_wp2_with (fail)
      go_ret
      exact ⟨none, 0, 0, [], rfl, rfl, .inl rfl, Lim.nil, Nat.le_refl _, by decide, rfl, .refl _ _⟩
  · have hb0 : b ≠ 0 := fun e => h0 (.inr (nl_eq_zero.2 e))
    have h1 : ((nl a : Int) == 0) = false := ieqF (by omega)
    have h2 : ((nl b : Int) == 0) = false := ieqF (by omega)
    obtain ⟨n, hn⟩ : ∃ n, n = nl a + nl b - 1 := ⟨_, rfl⟩
    have hn1 : 1 ≤ n := by omega
    have hnI : (nl a : Int) + (nl b : Int) = (n : Int) + 1 := by omega
    have hnB : n ≤ 32767 := by omega
    obtain ⟨n', hn'⟩ : ∃ n', n' = n - 1 := ⟨_, rfl⟩
    have hn'I : (n : Int) - 1 = (n' : Int) := by omega
    obtain ⟨k, hk⟩ : ∃ k, k = Lib.bitLen n' := ⟨_, rfl⟩
    have hk15 : k ≤ 15 := by rw [hk]; exact Lib.bitLen_le n' 15 (by decide) (by show n' < 32768; omega)
    have hnk : n ≤ 2 ^ k := by
      have : n' < 2 ^ k := by rw [hk]; exact bitLen_gt 64 n' (by show n' < 18446744073709551616; omega)
      omega
    have CL := fun (W : World) => len_c n' W (by omega)
    rw [← hk] at CL
    replace CL := Lib.hid CL
    have HN := Lib.hid hn
    have HN' := Lib.hid hn'
    replace hk := Lib.hid hk
    have CA := fun (p : Nat) (hP : Prm p) (W : World) (hA : NatV W A ca a) (hB : NatV W B cb b) => around_c p k A ca a B cb b W hP (by omega) hA hB hb0 (by omega) (by omega) (by omega)
    replace CA := Lib.hid CA
    have hu1 := Tryz.underlying168
    have hu2 := Tryz.underlying167
    have hu3 := Tryz.underlying165
    obtain ⟨g0, g1, g2⟩ := hG
    have h00 : 2 < w.heap.size := World.block_lt_of_cell? w _ g0
    clear hn hn' h0
    go_enter Tryz.func165, Tryz.ntmps165
    go_wp2_with (fail)
    refine (CL.out w).mono ?_
    rintro e w1 ⟨rfl, hw1⟩
    rw [hw1]
    clear hw1
    have hb1 : Below w.heap.size w (w.alloc (.cells #[.slice none 0 0, .slice none 0 0, .slice none 0 0] 165)) := (Below.refl _ _).alloc (Nat.le_refl _) _
    have hobj := heap_alloc_new w (.cells #[.slice none 0 0, .slice none 0 0, .slice none 0 0] 165)
    replace g0 := cell_below hb1 g0
    replace g1 := cell_below hb1 g1
    replace g2 := cell_below hb1 g2
    obtain ⟨s, hs⟩ : ∃ s, s = w.heap.size := ⟨_, rfl⟩
    obtain ⟨N, hN⟩ : ∃ N, N = 2 ^ k := ⟨_, rfl⟩
    rw [← hN] at hnk
    have HNN := Lib.hid hN
    have CA2 := fun p hP W h1 h2 => CA.out p hP W h1 h2
    rw [← hN] at CA2
    replace CA2 := Lib.hid CA2
    clear CA hN
    have hs0 : 2 ≠ s := by omega
    go_wp2_with (fail)
    rw [← hs] at hobj ⊢
    have hsl : w.heap.size ≤ s := by omega
    clear hs
    generalize w.alloc (.cells #[.slice none 0 0, .slice none 0 0, .slice none 0 0] 165) = W0 at *
    have hsW := hb1.size
    go_loopw [8, 9, 44] (fun vi vf ct wr => ∃ (i : Nat) (u0 u1 u2 : Value), ct = .int .i64 i ∧ i ≤ 3 ∧ Only s W0 wr ∧ wr.heap[s]? = some (.cells #[u0, u1, u2] 165 (0, 0)) ∧ Hid ((0 < i → Rst wr s N 998244353 a b u0) ∧ (1 < i → Rst wr s N 469762049 a b u1) ∧ (2 < i → Rst wr s N 167772161 a b u2))) (fun vi vf ct wr => 3 - (intOf ct).toNat)
    case atStart => exact ⟨0, _, _, _, rfl, by decide, .refl _ _, hobj, Lib.hid ⟨fun h => absurd h (by decide), fun h => absurd h (by decide), fun h => absurd h (by decide)⟩⟩
    case round =>
      obtain ⟨i, u0, u1, u2, rfl, hi, ho, hob, hR⟩ := hrel
      have hbr := hb1.trans (ho.below hsl hsW)
      have hAr := hA.below hbr
      have hBr := hB.below hbr
      by_cases hlt : i < 3
      · rcases i with _ | _ | _ | i
        · have hbB : Below wr.heap.size wr (wr.alloc (.cells #[.int .u64 998244353] 167)) := (Below.refl _ _).alloc (Nat.le_refl _) _
          have hcB : (wr.alloc (.cells #[.int .u64 998244353] 167)).cell? ⟨wr.heap.size, 0, none⟩ = some (.int .u64 998244353) := by
            unfold World.cell?; rw [heap_alloc_new]; rfl
          have hix := idx0
          have CC := CA2.out 998244353 prm0 _ (hAr.below hbB) (hBr.below hbB)
          unfold fld at CC
          rw [show ((998244353 : Nat) : Int) = 998244353 from rfl] at CC
          replace CC := Lib.hid CC
          have hsr : s < wr.heap.size := (Array.getElem?_eq_some_iff.1 hob).1
          go_wp2_with (fail)
          refine CC.out.mono ?_
          rintro e W2 ⟨bx, X, rfl, hbxl, hX, hXl, hXv, hb2⟩
          have hoW : Only s W0 W2 := (ho.cons hbB).cons hb2
          have hob2 := (hb2.block s (Nat.lt_of_lt_of_le hsr hbB.size)).trans ((hbB.block s hsr).trans hob)
          obtain ⟨⟨k0, k1, k2⟩, z0, z1, z2⟩ := at_cells hob2
          have hbxs : bx ≠ s := by have := hbB.size; omega
          replace hXv := Lib.hid hXv
          go_wp2_with (fail)
          go_roundw
          case rel =>
            refine ⟨1, .slice (some ⟨bx, 0, none⟩) N N, u1, u2, by go_num, by decide, hoW.store _ _, heap_setCell_same _ s 0 _ _ _ hob2, Lib.hid ⟨?_, ?_, ?_⟩⟩
            · exact fun _ => ⟨bx, X, rfl, hbxs, (Only.set s W2 _ _).arr hX hbxs, hXl, hXv.out⟩
            · exact fun h => absurd h (by decide)
            · exact fun h => absurd h (by decide)
          case measure => simp only [intOf]; decide
        · have hbB : Below wr.heap.size wr (wr.alloc (.cells #[.int .u64 469762049] 167)) := (Below.refl _ _).alloc (Nat.le_refl _) _
          have hcB : (wr.alloc (.cells #[.int .u64 469762049] 167)).cell? ⟨wr.heap.size, 0, none⟩ = some (.int .u64 469762049) := by
            unfold World.cell?; rw [heap_alloc_new]; rfl
          have hix := idx1
          have CC := CA2.out 469762049 prm1 _ (hAr.below hbB) (hBr.below hbB)
          unfold fld at CC
          rw [show ((469762049 : Nat) : Int) = 469762049 from rfl] at CC
          replace CC := Lib.hid CC
          have hsr : s < wr.heap.size := (Array.getElem?_eq_some_iff.1 hob).1
          go_wp2_with (fail)
          refine CC.out.mono ?_
          rintro e W2 ⟨bx, X, rfl, hbxl, hX, hXl, hXv, hb2⟩
          have hoW : Only s W0 W2 := (ho.cons hbB).cons hb2
          have hob2 := (hb2.block s (Nat.lt_of_lt_of_le hsr hbB.size)).trans ((hbB.block s hsr).trans hob)
          obtain ⟨⟨k0, k1, k2⟩, z0, z1, z2⟩ := at_cells hob2
          have hbxs : bx ≠ s := by have := hbB.size; omega
          replace hXv := Lib.hid hXv
          go_wp2_with (fail)
          go_roundw
          case rel =>
            refine ⟨2, u0, .slice (some ⟨bx, 0, none⟩) N N, u2, by go_num, by decide, hoW.store _ _, heap_setCell_same _ s 1 _ _ _ hob2, Lib.hid ⟨?_, ?_, ?_⟩⟩
            · exact fun _ => ((hR.out.1 (by decide)).only ((Only.of hbB).trans (Only.of hb2))).only (Only.set s W2 _ _)
            · exact fun _ => ⟨bx, X, rfl, hbxs, (Only.set s W2 _ _).arr hX hbxs, hXl, hXv.out⟩
            · exact fun h => absurd h (by decide)
          case measure => simp only [intOf]; decide
        · have hbB : Below wr.heap.size wr (wr.alloc (.cells #[.int .u64 167772161] 167)) := (Below.refl _ _).alloc (Nat.le_refl _) _
          have hcB : (wr.alloc (.cells #[.int .u64 167772161] 167)).cell? ⟨wr.heap.size, 0, none⟩ = some (.int .u64 167772161) := by
            unfold World.cell?; rw [heap_alloc_new]; rfl
          have hix := idx2
          have CC := CA2.out 167772161 prm2 _ (hAr.below hbB) (hBr.below hbB)
          unfold fld at CC
          rw [show ((167772161 : Nat) : Int) = 167772161 from rfl] at CC
          replace CC := Lib.hid CC
          have hsr : s < wr.heap.size := (Array.getElem?_eq_some_iff.1 hob).1
          go_wp2_with (fail)
          refine CC.out.mono ?_
          rintro e W2 ⟨bx, X, rfl, hbxl, hX, hXl, hXv, hb2⟩
          have hoW : Only s W0 W2 := (ho.cons hbB).cons hb2
          have hob2 := (hb2.block s (Nat.lt_of_lt_of_le hsr hbB.size)).trans ((hbB.block s hsr).trans hob)
          obtain ⟨⟨k0, k1, k2⟩, z0, z1, z2⟩ := at_cells hob2
          have hbxs : bx ≠ s := by have := hbB.size; omega
          replace hXv := Lib.hid hXv
          go_wp2_with (fail)
          go_roundw
          case rel =>
            refine ⟨3, u0, u1, .slice (some ⟨bx, 0, none⟩) N N, by go_num, by decide, hoW.store _ _, heap_setCell_same _ s 2 _ _ _ hob2, Lib.hid ⟨?_, ?_, ?_⟩⟩
            · exact fun _ => ((hR.out.1 (by decide)).only ((Only.of hbB).trans (Only.of hb2))).only (Only.set s W2 _ _)
            · exact fun _ => ((hR.out.2.1 (by decide)).only ((Only.of hbB).trans (Only.of hb2))).only (Only.set s W2 _ _)
            · exact fun _ => ⟨bx, X, rfl, hbxs, (Only.set s W2 _ _).arr hX hbxs, hXl, hXv.out⟩
          case measure => simp only [intOf]; decide
        · omega
      · obtain rfl : i = 3 := by omega
        obtain ⟨R0, R1, R2⟩ := hR.out
        replace R0 := R0 (by decide)
        replace R1 := R1 (by decide)
        replace R2 := R2 (by decide)
        replace g0 := ho.cell g0 hs0
        replace g1 := ho.cell g1 hs0
        replace g2 := ho.cell g2 hs0
        obtain ⟨W1, rfl⟩ : ∃ W1 : World, W1 = wr := ⟨_, rfl⟩
        have hsr : s < W1.heap.size := (Array.getElem?_eq_some_iff.1 hob).1
        have hd := (Below.refl W1.heap.size W1).drew
        have g0d := cell_below hd g0
        have g1d := cell_below hd g1
        have g2d := cell_below hd g2
        have hgW : 2 < W1.heap.size := World.block_lt_of_cell? W1 _ g1
        have hgN : ¬ 2 = W1.heap.size := by omega
        have hgM : ¬ W1.heap.size = 2 := by omega
        have hal1 : ∀ (m : Nat) (o : Obj), Below W1.heap.size W1 ((W1.drewN m).alloc o) := fun m o => ((Below.refl _ _).drewN m).alloc (Nat.le_refl _) o
        have hal2 : ∀ (m : Nat) (o o' : Obj), Below W1.heap.size W1 (((W1.drewN m).alloc o).alloc o') := fun m o o' => (hal1 m o).alloc (hal1 m o).size o'
        have e01 : ∀ (m : Nat), (W1.drewN m).cell? ⟨2, 1, none⟩ = some (.int .u64 469762049) := fun m => g1
        have e02 : ∀ (m : Nat), (W1.drewN m).cell? ⟨2, 2, none⟩ = some (.int .u64 167772161) := fun m => g2
        have e11 : ∀ (m : Nat) (o : Obj), ((W1.drewN m).alloc o).cell? ⟨2, 1, none⟩ = some (.int .u64 469762049) := fun m o => cell_below (hal1 m o) g1
        have e12 : ∀ (m : Nat) (o : Obj), ((W1.drewN m).alloc o).cell? ⟨2, 2, none⟩ = some (.int .u64 167772161) := fun m o => cell_below (hal1 m o) g2
        have e21 : ∀ (m : Nat) (o o' : Obj), (((W1.drewN m).alloc o).alloc o').cell? ⟨2, 1, none⟩ = some (.int .u64 469762049) := fun m o o' => cell_below (hal2 m o o') g1
        have e22 : ∀ (m : Nat) (o o' : Obj), (((W1.drewN m).alloc o).alloc o').cell? ⟨2, 2, none⟩ = some (.int .u64 167772161) := fun m o o' => cell_below (hal2 m o o') g2
        have hal3 : ∀ (m : Nat) (o o' : Obj) (v : Value), Below W1.heap.size W1 ((((W1.drewN m).alloc o).setCell ⟨W1.heap.size, 0, none⟩ v).alloc o') := fun m o o' v => ((hal1 m o).setCell (p := ⟨W1.heap.size, 0, none⟩) (Nat.le_refl _) v).alloc ((hal1 m o).setCell (p := ⟨W1.heap.size, 0, none⟩) (Nat.le_refl _) v).size o'
        have e31 : ∀ (m : Nat) (o o' : Obj) (v : Value), ((((W1.drewN m).alloc o).setCell ⟨W1.heap.size, 0, none⟩ v).alloc o').cell? ⟨2, 1, none⟩ = some (.int .u64 469762049) := fun m o o' v => cell_below (hal3 m o o' v) g1
        have e32 : ∀ (m : Nat) (o o' : Obj) (v : Value), ((((W1.drewN m).alloc o).setCell ⟨W1.heap.size, 0, none⟩ v).alloc o').cell? ⟨2, 2, none⟩ = some (.int .u64 167772161) := fun m o o' v => cell_below (hal3 m o o' v) g2
        clear hal3
        have st1 : ∀ (m : Nat) (u v : Value), (((W1.drewN m).alloc (.cells #[u] 167)).alloc (.cells #[v] 167)).heap[W1.heap.size]? = some (.cells #[u] 167 (0, 0)) := fun m u v => by
          rw [Below.heap_alloc _ _ _ (by simp)]; exact heap_alloc_new (W1.drewN m) _
        have st2 : ∀ (m : Nat) (u v : Value), (((W1.drewN m).alloc (.cells #[u] 167)).alloc (.cells #[v] 167)).cell? ⟨W1.heap.size, 0, none⟩ = some u := fun m u v => by
          unfold World.cell?; rw [st1]; rfl
        have st3 : ∀ (m : Nat) (u v : Value), (((W1.drewN m).alloc (.cells #[u] 167)).alloc (.cells #[v] 167)).frozen? ⟨W1.heap.size, 0, none⟩ = false := fun m u v => by
          unfold World.frozen?; rw [st1]; rfl
        replace st1 := Lib.hid st1
        clear hAr hBr hA hB CA2 CL ho hobj hb1 hR hal1 hal2
        go_wp2_with (fail)
        go_quiet (fail)
        go_wp2_with (fail)
        go_big_region
        rotate_left
        · skip
          have T := two_new (W1.drewN (nq + 1)) (.int .u64 167772161) (.int .u64 469762049)
          rw [show (W1.drewN (nq + 1)).heap.size = W1.heap.size from rfl] at T
          generalize (((W1.drewN (nq + 1)).alloc (.cells #[.int .u64 0] 167)).setCell ⟨W1.heap.size, 0, none⟩ (.int .u64 167772161)).alloc (.cells #[.int .u64 469762049] 167) = V at T ⊢
          obtain ⟨c2, c1, hbV⟩ := T
          have hbV' : Below W1.heap.size W1 V := ((Below.refl W1.heap.size W1).drewN (nq + 1)).trans hbV
          clear hbV
          obtain ⟨tA, htA⟩ : ∃ tA, tA = W1.heap.size + 1 := ⟨_, rfl⟩
          obtain ⟨tB, htB⟩ : ∃ tB, tB = W1.heap.size := ⟨_, rfl⟩
          clear e01 e02 e11 e12 e21 e22 st1 st2 st3 g0d g1d g2d
          rw [← htA] at c1 ⊢
          rw [← htB] at c2 ⊢
          replace htA := Lib.hid htA
          replace htB := Lib.hid htB
          obtain ⟨x0, X0, eu0, hx0s, hX0, hX0l, hX0v⟩ := R0.only (Only.of (b := s) hbV')
          obtain ⟨x1, X1, eu1, hx1s, hX1, hX1l, hX1v⟩ := R1.only (Only.of (b := s) hbV')
          obtain ⟨x2, X2, eu2, hx2s, hX2, hX2l, hX2v⟩ := R2.only (Only.of (b := s) hbV')
          subst eu0 eu1 eu2
          have hobV := (hbV'.block s hsr).trans hob
          obtain ⟨⟨k0, k1, k2⟩, _, _, _⟩ := at_cells hobV
          replace hX0v := Lib.hid hX0v
          replace hX1v := Lib.hid hX1v
          replace hX2v := Lib.hid hX2v
          clear R0 R1 R2 hob
          have hdV := (Below.refl V.heap.size V).drew
          have d1 := cell_below hdV c1
          have d2 := cell_below hdV c2
          go_wp2_with (fail)
          go_region_held3 (fun W => W.cell? ⟨tA, 0, none⟩ = some (.int .u64 469762049) ∧ W.cell? ⟨tB, 0, none⟩ = some (.int .u64 167772161))
            (first
              | exact ⟨d1, d2⟩
              | exact ⟨d13, d23⟩
              | exact ⟨d14, d24⟩
              | go_keep)
            (first
              | (go_at_call 175; (with_reducible refine (inv1_c _).mono ?_); rintro e W3 ⟨rfl, hb3⟩; have d13 := cell_below hb3 d1; have d23 := cell_below hb3 d2)
              | (go_at_call 175; (with_reducible refine (inv2_c _).mono ?_); rintro e W4 ⟨rfl, hb4⟩; have d14 := cell_below hb4 d13; have d24 := cell_below hb4 d23; have hbW := (hdV.cons hb3).cons hb4))
          replace k0 := cell_below hbW k0
          replace k1 := cell_below hbW k1
          replace k2 := cell_below hbW k2
          replace hX0 := hX0.below hbW
          replace hX1 := hX1.below hbW
          replace hX2 := hX2.below hbW
          have hmk := mkr3 (n : Int) (by omega) (by omega)
          rw [Int.toNat_natCast] at hmk
          obtain ⟨W5, hW5⟩ : ∃ W5, W5 = W4.alloc (.cells (vals (List.replicate (3 * n) 0)).toArray 162) := ⟨_, rfl⟩
          have hb5 : Below W4.heap.size W4 W5 := by rw [hW5]; exact (Below.refl _ _).alloc (Nat.le_refl _) _
          have hO5 : W5.heap[W4.heap.size]? = some (.cells (vals (List.replicate (3 * n) 0)).toArray 162 (0, 0)) := by rw [hW5, heap_alloc_new]
          clear hobV c1 c2 d1 d2 d13 d23
          go_wp2_with (fail)
          rw [← hW5]
          have hso : s ≠ W4.heap.size := by have h : s < W4.heap.size := World.block_lt_of_cell? _ _ k0; omega
          have hx0o : x0 ≠ W4.heap.size := by have := hX0.lt; omega
          have hx1o : x1 ≠ W4.heap.size := by have := hX1.lt; omega
          have hx2o : x2 ≠ W4.heap.size := by have := hX2.lt; omega
          have htAo : tA ≠ W4.heap.size := by have h : tA < W4.heap.size := World.block_lt_of_cell? _ _ d14; omega
          have htBo : tB ≠ W4.heap.size := by have h : tB < W4.heap.size := World.block_lt_of_cell? _ _ d24; omega
          replace k0 := cell_below hb5 k0
          replace k1 := cell_below hb5 k1
          replace k2 := cell_below hb5 k2
          replace hX0 := hX0.below hb5
          replace hX1 := hX1.below hb5
          replace hX2 := hX2.below hb5
          replace d14 := cell_below hb5 d14
          replace d24 := cell_below hb5 d24
          obtain ⟨o, ho⟩ : ∃ o, o = W4.heap.size := ⟨_, rfl⟩
          rw [← ho] at hso hx0o hx1o hx2o htAo htBo hO5 ⊢
          replace ho := Lib.hid ho
          replace hW5 := Lib.hid hW5
          clear hmk hdV
          go_loopw [17, 18, 19, 20, 21, 22, 23, 24, 86] (fun v17 v18 v19 v20 v21 v22 v23 v24 ct wr => ∃ (i : Nat) (L : List Nat), ct = .int .i64 i ∧ i ≤ n ∧ Only o W5 wr ∧ wr.heap[o]? = some (.cells (vals L).toArray 162 (0, 0)) ∧ Hid (L.length = 3 * n) ∧ Lim L ∧ Hid (∀ j, j < i → gl L (3 * j) + 4294967296 * gl L (3 * j + 1) + 4294967296 * 4294967296 * gl L (3 * j + 2) = cv (gl (limbs a)) (gl (limbs b)) (nl a) j)) (fun v17 v18 v19 v20 v21 v22 v23 v24 ct wr => n - (intOf ct).toNat)
          case atStart => exact ⟨0, _, rfl, Nat.zero_le _, .refl _ _, hO5, Lib.hid (by simp), Lim.replicate _ _ (by decide), Lib.hid (fun j h => absurd h (by omega))⟩
          case round =>
            obtain ⟨i, L, rfl, hi, hoo, hL, hLl, hLm, hLv⟩ := hrel
            by_cases hlt : i < n
            · have hiN : i < N := by omega
              have kk0 := hoo.cell k0 hso
              have kk1 := hoo.cell k1 hso
              have kk2 := hoo.cell k2 hso
              have kA := hoo.cell d14 htAo
              have kB := hoo.cell d24 htBo
              have q0 := (hoo.arr hX0 hx0o).cell i (by rw [hX0l]; exact hiN)
              have q1 := (hoo.arr hX1 hx1o).cell i (by rw [hX1l]; exact hiN)
              have q2 := (hoo.arr hX2 hx2o).cell i (by rw [hX2l]; exact hiN)
              rw [hX0v.out i hiN] at q0
              rw [hX1v.out i hiN] at q1
              rw [hX2v.out i hiN] at q2
              obtain ⟨S, hS⟩ : ∃ S, S = cv (gl (limbs a)) (gl (limbs b)) (nl a) i := ⟨_, rfl⟩
              rw [← hS] at q0 q1 q2
              have hSb : S < 468937312667959297 * 167772161 := by
                have h1 := cv_small (limbs a) (limbs b) (lim_limbs a) (lim_limbs b) (nl a) i
                rw [← hS] at h1
                exact Nat.lt_of_le_of_lt (Nat.le_trans h1 (Nat.mul_le_mul_right _ ha)) (by decide)
              obtain ⟨x, hx⟩ : ∃ x, x = S % 998244353 := ⟨_, rfl⟩
              obtain ⟨r1, hr1⟩ : ∃ r, r = S % 469762049 := ⟨_, rfl⟩
              obtain ⟨r2, hr2⟩ : ∃ r, r = S % 167772161 := ⟨_, rfl⟩
              rw [← hx] at q0
              rw [← hr1] at q1
              rw [← hr2] at q2
              have hxb : x < 998244353 := by rw [hx]; exact Nat.mod_lt _ (by decide)
              have hr1b : r1 < 469762049 := by rw [hr1]; exact Nat.mod_lt _ (by decide)
              have hr2b : r2 < 167772161 := by rw [hr2]; exact Nat.mod_lt _ (by decide)
              obtain ⟨xr, hxr⟩ : ∃ xr, xr = x % 469762049 := ⟨_, rfl⟩
              have hxrI : (x : Int) % 469762049 = (xr : Int) := by omega
              have hxrb : xr < 469762049 := by omega
              obtain ⟨d, hd⟩ : ∃ d, d = (r1 + 469762049 - xr) % 469762049 := ⟨_, rfl⟩
              have hdb : d < 469762049 := by omega
              obtain ⟨y, hy⟩ : ∃ y, y = d * 208783132 % 469762049 := ⟨_, rfl⟩
              have hyb : y < 469762049 := by rw [hy]; exact Nat.mod_lt _ (by decide)
              obtain ⟨low, hlow⟩ : ∃ low, low = x + y * 998244353 := ⟨_, rfl⟩
              have hlowI : (x : Int) + (y : Int) * 998244353 = (low : Int) := by omega
              have hlowb : low < 468937312667959297 := by omega
              obtain ⟨lr, hlr⟩ : ∃ lr, lr = low % 167772161 := ⟨_, rfl⟩
              have hlrI : (low : Int) % 167772161 = (lr : Int) := by omega
              have hlrb : lr < 167772161 := by omega
              obtain ⟨d2, hd2⟩ : ∃ d, d = (r2 + 167772161 - lr) % 167772161 := ⟨_, rfl⟩
              have hd2b : d2 < 167772161 := by omega
              obtain ⟨z, hz⟩ : ∃ z, z = d2 * 29562547 % 167772161 := ⟨_, rfl⟩
              have hzb : z < 167772161 := by rw [hz]; exact Nat.mod_lt _ (by decide)
              have hmain := (crt3 S 998244353 468937312667959297 469762049 167772161 208783132 29562547 (by decide) (by decide) (by decide) (by decide) (by decide) hSb x y low z hx (by rw [hy, hd, hr1, hxr]) hlow (by rw [hz, hd2, hr2, hlr])).2.2
              have C1 := fun (W : World) => sub1_c r1 xr W hr1b hxrb
              have C2 := fun (W : World) => mul1_c d W (by omega)
              have C3 := fun (W : World) => sub2_c r2 lr W hr2b hlrb
              have C4 := fun (W : World) => mul2_c d2 W (by omega)
              rw [← hd] at C1
              rw [← hy] at C2
              rw [← hd2] at C3
              rw [← hz] at C4
              have C5 := fun (W : World) => mulq_c z W (by omega)
              obtain ⟨hi', hhi⟩ : ∃ h, h = z * 468937312667959297 / 18446744073709551616 := ⟨_, rfl⟩
              obtain ⟨lo, hlo⟩ : ∃ l, l = z * 468937312667959297 % 18446744073709551616 := ⟨_, rfl⟩
              rw [← hhi, ← hlo] at C5
              have C6 := fun (W : World) => add64_0 lo low W
              obtain ⟨su, hsu⟩ : ∃ su, su = (lo + low) % 18446744073709551616 := ⟨_, rfl⟩
              obtain ⟨cy, hcy⟩ : ∃ cy, cy = (lo + low) / 18446744073709551616 := ⟨_, rfl⟩
              rw [← hsu, ← hcy] at C6
              have hhib : hi' < 4294967296 := by omega
              have hlob : lo < 18446744073709551616 := by omega
              have hcyb : cy ≤ 1 := by omega
              have hsub : su < 18446744073709551616 := by omega
              have hrow : su + 18446744073709551616 * (hi' + cy) = S := by omega
              have hrowb : hi' + cy < 4294967296 := by omega
              have tx : (x : Int).tmod 469762049 = (xr : Int) := by rw [Int.tmod_eq_emod_of_nonneg (by omega)]; exact hxrI
              have tl : (low : Int).tmod 167772161 = (lr : Int) := by rw [Int.tmod_eq_emod_of_nonneg (by omega)]; exact hlrI
              have zx : IntKind.u64.wrap (xr : Int) = (xr : Int) := IntWalk.u64_in _ (by omega)
              have zl : IntKind.u64.wrap (lr : Int) = (lr : Int) := IntWalk.u64_in _ (by omega)
              replace C1 := Lib.hid C1
              replace C2 := Lib.hid C2
              replace C3 := Lib.hid C3
              replace C4 := Lib.hid C4
              replace C5 := Lib.hid C5
              replace hS := Lib.hid hS
              replace hrow := Lib.hid hrow
              clear hmain hSb hx hr1 hr2 hxr hd hy hlow hlr hd2 hz hhi hlo hsu hcy
              have hdw := (Below.refl wr.heap.size wr).drew
              have jA := cell_below hdw kA
              have j1 := cell_below hdw kk1
              have jq1 := cell_below hdw q1
              go_wp2_with (fail)
              go_region_held3 (fun W => W.cell? ⟨tA, 0, none⟩ = some (.int .u64 469762049) ∧ W.cell? ⟨s, 1, none⟩ = some (.slice (some ⟨x1, 0, none⟩) N N) ∧ W.cell? ⟨x1, i, none⟩ = some (.int .u64 (r1 : Nat)))
                (first
                  | exact ⟨jA, j1, jq1⟩
                  | exact ⟨jA6, j16, jq16⟩
                  | exact ⟨jA7, j17, jq17⟩
                  | go_keep)
                (first
                  | (go_at_call 177; (with_reducible refine (C1.out _).mono ?_); rintro e W6 ⟨rfl, hb6⟩; have jA6 := cell_below hb6 jA; have j16 := cell_below hb6 j1; have jq16 := cell_below hb6 jq1)
                  | (go_at_call 176; (with_reducible refine (C2.out _).mono ?_); rintro e W7 ⟨rfl, hb7⟩; have jA7 := cell_below hb7 jA6; have j17 := cell_below hb7 j16; have jq17 := cell_below hb7 jq16; have hb67 := (hdw.cons hb6).cons hb7))
              have hB7 := (cell_below hb67 kB)
              have h27 := (cell_below hb67 kk2)
              have hq27 := (cell_below hb67 q2)
              have hdw7 := (Below.refl W7.heap.size W7).drew
              have jB := cell_below hdw7 hB7
              have j2 := cell_below hdw7 h27
              have jq2 := cell_below hdw7 hq27
              clear jA j1 jq1 jA6 j16 jq16 jA7 j17 jq17
              go_wp2_with (fail)
              go_region_held3 (fun W => W.cell? ⟨tB, 0, none⟩ = some (.int .u64 167772161) ∧ W.cell? ⟨s, 2, none⟩ = some (.slice (some ⟨x2, 0, none⟩) N N) ∧ W.cell? ⟨x2, i, none⟩ = some (.int .u64 (r2 : Nat)))
                (first
                  | exact ⟨jB, j2, jq2⟩
                  | exact ⟨jB8, j28, jq28⟩
                  | exact ⟨jB9, j29, jq29⟩
                  | go_keep)
                (first
                  | (go_at_call 177; (with_reducible refine (C3.out _).mono ?_); rintro e W8 ⟨rfl, hb8⟩; have jB8 := cell_below hb8 jB; have j28 := cell_below hb8 j2; have jq28 := cell_below hb8 jq2)
                  | (go_at_call 176; (with_reducible refine (C4.out _).mono ?_); rintro e W9 ⟨rfl, hb9⟩; have jB9 := cell_below hb9 jB8; have j29 := cell_below hb9 j28; have jq29 := cell_below hb9 jq28; have hb89 := (hdw7.cons hb8).cons hb9))
              have hb10 := hb67.cons hb89
              have hor : o < wr.heap.size := (Array.getElem?_eq_some_iff.1 hL).1
              have hL9 := (hb10.block o hor).trans hL
              have hoo9 := hoo.cons hb10
              clear jB j2 jq2 jB8 j28 jq28 jB9 j29 jq29 hB7 h27 hq27
              go_wp2_with (fail)
              obtain ⟨⟨⟨u0, fc0⟩, ff0⟩, F1, F2, F3⟩ := row_facts (j := i * 3) hL9 hLl.out (by omega)
              have fc1 := fun v => (F1 v).1
              have ff1 := fun v => (F1 v).2
              have fc2 := fun v v' => (F2 v v').1
              have ff2 := fun v v' => (F2 v v').2
              obtain ⟨g1, fc1⟩ : ∃ g : Value → Value, ∀ v, (W9.setCell ⟨o, i * 3, none⟩ v).cell? ⟨o, i * 3 + 1, none⟩ = some (g v) := ⟨fun v => (fc1 v).choose, fun v => (fc1 v).choose_spec⟩
              obtain ⟨g2, fc2⟩ : ∃ g : Value → Value → Value, ∀ v v', ((W9.setCell ⟨o, i * 3, none⟩ v).setCell ⟨o, i * 3 + 1, none⟩ v').cell? ⟨o, i * 3 + 2, none⟩ = some (g v v') := ⟨fun v v' => (fc2 v v').choose, fun v v' => (fc2 v v').choose_spec⟩
              replace F3 := Lib.hid F3
              clear F1 F2
              refine (C5.out W9).mono ?_
              rintro e W10 ⟨rfl, rfl⟩
              go_wp2_with (simp only [C6])
              go_roundw
              case rel =>
                have ea : ((su : Int) % 4294967296) = ((su % 4294967296 : Nat) : Int) := by omega
                have eb : ((su : Int) / 4294967296) = ((su / 4294967296 : Nat) : Int) := by omega
                have ec : ((hi' : Int) + (cy : Int)) = ((hi' + cy : Nat) : Int) := by omega
                rw [ea, eb, ec]
                refine ⟨i + 1, ((L.set (i * 3) (su % 4294967296)).set (i * 3 + 1) (su / 4294967296)).set (i * 3 + 2) (hi' + cy), by go_num, by omega, ((hoo9.store _ _).store _ _).store _ _, F3.out _ _ _, Lib.hid (by simp [hLl.out]), ((hLm.set _ _ (Nat.mod_lt _ (by decide))).set _ _ (by omega)).set _ _ hrowb, Lib.hid (row_val hLl.out hlt (by have := hrow.out; omega) hS.out hLv.out)⟩
              case measure => simp only [intOf]; omega
            · have hin : i = n := by omega
              have hrv : rowsV L n = a * b := by
                rw [rowsV_psum' L _ n (fun j hj => hLv.out j (by omega))]
                exact cv_mul a b n hb0 (by have := HN.out; omega)
              replace hrv := Lib.hid hrv
              go_wp2_with (fail)
              go_ret
              refine ⟨some ⟨o, 0, none⟩, n, n, L, rfl, hLl.out, .inr ⟨_, rfl, fun j u hu => ?_⟩, hLm, Nat.le_refl _, by omega, hrv.out, ?_⟩
              · unfold World.cell?
                rw [add_zero_off, hL]
                simpa using hu
              · have hT := ((hbr.cons hbV').cons hbW).cons hb5
                have ho4 := ((hbr.cons hbV').cons hbW).size
                exact hT.trans (hoo.below (by have := ho.out; omega) hT.size)
        have T := two_new (W1.drewN (nq + 1)) (.int .u64 469762049) (.int .u64 167772161)
        rw [show (W1.drewN (nq + 1)).heap.size = W1.heap.size from rfl] at T
        generalize (((W1.drewN (nq + 1)).alloc (.cells #[.int .u64 0] 167)).setCell ⟨W1.heap.size, 0, none⟩ (.int .u64 469762049)).alloc (.cells #[.int .u64 167772161] 167) = V at T ⊢
        obtain ⟨c1, c2, hbV⟩ := T
        have hbV' : Below W1.heap.size W1 V := ((Below.refl W1.heap.size W1).drewN (nq + 1)).trans hbV
        clear hbV
        obtain ⟨tB, htB⟩ : ∃ tB, tB = W1.heap.size + 1 := ⟨_, rfl⟩
        obtain ⟨tA, htA⟩ : ∃ tA, tA = W1.heap.size := ⟨_, rfl⟩
        clear e01 e02 e11 e12 e21 e22 st1 st2 st3 g0d g1d g2d
        rw [← htB] at c2 ⊢
        rw [← htA] at c1 ⊢
        replace htA := Lib.hid htA
        replace htB := Lib.hid htB
        obtain ⟨x0, X0, eu0, hx0s, hX0, hX0l, hX0v⟩ := R0.only (Only.of (b := s) hbV')
        obtain ⟨x1, X1, eu1, hx1s, hX1, hX1l, hX1v⟩ := R1.only (Only.of (b := s) hbV')
        obtain ⟨x2, X2, eu2, hx2s, hX2, hX2l, hX2v⟩ := R2.only (Only.of (b := s) hbV')
        subst eu0 eu1 eu2
        have hobV := (hbV'.block s hsr).trans hob
        obtain ⟨⟨k0, k1, k2⟩, _, _, _⟩ := at_cells hobV
        replace hX0v := Lib.hid hX0v
        replace hX1v := Lib.hid hX1v
        replace hX2v := Lib.hid hX2v
        clear R0 R1 R2 hob
        have hdV := (Below.refl V.heap.size V).drew
        have d1 := cell_below hdV c1
        have d2 := cell_below hdV c2
        go_wp2_with (fail)
        go_region_held3 (fun W => W.cell? ⟨tA, 0, none⟩ = some (.int .u64 469762049) ∧ W.cell? ⟨tB, 0, none⟩ = some (.int .u64 167772161))
          (first
            | exact ⟨d1, d2⟩
            | exact ⟨d13, d23⟩
            | exact ⟨d14, d24⟩
            | go_keep)
          (first
            | (go_at_call 175; (with_reducible refine (inv1_c _).mono ?_); rintro e W3 ⟨rfl, hb3⟩; have d13 := cell_below hb3 d1; have d23 := cell_below hb3 d2)
            | (go_at_call 175; (with_reducible refine (inv2_c _).mono ?_); rintro e W4 ⟨rfl, hb4⟩; have d14 := cell_below hb4 d13; have d24 := cell_below hb4 d23; have hbW := (hdV.cons hb3).cons hb4))
        replace k0 := cell_below hbW k0
        replace k1 := cell_below hbW k1
        replace k2 := cell_below hbW k2
        replace hX0 := hX0.below hbW
        replace hX1 := hX1.below hbW
        replace hX2 := hX2.below hbW
        have hmk := mkr3 (n : Int) (by omega) (by omega)
        rw [Int.toNat_natCast] at hmk
        obtain ⟨W5, hW5⟩ : ∃ W5, W5 = W4.alloc (.cells (vals (List.replicate (3 * n) 0)).toArray 162) := ⟨_, rfl⟩
        have hb5 : Below W4.heap.size W4 W5 := by rw [hW5]; exact (Below.refl _ _).alloc (Nat.le_refl _) _
        have hO5 : W5.heap[W4.heap.size]? = some (.cells (vals (List.replicate (3 * n) 0)).toArray 162 (0, 0)) := by rw [hW5, heap_alloc_new]
        clear hobV c1 c2 d1 d2 d13 d23
        go_wp2_with (fail)
        rw [← hW5]
        have hso : s ≠ W4.heap.size := by have h : s < W4.heap.size := World.block_lt_of_cell? _ _ k0; omega
        have hx0o : x0 ≠ W4.heap.size := by have := hX0.lt; omega
        have hx1o : x1 ≠ W4.heap.size := by have := hX1.lt; omega
        have hx2o : x2 ≠ W4.heap.size := by have := hX2.lt; omega
        have htAo : tA ≠ W4.heap.size := by have h : tA < W4.heap.size := World.block_lt_of_cell? _ _ d14; omega
        have htBo : tB ≠ W4.heap.size := by have h : tB < W4.heap.size := World.block_lt_of_cell? _ _ d24; omega
        replace k0 := cell_below hb5 k0
        replace k1 := cell_below hb5 k1
        replace k2 := cell_below hb5 k2
        replace hX0 := hX0.below hb5
        replace hX1 := hX1.below hb5
        replace hX2 := hX2.below hb5
        replace d14 := cell_below hb5 d14
        replace d24 := cell_below hb5 d24
        obtain ⟨o, ho⟩ : ∃ o, o = W4.heap.size := ⟨_, rfl⟩
        rw [← ho] at hso hx0o hx1o hx2o htAo htBo hO5 ⊢
        replace ho := Lib.hid ho
        replace hW5 := Lib.hid hW5
        clear hmk hdV
        go_loopw [17, 18, 19, 20, 21, 22, 23, 24, 86] (fun v17 v18 v19 v20 v21 v22 v23 v24 ct wr => ∃ (i : Nat) (L : List Nat), ct = .int .i64 i ∧ i ≤ n ∧ Only o W5 wr ∧ wr.heap[o]? = some (.cells (vals L).toArray 162 (0, 0)) ∧ Hid (L.length = 3 * n) ∧ Lim L ∧ Hid (∀ j, j < i → gl L (3 * j) + 4294967296 * gl L (3 * j + 1) + 4294967296 * 4294967296 * gl L (3 * j + 2) = cv (gl (limbs a)) (gl (limbs b)) (nl a) j)) (fun v17 v18 v19 v20 v21 v22 v23 v24 ct wr => n - (intOf ct).toNat)
        case atStart => exact ⟨0, _, rfl, Nat.zero_le _, .refl _ _, hO5, Lib.hid (by simp), Lim.replicate _ _ (by decide), Lib.hid (fun j h => absurd h (by omega))⟩
        case round =>
          obtain ⟨i, L, rfl, hi, hoo, hL, hLl, hLm, hLv⟩ := hrel
          by_cases hlt : i < n
          · have hiN : i < N := by omega
            have kk0 := hoo.cell k0 hso
            have kk1 := hoo.cell k1 hso
            have kk2 := hoo.cell k2 hso
            have kA := hoo.cell d14 htAo
            have kB := hoo.cell d24 htBo
            have q0 := (hoo.arr hX0 hx0o).cell i (by rw [hX0l]; exact hiN)
            have q1 := (hoo.arr hX1 hx1o).cell i (by rw [hX1l]; exact hiN)
            have q2 := (hoo.arr hX2 hx2o).cell i (by rw [hX2l]; exact hiN)
            rw [hX0v.out i hiN] at q0
            rw [hX1v.out i hiN] at q1
            rw [hX2v.out i hiN] at q2
            obtain ⟨S, hS⟩ : ∃ S, S = cv (gl (limbs a)) (gl (limbs b)) (nl a) i := ⟨_, rfl⟩
            rw [← hS] at q0 q1 q2
            have hSb : S < 468937312667959297 * 167772161 := by
              have h1 := cv_small (limbs a) (limbs b) (lim_limbs a) (lim_limbs b) (nl a) i
              rw [← hS] at h1
              exact Nat.lt_of_le_of_lt (Nat.le_trans h1 (Nat.mul_le_mul_right _ ha)) (by decide)
            obtain ⟨x, hx⟩ : ∃ x, x = S % 998244353 := ⟨_, rfl⟩
            obtain ⟨r1, hr1⟩ : ∃ r, r = S % 469762049 := ⟨_, rfl⟩
            obtain ⟨r2, hr2⟩ : ∃ r, r = S % 167772161 := ⟨_, rfl⟩
            rw [← hx] at q0
            rw [← hr1] at q1
            rw [← hr2] at q2
            have hxb : x < 998244353 := by rw [hx]; exact Nat.mod_lt _ (by decide)
            have hr1b : r1 < 469762049 := by rw [hr1]; exact Nat.mod_lt _ (by decide)
            have hr2b : r2 < 167772161 := by rw [hr2]; exact Nat.mod_lt _ (by decide)
            obtain ⟨xr, hxr⟩ : ∃ xr, xr = x % 469762049 := ⟨_, rfl⟩
            have hxrI : (x : Int) % 469762049 = (xr : Int) := by omega
            have hxrb : xr < 469762049 := by omega
            obtain ⟨d, hd⟩ : ∃ d, d = (r1 + 469762049 - xr) % 469762049 := ⟨_, rfl⟩
            have hdb : d < 469762049 := by omega
            obtain ⟨y, hy⟩ : ∃ y, y = d * 208783132 % 469762049 := ⟨_, rfl⟩
            have hyb : y < 469762049 := by rw [hy]; exact Nat.mod_lt _ (by decide)
            obtain ⟨low, hlow⟩ : ∃ low, low = x + y * 998244353 := ⟨_, rfl⟩
            have hlowI : (x : Int) + (y : Int) * 998244353 = (low : Int) := by omega
            have hlowb : low < 468937312667959297 := by omega
            obtain ⟨lr, hlr⟩ : ∃ lr, lr = low % 167772161 := ⟨_, rfl⟩
            have hlrI : (low : Int) % 167772161 = (lr : Int) := by omega
            have hlrb : lr < 167772161 := by omega
            obtain ⟨d2, hd2⟩ : ∃ d, d = (r2 + 167772161 - lr) % 167772161 := ⟨_, rfl⟩
            have hd2b : d2 < 167772161 := by omega
            obtain ⟨z, hz⟩ : ∃ z, z = d2 * 29562547 % 167772161 := ⟨_, rfl⟩
            have hzb : z < 167772161 := by rw [hz]; exact Nat.mod_lt _ (by decide)
            have hmain := (crt3 S 998244353 468937312667959297 469762049 167772161 208783132 29562547 (by decide) (by decide) (by decide) (by decide) (by decide) hSb x y low z hx (by rw [hy, hd, hr1, hxr]) hlow (by rw [hz, hd2, hr2, hlr])).2.2
            have C1 := fun (W : World) => sub1_c r1 xr W hr1b hxrb
            have C2 := fun (W : World) => mul1_c d W (by omega)
            have C3 := fun (W : World) => sub2_c r2 lr W hr2b hlrb
            have C4 := fun (W : World) => mul2_c d2 W (by omega)
            rw [← hd] at C1
            rw [← hy] at C2
            rw [← hd2] at C3
            rw [← hz] at C4
            have C5 := fun (W : World) => mulq_c z W (by omega)
            obtain ⟨hi', hhi⟩ : ∃ h, h = z * 468937312667959297 / 18446744073709551616 := ⟨_, rfl⟩
            obtain ⟨lo, hlo⟩ : ∃ l, l = z * 468937312667959297 % 18446744073709551616 := ⟨_, rfl⟩
            rw [← hhi, ← hlo] at C5
            have C6 := fun (W : World) => add64_0 lo low W
            obtain ⟨su, hsu⟩ : ∃ su, su = (lo + low) % 18446744073709551616 := ⟨_, rfl⟩
            obtain ⟨cy, hcy⟩ : ∃ cy, cy = (lo + low) / 18446744073709551616 := ⟨_, rfl⟩
            rw [← hsu, ← hcy] at C6
            have hhib : hi' < 4294967296 := by omega
            have hlob : lo < 18446744073709551616 := by omega
            have hcyb : cy ≤ 1 := by omega
            have hsub : su < 18446744073709551616 := by omega
            have hrow : su + 18446744073709551616 * (hi' + cy) = S := by omega
            have hrowb : hi' + cy < 4294967296 := by omega
            have tx : (x : Int).tmod 469762049 = (xr : Int) := by rw [Int.tmod_eq_emod_of_nonneg (by omega)]; exact hxrI
            have tl : (low : Int).tmod 167772161 = (lr : Int) := by rw [Int.tmod_eq_emod_of_nonneg (by omega)]; exact hlrI
            have zx : IntKind.u64.wrap (xr : Int) = (xr : Int) := IntWalk.u64_in _ (by omega)
            have zl : IntKind.u64.wrap (lr : Int) = (lr : Int) := IntWalk.u64_in _ (by omega)
            replace C1 := Lib.hid C1
            replace C2 := Lib.hid C2
            replace C3 := Lib.hid C3
            replace C4 := Lib.hid C4
            replace C5 := Lib.hid C5
            replace hS := Lib.hid hS
            replace hrow := Lib.hid hrow
            clear hmain hSb hx hr1 hr2 hxr hd hy hlow hlr hd2 hz hhi hlo hsu hcy
            have hdw := (Below.refl wr.heap.size wr).drew
            have jA := cell_below hdw kA
            have j1 := cell_below hdw kk1
            have jq1 := cell_below hdw q1
            go_wp2_with (fail)
            go_region_held3 (fun W => W.cell? ⟨tA, 0, none⟩ = some (.int .u64 469762049) ∧ W.cell? ⟨s, 1, none⟩ = some (.slice (some ⟨x1, 0, none⟩) N N) ∧ W.cell? ⟨x1, i, none⟩ = some (.int .u64 (r1 : Nat)))
              (first
                | exact ⟨jA, j1, jq1⟩
                | exact ⟨jA6, j16, jq16⟩
                | exact ⟨jA7, j17, jq17⟩
                | go_keep)
              (first
                | (go_at_call 177; (with_reducible refine (C1.out _).mono ?_); rintro e W6 ⟨rfl, hb6⟩; have jA6 := cell_below hb6 jA; have j16 := cell_below hb6 j1; have jq16 := cell_below hb6 jq1)
                | (go_at_call 176; (with_reducible refine (C2.out _).mono ?_); rintro e W7 ⟨rfl, hb7⟩; have jA7 := cell_below hb7 jA6; have j17 := cell_below hb7 j16; have jq17 := cell_below hb7 jq16; have hb67 := (hdw.cons hb6).cons hb7))
            have hB7 := (cell_below hb67 kB)
            have h27 := (cell_below hb67 kk2)
            have hq27 := (cell_below hb67 q2)
            have hdw7 := (Below.refl W7.heap.size W7).drew
            have jB := cell_below hdw7 hB7
            have j2 := cell_below hdw7 h27
            have jq2 := cell_below hdw7 hq27
            clear jA j1 jq1 jA6 j16 jq16 jA7 j17 jq17
            go_wp2_with (fail)
            go_region_held3 (fun W => W.cell? ⟨tB, 0, none⟩ = some (.int .u64 167772161) ∧ W.cell? ⟨s, 2, none⟩ = some (.slice (some ⟨x2, 0, none⟩) N N) ∧ W.cell? ⟨x2, i, none⟩ = some (.int .u64 (r2 : Nat)))
              (first
                | exact ⟨jB, j2, jq2⟩
                | exact ⟨jB8, j28, jq28⟩
                | exact ⟨jB9, j29, jq29⟩
                | go_keep)
              (first
                | (go_at_call 177; (with_reducible refine (C3.out _).mono ?_); rintro e W8 ⟨rfl, hb8⟩; have jB8 := cell_below hb8 jB; have j28 := cell_below hb8 j2; have jq28 := cell_below hb8 jq2)
                | (go_at_call 176; (with_reducible refine (C4.out _).mono ?_); rintro e W9 ⟨rfl, hb9⟩; have jB9 := cell_below hb9 jB8; have j29 := cell_below hb9 j28; have jq29 := cell_below hb9 jq28; have hb89 := (hdw7.cons hb8).cons hb9))
            have hb10 := hb67.cons hb89
            have hor : o < wr.heap.size := (Array.getElem?_eq_some_iff.1 hL).1
            have hL9 := (hb10.block o hor).trans hL
            have hoo9 := hoo.cons hb10
            clear jB j2 jq2 jB8 j28 jq28 jB9 j29 jq29 hB7 h27 hq27
            go_wp2_with (fail)
            obtain ⟨⟨⟨u0, fc0⟩, ff0⟩, F1, F2, F3⟩ := row_facts (j := i * 3) hL9 hLl.out (by omega)
            have fc1 := fun v => (F1 v).1
            have ff1 := fun v => (F1 v).2
            have fc2 := fun v v' => (F2 v v').1
            have ff2 := fun v v' => (F2 v v').2
            obtain ⟨g1, fc1⟩ : ∃ g : Value → Value, ∀ v, (W9.setCell ⟨o, i * 3, none⟩ v).cell? ⟨o, i * 3 + 1, none⟩ = some (g v) := ⟨fun v => (fc1 v).choose, fun v => (fc1 v).choose_spec⟩
            obtain ⟨g2, fc2⟩ : ∃ g : Value → Value → Value, ∀ v v', ((W9.setCell ⟨o, i * 3, none⟩ v).setCell ⟨o, i * 3 + 1, none⟩ v').cell? ⟨o, i * 3 + 2, none⟩ = some (g v v') := ⟨fun v v' => (fc2 v v').choose, fun v v' => (fc2 v v').choose_spec⟩
            replace F3 := Lib.hid F3
            clear F1 F2
            refine (C5.out W9).mono ?_
            rintro e W10 ⟨rfl, rfl⟩
            go_wp2_with (simp only [C6])
            go_roundw
            case rel =>
              have ea : ((su : Int) % 4294967296) = ((su % 4294967296 : Nat) : Int) := by omega
              have eb : ((su : Int) / 4294967296) = ((su / 4294967296 : Nat) : Int) := by omega
              have ec : ((hi' : Int) + (cy : Int)) = ((hi' + cy : Nat) : Int) := by omega
              rw [ea, eb, ec]
              refine ⟨i + 1, ((L.set (i * 3) (su % 4294967296)).set (i * 3 + 1) (su / 4294967296)).set (i * 3 + 2) (hi' + cy), by go_num, by omega, ((hoo9.store _ _).store _ _).store _ _, F3.out _ _ _, Lib.hid (by simp [hLl.out]), ((hLm.set _ _ (Nat.mod_lt _ (by decide))).set _ _ (by omega)).set _ _ hrowb, Lib.hid (row_val hLl.out hlt (by have := hrow.out; omega) hS.out hLv.out)⟩
            case measure => simp only [intOf]; omega
          · have hin : i = n := by omega
            have hrv : rowsV L n = a * b := by
              rw [rowsV_psum' L _ n (fun j hj => hLv.out j (by omega))]
              exact cv_mul a b n hb0 (by have := HN.out; omega)
            replace hrv := Lib.hid hrv
            go_wp2_with (fail)
            go_ret
            refine ⟨some ⟨o, 0, none⟩, n, n, L, rfl, hLl.out, .inr ⟨_, rfl, fun j u hu => ?_⟩, hLm, Nat.le_refl _, by omega, hrv.out, ?_⟩
            · unfold World.cell?
              rw [add_zero_off, hL]
              simpa using hu
            · have hT := ((hbr.cons hbV').cons hbW).cons hb5
              have ho4 := ((hbr.cons hbV').cons hbW).size
              exact hT.trans (hoo.below (by have := ho.out; omega) hT.size)
end Go.Proofs.YthcmoimlnhghcaaGreatDoor

namespace Go.Proofs.YthcmoimlnhghcaaGreatDoor
open Go.RowKit Go.Shelf
attribute [local go_sem] max2_i min2_i max_two min_two

theorem fast_c (A : Option Addr) (c a : Nat) (B : Option Addr) (d b : Nat) (w : World) (hA : NatV w A c a) (hB : NatV w B d b) (hG : Flds w) (ha : nl a ≤ 16384) (hb : nl b ≤ 16384) :
    Calls Tryz.prog 144 #[.slice A (nl a) c, .slice B (nl b) d] w (RetN w (a * b)) := by
  by_cases h : nl a < nl b
  · have hd : decide ((nl a : Int) < (nl b : Int)) = true := by simp; omega
    have hd2 : decide ((16384 : Int) < (nl b : Int)) = false := by simp; omega
    have CC := conv_c B d b A c a w hB hA hG hb ha
    replace CC := Lib.hid CC
    go_enter Tryz.func144, Tryz.ntmps144
    go_wp2_with (fail)
    refine CC.out.mono ?_
    rintro e w1 ⟨X, cx, n, L, rfl, hLl, hX, hLm, hnc, hn, hv, hb1⟩
    go_wp2_with (fail)
    refine (carry_c X n cx L w1 hLl hX hLm (by omega) hnc).mono ?_
    rintro e w2 ⟨Y, cy, rfl, h1, h2⟩
    go_wp2_with (fail)
    go_ret
    rw [Nat.mul_comm a b, ← hv]
    exact ⟨Y, cy, rfl, h1, hb1.cons h2⟩
  · have hd : decide ((nl a : Int) < (nl b : Int)) = false := by simp; omega
    have hd2 : decide ((16384 : Int) < (nl a : Int)) = false := by simp; omega
    have CC := conv_c A c a B d b w hA hB hG ha hb
    replace CC := Lib.hid CC
    go_enter Tryz.func144, Tryz.ntmps144
    go_wp2_with (fail)
    refine CC.out.mono ?_
    rintro e w1 ⟨X, cx, n, L, rfl, hLl, hX, hLm, hnc, hn, hv, hb1⟩
    go_wp2_with (fail)
    refine (carry_c X n cx L w1 hLl hX hLm (by omega) hnc).mono ?_
    rintro e w2 ⟨Y, cy, rfl, h1, h2⟩
    go_wp2_with (fail)
    go_ret
    rw [← hv]
    exact ⟨Y, cy, rfl, h1, hb1.cons h2⟩
theorem mul_c (A : Option Addr) (c a : Nat) (B : Option Addr) (d b : Nat) (w : World) (hA : NatV w A c a) (hB : NatV w B d b) (hG : Flds w) (ha : nl a ≤ 16384) (hb : nl b ≤ 16384) :
    Calls Tryz.prog 104 #[.slice A (nl a) c, .slice B (nl b) d] w (RetN w (a * b)) := by
  have hb0 : Below w.heap.size w (w.alloc (.cells #[.int .i64 48, .func (.func 144) #[] #[], .int .i64 14, .func (.func 145) #[] #[], .int .i64 8, .func (.func 146) #[] #[]] 137)) := (Below.refl _ _).alloc (Nat.le_refl _) _
  have hob := heap_alloc_new w (.cells #[.int .i64 48, .func (.func 144) #[] #[], .int .i64 14, .func (.func 145) #[] #[], .int .i64 8, .func (.func 146) #[] #[]] 137)
  have hu := Tryz.underlying137
  obtain ⟨m, hm⟩ : ∃ m, m = min (nl a) (nl b) := ⟨_, rfl⟩
  have hmI : min (nl a : Int) (nl b : Int) = (m : Int) := by omega
  have HM := Lib.hid hm
  clear hm
  go_enter Tryz.func104, Tryz.ntmps104
  go_wp2_with (fail)
  obtain ⟨s, hs⟩ : ∃ s, s = w.heap.size := ⟨_, rfl⟩
  rw [← hs] at hob ⊢
  replace hs := Lib.hid hs
  generalize w.alloc (.cells #[.int .i64 48, .func (.func 144) #[] #[], .int .i64 14, .func (.func 145) #[] #[], .int .i64 8, .func (.func 146) #[] #[]] 137) = W0 at *
  have k0 : W0.cell? ⟨s, 0, none⟩ = some (.int .i64 48) := by unfold World.cell?; rw [hob]; rfl
  have k1 : W0.cell? ⟨s, 1, none⟩ = some (.func (.func 144) #[] #[]) := by unfold World.cell?; rw [hob]; rfl
  have k2 : W0.cell? ⟨s, 2, none⟩ = some (.int .i64 14) := by unfold World.cell?; rw [hob]; rfl
  have k3 : W0.cell? ⟨s, 3, none⟩ = some (.func (.func 145) #[] #[]) := by unfold World.cell?; rw [hob]; rfl
  have k4 : W0.cell? ⟨s, 4, none⟩ = some (.int .i64 8) := by unfold World.cell?; rw [hob]; rfl
  have k5 : W0.cell? ⟨s, 5, none⟩ = some (.func (.func 146) #[] #[]) := by unfold World.cell?; rw [hob]; rfl
  clear hob
  go_loopw [6, 12] (fun v6 ct wr => ∃ i : Nat, ct = .int .i64 i ∧ i ≤ 3 ∧ Below W0.heap.size W0 wr) (fun v6 ct wr => 3 - (intOf ct).toNat)
  case atStart => exact ⟨0, rfl, by decide, .refl _ _⟩
  case round =>
    obtain ⟨i, rfl, hi, hbr⟩ := hrel
    have hbT := hb0.cons hbr
    by_cases hlt : i < 3
    · rcases i with _ | _ | _ | i
      · have hbB : Below wr.heap.size wr (wr.alloc (.cells #[.int .i64 48, .func (.func 144) #[] #[]] 137)) := (Below.refl _ _).alloc (Nat.le_refl _) _
        have hoB := heap_alloc_new wr (.cells #[.int .i64 48, .func (.func 144) #[] #[]] 137)
        have b0 : (wr.alloc (.cells #[.int .i64 48, .func (.func 144) #[] #[]] 137)).cell? ⟨wr.heap.size, 0, none⟩ = some (.int .i64 48) := by unfold World.cell?; rw [hoB]; rfl
        have b1 : (wr.alloc (.cells #[.int .i64 48, .func (.func 144) #[] #[]] 137)).cell? ⟨wr.heap.size, 1, none⟩ = some (.func (.func 144) #[] #[]) := by unfold World.cell?; rw [hoB]; rfl
        have q0 := cell_below hbr k0
        have q1 := cell_below hbr k1
        clear hoB
        by_cases hn : 48 ≤ m
        · have hd : decide ((48 : Int) ≤ (m : Int)) = true := by simp; omega
          have CC := fast_c A c a B d b _ ((hA.below hbT).below hbB) ((hB.below hbT).below hbB) ((hG.below hbT).below hbB) ha hb
          replace CC := Lib.hid CC
          go_wp2_with (fail)
          refine CC.out.mono ?_
          rintro e w2 ⟨Y, cy, rfl, h1, h2⟩
          go_wp2_with (fail)
          go_ret
          exact ⟨Y, cy, rfl, h1, (hbT.cons hbB).cons h2⟩
        · have hd : decide ((48 : Int) ≤ (m : Int)) = false := by simp; omega
          go_wp2_with (fail)
          go_roundw
          case rel => exact ⟨1, by go_num, by decide, hbr.cons hbB⟩
          case measure => simp only [intOf]; decide
      · have hbB : Below wr.heap.size wr (wr.alloc (.cells #[.int .i64 14, .func (.func 145) #[] #[]] 137)) := (Below.refl _ _).alloc (Nat.le_refl _) _
        have hoB := heap_alloc_new wr (.cells #[.int .i64 14, .func (.func 145) #[] #[]] 137)
        have b0 : (wr.alloc (.cells #[.int .i64 14, .func (.func 145) #[] #[]] 137)).cell? ⟨wr.heap.size, 0, none⟩ = some (.int .i64 14) := by unfold World.cell?; rw [hoB]; rfl
        have b1 : (wr.alloc (.cells #[.int .i64 14, .func (.func 145) #[] #[]] 137)).cell? ⟨wr.heap.size, 1, none⟩ = some (.func (.func 145) #[] #[]) := by unfold World.cell?; rw [hoB]; rfl
        have q0 := cell_below hbr k2
        have q1 := cell_below hbr k3
        clear hoB
        by_cases hn : 14 ≤ m
        · have hd : decide ((14 : Int) ≤ (m : Int)) = true := by simp; omega
          have CC := toom_c 16384 A c a B d b _ ((hA.below hbT).below hbB) ((hB.below hbT).below hbB) ha hb (by decide)
          replace CC := Lib.hid CC
          go_wp2_with (fail)
          refine CC.out.mono ?_
          rintro e w2 ⟨Y, cy, rfl, h1, h2⟩
          go_wp2_with (fail)
          go_ret
          exact ⟨Y, cy, rfl, h1, (hbT.cons hbB).cons h2⟩
        · have hd : decide ((14 : Int) ≤ (m : Int)) = false := by simp; omega
          go_wp2_with (fail)
          go_roundw
          case rel => exact ⟨2, by go_num, by decide, hbr.cons hbB⟩
          case measure => simp only [intOf]; decide
      · have hbB : Below wr.heap.size wr (wr.alloc (.cells #[.int .i64 8, .func (.func 146) #[] #[]] 137)) := (Below.refl _ _).alloc (Nat.le_refl _) _
        have hoB := heap_alloc_new wr (.cells #[.int .i64 8, .func (.func 146) #[] #[]] 137)
        have b0 : (wr.alloc (.cells #[.int .i64 8, .func (.func 146) #[] #[]] 137)).cell? ⟨wr.heap.size, 0, none⟩ = some (.int .i64 8) := by unfold World.cell?; rw [hoB]; rfl
        have b1 : (wr.alloc (.cells #[.int .i64 8, .func (.func 146) #[] #[]] 137)).cell? ⟨wr.heap.size, 1, none⟩ = some (.func (.func 146) #[] #[]) := by unfold World.cell?; rw [hoB]; rfl
        have q0 := cell_below hbr k4
        have q1 := cell_below hbr k5
        clear hoB
        by_cases hn : 8 ≤ m
        · have hd : decide ((8 : Int) ≤ (m : Int)) = true := by simp; omega
          have CC := karatsuba_c 16384 A c a B d b _ ((hA.below hbT).below hbB) ((hB.below hbT).below hbB) ha hb (by decide)
          replace CC := Lib.hid CC
          go_wp2_with (fail)
          refine CC.out.mono ?_
          rintro e w2 ⟨Y, cy, rfl, h1, h2⟩
          go_wp2_with (fail)
          go_ret
          exact ⟨Y, cy, rfl, h1, (hbT.cons hbB).cons h2⟩
        · have hd : decide ((8 : Int) ≤ (m : Int)) = false := by simp; omega
          go_wp2_with (fail)
          go_roundw
          case rel => exact ⟨3, by go_num, by decide, hbr.cons hbB⟩
          case measure => simp only [intOf]; decide
      · omega
    · obtain rfl : i = 3 := by omega
      have CC := school_c A c a B d b wr (hA.below hbT) (hB.below hbT) (by omega) (by omega)
      replace CC := Lib.hid CC
      go_wp2_with (fail)
      refine CC.out.mono ?_
      rintro e w2 ⟨Y, cy, rfl, h1, h2⟩
      go_wp2_with (fail)
      go_ret
      exact ⟨Y, cy, rfl, h1, hbT.cons h2⟩
theorem imul_c (aA : Option Addr) (ac : Nat) (a : Int) (bA : Option Addr) (bc : Nat) (b : Int) (w : World) (ha : NatV w aA ac (mg a)) (hb : NatV w bA bc (mg b)) (hG : Flds w) (la : nl (mg a) ≤ 16384) (lb : nl (mg b) ≤ 16384) :
    Calls Tryz.prog 76 #[.agg #[.bool (sg a), .slice aA (nl (mg a)) ac], .agg #[.bool (sg b), .slice bA (nl (mg b)) bc]] w (RetI w (a * b)) := by
  obtain ⟨ns, Ens⟩ : ∃ x, x = (sg a != sg b) := ⟨_, rfl⟩
  have Ins : (sg a != sg b) = ns := Ens.symm
  have Ins2 : (!(sg a == sg b)) = ns := Ens.symm
  have hv := ival_mul a b
  rw [Ins] at hv
  replace hv := Lib.hid hv
  replace Ens := Lib.hid Ens
  obtain ⟨hb1, Ra, Rb, Rr⟩ := bx3 w #[.bool (sg a), .slice aA (nl (mg a)) ac] 24 #[.bool (sg b), .slice bA (nl (mg b)) bc] 24 #[.bool false, .slice none 0 0] 24
  replace ha := ha.below hb1
  replace hb := hb.below hb1
  replace hG := hG.below hb1
  have HBT := hb1
  clear hb1
  have qa0 := Ra.c (i := 0) rfl
  have qa1 := Ra.c (i := 1) rfl
  have qb0 := Rb.c (i := 0) rfl
  have qb1 := Rb.c (i := 1) rfl
  have qr0 := Rr.c (i := 0) rfl
  have qr1 := Rr.c (i := 1) rfl
  go_enter Tryz.func76, Tryz.ntmps76
  go_wp2_with (fail)
  have hd2 := drb ((((w.alloc (.cells #[.bool (sg a), .slice aA (nl (mg a)) ac] 24)).alloc (.cells #[.bool (sg b), .slice bA (nl (mg b)) bc] 24)).alloc (.cells #[.bool false, .slice none 0 0] 24)))
  replace ha := ha.below hd2
  replace hb := hb.below hd2
  replace hG := hG.below hd2
  replace Ra := Ra.below hd2
  replace qa0 := cbl hd2 qa0
  replace qa1 := cbl hd2 qa1
  replace Rb := Rb.below hd2
  replace qb0 := cbl hd2 qb0
  replace qb1 := cbl hd2 qb1
  replace Rr := Rr.below hd2
  replace qr0 := cbl hd2 qr0
  replace qr1 := cbl hd2 qr1
  replace HBT := Below.cons HBT hd2
  clear hd2
  obtain ⟨n, En⟩ : ∃ zq : Nat, zq = mg a * mg b := ⟨_, rfl⟩
  have Bn : nl n ≤ 32768 := by rw [En]; have := nl_mul (mg a) (mg b); omega
  have C2_0 := fun (W : World) (h1 : NatV W aA ac (mg a)) (h2 : NatV W bA bc (mg b)) (h3 : Flds W) => mul_c aA ac (mg a) bA bc (mg b) W h1 h2 h3 (by omega) (by omega)
  simp only [← En] at C2_0
  replace En := Lib.hid En
  replace C2_0 := Lib.hid C2_0
  obtain ⟨z, Ez⟩ : ∃ zq : Int, zq = ival ns n := ⟨_, rfl⟩
  have C2_1 := fun (W : World) (A : Option Addr) (c : Nat) (h1 : NatV W A c n) => imake_c ns A c n W h1 (by omega)
  simp only [← Ez] at C2_1
  replace Ez := Lib.hid Ez
  replace C2_1 := Lib.hid C2_1
  go_region_held3 (fun W => W.cell? ⟨w.heap.size, 0, none⟩ = some (.bool (sg a)) ∧ W.cell? ⟨(w.heap.size + 1), 0, none⟩ = some (.bool (sg b)) ∧ W.cell? ⟨w.heap.size, 1, none⟩ = some (.slice aA (nl (mg a)) ac) ∧ W.cell? ⟨(w.heap.size + 1), 1, none⟩ = some (.slice bA (nl (mg b)) bc))
    (first
      | exact ⟨qa0, qb0, qa1, qb1⟩
      | exact ⟨qa0_3, qb0_3, qa1_3, qb1_3⟩
      | exact ⟨qa0_4, qb0_4, qa1_4, qb1_4⟩
      | exact ⟨((Ra_4.other2 (by simp <;> omega)).c (i := 0) rfl), ((Rb_4.other2 (by simp <;> omega)).c (i := 0) rfl), ((Ra_4.other2 (by simp <;> omega)).c (i := 1) rfl), ((Rb_4.other2 (by simp <;> omega)).c (i := 1) rfl)⟩
      | go_keep)
    (first
      | (go_at_call 104; (with_reducible refine (C2_0.out _ ha hb hG).mono ?_); rintro e W3 ⟨Xn, cn, rfl, hn, hb3⟩; have ha_3 := ha.below hb3; have hb_3 := hb.below hb3; have hG_3 := hG.below hb3; have Ra_3 := Ra.below hb3; have qa0_3 := cbl hb3 qa0; have qa1_3 := cbl hb3 qa1; have Rb_3 := Rb.below hb3; have qb0_3 := cbl hb3 qb0; have qb1_3 := cbl hb3 qb1; have Rr_3 := Rr.below hb3; have qr0_3 := cbl hb3 qr0; have qr1_3 := cbl hb3 qr1; have HBT_3 := Below.cons HBT hb3)
      | (go_at_call 58; (with_reducible refine (C2_1.out _ _ _ hn).mono ?_); rintro e W4 ⟨Xz, cz, rfl, hz, hb4⟩; have ha_4 := ha_3.below hb4; have hb_4 := hb_3.below hb4; have hG_4 := hG_3.below hb4; have Ra_4 := Ra_3.below hb4; have qa0_4 := cbl hb4 qa0_3; have qa1_4 := cbl hb4 qa1_3; have Rb_4 := Rb_3.below hb4; have qb0_4 := cbl hb4 qb0_3; have qb1_4 := cbl hb4 qb1_3; have Rr_4 := Rr_3.below hb4; have qr0_4 := cbl hb4 qr0_3; have qr1_4 := cbl hb4 qr1_3; have hn_4 := hn.below hb4; have HBT_4 := Below.cons HBT_3 hb4; have fz0 := Rr_4.f (i := 0); have fz1 := Rr_4.f (i := 1)))
  all_goals (try go_wp2_with (fail))
  have hzz : z = a * b := by rw [Ez.out, En.out]; exact hv.out
  subst hzz
  have RS := Rr_4.store2 (.bool (sg ((a * b)))) (.slice Xz (nl (mg ((a * b)))) cz)
  have e0 := RS.c (i := 0) rfl
  have e1 := RS.c (i := 1) rfl
  refine bodyPost_ret (v := .agg #[.bool (sg ((a * b))), .slice Xz (nl (mg ((a * b)))) cz]) (by simp [results, Tryz.results76, go_sem, e0, e1]) rfl ?_
  exact ⟨Xz, cz, rfl, (Rr_4.keep2 (nuB rfl) hz), (Below.store2 HBT_4 (by first | exact Nat.le_refl _ | omega))⟩
theorem dmul_val {a b : Rat} (ha : Dyd a) (hb : Dyd b) : dval (dmn a * dmn b) (dex a + dex b) = a * b := by
  conv => rhs; rw [← dval_q ha, ← dval_q hb]
  unfold dval
  rw [Rat.intCast_mul, zp_add]
  generalize ((dmn a : Int) : Rat) = x
  generalize ((dmn b : Int) : Rat) = y
  generalize (2 : Rat) ^ dex a = u
  generalize (2 : Rat) ^ dex b = v
  grind
theorem dmul_c (aA : Option Addr) (ac : Nat) (a : Rat) (bA : Option Addr) (bc : Nat) (b : Rat) (w : World) (ha : NatV w aA ac (mg (dmn a))) (hb : NatV w bA bc (mg (dmn b))) (oa : DOk a) (ob : DOk b) (la : nl (mg (dmn a)) ≤ 16384) (lb : nl (mg (dmn b)) ≤ 16384) (hT : Tab w) (hG : Flds w) :
    Calls Tryz.prog 24 #[.agg #[.bool (sg (dmn a)), .slice aA (nl (mg (dmn a))) ac, .int .i64 (dex a)], .agg #[.bool (sg (dmn b)), .slice bA (nl (mg (dmn b))) bc, .int .i64 (dex b)]] w (RetD w (a * b)) := by
  have ea := oa.e
  have eb := ob.e
  have hv := dmul_val oa.d ob.d
  obtain ⟨x, Ex⟩ : ∃ x, x = dex a + dex b := ⟨_, rfl⟩
  have Ix : dex a + dex b = x := Ex.symm
  have hx : -1073741824 ≤ x ∧ x ≤ 1073741824 := by omega
  rw [Ix] at hv
  have Wx : IntKind.i64.wrap x = x := IntWalk.i64_in _ (by omega)
  replace hv := Lib.hid hv
  replace oa := Lib.hid oa
  replace ob := Lib.hid ob
  replace Ex := Lib.hid Ex
  obtain ⟨hb1, Ra, Rb, Rr⟩ := bx3 w #[.bool (sg (dmn a)), .slice aA (nl (mg (dmn a))) ac, .int .i64 (dex a)] 26 #[.bool (sg (dmn b)), .slice bA (nl (mg (dmn b))) bc, .int .i64 (dex b)] 26 #[.bool false, .slice none 0 0, .int .i64 0] 26
  replace ha := ha.below hb1
  replace hb := hb.below hb1
  replace hT := hT.below hb1
  replace hG := hG.below hb1
  have HBT := hb1
  clear hb1
  have qa0 := Ra.c (i := 0) rfl
  have qa1 := Ra.c (i := 1) rfl
  have qa2 := Ra.c (i := 2) rfl
  have qb0 := Rb.c (i := 0) rfl
  have qb1 := Rb.c (i := 1) rfl
  have qb2 := Rb.c (i := 2) rfl
  have qr0 := Rr.c (i := 0) rfl
  have qr1 := Rr.c (i := 1) rfl
  have qr2 := Rr.c (i := 2) rfl
  go_enter Tryz.func24, Tryz.ntmps24
  go_wp2_with (fail)
  have hd2 := drb ((((w.alloc (.cells #[.bool (sg (dmn a)), .slice aA (nl (mg (dmn a))) ac, .int .i64 (dex a)] 26)).alloc (.cells #[.bool (sg (dmn b)), .slice bA (nl (mg (dmn b))) bc, .int .i64 (dex b)] 26)).alloc (.cells #[.bool false, .slice none 0 0, .int .i64 0] 26)))
  replace ha := ha.below hd2
  replace hb := hb.below hd2
  replace hT := hT.below hd2
  replace hG := hG.below hd2
  replace Ra := Ra.below hd2
  replace qa0 := cbl hd2 qa0
  replace qa1 := cbl hd2 qa1
  replace qa2 := cbl hd2 qa2
  replace Rb := Rb.below hd2
  replace qb0 := cbl hd2 qb0
  replace qb1 := cbl hd2 qb1
  replace qb2 := cbl hd2 qb2
  replace Rr := Rr.below hd2
  replace qr0 := cbl hd2 qr0
  replace qr1 := cbl hd2 qr1
  replace qr2 := cbl hd2 qr2
  replace HBT := Below.cons HBT hd2
  clear hd2
  obtain ⟨n, En⟩ : ∃ zq : Int, zq = dmn a * dmn b := ⟨_, rfl⟩
  have Bn : nl (mg n) ≤ 32768 := by rw [En, mg_mul]; have := nl_mul (mg (dmn a)) (mg (dmn b)); omega
  have C2_0 := fun (W : World) (h1 : NatV W aA ac (mg (dmn a))) (h2 : NatV W bA bc (mg (dmn b))) (h3 : Flds W) => imul_c aA ac (dmn a) bA bc (dmn b) W h1 h2 h3 (by omega) (by omega)
  simp only [← En] at C2_0
  replace En := Lib.hid En
  replace C2_0 := Lib.hid C2_0
  obtain ⟨z, Ez⟩ : ∃ zq : Rat, zq = dval n x := ⟨_, rfl⟩
  have C2_1 := fun (W : World) (A : Option Addr) (c : Nat) (h1 : NatV W A c (mg n)) (h2 : Tab W) => dmake_c A c n x W h1 h2 (by omega) hx
  simp only [← Ez] at C2_1
  replace Ez := Lib.hid Ez
  replace C2_1 := Lib.hid C2_1
  go_region_held3 (fun W => W.cell? ⟨w.heap.size, 0, none⟩ = some (.bool (sg (dmn a))) ∧ W.cell? ⟨w.heap.size, 1, none⟩ = some (.slice aA (nl (mg (dmn a))) ac) ∧ W.cell? ⟨w.heap.size, 2, none⟩ = some (.int .i64 (dex a)) ∧ W.cell? ⟨(w.heap.size + 1), 0, none⟩ = some (.bool (sg (dmn b))) ∧ W.cell? ⟨(w.heap.size + 1), 1, none⟩ = some (.slice bA (nl (mg (dmn b))) bc) ∧ W.cell? ⟨(w.heap.size + 1), 2, none⟩ = some (.int .i64 (dex b)))
    (first
      | exact ⟨qa0, qa1, qa2, qb0, qb1, qb2⟩
      | exact ⟨qa0_3, qa1_3, qa2_3, qb0_3, qb1_3, qb2_3⟩
      | exact ⟨qa0_4, qa1_4, qa2_4, qb0_4, qb1_4, qb2_4⟩
      | exact ⟨((Ra_4.other3 (by simp <;> omega)).c (i := 0) rfl), ((Ra_4.other3 (by simp <;> omega)).c (i := 1) rfl), ((Ra_4.other3 (by simp <;> omega)).c (i := 2) rfl), ((Rb_4.other3 (by simp <;> omega)).c (i := 0) rfl), ((Rb_4.other3 (by simp <;> omega)).c (i := 1) rfl), ((Rb_4.other3 (by simp <;> omega)).c (i := 2) rfl)⟩
      | go_keep)
    (first
      | (go_at_call 76; (with_reducible refine (C2_0.out _ ha hb hG).mono ?_); rintro e W3 ⟨Xn, cn, rfl, hn, hb3⟩; have ha_3 := ha.below hb3; have hb_3 := hb.below hb3; have hT_3 := hT.below hb3; have hG_3 := hG.below hb3; have Ra_3 := Ra.below hb3; have qa0_3 := cbl hb3 qa0; have qa1_3 := cbl hb3 qa1; have qa2_3 := cbl hb3 qa2; have Rb_3 := Rb.below hb3; have qb0_3 := cbl hb3 qb0; have qb1_3 := cbl hb3 qb1; have qb2_3 := cbl hb3 qb2; have Rr_3 := Rr.below hb3; have qr0_3 := cbl hb3 qr0; have qr1_3 := cbl hb3 qr1; have qr2_3 := cbl hb3 qr2; have HBT_3 := Below.cons HBT hb3)
      | (go_at_call 12; (with_reducible refine (C2_1.out _ _ _ hn hT_3).mono ?_); rintro e W4 ⟨Xz, cz, rfl, hz, hb4⟩; have ha_4 := ha_3.below hb4; have hb_4 := hb_3.below hb4; have hT_4 := hT_3.below hb4; have hG_4 := hG_3.below hb4; have Ra_4 := Ra_3.below hb4; have qa0_4 := cbl hb4 qa0_3; have qa1_4 := cbl hb4 qa1_3; have qa2_4 := cbl hb4 qa2_3; have Rb_4 := Rb_3.below hb4; have qb0_4 := cbl hb4 qb0_3; have qb1_4 := cbl hb4 qb1_3; have qb2_4 := cbl hb4 qb2_3; have Rr_4 := Rr_3.below hb4; have qr0_4 := cbl hb4 qr0_3; have qr1_4 := cbl hb4 qr1_3; have qr2_4 := cbl hb4 qr2_3; have hn_4 := hn.below hb4; have HBT_4 := Below.cons HBT_3 hb4; have fz0 := Rr_4.f (i := 0); have fz1 := Rr_4.f (i := 1); have fz2 := Rr_4.f (i := 2)))
  all_goals (try go_wp2_with (fail))
  have hzz : z = a * b := by rw [Ez.out, En.out]; exact hv.out
  subst hzz
  have RS := Rr_4.store3 (.bool (sg (dmn ((a * b))))) (.slice Xz (nl (mg (dmn ((a * b))))) cz) (.int .i64 (dex ((a * b))))
  have e0 := RS.c (i := 0) rfl
  have e1 := RS.c (i := 1) rfl
  have e2 := RS.c (i := 2) rfl
  refine bodyPost_ret (v := .agg #[.bool (sg (dmn ((a * b)))), .slice Xz (nl (mg (dmn ((a * b))))) cz, .int .i64 (dex ((a * b)))]) (by simp [results, Tryz.results24, go_sem, e0, e1, e2]) rfl ?_
  exact ⟨Xz, cz, rfl, (Rr_4.keep3 (nuB rfl) hz), (Below.store3 HBT_4 (by first | exact Nat.le_refl _ | omega))⟩
end Go.Proofs.YthcmoimlnhghcaaGreatDoor

namespace Go.Proofs.YthcmoimlnhghcaaGreatDoor
open Go.RowKit Go.ChangeShapes Go.WideShapes Go.ChangeAt

theorem row_glob : Tryz.prog.globalNamed "ziggurat/ntt.fields" = some 2 := by kernel_rfl
theorem row_globT : (Tryz.prog.globals[2]?).map (·.type) = some 168 := by kernel_rfl
theorem tab_of_laid2 {W : World} (h : laidMetH Tryz.prog [("math/bits.deBruijn32tab", Rows.laid_math_bits_deBruijn32tab), ("ziggurat/ntt.fields", Rows.laid_ziggurat_ntt_fields)] W) : Tab W := by
  rw [MakeChecks.laidMetH_plain _ _ _ (by kernel_rfl)] at h
  obtain ⟨ps, ⟨g0, t0, cs0, f0, p0, q0, hg0, ht0, hv0, hd0, _, _⟩, _⟩ := h
  obtain rfl := Option.some.inj (row_globD.symm.trans hg0)
  obtain rfl := Option.some.inj (row_globDT.symm.trans ht0)
  obtain ⟨xs, n, _, hx, hl, hxs, he⟩ := DataW.trod_array Tryz.underlying139 hd0
  have h3 : Tryz.prog.cellsOf 139 = 32 := by kernel_rfl
  have cell := fun i => World.var?_cell hg0 hv0 i
  obtain ⟨cl⟩ := cs0
  simp only [row_cells8, Nat.mul_one] at he
  refine tab_core (t0 := 0) hxs (by rw [← h3]; exact hl) ?_ he (fun i => by simpa using cell i)
  simp only [Rows.laid_math_bits_deBruijn32tab, Prod.mk.injEq, DataW.agg.injEq] at hx
  exact hx.1.symm
theorem flds_of_laid2 {W : World} (h : laidMetH Tryz.prog [("math/bits.deBruijn32tab", Rows.laid_math_bits_deBruijn32tab), ("ziggurat/ntt.fields", Rows.laid_ziggurat_ntt_fields)] W) : Flds W := by
  rw [MakeChecks.laidMetH_plain _ _ _ (by kernel_rfl)] at h
  obtain ⟨ps, ⟨_, _, _, _, _, _, _, _, _, _, hrest, _⟩, _⟩ := h
  obtain ⟨g0, t0, cs0, f0, p0, q0, hg0, ht0, hv0, hd0, _, _⟩ := hrest
  obtain rfl := Option.some.inj (row_glob.symm.trans hg0)
  obtain rfl := Option.some.inj (row_globT.symm.trans ht0)
  obtain ⟨xs, n, _, hx, hl, hxs, he⟩ := DataW.trod_array Tryz.underlying168 hd0
  have h3 : Tryz.prog.cellsOf 168 = 3 := by kernel_rfl
  have h1 : Tryz.prog.cellsOf 167 = 1 := by kernel_rfl
  have h0 : Tryz.prog.cellsOf 106 = 1 := by kernel_rfl
  have cell := fun i => World.var?_cell hg0 hv0 i
  obtain ⟨cl⟩ := cs0
  have hl' : cl.length = 3 := by rw [← h3]; exact hl
  match cl, hl' with
  | [c0, c1, c2], _ =>
    match xs, hxs with
    | [x0, x1, x2], _ =>
      have e0 := he 0 (by decide)
      have e1 := he 1 (by decide)
      have e2 := he 2 (by decide)
      rw [h1] at e0 e1 e2
      have one : ∀ (c : Value) (x : DataW Unit × List MemPlace) (z : Int), DataW.trod (fun _ => ()) Tryz.prog W 0 (fun _ => true) false n 167 [c] = some x → x.1 = .agg [.lit (.int .u64 z)] → c = .int .u64 z := by
        intro c x z hc hz
        obtain ⟨ys, n2, _, hy, _, hys, hey⟩ := DataW.trod_struct Tryz.underlying167 hc
        have e : DataW.trod (fun _ => ()) Tryz.prog W 0 (fun _ => true) false n2 106 (([c].drop 0).take (Tryz.prog.cellsOf 106)) = ys[0]? := hey 0 _ rfl
        rw [h0] at e
        match ys, hys with
        | [y], _ =>
          obtain ⟨z', hz1, hz2, _⟩ := DataW.trod_int Tryz.underlying106 (show DataW.trod (fun _ => ()) Tryz.prog W 0 (fun _ => true) false n2 106 [c] = some y from e)
          simp only [List.cons.injEq, and_true] at hz1
          rw [hy, hz2] at hz
          simp at hz
          rw [hz1, hz]
      simp only [Rows.laid_ziggurat_ntt_fields, Prod.mk.injEq, DataW.agg.injEq, List.map_cons, List.map_nil, List.cons.injEq, and_true] at hx
      obtain ⟨⟨hx0, hx1, hx2⟩, _⟩ := hx
      have k0 := one c0 x0 _ e0 hx0.symm
      have k1 := one c1 x1 _ e1 hx1.symm
      have k2 := one c2 x2 _ e2 hx2.symm
      subst k0 k1 k2
      exact ⟨cell 0, cell 1, cell 2⟩
theorem door_met2 (os : Os) (args : Array Value) : laidMetH Tryz.prog [("math/bits.deBruijn32tab", Rows.laid_math_bits_deBruijn32tab), ("ziggurat/ntt.fields", Rows.laid_ziggurat_ntt_fields)] ((World.doorLaid Tryz.prog 400 os).forCall (fun _ _ => 0) ⟨#[], args, []⟩).memory :=
  laidMetH_of_parts3 (fuel := 8) (laidMet_of_run' 8 (by kernel_rfl) (by kernel_rfl)) (by kernel_rfl) (by kernel_rfl)
end Go.Proofs.YthcmoimlnhghcaaGreatDoor

namespace Go.Proofs.YthcmoimlnhghcaaGreatDoor
open Go.RowKit

def SeqP (P : Program) (ops : Array Oper) (Q : Exit → Act → World → Prop) (S : World → Prop) : List (Nat × Bool) → Act → World → Prop
  | [], a, w => Q .normal a w
  | (i, true) :: p, a, w => ∃ o v, ops[i]? = some o ∧ (∀ c a w, Q (.panic c) (a.put o.dst v) w → Q (.panic c) a w) ∧ YieldsIf P ops S o v a ∧ SeqP P ops Q S p (a.put o.dst v) w
  | (i, false) :: p, a, w => wpOp P ops Q i (fun a' w' => S w' ∧ (S w' → SeqP P ops Q S p a' w')) a w
structure Info where
  i : Nat
  t : Bool
  deps : List Nat
  dst : Option Nat
  looks : List Nat
def infoOf (ops : Array Oper) (x : Nat × Bool) : Info :=
  match ops[x.1]? with
  | none => ⟨x.1, x.2, [], none, []⟩
  | some o => ⟨x.1, x.2, (o.after.toList.filter (Region.binds .any)).map (fun e => e.on), o.dst, Oper.looksAt ops o⟩
def apartB (x y : Info) : Bool :=
  (match x.dst with | some d => !y.looks.contains d && y.dst != some d | none => true) && (match y.dst with | some d => !x.looks.contains d | none => true)
def chkTake : List Info → Bool
  | [] => true
  | x :: r => (!x.t || r.all (fun y => y.deps.contains x.i || apartB x y)) && chkTake r
def chkOrder : List Nat → List Info → Bool
  | _, [] => true
  | d, x :: r => !d.contains x.i && x.deps.all (fun k => d.contains k) && chkOrder (x.i :: d) r
def chkCall : Option (List Nat) → List Info → Bool
  | _, [] => true
  | none, x :: r => chkCall (if x.t then none else some [x.i]) r
  | some W, x :: r => x.deps.any (fun k => W.contains k) && chkCall (if x.t then some (x.i :: W) else some [x.i]) r
def chkAll (ops : Array Oper) (p : List (Nat × Bool)) : Bool :=
  let l := p.map (infoOf ops)
  chkTake l && chkOrder [] l && chkCall none l && (List.range ops.size).all (fun k => (p.map (fun x => x.1)).contains k) && p.all (fun x => decide (x.1 < ops.size)) && Region.noSelect ops
theorem chkCall_spec : ∀ (l : List Info) (W : List Nat), chkCall (some W) l = true → ∀ x ∈ l, ∃ k ∈ x.deps, k ∈ W ∨ ∃ y ∈ l, y.i = k
  | [], W, h, x, hx => by cases hx
  | y :: r, W, h, x, hx => by
    simp only [chkCall, Bool.and_eq_true] at h
    obtain ⟨h1, h2⟩ := h
    rcases List.mem_cons.1 hx with rfl | hx
    · obtain ⟨k, hk, hc⟩ := List.any_eq_true.1 h1
      exact ⟨k, hk, .inl (by simpa using hc)⟩
    · have h3 : ∃ W', chkCall (some W') r = true ∧ ∀ k ∈ W', k ∈ W ∨ k = y.i := by
        cases ht : y.t with
        | true => rw [ht] at h2; exact ⟨y.i :: W, h2, fun k hk => by rcases List.mem_cons.1 hk with rfl | hk; exact .inr rfl; exact .inl hk⟩
        | false => rw [ht] at h2; exact ⟨[y.i], h2, fun k hk => .inr (by simpa using hk)⟩
      obtain ⟨W', hW, hsub⟩ := h3
      obtain ⟨k, hk, hc⟩ := chkCall_spec r W' hW x hx
      refine ⟨k, hk, ?_⟩
      rcases hc with hc | ⟨z, hz, he⟩
      · rcases hsub k hc with h | h
        · exact .inl h
        · exact .inr ⟨y, List.mem_cons_self .., h.symm⟩
      · exact .inr ⟨z, List.mem_cons_of_mem _ hz, he⟩
theorem infoOf_some {ops : Array Oper} {x : Nat × Bool} {o : Oper} (h : ops[x.1]? = some o) : infoOf ops x = ⟨x.1, x.2, (o.after.toList.filter (Region.binds .any)).map (fun e => e.on), o.dst, Oper.looksAt ops o⟩ := by
  unfold infoOf; rw [h]
theorem infoOf_i (ops : Array Oper) (x : Nat × Bool) : (infoOf ops x).i = x.1 := by unfold infoOf; split <;> rfl
theorem infoOf_t (ops : Array Oper) (x : Nat × Bool) : (infoOf ops x).t = x.2 := by unfold infoOf; split <;> rfl
theorem dep_mem {ops : Array Oper} {x : Nat × Bool} {o : Oper} (h : ops[x.1]? = some o) {k : Nat} : k ∈ (infoOf ops x).deps ↔ ∃ e ∈ o.after, Region.binds .any e = true ∧ e.on = k := by
  rw [infoOf_some h]
  simp only [List.mem_map, List.mem_filter, Array.mem_toList_iff]
  constructor
  · rintro ⟨e, ⟨h1, h2⟩, h3⟩; exact ⟨e, h1, h2, h3⟩
  · rintro ⟨e, h1, h2, h3⟩; exact ⟨e, ⟨h1, h2⟩, h3⟩
theorem apartB_spec {ops : Array Oper} {x y : Nat × Bool} {o o' : Oper} (hx : ops[x.1]? = some o) (hy : ops[y.1]? = some o') (h : apartB (infoOf ops x) (infoOf ops y) = true) : Oper.apart ops o o' = true := by
  rw [infoOf_some hx, infoOf_some hy] at h
  exact h
theorem seq_held {P : Program} {ops : Array Oper} {Q : Exit → Act → World → Prop} {S : World → Prop} (hns : Region.noSelect ops = true) :
    ∀ (p : List (Nat × Bool)) (d : List Nat) (c : Option (List Nat)) (L : Array Bool) (a : Act) (w : World),
      chkTake (p.map (infoOf ops)) = true → chkOrder d (p.map (infoOf ops)) = true → chkCall c (p.map (infoOf ops)) = true →
      (∀ k, k < ops.size → k ∈ d ∨ ∃ x ∈ p, x.1 = k) → (∀ x ∈ p, x.1 < ops.size) →
      (∀ k ∈ d, k < ops.size) → L.size = ops.size → (∀ k, k < ops.size → (L.getD k false = true ↔ k ∈ d)) → S w → SeqP P ops Q S p a w → wpAnyH P .any ops Q S p.length L a w
  | [], d, c, L, a, w, _, _, _, hall, _, _, hs, hL, hS, h => by
    refine ⟨?_, h⟩
    rw [List.eq_nil_iff_forall_not_mem]
    intro j hj
    obtain ⟨h1, o, ho, _⟩ := mem_ready.1 hj
    have hjn : j < ops.size := (Array.getElem?_eq_some_iff.1 ho).1
    have h2 : j ∈ d := by
      rcases hall j hjn with h | ⟨x, hx, _⟩
      · exact h
      · cases hx
    have h3 := (hL j hjn).2 h2
    have hl : j < L.size := by omega
    simp [Array.getD, hl] at h1 h3
    rw [h1] at h3; cases h3
  | (i, b) :: p, d, c, L, a, w, ht, ho, hc, hall, hlt, hdl, hs, hL, hS, h => by
    have hi : i < ops.size := hlt (i, b) (List.mem_cons_self ..)
    obtain ⟨oi, hoi⟩ : ∃ o, ops[i]? = some o := ⟨ops[i], Array.getElem?_eq_getElem hi⟩
    simp only [List.map_cons, chkTake, chkOrder, Bool.and_eq_true, infoOf_i, infoOf_t] at ht ho
    obtain ⟨ht1, ht2⟩ := ht
    obtain ⟨⟨ho0, ho1⟩, ho2⟩ := ho
    have hid : i ∉ d := by simpa using ho0
    have hbit : ∀ k, k < ops.size → ((L.setIfInBounds i true).getD k false = true ↔ k ∈ i :: d) := by
      intro k hk
      rw [bit_set (by omega)]
      by_cases e : k = i
      · rw [if_pos e]; simp [e]
      · rw [if_neg e, hL k hk]; simp [e]
    have hunl : ∀ k, k < ops.size → (L.getD k true = false ↔ k ∉ d) := by
      intro k hk
      have := hL k hk
      have hl : k < L.size := by omega
      simp only [Array.getD, hl, dite_true] at this ⊢
      rw [← this, Bool.not_eq_true]
    have hready : i ∈ Region.ready .any ops L := by
      refine mem_ready.2 ⟨(hunl i hi).2 hid, oi, hoi, fun e he hb => ?_⟩
      have hk : e.on ∈ (infoOf ops (i, b)).deps := (dep_mem (x := (i, b)) hoi).2 ⟨e, he, hb, rfl⟩
      have hd : e.on ∈ d := by have := List.all_eq_true.1 ho1 _ hk; simpa using this
      exact (hL _ (hdl _ hd)).2 hd
    have hcall : ∃ c', chkCall c' (p.map (infoOf ops)) = true ∧ (b = false → ∃ W, c' = some W ∧ W = [i]) := by
      cases c with
      | none =>
        simp only [List.map_cons, chkCall, infoOf_i, infoOf_t] at hc
        cases b with
        | true => exact ⟨_, hc, fun e => by cases e⟩
        | false => exact ⟨_, hc, fun _ => ⟨[i], rfl, rfl⟩⟩
      | some W =>
        simp only [List.map_cons, chkCall, infoOf_i, infoOf_t, Bool.and_eq_true] at hc
        cases b with
        | true => exact ⟨_, hc.2, fun e => by cases e⟩
        | false => exact ⟨_, hc.2, fun _ => ⟨[i], rfl, rfl⟩⟩
    obtain ⟨c', hc', hcW⟩ := hcall
    have hall' : ∀ k, k < ops.size → k ∈ i :: d ∨ ∃ x ∈ p, x.1 = k := by
      intro k hk
      rcases hall k hk with h | ⟨x, hx, e⟩
      · exact .inl (List.mem_cons_of_mem _ h)
      · rcases List.mem_cons.1 hx with rfl | hx
        · exact .inl (by rw [← e]; exact List.mem_cons_self ..)
        · exact .inr ⟨x, hx, e⟩
    have hlt' : ∀ x ∈ p, x.1 < ops.size := fun x hx => hlt x (List.mem_cons_of_mem _ hx)
    have IH := fun a' w' (hS' : S w') (h' : SeqP P ops Q S p a' w') => seq_held hns p (i :: d) c' (L.setIfInBounds i true) a' w' ht2 ho2 hc' hall' hlt' (fun k hk => by rcases List.mem_cons.1 hk with rfl | hk; exact hi; exact hdl k hk) (by simpa using hs) hbit hS' h'
    cases b with
    | true =>
      obtain ⟨o, v, ho', hQ, hy, hrest⟩ := h
      rw [hoi] at ho'; cases ho'
      refine wpAnyH_first hoi ?_ hQ _ _ _ _ ?_ hready hy hS (IH _ _ hS hrest)
      · intro j o cs bl hj e
        have := Array.all_eq_true_iff_forall_mem.1 hns o (Array.mem_of_getElem? hj)
        rw [e] at this; cases this
      · intro j oj hj hne hu hno
        have hjn : j < ops.size := (Array.getElem?_eq_some_iff.1 hj).1
        have hjd : j ∉ d := (hunl j hjn).1 hu
        rcases hall j hjn with h | ⟨x, hx, e⟩
        · exact absurd h hjd
        · rcases List.mem_cons.1 hx with rfl | hx
          · exact absurd e.symm hne
          · subst e
            simp only [Bool.not_true, Bool.false_or] at ht1
            have h1 := List.all_eq_true.1 ht1 _ (List.mem_map_of_mem (f := infoOf ops) hx)
            rcases Bool.or_eq_true_iff.1 h1 with h2 | h2
            · exfalso
              have h3 : i ∈ (infoOf ops x).deps := by simpa using h2
              obtain ⟨e, he, hb, hon⟩ := (dep_mem hj).1 h3
              exact hno e he hb hon
            · exact apartB_spec (x := (i, true)) hoi hj h2
    | false =>
      refine ⟨fun e => (by rw [e] at hready; exact (nomatch hready)), fun j hj => ?_⟩
      have hji : j = i := by
        obtain ⟨h1, oj, hoj, hdep⟩ := mem_ready.1 hj
        have hjn : j < ops.size := (Array.getElem?_eq_some_iff.1 hoj).1
        have hjd : j ∉ d := (hunl j hjn).1 h1
        rcases hall j hjn with h | ⟨x, hx, e⟩
        · exact absurd h hjd
        · rcases List.mem_cons.1 hx with rfl | hx
          · exact e.symm
          · exfalso
            subst e
            obtain ⟨W, rfl, rfl⟩ := hcW rfl
            obtain ⟨k, hk, hW⟩ := chkCall_spec _ _ hc' _ (List.mem_map_of_mem (f := infoOf ops) hx)
            obtain ⟨e, he, hb, hon⟩ := (dep_mem hoj).1 hk
            have hlk := hdep e he hb
            rw [hon] at hlk
            have hkn : k < ops.size := by
              rcases hW with hW | ⟨y, hy, ey⟩
              · simp at hW; omega
              · obtain ⟨z, hz, rfl⟩ := List.mem_map.1 hy
                rw [infoOf_i] at ey; rw [← ey]; exact hlt' z hz
            have hkd := (hL k hkn).1 hlk
            have hnot : ∀ (q : List (Nat × Bool)) (d' : List Nat), chkOrder d' (q.map (infoOf ops)) = true → ∀ z ∈ q, z.1 ∉ d' := by
              intro q
              induction q with
              | nil => intro d' _ z hz; cases hz
              | cons y r ih =>
                intro d' h z hz
                simp only [List.map_cons, chkOrder, Bool.and_eq_true, infoOf_i] at h
                rcases List.mem_cons.1 hz with rfl | hz
                · simpa using h.1.1
                · exact fun hm => ih _ h.2 z hz (List.mem_cons_of_mem _ hm)
            rcases hW with hW | ⟨y, hy, ey⟩
            · simp at hW; subst hW; exact hid hkd
            · obtain ⟨z, hz, rfl⟩ := List.mem_map.1 hy
              rw [infoOf_i] at ey; subst ey
              exact hnot p (i :: d) ho2 z hz (List.mem_cons_of_mem _ hkd)
      subst hji
      exact wpOp_mono (fun a' w' h' => ⟨h'.1, IH a' w' h'.1 (h'.2 h'.1)⟩) h
theorem wp_region_seq {P : Program} {ops : Array Oper} {Q : Exit → Act → World → Prop} {id : Nat} {a : Act} {w : World} (S : World → Prop) (p : List (Nat × Bool)) (hm : P.follows .mixedOrders = true)
    (hc : chkAll ops p = true) (hn : p.length = ops.size) (hS : S w.drew) (h : S w.drew → SeqP P ops Q S p a w.drew) : (Code.region id ops true).wp P Q a w := by
  refine wp_region_held_drew (S := S) hm hS (fun hS => ?_)
  unfold chkAll at hc
  simp only [Bool.and_eq_true] at hc
  obtain ⟨⟨⟨⟨⟨h1, h2⟩, h3⟩, h4⟩, h5⟩, h6⟩ := hc
  have := seq_held (P := P) (Q := Q) (S := S) h6 p [] none (Array.replicate ops.size false) a w.drew h1 h2 h3 ?_ ?_ (fun k hk => nomatch hk) (by simp) ?_ hS (h hS)
  · rw [hn] at this; exact this
  · intro k hk
    have := List.all_eq_true.1 h4 k (List.mem_range.2 hk)
    right
    simp only [List.contains_iff_mem, List.mem_map] at this
    obtain ⟨x, hx, e⟩ := this
    exact ⟨x, hx, e⟩
  · intro x hx
    simpa using List.all_eq_true.1 h5 x hx
  · intro k hk
    simp [Array.getD, hk]
theorem seq0 {α : Type} {l : List α} {i : Nat} {a : α} : l.toArray.setIfInBounds i a = (l.set i a).toArray := List.setIfInBounds_toArray _ _ _
theorem seq1 {α : Type} {a b : α} {l : List α} : (a :: l).set 0 b = b :: l := rfl
theorem seq2 {α : Type} {a b : α} {l : List α} {n : Nat} : (a :: l).set (n + 1) b = a :: l.set n b := rfl
section
variable {P : Program} {ops : Array Oper} {Q : Exit → Act → World → Prop} {S : World → Prop} {p : List (Nat × Bool)} {a : Act} {w : World} {i : Nat} {o : Oper}
theorem SeqP.take {v : Value} (ho : ops.toList[i]? = some o) (hQ : ∀ c a w, Q (.panic c) (a.put o.dst v) w → Q (.panic c) a w) (hy : YieldsIf P ops S o v a) (h : SeqP P ops Q S p (a.put o.dst v) w) : SeqP P ops Q S ((i, true) :: p) a w :=
  ⟨o, v, by rw [← Array.getElem?_toList]; exact ho, hQ, hy, h⟩
theorem SeqP.call (ho : ops.toList[i]? = some o) (hw : Region.wanted o (yielded ops a.tmps) = true) (h : ∀ K : Act → World → Prop, Shut (∀ a w, S w → (S w → SeqP P ops Q S p a w) → K a w) → Oper.wp P o a w K Q) : SeqP P ops Q S ((i, false) :: p) a w := by
  show wpOp P ops Q i _ a w
  unfold wpOp
  rw [show ops[i]? = some o by rw [← Array.getElem?_toList]; exact ho]
  simp only [hw, if_true]
  exact .inl (h _ (fun a w hS h => ⟨hS, h⟩))
theorem SeqP.done (h : Q .normal a w) : SeqP P ops Q S [] a w := h
end
end Go.Proofs.YthcmoimlnhghcaaGreatDoor
