/- Dyadic numbers, walked: Sign, Neg, Scaled, Cmp, Add, Sub, Mid. -/
import Derived.Test.YtacjfpibilolnaaGreatDoorSC26
set_option maxRecDepth 100000
set_option maxHeartbeats 4000000
set_option linter.unusedVariables false
set_option linter.unusedSimpArgs false
namespace Go.Proofs.YtacjfpibilolnaaGreatDoor
open Go.RowKit Go.Shelf
attribute [local go_sem] max2_i min2_i max_two min_two

/-- A dyadic number of no great size. -/
structure DOk (q : Rat) : Prop where
  d : Dyd q
  l : nl (mg (dmn q)) ≤ 100000
  e : -1000000 ≤ dex q ∧ dex q ≤ 1000000
theorem dval_add (x y e : Int) : dval (x + y) e = dval x e + dval y e := by unfold dval; rw [Rat.intCast_add, Rat.add_mul]
theorem dval_lt {x y e : Int} : dval x e < dval y e ↔ x < y := by
  unfold dval
  rw [Rat.mul_lt_mul_right (zp_pos e)]
  exact Rat.intCast_lt_intCast
theorem lev {q : Rat} (h : Dyd q) {E : Int} (hE : E ≤ dex q) : dval (shf (dmn q) (dex q - E)) E = q := by
  unfold shf
  rw [if_pos (by omega), dval_shift]
  have : E + ((dex q - E).toNat : Int) = dex q := by omega
  rw [this, dval_q h]
def rcmp (a b : Rat) : Int := if a < b then -1 else if b < a then 1 else 0
theorem icmp_dval (x y e : Int) : icmp x y = rcmp (dval x e) (dval y e) := by
  unfold icmp rcmp; simp only [dval_lt]
theorem nl_shf {z d : Int} {K : Nat} (h : nl (mg z) ≤ 100000) (h0 : 0 ≤ d) (h1 : d ≤ 2000000) : nl (mg (shf z d)) ≤ 162502 := by
  unfold shf
  rw [if_pos h0, mg_mul]
  have e : mg ((2 : Int) ^ d.toNat) = 2 ^ d.toNat := by unfold mg; rw [Int.natAbs_pow]; rfl
  rw [e]
  have := nl_shl (mg z) d.toNat
  omega
theorem dsign_c (aA : Option Addr) (ac : Nat) (a : Rat) (w : World) (ha : NatV w aA ac (mg (dmn a)))  :
    Calls Tryz.prog 28 #[.agg #[.bool (sg (dmn a)), .slice aA (nl (mg (dmn a))) ac, .int .i64 (dex a)]] w (fun e w' => e = .returned (.int .i64 (dmn a).sign) ∧ Below w.heap.size w w') := by
  obtain ⟨hb1, Ra⟩ := bx1 w #[.bool (sg (dmn a)), .slice aA (nl (mg (dmn a))) ac, .int .i64 (dex a)] 28
  replace ha := ha.below hb1
  have HBT := hb1
  clear hb1
  have qa0 := Ra.c (i := 0) rfl
  have qa1 := Ra.c (i := 1) rfl
  have qa2 := Ra.c (i := 2) rfl
  go_enter Tryz.func28, Tryz.ntmps28
  go_wp2_with (fail)
  refine (Calls.mono (isign_c aA ac (dmn a) _) ?_)
  rintro e W2 ⟨rfl, hb2⟩
  replace ha := ha.below hb2
  replace Ra := Ra.below hb2
  replace qa0 := cbl hb2 qa0
  replace qa1 := cbl hb2 qa1
  replace qa2 := cbl hb2 qa2
  replace HBT := Below.cons HBT hb2
  clear hb2
  go_wp2_with (fail)
  go_ret
  exact ⟨rfl, HBT⟩
theorem dscaled_c (aA : Option Addr) (ac : Nat) (a : Rat) (n : Int) (w : World) (ha : NatV w aA ac (mg (dmn a)))  (ok : DOk a) (hn : -1000000 ≤ n ∧ n ≤ 1000000) :
    Calls Tryz.prog 21 #[.agg #[.bool (sg (dmn a)), .slice aA (nl (mg (dmn a))) ac, .int .i64 (dex a)], .int .i64 n] w (RetI w (shf (dmn a) (dex a + n))) := by
  have hl := ok.l
  have he := ok.e
  obtain ⟨x, Ex⟩ : ∃ x, x = dex a + n := ⟨_, rfl⟩
  have Ix : dex a + n = x := Ex.symm
  rw [Ix]
  have hx : -16777216 ≤ x ∧ x ≤ 16777216 := by omega
  replace Ex := Lib.hid Ex
  replace ok := Lib.hid ok
  replace he := Lib.hid he
  obtain ⟨hb1, Ra, Rr⟩ := bx2 w #[.bool (sg (dmn a)), .slice aA (nl (mg (dmn a))) ac, .int .i64 (dex a)] 28 #[.bool false, .slice none 0 0] 24
  replace ha := ha.below hb1
  have HBT := hb1
  clear hb1
  have qa0 := Ra.c (i := 0) rfl
  have qa1 := Ra.c (i := 1) rfl
  have qa2 := Ra.c (i := 2) rfl
  have qr0 := Rr.c (i := 0) rfl
  have qr1 := Rr.c (i := 1) rfl
  go_enter Tryz.func21, Tryz.ntmps21
  go_wp2_with (fail)
  obtain ⟨z, Ez⟩ : ∃ zq : Int, zq = shf (dmn a) x := ⟨_, rfl⟩
  refine (Calls.mono (R := RetI ((w.alloc (.cells #[.bool (sg (dmn a)), .slice aA (nl (mg (dmn a))) ac, .int .i64 (dex a)] 28)).alloc (.cells #[.bool false, .slice none 0 0] 24)) z) (by rw [Ez]; with_reducible exact (ishift_c aA ac (dmn a) x _ ha (by omega) hx)) ?_)
  replace Ez := Lib.hid Ez
  rintro e W2 ⟨Xz, cz, rfl, hz, hb2⟩
  replace ha := ha.below hb2
  replace Ra := Ra.below hb2
  replace qa0 := cbl hb2 qa0
  replace qa1 := cbl hb2 qa1
  replace qa2 := cbl hb2 qa2
  replace Rr := Rr.below hb2
  replace qr0 := cbl hb2 qr0
  replace qr1 := cbl hb2 qr1
  replace HBT := Below.cons HBT hb2
  clear hb2
  have fzr0 := Rr.f (i := 0)
  have fzr1 := Rr.f (i := 1)
  go_wp2_with (fail)
  have hzz : z = shf (dmn a) x := by exact Ez.out
  subst hzz
  have RS := Rr.store2 (.bool (sg ((shf (dmn a) x)))) (.slice Xz (nl (mg ((shf (dmn a) x)))) cz)
  have e0 := RS.c (i := 0) rfl
  have e1 := RS.c (i := 1) rfl
  refine bodyPost_ret (v := .agg #[.bool (sg ((shf (dmn a) x))), .slice Xz (nl (mg ((shf (dmn a) x)))) cz]) (by simp [results, Tryz.results21, go_sem, e0, e1]) rfl ?_
  exact ⟨Xz, cz, rfl, (Rr.keep2 (nuB rfl) hz), (Below.store2 HBT (by first | exact Nat.le_refl _ | omega))⟩
theorem dcmp1_c (aA : Option Addr) (ac : Nat) (a : Int) (bA : Option Addr) (bc : Nat) (b : Int) (n : Int) (w : World) (ha : NatV w aA ac (mg a)) (hb : NatV w bA bc (mg b))  (la : nl (mg a) ≤ 262144) (lb : nl (mg b) ≤ 262144) :
    Calls Tryz.prog 86 #[.agg #[.bool (sg a), .slice aA (nl (mg a)) ac], .agg #[.bool (sg b), .slice bA (nl (mg b)) bc], .int .i64 n] w (fun e w' => e = .returned (.int .i64 (icmp a b)) ∧ Below w.heap.size w w') := by
  obtain ⟨hb1, Ra, Rb⟩ := bx2 w #[.bool (sg a), .slice aA (nl (mg a)) ac] 24 #[.bool (sg b), .slice bA (nl (mg b)) bc] 24
  replace ha := ha.below hb1
  replace hb := hb.below hb1
  have HBT := hb1
  clear hb1
  have qa0 := Ra.c (i := 0) rfl
  have qa1 := Ra.c (i := 1) rfl
  have qb0 := Rb.c (i := 0) rfl
  have qb1 := Rb.c (i := 1) rfl
  go_enter Tryz.func86, Tryz.ntmps86
  go_wp2_with (fail)
  refine (Calls.mono (icmp_c aA ac a bA bc b _ ha hb (by omega) (by omega)) ?_)
  rintro e W2 ⟨rfl, hb2⟩
  replace ha := ha.below hb2
  replace hb := hb.below hb2
  replace Ra := Ra.below hb2
  replace qa0 := cbl hb2 qa0
  replace qa1 := cbl hb2 qa1
  replace Rb := Rb.below hb2
  replace qb0 := cbl hb2 qb0
  replace qb1 := cbl hb2 qb1
  replace HBT := Below.cons HBT hb2
  clear hb2
  go_wp2_with (fail)
  go_ret
  exact ⟨rfl, HBT⟩
theorem dadd1_c (aA : Option Addr) (ac : Nat) (a : Int) (bA : Option Addr) (bc : Nat) (b : Int) (n : Int) (w : World) (ha : NatV w aA ac (mg a)) (hb : NatV w bA bc (mg b))  (la : nl (mg a) ≤ 200000) (lb : nl (mg b) ≤ 200000) (hn : -1000000 ≤ n ∧ n ≤ 1000000) (hT : Tab w) :
    Calls Tryz.prog 90 #[.agg #[.bool (sg a), .slice aA (nl (mg a)) ac], .agg #[.bool (sg b), .slice bA (nl (mg b)) bc], .int .i64 n] w (RetD w (dval (a + b) n)) := by
  obtain ⟨hb1, Ra, Rb, Rr⟩ := bx3 w #[.bool (sg a), .slice aA (nl (mg a)) ac] 24 #[.bool (sg b), .slice bA (nl (mg b)) bc] 24 #[.bool false, .slice none 0 0, .int .i64 0] 28
  replace ha := ha.below hb1
  replace hb := hb.below hb1
  replace hT := hT.below hb1
  have HBT := hb1
  clear hb1
  have qa0 := Ra.c (i := 0) rfl
  have qa1 := Ra.c (i := 1) rfl
  have qb0 := Rb.c (i := 0) rfl
  have qb1 := Rb.c (i := 1) rfl
  have qr0 := Rr.c (i := 0) rfl
  have qr1 := Rr.c (i := 1) rfl
  have qr2 := Rr.c (i := 2) rfl
  go_enter Tryz.func90, Tryz.ntmps90
  go_wp2_with (fail)
  obtain ⟨u, Eu⟩ : ∃ zq : Int, zq = a + b := ⟨_, rfl⟩
  have Nu : nl (mg u) ≤ 200001 := by rw [Eu]; have h1 := nl_add (mg a) (mg b); have h2 : nl (mg (a + b)) ≤ nl (mg a + mg b) := nl_mono (Int.natAbs_add_le a b); omega
  refine (Calls.mono (R := RetI (((w.alloc (.cells #[.bool (sg a), .slice aA (nl (mg a)) ac] 24)).alloc (.cells #[.bool (sg b), .slice bA (nl (mg b)) bc] 24)).alloc (.cells #[.bool false, .slice none 0 0, .int .i64 0] 28)) u) (by rw [Eu]; with_reducible exact (iadd_c aA ac a bA bc b _ ha hb (by omega) (by omega))) ?_)
  replace Eu := Lib.hid Eu
  rintro e W2 ⟨Xu, cu, rfl, hu, hb2⟩
  replace ha := ha.below hb2
  replace hb := hb.below hb2
  replace hT := hT.below hb2
  replace Ra := Ra.below hb2
  replace qa0 := cbl hb2 qa0
  replace qa1 := cbl hb2 qa1
  replace Rb := Rb.below hb2
  replace qb0 := cbl hb2 qb0
  replace qb1 := cbl hb2 qb1
  replace Rr := Rr.below hb2
  replace qr0 := cbl hb2 qr0
  replace qr1 := cbl hb2 qr1
  replace qr2 := cbl hb2 qr2
  replace HBT := Below.cons HBT hb2
  clear hb2
  go_wp2_with (fail)
  obtain ⟨q, Eq⟩ : ∃ zq : Rat, zq = dval u n := ⟨_, rfl⟩
  refine (Calls.mono (R := RetD W2 q) (by rw [Eq]; with_reducible exact (dmake_c Xu cu u n _ hu hT (by omega) (by omega))) ?_)
  replace Eq := Lib.hid Eq
  rintro e W3 ⟨Xq, cq, rfl, hq, hb3⟩
  replace ha := ha.below hb3
  replace hb := hb.below hb3
  replace hT := hT.below hb3
  replace Ra := Ra.below hb3
  replace qa0 := cbl hb3 qa0
  replace qa1 := cbl hb3 qa1
  replace Rb := Rb.below hb3
  replace qb0 := cbl hb3 qb0
  replace qb1 := cbl hb3 qb1
  replace Rr := Rr.below hb3
  replace qr0 := cbl hb3 qr0
  replace qr1 := cbl hb3 qr1
  replace qr2 := cbl hb3 qr2
  replace hu := hu.below hb3
  replace HBT := Below.cons HBT hb3
  clear hb3
  have fzr0 := Rr.f (i := 0)
  have fzr1 := Rr.f (i := 1)
  have fzr2 := Rr.f (i := 2)
  go_wp2_with (fail)
  have hzq : q = dval (a + b) n := by rw [Eq.out, Eu.out]
  subst hzq
  have RS := Rr.store3 (.bool (sg (dmn ((dval (a + b) n))))) (.slice Xq (nl (mg (dmn ((dval (a + b) n))))) cq) (.int .i64 (dex ((dval (a + b) n))))
  have e0 := RS.c (i := 0) rfl
  have e1 := RS.c (i := 1) rfl
  have e2 := RS.c (i := 2) rfl
  refine bodyPost_ret (v := .agg #[.bool (sg (dmn ((dval (a + b) n)))), .slice Xq (nl (mg (dmn ((dval (a + b) n))))) cq, .int .i64 (dex ((dval (a + b) n)))]) (by simp [results, Tryz.results90, go_sem, e0, e1, e2]) rfl ?_
  exact ⟨Xq, cq, rfl, (Rr.keep3 (nuB rfl) hq), (Below.store3 HBT (by first | exact Nat.le_refl _ | omega))⟩
theorem dlevcmp_c (aA : Option Addr) (ac : Nat) (a : Rat) (bA : Option Addr) (bc : Nat) (b : Rat) (w : World) (ha : NatV w aA ac (mg (dmn a))) (hb : NatV w bA bc (mg (dmn b))) (oa : DOk a) (ob : DOk b) :
    Calls Tryz.prog 85 #[.agg #[.bool (sg (dmn a)), .slice aA (nl (mg (dmn a))) ac, .int .i64 (dex a)], .agg #[.bool (sg (dmn b)), .slice bA (nl (mg (dmn b))) bc, .int .i64 (dex b)], .func (.func 86) #[] #[]] w (fun e w' => e = .returned (.int .i64 (rcmp a b)) ∧ Below w.heap.size w w') := by
  have ha1 := oa.l
  have hb1 := ob.l
  have ha2 := oa.e
  have hb2 := ob.e
  obtain ⟨E, EE⟩ : ∃ E, E = min (dex a) (dex b) := ⟨_, rfl⟩
  have IE : min (dex a) (dex b) = E := EE.symm
  have hEa : E ≤ dex a := by omega
  have hEb : E ≤ dex b := by omega
  have hE : -1000000 ≤ E ∧ E ≤ 1000000 := by omega
  have va := lev oa.d hEa
  have vb := lev ob.d hEb
  obtain ⟨da, Eda⟩ : ∃ d, d = dex a - E := ⟨_, rfl⟩
  have Ida : dex a - E = da := Eda.symm
  have Rda : 0 ≤ da ∧ da ≤ 2000000 := by omega
  have Wda : IntKind.i64.wrap da = da := IntWalk.i64_in _ (by omega)
  rw [Ida] at va
  obtain ⟨db, Edb⟩ : ∃ d, d = dex b - E := ⟨_, rfl⟩
  have Idb : dex b - E = db := Edb.symm
  have Rdb : 0 ≤ db ∧ db ≤ 2000000 := by omega
  have Wdb : IntKind.i64.wrap db = db := IntWalk.i64_in _ (by omega)
  rw [Idb] at vb
  replace EE := Lib.hid EE
  replace Eda := Lib.hid Eda
  replace Edb := Lib.hid Edb
  replace va := Lib.hid va
  replace vb := Lib.hid vb
  replace hEa := Lib.hid hEa
  replace hEb := Lib.hid hEb
  replace oa := Lib.hid oa
  replace ob := Lib.hid ob
  replace ha2 := Lib.hid ha2
  replace hb2 := Lib.hid hb2
  obtain ⟨hb1, Ra, Rb⟩ := bx2 w #[.bool (sg (dmn a)), .slice aA (nl (mg (dmn a))) ac, .int .i64 (dex a)] 28 #[.bool (sg (dmn b)), .slice bA (nl (mg (dmn b))) bc, .int .i64 (dex b)] 28
  replace ha := ha.below hb1
  replace hb := hb.below hb1
  have HBT := hb1
  clear hb1
  have qa0 := Ra.c (i := 0) rfl
  have qa1 := Ra.c (i := 1) rfl
  have qa2 := Ra.c (i := 2) rfl
  have qb0 := Rb.c (i := 0) rfl
  have qb1 := Rb.c (i := 1) rfl
  have qb2 := Rb.c (i := 2) rfl
  go_enter Tryz.func85, Tryz.ntmps85
  go_wp2_with (fail)
  have hd2 := drb (((w.alloc (.cells #[.bool (sg (dmn a)), .slice aA (nl (mg (dmn a))) ac, .int .i64 (dex a)] 28)).alloc (.cells #[.bool (sg (dmn b)), .slice bA (nl (mg (dmn b))) bc, .int .i64 (dex b)] 28)))
  replace ha := ha.below hd2
  replace hb := hb.below hd2
  replace Ra := Ra.below hd2
  replace qa0 := cbl hd2 qa0
  replace qa1 := cbl hd2 qa1
  replace qa2 := cbl hd2 qa2
  replace Rb := Rb.below hd2
  replace qb0 := cbl hd2 qb0
  replace qb1 := cbl hd2 qb1
  replace qb2 := cbl hd2 qb2
  replace HBT := Below.cons HBT hd2
  clear hd2
  obtain ⟨x, Ex⟩ : ∃ zq : Int, zq = shf (dmn a) da := ⟨_, rfl⟩
  have Nx : nl (mg x) ≤ 162502 := by rw [Ex]; exact nl_shf (K := 0) (by omega) (by omega) (by omega)
  have C2_0 := fun (W : World) (h1 : NatV W aA ac (mg (dmn a))) => ishift_c aA ac (dmn a) da W h1 (by omega) (by omega)
  simp only [← Ex] at C2_0
  replace Ex := Lib.hid Ex
  replace C2_0 := Lib.hid C2_0
  obtain ⟨y, Ey⟩ : ∃ zq : Int, zq = shf (dmn b) db := ⟨_, rfl⟩
  have Ny : nl (mg y) ≤ 162502 := by rw [Ey]; exact nl_shf (K := 0) (by omega) (by omega) (by omega)
  have C2_1 := fun (W : World) (h1 : NatV W bA bc (mg (dmn b))) => ishift_c bA bc (dmn b) db W h1 (by omega) (by omega)
  simp only [← Ey] at C2_1
  replace Ey := Lib.hid Ey
  replace C2_1 := Lib.hid C2_1
  have C2_2 := fun (W : World) (A : Option Addr) (c : Nat) (B : Option Addr) (d : Nat) (h1 : NatV W A c (mg x)) (h2 : NatV W B d (mg y)) => dcmp1_c A c x B d y E W h1 h2 (by omega) (by omega)
  replace C2_2 := Lib.hid C2_2
  go_region_held3 (fun W => W.cell? ⟨w.heap.size, 0, none⟩ = some (.bool (sg (dmn a))) ∧ W.cell? ⟨w.heap.size, 1, none⟩ = some (.slice aA (nl (mg (dmn a))) ac) ∧ W.cell? ⟨w.heap.size, 2, none⟩ = some (.int .i64 (dex a)) ∧ W.cell? ⟨(w.heap.size + 1), 0, none⟩ = some (.bool (sg (dmn b))) ∧ W.cell? ⟨(w.heap.size + 1), 1, none⟩ = some (.slice bA (nl (mg (dmn b))) bc) ∧ W.cell? ⟨(w.heap.size + 1), 2, none⟩ = some (.int .i64 (dex b)))
    (first
      | exact ⟨qa0, qa1, qa2, qb0, qb1, qb2⟩
      | exact ⟨qa0_3, qa1_3, qa2_3, qb0_3, qb1_3, qb2_3⟩
      | exact ⟨qa0_4, qa1_4, qa2_4, qb0_4, qb1_4, qb2_4⟩
      | exact ⟨qa0_5, qa1_5, qa2_5, qb0_5, qb1_5, qb2_5⟩
      | go_keep)
    (first
      | (go_at_call 63; (with_reducible refine (C2_0.out _ ha).mono ?_); rintro e W3 ⟨Xx, cx, rfl, hx, hb3⟩; have ha_3 := ha.below hb3; have hb_3 := hb.below hb3; have Ra_3 := Ra.below hb3; have qa0_3 := cbl hb3 qa0; have qa1_3 := cbl hb3 qa1; have qa2_3 := cbl hb3 qa2; have Rb_3 := Rb.below hb3; have qb0_3 := cbl hb3 qb0; have qb1_3 := cbl hb3 qb1; have qb2_3 := cbl hb3 qb2; have HBT_3 := Below.cons HBT hb3)
      | (go_at_call 63; (with_reducible refine (C2_1.out _ hb_3).mono ?_); rintro e W4 ⟨Xy, cy, rfl, hy, hb4⟩; have ha_4 := ha_3.below hb4; have hb_4 := hb_3.below hb4; have Ra_4 := Ra_3.below hb4; have qa0_4 := cbl hb4 qa0_3; have qa1_4 := cbl hb4 qa1_3; have qa2_4 := cbl hb4 qa2_3; have Rb_4 := Rb_3.below hb4; have qb0_4 := cbl hb4 qb0_3; have qb1_4 := cbl hb4 qb1_3; have qb2_4 := cbl hb4 qb2_3; have hx_4 := hx.below hb4; have HBT_4 := Below.cons HBT_3 hb4)
      | (go_at_call 86; (with_reducible refine (C2_2.out _ _ _ _ _ hx_4 hy).mono ?_); rintro e W5 ⟨rfl, hb5⟩; have ha_5 := ha_4.below hb5; have hb_5 := hb_4.below hb5; have Ra_5 := Ra_4.below hb5; have qa0_5 := cbl hb5 qa0_4; have qa1_5 := cbl hb5 qa1_4; have qa2_5 := cbl hb5 qa2_4; have Rb_5 := Rb_4.below hb5; have qb0_5 := cbl hb5 qb0_4; have qb1_5 := cbl hb5 qb1_4; have qb2_5 := cbl hb5 qb2_4; have hx_5 := hx_4.below hb5; have hy_5 := hy.below hb5; have HBT_5 := Below.cons HBT_4 hb5))
  all_goals (try go_wp2_with (fail))
  go_ret
  exact ⟨ret_int (by rw [icmp_dval x y E, Ex.out, Ey.out, va.out, vb.out]), HBT_5⟩
theorem dlevadd_c (aA : Option Addr) (ac : Nat) (a : Rat) (bA : Option Addr) (bc : Nat) (b : Rat) (w : World) (ha : NatV w aA ac (mg (dmn a))) (hb : NatV w bA bc (mg (dmn b))) (oa : DOk a) (ob : DOk b) (hT : Tab w) :
    Calls Tryz.prog 89 #[.agg #[.bool (sg (dmn a)), .slice aA (nl (mg (dmn a))) ac, .int .i64 (dex a)], .agg #[.bool (sg (dmn b)), .slice bA (nl (mg (dmn b))) bc, .int .i64 (dex b)], .func (.func 90) #[] #[]] w (RetD w (a + b)) := by
  have ha1 := oa.l
  have hb1 := ob.l
  have ha2 := oa.e
  have hb2 := ob.e
  obtain ⟨E, EE⟩ : ∃ E, E = min (dex a) (dex b) := ⟨_, rfl⟩
  have IE : min (dex a) (dex b) = E := EE.symm
  have hEa : E ≤ dex a := by omega
  have hEb : E ≤ dex b := by omega
  have hE : -1000000 ≤ E ∧ E ≤ 1000000 := by omega
  have va := lev oa.d hEa
  have vb := lev ob.d hEb
  obtain ⟨da, Eda⟩ : ∃ d, d = dex a - E := ⟨_, rfl⟩
  have Ida : dex a - E = da := Eda.symm
  have Rda : 0 ≤ da ∧ da ≤ 2000000 := by omega
  have Wda : IntKind.i64.wrap da = da := IntWalk.i64_in _ (by omega)
  rw [Ida] at va
  obtain ⟨db, Edb⟩ : ∃ d, d = dex b - E := ⟨_, rfl⟩
  have Idb : dex b - E = db := Edb.symm
  have Rdb : 0 ≤ db ∧ db ≤ 2000000 := by omega
  have Wdb : IntKind.i64.wrap db = db := IntWalk.i64_in _ (by omega)
  rw [Idb] at vb
  replace EE := Lib.hid EE
  replace Eda := Lib.hid Eda
  replace Edb := Lib.hid Edb
  replace va := Lib.hid va
  replace vb := Lib.hid vb
  replace hEa := Lib.hid hEa
  replace hEb := Lib.hid hEb
  replace oa := Lib.hid oa
  replace ob := Lib.hid ob
  replace ha2 := Lib.hid ha2
  replace hb2 := Lib.hid hb2
  obtain ⟨hb1, Ra, Rb, Rr⟩ := bx3 w #[.bool (sg (dmn a)), .slice aA (nl (mg (dmn a))) ac, .int .i64 (dex a)] 28 #[.bool (sg (dmn b)), .slice bA (nl (mg (dmn b))) bc, .int .i64 (dex b)] 28 #[.bool false, .slice none 0 0, .int .i64 0] 28
  replace ha := ha.below hb1
  replace hb := hb.below hb1
  replace hT := hT.below hb1
  have HBT := hb1
  clear hb1
  have qa0 := Ra.c (i := 0) rfl
  have qa1 := Ra.c (i := 1) rfl
  have qa2 := Ra.c (i := 2) rfl
  have qb0 := Rb.c (i := 0) rfl
  have qb1 := Rb.c (i := 1) rfl
  have qb2 := Rb.c (i := 2) rfl
  have qr0 := Rr.c (i := 0) rfl
  have qr1 := Rr.c (i := 1) rfl
  have qr2 := Rr.c (i := 2) rfl
  go_enter Tryz.func89, Tryz.ntmps89
  go_wp2_with (fail)
  have hd2 := drb ((((w.alloc (.cells #[.bool (sg (dmn a)), .slice aA (nl (mg (dmn a))) ac, .int .i64 (dex a)] 28)).alloc (.cells #[.bool (sg (dmn b)), .slice bA (nl (mg (dmn b))) bc, .int .i64 (dex b)] 28)).alloc (.cells #[.bool false, .slice none 0 0, .int .i64 0] 28)))
  replace ha := ha.below hd2
  replace hb := hb.below hd2
  replace hT := hT.below hd2
  replace Ra := Ra.below hd2
  replace qa0 := cbl hd2 qa0
  replace qa1 := cbl hd2 qa1
  replace qa2 := cbl hd2 qa2
  replace Rb := Rb.below hd2
  replace qb0 := cbl hd2 qb0
  replace qb1 := cbl hd2 qb1
  replace qb2 := cbl hd2 qb2
  replace Rr := Rr.below hd2
  replace qr0 := cbl hd2 qr0
  replace qr1 := cbl hd2 qr1
  replace qr2 := cbl hd2 qr2
  replace HBT := Below.cons HBT hd2
  clear hd2
  obtain ⟨x, Ex⟩ : ∃ zq : Int, zq = shf (dmn a) da := ⟨_, rfl⟩
  have Nx : nl (mg x) ≤ 162502 := by rw [Ex]; exact nl_shf (K := 0) (by omega) (by omega) (by omega)
  have C2_0 := fun (W : World) (h1 : NatV W aA ac (mg (dmn a))) => ishift_c aA ac (dmn a) da W h1 (by omega) (by omega)
  simp only [← Ex] at C2_0
  replace Ex := Lib.hid Ex
  replace C2_0 := Lib.hid C2_0
  obtain ⟨y, Ey⟩ : ∃ zq : Int, zq = shf (dmn b) db := ⟨_, rfl⟩
  have Ny : nl (mg y) ≤ 162502 := by rw [Ey]; exact nl_shf (K := 0) (by omega) (by omega) (by omega)
  have C2_1 := fun (W : World) (h1 : NatV W bA bc (mg (dmn b))) => ishift_c bA bc (dmn b) db W h1 (by omega) (by omega)
  simp only [← Ey] at C2_1
  replace Ey := Lib.hid Ey
  replace C2_1 := Lib.hid C2_1
  obtain ⟨q, Eq⟩ : ∃ zq : Rat, zq = dval (x + y) E := ⟨_, rfl⟩
  have C2_2 := fun (W : World) (A : Option Addr) (c : Nat) (B : Option Addr) (d : Nat) (h1 : NatV W A c (mg x)) (h2 : NatV W B d (mg y)) (h3 : Tab W) => dadd1_c A c x B d y E W h1 h2 (by omega) (by omega) hE h3
  simp only [← Eq] at C2_2
  replace Eq := Lib.hid Eq
  replace C2_2 := Lib.hid C2_2
  go_region_held3 (fun W => W.cell? ⟨w.heap.size, 0, none⟩ = some (.bool (sg (dmn a))) ∧ W.cell? ⟨w.heap.size, 1, none⟩ = some (.slice aA (nl (mg (dmn a))) ac) ∧ W.cell? ⟨w.heap.size, 2, none⟩ = some (.int .i64 (dex a)) ∧ W.cell? ⟨(w.heap.size + 1), 0, none⟩ = some (.bool (sg (dmn b))) ∧ W.cell? ⟨(w.heap.size + 1), 1, none⟩ = some (.slice bA (nl (mg (dmn b))) bc) ∧ W.cell? ⟨(w.heap.size + 1), 2, none⟩ = some (.int .i64 (dex b)))
    (first
      | exact ⟨qa0, qa1, qa2, qb0, qb1, qb2⟩
      | exact ⟨qa0_3, qa1_3, qa2_3, qb0_3, qb1_3, qb2_3⟩
      | exact ⟨qa0_4, qa1_4, qa2_4, qb0_4, qb1_4, qb2_4⟩
      | exact ⟨qa0_5, qa1_5, qa2_5, qb0_5, qb1_5, qb2_5⟩
      | exact ⟨((Ra_5.other3 (by simp <;> omega)).c (i := 0) rfl), ((Ra_5.other3 (by simp <;> omega)).c (i := 1) rfl), ((Ra_5.other3 (by simp <;> omega)).c (i := 2) rfl), ((Rb_5.other3 (by simp <;> omega)).c (i := 0) rfl), ((Rb_5.other3 (by simp <;> omega)).c (i := 1) rfl), ((Rb_5.other3 (by simp <;> omega)).c (i := 2) rfl)⟩
      | go_keep)
    (first
      | (go_at_call 63; (with_reducible refine (C2_0.out _ ha).mono ?_); rintro e W3 ⟨Xx, cx, rfl, hx, hb3⟩; have ha_3 := ha.below hb3; have hb_3 := hb.below hb3; have hT_3 := hT.below hb3; have Ra_3 := Ra.below hb3; have qa0_3 := cbl hb3 qa0; have qa1_3 := cbl hb3 qa1; have qa2_3 := cbl hb3 qa2; have Rb_3 := Rb.below hb3; have qb0_3 := cbl hb3 qb0; have qb1_3 := cbl hb3 qb1; have qb2_3 := cbl hb3 qb2; have Rr_3 := Rr.below hb3; have qr0_3 := cbl hb3 qr0; have qr1_3 := cbl hb3 qr1; have qr2_3 := cbl hb3 qr2; have HBT_3 := Below.cons HBT hb3)
      | (go_at_call 63; (with_reducible refine (C2_1.out _ hb_3).mono ?_); rintro e W4 ⟨Xy, cy, rfl, hy, hb4⟩; have ha_4 := ha_3.below hb4; have hb_4 := hb_3.below hb4; have hT_4 := hT_3.below hb4; have Ra_4 := Ra_3.below hb4; have qa0_4 := cbl hb4 qa0_3; have qa1_4 := cbl hb4 qa1_3; have qa2_4 := cbl hb4 qa2_3; have Rb_4 := Rb_3.below hb4; have qb0_4 := cbl hb4 qb0_3; have qb1_4 := cbl hb4 qb1_3; have qb2_4 := cbl hb4 qb2_3; have Rr_4 := Rr_3.below hb4; have qr0_4 := cbl hb4 qr0_3; have qr1_4 := cbl hb4 qr1_3; have qr2_4 := cbl hb4 qr2_3; have hx_4 := hx.below hb4; have HBT_4 := Below.cons HBT_3 hb4)
      | (go_at_call 90; (with_reducible refine (C2_2.out _ _ _ _ _ hx_4 hy hT_4).mono ?_); rintro e W5 ⟨Xq, cq, rfl, hq, hb5⟩; have ha_5 := ha_4.below hb5; have hb_5 := hb_4.below hb5; have hT_5 := hT_4.below hb5; have Ra_5 := Ra_4.below hb5; have qa0_5 := cbl hb5 qa0_4; have qa1_5 := cbl hb5 qa1_4; have qa2_5 := cbl hb5 qa2_4; have Rb_5 := Rb_4.below hb5; have qb0_5 := cbl hb5 qb0_4; have qb1_5 := cbl hb5 qb1_4; have qb2_5 := cbl hb5 qb2_4; have Rr_5 := Rr_4.below hb5; have qr0_5 := cbl hb5 qr0_4; have qr1_5 := cbl hb5 qr1_4; have qr2_5 := cbl hb5 qr2_4; have hx_5 := hx_4.below hb5; have hy_5 := hy.below hb5; have HBT_5 := Below.cons HBT_4 hb5; have fz0 := Rr_5.f (i := 0); have fz1 := Rr_5.f (i := 1); have fz2 := Rr_5.f (i := 2)))
  all_goals (try go_wp2_with (fail))
  have hzq : q = a + b := by rw [Eq.out, dval_add, Ex.out, Ey.out, va.out, vb.out]
  subst hzq
  have RS := Rr_5.store3 (.bool (sg (dmn ((a + b))))) (.slice Xq (nl (mg (dmn ((a + b))))) cq) (.int .i64 (dex ((a + b))))
  have e0 := RS.c (i := 0) rfl
  have e1 := RS.c (i := 1) rfl
  have e2 := RS.c (i := 2) rfl
  refine bodyPost_ret (v := .agg #[.bool (sg (dmn ((a + b)))), .slice Xq (nl (mg (dmn ((a + b))))) cq, .int .i64 (dex ((a + b)))]) (by simp [results, Tryz.results89, go_sem, e0, e1, e2]) rfl ?_
  exact ⟨Xq, cq, rfl, (Rr_5.keep3 (nuB rfl) hq), (Below.store3 HBT_5 (by first | exact Nat.le_refl _ | omega))⟩
theorem dcmp_c (aA : Option Addr) (ac : Nat) (a : Rat) (bA : Option Addr) (bc : Nat) (b : Rat) (w : World) (ha : NatV w aA ac (mg (dmn a))) (hb : NatV w bA bc (mg (dmn b))) (oa : DOk a) (ob : DOk b) :
    Calls Tryz.prog 41 #[.agg #[.bool (sg (dmn a)), .slice aA (nl (mg (dmn a))) ac, .int .i64 (dex a)], .agg #[.bool (sg (dmn b)), .slice bA (nl (mg (dmn b))) bc, .int .i64 (dex b)]] w (fun e w' => e = .returned (.int .i64 (rcmp a b)) ∧ Below w.heap.size w w') := by
  obtain ⟨hb1, Ra, Rb⟩ := bx2 w #[.bool (sg (dmn a)), .slice aA (nl (mg (dmn a))) ac, .int .i64 (dex a)] 28 #[.bool (sg (dmn b)), .slice bA (nl (mg (dmn b))) bc, .int .i64 (dex b)] 28
  replace ha := ha.below hb1
  replace hb := hb.below hb1
  have HBT := hb1
  clear hb1
  have qa0 := Ra.c (i := 0) rfl
  have qa1 := Ra.c (i := 1) rfl
  have qa2 := Ra.c (i := 2) rfl
  have qb0 := Rb.c (i := 0) rfl
  have qb1 := Rb.c (i := 1) rfl
  have qb2 := Rb.c (i := 2) rfl
  replace oa := Lib.hid oa
  replace ob := Lib.hid ob
  go_enter Tryz.func41, Tryz.ntmps41
  go_wp2_with (fail)
  refine (Calls.mono (dlevcmp_c aA ac a bA bc b _ ha hb oa.out ob.out) ?_)
  rintro e W2 ⟨rfl, hb2⟩
  replace ha := ha.below hb2
  replace hb := hb.below hb2
  replace Ra := Ra.below hb2
  replace qa0 := cbl hb2 qa0
  replace qa1 := cbl hb2 qa1
  replace qa2 := cbl hb2 qa2
  replace Rb := Rb.below hb2
  replace qb0 := cbl hb2 qb0
  replace qb1 := cbl hb2 qb1
  replace qb2 := cbl hb2 qb2
  replace HBT := Below.cons HBT hb2
  clear hb2
  go_wp2_with (fail)
  go_ret
  exact ⟨rfl, HBT⟩
theorem dadd_c (aA : Option Addr) (ac : Nat) (a : Rat) (bA : Option Addr) (bc : Nat) (b : Rat) (w : World) (ha : NatV w aA ac (mg (dmn a))) (hb : NatV w bA bc (mg (dmn b))) (oa : DOk a) (ob : DOk b) (hT : Tab w) :
    Calls Tryz.prog 48 #[.agg #[.bool (sg (dmn a)), .slice aA (nl (mg (dmn a))) ac, .int .i64 (dex a)], .agg #[.bool (sg (dmn b)), .slice bA (nl (mg (dmn b))) bc, .int .i64 (dex b)]] w (RetD w (a + b)) := by
  obtain ⟨hb1, Ra, Rb, Rr⟩ := bx3 w #[.bool (sg (dmn a)), .slice aA (nl (mg (dmn a))) ac, .int .i64 (dex a)] 28 #[.bool (sg (dmn b)), .slice bA (nl (mg (dmn b))) bc, .int .i64 (dex b)] 28 #[.bool false, .slice none 0 0, .int .i64 0] 28
  replace ha := ha.below hb1
  replace hb := hb.below hb1
  replace hT := hT.below hb1
  have HBT := hb1
  clear hb1
  have qa0 := Ra.c (i := 0) rfl
  have qa1 := Ra.c (i := 1) rfl
  have qa2 := Ra.c (i := 2) rfl
  have qb0 := Rb.c (i := 0) rfl
  have qb1 := Rb.c (i := 1) rfl
  have qb2 := Rb.c (i := 2) rfl
  have qr0 := Rr.c (i := 0) rfl
  have qr1 := Rr.c (i := 1) rfl
  have qr2 := Rr.c (i := 2) rfl
  replace oa := Lib.hid oa
  replace ob := Lib.hid ob
  go_enter Tryz.func48, Tryz.ntmps48
  go_wp2_with (fail)
  obtain ⟨q, Eq⟩ : ∃ zq : Rat, zq = a + b := ⟨_, rfl⟩
  refine (Calls.mono (R := RetD (((w.alloc (.cells #[.bool (sg (dmn a)), .slice aA (nl (mg (dmn a))) ac, .int .i64 (dex a)] 28)).alloc (.cells #[.bool (sg (dmn b)), .slice bA (nl (mg (dmn b))) bc, .int .i64 (dex b)] 28)).alloc (.cells #[.bool false, .slice none 0 0, .int .i64 0] 28)) q) (by rw [Eq]; with_reducible exact (dlevadd_c aA ac a bA bc b _ ha hb oa.out ob.out hT)) ?_)
  replace Eq := Lib.hid Eq
  rintro e W2 ⟨Xq, cq, rfl, hq, hb2⟩
  replace ha := ha.below hb2
  replace hb := hb.below hb2
  replace hT := hT.below hb2
  replace Ra := Ra.below hb2
  replace qa0 := cbl hb2 qa0
  replace qa1 := cbl hb2 qa1
  replace qa2 := cbl hb2 qa2
  replace Rb := Rb.below hb2
  replace qb0 := cbl hb2 qb0
  replace qb1 := cbl hb2 qb1
  replace qb2 := cbl hb2 qb2
  replace Rr := Rr.below hb2
  replace qr0 := cbl hb2 qr0
  replace qr1 := cbl hb2 qr1
  replace qr2 := cbl hb2 qr2
  replace HBT := Below.cons HBT hb2
  clear hb2
  have fzr0 := Rr.f (i := 0)
  have fzr1 := Rr.f (i := 1)
  have fzr2 := Rr.f (i := 2)
  go_wp2_with (fail)
  have hzq : q = a + b := by exact Eq.out
  subst hzq
  have RS := Rr.store3 (.bool (sg (dmn ((a + b))))) (.slice Xq (nl (mg (dmn ((a + b))))) cq) (.int .i64 (dex ((a + b))))
  have e0 := RS.c (i := 0) rfl
  have e1 := RS.c (i := 1) rfl
  have e2 := RS.c (i := 2) rfl
  refine bodyPost_ret (v := .agg #[.bool (sg (dmn ((a + b)))), .slice Xq (nl (mg (dmn ((a + b))))) cq, .int .i64 (dex ((a + b)))]) (by simp [results, Tryz.results48, go_sem, e0, e1, e2]) rfl ?_
  exact ⟨Xq, cq, rfl, (Rr.keep3 (nuB rfl) hq), (Below.store3 HBT (by first | exact Nat.le_refl _ | omega))⟩
end Go.Proofs.YtacjfpibilolnaaGreatDoor
