/- Dyadic numbers, walked: Sign, Neg, Scaled, Cmp, Add, Sub, Mid. -/
import Derived.Test.YtpaffggdeedopaaGreatDoorD02
import Derived.Test.YtpaffggdeedopaaGreatDoorD01
import Derived.RangeFuncFrom
import Derived.RangeFuncBox
import Derived.RangeFuncLeaves
import Derived.RangeFuncNested
import Derived.OwnWalkIn
import Derived.TacticsInMore
import Derived.LoopNIn
import Derived.LoopIn
import Derived.Stop.RegionWithIn
import Derived.Laws.EntriesVeiled
import Derived.Orders
set_option maxRecDepth 100000
set_option maxHeartbeats 4000000
set_option linter.unusedVariables false
set_option linter.unusedSimpArgs false
namespace Go.Proofs.YtpaffggdeedopaaGreatDoor
open Go.RowKit Go.Shelf
attribute [local go_sem] max2_i min2_i max_two min_two

/-- A dyadic number of no great size. -/
structure DOk (q : Rat) : Prop where
  d : Dyd q
  l : nl (mg (dmn q)) ≤ 100000
  e : -1000000 ≤ dex q ∧ dex q ≤ 1000000
theorem dval_add (x y e : Int) : dval (x + y) e = dval x e + dval y e := by unfold dval; rw [Rat.intCast_add, Rat.add_mul]
theorem dval_lt {x y e : Int} : dval x e < dval y e ↔ x < y := by
  unfold dval
  rw [Rat.mul_lt_mul_right (zp_pos e)]
  exact Rat.intCast_lt_intCast
theorem lev {q : Rat} (h : Dyd q) {E : Int} (hE : E ≤ dex q) : dval (shf (dmn q) (dex q - E)) E = q := by
  unfold shf
  rw [if_pos (by omega), dval_shift]
  have : E + ((dex q - E).toNat : Int) = dex q := by omega
  rw [this, dval_q h]
def rcmp (a b : Rat) : Int := if a < b then -1 else if b < a then 1 else 0
theorem icmp_dval (x y e : Int) : icmp x y = rcmp (dval x e) (dval y e) := by
  unfold icmp rcmp; simp only [dval_lt]
theorem nl_shf {z d : Int} {K : Nat} (h : nl (mg z) ≤ 100000) (h0 : 0 ≤ d) (h1 : d ≤ 2000000) : nl (mg (shf z d)) ≤ 162502 := by
  unfold shf
  rw [if_pos h0, mg_mul]
  have e : mg ((2 : Int) ^ d.toNat) = 2 ^ d.toNat := by unfold mg; rw [Int.natAbs_pow]; rfl
  rw [e]
  have := nl_shl (mg z) d.toNat
  omega
theorem dsign_c (aA : Option Addr) (ac : Nat) (a : Rat) (w : World) (ha : NatV w aA ac (mg (dmn a)))  :
    Calls Tryz.prog 32 #[.agg #[.bool (sg (dmn a)), .slice aA (nl (mg (dmn a))) ac, .int .i64 (dex a)]] w (fun e w' => e = .returned (.int .i64 (dmn a).sign) ∧ Below w.heap.size w w') := by
  obtain ⟨hb1, Ra⟩ := bx1 w #[.bool (sg (dmn a)), .slice aA (nl (mg (dmn a))) ac, .int .i64 (dex a)] 31
  replace ha := ha.below hb1
  have HBT := hb1
  clear hb1
  have qa0 := Ra.c (i := 0) rfl
  have qa1 := Ra.c (i := 1) rfl
  have qa2 := Ra.c (i := 2) rfl
  go_enter Tryz.func32, Tryz.ntmps32
  go_wp2_with (fail)
  refine (Calls.mono (isign_c aA ac (dmn a) _) ?_)
  rintro e W2 ⟨rfl, hb2⟩
  replace ha := ha.below hb2
  replace Ra := Ra.below hb2
  replace qa0 := cbl hb2 qa0
  replace qa1 := cbl hb2 qa1
  replace qa2 := cbl hb2 qa2
  replace HBT := Below.cons HBT hb2
  clear hb2
  go_wp2_with (fail)
  go_ret
  exact ⟨rfl, HBT⟩
theorem dscaled_c (aA : Option Addr) (ac : Nat) (a : Rat) (n : Int) (w : World) (ha : NatV w aA ac (mg (dmn a)))  (ok : DOk a) (hn : -1000000 ≤ n ∧ n ≤ 1000000) :
    Calls Tryz.prog 77 #[.agg #[.bool (sg (dmn a)), .slice aA (nl (mg (dmn a))) ac, .int .i64 (dex a)], .int .i64 n] w (RetI w (shf (dmn a) (dex a + n))) := by
  have hl := ok.l
  have he := ok.e
  obtain ⟨x, Ex⟩ : ∃ x, x = dex a + n := ⟨_, rfl⟩
  have Ix : dex a + n = x := Ex.symm
  rw [Ix]
  have hx : -16777216 ≤ x ∧ x ≤ 16777216 := by omega
  replace Ex := Lib.hid Ex
  replace ok := Lib.hid ok
  replace he := Lib.hid he
  obtain ⟨hb1, Ra, Rr⟩ := bx2 w #[.bool (sg (dmn a)), .slice aA (nl (mg (dmn a))) ac, .int .i64 (dex a)] 31 #[.bool false, .slice none 0 0] 24
  replace ha := ha.below hb1
  have HBT := hb1
  clear hb1
  have qa0 := Ra.c (i := 0) rfl
  have qa1 := Ra.c (i := 1) rfl
  have qa2 := Ra.c (i := 2) rfl
  have qr0 := Rr.c (i := 0) rfl
  have qr1 := Rr.c (i := 1) rfl
  go_enter Tryz.func77, Tryz.ntmps77
  go_wp2_with (fail)
  obtain ⟨z, Ez⟩ : ∃ zq : Int, zq = shf (dmn a) x := ⟨_, rfl⟩
  refine (Calls.mono (R := RetI ((w.alloc (.cells #[.bool (sg (dmn a)), .slice aA (nl (mg (dmn a))) ac, .int .i64 (dex a)] 31)).alloc (.cells #[.bool false, .slice none 0 0] 24)) z) (by rw [Ez]; with_reducible exact (ishift_c aA ac (dmn a) x _ ha (by omega) hx)) ?_)
  replace Ez := Lib.hid Ez
  rintro e W2 ⟨Xz, cz, rfl, hz, hb2⟩
  replace ha := ha.below hb2
  replace Ra := Ra.below hb2
  replace qa0 := cbl hb2 qa0
  replace qa1 := cbl hb2 qa1
  replace qa2 := cbl hb2 qa2
  replace Rr := Rr.below hb2
  replace qr0 := cbl hb2 qr0
  replace qr1 := cbl hb2 qr1
  replace HBT := Below.cons HBT hb2
  clear hb2
  have fzr0 := Rr.f (i := 0)
  have fzr1 := Rr.f (i := 1)
  go_wp2_with (fail)
  have hzz : z = shf (dmn a) x := by exact Ez.out
  subst hzz
  have RS := Rr.store2 (.bool (sg ((shf (dmn a) x)))) (.slice Xz (nl (mg ((shf (dmn a) x)))) cz)
  have e0 := RS.c (i := 0) rfl
  have e1 := RS.c (i := 1) rfl
  refine bodyPost_ret (v := .agg #[.bool (sg ((shf (dmn a) x))), .slice Xz (nl (mg ((shf (dmn a) x)))) cz]) (by simp [results, Tryz.results77, go_sem, e0, e1]) rfl ?_
  exact ⟨Xz, cz, rfl, (Rr.keep2 (nuB rfl) hz), (Below.store2 HBT (by first | exact Nat.le_refl _ | omega))⟩
theorem dcmp1_c (aA : Option Addr) (ac : Nat) (a : Int) (bA : Option Addr) (bc : Nat) (b : Int) (n : Int) (w : World) (ha : NatV w aA ac (mg a)) (hb : NatV w bA bc (mg b))  (la : nl (mg a) ≤ 262144) (lb : nl (mg b) ≤ 262144) :
    Calls Tryz.prog 97 #[.agg #[.bool (sg a), .slice aA (nl (mg a)) ac], .agg #[.bool (sg b), .slice bA (nl (mg b)) bc], .int .i64 n] w (fun e w' => e = .returned (.int .i64 (icmp a b)) ∧ Below w.heap.size w w') := by
  obtain ⟨hb1, Ra, Rb⟩ := bx2 w #[.bool (sg a), .slice aA (nl (mg a)) ac] 24 #[.bool (sg b), .slice bA (nl (mg b)) bc] 24
  replace ha := ha.below hb1
  replace hb := hb.below hb1
  have HBT := hb1
  clear hb1
  have qa0 := Ra.c (i := 0) rfl
  have qa1 := Ra.c (i := 1) rfl
  have qb0 := Rb.c (i := 0) rfl
  have qb1 := Rb.c (i := 1) rfl
  go_enter Tryz.func97, Tryz.ntmps97
  go_wp2_with (fail)
  refine (Calls.mono (icmp_c aA ac a bA bc b _ ha hb (by omega) (by omega)) ?_)
  rintro e W2 ⟨rfl, hb2⟩
  replace ha := ha.below hb2
  replace hb := hb.below hb2
  replace Ra := Ra.below hb2
  replace qa0 := cbl hb2 qa0
  replace qa1 := cbl hb2 qa1
  replace Rb := Rb.below hb2
  replace qb0 := cbl hb2 qb0
  replace qb1 := cbl hb2 qb1
  replace HBT := Below.cons HBT hb2
  clear hb2
  go_wp2_with (fail)
  go_ret
  exact ⟨rfl, HBT⟩
theorem dadd1_c (aA : Option Addr) (ac : Nat) (a : Int) (bA : Option Addr) (bc : Nat) (b : Int) (n : Int) (w : World) (ha : NatV w aA ac (mg a)) (hb : NatV w bA bc (mg b))  (la : nl (mg a) ≤ 200000) (lb : nl (mg b) ≤ 200000) (hn : -1000000 ≤ n ∧ n ≤ 1000000) (hT : Tab w) :
    Calls Tryz.prog 102 #[.agg #[.bool (sg a), .slice aA (nl (mg a)) ac], .agg #[.bool (sg b), .slice bA (nl (mg b)) bc], .int .i64 n] w (RetD w (dval (a + b) n)) := by
  obtain ⟨hb1, Ra, Rb, Rr⟩ := bx3 w #[.bool (sg a), .slice aA (nl (mg a)) ac] 24 #[.bool (sg b), .slice bA (nl (mg b)) bc] 24 #[.bool false, .slice none 0 0, .int .i64 0] 31
  replace ha := ha.below hb1
  replace hb := hb.below hb1
  replace hT := hT.below hb1
  have HBT := hb1
  clear hb1
  have qa0 := Ra.c (i := 0) rfl
  have qa1 := Ra.c (i := 1) rfl
  have qb0 := Rb.c (i := 0) rfl
  have qb1 := Rb.c (i := 1) rfl
  have qr0 := Rr.c (i := 0) rfl
  have qr1 := Rr.c (i := 1) rfl
  have qr2 := Rr.c (i := 2) rfl
  go_enter Tryz.func102, Tryz.ntmps102
  go_wp2_with (fail)
  obtain ⟨u, Eu⟩ : ∃ zq : Int, zq = a + b := ⟨_, rfl⟩
  have Nu : nl (mg u) ≤ 200001 := by rw [Eu]; have h1 := nl_add (mg a) (mg b); have h2 : nl (mg (a + b)) ≤ nl (mg a + mg b) := nl_mono (Int.natAbs_add_le a b); omega
  refine (Calls.mono (R := RetI (((w.alloc (.cells #[.bool (sg a), .slice aA (nl (mg a)) ac] 24)).alloc (.cells #[.bool (sg b), .slice bA (nl (mg b)) bc] 24)).alloc (.cells #[.bool false, .slice none 0 0, .int .i64 0] 31)) u) (by rw [Eu]; with_reducible exact (iadd_c aA ac a bA bc b _ ha hb (by omega) (by omega))) ?_)
  replace Eu := Lib.hid Eu
  rintro e W2 ⟨Xu, cu, rfl, hu, hb2⟩
  replace ha := ha.below hb2
  replace hb := hb.below hb2
  replace hT := hT.below hb2
  replace Ra := Ra.below hb2
  replace qa0 := cbl hb2 qa0
  replace qa1 := cbl hb2 qa1
  replace Rb := Rb.below hb2
  replace qb0 := cbl hb2 qb0
  replace qb1 := cbl hb2 qb1
  replace Rr := Rr.below hb2
  replace qr0 := cbl hb2 qr0
  replace qr1 := cbl hb2 qr1
  replace qr2 := cbl hb2 qr2
  replace HBT := Below.cons HBT hb2
  clear hb2
  go_wp2_with (fail)
  obtain ⟨q, Eq⟩ : ∃ zq : Rat, zq = dval u n := ⟨_, rfl⟩
  refine (Calls.mono (R := RetD W2 q) (by rw [Eq]; with_reducible exact (dmake_c Xu cu u n _ hu hT (by omega) (by omega))) ?_)
  replace Eq := Lib.hid Eq
  rintro e W3 ⟨Xq, cq, rfl, hq, hb3⟩
  replace ha := ha.below hb3
  replace hb := hb.below hb3
  replace hT := hT.below hb3
  replace Ra := Ra.below hb3
  replace qa0 := cbl hb3 qa0
  replace qa1 := cbl hb3 qa1
  replace Rb := Rb.below hb3
  replace qb0 := cbl hb3 qb0
  replace qb1 := cbl hb3 qb1
  replace Rr := Rr.below hb3
  replace qr0 := cbl hb3 qr0
  replace qr1 := cbl hb3 qr1
  replace qr2 := cbl hb3 qr2
  replace hu := hu.below hb3
  replace HBT := Below.cons HBT hb3
  clear hb3
  have fzr0 := Rr.f (i := 0)
  have fzr1 := Rr.f (i := 1)
  have fzr2 := Rr.f (i := 2)
  go_wp2_with (fail)
  have hzq : q = dval (a + b) n := by rw [Eq.out, Eu.out]
  subst hzq
  have RS := Rr.store3 (.bool (sg (dmn ((dval (a + b) n))))) (.slice Xq (nl (mg (dmn ((dval (a + b) n))))) cq) (.int .i64 (dex ((dval (a + b) n))))
  have e0 := RS.c (i := 0) rfl
  have e1 := RS.c (i := 1) rfl
  have e2 := RS.c (i := 2) rfl
  refine bodyPost_ret (v := .agg #[.bool (sg (dmn ((dval (a + b) n)))), .slice Xq (nl (mg (dmn ((dval (a + b) n))))) cq, .int .i64 (dex ((dval (a + b) n)))]) (by simp [results, Tryz.results102, go_sem, e0, e1, e2]) rfl ?_
  exact ⟨Xq, cq, rfl, (Rr.keep3 (nuB rfl) hq), (Below.store3 HBT (by first | exact Nat.le_refl _ | omega))⟩
theorem dlevcmp_c (aA : Option Addr) (ac : Nat) (a : Rat) (bA : Option Addr) (bc : Nat) (b : Rat) (w : World) (ha : NatV w aA ac (mg (dmn a))) (hb : NatV w bA bc (mg (dmn b))) (oa : DOk a) (ob : DOk b) :
    Calls Tryz.prog 96 #[.agg #[.bool (sg (dmn a)), .slice aA (nl (mg (dmn a))) ac, .int .i64 (dex a)], .agg #[.bool (sg (dmn b)), .slice bA (nl (mg (dmn b))) bc, .int .i64 (dex b)], .func (.func 97) #[] #[]] w (fun e w' => e = .returned (.int .i64 (rcmp a b)) ∧ Below w.heap.size w w') := by
  have ha1 := oa.l
  have hb1 := ob.l
  have ha2 := oa.e
  have hb2 := ob.e
  obtain ⟨E, EE⟩ : ∃ E, E = min (dex a) (dex b) := ⟨_, rfl⟩
  have IE : min (dex a) (dex b) = E := EE.symm
  have hEa : E ≤ dex a := by omega
  have hEb : E ≤ dex b := by omega
  have hE : -1000000 ≤ E ∧ E ≤ 1000000 := by omega
  have va := lev oa.d hEa
  have vb := lev ob.d hEb
  obtain ⟨da, Eda⟩ : ∃ d, d = dex a - E := ⟨_, rfl⟩
  have Ida : dex a - E = da := Eda.symm
  have Rda : 0 ≤ da ∧ da ≤ 2000000 := by omega
  have Wda : IntKind.i64.wrap da = da := IntWalk.i64_in _ (by omega)
  rw [Ida] at va
  obtain ⟨db, Edb⟩ : ∃ d, d = dex b - E := ⟨_, rfl⟩
  have Idb : dex b - E = db := Edb.symm
  have Rdb : 0 ≤ db ∧ db ≤ 2000000 := by omega
  have Wdb : IntKind.i64.wrap db = db := IntWalk.i64_in _ (by omega)
  rw [Idb] at vb
  replace EE := Lib.hid EE
  replace Eda := Lib.hid Eda
  replace Edb := Lib.hid Edb
  replace va := Lib.hid va
  replace vb := Lib.hid vb
  replace hEa := Lib.hid hEa
  replace hEb := Lib.hid hEb
  replace oa := Lib.hid oa
  replace ob := Lib.hid ob
  replace ha2 := Lib.hid ha2
  replace hb2 := Lib.hid hb2
  obtain ⟨hb1, Ra, Rb⟩ := bx2 w #[.bool (sg (dmn a)), .slice aA (nl (mg (dmn a))) ac, .int .i64 (dex a)] 31 #[.bool (sg (dmn b)), .slice bA (nl (mg (dmn b))) bc, .int .i64 (dex b)] 31
  replace ha := ha.below hb1
  replace hb := hb.below hb1
  have HBT := hb1
  clear hb1
  have qa0 := Ra.c (i := 0) rfl
  have qa1 := Ra.c (i := 1) rfl
  have qa2 := Ra.c (i := 2) rfl
  have qb0 := Rb.c (i := 0) rfl
  have qb1 := Rb.c (i := 1) rfl
  have qb2 := Rb.c (i := 2) rfl
  go_enter Tryz.func96, Tryz.ntmps96
  go_wp2_with (fail)
  have hd2 := drb (((w.alloc (.cells #[.bool (sg (dmn a)), .slice aA (nl (mg (dmn a))) ac, .int .i64 (dex a)] 31)).alloc (.cells #[.bool (sg (dmn b)), .slice bA (nl (mg (dmn b))) bc, .int .i64 (dex b)] 31)))
  replace ha := ha.below hd2
  replace hb := hb.below hd2
  replace Ra := Ra.below hd2
  replace qa0 := cbl hd2 qa0
  replace qa1 := cbl hd2 qa1
  replace qa2 := cbl hd2 qa2
  replace Rb := Rb.below hd2
  replace qb0 := cbl hd2 qb0
  replace qb1 := cbl hd2 qb1
  replace qb2 := cbl hd2 qb2
  replace HBT := Below.cons HBT hd2
  clear hd2
  obtain ⟨x, Ex⟩ : ∃ zq : Int, zq = shf (dmn a) da := ⟨_, rfl⟩
  have Nx : nl (mg x) ≤ 162502 := by rw [Ex]; exact nl_shf (K := 0) (by omega) (by omega) (by omega)
  have C2_0 := fun (W : World) (h1 : NatV W aA ac (mg (dmn a))) => ishift_c aA ac (dmn a) da W h1 (by omega) (by omega)
  simp only [← Ex] at C2_0
  replace Ex := Lib.hid Ex
  replace C2_0 := Lib.hid C2_0
  obtain ⟨y, Ey⟩ : ∃ zq : Int, zq = shf (dmn b) db := ⟨_, rfl⟩
  have Ny : nl (mg y) ≤ 162502 := by rw [Ey]; exact nl_shf (K := 0) (by omega) (by omega) (by omega)
  have C2_1 := fun (W : World) (h1 : NatV W bA bc (mg (dmn b))) => ishift_c bA bc (dmn b) db W h1 (by omega) (by omega)
  simp only [← Ey] at C2_1
  replace Ey := Lib.hid Ey
  replace C2_1 := Lib.hid C2_1
  have C2_2 := fun (W : World) (A : Option Addr) (c : Nat) (B : Option Addr) (d : Nat) (h1 : NatV W A c (mg x)) (h2 : NatV W B d (mg y)) => dcmp1_c A c x B d y E W h1 h2 (by omega) (by omega)
  replace C2_2 := Lib.hid C2_2
  go_region_held3 (fun W => W.cell? ⟨w.heap.size, 0, none⟩ = some (.bool (sg (dmn a))) ∧ W.cell? ⟨w.heap.size, 1, none⟩ = some (.slice aA (nl (mg (dmn a))) ac) ∧ W.cell? ⟨w.heap.size, 2, none⟩ = some (.int .i64 (dex a)) ∧ W.cell? ⟨(w.heap.size + 1), 0, none⟩ = some (.bool (sg (dmn b))) ∧ W.cell? ⟨(w.heap.size + 1), 1, none⟩ = some (.slice bA (nl (mg (dmn b))) bc) ∧ W.cell? ⟨(w.heap.size + 1), 2, none⟩ = some (.int .i64 (dex b)))
    (first
      | exact ⟨qa0, qa1, qa2, qb0, qb1, qb2⟩
      | exact ⟨qa0_3, qa1_3, qa2_3, qb0_3, qb1_3, qb2_3⟩
      | exact ⟨qa0_4, qa1_4, qa2_4, qb0_4, qb1_4, qb2_4⟩
      | exact ⟨qa0_5, qa1_5, qa2_5, qb0_5, qb1_5, qb2_5⟩
      | go_keep)
    (first
      | (go_at_call 81; (with_reducible refine (C2_0.out _ ha).mono ?_); rintro e W3 ⟨Xx, cx, rfl, hx, hb3⟩; have ha_3 := ha.below hb3; have hb_3 := hb.below hb3; have Ra_3 := Ra.below hb3; have qa0_3 := cbl hb3 qa0; have qa1_3 := cbl hb3 qa1; have qa2_3 := cbl hb3 qa2; have Rb_3 := Rb.below hb3; have qb0_3 := cbl hb3 qb0; have qb1_3 := cbl hb3 qb1; have qb2_3 := cbl hb3 qb2; have HBT_3 := Below.cons HBT hb3)
      | (go_at_call 81; (with_reducible refine (C2_1.out _ hb_3).mono ?_); rintro e W4 ⟨Xy, cy, rfl, hy, hb4⟩; have ha_4 := ha_3.below hb4; have hb_4 := hb_3.below hb4; have Ra_4 := Ra_3.below hb4; have qa0_4 := cbl hb4 qa0_3; have qa1_4 := cbl hb4 qa1_3; have qa2_4 := cbl hb4 qa2_3; have Rb_4 := Rb_3.below hb4; have qb0_4 := cbl hb4 qb0_3; have qb1_4 := cbl hb4 qb1_3; have qb2_4 := cbl hb4 qb2_3; have hx_4 := hx.below hb4; have HBT_4 := Below.cons HBT_3 hb4)
      | (go_at_call 97; (with_reducible refine (C2_2.out _ _ _ _ _ hx_4 hy).mono ?_); rintro e W5 ⟨rfl, hb5⟩; have ha_5 := ha_4.below hb5; have hb_5 := hb_4.below hb5; have Ra_5 := Ra_4.below hb5; have qa0_5 := cbl hb5 qa0_4; have qa1_5 := cbl hb5 qa1_4; have qa2_5 := cbl hb5 qa2_4; have Rb_5 := Rb_4.below hb5; have qb0_5 := cbl hb5 qb0_4; have qb1_5 := cbl hb5 qb1_4; have qb2_5 := cbl hb5 qb2_4; have hx_5 := hx_4.below hb5; have hy_5 := hy.below hb5; have HBT_5 := Below.cons HBT_4 hb5))
  all_goals (try go_wp2_with (fail))
  go_ret
  exact ⟨ret_int (by rw [icmp_dval x y E, Ex.out, Ey.out, va.out, vb.out]), HBT_5⟩
theorem dlevadd_c (aA : Option Addr) (ac : Nat) (a : Rat) (bA : Option Addr) (bc : Nat) (b : Rat) (w : World) (ha : NatV w aA ac (mg (dmn a))) (hb : NatV w bA bc (mg (dmn b))) (oa : DOk a) (ob : DOk b) (hT : Tab w) :
    Calls Tryz.prog 101 #[.agg #[.bool (sg (dmn a)), .slice aA (nl (mg (dmn a))) ac, .int .i64 (dex a)], .agg #[.bool (sg (dmn b)), .slice bA (nl (mg (dmn b))) bc, .int .i64 (dex b)], .func (.func 102) #[] #[]] w (RetD w (a + b)) := by
  have ha1 := oa.l
  have hb1 := ob.l
  have ha2 := oa.e
  have hb2 := ob.e
  obtain ⟨E, EE⟩ : ∃ E, E = min (dex a) (dex b) := ⟨_, rfl⟩
  have IE : min (dex a) (dex b) = E := EE.symm
  have hEa : E ≤ dex a := by omega
  have hEb : E ≤ dex b := by omega
  have hE : -1000000 ≤ E ∧ E ≤ 1000000 := by omega
  have va := lev oa.d hEa
  have vb := lev ob.d hEb
  obtain ⟨da, Eda⟩ : ∃ d, d = dex a - E := ⟨_, rfl⟩
  have Ida : dex a - E = da := Eda.symm
  have Rda : 0 ≤ da ∧ da ≤ 2000000 := by omega
  have Wda : IntKind.i64.wrap da = da := IntWalk.i64_in _ (by omega)
  rw [Ida] at va
  obtain ⟨db, Edb⟩ : ∃ d, d = dex b - E := ⟨_, rfl⟩
  have Idb : dex b - E = db := Edb.symm
  have Rdb : 0 ≤ db ∧ db ≤ 2000000 := by omega
  have Wdb : IntKind.i64.wrap db = db := IntWalk.i64_in _ (by omega)
  rw [Idb] at vb
  replace EE := Lib.hid EE
  replace Eda := Lib.hid Eda
  replace Edb := Lib.hid Edb
  replace va := Lib.hid va
  replace vb := Lib.hid vb
  replace hEa := Lib.hid hEa
  replace hEb := Lib.hid hEb
  replace oa := Lib.hid oa
  replace ob := Lib.hid ob
  replace ha2 := Lib.hid ha2
  replace hb2 := Lib.hid hb2
  obtain ⟨hb1, Ra, Rb, Rr⟩ := bx3 w #[.bool (sg (dmn a)), .slice aA (nl (mg (dmn a))) ac, .int .i64 (dex a)] 31 #[.bool (sg (dmn b)), .slice bA (nl (mg (dmn b))) bc, .int .i64 (dex b)] 31 #[.bool false, .slice none 0 0, .int .i64 0] 31
  replace ha := ha.below hb1
  replace hb := hb.below hb1
  replace hT := hT.below hb1
  have HBT := hb1
  clear hb1
  have qa0 := Ra.c (i := 0) rfl
  have qa1 := Ra.c (i := 1) rfl
  have qa2 := Ra.c (i := 2) rfl
  have qb0 := Rb.c (i := 0) rfl
  have qb1 := Rb.c (i := 1) rfl
  have qb2 := Rb.c (i := 2) rfl
  have qr0 := Rr.c (i := 0) rfl
  have qr1 := Rr.c (i := 1) rfl
  have qr2 := Rr.c (i := 2) rfl
  go_enter Tryz.func101, Tryz.ntmps101
  go_wp2_with (fail)
  have hd2 := drb ((((w.alloc (.cells #[.bool (sg (dmn a)), .slice aA (nl (mg (dmn a))) ac, .int .i64 (dex a)] 31)).alloc (.cells #[.bool (sg (dmn b)), .slice bA (nl (mg (dmn b))) bc, .int .i64 (dex b)] 31)).alloc (.cells #[.bool false, .slice none 0 0, .int .i64 0] 31)))
  replace ha := ha.below hd2
  replace hb := hb.below hd2
  replace hT := hT.below hd2
  replace Ra := Ra.below hd2
  replace qa0 := cbl hd2 qa0
  replace qa1 := cbl hd2 qa1
  replace qa2 := cbl hd2 qa2
  replace Rb := Rb.below hd2
  replace qb0 := cbl hd2 qb0
  replace qb1 := cbl hd2 qb1
  replace qb2 := cbl hd2 qb2
  replace Rr := Rr.below hd2
  replace qr0 := cbl hd2 qr0
  replace qr1 := cbl hd2 qr1
  replace qr2 := cbl hd2 qr2
  replace HBT := Below.cons HBT hd2
  clear hd2
  obtain ⟨x, Ex⟩ : ∃ zq : Int, zq = shf (dmn a) da := ⟨_, rfl⟩
  have Nx : nl (mg x) ≤ 162502 := by rw [Ex]; exact nl_shf (K := 0) (by omega) (by omega) (by omega)
  have C2_0 := fun (W : World) (h1 : NatV W aA ac (mg (dmn a))) => ishift_c aA ac (dmn a) da W h1 (by omega) (by omega)
  simp only [← Ex] at C2_0
  replace Ex := Lib.hid Ex
  replace C2_0 := Lib.hid C2_0
  obtain ⟨y, Ey⟩ : ∃ zq : Int, zq = shf (dmn b) db := ⟨_, rfl⟩
  have Ny : nl (mg y) ≤ 162502 := by rw [Ey]; exact nl_shf (K := 0) (by omega) (by omega) (by omega)
  have C2_1 := fun (W : World) (h1 : NatV W bA bc (mg (dmn b))) => ishift_c bA bc (dmn b) db W h1 (by omega) (by omega)
  simp only [← Ey] at C2_1
  replace Ey := Lib.hid Ey
  replace C2_1 := Lib.hid C2_1
  obtain ⟨q, Eq⟩ : ∃ zq : Rat, zq = dval (x + y) E := ⟨_, rfl⟩
  have C2_2 := fun (W : World) (A : Option Addr) (c : Nat) (B : Option Addr) (d : Nat) (h1 : NatV W A c (mg x)) (h2 : NatV W B d (mg y)) (h3 : Tab W) => dadd1_c A c x B d y E W h1 h2 (by omega) (by omega) hE h3
  simp only [← Eq] at C2_2
  replace Eq := Lib.hid Eq
  replace C2_2 := Lib.hid C2_2
  go_region_held3 (fun W => W.cell? ⟨w.heap.size, 0, none⟩ = some (.bool (sg (dmn a))) ∧ W.cell? ⟨w.heap.size, 1, none⟩ = some (.slice aA (nl (mg (dmn a))) ac) ∧ W.cell? ⟨w.heap.size, 2, none⟩ = some (.int .i64 (dex a)) ∧ W.cell? ⟨(w.heap.size + 1), 0, none⟩ = some (.bool (sg (dmn b))) ∧ W.cell? ⟨(w.heap.size + 1), 1, none⟩ = some (.slice bA (nl (mg (dmn b))) bc) ∧ W.cell? ⟨(w.heap.size + 1), 2, none⟩ = some (.int .i64 (dex b)))
    (first
      | exact ⟨qa0, qa1, qa2, qb0, qb1, qb2⟩
      | exact ⟨qa0_3, qa1_3, qa2_3, qb0_3, qb1_3, qb2_3⟩
      | exact ⟨qa0_4, qa1_4, qa2_4, qb0_4, qb1_4, qb2_4⟩
      | exact ⟨qa0_5, qa1_5, qa2_5, qb0_5, qb1_5, qb2_5⟩
      | exact ⟨((Ra_5.other3 (by simp <;> omega)).c (i := 0) rfl), ((Ra_5.other3 (by simp <;> omega)).c (i := 1) rfl), ((Ra_5.other3 (by simp <;> omega)).c (i := 2) rfl), ((Rb_5.other3 (by simp <;> omega)).c (i := 0) rfl), ((Rb_5.other3 (by simp <;> omega)).c (i := 1) rfl), ((Rb_5.other3 (by simp <;> omega)).c (i := 2) rfl)⟩
      | go_keep)
    (first
      | (go_at_call 81; (with_reducible refine (C2_0.out _ ha).mono ?_); rintro e W3 ⟨Xx, cx, rfl, hx, hb3⟩; have ha_3 := ha.below hb3; have hb_3 := hb.below hb3; have hT_3 := hT.below hb3; have Ra_3 := Ra.below hb3; have qa0_3 := cbl hb3 qa0; have qa1_3 := cbl hb3 qa1; have qa2_3 := cbl hb3 qa2; have Rb_3 := Rb.below hb3; have qb0_3 := cbl hb3 qb0; have qb1_3 := cbl hb3 qb1; have qb2_3 := cbl hb3 qb2; have Rr_3 := Rr.below hb3; have qr0_3 := cbl hb3 qr0; have qr1_3 := cbl hb3 qr1; have qr2_3 := cbl hb3 qr2; have HBT_3 := Below.cons HBT hb3)
      | (go_at_call 81; (with_reducible refine (C2_1.out _ hb_3).mono ?_); rintro e W4 ⟨Xy, cy, rfl, hy, hb4⟩; have ha_4 := ha_3.below hb4; have hb_4 := hb_3.below hb4; have hT_4 := hT_3.below hb4; have Ra_4 := Ra_3.below hb4; have qa0_4 := cbl hb4 qa0_3; have qa1_4 := cbl hb4 qa1_3; have qa2_4 := cbl hb4 qa2_3; have Rb_4 := Rb_3.below hb4; have qb0_4 := cbl hb4 qb0_3; have qb1_4 := cbl hb4 qb1_3; have qb2_4 := cbl hb4 qb2_3; have Rr_4 := Rr_3.below hb4; have qr0_4 := cbl hb4 qr0_3; have qr1_4 := cbl hb4 qr1_3; have qr2_4 := cbl hb4 qr2_3; have hx_4 := hx.below hb4; have HBT_4 := Below.cons HBT_3 hb4)
      | (go_at_call 102; (with_reducible refine (C2_2.out _ _ _ _ _ hx_4 hy hT_4).mono ?_); rintro e W5 ⟨Xq, cq, rfl, hq, hb5⟩; have ha_5 := ha_4.below hb5; have hb_5 := hb_4.below hb5; have hT_5 := hT_4.below hb5; have Ra_5 := Ra_4.below hb5; have qa0_5 := cbl hb5 qa0_4; have qa1_5 := cbl hb5 qa1_4; have qa2_5 := cbl hb5 qa2_4; have Rb_5 := Rb_4.below hb5; have qb0_5 := cbl hb5 qb0_4; have qb1_5 := cbl hb5 qb1_4; have qb2_5 := cbl hb5 qb2_4; have Rr_5 := Rr_4.below hb5; have qr0_5 := cbl hb5 qr0_4; have qr1_5 := cbl hb5 qr1_4; have qr2_5 := cbl hb5 qr2_4; have hx_5 := hx_4.below hb5; have hy_5 := hy.below hb5; have HBT_5 := Below.cons HBT_4 hb5; have fz0 := Rr_5.f (i := 0); have fz1 := Rr_5.f (i := 1); have fz2 := Rr_5.f (i := 2)))
  all_goals (try go_wp2_with (fail))
  have hzq : q = a + b := by rw [Eq.out, dval_add, Ex.out, Ey.out, va.out, vb.out]
  subst hzq
  have RS := Rr_5.store3 (.bool (sg (dmn ((a + b))))) (.slice Xq (nl (mg (dmn ((a + b))))) cq) (.int .i64 (dex ((a + b))))
  have e0 := RS.c (i := 0) rfl
  have e1 := RS.c (i := 1) rfl
  have e2 := RS.c (i := 2) rfl
  refine bodyPost_ret (v := .agg #[.bool (sg (dmn ((a + b)))), .slice Xq (nl (mg (dmn ((a + b))))) cq, .int .i64 (dex ((a + b)))]) (by simp [results, Tryz.results101, go_sem, e0, e1, e2]) rfl ?_
  exact ⟨Xq, cq, rfl, (Rr_5.keep3 (nuB rfl) hq), (Below.store3 HBT_5 (by first | exact Nat.le_refl _ | omega))⟩
theorem dcmp_c (aA : Option Addr) (ac : Nat) (a : Rat) (bA : Option Addr) (bc : Nat) (b : Rat) (w : World) (ha : NatV w aA ac (mg (dmn a))) (hb : NatV w bA bc (mg (dmn b))) (oa : DOk a) (ob : DOk b) :
    Calls Tryz.prog 30 #[.agg #[.bool (sg (dmn a)), .slice aA (nl (mg (dmn a))) ac, .int .i64 (dex a)], .agg #[.bool (sg (dmn b)), .slice bA (nl (mg (dmn b))) bc, .int .i64 (dex b)]] w (fun e w' => e = .returned (.int .i64 (rcmp a b)) ∧ Below w.heap.size w w') := by
  obtain ⟨hb1, Ra, Rb⟩ := bx2 w #[.bool (sg (dmn a)), .slice aA (nl (mg (dmn a))) ac, .int .i64 (dex a)] 31 #[.bool (sg (dmn b)), .slice bA (nl (mg (dmn b))) bc, .int .i64 (dex b)] 31
  replace ha := ha.below hb1
  replace hb := hb.below hb1
  have HBT := hb1
  clear hb1
  have qa0 := Ra.c (i := 0) rfl
  have qa1 := Ra.c (i := 1) rfl
  have qa2 := Ra.c (i := 2) rfl
  have qb0 := Rb.c (i := 0) rfl
  have qb1 := Rb.c (i := 1) rfl
  have qb2 := Rb.c (i := 2) rfl
  replace oa := Lib.hid oa
  replace ob := Lib.hid ob
  go_enter Tryz.func30, Tryz.ntmps30
  go_wp2_with (fail)
  refine (Calls.mono (dlevcmp_c aA ac a bA bc b _ ha hb oa.out ob.out) ?_)
  rintro e W2 ⟨rfl, hb2⟩
  replace ha := ha.below hb2
  replace hb := hb.below hb2
  replace Ra := Ra.below hb2
  replace qa0 := cbl hb2 qa0
  replace qa1 := cbl hb2 qa1
  replace qa2 := cbl hb2 qa2
  replace Rb := Rb.below hb2
  replace qb0 := cbl hb2 qb0
  replace qb1 := cbl hb2 qb1
  replace qb2 := cbl hb2 qb2
  replace HBT := Below.cons HBT hb2
  clear hb2
  go_wp2_with (fail)
  go_ret
  exact ⟨rfl, HBT⟩
theorem dadd_c (aA : Option Addr) (ac : Nat) (a : Rat) (bA : Option Addr) (bc : Nat) (b : Rat) (w : World) (ha : NatV w aA ac (mg (dmn a))) (hb : NatV w bA bc (mg (dmn b))) (oa : DOk a) (ob : DOk b) (hT : Tab w) :
    Calls Tryz.prog 36 #[.agg #[.bool (sg (dmn a)), .slice aA (nl (mg (dmn a))) ac, .int .i64 (dex a)], .agg #[.bool (sg (dmn b)), .slice bA (nl (mg (dmn b))) bc, .int .i64 (dex b)]] w (RetD w (a + b)) := by
  obtain ⟨hb1, Ra, Rb, Rr⟩ := bx3 w #[.bool (sg (dmn a)), .slice aA (nl (mg (dmn a))) ac, .int .i64 (dex a)] 31 #[.bool (sg (dmn b)), .slice bA (nl (mg (dmn b))) bc, .int .i64 (dex b)] 31 #[.bool false, .slice none 0 0, .int .i64 0] 31
  replace ha := ha.below hb1
  replace hb := hb.below hb1
  replace hT := hT.below hb1
  have HBT := hb1
  clear hb1
  have qa0 := Ra.c (i := 0) rfl
  have qa1 := Ra.c (i := 1) rfl
  have qa2 := Ra.c (i := 2) rfl
  have qb0 := Rb.c (i := 0) rfl
  have qb1 := Rb.c (i := 1) rfl
  have qb2 := Rb.c (i := 2) rfl
  have qr0 := Rr.c (i := 0) rfl
  have qr1 := Rr.c (i := 1) rfl
  have qr2 := Rr.c (i := 2) rfl
  replace oa := Lib.hid oa
  replace ob := Lib.hid ob
  go_enter Tryz.func36, Tryz.ntmps36
  go_wp2_with (fail)
  obtain ⟨q, Eq⟩ : ∃ zq : Rat, zq = a + b := ⟨_, rfl⟩
  refine (Calls.mono (R := RetD (((w.alloc (.cells #[.bool (sg (dmn a)), .slice aA (nl (mg (dmn a))) ac, .int .i64 (dex a)] 31)).alloc (.cells #[.bool (sg (dmn b)), .slice bA (nl (mg (dmn b))) bc, .int .i64 (dex b)] 31)).alloc (.cells #[.bool false, .slice none 0 0, .int .i64 0] 31)) q) (by rw [Eq]; with_reducible exact (dlevadd_c aA ac a bA bc b _ ha hb oa.out ob.out hT)) ?_)
  replace Eq := Lib.hid Eq
  rintro e W2 ⟨Xq, cq, rfl, hq, hb2⟩
  replace ha := ha.below hb2
  replace hb := hb.below hb2
  replace hT := hT.below hb2
  replace Ra := Ra.below hb2
  replace qa0 := cbl hb2 qa0
  replace qa1 := cbl hb2 qa1
  replace qa2 := cbl hb2 qa2
  replace Rb := Rb.below hb2
  replace qb0 := cbl hb2 qb0
  replace qb1 := cbl hb2 qb1
  replace qb2 := cbl hb2 qb2
  replace Rr := Rr.below hb2
  replace qr0 := cbl hb2 qr0
  replace qr1 := cbl hb2 qr1
  replace qr2 := cbl hb2 qr2
  replace HBT := Below.cons HBT hb2
  clear hb2
  have fzr0 := Rr.f (i := 0)
  have fzr1 := Rr.f (i := 1)
  have fzr2 := Rr.f (i := 2)
  go_wp2_with (fail)
  have hzq : q = a + b := by exact Eq.out
  subst hzq
  have RS := Rr.store3 (.bool (sg (dmn ((a + b))))) (.slice Xq (nl (mg (dmn ((a + b))))) cq) (.int .i64 (dex ((a + b))))
  have e0 := RS.c (i := 0) rfl
  have e1 := RS.c (i := 1) rfl
  have e2 := RS.c (i := 2) rfl
  refine bodyPost_ret (v := .agg #[.bool (sg (dmn ((a + b)))), .slice Xq (nl (mg (dmn ((a + b))))) cq, .int .i64 (dex ((a + b)))]) (by simp [results, Tryz.results36, go_sem, e0, e1, e2]) rfl ?_
  exact ⟨Xq, cq, rfl, (Rr.keep3 (nuB rfl) hq), (Below.store3 HBT (by first | exact Nat.le_refl _ | omega))⟩
end Go.Proofs.YtpaffggdeedopaaGreatDoor

/- A loop over a function's items, where each item that is handed on holds something of memory. -/
set_option linter.unusedVariables false
set_option linter.unusedSimpArgs false
namespace Go.Proofs.YtpaffggdeedopaaGreatDoor
open Go.RowKit

/-- What a function that hands on items promises (Mv: what it does to variables of its own): each of them holds H when it is handed on, and at the end S (or, where it was stopped, Sp) holds of all that were. -/
def SeqX {α : Type} (F : Fence) (n : Nat) (P : Program) (g : Nat) (lb : Array Value) (encs : α → Array Value) (H : List α → α → World → Prop) (Kp Mv : World → World → Prop) (S Sp : List α → World → Prop) (w : World) : Prop :=
  ∀ (l : Nat) (J Jx : List α → World → Prop) (W : World), Below w.heap.size w W → AbidesFrom W.heap.size J → AbidesFrom W.heap.size Jx → (∀ s A B, J s A → Mv A B → J s B) →
    (∀ pre x W1, J pre W1 → H pre x W1 → YieldAt F (n - 1) P l (encs x) W1 fun e W' =>
      (e = .returned (.bool true) ∧ J (pre ++ [x]) W' ∧ Kp W1 W') ∨ (e = .returned (.bool false) ∧ Jx (pre ++ [x]) W' ∧ Kp W1 W')) →
    J [] W →
    CallsIn F n P g (#[.func (.yield l) #[] #[]] ++ lb) W fun e W' => (∃ v, e = .returned v) ∧ ((∃ xs, S xs W' ∧ J xs W') ∨ (∃ pre, Sp pre W' ∧ Jx pre W'))
/-- How the body of a round may be left. -/
def postX {α : Type} (Kp : World → World → Prop) (I : List α → World → Prop) (Ix : Code → List α → World → Prop) (xs : List α) (W : World) : Exit → Act → World → Prop
  | .normal, _, W' => KeepsOthers W W' ∧ Kp W W' ∧ I xs W'
  | .ret, _, W' => KeepsOthers W W' ∧ Kp W W' ∧ Ix .ret xs W'
  | .exit id, _, W' => KeepsOthers W W' ∧ Kp W W' ∧ Ix (.exit id) xs W'
  | .goto t, _, W' => KeepsOthers W W' ∧ Kp W W' ∧ Ix (.goto t) xs W'
  | .panic _, _, _ => False
  | .outgrown, _, _ => False
theorem wpIn_rangeX {F : Fence} {n : Nat} {P : Program} {α : Type} {g : Operand} {ps : Array Tmp} {assign body : Code} {Q : Exit → Act → World → Prop} {a : Act} {w : World}
    (hro : F.round = none) (h1 : 1 ≤ n) {gf : Nat} {lb : Array Value} (hg : a.eval g = .func (.func gf) #[] lb) (hFg : F.fn gf) (eg : ∀ args w, (callFunc gf args).run P w = .ok (.enter gf args) w)
    {encs : α → Array Value} {H : List α → α → World → Prop} {Kp Mv : World → World → Prop} {S Sp : List α → World → Prop} {w0 : World} (hseq : SeqX F (n - 1) P gf lb encs H Kp Mv S Sp w0)
    (hM : ∀ A B, Mv A B → ∀ k, w.heap.size ≤ k → k < A.heap.size → B.heap[k]? = A.heap[k]?)
    (hKt : ∀ {A B C : World}, Kp A B → Kp B C → Kp A C) (hKb : ∀ (W : World) (l : Nat) (o o' : Obj), w.heap.size ≤ l → W.heap[l]? = some o → o.isCells = false → o.isWalk = false → Kp W (W.putObj l o')) (hb0 : Below w0.heap.size w0 w) (hps : ∀ x, (encs x).size = ps.size)
    (hH : OwnFrom w.heap.size (fun (p : List α × α) W => H p.1 p.2 W)) (hS : OwnFrom w.heap.size S) (hSp : OwnFrom w.heap.size Sp)
    (I : List α → World → Prop) (Ix : Code → List α → World → Prop) (hI : OwnFrom w.heap.size I) (hIx : ∀ c, OwnFrom w.heap.size (Ix c)) (hIM : ∀ s A B, I s A → Mv A B → I s B) (h0 : I [] w) (a₁ : α → Act)
    (hassign : ∀ (l : Nat) (x : α) (W : World) (K : Act → World → Prop), K (a₁ x) W →
      assign.wpIn (F.inRound l) (n - 1 - 1) P (Exit.then K (fun _ _ _ => False)) { tmps := (ps.zip (encs x)).foldl (fun t (p, v) => t.setIfInBounds p v) a.tmps, defers := [] } W)
    (hbody : ∀ (l : Nat) (pre : List α) (x : α) (W : World), I pre W → H pre x W → body.wpIn (F.inRound l) (n - 1 - 1) P (postX Kp I Ix (pre ++ [x]) W) (a₁ x) W)
    (hdone : ∀ (D : Nat) (xs : List α) (W : World), w.heap.size ≤ D → S xs W → I xs W → W.heap[D]? = some (.deferred (some [])) → Q .normal { a with defers := { target := .collected D, args := #[] } :: a.defers } W)
    (hstop : ∀ (D : Nat) (c : Code) (pre : List α) (W : World), w.heap.size ≤ D → Sp pre W → Ix c pre W → W.heap[D]? = some (.deferred (some [])) → c.wpIn F n P Q { a with defers := { target := .collected D, args := #[] } :: a.defers } W) :
    (Code.rangeFunc g ps assign body).wpIn F n P Q a w := by
  refine wpIn_rangeFunc fun fn hfn => ?_
  rw [hro]
  let rec' : LoopState → Option Code → Loop := fun st pe => { state := st, pending := pe, fn, tmps := a.tmps, params := ps, assign, body, defers := w.heap.size }
  obtain ⟨rc, hrc⟩ : ∃ rc : LoopState → Option Code → Loop, rc = rec' := ⟨_, rfl⟩
  obtain ⟨W1, hW1⟩ : ∃ W1, W1 = (w.alloc (.deferred (some []))).alloc (.loop (rc .ready none)) := ⟨_, rfl⟩
  have hz : W1.heap.size = w.heap.size + 2 := by rw [hW1]; simp
  have hL1 : W1.heap[w.heap.size + 1]? = some (.loop (rc .ready none)) := by rw [hW1]; exact at_new (by simp)
  have hK1 : W1.heap[w.heap.size]? = some (.deferred (some [])) := by rw [hW1]; exact at_old (by simp) (at_new rfl)
  have hI1 : I [] W1 := by rw [hW1]; exact hI.alloc _ (hI.alloc _ h0)
  have hb1 : Below w0.heap.size w0 W1 := by
    rw [hW1]; exact hb0.trans ((((Below.refl _ w).alloc (Nat.le_refl _) _).alloc (by simp) _).mono hb0.size)
  refine ⟨w.heap.size + 1, [{ target := .collected w.heap.size, args := #[] }], W1, { target := .fn (.func gf) lb, args := #[.func (.yield (w.heap.size + 1)) #[] #[]] }, W1, gf, #[.func (.yield (w.heap.size + 1)) #[] #[]] ++ lb, W1, ?_, ?_, ?_, ?_, fun _ => h1, ?_⟩
  · rw [hW1, hrc]; exact run_enterLoop_outer _ _ _ _ _
  · simp only [resolve, hg]
    simp [go_sem]
  · intro f' hf'
    simp [Target.leads] at hf'
    subst hf'; exact hFg
  · simp [invoke, go_sem, eg]
  have turn : ∀ {A B : World} {row : Option Nat}, (∀ r, row = some r → W1.heap.size ≤ r ∧ ∃ o : Obj, A.heap[r]? = some o ∧ o.isWalk = true) → (∀ r, row = some r → w.heap.size ≤ r ∧ ∃ o : Obj, A.heap[r]? = some o ∧ o.isCells = false) := fun hr r e => by
    obtain ⟨hB, o, ho, hw⟩ := hr r e
    exact ⟨by omega, o, ho, Obj.not_cells_of_walk hw⟩
  refine (hseq (w.heap.size + 1)
    (fun pre W => I pre W ∧ W.heap[w.heap.size + 1]? = some (.loop (rc .ready none)) ∧ W.heap[w.heap.size]? = some (.deferred (some [])))
    (fun pre W => ∃ c, Ix c pre W ∧ W.heap[w.heap.size + 1]? = some (.loop (rc .done (some c))) ∧ W.heap[w.heap.size]? = some (.deferred (some [])))
    W1 hb1 ?ab1 ?ab2 ?mv ?round ⟨hI1, hL1, hK1⟩).mono ?fin
  case mv =>
    rintro x A B ⟨h1, h2, h3⟩ hm
    exact ⟨hIM x A B h1 hm, (hM A B hm _ (by omega) (Array.getElem?_eq_some_iff.1 h2).1).trans h2, (hM A B hm _ (by omega) (Array.getElem?_eq_some_iff.1 h3).1).trans h3⟩
  case ab1 =>
    rintro x A B row ⟨h1, h2, h3⟩ hg' hr
    exact ⟨hI x A B row h1 hg' (turn (B := B) hr), (grownBy_keeps hg' (fun r e => (hr r e).2) h2 rfl).trans h2, (grownBy_keeps hg' (fun r e => (hr r e).2) h3 rfl).trans h3⟩
  case ab2 =>
    rintro x A B row ⟨c, h1, h2, h3⟩ hg' hr
    exact ⟨c, hIx c x A B row h1 hg' (turn (B := B) hr), (grownBy_keeps hg' (fun r e => (hr r e).2) h2 rfl).trans h2, (grownBy_keeps hg' (fun r e => (hr r e).2) h3 rfl).trans h3⟩
  case round =>
    rintro pre x W ⟨hi, hl, hk⟩ hx
    have hlt : w.heap.size + 1 < W.heap.size := (Array.getElem?_eq_some_iff.1 hl).1
    have hy := run_yield (P := P) (args := encs x) hl (by rw [hrc]; exact hps x)
    rw [hrc] at hy
    refine ⟨fn, _, assign, body, hy, roundIn_of_wpIn hfn (hassign _ x W _ ⟨_, run_beginRound hl (by rw [hrc]), ?_⟩)⟩
    obtain ⟨bz, hbz⟩ : ∃ bz, bz = Obj.loop { rc .ready none with state := .busy } := ⟨_, rfl⟩
    rw [← hbz]
    have hl2 : (W.putObj (w.heap.size + 1) bz).heap[w.heap.size + 1]? = some bz := World.putObj_heap_same hlt
    have hk2 : (W.putObj (w.heap.size + 1) bz).heap[w.heap.size]? = some (.deferred (some [])) := (World.putObj_heap_other (by omega)).trans hk
    have hw2 : Kp W (W.putObj (w.heap.size + 1) bz) := hKb _ _ _ _ (by omega) hl rfl rfl
    refine wpIn_mono (hbody _ pre x _ (hI.putObj _ hi (by omega) hl rfl) (hH.putObj (s := (pre, x)) _ hx (by omega) hl rfl)) ?_
    have out : ∀ (jump : Option Code) (W3 : World), KeepsOthers (W.putObj (w.heap.size + 1) bz) W3 →
        (Instr.endRound (w.heap.size + 1) jump).run P W3 = .ok (.bool jump.isNone) (W3.putObj (w.heap.size + 1) (.loop (rc (if jump.isNone then .ready else .done) jump))) ∧ W3.heap[w.heap.size + 1]? = some bz ∧
        (W3.putObj (w.heap.size + 1) (.loop (rc (if jump.isNone then .ready else .done) jump))).heap[w.heap.size + 1]? = some (.loop (rc (if jump.isNone then .ready else .done) jump)) ∧
        (W3.putObj (w.heap.size + 1) (.loop (rc (if jump.isNone then .ready else .done) jump))).heap[w.heap.size]? = some (.deferred (some [])) := fun jump W3 h3 => by
      have hl3 := h3.same _ _ hl2 (by rw [hbz]; rfl)
      have he := run_endRound (P := P) jump (by rw [hbz] at hl3; exact hl3)
      rw [hrc] at he ⊢
      exact ⟨he, hl3, World.putObj_heap_same (Array.getElem?_eq_some_iff.1 hl3).1, (World.putObj_heap_other (by omega)).trans (h3.same _ _ hk2 rfl)⟩
    have hbc : bz.isCells = false := by rw [hbz]; rfl
    have hbw : bz.isWalk = false := by rw [hbz]; rfl
    have leave : ∀ (c : Code) (W3 : World), KeepsOthers (W.putObj (w.heap.size + 1) bz) W3 → Kp (W.putObj (w.heap.size + 1) bz) W3 → Ix c (pre ++ [x]) W3 → ∃ v w', (Instr.endRound (w.heap.size + 1) (some c)).run P W3 = .ok v w' ∧
        ((Ending.returned v = .returned (.bool true) ∧ (I (pre ++ [x]) w' ∧ w'.heap[w.heap.size + 1]? = some (.loop (rc .ready none)) ∧ w'.heap[w.heap.size]? = some (.deferred (some []))) ∧ Kp W w') ∨
          (Ending.returned v = .returned (.bool false) ∧ (∃ c, Ix c (pre ++ [x]) w' ∧ w'.heap[w.heap.size + 1]? = some (.loop (rc .done (some c))) ∧ w'.heap[w.heap.size]? = some (.deferred (some []))) ∧ Kp W w')) := fun c W3 h3 hk3 hi3 => by
      obtain ⟨hr, hl3, hl4, hk4⟩ := out (some c) W3 h3
      exact ⟨_, _, hr, .inr ⟨rfl, ⟨c, (hIx _).putObj _ hi3 (by omega) hl3 hbc, hl4, hk4⟩, hKt (hKt hw2 hk3) (hKb _ _ _ _ (by omega) hl3 hbc hbw)⟩⟩
    rintro e a3 W3 hp
    cases e with
    | normal =>
      obtain ⟨h3, hk3, hi3⟩ := hp
      obtain ⟨hr, hl3, hl4, hk4⟩ := out none W3 h3
      exact ⟨_, _, hr, .inl ⟨rfl, ⟨hI.putObj _ hi3 (by omega) hl3 hbc, hl4, hk4⟩, hKt (hKt hw2 hk3) (hKb _ _ _ _ (by omega) hl3 hbc hbw)⟩⟩
    | ret => exact leave .ret W3 hp.1 hp.2.1 hp.2.2
    | exit id => exact leave (.exit id) W3 hp.1 hp.2.1 hp.2.2
    | goto t => exact leave (.goto t) W3 hp.1 hp.2.1 hp.2.2
    | panic ch => exact hp.elim
    | outgrown => exact hp.elim
  case fin =>
    rintro e W2 ⟨⟨v, rfl⟩, (⟨xs, hSx, hi, hl, hk⟩ | ⟨pre, hSx, c, hi, hl, hk⟩)⟩
    · exact ⟨none, _, by have := run_endLoop (P := P) hl (by rw [hrc]; simp [rec']); rw [hrc] at this; exact this,
        hdone _ xs _ (Nat.le_refl _) (hS.putObj _ hSx (by omega) hl rfl) (hI.putObj _ hi (by omega) hl rfl) ((World.putObj_heap_other (by omega)).trans hk)⟩
    · exact ⟨some c, _, by have := run_endLoop (P := P) hl (by rw [hrc]; simp [rec']); rw [hrc] at this; exact this,
        hstop _ c pre _ (Nat.le_refl _) (hSp.putObj _ hSx (by omega) hl rfl) ((hIx c).putObj _ hi (by omega) hl rfl) ((World.putObj_heap_other (by omega)).trans hk)⟩
end Go.Proofs.YtpaffggdeedopaaGreatDoor

/- Euclid's pairs, handed on one by one. -/
set_option linter.unusedVariables false
set_option linter.unusedSimpArgs false
namespace Go.Proofs.YtpaffggdeedopaaGreatDoor
open Go.RowKit Go.Shelf
attribute [local go_sem] Oper.semAt_some

/-- Euclid's pairs. -/
def euc (a b : Nat) : Nat → Nat × Nat
  | 0 => (a, b)
  | k + 1 => ((euc a b k).2, (euc a b k).1 % (euc a b k).2)
theorem euc_gcd (a b : Nat) : ∀ k, (∀ i, i < k → (euc a b i).2 ≠ 0) → Nat.gcd (euc a b k).1 (euc a b k).2 = Nat.gcd a b
  | 0, _ => rfl
  | k + 1, h => by
    rw [← euc_gcd a b k (fun i hi => h i (by omega))]
    show Nat.gcd (euc a b k).2 ((euc a b k).1 % (euc a b k).2) = _
    rw [Nat.gcd_comm (euc a b k).1, Nat.gcd_rec (euc a b k).2 (euc a b k).1, Nat.gcd_comm]
/-- A pair of naturals as they lie in memory. -/
structure It where
  A : Option Addr
  c : Nat
  a : Nat
  B : Option Addr
  d : Nat
  b : Nat
def It.enc (x : It) : Array Value := #[.slice x.A (nl x.a) x.c, .slice x.B (nl x.b) x.d]
def It.ok (x : It) (W : World) : Prop := NatV W x.A x.c x.a ∧ NatV W x.B x.d x.b
/-- Limbs stay what they are, and so do two variables. -/
structure KpU (Ba Bb : Nat) (W W' : World) : Prop where
  u : ∀ (p : Addr) (x : Nat), W.cell? p = some (.int .u32 (x : Nat)) → W'.cell? p = some (.int .u32 (x : Nat))
  a : ∀ o : Obj, o.isCells = true → W.heap[Ba]? = some o → W'.heap[Ba]? = some o
  b : ∀ o : Obj, o.isCells = true → W.heap[Bb]? = some o → W'.heap[Bb]? = some o
theorem KpU.t {Ba Bb : Nat} {A B C : World} (h : KpU Ba Bb A B) (k : KpU Ba Bb B C) : KpU Ba Bb A C := ⟨fun p x e => k.u p x (h.u p x e), fun o ho e => k.a o ho (h.a o ho e), fun o ho e => k.b o ho (h.b o ho e)⟩
theorem KpU.bk {Ba Bb : Nat} {w : World} (W : World) (l : Nat) (o o' : Obj) (_ : w.heap.size ≤ l) (h : W.heap[l]? = some o) (ho : o.isCells = false) (_ : o.isWalk = false) : KpU Ba Bb W (W.putObj l o') := by
  refine ⟨fun p x e => cell_kept e (grownBy_putObj' W l o') (fun r e => by cases e; exact ⟨o, h, ho⟩), fun u hu e => ?_, fun u hu e => ?_⟩
  · have hne : Ba ≠ l := fun e2 => by subst e2; rw [h] at e; cases e; rw [ho] at hu; cases hu
    exact (World.putObj_heap_other hne).trans e
  · have hne : Bb ≠ l := fun e2 => by subst e2; rw [h] at e; cases e; rw [ho] at hu; cases hu
    exact (World.putObj_heap_other hne).trans e
theorem NatV.kpu {Ba Bb : Nat} {W W' : World} {A : Option Addr} {c n : Nat} (h : NatV W A c n) (hk : KpU Ba Bb W W') : NatV W' A c n := by
  refine ⟨?_, h.cap, h.cmax⟩
  rcases h.rd with h1 | ⟨ad, rfl, h1⟩
  · exact .inl h1
  · refine .inr ⟨ad, rfl, fun i u hi => ?_⟩
    have h2 := h1 i u hi
    obtain ⟨hl, he⟩ := List.getElem?_eq_some_iff.1 hi
    have hil : i < (limbs n).length := by simpa [vals] using hl
    rw [vals_get _ i hil] at hi
    cases hi
    exact hk.u _ _ h2
/-- All but two variables stays as it was. -/
structure MvU (Ba Bb : Nat) (W W' : World) : Prop where
  os : W'.os = W.os
  tape : W'.tape = W.tape
  output : W'.output = W.output
  size : W.heap.size ≤ W'.heap.size
  block : ∀ k, k < W.heap.size → k ≠ Ba → k ≠ Bb → W'.heap[k]? = W.heap[k]?
  u : ∀ (p : Addr) (x : Nat), W.cell? p = some (.int .u32 (x : Nat)) → W'.cell? p = some (.int .u32 (x : Nat))
/-- What is handed on, and what holds at the end. -/
def EuH (a b : Nat) (pre : List It) (x : It) (W : World) : Prop := x.ok W ∧ (x.a, x.b) = euc a b pre.length ∧ ∀ i, i < pre.length → (euc a b i).2 ≠ 0
def EuS (a b : Nat) (xs : List It) (W : World) : Prop := ∃ pre x, xs = pre ++ [x] ∧ EuH a b pre x W ∧ x.b = 0
def EuP (a b : Nat) (xs : List It) (W : World) : Prop := ∃ pre x, xs = pre ++ [x] ∧ EuH a b pre x W
theorem rests_c (A : Option Addr) (la ca : Nat) (B : Option Addr) (lb cb : Nat) (w : World) :
    Calls Tryz.prog 110 #[.slice A la ca, .slice B lb cb] w fun e w' =>
      e = .returned (.func (.func 149) #[] #[.pointer (some ⟨w.heap.size, 0, none⟩), .pointer (some ⟨w.heap.size + 1, 0, none⟩)]) ∧
      w' = (w.alloc (.cells #[.slice A la ca] 22)).alloc (.cells #[.slice B lb cb] 22) := by
  go_enter Tryz.func110, Tryz.ntmps110
  go_wp2_with (fail)
  go_ret
  exact ⟨rfl, rfl⟩
/-- The natural that a slice shows. -/
def natAt (W : World) (v : Option Value) : Nat := match v with
  | some (.slice (some ad) n _) => val ((List.range n).map fun i => match W.cell? (ad.add i) with | some (.int _ x) => x.toNat | _ => 0)
  | _ => 0
theorem NatV.at_ {W : World} {A : Option Addr} {c a : Nat} (h : NatV W A c a) : natAt W (some (.slice A (nl a) c)) = a := by
  rcases h.rd with h1 | ⟨ad, rfl, h1⟩
  · have h0 : limbs a = [] := by simpa [vals] using h1
    have h2 : a = 0 := by rw [← val_limbs a, h0]; rfl
    have h3 : nl a = 0 := by rw [h2, nl_zero]
    unfold natAt
    rw [h3, h2]
    cases A <;> rfl
  · show val _ = a
    rw [show ((List.range (nl a)).map fun i => match W.cell? (ad.add i) with | some (.int _ x) => x.toNat | _ => 0) = limbs a from ?_, val_limbs]
    apply List.ext_getElem
    · simp [nl]
    · intro i h2 h3
      have h4 := h1 i _ (vals_get (limbs a) i h3)
      rw [List.getElem_map, List.getElem_range, h4]
      simp only [Int.toNat_natCast]
      exact gl_get h3
theorem Boxed.keepN {W : World} {k : Nat} {t : TypeId} {A : Option Addr} {n c : Nat} {v : Value} (h : Boxed W k t (.slice A n c)) {X : Option Addr} {x m : Nat} (hN : NatV W X x m) : NatV (W.setCell ⟨k, 0, none⟩ v) X x m :=
  BoxA.keep (W := W) (k := k) (t := t) (us := #[.slice A n c]) ⟨h⟩ (by intro u hu; simp at hu; subst hu; exact notU_slice _ _ _) (fun j hj => Below.heap_setCell _ _ _ _ (by simpa using hj)) hN
theorem nl_max {a b k : Nat} (ha : nl a ≤ k) (hb : nl b ≤ k) : nl (max a b) ≤ k := by
  rcases Nat.le_total a b with h | h
  · rw [Nat.max_eq_right h]; exact hb
  · rw [Nat.max_eq_left h]; exact ha
theorem u_set {W : World} {k : Nat} {t : TypeId} {v u : Value} (h : Boxed W k t v) (hv : NotU v) (p : Addr) (x : Nat) (e : W.cell? p = some (.int .u32 (x : Nat))) : (W.setCell ⟨k, 0, none⟩ u).cell? p = some (.int .u32 (x : Nat)) := by
  have hne : p.block ≠ k := fun e2 => by
    unfold World.cell? at e
    rw [e2, show W.heap[k]? = _ from h] at e
    simp only at e
    split at e
    · cases e
    · have hm := Array.mem_of_getElem? e
      simp at hm
      exact hv x hm.symm
  rw [World.cell?_of_block (w := W) (a := p) (Below.heap_setCell _ _ _ _ (by simpa using hne))]
  exact e
theorem mv_two (W : World) (Ba Bb : Nat) (u v : Value) {t t' : TypeId} {x y : Value} (ha : Boxed W Ba t x) (hb : Boxed (W.setCell ⟨Ba, 0, none⟩ u) Bb t' y) (hx : NotU x) (hy : NotU y) : MvU Ba Bb W ((W.setCell ⟨Ba, 0, none⟩ u).setCell ⟨Bb, 0, none⟩ v) :=
  ⟨rfl, rfl, rfl, by simp [World.setCell], fun k _ h1 h2 => by rw [Below.heap_setCell _ _ _ _ (by simpa using h2), Below.heap_setCell _ _ _ _ (by simpa using h1)], fun p n e => u_set hb hy p n (u_set ha hx p n e)⟩
theorem rests1_in (l Ba Bb : Nat) (a b : Nat) (hla : nl a ≤ 16777216) (hlb : nl b ≤ 16777216) (hne : Ba ≠ Bb)
    (J Jx : List It → World → Prop) (hJd : ∀ pre W W', J pre W → Below W.heap.size W W' → J pre W') (hJm : ∀ s A B, J s A → MvU Ba Bb A B → J s B)
    (hY : ∀ pre x W, J pre W → EuH a b pre x W → YieldAt Fence.wide 2 Tryz.prog l x.enc W fun e W' =>
      (e = .returned (.bool true) ∧ J (pre ++ [x]) W' ∧ KpU Ba Bb W W') ∨ (e = .returned (.bool false) ∧ Jx (pre ++ [x]) W' ∧ KpU Ba Bb W W'))
    (A : Option Addr) (c : Nat) (B : Option Addr) (d : Nat) (W : World) (h1 : Boxed W Ba 22 (.slice A (nl a) c)) (h2 : Boxed W Bb 22 (.slice B (nl b) d))
    (hA : NatV W A c a) (hB : NatV W B d b) (h0 : J [] W) :
    CallsIn Fence.wide 3 Tryz.prog 149 #[.func (.yield l) #[] #[], .pointer (some ⟨Ba, 0, none⟩), .pointer (some ⟨Bb, 0, none⟩)] W fun e W' =>
      (∃ v, e = .returned v) ∧ ((∃ xs, EuS a b xs W' ∧ J xs W') ∨ (∃ pre, EuP a b pre W' ∧ Jx pre W')) := by
  refine callsIn_of_wp Tryz.func149 rfl trivial ?_ rfl
  simp only [Tryz.ntmps149, List.size_toArray, List.length_cons, List.length_nil, Nat.reduceAdd, Nat.reduceSub, Array.replicate_succ, Array.replicate_zero, List.push_toArray, List.append_toArray, List.nil_append, List.cons_append]
  have HY := Lib.hid hY
  clear hY
  gi_wp2_with (fail)
  gi_loopw [4, 5, 6] (fun u4 u5 u6 wr => ∃ (pre : List It) (x : It), J pre wr ∧ EuH a b pre x wr ∧ Boxed wr Ba 22 (.slice x.A (nl x.a) x.c) ∧ Boxed wr Bb 22 (.slice x.B (nl x.b) x.d) ∧ x.a ≤ max a b ∧ x.b ≤ max a b) (fun u4 u5 u6 wr => natAt wr (wr.cell? ⟨Bb, 0, none⟩))
  case atStart => exact ⟨[], ⟨A, c, a, B, d, b⟩, h0, ⟨⟨hA, hB⟩, rfl, fun i h => by simp at h⟩, h1, h2, by simp; omega, by simp; omega⟩
  case round =>
    obtain ⟨pre, ⟨A, c, x, B, d, y⟩, hJ, hH, hba, hbb, hxm, hym⟩ := hrel
    have hxa : nl x ≤ 16777216 := Nat.le_trans (nl_mono hxm) (nl_max hla hlb)
    have hyb : nl y ≤ 16777216 := Nat.le_trans (nl_mono hym) (nl_max hla hlb)
    have ca := hba.cell
    have cb := hbb.cell
    have cm : natAt wr (wr.cell? ⟨Bb, 0, none⟩) = y := by rw [cb]; exact hH.1.2.at_
    obtain ⟨fn, tmps, assign, body, hy, hR⟩ := HY.out pre _ wr hJ hH
    simp only [It.enc] at hy
    have HR := Lib.hid (hR.mono (R' := fun e W' => ∃ t, e = .returned (.bool t) ∧ KpU Ba Bb wr W' ∧ Hid ((t = true ∧ J (pre ++ [⟨A, c, x, B, d, y⟩]) W') ∨ (t = false ∧ Jx (pre ++ [⟨A, c, x, B, d, y⟩]) W'))) (by
      rintro e W' (⟨rfl, h1, h2⟩ | ⟨rfl, h1, h2⟩)
      · exact ⟨true, rfl, h2, Lib.hid (.inl ⟨rfl, h1⟩)⟩
      · exact ⟨false, rfl, h2, Lib.hid (.inr ⟨rfl, h1⟩)⟩))
    have H1 := hH.1.1
    have H2 := hH.1.2
    have H3 := Lib.hid hH.2
    replace hba := Lib.hid hba
    replace hbb := Lib.hid hbb
    replace cm := Lib.hid cm
    replace hJd := Lib.hid hJd
    replace hJm := Lib.hid hJm
    clear hR hJ hH
    gi_wp2_with (fail)
    refine (Hid.out HR).mono ?_
    rintro e W' ⟨t, rfl, K, ht⟩
    have hb2 : Boxed W' Bb 22 (.slice B (nl y) d) := K.b _ rfl hbb.out
    have ha2 : Boxed W' Ba 22 (.slice A (nl x) c) := K.a _ rfl hba.out
    have hX := H1.kpu K
    have hYy := H2.kpu K
    have E' : EuH a b pre ⟨A, c, x, B, d, y⟩ W' := ⟨⟨hX, hYy⟩, H3.out⟩
    have ca2 := ha2.cell
    have cb2 := hb2.cell
    cases t with
    | false =>
      obtain ⟨h, _⟩ | ⟨_, hx⟩ := ht.out
      · cases h
      · replace hx := Lib.hid hx
        replace E' := Lib.hid E'
        gi_wp2_with (fail)
        refine bodyPost_end (results_none rfl _ _ _) rfl ?_
        exact ⟨⟨_, rfl⟩, .inr ⟨_, ⟨_, _, rfl, E'.out⟩, hx.out⟩⟩
    | true =>
      obtain ⟨_, hJ2⟩ | ⟨h, _⟩ := ht.out
      · by_cases hy0 : y = 0
        · have t1 : decide (0 < (nl y : Int)) = false := by rw [hy0, nl_zero]; rfl
          have t2 : decide (0 < nl y) = false := by rw [hy0, nl_zero]; rfl
          replace hy0 := Lib.hid hy0
          replace hJ2 := Lib.hid hJ2
          replace E' := Lib.hid E'
          gi_wp2_with (fail)
          refine bodyPost_end (results_none rfl _ _ _) rfl ?_
          exact ⟨⟨_, rfl⟩, .inl ⟨_, ⟨_, _, rfl, E'.out, hy0.out⟩, hJ2.out⟩⟩
        · have t1 : decide (0 < (nl y : Int)) = true := by have := nl_pos.2 hy0; simp; omega
          have t2 : decide (0 < nl y) = true := by have := nl_pos.2 hy0; simp; omega
          have CD := ddivmod_c A c x B d y W' hX hYy hxa hyb (by omega)
          replace CD := Lib.hid CD
          replace hJ2 := Lib.hid hJ2
          replace E' := Lib.hid E'
          replace hy0 := Lib.hid hy0
          replace ha2 := Lib.hid ha2
          replace hb2 := Lib.hid hb2
          gi_wp2_with (refine ⟨trivial, ?_⟩; gi_at_call 111; (with_reducible refine (callsIn_wide.2 (Hid.out CD)).mono ?_); rintro e W2 ⟨X, cx, Y, cy, rfl, hq, hr, hbd⟩; have ha3 : Boxed W2 Ba 22 (.slice A (nl x) c) := heap_below hbd ha2.out; have hb3 : Boxed W2 Bb 22 (.slice B (nl y) d) := heap_below hbd hb2.out; have ca3 := ha3.cell; have cb3 := hb3.cell; have fa3 := ha3.frozen; have fb3 := hb3.frozen)
          go_roundw
          case rel =>
            have hb4 : Boxed (W2.setCell ⟨Ba, 0, none⟩ (.slice B (nl y) d)) Bb 22 (.slice B (nl y) d) := hb3.other (fun e => hne e.symm) _
            have hJ3 := hJm.out _ _ _ (hJd.out _ _ _ hJ2.out hbd) (mv_two W2 Ba Bb (.slice B (nl y) d) (.slice Y (nl (x % y)) cy) ha3 hb4 (notU_slice _ _ _) (notU_slice _ _ _))
            have n1 := Boxed.keepN hb4 (v := .slice Y (nl (x % y)) cy) (Boxed.keepN ha3 (v := .slice B (nl y) d) (hYy.below hbd))
            have n2 := Boxed.keepN hb4 (v := .slice Y (nl (x % y)) cy) (Boxed.keepN ha3 (v := .slice B (nl y) d) hr)
            refine ⟨_, ⟨B, d, y, Y, cy, x % y⟩, hJ3, ⟨⟨n1, n2⟩, ?_, ?_⟩, (Boxed.set _ ha3).other hne _, Boxed.set _ hb4, hym, Nat.le_trans (Nat.mod_le _ _) hxm⟩
            · have h := H3.out.1
              simp only [List.length_append, List.length_cons, List.length_nil, euc]
              rw [← h]
            · intro i hi
              simp only [List.length_append, List.length_cons, List.length_nil] at hi
              by_cases e : i = pre.length
              · rw [e, ← H3.out.1]; exact hy0.out
              · exact H3.out.2 i (by omega)
          case measure =>
            have hb4 : Boxed (W2.setCell ⟨Ba, 0, none⟩ (.slice B (nl y) d)) Bb 22 (.slice B (nl y) d) := hb3.other (fun e => hne e.symm) _
            have n2 := Boxed.keepN hb4 (v := .slice Y (nl (x % y)) cy) (Boxed.keepN ha3 (v := .slice B (nl y) d) hr)
            rw [cm.out, (Boxed.set _ hb4).cell, n2.at_]
            exact Nat.mod_lt _ (Nat.pos_of_ne_zero hy0.out)
      · cases h
end Go.Proofs.YtpaffggdeedopaaGreatDoor

/- The greatest common divisor, walked. -/
set_option linter.unusedVariables false
set_option linter.unusedSimpArgs false
namespace Go.Proofs.YtpaffggdeedopaaGreatDoor
open Go.RowKit Go.Shelf
attribute [local go_sem] Oper.semAt_some

theorem below_grown {W W' : World} (hb : Below W.heap.size W W') : W.grownBy W' none := ⟨hb.os, hb.tape, hb.output, hb.size, fun k hk _ => hb.block k hk⟩
theorem rests_seq (A : Option Addr) (c a : Nat) (B : Option Addr) (d b : Nat) (Ba Bb : Nat) (hne : Ba ≠ Bb) (w : World) (hla : nl a ≤ 16777216) (hlb : nl b ≤ 16777216) (h1 : Boxed w Ba 22 (.slice A (nl a) c)) (h2 : Boxed w Bb 22 (.slice B (nl b) d)) (hA : NatV w A c a) (hB : NatV w B d b) :
    SeqX Fence.wide 3 Tryz.prog 149 #[.pointer (some ⟨Ba, 0, none⟩), .pointer (some ⟨Bb, 0, none⟩)] It.enc (EuH a b) (KpU Ba Bb) (MvU Ba Bb) (EuS a b) (EuP a b) w := by
  intro l J Jx W hW hJ hJx hJm hY h0
  exact rests1_in l Ba Bb a b hla hlb hne J Jx (fun pre W W' h hb => hJ pre W W' none h (below_grown hb) (fun r e => by cases e)) hJm hY A c B d W (heap_below hW h1) (heap_below hW h2) (hA.below hW) (hB.below hW) h0
theorem NatV.kept {W W' : World} {A : Option Addr} {c n : Nat} {row : Option Nat} (h : NatV W A c n) (hg : W.grownBy W' row) (hr : ∀ r, row = some r → ∃ o : Obj, W.heap[r]? = some o ∧ o.isCells = false) : NatV W' A c n := by
  refine ⟨?_, h.cap, h.cmax⟩
  rcases h.rd with h1 | ⟨ad, rfl, h1⟩
  · exact .inl h1
  · exact .inr ⟨ad, rfl, fun i u hi => cell_kept (h1 i u hi) hg hr⟩
theorem EuH.kept {a b : Nat} {pre : List It} {x : It} {W W' : World} {row : Option Nat} (h : EuH a b pre x W) (hg : W.grownBy W' row) (hr : ∀ r, row = some r → ∃ o : Obj, W.heap[r]? = some o ∧ o.isCells = false) : EuH a b pre x W' :=
  ⟨⟨h.1.1.kept hg hr, h.1.2.kept hg hr⟩, h.2⟩
theorem own_euH (a b n : Nat) : OwnFrom n (fun (p : List It × It) W => EuH a b p.1 p.2 W) := fun s W W' row hs hg hr => hs.kept hg (fun r e => (hr r e).2)
theorem own_euS (a b n : Nat) : OwnFrom n (EuS a b) := fun s W W' row hs hg hr => by
  obtain ⟨pre, x, h1, h2, h3⟩ := hs
  exact ⟨pre, x, h1, h2.kept hg (fun r e => (hr r e).2), h3⟩
theorem own_euP (a b n : Nat) : OwnFrom n (EuP a b) := fun s W W' row hs hg hr => by
  obtain ⟨pre, x, h1, h2⟩ := hs
  exact ⟨pre, x, h1, h2.kept hg (fun r e => (hr r e).2)⟩
/-- A store into a variable that holds no limb keeps limbs, and two other variables. -/
theorem kpu_set {W : World} {k Ba Bb : Nat} {t : TypeId} {u v : Value} (h : Boxed W k t u) (hu : NotU u) (ha : Ba ≠ k) (hb : Bb ≠ k) : KpU Ba Bb W (W.setCell ⟨k, 0, none⟩ v) := by
  refine ⟨fun p x e => ?_, fun o _ e => (Below.heap_setCell _ _ _ _ (by simpa using ha)).trans e, fun o _ e => (Below.heap_setCell _ _ _ _ (by simpa using hb)).trans e⟩
  have hne : p.block ≠ k := fun e2 => by
    unfold World.cell? at e
    rw [e2, show W.heap[k]? = _ from h] at e
    simp only at e
    split at e
    · cases e
    · have hm := Array.mem_of_getElem? e
      simp at hm
      exact hu x hm.symm
  rw [World.cell?_of_block (w := W) (a := p) (Below.heap_setCell _ _ _ _ (by simpa using hne))]
  exact e
def outv (pre : List It) : Value := match pre.getLast? with
  | none => .slice none 0 0
  | some x => .slice x.A (nl x.a) x.c
theorem outv_snoc (pre : List It) (x : It) : outv (pre ++ [x]) = .slice x.A (nl x.a) x.c := by simp [outv]
theorem outv_notU (pre : List It) : NotU (outv pre) := by
  unfold outv; split <;> exact notU_slice _ _ _
theorem mvu_below {w W W' : World} {s Ba Bb : Nat} (h : Below s w W) (hm : MvU Ba Bb W W') (ha : s ≤ Ba) (hb : s ≤ Bb) (hs : s ≤ W.heap.size) : Below s w W' :=
  h.trans ⟨hm.os, hm.tape, hm.output, hm.size, fun k hk => hm.block k (by omega) (by omega) (by omega)⟩
theorem gcd_c (A : Option Addr) (c a : Nat) (B : Option Addr) (d b : Nat) (w : World) (hA : NatV w A c a) (hB : NatV w B d b) (hla : nl a ≤ 16777216) (hlb : nl b ≤ 16777216) :
    Calls Tryz.prog 54 #[.slice A (nl a) c, .slice B (nl b) d] w (RetN w (Nat.gcd a b)) := by
  refine (callsIn_wide (n := 4)).1 ?_
  refine callsIn_of_wp_marks Tryz.func54 rfl trivial ?_ rfl
  simp only [Tryz.ntmps54, List.size_toArray, List.length_cons, List.length_nil, Nat.reduceAdd, Nat.reduceSub, Array.replicate_succ, Array.replicate_zero, List.push_toArray, List.append_toArray, List.nil_append, List.cons_append]
  gi_wp2_with (refine ⟨trivial, ?_⟩; gi_at_call 110; refine (callsIn_wide.2 (rests_c A (nl a) c B (nl b) d _)).mono ?_; rintro e w' ⟨rfl, rfl⟩)
  obtain ⟨s, hs0⟩ : ∃ s, s = w.heap.size := ⟨_, rfl⟩
  obtain ⟨W8, hW8⟩ : ∃ W8, (((w.alloc (.cells #[.slice none 0 0] 22)).alloc (.cells #[.slice A (nl a) c] 22)).alloc (.cells #[.slice B (nl b) d] 22)) = W8 := ⟨_, rfl⟩
  have bO : Boxed W8 s 22 (.slice none 0 0) := by
    subst hs0 hW8; unfold Boxed; repeat (first | exact at_new (by simp) | refine at_old (by simp <;> omega) ?_)
  have bA : Boxed W8 (s + 1) 22 (.slice A (nl a) c) := by
    subst hs0 hW8; unfold Boxed; repeat (first | exact at_new (by simp) | refine at_old (by simp <;> omega) ?_)
  have bB : Boxed W8 (s + 2) 22 (.slice B (nl b) d) := by
    subst hs0 hW8; unfold Boxed; repeat (first | exact at_new (by simp) | refine at_old (by simp <;> omega) ?_)
  have hsz : W8.heap.size = s + 3 := by subst hs0 hW8; simp
  have hB0 : Below s w W8 := by
    subst hs0 hW8
    exact ((((Below.refl _ w).alloc (Nat.le_refl _) _).alloc (by simp) _).alloc (by simp; omega) _)
  have hA8 := hA.below (hs0 ▸ hB0)
  have hB8 := hB.below (hs0 ▸ hB0)
  rw [← hs0]
  simp only [Nat.add_assoc, Nat.reduceAdd]
  rw [hW8]
  clear hW8
  have HS := Lib.hid hs0
  clear hs0
  refine wpIn_rangeX (w0 := W8) rfl (by omega) (gf := 149) (lb := #[.pointer (some ⟨s + 1, 0, none⟩), .pointer (some ⟨s + 2, 0, none⟩)]) rfl trivial (enters_of Tryz.func149 (by kernel_rfl) rfl)
    (rests_seq A c a B d b (s + 1) (s + 2) (by omega) W8 hla hlb bA bB hA8 hB8) (fun X Y h k h1 h2 => h.block k h2 (by omega) (by omega))
    KpU.t (fun W l o o' h1 h2 h3 h4 => KpU.bk W l o o' h1 h2 h3 h4) (Below.refl _ _) (fun _ => rfl) (own_euH a b _) (own_euS a b _) (own_euP a b _)
    (fun pre W => Boxed W s 22 (outv pre) ∧ Below s w W ∧ s + 3 ≤ W.heap.size) (fun _ _ _ => False)
    ?own (fun _ _ _ _ _ hs _ _ => hs) ?mv ?start
    (fun x => { tmps := #[.slice A (nl a) c, .slice B (nl b) d, undef, undef, .slice none 0 0, .pointer (some ⟨s, 0, none⟩), .slice x.A (nl x.a) x.c, .slice A (nl a) c, .slice B (nl b) d,
      .func (.func 149) #[] #[.pointer (some ⟨s + 1, 0, none⟩), .pointer (some ⟨s + 2, 0, none⟩)], .slice x.A (nl x.a) x.c, .slice x.B (nl x.b) x.d, undef, undef], defers := [] }) ?assign ?body ?done ?stop
  case own =>
    refine OwnFrom.and (Own.from (boxed_own _ _ _) _) (OwnFrom.and (ownFrom_below (Nat.le_of_eq HS.out) (by omega)) ?_)
    intro x Y Z row h hg hr
    exact Nat.le_trans h hg.size
  case mv =>
    rintro x Y Z ⟨h1, h2, h3⟩ hm
    exact ⟨(hm.block s (by omega) (by omega) (by omega)).trans h1, mvu_below h2 hm (by omega) (by omega) (by omega), Nat.le_trans h3 hm.size⟩
  case start => exact ⟨bO, hB0, by omega⟩
  case assign =>
    intro l x W K hK
    simp only [It.enc]
    gi_wp2
    exact hK
  case stop =>
    rintro D c pre W _ _ h _
    exact h.elim
  case done =>
    rintro D ys W hD ⟨pre, x, rfl, hE, hx0⟩ ⟨hv, hB, hs3⟩ hK
    rw [outv_snoc] at hv
    have hc := hv.cell
    have hg : x.a = Nat.gcd a b := by
      have h1 := euc_gcd a b pre.length hE.2.2
      rw [← hE.2.1] at h1
      simp only [hx0, Nat.gcd_zero_right] at h1
      exact h1
    have hX := hE.1.1
    replace hg := Lib.hid hg
    replace hE := Lib.hid hE
    replace hx0 := Lib.hid hx0
    gi_wp2_with (fail)
    have hDlt : D < W.heap.size := (Array.getElem?_eq_some_iff.1 hK).1
    refine ⟨by simp, .inl ⟨_, _, rfl, run_takeDeferred hK, ?_⟩⟩
    have hp : Below s w (W.putObj D (.deferred none)) := hB.trans (belowK_b (w := W8) (by omega) W D _ _ hD hK rfl rfl)
    refine ⟨_, results_tmp rfl _ _ _, ?_⟩
    have hX2 := hX.kept (grownBy_putObj' W D (.deferred none)) (fun r e => by cases e; exact ⟨_, hK, rfl⟩)
    rw [← hg.out]
    exact ⟨x.A, x.c, rfl, hX2, hp.mono (Nat.le_of_eq HS.out.symm)⟩
  case body =>
    rintro l pre x W ⟨hv, hB, hs3⟩ hE
    have hc := hv.cell
    have hf := hv.frozen
    gi_wp2_with (fail)
    refine ⟨KeepsOthers.setCell _ _ _, kpu_set hv (outv_notU pre) (by omega) (by omega), ?_, hB.setCell (p := ⟨s, 0, none⟩) (Nat.le_refl _) _, by simpa [World.setCell] using hs3⟩
    rw [outv_snoc]
    exact Boxed.set _ hv
end Go.Proofs.YtpaffggdeedopaaGreatDoor

/- Dyadic numbers, walked: Mid; rationals: Whole, Make; Rat. -/
set_option linter.unusedVariables false
set_option linter.unusedSimpArgs false
namespace Go.Proofs.YtpaffggdeedopaaGreatDoor
open Go.RowKit Go.Shelf
attribute [local go_sem] max2_i min2_i max_two min_two

theorem mg_dm_le (z : Int) : mg (dm z) ≤ mg z := by
  have h := (dm_spec z).1
  have h2 := congrArg mg h
  rw [mg_mul] at h2
  have e : mg ((2 : Int) ^ v2 (mg z)) = 2 ^ v2 (mg z) := by unfold mg; rw [Int.natAbs_pow]; rfl
  rw [e] at h2
  rw [h2]; exact Nat.le_mul_of_pos_right _ (Nat.two_pow_pos _)
theorem form_bd (z e : Int) : nl (mg (dmn (dval z e))) ≤ nl (mg z) ∧ (dex (dval z e) = 0 ∨ e ≤ dex (dval z e) ∧ dex (dval z e) ≤ e + 32 * nl (mg z)) := by
  obtain ⟨h1, h2⟩ := make_form z e
  rw [← h1, ← h2]
  refine ⟨nl_mono (mg_dm_le z), ?_⟩
  unfold de
  split
  · exact .inl rfl
  · have := v2_le (mg z); exact .inr (by omega)
theorem sum_bd {a b : Rat} (ha : DOk a) (hb : DOk b) : ∃ z E, a + b = dval z E ∧ nl (mg z) ≤ 162503 ∧ -1000000 ≤ E ∧ E ≤ 1000000 := by
  have h1 := ha.e
  have h2 := hb.e
  have l1 := ha.l
  have l2 := hb.l
  obtain ⟨E, hE⟩ : ∃ E, E = min (dex a) (dex b) := ⟨_, rfl⟩
  refine ⟨shf (dmn a) (dex a - E) + shf (dmn b) (dex b - E), E, ?_, ?_, by omega, by omega⟩
  · rw [dval_add, lev ha.d (by omega), lev hb.d (by omega)]
  · have n1 := nl_shf (K := 0) l1 (d := dex a - E) (by omega) (by omega)
    have n2 := nl_shf (K := 0) l2 (d := dex b - E) (by omega) (by omega)
    have h3 := nl_add (mg (shf (dmn a) (dex a - E))) (mg (shf (dmn b) (dex b - E)))
    have h4 : nl (mg (shf (dmn a) (dex a - E) + shf (dmn b) (dex b - E))) ≤ nl (mg (shf (dmn a) (dex a - E)) + mg (shf (dmn b) (dex b - E))) := nl_mono (Int.natAbs_add_le _ _)
    omega
theorem dval_half (m e : Int) : dval m (e - 1) = dval m e * (1 / 2) := by
  unfold dval
  rw [show e - 1 = e + (-1) by omega, zp_add, Rat.mul_assoc, Rat.zpow_neg, Rat.zpow_one, Rat.div_def, Rat.one_mul]
def RetR (w : World) (q : Rat) (e : Ending) (w' : World) : Prop := ∃ A c B d, e = .returned (.agg #[.bool (sg q.num), .slice A (nl (mg q.num)) c, .slice B (nl q.den) d]) ∧ NatV w' A c (mg q.num) ∧ NatV w' B d q.den ∧ Below w.heap.size w w'
def RetRe (w : World) (q : Rat) (e : Ending) (w' : World) : Prop := ∃ A c B d, e = .returned (.tuple #[.agg #[.bool (sg q.num), .slice A (nl (mg q.num)) c, .slice B (nl q.den) d], .int .i64 0]) ∧ NatV w' A c (mg q.num) ∧ NatV w' B d q.den ∧ Below w.heap.size w w'
theorem dmid_c (aA : Option Addr) (ac : Nat) (a : Rat) (bA : Option Addr) (bc : Nat) (b : Rat) (w : World) (ha : NatV w aA ac (mg (dmn a))) (hb : NatV w bA bc (mg (dmn b))) (oa : DOk a) (ob : DOk b) (hT : Tab w) :
    Calls Tryz.prog 42 #[.agg #[.bool (sg (dmn a)), .slice aA (nl (mg (dmn a))) ac, .int .i64 (dex a)], .agg #[.bool (sg (dmn b)), .slice bA (nl (mg (dmn b))) bc, .int .i64 (dex b)]] w (RetD w ((a + b) * (1 / 2))) := by
  obtain ⟨z, E, hs, hz1, hE1, hE2⟩ := sum_bd oa ob
  obtain ⟨k1, k2⟩ := form_bd z E
  have hd : Dyd (a + b) := by rw [hs]; exact dyd_val z E
  rw [← hs] at k1 k2
  have hv : dval (dmn (a + b)) (dex (a + b) - 1) = (a + b) * (1 / 2) := by rw [dval_half, dval_q hd]
  replace hs := Lib.hid hs
  replace hd := Lib.hid hd
  replace hv := Lib.hid hv
  replace oa := Lib.hid oa
  replace ob := Lib.hid ob
  obtain ⟨hb1, Ra, Rb, Rr⟩ := bx3 w #[.bool (sg (dmn a)), .slice aA (nl (mg (dmn a))) ac, .int .i64 (dex a)] 31 #[.bool (sg (dmn b)), .slice bA (nl (mg (dmn b))) bc, .int .i64 (dex b)] 31 #[.bool false, .slice none 0 0, .int .i64 0] 31
  replace ha := ha.below hb1
  replace hb := hb.below hb1
  replace hT := hT.below hb1
  have HBT := hb1
  clear hb1
  have qa0 := Ra.c (i := 0) rfl
  have qa1 := Ra.c (i := 1) rfl
  have qa2 := Ra.c (i := 2) rfl
  have qb0 := Rb.c (i := 0) rfl
  have qb1 := Rb.c (i := 1) rfl
  have qb2 := Rb.c (i := 2) rfl
  have qr0 := Rr.c (i := 0) rfl
  have qr1 := Rr.c (i := 1) rfl
  have qr2 := Rr.c (i := 2) rfl
  go_enter Tryz.func42, Tryz.ntmps42
  go_wp2_with (fail)
  obtain ⟨u, Eu⟩ : ∃ zq : Rat, zq = a + b := ⟨_, rfl⟩
  have lu : nl (mg (dmn u)) ≤ 162503 := by rw [Eu]; exact Nat.le_trans k1 hz1
  have eu : -1000000 ≤ dex u ∧ dex u ≤ 6300096 := by rw [Eu]; omega
  obtain ⟨x, Ex⟩ : ∃ x, x = dex u - 1 := ⟨_, rfl⟩
  have Ix : dex u - 1 = x := Ex.symm
  have hxr : -1073741824 ≤ x ∧ x ≤ 1073741824 := by omega
  have hv2 : dval (dmn u) x = (a + b) * (1 / 2) := by rw [Ex, Eu]; exact hv.out
  clear k1 k2
  replace Ex := Lib.hid Ex
  replace hv2 := Lib.hid hv2
  refine (Calls.mono (R := RetD (((w.alloc (.cells #[.bool (sg (dmn a)), .slice aA (nl (mg (dmn a))) ac, .int .i64 (dex a)] 31)).alloc (.cells #[.bool (sg (dmn b)), .slice bA (nl (mg (dmn b))) bc, .int .i64 (dex b)] 31)).alloc (.cells #[.bool false, .slice none 0 0, .int .i64 0] 31)) u) (by rw [Eu]; with_reducible exact (dadd_c aA ac a bA bc b _ ha hb oa.out ob.out hT)) ?_)
  replace Eu := Lib.hid Eu
  rintro e W2 ⟨Xu, cu, rfl, hu, hb2⟩
  replace ha := ha.below hb2
  replace hb := hb.below hb2
  replace hT := hT.below hb2
  replace Ra := Ra.below hb2
  replace qa0 := cbl hb2 qa0
  replace qa1 := cbl hb2 qa1
  replace qa2 := cbl hb2 qa2
  replace Rb := Rb.below hb2
  replace qb0 := cbl hb2 qb0
  replace qb1 := cbl hb2 qb1
  replace qb2 := cbl hb2 qb2
  replace Rr := Rr.below hb2
  replace qr0 := cbl hb2 qr0
  replace qr1 := cbl hb2 qr1
  replace qr2 := cbl hb2 qr2
  replace HBT := Below.cons HBT hb2
  clear hb2
  go_wp2_with (fail)
  obtain ⟨hb3, Ru⟩ := bx1 W2 #[.bool (sg (dmn u)), .slice Xu (nl (mg (dmn u))) cu, .int .i64 (dex u)] 31
  replace ha := ha.below hb3
  replace hb := hb.below hb3
  replace hT := hT.below hb3
  replace Ra := Ra.below hb3
  replace qa0 := cbl hb3 qa0
  replace qa1 := cbl hb3 qa1
  replace qa2 := cbl hb3 qa2
  replace Rb := Rb.below hb3
  replace qb0 := cbl hb3 qb0
  replace qb1 := cbl hb3 qb1
  replace qb2 := cbl hb3 qb2
  replace Rr := Rr.below hb3
  replace qr0 := cbl hb3 qr0
  replace qr1 := cbl hb3 qr1
  replace qr2 := cbl hb3 qr2
  replace hu := hu.below hb3
  replace HBT := Below.cons HBT hb3
  clear hb3
  have qu0 := Ru.c (i := 0) rfl
  have qu1 := Ru.c (i := 1) rfl
  have qu2 := Ru.c (i := 2) rfl
  obtain ⟨q, Eq⟩ : ∃ zq : Rat, zq = dval (dmn u) x := ⟨_, rfl⟩
  refine (Calls.mono (R := RetD (W2.alloc (.cells #[.bool (sg (dmn u)), .slice Xu (nl (mg (dmn u))) cu, .int .i64 (dex u)] 31)) q) (by rw [Eq]; with_reducible exact (dmake_c Xu cu (dmn u) x _ hu hT (by omega) hxr)) ?_)
  replace Eq := Lib.hid Eq
  rintro e W4 ⟨Xq, cq, rfl, hq, hb4⟩
  replace ha := ha.below hb4
  replace hb := hb.below hb4
  replace hT := hT.below hb4
  replace Ra := Ra.below hb4
  replace qa0 := cbl hb4 qa0
  replace qa1 := cbl hb4 qa1
  replace qa2 := cbl hb4 qa2
  replace Rb := Rb.below hb4
  replace qb0 := cbl hb4 qb0
  replace qb1 := cbl hb4 qb1
  replace qb2 := cbl hb4 qb2
  replace Rr := Rr.below hb4
  replace qr0 := cbl hb4 qr0
  replace qr1 := cbl hb4 qr1
  replace qr2 := cbl hb4 qr2
  replace hu := hu.below hb4
  replace Ru := Ru.below hb4
  replace qu0 := cbl hb4 qu0
  replace qu1 := cbl hb4 qu1
  replace qu2 := cbl hb4 qu2
  replace HBT := Below.cons HBT hb4
  clear hb4
  have fzr0 := Rr.f (i := 0)
  have fzr1 := Rr.f (i := 1)
  have fzr2 := Rr.f (i := 2)
  go_wp2_with (fail)
  have hzq : q = (a + b) * (1 / 2) := by rw [Eq.out]; exact hv2.out
  subst hzq
  have RS := Rr.store3 (.bool (sg (dmn (((a + b) * (1 / 2)))))) (.slice Xq (nl (mg (dmn (((a + b) * (1 / 2)))))) cq) (.int .i64 (dex (((a + b) * (1 / 2)))))
  have e0 := RS.c (i := 0) rfl
  have e1 := RS.c (i := 1) rfl
  have e2 := RS.c (i := 2) rfl
  refine bodyPost_ret (v := .agg #[.bool (sg (dmn (((a + b) * (1 / 2))))), .slice Xq (nl (mg (dmn (((a + b) * (1 / 2)))))) cq, .int .i64 (dex (((a + b) * (1 / 2))))]) (by simp [results, Tryz.results42, go_sem, e0, e1, e2]) rfl ?_
  exact ⟨Xq, cq, rfl, (Rr.keep3 (nuB rfl) hq), (Below.store3 HBT (by first | exact Nat.le_refl _ | omega))⟩
theorem rwhole0_c (aA : Option Addr) (ac a : Nat) (w : World) (ha : NatV w aA ac a)  :
    Calls Tryz.prog 147 #[.slice aA (nl a) ac] w (RetI w (a : Int)) := by
  go_enter Tryz.func147, Tryz.ntmps147
  go_wp2_with (fail)
  obtain ⟨hb1, Rr⟩ := bx1 w #[.bool false, .slice aA (nl a) ac] 24
  replace ha := ha.below hb1
  have HBT := hb1
  clear hb1
  have qr0 := Rr.c (i := 0) rfl
  have qr1 := Rr.c (i := 1) rfl
  refine bodyPost_ret (v := .agg #[.bool false, .slice aA (nl a) ac]) (by simp [results, Tryz.results147, go_sem, qr0, qr1]) rfl ?_
  exact ⟨aA, ac, by rw [mg_nat, sg_f (Int.natCast_nonneg a)], by rw [mg_nat]; exact ha, HBT⟩
theorem rwhole_c (aA : Option Addr) (ac : Nat) (a : Int) (w : World) (ha : NatV w aA ac (mg a))  :
    Calls Tryz.prog 106 #[.agg #[.bool (sg a), .slice aA (nl (mg a)) ac]] w (RetR w (a : Rat)) := by
  go_enter Tryz.func106, Tryz.ntmps106
  go_wp2_with (fail)
  obtain ⟨hb1, Ra, Rr, Rl⟩ := bx3 w #[.bool (sg a), .slice aA (nl (mg a)) ac] 24 #[.bool (sg a), .slice aA (nl (mg a)) ac, .slice (some ⟨w.heap.size + 1 + 1, 0, none⟩) 1 1] 26 #[.int .u32 1] 72
  replace ha := ha.below hb1
  have HBT := hb1
  clear hb1
  have qa0 := Ra.c (i := 0) rfl
  have qa1 := Ra.c (i := 1) rfl
  have qr0 := Rr.c (i := 0) rfl
  have qr1 := Rr.c (i := 1) rfl
  have qr2 := Rr.c (i := 2) rfl
  have ql0 := Rl.c (i := 0) rfl
  have hone := nat_one _ _ Rl.at_
  refine bodyPost_ret (v := .agg #[.bool (sg a), .slice aA (nl (mg a)) ac, .slice (some ⟨w.heap.size + 1 + 1, 0, none⟩) 1 1]) (by simp [results, Tryz.results106, go_sem, qr0, qr1, qr2]) rfl ?_
  exact ⟨aA, ac, some ⟨w.heap.size + 1 + 1, 0, none⟩, 1, by rw [Rat.num_intCast, Rat.den_intCast, nl_one], by rw [Rat.num_intCast]; exact ha, by rw [Rat.den_intCast]; exact hone, HBT⟩
theorem gcd_parts {n d : Int} (hd : 0 < d) : n % (Nat.gcd (mg n) (mg d) : Int) = 0 ∧ d % (Nat.gcd (mg n) (mg d) : Int) = 0 ∧ 0 < Nat.gcd (mg n) (mg d) ∧ (Rat.divInt n d).num = n / (Nat.gcd (mg n) (mg d) : Int) ∧ ((Rat.divInt n d).den : Int) = d / (Nat.gcd (mg n) (mg d) : Int) ∧ (Rat.divInt n d).den = mg (d / (Nat.gcd (mg n) (mg d) : Int)) ∧ 0 ≤ d / (Nat.gcd (mg n) (mg d) : Int) := by
  have hg : 0 < Nat.gcd (mg n) (mg d) := Nat.gcd_pos_of_pos_right _ (mg_pos.2 (by omega))
  have h1 : ((Nat.gcd (mg n) (mg d) : Nat) : Int) ∣ n := by rw [← Int.dvd_natAbs]; exact Int.natCast_dvd_natCast.2 (Nat.gcd_dvd_left _ _)
  have h2 : ((Nat.gcd (mg n) (mg d) : Nat) : Int) ∣ d := by rw [← Int.dvd_natAbs]; exact Int.natCast_dvd_natCast.2 (Nat.gcd_dvd_right _ _)
  have hdd : d = ((mg d : Nat) : Int) := by unfold mg; omega
  have hden : (Rat.divInt n d).den = mg d / Nat.gcd (mg n) (mg d) := by
    conv => lhs; rw [hdd]
    rw [Rat.divInt_ofNat, Rat.den_mkRat, if_neg (show mg d ≠ 0 from fun e => by have := mg_zero.1 e; omega), Nat.gcd_comm]; rfl
  have hq : d / ((Nat.gcd (mg n) (mg d) : Nat) : Int) = ((mg d / Nat.gcd (mg n) (mg d) : Nat) : Int) := by
    conv => lhs; lhs; rw [hdd]
    exact (Int.natCast_ediv _ _).symm
  refine ⟨Int.emod_eq_zero_of_dvd h1, Int.emod_eq_zero_of_dvd h2, hg, ?_, ?_, ?_, ?_⟩
  · conv => lhs; rw [hdd]
    rw [Rat.divInt_ofNat, Rat.num_mkRat, if_neg (show mg d ≠ 0 from fun e => by have := mg_zero.1 e; omega), Nat.gcd_comm]; rfl
  · rw [hden, hq]
  · rw [hden, hq, mg_nat]
  · rw [hq]; exact Int.natCast_nonneg _
theorem rmake_q (aA : Option Addr) (ac : Nat) (a : Int) (bA : Option Addr) (bc : Nat) (b : Int) (w : World) (ha : NatV w aA ac (mg a)) (hb : NatV w bA bc (mg b)) (la : nl (mg a) ≤ 262144) (lb : nl (mg b) ≤ 262144) (hb0 : 0 < b) :
    Calls Tryz.prog 107 #[.agg #[.bool (sg a), .slice aA (nl (mg a)) ac], .agg #[.bool (sg b), .slice bA (nl (mg b)) bc]] w (RetRe w (Rat.divInt a b)) := by
  obtain ⟨p1, p2, p3, p4, p5, p6, p7⟩ := gcd_parts (n := a) hb0
  have hne : b ≠ 0 := by omega
  have hsg : b.sign = 1 := Int.sign_eq_one_of_pos hb0
  obtain ⟨g, Eg⟩ : ∃ g, g = Nat.gcd (mg a) (mg b) := ⟨_, rfl⟩
  rw [← Eg] at p1 p2 p3 p4 p5 p6 p7
  have lg : nl g ≤ 262144 := by rw [Eg]; exact Nat.le_trans (nl_mono (Nat.gcd_le_right _ (mg_pos.2 hne))) lb
  have hg0 : (g : Int) ≠ 0 := by omega
  have lg2 : nl (mg (g : Int)) ≤ 1048576 := by rw [mg_nat]; omega
  replace p1 := Lib.hid p1
  replace p2 := Lib.hid p2
  replace p4 := Lib.hid p4
  replace p5 := Lib.hid p5
  replace p6 := Lib.hid p6
  replace p7 := Lib.hid p7
  replace hb0 := Lib.hid hb0
  obtain ⟨hb1, Ra, Rb, Rr⟩ := bx3 w #[.bool (sg a), .slice aA (nl (mg a)) ac] 24 #[.bool (sg b), .slice bA (nl (mg b)) bc] 24 #[.bool false, .slice none 0 0, .slice none 0 0] 26
  replace ha := ha.below hb1
  replace hb := hb.below hb1
  have HBT := hb1
  clear hb1
  have qa0 := Ra.c (i := 0) rfl
  have qa1 := Ra.c (i := 1) rfl
  have qb0 := Rb.c (i := 0) rfl
  have qb1 := Rb.c (i := 1) rfl
  have qr0 := Rr.c (i := 0) rfl
  have qr1 := Rr.c (i := 1) rfl
  have qr2 := Rr.c (i := 2) rfl
  go_enter Tryz.func107, Tryz.ntmps107
  go_wp2_with (fail)
  have CG := isign_c bA bc b (((w.alloc (.cells #[.bool (sg a), .slice aA (nl (mg a)) ac] 24)).alloc (.cells #[.bool (sg b), .slice bA (nl (mg b)) bc] 24)).alloc (.cells #[.bool false, .slice none 0 0, .slice none 0 0] 26))
  rw [hsg] at CG
  replace CG := Lib.hid CG
  refine (Calls.mono (CG.out) ?_)
  rintro e W2 ⟨rfl, hb2⟩
  replace ha := ha.below hb2
  replace hb := hb.below hb2
  replace Ra := Ra.below hb2
  replace qa0 := cbl hb2 qa0
  replace qa1 := cbl hb2 qa1
  replace Rb := Rb.below hb2
  replace qb0 := cbl hb2 qb0
  replace qb1 := cbl hb2 qb1
  replace Rr := Rr.below hb2
  replace qr0 := cbl hb2 qr0
  replace qr1 := cbl hb2 qr1
  replace qr2 := cbl hb2 qr2
  replace HBT := Below.cons HBT hb2
  clear hb2
  go_wp2_with (fail)
  have CC := gcd_c aA ac (mg a) bA bc (mg b) W2 ha hb (by omega) (by omega)
  rw [← Eg] at CC
  replace CC := Lib.hid CC
  replace Eg := Lib.hid Eg
  refine (Calls.mono CC.out ?_)
  rintro e W3 ⟨Xg, cg, rfl, hg, hb3⟩
  replace ha := ha.below hb3
  replace hb := hb.below hb3
  replace Ra := Ra.below hb3
  replace qa0 := cbl hb3 qa0
  replace qa1 := cbl hb3 qa1
  replace Rb := Rb.below hb3
  replace qb0 := cbl hb3 qb0
  replace qb1 := cbl hb3 qb1
  replace Rr := Rr.below hb3
  replace qr0 := cbl hb3 qr0
  replace qr1 := cbl hb3 qr1
  replace qr2 := cbl hb3 qr2
  replace HBT := Below.cons HBT hb3
  clear hb3
  go_wp2_with (fail)
  obtain ⟨gi, Egi⟩ : ∃ zq : Int, zq = (g : Int) := ⟨_, rfl⟩
  refine (Calls.mono (R := RetI W3 gi) (by rw [Egi]; with_reducible exact (rwhole0_c Xg cg g _ hg)) ?_)
  replace Egi := Lib.hid Egi
  rintro e W4 ⟨Xgi, cgi, rfl, hgi, hb4⟩
  replace ha := ha.below hb4
  replace hb := hb.below hb4
  replace Ra := Ra.below hb4
  replace qa0 := cbl hb4 qa0
  replace qa1 := cbl hb4 qa1
  replace Rb := Rb.below hb4
  replace qb0 := cbl hb4 qb0
  replace qb1 := cbl hb4 qb1
  replace Rr := Rr.below hb4
  replace qr0 := cbl hb4 qr0
  replace qr1 := cbl hb4 qr1
  replace qr2 := cbl hb4 qr2
  replace hg := hg.below hb4
  replace HBT := Below.cons HBT hb4
  clear hb4
  have hzgi : gi = (g : Int) := by exact Egi.out
  subst hzgi
  obtain ⟨hb5, Rg⟩ := bx1 W4 #[.bool (sg (((g : Int)))), .slice Xgi (nl (mg (((g : Int))))) cgi] 24
  replace ha := ha.below hb5
  replace hb := hb.below hb5
  replace Ra := Ra.below hb5
  replace qa0 := cbl hb5 qa0
  replace qa1 := cbl hb5 qa1
  replace Rb := Rb.below hb5
  replace qb0 := cbl hb5 qb0
  replace qb1 := cbl hb5 qb1
  replace Rr := Rr.below hb5
  replace qr0 := cbl hb5 qr0
  replace qr1 := cbl hb5 qr1
  replace qr2 := cbl hb5 qr2
  replace hg := hg.below hb5
  replace hgi := hgi.below hb5
  replace HBT := Below.cons HBT hb5
  clear hb5
  have qg0 := Rg.c (i := 0) rfl
  have qg1 := Rg.c (i := 1) rfl
  go_wp2_with (fail)
  obtain ⟨u, Eu⟩ : ∃ zq : Int, zq = a / (g : Int) := ⟨_, rfl⟩
  have CE := iexact_c aA ac a Xgi cgi (g : Int) (W4.alloc (.cells #[.bool (sg (((g : Int)))), .slice Xgi (nl (mg (((g : Int))))) cgi] 24)) ha hgi (by omega) lg2 hg0 p1.out
  rw [← Eu] at CE
  replace Eu := Lib.hid Eu
  replace CE := Lib.hid CE
  refine (Calls.mono CE.out ?_)
  clear CE
  rintro e W6 ⟨Xu, cu, rfl, hu, hb6⟩
  replace ha := ha.below hb6
  replace hb := hb.below hb6
  replace Ra := Ra.below hb6
  replace qa0 := cbl hb6 qa0
  replace qa1 := cbl hb6 qa1
  replace Rb := Rb.below hb6
  replace qb0 := cbl hb6 qb0
  replace qb1 := cbl hb6 qb1
  replace Rr := Rr.below hb6
  replace qr0 := cbl hb6 qr0
  replace qr1 := cbl hb6 qr1
  replace qr2 := cbl hb6 qr2
  replace hg := hg.below hb6
  replace hgi := hgi.below hb6
  replace Rg := Rg.below hb6
  replace qg0 := cbl hb6 qg0
  replace qg1 := cbl hb6 qg1
  replace HBT := Below.cons HBT hb6
  clear hb6
  obtain ⟨hb7, Ru⟩ := bx1 W6 #[.bool (sg u), .slice Xu (nl (mg u)) cu] 24
  replace ha := ha.below hb7
  replace hb := hb.below hb7
  replace Ra := Ra.below hb7
  replace qa0 := cbl hb7 qa0
  replace qa1 := cbl hb7 qa1
  replace Rb := Rb.below hb7
  replace qb0 := cbl hb7 qb0
  replace qb1 := cbl hb7 qb1
  replace Rr := Rr.below hb7
  replace qr0 := cbl hb7 qr0
  replace qr1 := cbl hb7 qr1
  replace qr2 := cbl hb7 qr2
  replace hg := hg.below hb7
  replace hgi := hgi.below hb7
  replace Rg := Rg.below hb7
  replace qg0 := cbl hb7 qg0
  replace qg1 := cbl hb7 qg1
  replace hu := hu.below hb7
  replace HBT := Below.cons HBT hb7
  clear hb7
  have qu0 := Ru.c (i := 0) rfl
  have qu1 := Ru.c (i := 1) rfl
  go_wp2_with (fail)
  obtain ⟨v, Ev⟩ : ∃ zq : Int, zq = b / (g : Int) := ⟨_, rfl⟩
  have CE := iexact_c bA bc b Xgi cgi (g : Int) (W6.alloc (.cells #[.bool (sg u), .slice Xu (nl (mg u)) cu] 24)) hb hgi (by omega) lg2 hg0 p2.out
  rw [← Ev] at CE
  replace Ev := Lib.hid Ev
  replace CE := Lib.hid CE
  refine (Calls.mono CE.out ?_)
  clear CE
  rintro e W8 ⟨Xv, cv, rfl, hv, hb8⟩
  replace ha := ha.below hb8
  replace hb := hb.below hb8
  replace Ra := Ra.below hb8
  replace qa0 := cbl hb8 qa0
  replace qa1 := cbl hb8 qa1
  replace Rb := Rb.below hb8
  replace qb0 := cbl hb8 qb0
  replace qb1 := cbl hb8 qb1
  replace Rr := Rr.below hb8
  replace qr0 := cbl hb8 qr0
  replace qr1 := cbl hb8 qr1
  replace qr2 := cbl hb8 qr2
  replace hg := hg.below hb8
  replace hgi := hgi.below hb8
  replace Rg := Rg.below hb8
  replace qg0 := cbl hb8 qg0
  replace qg1 := cbl hb8 qg1
  replace hu := hu.below hb8
  replace Ru := Ru.below hb8
  replace qu0 := cbl hb8 qu0
  replace qu1 := cbl hb8 qu1
  replace HBT := Below.cons HBT hb8
  clear hb8
  have hvs : sg v = false := sg_f (by rw [Ev.out]; exact p7.out)
  obtain ⟨hb9, Rv⟩ := bx1 W8 #[.bool false, .slice Xv (nl (mg v)) cv] 24
  replace ha := ha.below hb9
  replace hb := hb.below hb9
  replace Ra := Ra.below hb9
  replace qa0 := cbl hb9 qa0
  replace qa1 := cbl hb9 qa1
  replace Rb := Rb.below hb9
  replace qb0 := cbl hb9 qb0
  replace qb1 := cbl hb9 qb1
  replace Rr := Rr.below hb9
  replace qr0 := cbl hb9 qr0
  replace qr1 := cbl hb9 qr1
  replace qr2 := cbl hb9 qr2
  replace hg := hg.below hb9
  replace hgi := hgi.below hb9
  replace Rg := Rg.below hb9
  replace qg0 := cbl hb9 qg0
  replace qg1 := cbl hb9 qg1
  replace hu := hu.below hb9
  replace Ru := Ru.below hb9
  replace qu0 := cbl hb9 qu0
  replace qu1 := cbl hb9 qu1
  replace hv := hv.below hb9
  replace HBT := Below.cons HBT hb9
  clear hb9
  have qv0 := Rv.c (i := 0) rfl
  have qv1 := Rv.c (i := 1) rfl
  have fzr0 := Rr.f (i := 0)
  have fzr1 := Rr.f (i := 1)
  have fzr2 := Rr.f (i := 2)
  go_wp2_with (fail)
  have hnum : u = (Rat.divInt a b).num := by rw [Eu.out]; exact p4.out.symm
  have hden : mg v = (Rat.divInt a b).den := by rw [Ev.out]; exact p6.out.symm
  have RS := Rr.store3 (.bool (sg u)) (.slice Xu (nl (mg u)) cu) (.slice Xv (nl (mg v)) cv)
  have e0 := RS.c (i := 0) rfl
  have e1 := RS.c (i := 1) rfl
  have e2 := RS.c (i := 2) rfl
  refine bodyPost_ret (v := .tuple #[.agg #[.bool (sg u), .slice Xu (nl (mg u)) cu, .slice Xv (nl (mg v)) cv], .int .i64 0]) (by simp [results, Tryz.results107, go_sem, e0, e1, e2]) rfl ?_
  exact ⟨Xu, cu, Xv, cv, by rw [← hnum, ← hden], by rw [← hnum]; exact Rr.keep3 (nuB rfl) hu, by rw [← hden]; exact Rr.keep3 (nuB rfl) hv, Below.store3 HBT (by omega)⟩
end Go.Proofs.YtpaffggdeedopaaGreatDoor

/- A region that draws its order, outside a fence: by an invariant on what has come up. -/
set_option linter.unusedVariables false
set_option linter.unusedSimpArgs false
namespace Go.Proofs.YtpaffggdeedopaaGreatDoor
open Go.RowKit

/-- Whatever comes up next keeps the invariant; when all has come up, it gives what is asked. -/
theorem wpAny_inv {P : Program} {ops : Array Oper} {Q : Exit → Act → World → Prop} {md : Region.Mode} (Inv : Array Bool → Act → World → Prop)
    (hdone : ∀ L a w, Inv L a w → Region.ready md ops L = [] → Q .normal a w)
    (hstep : ∀ L a w i, Inv L a w → i < ops.size → L.getD i true = false → (∀ o, ops[i]? = some o → ∀ e ∈ o.after, Region.binds md e = true → L.getD e.on false = true) →
      wpOp P ops Q i (fun a' w' => Inv (L.setIfInBounds i true) a' w') a w) :
    ∀ fuel L a w, Inv L a w → L.size = ops.size → L.toList.count false ≤ fuel → wpAny P md ops Q fuel L a w := by
  intro fuel
  induction fuel with
  | zero =>
    intro L a w hI hs hc
    have hr : Region.ready md ops L = [] := by
      rw [List.eq_nil_iff_forall_not_mem]
      intro i hi
      obtain ⟨h0, o, ho, _⟩ := mem_ready.1 hi
      have hlt : i < L.size := by rw [hs]; exact (Array.getElem?_eq_some_iff.1 ho).1
      have h1 : L.toList.count false = 0 := by omega
      rw [List.count_eq_zero] at h1
      refine h1 ?_
      have h2 : L[i] = false := by simpa [Array.getD, hlt] using h0
      exact h2 ▸ Array.getElem_mem_toList hlt
    exact ⟨hr, hdone L a w hI hr⟩
  | succ fuel ih =>
    intro L a w hI hs hc
    refine ⟨fun hr => hdone L a w hI hr, fun i hi => ?_⟩
    obtain ⟨h0, o, ho, hd⟩ := mem_ready.1 hi
    have hlt : i < ops.size := (Array.getElem?_eq_some_iff.1 ho).1
    refine wpOp_mono (fun a' w' hI' => ih _ a' w' hI' (by simpa using hs) ?_) (hstep L a w i hI hlt h0 (fun o' ho' e he hb => by
      rw [ho] at ho'; cases ho'; exact hd e he hb))
    have hl : i < L.size := by omega
    have h2 : L[i] = false := by simpa [Array.getD, hl] using h0
    have h3 := count_set (L := L.toList) (i := i) (by rw [Array.getElem?_toList, Array.getElem?_eq_getElem hl, h2])
    rw [Array.toList_setIfInBounds]
    omega

/-- A region that draws, by an invariant on which operations have come up ('D k': number k has). -/
theorem wp_region_inv {P : Program} {ops : Array Oper} {Q : Exit → Act → World → Prop} {id : Nat} {a : Act} {w : World} (Inv : (Nat → Bool) → Act → World → Prop) (hm : P.follows .mixedOrders = true)
    (hd : edgesDown ops = true)
    (h0 : Inv (fun _ => false) a w.drew)
    (hdone : ∀ D a w, Inv D a w → (∀ i, i < ops.size → D i = true) → Q .normal a w)
    (hstep : ∀ D a w i, Inv D a w → i < ops.size → D i = false → (∀ o, ops[i]? = some o → ∀ e ∈ o.after, Region.binds .any e = true → D e.on = true) →
      wpOp P ops Q i (fun a' w' => Inv (fun k => if k = i then true else D k) a' w') a w) :
    (Code.region id ops true).wp P Q a w := by
  refine wp_region_any hm (wpAny_inv (fun L a w => L.size = ops.size ∧ Inv (fun k => L.getD k false) a w) ?_ ?_ _ _ _ _ ⟨by simp, ?_⟩ (by simp) (by simp))
  · rintro L a w ⟨hs, hI⟩ hr
    exact hdone _ a w hI (ready_nil hd hs hr)
  · rintro L a w i ⟨hs, hI⟩ hi hL he
    have hl : i < L.size := by omega
    refine wpOp_mono (fun a' w' h' => ⟨by simpa using hs, ?_⟩) (hstep (fun k => L.getD k false) a w i hI hi (by simp only [Array.getD, hl, dite_true] at hL ⊢; exact hL) he)
    have : (fun k => (L.setIfInBounds i true).getD k false) = (fun k => if k = i then true else L.getD k false) := funext (bit_set hl)
    rw [this]
    exact h'
  · have : (fun k => (Array.replicate ops.size false).getD k false) = (fun _ : Nat => false) := by
      funext k
      by_cases hk : k < ops.size <;> simp [Array.getD, hk]
    rw [this]
    exact h0
end Go.Proofs.YtpaffggdeedopaaGreatDoor

/- What a region that draws its order has made so far: numbers in slots, variables in memory. -/
set_option linter.unusedVariables false
set_option linter.unusedSimpArgs false
namespace Go.Proofs.YtpaffggdeedopaaGreatDoor
open Go.RowKit Go.Shelf

theorem keepP {D : Nat → Bool} {i k : Nat} {p q : Prop} (hne : k ≠ i) (h : D k = true → p) (hpq : p → q) : (if k = i then true else D k) = true → q := by rw [if_neg hne]; exact fun e => hpq (h e)
theorem keepP' {D : Nat → Bool} {i k : Nat} {p q : Prop} (hne : k ≠ i) (h : D k = true → p) (hpq : D k = true → p → q) : (if k = i then true else D k) = true → q := by rw [if_neg hne]; exact fun e => hpq e (h e)
def PI (u : Value) (z : Int) (W : World) : Prop := ∃ X c, u = .agg #[.bool (sg z), .slice X (nl (mg z)) c] ∧ NatV W X c (mg z)
def PR (u : Value) (q : Rat) (W : World) : Prop := ∃ X c Y d, u = .agg #[.bool (sg q.num), .slice X (nl (mg q.num)) c, .slice Y (nl q.den) d] ∧ NatV W X c (mg q.num) ∧ NatV W Y d q.den
def PRt (u : Value) (q : Rat) (W : World) : Prop := ∃ X c Y d, u = .tuple #[.agg #[.bool (sg q.num), .slice X (nl (mg q.num)) c, .slice Y (nl q.den) d], .int .i64 0] ∧ NatV W X c (mg q.num) ∧ NatV W Y d q.den
/-- A variable that the region has made; one that it has written. -/
def PB3 (t : TypeId) (n0 : Nat) (u : Value) (W : World) : Prop := ∃ nb u0 u1 u2, u = .pointer (some ⟨nb, 0, none⟩) ∧ n0 ≤ nb ∧ BoxA W nb t #[u0, u1, u2] ∧ NotU u0 ∧ NotU u1 ∧ NotU u2
def PB2 (t : TypeId) (n0 : Nat) (u : Value) (W : World) : Prop := ∃ nb u0 u1, u = .pointer (some ⟨nb, 0, none⟩) ∧ n0 ≤ nb ∧ BoxA W nb t #[u0, u1] ∧ NotU u0 ∧ NotU u1
theorem notU3 {u0 u1 u2 : Value} (h0 : NotU u0) (h1 : NotU u1) (h2 : NotU u2) : ∀ x ∈ (#[u0, u1, u2] : Array Value).toList, NotU x := by
  intro x hx; simp at hx; rcases hx with rfl | rfl | rfl <;> assumption
theorem notU2 {u0 u1 : Value} (h0 : NotU u0) (h1 : NotU u1) : ∀ x ∈ (#[u0, u1] : Array Value).toList, NotU x := by
  intro x hx; simp at hx; rcases hx with rfl | rfl <;> assumption
def PBI (n0 : Nat) (u : Value) (z : Int) (W : World) : Prop := ∃ nb X c, u = .pointer (some ⟨nb, 0, none⟩) ∧ n0 ≤ nb ∧ BoxA W nb 24 #[.bool (sg z), .slice X (nl (mg z)) c] ∧ NatV W X c (mg z)
def PBR (n0 : Nat) (u : Value) (q : Rat) (W : World) : Prop := ∃ nb X c Y d, u = .pointer (some ⟨nb, 0, none⟩) ∧ n0 ≤ nb ∧ BoxA W nb 26 #[.bool (sg q.num), .slice X (nl (mg q.num)) c, .slice Y (nl q.den) d] ∧ NatV W X c (mg q.num) ∧ NatV W Y d q.den
section
variable {W W' : World} {u : Value} {z : Int} {q : Rat} {t : TypeId} {n0 : Nat}
theorem PI.below (h : PI u z W) (hb : Below W.heap.size W W') : PI u z W' := by
  obtain ⟨X, c, h1, h2⟩ := h; exact ⟨X, c, h1, h2.below hb⟩
theorem PR.below (h : PR u q W) (hb : Below W.heap.size W W') : PR u q W' := by
  obtain ⟨X, c, Y, d, h1, h2, h3⟩ := h; exact ⟨X, c, Y, d, h1, h2.below hb, h3.below hb⟩
theorem PRt.below (h : PRt u q W) (hb : Below W.heap.size W W') : PRt u q W' := by
  obtain ⟨X, c, Y, d, h1, h2, h3⟩ := h; exact ⟨X, c, Y, d, h1, h2.below hb, h3.below hb⟩
theorem PB3.below (h : PB3 t n0 u W) (hb : Below W.heap.size W W') : PB3 t n0 u W' := by
  obtain ⟨nb, u0, u1, u2, h1, h2, h3, h4⟩ := h; exact ⟨nb, u0, u1, u2, h1, h2, h3.below hb, h4⟩
theorem PB2.below (h : PB2 t n0 u W) (hb : Below W.heap.size W W') : PB2 t n0 u W' := by
  obtain ⟨nb, u0, u1, h1, h2, h3, h4⟩ := h; exact ⟨nb, u0, u1, h1, h2, h3.below hb, h4⟩
theorem PB3.lt (h : PB3 t n0 u W) : ∃ nb, u = .pointer (some ⟨nb, 0, none⟩) ∧ nb < W.heap.size := by
  obtain ⟨nb, u0, u1, u2, h1, h2, h3, h4⟩ := h; exact ⟨nb, h1, h3.lt⟩
theorem PB2.lt (h : PB2 t n0 u W) : ∃ nb, u = .pointer (some ⟨nb, 0, none⟩) ∧ nb < W.heap.size := by
  obtain ⟨nb, u0, u1, h1, h2, h3, h4⟩ := h; exact ⟨nb, h1, h3.lt⟩
theorem PBI.below (h : PBI n0 u z W) (hb : Below W.heap.size W W') : PBI n0 u z W' := by
  obtain ⟨nb, X, c, h1, h2, h3, h4⟩ := h; exact ⟨nb, X, c, h1, h2, h3.below hb, h4.below hb⟩
theorem PBR.below (h : PBR n0 u q W) (hb : Below W.heap.size W W') : PBR n0 u q W' := by
  obtain ⟨nb, X, c, Y, d, h1, h2, h3, h4, h5⟩ := h; exact ⟨nb, X, c, Y, d, h1, h2, h3.below hb, h4.below hb, h5.below hb⟩
/-- What a store into a variable without limbs leaves as it was. -/
structure Put (W W' : World) (k : Nat) : Prop where
  nat : ∀ {A : Option Addr} {c n : Nat}, NatV W A c n → NatV W' A c n
  far : ∀ j, j ≠ k → W'.heap[j]? = W.heap[j]?
theorem BoxA.put3 {u0 u1 u2 : Value} {k : Nat} (h : BoxA W k t #[u0, u1, u2]) (hu : ∀ x ∈ (#[u0, u1, u2] : Array Value).toList, NotU x) (v0 v1 v2 : Value) : Put W (((W.setCell ⟨k, 0, none⟩ v0).setCell ⟨k, 1, none⟩ v1).setCell ⟨k, 2, none⟩ v2) k := ⟨fun hN => h.keep3 hu hN, fun j hj => set3_far j hj⟩
theorem BoxA.put2 {u0 u1 : Value} {k : Nat} (h : BoxA W k t #[u0, u1]) (hu : ∀ x ∈ (#[u0, u1] : Array Value).toList, NotU x) (v0 v1 : Value) : Put W ((W.setCell ⟨k, 0, none⟩ v0).setCell ⟨k, 1, none⟩ v1) k := ⟨fun hN => h.keep2 hu hN, fun j hj => set2_far j hj⟩
theorem PI.put {k : Nat} (h : PI u z W) (hp : Put W W' k) : PI u z W' := by
  obtain ⟨X, c, h1, h2⟩ := h; exact ⟨X, c, h1, hp.nat h2⟩
theorem PR.put {k : Nat} (h : PR u q W) (hp : Put W W' k) : PR u q W' := by
  obtain ⟨X, c, Y, d, h1, h2, h3⟩ := h; exact ⟨X, c, Y, d, h1, hp.nat h2, hp.nat h3⟩
theorem PRt.put {k : Nat} (h : PRt u q W) (hp : Put W W' k) : PRt u q W' := by
  obtain ⟨X, c, Y, d, h1, h2, h3⟩ := h; exact ⟨X, c, Y, d, h1, hp.nat h2, hp.nat h3⟩
theorem PB3.put {k : Nat} (h : PB3 t n0 u W) (hp : Put W W' k) (hne : u ≠ .pointer (some ⟨k, 0, none⟩)) : PB3 t n0 u W' := by
  obtain ⟨nb, u0, u1, u2, h1, h2, h3, h4⟩ := h
  exact ⟨nb, u0, u1, u2, h1, h2, ⟨(hp.far nb (fun e => hne (by rw [h1, e]))).trans h3.at_⟩, h4⟩
theorem PB2.put {k : Nat} (h : PB2 t n0 u W) (hp : Put W W' k) (hne : u ≠ .pointer (some ⟨k, 0, none⟩)) : PB2 t n0 u W' := by
  obtain ⟨nb, u0, u1, h1, h2, h3, h4⟩ := h
  exact ⟨nb, u0, u1, h1, h2, ⟨(hp.far nb (fun e => hne (by rw [h1, e]))).trans h3.at_⟩, h4⟩
theorem PBI.put {k : Nat} (h : PBI n0 u z W) (hp : Put W W' k) (hne : u ≠ .pointer (some ⟨k, 0, none⟩)) : PBI n0 u z W' := by
  obtain ⟨nb, X, c, h1, h2, h3, h4⟩ := h
  exact ⟨nb, X, c, h1, h2, ⟨(hp.far nb (fun e => hne (by rw [h1, e]))).trans h3.at_⟩, hp.nat h4⟩
end
end Go.Proofs.YtpaffggdeedopaaGreatDoor

/- The document's whole numbers, walked: Shift. -/
set_option linter.unusedVariables false
set_option linter.unusedSimpArgs false
namespace Go.Proofs.YtpaffggdeedopaaGreatDoor
open Go.RowKit Go.Shelf
attribute [local go_sem] max2_i min2_i max_two min_two

def PN (u : Value) (n : Nat) (W : World) : Prop := ∃ X c, u = .slice X (nl n) c ∧ NatV W X c n
def PII (u : Value) (q r : Int) (W : World) : Prop := ∃ X c Y d, u = .tuple #[.agg #[.bool (sg q), .slice X (nl (mg q)) c], .agg #[.bool (sg r), .slice Y (nl (mg r)) d], .int .i64 0] ∧ NatV W X c (mg q) ∧ NatV W Y d (mg r)
theorem PN.below {W W' : World} {u : Value} {n : Nat} (h : PN u n W) (hb : Below W.heap.size W W') : PN u n W' := by
  obtain ⟨X, c, h1, h2⟩ := h; exact ⟨X, c, h1, h2.below hb⟩
theorem PII.below {W W' : World} {u : Value} {q r : Int} (h : PII u q r W) (hb : Below W.heap.size W W') : PII u q r W' := by
  obtain ⟨X, c, Y, d, h1, h2, h3⟩ := h; exact ⟨X, c, Y, d, h1, h2.below hb, h3.below hb⟩
theorem PN.put {W W' : World} {u : Value} {n k : Nat} (h : PN u n W) (hp : Put W W' k) : PN u n W' := by
  obtain ⟨X, c, h1, h2⟩ := h; exact ⟨X, c, h1, hp.nat h2⟩
theorem PII.put {W W' : World} {u : Value} {q r : Int} {k : Nat} (h : PII u q r W) (hp : Put W W' k) : PII u q r W' := by
  obtain ⟨X, c, Y, d, h1, h2, h3⟩ := h; exact ⟨X, c, Y, d, h1, hp.nat h2, hp.nat h3⟩
theorem shf_up (a : Int) (k : Nat) : ival (sg a) (mg a * 2 ^ k) = shf a (k : Int) := by
  rcases Int.lt_or_le a 0 with h | h
  · have := shf_bn (n := (k : Int)) h (Int.natCast_nonneg k)
    rw [Int.toNat_natCast] at this
    rw [sg_t h]; exact this
  · have := shf_nn (n := (k : Int)) h (Int.natCast_nonneg k)
    rw [Int.toNat_natCast] at this
    rw [sg_f h]; exact this
theorem shf_dn (a : Int) {n : Int} {k : Nat} (h : -n = (k : Int)) (h0 : n < 0) : a / (ival false (2 ^ k)) = shf a n := by
  unfold shf; rw [if_neg (by omega), h, Int.toNat_natCast, ival_false, Int.natCast_pow]; rfl
theorem zshift_u (aA : Option Addr) (ac : Nat) (a : Int) (n : Int) (w : World) (ha : NatV w aA ac (mg a))  (la : nl (mg a) ≤ 1048576) (n0 : 0 ≤ n) (n1 : n ≤ 16777216) :
    Calls Tryz.prog 143 #[.agg #[.bool (sg a), .slice aA (nl (mg a)) ac], .int .i64 n] w (RetI w (shf a n)) := by
  obtain ⟨k, rfl⟩ := Int.eq_ofNat_of_zero_le n0
  have t1 : decide (0 ≤ (k : Int)) = true := by simp
  have hv := shf_up a k
  have hk : k ≤ 16777216 := by omega
  have hs := nl_shl (mg a) k
  replace hv := Lib.hid hv
  obtain ⟨hb1, Ra, Rr⟩ := bx2 w #[.bool (sg a), .slice aA (nl (mg a)) ac] 24 #[.bool false, .slice none 0 0] 24
  replace ha := ha.below hb1
  have HBT := hb1
  clear hb1
  have qa0 := Ra.c (i := 0) rfl
  have qa1 := Ra.c (i := 1) rfl
  have qr0 := Rr.c (i := 0) rfl
  have qr1 := Rr.c (i := 1) rfl
  go_enter Tryz.func143, Tryz.ntmps143
  go_wp2_with (fail)
  have hd2 := drb (((w.alloc (.cells #[.bool (sg a), .slice aA (nl (mg a)) ac] 24)).alloc (.cells #[.bool false, .slice none 0 0] 24)))
  replace ha := ha.below hd2
  replace Ra := Ra.below hd2
  replace qa0 := cbl hd2 qa0
  replace qa1 := cbl hd2 qa1
  replace Rr := Rr.below hd2
  replace qr0 := cbl hd2 qr0
  replace qr1 := cbl hd2 qr1
  replace HBT := Below.cons HBT hd2
  clear hd2
  obtain ⟨m, Em⟩ : ∃ zq : Nat, zq = mg a * 2 ^ k := ⟨_, rfl⟩
  have Bm : nl m ≤ 1099511627776 := by rw [Em]; omega
  have C2_0 := fun (W : World) (h1 : NatV W aA ac (mg a)) => rshl_c aA ac (mg a) k W h1 (by omega) (by omega)
  simp only [← Em] at C2_0
  replace Em := Lib.hid Em
  replace C2_0 := Lib.hid C2_0
  obtain ⟨z, Ez⟩ : ∃ zq : Int, zq = ival (sg a) m := ⟨_, rfl⟩
  have C2_1 := fun (W : World) (A : Option Addr) (c : Nat) (h1 : NatV W A c m) => rz_c (sg a) A c m W h1 (by omega)
  simp only [← Ez] at C2_1
  replace Ez := Lib.hid Ez
  replace C2_1 := Lib.hid C2_1
  go_region_held3 (fun W => W.cell? ⟨w.heap.size, 0, none⟩ = some (.bool (sg a)) ∧ W.cell? ⟨w.heap.size, 1, none⟩ = some (.slice aA (nl (mg a)) ac))
    (first
      | exact ⟨qa0, qa1⟩
      | exact ⟨qa0_3, qa1_3⟩
      | exact ⟨qa0_4, qa1_4⟩
      | exact ⟨((Ra_4.other2 (by simp <;> omega)).c (i := 0) rfl), ((Ra_4.other2 (by simp <;> omega)).c (i := 1) rfl)⟩
      | go_keep)
    (first
      | (go_at_call 73; (with_reducible refine (C2_0.out _ ha).mono ?_); rintro e W3 ⟨Xm, cm, rfl, hm, hb3⟩; have ha_3 := ha.below hb3; have Ra_3 := Ra.below hb3; have qa0_3 := cbl hb3 qa0; have qa1_3 := cbl hb3 qa1; have Rr_3 := Rr.below hb3; have qr0_3 := cbl hb3 qr0; have qr1_3 := cbl hb3 qr1; have HBT_3 := Below.cons HBT hb3)
      | (go_at_call 67; (with_reducible refine (C2_1.out _ _ _ hm).mono ?_); rintro e W4 ⟨Xz, cz, rfl, hz, hb4⟩; have ha_4 := ha_3.below hb4; have Ra_4 := Ra_3.below hb4; have qa0_4 := cbl hb4 qa0_3; have qa1_4 := cbl hb4 qa1_3; have Rr_4 := Rr_3.below hb4; have qr0_4 := cbl hb4 qr0_3; have qr1_4 := cbl hb4 qr1_3; have hm_4 := hm.below hb4; have HBT_4 := Below.cons HBT_3 hb4; have fz0 := Rr_4.f (i := 0); have fz1 := Rr_4.f (i := 1)))
  all_goals (try go_wp2_with (fail))
  have hzz : z = (shf a (k : Int)) := by rw [Ez.out, Em.out]; exact hv.out
  subst hzz
  have RS := Rr_4.store2 (.bool (sg (((shf a (k : Int)))))) (.slice Xz (nl (mg (((shf a (k : Int)))))) cz)
  have e0 := RS.c (i := 0) rfl
  have e1 := RS.c (i := 1) rfl
  refine bodyPost_ret (v := .agg #[.bool (sg (((shf a (k : Int))))), .slice Xz (nl (mg (((shf a (k : Int)))))) cz]) (by simp [results, Tryz.results143, go_sem, e0, e1]) rfl ?_
  exact ⟨Xz, cz, rfl, (Rr_4.keep2 (nuB rfl) hz), (Below.store2 HBT_4 (by first | exact Nat.le_refl _ | omega))⟩
theorem zshift_d (aA : Option Addr) (ac : Nat) (a : Int) (n : Int) (w : World) (ha : NatV w aA ac (mg a))  (la : nl (mg a) ≤ 1048576) (n0 : n < 0) (n1 : -16777216 ≤ n) :
    Calls Tryz.prog 143 #[.agg #[.bool (sg a), .slice aA (nl (mg a)) ac], .int .i64 n] w (RetI w (shf a n)) := by
  obtain ⟨k, hk⟩ := Int.eq_ofNat_of_zero_le (show 0 ≤ -n by omega)
  have t1 : decide (0 ≤ n) = false := by simp; exact n0
  have lk : k ≤ 16777216 := by omega
  have Wk : IntKind.i64.wrap (k : Int) = (k : Int) := IntWalk.i64_in _ (by omega)
  have hv := shf_dn a hk n0
  obtain ⟨p, Ep⟩ : ∃ z : Nat, z = 1 * 2 ^ k := ⟨_, rfl⟩
  have Np : nl p ≤ 1048576 := by rw [Ep, Nat.one_mul, nl_two_pow]; omega
  have C1 := fun (W : World) (A : Option Addr) (c : Nat) (h1 : NatV W A c 1) => rshl_c A c 1 k W h1 (by rw [nl_one]; decide) (by omega)
  rw [← Ep] at C1
  obtain ⟨pz, Epz⟩ : ∃ z : Int, z = ival false p := ⟨_, rfl⟩
  have C2 := fun (W : World) (A : Option Addr) (c : Nat) (h1 : NatV W A c p) => rz_c false A c p W h1 (by omega)
  rw [← Epz] at C2
  have pz0 : pz ≠ 0 := by rw [Epz, ival_false, Ep]; have := Nat.two_pow_pos k; omega
  have Npz : nl (mg pz) ≤ 1048576 := by rw [Epz, mg_ival]; exact Np
  obtain ⟨q, Eq⟩ : ∃ z : Int, z = a / pz := ⟨_, rfl⟩
  obtain ⟨r, Er⟩ : ∃ z : Int, z = a % pz := ⟨_, rfl⟩
  have C3 := fun (W : World) (A : Option Addr) (c : Nat) (h1 : NatV W aA ac (mg a)) (h2 : NatV W A c (mg pz)) => zdiv_c aA ac a A c pz W h1 h2 (by omega) (by omega) pz0
  rw [← Eq, ← Er] at C3
  have eqz : q = shf a n := by rw [Eq, Epz, Ep, Nat.one_mul]; exact hv
  replace hv := Lib.hid hv
  replace Ep := Lib.hid Ep
  replace Epz := Lib.hid Epz
  replace Eq := Lib.hid Eq
  replace Er := Lib.hid Er
  replace C1 := Lib.hid C1
  replace C2 := Lib.hid C2
  replace C3 := Lib.hid C3
  replace eqz := Lib.hid eqz
  obtain ⟨hb1, Ra, Rr⟩ := bx2 w #[.bool (sg a), .slice aA (nl (mg a)) ac] 24 #[.bool false, .slice none 0 0] 24
  replace ha := ha.below hb1
  have HBT := hb1
  clear hb1
  have qa0 := Ra.c (i := 0) rfl
  have qa1 := Ra.c (i := 1) rfl
  have qr0 := Rr.c (i := 0) rfl
  have qr1 := Rr.c (i := 1) rfl
  go_enter Tryz.func143, Tryz.ntmps143
  go_wp2_with (fail)
  generalize hW0 : ((w.alloc (.cells #[.bool (sg a), .slice aA (nl (mg a)) ac] 24)).alloc (.cells #[.bool false, .slice none 0 0] 24)) = W0 at *
  replace hW0 := Lib.hid hW0
  refine wp_region_inv (fun E a' w' => ∃ (u18 u19 u20 u21 u22 u23 u24 u17 u25 u26 u27 u5 u6 u7 : Value),
    a' = { tmps := #[.agg #[.bool (sg a), .slice aA (nl (mg a)) ac], .int .i64 n, .pointer (some ⟨w.heap.size, 0, none⟩), undef, .pointer (some ⟨(w.heap.size + 1), 0, none⟩), u5, u6, u7, .int .i64 n, .bool false, undef, undef, undef, undef, undef, undef, undef, u17, u18, u19, u20, u21, u22, u23, u24, u25, u26, u27, undef], defers := [] } ∧
    (E 0 = true → u18 = .agg #[.bool (sg a), .slice aA (nl (mg a)) ac]) ∧
    (E 1 = true → PN u19 1 w') ∧
    (E 2 = true → u20 = .int .i64 n) ∧
    (E 3 = true → u21 = .int .i64 k) ∧
    (E 4 = true → PN u22 p w') ∧
    (E 5 = true → PI u23 pz w') ∧
    (E 6 = true → PII u24 q r w') ∧
    (E 7 = true → PII u17 q r w') ∧
    (E 8 = true → PI u25 q w') ∧
    (E 9 = true → PI u26 r w') ∧
    (E 10 = true → u27 = .int .i64 0) ∧
    (E 11 = true → PB2 24 W0.heap.size u5 w') ∧
    (E 12 = true → PB2 24 W0.heap.size u6 w') ∧
    (E 13 = true → PBI W0.heap.size u5 q w') ∧
    (E 14 = true → PBI W0.heap.size u6 r w') ∧
    (E 15 = true → u7 = .int .i64 0) ∧
    (E 13 = true → E 11 = true) ∧
    (E 14 = true → E 12 = true) ∧
    (E 11 = true → E 12 = true → u5 ≠ u6) ∧
    Below W0.heap.size W0 w') (by kernel_rfl) (by kernel_rfl) ?init ?fin ?step
  case init => exact ⟨_, _, _, _, _, _, _, _, _, _, _, _, _, _, rfl, by simp, by simp, by simp, by simp, by simp, by simp, by simp, by simp, by simp, by simp, by simp, by simp, by simp, by simp, by simp, by simp, by simp, by simp, by simp, (Below.refl _ _).drew⟩
  case step =>
    rintro E a' w' i ⟨u18, u19, u20, u21, u22, u23, u24, u17, u25, u26, u27, u5, u6, u7, rfl, h0, h1, h2, h3, h4, h5, h6, h7, h8, h9, h10, h11, h12, h13, h14, h15, hD13, hD14, hN11_12, hB⟩ hi hEi hdep
    have qa0 := cbl hB qa0
    have qa1 := cbl hB qa1
    obtain rfl | rfl | rfl | rfl | rfl | rfl | rfl | rfl | rfl | rfl | rfl | rfl | rfl | rfl | rfl | rfl : i = 0 ∨ i = 1 ∨ i = 2 ∨ i = 3 ∨ i = 4 ∨ i = 5 ∨ i = 6 ∨ i = 7 ∨ i = 8 ∨ i = 9 ∨ i = 10 ∨ i = 11 ∨ i = 12 ∨ i = 13 ∨ i = 14 ∨ i = 15 := by simp at hi; omega
    · skip
      refine wpOp_step rfl (fun K' hK' => ?_)
      go_simp
      refine hK' _ _ ?_
      exact ⟨_, _, _, _, _, _, _, _, _, _, _, _, _, _, rfl, fun _ => rfl, keepD (by decide) h1, keepD (by decide) h2, keepD (by decide) h3, keepD (by decide) h4, keepD (by decide) h5, keepD (by decide) h6, keepD (by decide) h7, keepD (by decide) h8, keepD (by decide) h9, keepD (by decide) h10, keepD (by decide) h11, keepD (by decide) h12, keepD (by decide) h13, keepD (by decide) h14, keepD (by decide) h15, (fun h => by have := hD13 (by simpa using h); simpa using this), (fun h => by have := hD14 (by simpa using h); simpa using this), (fun h k => hN11_12 (by simpa using h) (by simpa using k)), hB⟩
    · skip
      have kb : Below w'.heap.size w' (w'.alloc (.cells #[.int .u32 1] 72)) := (Below.refl _ _).alloc (Nat.le_refl _) _
      refine wpOp_step rfl (fun K' hK' => ?_)
      go_simp
      refine hK' _ _ ?_
      exact ⟨_, _, _, _, _, _, _, _, _, _, _, _, _, _, rfl, keepD (by decide) h0, fun _ => ⟨some ⟨w'.heap.size, 0, none⟩, 1, by rw [nl_one], nat_one _ _ (heap_alloc_new w' (.cells #[.int .u32 1] 72))⟩, keepD (by decide) h2, keepD (by decide) h3, keepP (by decide) h4 (fun h => h.below kb), keepP (by decide) h5 (fun h => h.below kb), keepP (by decide) h6 (fun h => h.below kb), keepP (by decide) h7 (fun h => h.below kb), keepP (by decide) h8 (fun h => h.below kb), keepP (by decide) h9 (fun h => h.below kb), keepD (by decide) h10, keepP (by decide) h11 (fun h => h.below kb), keepP (by decide) h12 (fun h => h.below kb), keepP (by decide) h13 (fun h => h.below kb), keepP (by decide) h14 (fun h => h.below kb), keepD (by decide) h15, (fun h => by have := hD13 (by simpa using h); simpa using this), (fun h => by have := hD14 (by simpa using h); simpa using this), (fun h k => hN11_12 (by simpa using h) (by simpa using k)), Below.cons hB kb⟩
    · skip
      refine wpOp_step rfl (fun K' hK' => ?_)
      go_simp
      refine hK' _ _ ?_
      exact ⟨_, _, _, _, _, _, _, _, _, _, _, _, _, _, rfl, keepD (by decide) h0, keepD (by decide) h1, fun _ => rfl, keepD (by decide) h3, keepD (by decide) h4, keepD (by decide) h5, keepD (by decide) h6, keepD (by decide) h7, keepD (by decide) h8, keepD (by decide) h9, keepD (by decide) h10, keepD (by decide) h11, keepD (by decide) h12, keepD (by decide) h13, keepD (by decide) h14, keepD (by decide) h15, (fun h => by have := hD13 (by simpa using h); simpa using this), (fun h => by have := hD14 (by simpa using h); simpa using this), (fun h k => hN11_12 (by simpa using h) (by simpa using k)), hB⟩
    · skip
      have d2 := hdep _ rfl ⟨2, .data⟩ (by simp) rfl
      obtain rfl := h2 d2
      refine wpOp_step rfl (fun K' hK' => ?_)
      go_simp
      refine hK' _ _ ?_
      exact ⟨_, _, _, _, _, _, _, _, _, _, _, _, _, _, rfl, keepD (by decide) h0, keepD (by decide) h1, keepD (by decide) h2, fun _ => rfl, keepD (by decide) h4, keepD (by decide) h5, keepD (by decide) h6, keepD (by decide) h7, keepD (by decide) h8, keepD (by decide) h9, keepD (by decide) h10, keepD (by decide) h11, keepD (by decide) h12, keepD (by decide) h13, keepD (by decide) h14, keepD (by decide) h15, (fun h => by have := hD13 (by simpa using h); simpa using this), (fun h => by have := hD14 (by simpa using h); simpa using this), (fun h k => hN11_12 (by simpa using h) (by simpa using k)), hB⟩
    · skip
      have d1 := hdep _ rfl ⟨1, .data⟩ (by simp) rfl
      obtain ⟨X_1, c_1, rfl, k_1⟩ := h1 d1
      have d3 := hdep _ rfl ⟨3, .data⟩ (by simp) rfl
      obtain rfl := h3 d3
      refine wpOp_step rfl (fun K' hK' => ?_)
      go_simp
      refine (Calls.mono (C1.out w' _ _ k_1) ?_)
      rintro e W1 ⟨Xr, cr, rfl, kr, kb⟩
      refine hK' _ _ ?_
      exact ⟨_, _, _, _, _, _, _, _, _, _, _, _, _, _, rfl, keepD (by decide) h0, keepP (by decide) h1 (fun h => h.below kb), keepD (by decide) h2, keepD (by decide) h3, fun _ => ⟨Xr, cr, rfl, kr⟩, keepP (by decide) h5 (fun h => h.below kb), keepP (by decide) h6 (fun h => h.below kb), keepP (by decide) h7 (fun h => h.below kb), keepP (by decide) h8 (fun h => h.below kb), keepP (by decide) h9 (fun h => h.below kb), keepD (by decide) h10, keepP (by decide) h11 (fun h => h.below kb), keepP (by decide) h12 (fun h => h.below kb), keepP (by decide) h13 (fun h => h.below kb), keepP (by decide) h14 (fun h => h.below kb), keepD (by decide) h15, (fun h => by have := hD13 (by simpa using h); simpa using this), (fun h => by have := hD14 (by simpa using h); simpa using this), (fun h k => hN11_12 (by simpa using h) (by simpa using k)), Below.cons hB kb⟩
    · skip
      have d4 := hdep _ rfl ⟨4, .data⟩ (by simp) rfl
      obtain ⟨X_4, c_4, rfl, k_4⟩ := h4 d4
      refine wpOp_step rfl (fun K' hK' => ?_)
      go_simp
      refine (Calls.mono (C2.out w' _ _ k_4) ?_)
      rintro e W1 ⟨Xr, cr, rfl, kr, kb⟩
      refine hK' _ _ ?_
      exact ⟨_, _, _, _, _, _, _, _, _, _, _, _, _, _, rfl, keepD (by decide) h0, keepP (by decide) h1 (fun h => h.below kb), keepD (by decide) h2, keepD (by decide) h3, keepP (by decide) h4 (fun h => h.below kb), fun _ => ⟨Xr, cr, rfl, kr⟩, keepP (by decide) h6 (fun h => h.below kb), keepP (by decide) h7 (fun h => h.below kb), keepP (by decide) h8 (fun h => h.below kb), keepP (by decide) h9 (fun h => h.below kb), keepD (by decide) h10, keepP (by decide) h11 (fun h => h.below kb), keepP (by decide) h12 (fun h => h.below kb), keepP (by decide) h13 (fun h => h.below kb), keepP (by decide) h14 (fun h => h.below kb), keepD (by decide) h15, (fun h => by have := hD13 (by simpa using h); simpa using this), (fun h => by have := hD14 (by simpa using h); simpa using this), (fun h k => hN11_12 (by simpa using h) (by simpa using k)), Below.cons hB kb⟩
    · skip
      have d0 := hdep _ rfl ⟨0, .data⟩ (by simp) rfl
      obtain rfl := h0 d0
      have d5 := hdep _ rfl ⟨5, .data⟩ (by simp) rfl
      obtain ⟨X_5, c_5, rfl, k_5⟩ := h5 d5
      refine wpOp_step rfl (fun K' hK' => ?_)
      go_simp
      refine (Calls.mono (C3.out w' _ _ (ha.below hB) k_5) ?_)
      rintro e W1 ⟨Xr, cr, Yr, dr, rfl, kr, lr, kb⟩
      refine hK' _ _ ?_
      exact ⟨_, _, _, _, _, _, _, _, _, _, _, _, _, _, rfl, keepD (by decide) h0, keepP (by decide) h1 (fun h => h.below kb), keepD (by decide) h2, keepD (by decide) h3, keepP (by decide) h4 (fun h => h.below kb), keepP (by decide) h5 (fun h => h.below kb), fun _ => ⟨Xr, cr, Yr, dr, rfl, kr, lr⟩, keepP (by decide) h7 (fun h => h.below kb), keepP (by decide) h8 (fun h => h.below kb), keepP (by decide) h9 (fun h => h.below kb), keepD (by decide) h10, keepP (by decide) h11 (fun h => h.below kb), keepP (by decide) h12 (fun h => h.below kb), keepP (by decide) h13 (fun h => h.below kb), keepP (by decide) h14 (fun h => h.below kb), keepD (by decide) h15, (fun h => by have := hD13 (by simpa using h); simpa using this), (fun h => by have := hD14 (by simpa using h); simpa using this), (fun h k => hN11_12 (by simpa using h) (by simpa using k)), Below.cons hB kb⟩
    · skip
      have d6 := hdep _ rfl ⟨6, .data⟩ (by simp) rfl
      obtain ⟨X_6, c_6, Y_6, d_6, rfl, k_6, l_6⟩ := h6 d6
      refine wpOp_step rfl (fun K' hK' => ?_)
      go_simp
      refine hK' _ _ ?_
      exact ⟨_, _, _, _, _, _, _, _, _, _, _, _, _, _, rfl, keepD (by decide) h0, keepD (by decide) h1, keepD (by decide) h2, keepD (by decide) h3, keepD (by decide) h4, keepD (by decide) h5, keepD (by decide) h6, fun _ => ⟨X_6, c_6, Y_6, d_6, rfl, k_6, l_6⟩, keepD (by decide) h8, keepD (by decide) h9, keepD (by decide) h10, keepD (by decide) h11, keepD (by decide) h12, keepD (by decide) h13, keepD (by decide) h14, keepD (by decide) h15, (fun h => by have := hD13 (by simpa using h); simpa using this), (fun h => by have := hD14 (by simpa using h); simpa using this), (fun h k => hN11_12 (by simpa using h) (by simpa using k)), hB⟩
    · skip
      have d7 := hdep _ rfl ⟨7, .data⟩ (by simp) rfl
      obtain ⟨X_7, c_7, Y_7, d_7, rfl, k_7, l_7⟩ := h7 d7
      refine wpOp_step rfl (fun K' hK' => ?_)
      go_simp
      refine hK' _ _ ?_
      exact ⟨_, _, _, _, _, _, _, _, _, _, _, _, _, _, rfl, keepD (by decide) h0, keepD (by decide) h1, keepD (by decide) h2, keepD (by decide) h3, keepD (by decide) h4, keepD (by decide) h5, keepD (by decide) h6, keepD (by decide) h7, fun _ => ⟨X_7, c_7, rfl, k_7⟩, keepD (by decide) h9, keepD (by decide) h10, keepD (by decide) h11, keepD (by decide) h12, keepD (by decide) h13, keepD (by decide) h14, keepD (by decide) h15, (fun h => by have := hD13 (by simpa using h); simpa using this), (fun h => by have := hD14 (by simpa using h); simpa using this), (fun h k => hN11_12 (by simpa using h) (by simpa using k)), hB⟩
    · skip
      have d7 := hdep _ rfl ⟨7, .data⟩ (by simp) rfl
      obtain ⟨X_7, c_7, Y_7, d_7, rfl, k_7, l_7⟩ := h7 d7
      refine wpOp_step rfl (fun K' hK' => ?_)
      go_simp
      refine hK' _ _ ?_
      exact ⟨_, _, _, _, _, _, _, _, _, _, _, _, _, _, rfl, keepD (by decide) h0, keepD (by decide) h1, keepD (by decide) h2, keepD (by decide) h3, keepD (by decide) h4, keepD (by decide) h5, keepD (by decide) h6, keepD (by decide) h7, keepD (by decide) h8, fun _ => ⟨Y_7, d_7, rfl, l_7⟩, keepD (by decide) h10, keepD (by decide) h11, keepD (by decide) h12, keepD (by decide) h13, keepD (by decide) h14, keepD (by decide) h15, (fun h => by have := hD13 (by simpa using h); simpa using this), (fun h => by have := hD14 (by simpa using h); simpa using this), (fun h k => hN11_12 (by simpa using h) (by simpa using k)), hB⟩
    · skip
      have d7 := hdep _ rfl ⟨7, .data⟩ (by simp) rfl
      obtain ⟨X_7, c_7, Y_7, d_7, rfl, k_7, l_7⟩ := h7 d7
      refine wpOp_step rfl (fun K' hK' => ?_)
      go_simp
      refine hK' _ _ ?_
      exact ⟨_, _, _, _, _, _, _, _, _, _, _, _, _, _, rfl, keepD (by decide) h0, keepD (by decide) h1, keepD (by decide) h2, keepD (by decide) h3, keepD (by decide) h4, keepD (by decide) h5, keepD (by decide) h6, keepD (by decide) h7, keepD (by decide) h8, keepD (by decide) h9, fun _ => rfl, keepD (by decide) h11, keepD (by decide) h12, keepD (by decide) h13, keepD (by decide) h14, keepD (by decide) h15, (fun h => by have := hD13 (by simpa using h); simpa using this), (fun h => by have := hD14 (by simpa using h); simpa using this), (fun h k => hN11_12 (by simpa using h) (by simpa using k)), hB⟩
    · skip
      have kb : Below w'.heap.size w' (w'.alloc (.cells #[.bool false, .slice none 0 0] 24)) := (Below.refl _ _).alloc (Nat.le_refl _) _
      refine wpOp_step rfl (fun K' hK' => ?_)
      go_simp
      refine hK' _ _ ?_
      exact ⟨_, _, _, _, _, _, _, _, _, _, _, _, _, _, rfl, keepD (by decide) h0, keepP (by decide) h1 (fun h => h.below kb), keepD (by decide) h2, keepD (by decide) h3, keepP (by decide) h4 (fun h => h.below kb), keepP (by decide) h5 (fun h => h.below kb), keepP (by decide) h6 (fun h => h.below kb), keepP (by decide) h7 (fun h => h.below kb), keepP (by decide) h8 (fun h => h.below kb), keepP (by decide) h9 (fun h => h.below kb), keepD (by decide) h10, fun _ => ⟨_, _, _, rfl, hB.size, ⟨at_new rfl⟩, notU_bool _, notU_slice _ _ _⟩, keepP (by decide) h12 (fun h => h.below kb), (fun h => by have h2 := hD13 (by simpa using h); rw [hEi] at h2; cases h2), keepP (by decide) h14 (fun h => h.below kb), keepD (by decide) h15, (fun _ => by simp), (fun h => by have := hD14 (by simpa using h); simpa using this), (fun _ h => by obtain ⟨n2, e2, l2⟩ := (h12 (by simpa using h)).lt; rw [e2]; intro e3; simp at e3 <;> omega), Below.cons hB kb⟩
    · skip
      have kb : Below w'.heap.size w' (w'.alloc (.cells #[.bool false, .slice none 0 0] 24)) := (Below.refl _ _).alloc (Nat.le_refl _) _
      refine wpOp_step rfl (fun K' hK' => ?_)
      go_simp
      refine hK' _ _ ?_
      exact ⟨_, _, _, _, _, _, _, _, _, _, _, _, _, _, rfl, keepD (by decide) h0, keepP (by decide) h1 (fun h => h.below kb), keepD (by decide) h2, keepD (by decide) h3, keepP (by decide) h4 (fun h => h.below kb), keepP (by decide) h5 (fun h => h.below kb), keepP (by decide) h6 (fun h => h.below kb), keepP (by decide) h7 (fun h => h.below kb), keepP (by decide) h8 (fun h => h.below kb), keepP (by decide) h9 (fun h => h.below kb), keepD (by decide) h10, keepP (by decide) h11 (fun h => h.below kb), fun _ => ⟨_, _, _, rfl, hB.size, ⟨at_new rfl⟩, notU_bool _, notU_slice _ _ _⟩, keepP (by decide) h13 (fun h => h.below kb), (fun h => by have h2 := hD14 (by simpa using h); rw [hEi] at h2; cases h2), keepD (by decide) h15, (fun h => by have := hD13 (by simpa using h); simpa using this), (fun _ => by simp), (fun h _ => by obtain ⟨n2, e2, l2⟩ := (h11 (by simpa using h)).lt; rw [e2]; intro e3; simp at e3 <;> omega), Below.cons hB kb⟩
    · skip
      have d11 := hdep _ rfl ⟨11, .data⟩ (by simp) rfl
      obtain ⟨nb, z0, z1, rfl, hn, hb, nz0, nz1⟩ := h11 d11
      have d8 := hdep _ rfl ⟨8, .data⟩ (by simp) rfl
      obtain ⟨X_8, c_8, rfl, k_8⟩ := h8 d8
      have fz0 := hb.f (i := 0)
      have cz0 := hb.c (i := 0) rfl
      have fz1 := hb.f (i := 1)
      have cz1 := hb.c (i := 1) rfl
      have hp := hb.put2 (notU2 nz0 nz1) (.bool (sg q)) (.slice X_8 (nl (mg q)) c_8)
      have hs := hb.store2 (.bool (sg q)) (.slice X_8 (nl (mg q)) c_8)
      refine wpOp_step rfl (fun K' hK' => ?_)
      go_simp
      refine hK' _ _ ?_
      exact ⟨_, _, _, _, _, _, _, _, _, _, _, _, _, _, rfl, keepD (by decide) h0, keepP (by decide) h1 (fun h => h.put hp), keepD (by decide) h2, keepD (by decide) h3, keepP (by decide) h4 (fun h => h.put hp), keepP (by decide) h5 (fun h => h.put hp), keepP (by decide) h6 (fun h => h.put hp), keepP (by decide) h7 (fun h => h.put hp), keepP (by decide) h8 (fun h => h.put hp), keepP (by decide) h9 (fun h => h.put hp), keepD (by decide) h10, (fun _ => ⟨nb, _, _, rfl, hn, hs, notU_bool _, notU_slice _ _ _⟩), keepP' (by decide) h12 (fun e h => h.put hp (fun e3 => hN11_12 d11 (by simpa using e) e3.symm)), fun _ => ⟨nb, X_8, c_8, rfl, hn, hs, hp.nat k_8⟩, keepP' (by decide) h14 (fun e h => h.put hp (fun e3 => hN11_12 d11 (hD14 (by simpa using e)) e3.symm)), keepD (by decide) h15, (fun _ => by simp [d11]), (fun h => by have := hD14 (by simpa using h); simpa using this), (fun h k => hN11_12 (by simpa using h) (by simpa using k)), Below.store2 hB hn⟩
    · skip
      have d12 := hdep _ rfl ⟨12, .data⟩ (by simp) rfl
      obtain ⟨nb, z0, z1, rfl, hn, hb, nz0, nz1⟩ := h12 d12
      have d9 := hdep _ rfl ⟨9, .data⟩ (by simp) rfl
      obtain ⟨X_9, c_9, rfl, k_9⟩ := h9 d9
      have fz0 := hb.f (i := 0)
      have cz0 := hb.c (i := 0) rfl
      have fz1 := hb.f (i := 1)
      have cz1 := hb.c (i := 1) rfl
      have hp := hb.put2 (notU2 nz0 nz1) (.bool (sg r)) (.slice X_9 (nl (mg r)) c_9)
      have hs := hb.store2 (.bool (sg r)) (.slice X_9 (nl (mg r)) c_9)
      refine wpOp_step rfl (fun K' hK' => ?_)
      go_simp
      refine hK' _ _ ?_
      exact ⟨_, _, _, _, _, _, _, _, _, _, _, _, _, _, rfl, keepD (by decide) h0, keepP (by decide) h1 (fun h => h.put hp), keepD (by decide) h2, keepD (by decide) h3, keepP (by decide) h4 (fun h => h.put hp), keepP (by decide) h5 (fun h => h.put hp), keepP (by decide) h6 (fun h => h.put hp), keepP (by decide) h7 (fun h => h.put hp), keepP (by decide) h8 (fun h => h.put hp), keepP (by decide) h9 (fun h => h.put hp), keepD (by decide) h10, keepP' (by decide) h11 (fun e h => h.put hp (hN11_12 (by simpa using e) d12)), (fun _ => ⟨nb, _, _, rfl, hn, hs, notU_bool _, notU_slice _ _ _⟩), keepP' (by decide) h13 (fun e h => h.put hp (hN11_12 (hD13 (by simpa using e)) d12)), fun _ => ⟨nb, X_9, c_9, rfl, hn, hs, hp.nat k_9⟩, keepD (by decide) h15, (fun h => by have := hD13 (by simpa using h); simpa using this), (fun _ => by simp [d12]), (fun h k => hN11_12 (by simpa using h) (by simpa using k)), Below.store2 hB hn⟩
    · skip
      have d10 := hdep _ rfl ⟨10, .data⟩ (by simp) rfl
      obtain rfl := h10 d10
      refine wpOp_step rfl (fun K' hK' => ?_)
      go_simp
      refine hK' _ _ ?_
      exact ⟨_, _, _, _, _, _, _, _, _, _, _, _, _, _, rfl, keepD (by decide) h0, keepD (by decide) h1, keepD (by decide) h2, keepD (by decide) h3, keepD (by decide) h4, keepD (by decide) h5, keepD (by decide) h6, keepD (by decide) h7, keepD (by decide) h8, keepD (by decide) h9, keepD (by decide) h10, keepD (by decide) h11, keepD (by decide) h12, keepD (by decide) h13, keepD (by decide) h14, fun _ => rfl, (fun h => by have := hD13 (by simpa using h); simpa using this), (fun h => by have := hD14 (by simpa using h); simpa using this), (fun h k => hN11_12 (by simpa using h) (by simpa using k)), hB⟩
  case fin =>
    rintro E a' w' ⟨u18, u19, u20, u21, u22, u23, u24, u17, u25, u26, u27, u5, u6, u7, rfl, h0, h1, h2, h3, h4, h5, h6, h7, h8, h9, h10, h11, h12, h13, h14, h15, hD13, hD14, hN11_12, hB⟩ hall
    obtain ⟨nbq, Xq, cq, rfl, hnq, Rq, hq⟩ := h13 (hall 13 (by simp))
    replace ha := ha.below hB
    replace Ra := Ra.below hB
    replace qa0 := cbl hB qa0
    replace qa1 := cbl hB qa1
    replace Rr := Rr.below hB
    replace qr0 := cbl hB qr0
    replace qr1 := cbl hB qr1
    replace HBT := Below.cons HBT hB
    have kvq := hnq
    have qq0 := Rq.c (i := 0) rfl
    have qq1 := Rq.c (i := 1) rfl
    have hz : w.heap.size + 2 = W0.heap.size := by rw [← hW0.out]; simp
    have fzr0 := Rr.f (i := 0)
    have fzr1 := Rr.f (i := 1)
    go_wp2_with (fail)
    have hzq : q = (shf a n) := by exact eqz.out
    subst hzq
    have RS := Rr.store2 (.bool (sg (((shf a n))))) (.slice Xq (nl (mg (((shf a n))))) cq)
    have e0 := RS.c (i := 0) rfl
    have e1 := RS.c (i := 1) rfl
    refine bodyPost_ret (v := .agg #[.bool (sg (((shf a n)))), .slice Xq (nl (mg (((shf a n))))) cq]) (by simp [results, Tryz.results143, go_sem, e0, e1]) rfl ?_
    exact ⟨Xq, cq, rfl, (Rr.keep2 (nuB rfl) hq), (Below.store2 HBT (by first | exact Nat.le_refl _ | omega))⟩
theorem zshift_c (aA : Option Addr) (ac : Nat) (a : Int) (n : Int) (w : World) (ha : NatV w aA ac (mg a)) (la : nl (mg a) ≤ 1048576) (ln : -16777216 ≤ n ∧ n ≤ 16777216) :
    Calls Tryz.prog 143 #[.agg #[.bool (sg a), .slice aA (nl (mg a)) ac], .int .i64 n] w (RetI w (shf a n)) := by
  by_cases h : 0 ≤ n
  · exact zshift_u aA ac a n w ha la h ln.2
  · exact zshift_d aA ac a n w ha la (by omega) ln.1
end Go.Proofs.YtpaffggdeedopaaGreatDoor

/- The document's greatest common divisor, walked. -/
set_option linter.unusedVariables false
set_option linter.unusedSimpArgs false
namespace Go.Proofs.YtpaffggdeedopaaGreatDoor
open Go.RowKit Go.Shelf
attribute [local go_sem] max2_i min2_i max_two min_two

theorem rgcd_c (aA : Option Addr) (ac a : Nat) (bA : Option Addr) (bc b : Nat) (w : World) (ha : NatV w aA ac a) (hb : NatV w bA bc b) (la : nl a ≤ 16777216) (lb : nl b ≤ 16777216) :
    Calls Tryz.prog 48 #[.slice aA (nl a) ac, .slice bA (nl b) bc] w (RetN w (Nat.gcd a b)) := by
  go_enter Tryz.func48, Tryz.ntmps48
  go_wp2_with (fail)
  go_loopw [0, 1] (fun va vb wr => ∃ (x y : Nat) (X : Option Addr) (cx : Nat) (Y : Option Addr) (cy : Nat), va = .slice X (nl x) cx ∧ vb = .slice Y (nl y) cy ∧ NatV wr X cx x ∧ NatV wr Y cy y ∧ Below w.heap.size w wr ∧ Hid (Nat.gcd x y = Nat.gcd a b) ∧ nl x ≤ 16777216 ∧ nl y ≤ 16777216) (fun va vb wr => natAt wr (some vb))
  case atStart => exact ⟨a, b, aA, ac, bA, bc, rfl, rfl, ha, hb, Below.refl _ _, Lib.hid rfl, la, lb⟩
  case round =>
    obtain ⟨x, y, X, cx, Y, cy, rfl, rfl, hX, hY, hbr, hg, lx, ly⟩ := hrel
    by_cases h0 : y = 0
    · have t1 : decide (0 < (nl y : Int)) = false := by rw [h0, nl_zero]; rfl
      have t2 : decide (0 < nl y) = false := by rw [h0, nl_zero]; rfl
      have ev : x = Nat.gcd a b := by rw [← hg.out, h0, Nat.gcd_zero_right]
      replace ev := Lib.hid ev
      replace h0 := Lib.hid h0
      go_wp2_with (fail)
      go_ret
      rw [← ev.out]
      exact ⟨X, cx, rfl, hX, hbr⟩
    · have t1 : decide (0 < (nl y : Int)) = true := by have := nl_pos.2 h0; simp; omega
      have t2 : decide (0 < nl y) = true := by have := nl_pos.2 h0; simp; omega
      have CD := rdiv_c X cx x Y cy y wr hX hY lx ly (by omega)
      obtain ⟨r, Er⟩ : ∃ z : Nat, z = x % y := ⟨_, rfl⟩
      rw [← Er] at CD
      have lr : nl r ≤ 16777216 := by rw [Er]; exact Nat.le_trans (nl_mod_le x y) lx
      have hr : r < y := by rw [Er]; exact Nat.mod_lt _ (by omega)
      have hg2 : Nat.gcd y r = Nat.gcd a b := by rw [Er, ← hg.out, Nat.gcd_comm x y, Nat.gcd_rec y x, Nat.gcd_comm]
      replace hg2 := Lib.hid hg2
      replace CD := Lib.hid CD
      replace Er := Lib.hid Er
      go_wp2_with (fail)
      refine CD.out.mono ?_
      rintro e w1 ⟨Q, cq, R, cr, rfl, hQ, hR, hb1⟩
      have hY1 := hY.below hb1
      have hmeas : natAt w1 (some (.slice R (nl r) cr)) < natAt wr (some (.slice Y (nl y) cy)) := by rw [hR.at_, hY.at_]; exact hr
      replace hmeas := Lib.hid hmeas
      go_wp2_with (fail)
      go_roundw
      case rel => exact ⟨y, r, Y, cy, R, cr, rfl, rfl, hY1, hR, hbr.cons hb1, hg2, ly, lr⟩
      case measure => exact hmeas.out
end Go.Proofs.YtpaffggdeedopaaGreatDoor

/- The document's rationals, walked: nat, Whole, Make, over, Sign, Neg. -/
set_option linter.unusedVariables false
set_option linter.unusedSimpArgs false
namespace Go.Proofs.YtpaffggdeedopaaGreatDoor
open Go.RowKit Go.Shelf
attribute [local go_sem] max2_i min2_i max_two min_two

def PIb (u : Value) (q : Int) (W : World) : Prop := ∃ X c, u = .tuple #[.agg #[.bool (sg q), .slice X (nl (mg q)) c], .bool true] ∧ NatV W X c (mg q)
theorem PIb.below {W W' : World} {u : Value} {q : Int} (h : PIb u q W) (hb : Below W.heap.size W W') : PIb u q W' := by
  obtain ⟨X, c, h1, h2⟩ := h; exact ⟨X, c, h1, h2.below hb⟩
theorem PIb.put {W W' : World} {u : Value} {q : Int} {k : Nat} (h : PIb u q W) (hp : Put W W' k) : PIb u q W' := by
  obtain ⟨X, c, h1, h2⟩ := h; exact ⟨X, c, h1, hp.nat h2⟩
theorem sg_natc (n : Nat) : sg (n : Int) = false := sg_f (Int.natCast_nonneg n)
theorem r9nat_c (aA : Option Addr) (ac a : Nat) (w : World) (ha : NatV w aA ac a)  :
    Calls Tryz.prog 79 #[.slice aA (nl a) ac] w (RetI w (a : Int)) := by
  obtain ⟨hb1, Rr⟩ := bx1 w #[.bool false, .slice aA (nl a) ac] 24
  replace ha := ha.below hb1
  have HBT := hb1
  clear hb1
  have qr0 := Rr.c (i := 0) rfl
  have qr1 := Rr.c (i := 1) rfl
  go_enter Tryz.func79, Tryz.ntmps79
  go_wp2_with (fail)
  have e0 := Rr.c (i := 0) rfl
  have e1 := Rr.c (i := 1) rfl
  refine bodyPost_ret (v := .agg #[.bool false, .slice aA (nl a) ac]) (by simp [results, Tryz.results79, go_sem, e0, e1]) rfl ?_
  exact ⟨aA, ac, by rw [sg_natc, mg_nat], by rw [mg_nat]; exact ha, HBT⟩
theorem r9whole_c (aA : Option Addr) (ac : Nat) (a : Int) (w : World) (ha : NatV w aA ac (mg a))  :
    Calls Tryz.prog 85 #[.agg #[.bool (sg a), .slice aA (nl (mg a)) ac]] w (RetR w (a : Rat)) := by
  go_enter Tryz.func85, Tryz.ntmps85
  go_wp2_with (fail)
  obtain ⟨hb1, Ra, Rr, Rl⟩ := bx3 w #[.bool (sg a), .slice aA (nl (mg a)) ac] 24 #[.bool (sg a), .slice aA (nl (mg a)) ac, .slice (some ⟨w.heap.size + 1 + 1, 0, none⟩) 1 1] 26 #[.int .u32 1] 72
  replace ha := ha.below hb1
  have HBT := hb1
  clear hb1
  have qa0 := Ra.c (i := 0) rfl
  have qa1 := Ra.c (i := 1) rfl
  have qr0 := Rr.c (i := 0) rfl
  have qr1 := Rr.c (i := 1) rfl
  have qr2 := Rr.c (i := 2) rfl
  have ql0 := Rl.c (i := 0) rfl
  have hone := nat_one _ _ Rl.at_
  refine bodyPost_ret (v := .agg #[.bool (sg a), .slice aA (nl (mg a)) ac, .slice (some ⟨w.heap.size + 1 + 1, 0, none⟩) 1 1]) (by simp [results, Tryz.results85, go_sem, qr0, qr1, qr2]) rfl ?_
  exact ⟨aA, ac, some ⟨w.heap.size + 1 + 1, 0, none⟩, 1, by rw [Rat.num_intCast, Rat.den_intCast, nl_one], by rw [Rat.num_intCast]; exact ha, by rw [Rat.den_intCast]; exact hone, HBT⟩
theorem r9make_c (aA : Option Addr) (ac : Nat) (a : Int) (bA : Option Addr) (bc : Nat) (b : Int) (w : World) (ha : NatV w aA ac (mg a)) (hb : NatV w bA bc (mg b)) (la : nl (mg a) ≤ 1048576) (lb : nl (mg b) ≤ 1048576) (hb0 : 0 < b) :
    Calls Tryz.prog 132 #[.agg #[.bool (sg a), .slice aA (nl (mg a)) ac], .agg #[.bool (sg b), .slice bA (nl (mg b)) bc]] w (RetRe w (Rat.divInt a b)) := by
  obtain ⟨p1, p2, p3, p4, p5, p6, p7⟩ := gcd_parts (n := a) hb0
  have hne : b ≠ 0 := by omega
  have sb : sg b = false := sg_f (by omega)
  have t0 : ((nl (mg b) : Int) == 0) = false := ieqF (by have := nl_pos.2 (show mg b ≠ 0 from fun e => hne (mg_zero.1 e)); omega)
  have t1 : (nl (mg b) == 0) = false := by have := nl_pos.2 (show mg b ≠ 0 from fun e => hne (mg_zero.1 e)); simp; omega
  obtain ⟨g, Eg⟩ : ∃ g, g = Nat.gcd (mg a) (mg b) := ⟨_, rfl⟩
  rw [← Eg] at p1 p2 p3 p4 p5 p6 p7
  have lg : nl g ≤ 1048576 := by rw [Eg]; exact Nat.le_trans (nl_mono (Nat.gcd_le_right _ (mg_pos.2 hne))) lb
  have hg0 : (g : Int) ≠ 0 := by omega
  have lg2 : nl (mg (g : Int)) ≤ 1048576 := by rw [mg_nat]; omega
  have bm : ((mg b : Nat) : Int) = b := by unfold mg; omega
  obtain ⟨v, Ev⟩ : ∃ z : Int, z = b / (g : Int) := ⟨_, rfl⟩
  have CX := fun (W : World) (A : Option Addr) (c : Nat) (G : Option Addr) (x : Nat) (h1 : NatV W A c (mg b)) (h2 : NatV W G x (mg (g : Int))) => zexact_c A c b G x (g : Int) W h1 h2 lb lg2 hg0 p2
  rw [← Ev] at CX
  have CN := fun (W : World) (h1 : NatV W bA bc (mg b)) => r9nat_c bA bc (mg b) W h1
  rw [bm] at CN
  replace p1 := Lib.hid p1
  replace p2 := Lib.hid p2
  replace p4 := Lib.hid p4
  replace p5 := Lib.hid p5
  replace p6 := Lib.hid p6
  replace p7 := Lib.hid p7
  replace hb0 := Lib.hid hb0
  replace Ev := Lib.hid Ev
  replace CX := Lib.hid CX
  replace CN := Lib.hid CN
  replace bm := Lib.hid bm
  obtain ⟨hb1, Ra, Rb, Rr⟩ := bx3 w #[.bool (sg a), .slice aA (nl (mg a)) ac] 24 #[.bool false, .slice bA (nl (mg b)) bc] 24 #[.bool false, .slice none 0 0, .slice none 0 0] 26
  replace ha := ha.below hb1
  replace hb := hb.below hb1
  have HBT := hb1
  clear hb1
  have qa0 := Ra.c (i := 0) rfl
  have qa1 := Ra.c (i := 1) rfl
  have qb0 := Rb.c (i := 0) rfl
  have qb1 := Rb.c (i := 1) rfl
  have qr0 := Rr.c (i := 0) rfl
  have qr1 := Rr.c (i := 1) rfl
  have qr2 := Rr.c (i := 2) rfl
  go_enter Tryz.func132, Tryz.ntmps132
  go_wp2_with (fail)
  have CC := rgcd_c aA ac (mg a) bA bc (mg b) (((w.alloc (.cells #[.bool (sg a), .slice aA (nl (mg a)) ac] 24)).alloc (.cells #[.bool false, .slice bA (nl (mg b)) bc] 24)).alloc (.cells #[.bool false, .slice none 0 0, .slice none 0 0] 26)) ha hb (by omega) (by omega)
  rw [← Eg] at CC
  replace CC := Lib.hid CC
  replace Eg := Lib.hid Eg
  refine (Calls.mono CC.out ?_)
  rintro e W2 ⟨Xg, cg, rfl, hg, hb2⟩
  replace ha := ha.below hb2
  replace hb := hb.below hb2
  replace Ra := Ra.below hb2
  replace qa0 := cbl hb2 qa0
  replace qa1 := cbl hb2 qa1
  replace Rb := Rb.below hb2
  replace qb0 := cbl hb2 qb0
  replace qb1 := cbl hb2 qb1
  replace Rr := Rr.below hb2
  replace qr0 := cbl hb2 qr0
  replace qr1 := cbl hb2 qr1
  replace qr2 := cbl hb2 qr2
  replace HBT := Below.cons HBT hb2
  clear hb2
  go_wp2_with (fail)
  obtain ⟨gi, Egi⟩ : ∃ zq : Int, zq = (g : Int) := ⟨_, rfl⟩
  refine (Calls.mono (R := RetI W2 gi) (by rw [Egi]; with_reducible exact (r9nat_c Xg cg g _ hg)) ?_)
  replace Egi := Lib.hid Egi
  rintro e W3 ⟨Xgi, cgi, rfl, hgi, hb3⟩
  replace ha := ha.below hb3
  replace hb := hb.below hb3
  replace Ra := Ra.below hb3
  replace qa0 := cbl hb3 qa0
  replace qa1 := cbl hb3 qa1
  replace Rb := Rb.below hb3
  replace qb0 := cbl hb3 qb0
  replace qb1 := cbl hb3 qb1
  replace Rr := Rr.below hb3
  replace qr0 := cbl hb3 qr0
  replace qr1 := cbl hb3 qr1
  replace qr2 := cbl hb3 qr2
  replace hg := hg.below hb3
  replace HBT := Below.cons HBT hb3
  clear hb3
  have hzgi : gi = (g : Int) := by exact Egi.out
  subst hzgi
  have szr := Rr.lt
  obtain ⟨hb4, Rg⟩ := bx1 W3 #[.bool (sg (((g : Int)))), .slice Xgi (nl (mg (((g : Int))))) cgi] 24
  replace ha := ha.below hb4
  replace hb := hb.below hb4
  replace Ra := Ra.below hb4
  replace qa0 := cbl hb4 qa0
  replace qa1 := cbl hb4 qa1
  replace Rb := Rb.below hb4
  replace qb0 := cbl hb4 qb0
  replace qb1 := cbl hb4 qb1
  replace Rr := Rr.below hb4
  replace qr0 := cbl hb4 qr0
  replace qr1 := cbl hb4 qr1
  replace qr2 := cbl hb4 qr2
  replace hg := hg.below hb4
  replace hgi := hgi.below hb4
  replace HBT := Below.cons HBT hb4
  clear hb4
  have qg0 := Rg.c (i := 0) rfl
  have qg1 := Rg.c (i := 1) rfl
  go_wp2_with (fail)
  obtain ⟨u, Eu⟩ : ∃ zq : Int, zq = a / (g : Int) := ⟨_, rfl⟩
  have CE := zexact_c aA ac a Xgi cgi (g : Int) (W3.alloc (.cells #[.bool (sg (((g : Int)))), .slice Xgi (nl (mg (((g : Int))))) cgi] 24)) ha hgi la lg2 hg0 p1.out
  rw [← Eu] at CE
  replace Eu := Lib.hid Eu
  replace CE := Lib.hid CE
  refine (Calls.mono CE.out ?_)
  clear CE
  rintro e W5 ⟨Xu, cu, rfl, hu, hb5⟩
  replace ha := ha.below hb5
  replace hb := hb.below hb5
  replace Ra := Ra.below hb5
  replace qa0 := cbl hb5 qa0
  replace qa1 := cbl hb5 qa1
  replace Rb := Rb.below hb5
  replace qb0 := cbl hb5 qb0
  replace qb1 := cbl hb5 qb1
  replace Rr := Rr.below hb5
  replace qr0 := cbl hb5 qr0
  replace qr1 := cbl hb5 qr1
  replace qr2 := cbl hb5 qr2
  replace hg := hg.below hb5
  replace hgi := hgi.below hb5
  replace Rg := Rg.below hb5
  replace qg0 := cbl hb5 qg0
  replace qg1 := cbl hb5 qg1
  replace HBT := Below.cons HBT hb5
  clear hb5
  have szg := Rg.lt
  obtain ⟨hb6, Ru⟩ := bx1 W5 #[.bool (sg u), .slice Xu (nl (mg u)) cu] 24
  replace ha := ha.below hb6
  replace hb := hb.below hb6
  replace Ra := Ra.below hb6
  replace qa0 := cbl hb6 qa0
  replace qa1 := cbl hb6 qa1
  replace Rb := Rb.below hb6
  replace qb0 := cbl hb6 qb0
  replace qb1 := cbl hb6 qb1
  replace Rr := Rr.below hb6
  replace qr0 := cbl hb6 qr0
  replace qr1 := cbl hb6 qr1
  replace qr2 := cbl hb6 qr2
  replace hg := hg.below hb6
  replace hgi := hgi.below hb6
  replace Rg := Rg.below hb6
  replace qg0 := cbl hb6 qg0
  replace qg1 := cbl hb6 qg1
  replace hu := hu.below hb6
  replace HBT := Below.cons HBT hb6
  clear hb6
  have qu0 := Ru.c (i := 0) rfl
  have qu1 := Ru.c (i := 1) rfl
  go_wp2_with (fail)
  clear t0 t1
  replace sb := Lib.hid sb
  have szu := Ru.lt
  generalize hW0 : (W5.alloc (.cells #[.bool (sg u), .slice Xu (nl (mg u)) cu] 24)) = W0 at *
  replace hW0 := Lib.hid hW0
  refine wp_region_inv (fun E a' w' => ∃ (u29 u30 u31 u32 u33 u28 u34 u35 u9 u10 : Value),
    a' = { tmps := #[.agg #[.bool (sg a), .slice aA (nl (mg a)) ac], .agg #[.bool false, .slice bA (nl (mg b)) bc], .pointer (some ⟨w.heap.size, 0, none⟩), .pointer (some ⟨(w.heap.size + 1), 0, none⟩), .pointer (some ⟨(w.heap.size + 1 + 1), 0, none⟩), .int .i64 0, .pointer (some ⟨W3.heap.size, 0, none⟩), .pointer (some ⟨W5.heap.size, 0, none⟩), .bool true, u9, u10, .pointer (some ⟨(w.heap.size + 1), 1, none⟩), .slice bA (nl (mg b)) bc, .int .i64 (nl (mg b)), .bool false, undef, .pointer (some ⟨w.heap.size, 1, none⟩), .slice aA (nl (mg a)) ac, .pointer (some ⟨(w.heap.size + 1), 1, none⟩), .slice bA (nl (mg b)) bc, .slice Xg (nl g) cg, .agg #[.bool (sg (((g : Int)))), .slice Xgi (nl (mg (((g : Int))))) cgi], .tuple #[.agg #[.bool (sg u), .slice Xu (nl (mg u)) cu], .bool true], .agg #[.bool (sg a), .slice aA (nl (mg a)) ac], .agg #[.bool (sg (((g : Int)))), .slice Xgi (nl (mg (((g : Int))))) cgi], .tuple #[.agg #[.bool (sg u), .slice Xu (nl (mg u)) cu], .bool true], .agg #[.bool (sg u), .slice Xu (nl (mg u)) cu], .bool true, u28, u29, u30, u31, u32, u33, u34, u35, undef, undef, undef, undef, undef, undef, undef, undef], defers := [] } ∧
    (E 0 = true → u29 = .pointer (some ⟨(w.heap.size + 1), 1, none⟩)) ∧
    (E 1 = true → u30 = .slice bA (nl (mg b)) bc) ∧
    (E 2 = true → PI u31 b w') ∧
    (E 3 = true → u32 = .agg #[.bool (sg (((g : Int)))), .slice Xgi (nl (mg (((g : Int))))) cgi]) ∧
    (E 4 = true → PIb u33 v w') ∧
    (E 5 = true → PIb u28 v w') ∧
    (E 6 = true → PI u34 v w') ∧
    (E 7 = true → u35 = .bool true) ∧
    (E 8 = true → PB2 24 W0.heap.size u9 w') ∧
    (E 9 = true → PBI W0.heap.size u9 v w') ∧
    (E 10 = true → u10 = .bool true) ∧
    (E 9 = true → E 8 = true) ∧
    Below W0.heap.size W0 w') (by kernel_rfl) (by kernel_rfl) ?init ?fin ?step
  case init => exact ⟨_, _, _, _, _, _, _, _, _, _, rfl, by simp, by simp, by simp, by simp, by simp, by simp, by simp, by simp, by simp, by simp, by simp, by simp, (Below.refl _ _).drew⟩
  case step =>
    rintro E a' w' i ⟨u29, u30, u31, u32, u33, u28, u34, u35, u9, u10, rfl, h0, h1, h2, h3, h4, h5, h6, h7, h8, h9, h10, hD9, hB⟩ hi hEi hdep
    have qb1 := cbl hB qb1
    have qg0 := cbl hB qg0
    have qg1 := cbl hB qg1
    obtain rfl | rfl | rfl | rfl | rfl | rfl | rfl | rfl | rfl | rfl | rfl : i = 0 ∨ i = 1 ∨ i = 2 ∨ i = 3 ∨ i = 4 ∨ i = 5 ∨ i = 6 ∨ i = 7 ∨ i = 8 ∨ i = 9 ∨ i = 10 := by simp at hi; omega
    · skip
      refine wpOp_step rfl (fun K' hK' => ?_)
      go_simp
      refine hK' _ _ ?_
      exact ⟨_, _, _, _, _, _, _, _, _, _, rfl, fun _ => rfl, keepD (by decide) h1, keepD (by decide) h2, keepD (by decide) h3, keepD (by decide) h4, keepD (by decide) h5, keepD (by decide) h6, keepD (by decide) h7, keepD (by decide) h8, keepD (by decide) h9, keepD (by decide) h10, (fun h => by have := hD9 (by simpa using h); simpa using this), hB⟩
    · skip
      have d0 := hdep _ rfl ⟨0, .data⟩ (by simp) rfl
      obtain rfl := h0 d0
      refine wpOp_step rfl (fun K' hK' => ?_)
      go_simp
      refine hK' _ _ ?_
      exact ⟨_, _, _, _, _, _, _, _, _, _, rfl, keepD (by decide) h0, fun _ => rfl, keepD (by decide) h2, keepD (by decide) h3, keepD (by decide) h4, keepD (by decide) h5, keepD (by decide) h6, keepD (by decide) h7, keepD (by decide) h8, keepD (by decide) h9, keepD (by decide) h10, (fun h => by have := hD9 (by simpa using h); simpa using this), hB⟩
    · skip
      have d1 := hdep _ rfl ⟨1, .data⟩ (by simp) rfl
      obtain rfl := h1 d1
      refine wpOp_step rfl (fun K' hK' => ?_)
      go_simp
      refine (Calls.mono (CN.out w' (hb.below hB)) ?_)
      rintro e W1 ⟨Xr, cr, rfl, kr, kb⟩
      refine hK' _ _ ?_
      exact ⟨_, _, _, _, _, _, _, _, _, _, rfl, keepD (by decide) h0, keepD (by decide) h1, fun _ => ⟨Xr, cr, rfl, kr⟩, keepD (by decide) h3, keepP (by decide) h4 (fun h => h.below kb), keepP (by decide) h5 (fun h => h.below kb), keepP (by decide) h6 (fun h => h.below kb), keepD (by decide) h7, keepP (by decide) h8 (fun h => h.below kb), keepP (by decide) h9 (fun h => h.below kb), keepD (by decide) h10, (fun h => by have := hD9 (by simpa using h); simpa using this), Below.cons hB kb⟩
    · skip
      refine wpOp_step rfl (fun K' hK' => ?_)
      go_simp
      refine hK' _ _ ?_
      exact ⟨_, _, _, _, _, _, _, _, _, _, rfl, keepD (by decide) h0, keepD (by decide) h1, keepD (by decide) h2, fun _ => rfl, keepD (by decide) h4, keepD (by decide) h5, keepD (by decide) h6, keepD (by decide) h7, keepD (by decide) h8, keepD (by decide) h9, keepD (by decide) h10, (fun h => by have := hD9 (by simpa using h); simpa using this), hB⟩
    · skip
      have d2 := hdep _ rfl ⟨2, .data⟩ (by simp) rfl
      obtain ⟨X_2, c_2, rfl, k_2⟩ := h2 d2
      have d3 := hdep _ rfl ⟨3, .data⟩ (by simp) rfl
      obtain rfl := h3 d3
      refine wpOp_step rfl (fun K' hK' => ?_)
      go_simp
      refine (Calls.mono (CX.out w' X_2 c_2 Xgi cgi k_2 (hgi.below hB)) ?_)
      rintro e W1 ⟨Xr, cr, rfl, kr, kb⟩
      refine hK' _ _ ?_
      exact ⟨_, _, _, _, _, _, _, _, _, _, rfl, keepD (by decide) h0, keepD (by decide) h1, keepP (by decide) h2 (fun h => h.below kb), keepD (by decide) h3, fun _ => ⟨Xr, cr, rfl, kr⟩, keepP (by decide) h5 (fun h => h.below kb), keepP (by decide) h6 (fun h => h.below kb), keepD (by decide) h7, keepP (by decide) h8 (fun h => h.below kb), keepP (by decide) h9 (fun h => h.below kb), keepD (by decide) h10, (fun h => by have := hD9 (by simpa using h); simpa using this), Below.cons hB kb⟩
    · skip
      have d4 := hdep _ rfl ⟨4, .data⟩ (by simp) rfl
      obtain ⟨X_4, c_4, rfl, k_4⟩ := h4 d4
      refine wpOp_step rfl (fun K' hK' => ?_)
      go_simp
      refine hK' _ _ ?_
      exact ⟨_, _, _, _, _, _, _, _, _, _, rfl, keepD (by decide) h0, keepD (by decide) h1, keepD (by decide) h2, keepD (by decide) h3, keepD (by decide) h4, fun _ => ⟨X_4, c_4, rfl, k_4⟩, keepD (by decide) h6, keepD (by decide) h7, keepD (by decide) h8, keepD (by decide) h9, keepD (by decide) h10, (fun h => by have := hD9 (by simpa using h); simpa using this), hB⟩
    · skip
      have d5 := hdep _ rfl ⟨5, .data⟩ (by simp) rfl
      obtain ⟨X_5, c_5, rfl, k_5⟩ := h5 d5
      refine wpOp_step rfl (fun K' hK' => ?_)
      go_simp
      refine hK' _ _ ?_
      exact ⟨_, _, _, _, _, _, _, _, _, _, rfl, keepD (by decide) h0, keepD (by decide) h1, keepD (by decide) h2, keepD (by decide) h3, keepD (by decide) h4, keepD (by decide) h5, fun _ => ⟨X_5, c_5, rfl, k_5⟩, keepD (by decide) h7, keepD (by decide) h8, keepD (by decide) h9, keepD (by decide) h10, (fun h => by have := hD9 (by simpa using h); simpa using this), hB⟩
    · skip
      have d5 := hdep _ rfl ⟨5, .data⟩ (by simp) rfl
      obtain ⟨X_5, c_5, rfl, k_5⟩ := h5 d5
      refine wpOp_step rfl (fun K' hK' => ?_)
      go_simp
      refine hK' _ _ ?_
      exact ⟨_, _, _, _, _, _, _, _, _, _, rfl, keepD (by decide) h0, keepD (by decide) h1, keepD (by decide) h2, keepD (by decide) h3, keepD (by decide) h4, keepD (by decide) h5, keepD (by decide) h6, fun _ => rfl, keepD (by decide) h8, keepD (by decide) h9, keepD (by decide) h10, (fun h => by have := hD9 (by simpa using h); simpa using this), hB⟩
    · skip
      have kb : Below w'.heap.size w' (w'.alloc (.cells #[.bool false, .slice none 0 0] 24)) := (Below.refl _ _).alloc (Nat.le_refl _) _
      refine wpOp_step rfl (fun K' hK' => ?_)
      go_simp
      refine hK' _ _ ?_
      exact ⟨_, _, _, _, _, _, _, _, _, _, rfl, keepD (by decide) h0, keepD (by decide) h1, keepP (by decide) h2 (fun h => h.below kb), keepD (by decide) h3, keepP (by decide) h4 (fun h => h.below kb), keepP (by decide) h5 (fun h => h.below kb), keepP (by decide) h6 (fun h => h.below kb), keepD (by decide) h7, fun _ => ⟨_, _, _, rfl, hB.size, ⟨at_new rfl⟩, notU_bool _, notU_slice _ _ _⟩, (fun h => by have h2 := hD9 (by simpa using h); rw [hEi] at h2; cases h2), keepD (by decide) h10, (fun _ => by simp), Below.cons hB kb⟩
    · skip
      have d8 := hdep _ rfl ⟨8, .data⟩ (by simp) rfl
      obtain ⟨nb, z0, z1, rfl, hn, hb, nz0, nz1⟩ := h8 d8
      have d6 := hdep _ rfl ⟨6, .data⟩ (by simp) rfl
      obtain ⟨X_6, c_6, rfl, k_6⟩ := h6 d6
      have fz0 := hb.f (i := 0)
      have cz0 := hb.c (i := 0) rfl
      have fz1 := hb.f (i := 1)
      have cz1 := hb.c (i := 1) rfl
      have hp := hb.put2 (notU2 nz0 nz1) (.bool (sg v)) (.slice X_6 (nl (mg v)) c_6)
      have hs := hb.store2 (.bool (sg v)) (.slice X_6 (nl (mg v)) c_6)
      refine wpOp_step rfl (fun K' hK' => ?_)
      go_simp
      refine hK' _ _ ?_
      exact ⟨_, _, _, _, _, _, _, _, _, _, rfl, keepD (by decide) h0, keepD (by decide) h1, keepP (by decide) h2 (fun h => h.put hp), keepD (by decide) h3, keepP (by decide) h4 (fun h => h.put hp), keepP (by decide) h5 (fun h => h.put hp), keepP (by decide) h6 (fun h => h.put hp), keepD (by decide) h7, (fun _ => ⟨nb, _, _, rfl, hn, hs, notU_bool _, notU_slice _ _ _⟩), fun _ => ⟨nb, X_6, c_6, rfl, hn, hs, hp.nat k_6⟩, keepD (by decide) h10, (fun _ => by simp [d8]), Below.store2 hB hn⟩
    · skip
      have d7 := hdep _ rfl ⟨7, .data⟩ (by simp) rfl
      obtain rfl := h7 d7
      refine wpOp_step rfl (fun K' hK' => ?_)
      go_simp
      refine hK' _ _ ?_
      exact ⟨_, _, _, _, _, _, _, _, _, _, rfl, keepD (by decide) h0, keepD (by decide) h1, keepD (by decide) h2, keepD (by decide) h3, keepD (by decide) h4, keepD (by decide) h5, keepD (by decide) h6, keepD (by decide) h7, keepD (by decide) h8, keepD (by decide) h9, fun _ => rfl, (fun h => by have := hD9 (by simpa using h); simpa using this), hB⟩
  case fin =>
    rintro E a' w' ⟨u29, u30, u31, u32, u33, u28, u34, u35, u9, u10, rfl, h0, h1, h2, h3, h4, h5, h6, h7, h8, h9, h10, hD9, hB⟩ hall
    obtain ⟨nbv, Xv, cv, rfl, hnv, Rv, hv⟩ := h9 (hall 9 (by simp))
    replace ha := ha.below hB
    replace hb := hb.below hB
    replace Ra := Ra.below hB
    replace qa0 := cbl hB qa0
    replace qa1 := cbl hB qa1
    replace Rb := Rb.below hB
    replace qb0 := cbl hB qb0
    replace qb1 := cbl hB qb1
    replace Rr := Rr.below hB
    replace qr0 := cbl hB qr0
    replace qr1 := cbl hB qr1
    replace qr2 := cbl hB qr2
    replace hg := hg.below hB
    replace hgi := hgi.below hB
    replace Rg := Rg.below hB
    replace qg0 := cbl hB qg0
    replace qg1 := cbl hB qg1
    replace hu := hu.below hB
    replace Ru := Ru.below hB
    replace qu0 := cbl hB qu0
    replace qu1 := cbl hB qu1
    replace HBT := Below.cons HBT hB
    have kvv := hnv
    have qv0 := Rv.c (i := 0) rfl
    have qv1 := Rv.c (i := 1) rfl
    have fzr0 := Rr.f (i := 0)
    have fzr1 := Rr.f (i := 1)
    have fzr2 := Rr.f (i := 2)
    go_wp2_with (fail)
    have hnum : u = (Rat.divInt a b).num := by rw [Eu.out]; exact p4.out.symm
    have hden : mg v = (Rat.divInt a b).den := by rw [Ev.out]; exact p6.out.symm
    have RS := Rr.store3 (.bool (sg u)) (.slice Xu (nl (mg u)) cu) (.slice Xv (nl (mg v)) cv)
    have e0 := RS.c (i := 0) rfl
    have e1 := RS.c (i := 1) rfl
    have e2 := RS.c (i := 2) rfl
    refine bodyPost_ret (v := .tuple #[.agg #[.bool (sg u), .slice Xu (nl (mg u)) cu, .slice Xv (nl (mg v)) cv], .int .i64 0]) (by simp [results, Tryz.results132, go_sem, e0, e1, e2]) rfl ?_
    exact ⟨Xu, cu, Xv, cv, by rw [← hnum, ← hden], by rw [← hnum]; exact Rr.keep3 (nuB rfl) hu, by rw [← hden]; exact Rr.keep3 (nuB rfl) hv, Below.store3 HBT (by omega)⟩
theorem r9over_c (aA : Option Addr) (ac : Nat) (a : Int) (bA : Option Addr) (bc : Nat) (b : Int) (w : World) (ha : NatV w aA ac (mg a)) (hb : NatV w bA bc (mg b)) (la : nl (mg a) ≤ 1048576) (lb : nl (mg b) ≤ 1048576) (hb0 : 0 < b) :
    Calls Tryz.prog 78 #[.agg #[.bool (sg a), .slice aA (nl (mg a)) ac], .agg #[.bool (sg b), .slice bA (nl (mg b)) bc]] w (RetR w (Rat.divInt a b)) := by
  obtain ⟨hb1, Ra, Rb, Rr⟩ := bx3 w #[.bool (sg a), .slice aA (nl (mg a)) ac] 24 #[.bool (sg b), .slice bA (nl (mg b)) bc] 24 #[.bool false, .slice none 0 0, .slice none 0 0] 26
  replace ha := ha.below hb1
  replace hb := hb.below hb1
  have HBT := hb1
  clear hb1
  have qa0 := Ra.c (i := 0) rfl
  have qa1 := Ra.c (i := 1) rfl
  have qb0 := Rb.c (i := 0) rfl
  have qb1 := Rb.c (i := 1) rfl
  have qr0 := Rr.c (i := 0) rfl
  have qr1 := Rr.c (i := 1) rfl
  have qr2 := Rr.c (i := 2) rfl
  go_enter Tryz.func78, Tryz.ntmps78
  go_wp2_with (fail)
  obtain ⟨q, Eq⟩ : ∃ z : Rat, z = Rat.divInt a b := ⟨_, rfl⟩
  have CM := r9make_c aA ac a bA bc b (((w.alloc (.cells #[.bool (sg a), .slice aA (nl (mg a)) ac] 24)).alloc (.cells #[.bool (sg b), .slice bA (nl (mg b)) bc] 24)).alloc (.cells #[.bool false, .slice none 0 0, .slice none 0 0] 26)) ha hb la lb hb0
  rw [← Eq] at CM
  replace CM := Lib.hid CM
  replace Eq := Lib.hid Eq
  refine (Calls.mono CM.out ?_)
  clear CM
  rintro e W2 ⟨Xq, cq, Yq, dq, rfl, hq, gq, hb2⟩
  replace ha := ha.below hb2
  replace hb := hb.below hb2
  replace Ra := Ra.below hb2
  replace qa0 := cbl hb2 qa0
  replace qa1 := cbl hb2 qa1
  replace Rb := Rb.below hb2
  replace qb0 := cbl hb2 qb0
  replace qb1 := cbl hb2 qb1
  replace Rr := Rr.below hb2
  replace qr0 := cbl hb2 qr0
  replace qr1 := cbl hb2 qr1
  replace qr2 := cbl hb2 qr2
  replace HBT := Below.cons HBT hb2
  clear hb2
  obtain ⟨hb3, Rq⟩ := bx1 W2 #[.bool (sg q.num), .slice Xq (nl (mg q.num)) cq, .slice Yq (nl q.den) dq] 26
  replace ha := ha.below hb3
  replace hb := hb.below hb3
  replace Ra := Ra.below hb3
  replace qa0 := cbl hb3 qa0
  replace qa1 := cbl hb3 qa1
  replace Rb := Rb.below hb3
  replace qb0 := cbl hb3 qb0
  replace qb1 := cbl hb3 qb1
  replace Rr := Rr.below hb3
  replace qr0 := cbl hb3 qr0
  replace qr1 := cbl hb3 qr1
  replace qr2 := cbl hb3 qr2
  replace hq := hq.below hb3
  replace gq := gq.below hb3
  replace HBT := Below.cons HBT hb3
  clear hb3
  have qq0 := Rq.c (i := 0) rfl
  have qq1 := Rq.c (i := 1) rfl
  have qq2 := Rq.c (i := 2) rfl
  have fzr0 := Rr.f (i := 0)
  have fzr1 := Rr.f (i := 1)
  have fzr2 := Rr.f (i := 2)
  go_wp2_with (fail)
  have hzq : q = (Rat.divInt a b) := by exact Eq.out
  subst hzq
  have RS := Rr.store3 (.bool (sg (((Rat.divInt a b))).num)) (.slice Xq (nl (mg (((Rat.divInt a b))).num)) cq) (.slice Yq (nl (((Rat.divInt a b))).den) dq)
  have e0 := RS.c (i := 0) rfl
  have e1 := RS.c (i := 1) rfl
  have e2 := RS.c (i := 2) rfl
  refine bodyPost_ret (v := .agg #[.bool (sg (((Rat.divInt a b))).num), .slice Xq (nl (mg (((Rat.divInt a b))).num)) cq, .slice Yq (nl (((Rat.divInt a b))).den) dq]) (by simp [results, Tryz.results78, go_sem, e0, e1, e2]) rfl ?_
  exact ⟨Xq, cq, Yq, dq, rfl, (Rr.keep3 (nuB rfl) hq), (Rr.keep3 (nuB rfl) gq), (Below.store3 HBT (by first | exact Nat.le_refl _ | omega))⟩
theorem r9sign_c (aA : Option Addr) (ac : Nat) (aB : Option Addr) (ad : Nat) (a : Rat) (w : World) (ha : NatV w aA ac (mg a.num)) (ga : NatV w aB ad a.den) (la : nl (mg a.num) ≤ 1073741824) :
    Calls Tryz.prog 20 #[.agg #[.bool (sg a.num), .slice aA (nl (mg a.num)) ac, .slice aB (nl a.den) ad]] w (fun e w' => e = .returned (.int .i64 a.num.sign) ∧ Below w.heap.size w w') := by
  obtain ⟨hb1, Ra⟩ := bx1 w #[.bool (sg a.num), .slice aA (nl (mg a.num)) ac, .slice aB (nl a.den) ad] 26
  replace ha := ha.below hb1
  replace ga := ga.below hb1
  have HBT := hb1
  clear hb1
  have qa0 := Ra.c (i := 0) rfl
  have qa1 := Ra.c (i := 1) rfl
  have qa2 := Ra.c (i := 2) rfl
  go_enter Tryz.func20, Tryz.ntmps20
  go_wp2_with (fail)
  refine (Calls.mono (zsign_c aA ac a.num _ ha la) ?_)
  rintro e W2 ⟨rfl, hb2⟩
  replace ha := ha.below hb2
  replace ga := ga.below hb2
  replace Ra := Ra.below hb2
  replace qa0 := cbl hb2 qa0
  replace qa1 := cbl hb2 qa1
  replace qa2 := cbl hb2 qa2
  replace HBT := Below.cons HBT hb2
  clear hb2
  go_wp2_with (fail)
  go_ret
  exact ⟨rfl, HBT⟩
theorem r9neg_c (aA : Option Addr) (ac : Nat) (aB : Option Addr) (ad : Nat) (a : Rat) (w : World) (ha : NatV w aA ac (mg a.num)) (ga : NatV w aB ad a.den) (la : nl (mg a.num) ≤ 1073741824) :
    Calls Tryz.prog 21 #[.agg #[.bool (sg a.num), .slice aA (nl (mg a.num)) ac, .slice aB (nl a.den) ad]] w (RetR w (-a)) := by
  have e1 : (-a).num = -a.num := Rat.neg_num a
  have e2 : (-a).den = a.den := Rat.neg_den a
  replace e1 := Lib.hid e1
  replace e2 := Lib.hid e2
  obtain ⟨hb1, Ra, Rr⟩ := bx2 w #[.bool (sg a.num), .slice aA (nl (mg a.num)) ac, .slice aB (nl a.den) ad] 26 #[.bool false, .slice none 0 0, .slice none 0 0] 26
  replace ha := ha.below hb1
  replace ga := ga.below hb1
  have HBT := hb1
  clear hb1
  have qa0 := Ra.c (i := 0) rfl
  have qa1 := Ra.c (i := 1) rfl
  have qa2 := Ra.c (i := 2) rfl
  have qr0 := Rr.c (i := 0) rfl
  have qr1 := Rr.c (i := 1) rfl
  have qr2 := Rr.c (i := 2) rfl
  go_enter Tryz.func21, Tryz.ntmps21
  go_wp2_with (fail)
  have hd2 := drb (((w.alloc (.cells #[.bool (sg a.num), .slice aA (nl (mg a.num)) ac, .slice aB (nl a.den) ad] 26)).alloc (.cells #[.bool false, .slice none 0 0, .slice none 0 0] 26)))
  replace ha := ha.below hd2
  replace ga := ga.below hd2
  replace Ra := Ra.below hd2
  replace qa0 := cbl hd2 qa0
  replace qa1 := cbl hd2 qa1
  replace qa2 := cbl hd2 qa2
  replace Rr := Rr.below hd2
  replace qr0 := cbl hd2 qr0
  replace qr1 := cbl hd2 qr1
  replace qr2 := cbl hd2 qr2
  replace HBT := Below.cons HBT hd2
  clear hd2
  obtain ⟨z, Ez⟩ : ∃ zq : Int, zq = -a.num := ⟨_, rfl⟩
  have C2_0 := fun (W : World) (h1 : NatV W aA ac (mg a.num)) => zneg_c aA ac a.num W h1 la
  simp only [← Ez] at C2_0
  replace Ez := Lib.hid Ez
  replace C2_0 := Lib.hid C2_0
  go_region_held3 (fun W => W.cell? ⟨w.heap.size, 0, none⟩ = some (.bool (sg a.num)) ∧ W.cell? ⟨w.heap.size, 1, none⟩ = some (.slice aA (nl (mg a.num)) ac) ∧ W.cell? ⟨w.heap.size, 2, none⟩ = some (.slice aB (nl a.den) ad))
    (first
      | exact ⟨qa0, qa1, qa2⟩
      | exact ⟨qa0_3, qa1_3, qa2_3⟩
      | exact ⟨((Ra_3.other3 (by simp <;> omega)).c (i := 0) rfl), ((Ra_3.other3 (by simp <;> omega)).c (i := 1) rfl), ((Ra_3.other3 (by simp <;> omega)).c (i := 2) rfl)⟩
      | go_keep)
    (first
      | (go_at_call 89; (with_reducible refine (C2_0.out _ ha).mono ?_); rintro e W3 ⟨Xz, cz, rfl, hz, hb3⟩; have ha_3 := ha.below hb3; have ga_3 := ga.below hb3; have Ra_3 := Ra.below hb3; have qa0_3 := cbl hb3 qa0; have qa1_3 := cbl hb3 qa1; have qa2_3 := cbl hb3 qa2; have Rr_3 := Rr.below hb3; have qr0_3 := cbl hb3 qr0; have qr1_3 := cbl hb3 qr1; have qr2_3 := cbl hb3 qr2; have HBT_3 := Below.cons HBT hb3; have fz0 := Rr_3.f (i := 0); have fz1 := Rr_3.f (i := 1); have fz2 := Rr_3.f (i := 2)))
  all_goals (try go_wp2_with (fail))
  have RS := Rr_3.store3 (.bool (sg z)) (.slice Xz (nl (mg z)) cz) (.slice aB (nl a.den) ad)
  have g0 := RS.c (i := 0) rfl
  have g1 := RS.c (i := 1) rfl
  have g2 := RS.c (i := 2) rfl
  refine bodyPost_ret (v := .agg #[.bool (sg z), .slice Xz (nl (mg z)) cz, .slice aB (nl a.den) ad]) (by simp [results, Tryz.results21, go_sem, g0, g1, g2]) rfl ?_
  have ez : z = (-a).num := by rw [Ez.out, e1.out]
  exact ⟨Xz, cz, aB, ad, by rw [← ez, e2.out], by rw [← ez]; exact Rr_3.keep3 (nuB rfl) hz, by rw [e2.out]; exact Rr_3.keep3 (nuB rfl) ga_3, Below.store3 HBT_3 (by omega)⟩
end Go.Proofs.YtpaffggdeedopaaGreatDoor

/- The document's rationals, walked: Mul, Add, Cmp. -/
set_option linter.unusedVariables false
set_option linter.unusedSimpArgs false
namespace Go.Proofs.YtpaffggdeedopaaGreatDoor
open Go.RowKit Go.Shelf
attribute [local go_sem] max2_i min2_i max_two min_two

theorem divInt_add (a b : Rat) : Rat.divInt (a.num * (b.den : Int) + b.num * (a.den : Int)) ((a.den : Int) * (b.den : Int)) = a + b := by
  rw [Rat.add_def', ← Int.natCast_mul, Rat.divInt_ofNat]
theorem divInt_mul (a b : Rat) : Rat.divInt (a.num * b.num) ((a.den : Int) * (b.den : Int)) = a * b := by
  rw [Rat.mul_def', ← Int.natCast_mul, Rat.divInt_ofNat]
theorem add_nl {x y : Int} (hx : nl (mg x) ≤ 524288) (hy : nl (mg y) ≤ 524288) : nl (mg (x + y)) ≤ 524289 := by
  have h1 : mg (x + y) ≤ mg x + mg y := Int.natAbs_add_le x y
  have h2 := nl_add (mg x) (mg y)
  have h3 := nl_mono h1
  omega
theorem rcmp_icmp (a b : Rat) : icmp (a.num * (b.den : Int)) (b.num * (a.den : Int)) = rcmp a b := by
  unfold icmp rcmp
  simp only [Rat.lt_iff]
theorem r9mul_c (aA : Option Addr) (ac : Nat) (aB : Option Addr) (ad : Nat) (a : Rat) (bA : Option Addr) (bc : Nat) (bB : Option Addr) (bd : Nat) (b : Rat) (w : World) (ha : NatV w aA ac (mg a.num)) (ga : NatV w aB ad a.den) (hb : NatV w bA bc (mg b.num)) (gb : NatV w bB bd b.den) (la : nl (mg a.num) ≤ 262144) (ma : nl a.den ≤ 262144) (lb : nl (mg b.num) ≤ 262144) (mb : nl b.den ≤ 262144) :
    Calls Tryz.prog 84 #[.agg #[.bool (sg a.num), .slice aA (nl (mg a.num)) ac, .slice aB (nl a.den) ad], .agg #[.bool (sg b.num), .slice bA (nl (mg b.num)) bc, .slice bB (nl b.den) bd]] w (RetR w (a * b)) := by
  have hd := divInt_mul a b
  replace hd := Lib.hid hd
  obtain ⟨hb1, Ra, Rb, Rr⟩ := bx3 w #[.bool (sg a.num), .slice aA (nl (mg a.num)) ac, .slice aB (nl a.den) ad] 26 #[.bool (sg b.num), .slice bA (nl (mg b.num)) bc, .slice bB (nl b.den) bd] 26 #[.bool false, .slice none 0 0, .slice none 0 0] 26
  replace ha := ha.below hb1
  replace ga := ga.below hb1
  replace hb := hb.below hb1
  replace gb := gb.below hb1
  have HBT := hb1
  clear hb1
  have qa0 := Ra.c (i := 0) rfl
  have qa1 := Ra.c (i := 1) rfl
  have qa2 := Ra.c (i := 2) rfl
  have qb0 := Rb.c (i := 0) rfl
  have qb1 := Rb.c (i := 1) rfl
  have qb2 := Rb.c (i := 2) rfl
  have qr0 := Rr.c (i := 0) rfl
  have qr1 := Rr.c (i := 1) rfl
  have qr2 := Rr.c (i := 2) rfl
  go_enter Tryz.func84, Tryz.ntmps84
  go_wp2_with (fail)
  have hd2 := drb ((((w.alloc (.cells #[.bool (sg a.num), .slice aA (nl (mg a.num)) ac, .slice aB (nl a.den) ad] 26)).alloc (.cells #[.bool (sg b.num), .slice bA (nl (mg b.num)) bc, .slice bB (nl b.den) bd] 26)).alloc (.cells #[.bool false, .slice none 0 0, .slice none 0 0] 26)))
  replace ha := ha.below hd2
  replace ga := ga.below hd2
  replace hb := hb.below hd2
  replace gb := gb.below hd2
  replace Ra := Ra.below hd2
  replace qa0 := cbl hd2 qa0
  replace qa1 := cbl hd2 qa1
  replace qa2 := cbl hd2 qa2
  replace Rb := Rb.below hd2
  replace qb0 := cbl hd2 qb0
  replace qb1 := cbl hd2 qb1
  replace qb2 := cbl hd2 qb2
  replace Rr := Rr.below hd2
  replace qr0 := cbl hd2 qr0
  replace qr1 := cbl hd2 qr1
  replace qr2 := cbl hd2 qr2
  replace HBT := Below.cons HBT hd2
  clear hd2
  obtain ⟨n, En⟩ : ∃ zq : Int, zq = a.num * b.num := ⟨_, rfl⟩
  have Nn : nl (mg n) ≤ 524288 := by rw [En, mg_mul]; have := nl_mul (mg a.num) (mg b.num); omega
  have C2_0 := fun (W : World) (h1 : NatV W aA ac (mg a.num)) (h2 : NatV W bA bc (mg b.num)) => zmul_c aA ac a.num bA bc b.num W h1 h2 (by omega) (by omega)
  simp only [← En] at C2_0
  replace En := Lib.hid En
  replace C2_0 := Lib.hid C2_0
  obtain ⟨u, Eu⟩ : ∃ zq : Int, zq = (a.den : Int) := ⟨_, rfl⟩
  have Nu : nl (mg u) ≤ 262144 := by rw [Eu, mg_nat]; exact ma
  have C2_1 := fun (W : World) (h1 : NatV W aB ad a.den) => r9nat_c aB ad a.den W h1
  simp only [← Eu] at C2_1
  replace Eu := Lib.hid Eu
  replace C2_1 := Lib.hid C2_1
  obtain ⟨v, Ev⟩ : ∃ zq : Int, zq = (b.den : Int) := ⟨_, rfl⟩
  have Nv : nl (mg v) ≤ 262144 := by rw [Ev, mg_nat]; exact mb
  have C2_2 := fun (W : World) (h1 : NatV W bB bd b.den) => r9nat_c bB bd b.den W h1
  simp only [← Ev] at C2_2
  replace Ev := Lib.hid Ev
  replace C2_2 := Lib.hid C2_2
  obtain ⟨p, Ep⟩ : ∃ zq : Int, zq = u * v := ⟨_, rfl⟩
  have Np : nl (mg p) ≤ 524288 := by rw [Ep, mg_mul]; have := nl_mul (mg u) (mg v); omega
  have P0 : 0 < p := by rw [Ep, Eu.out, Ev.out]; have := a.den_nz; have := b.den_nz; exact Int.mul_pos (by omega) (by omega)
  have C2_3 := fun (W : World) (A : Option Addr) (c : Nat) (B : Option Addr) (d : Nat) (h1 : NatV W A c (mg u)) (h2 : NatV W B d (mg v)) => zmul_c A c u B d v W h1 h2 (by omega) (by omega)
  simp only [← Ep] at C2_3
  replace Ep := Lib.hid Ep
  replace C2_3 := Lib.hid C2_3
  obtain ⟨q, Eq⟩ : ∃ zq : Rat, zq = Rat.divInt n p := ⟨_, rfl⟩
  have C2_4 := fun (W : World) (A : Option Addr) (c : Nat) (B : Option Addr) (d : Nat) (h1 : NatV W A c (mg n)) (h2 : NatV W B d (mg p)) => r9over_c A c n B d p W h1 h2 (by omega) (by omega) P0
  simp only [← Eq] at C2_4
  replace Eq := Lib.hid Eq
  replace C2_4 := Lib.hid C2_4
  go_region_held3 (fun W => W.cell? ⟨w.heap.size, 0, none⟩ = some (.bool (sg a.num)) ∧ W.cell? ⟨w.heap.size, 1, none⟩ = some (.slice aA (nl (mg a.num)) ac) ∧ W.cell? ⟨w.heap.size, 2, none⟩ = some (.slice aB (nl a.den) ad) ∧ W.cell? ⟨(w.heap.size + 1), 0, none⟩ = some (.bool (sg b.num)) ∧ W.cell? ⟨(w.heap.size + 1), 1, none⟩ = some (.slice bA (nl (mg b.num)) bc) ∧ W.cell? ⟨(w.heap.size + 1), 2, none⟩ = some (.slice bB (nl b.den) bd))
    (first
      | exact ⟨qa0, qa1, qa2, qb0, qb1, qb2⟩
      | exact ⟨qa0_3, qa1_3, qa2_3, qb0_3, qb1_3, qb2_3⟩
      | exact ⟨qa0_4, qa1_4, qa2_4, qb0_4, qb1_4, qb2_4⟩
      | exact ⟨qa0_5, qa1_5, qa2_5, qb0_5, qb1_5, qb2_5⟩
      | exact ⟨qa0_6, qa1_6, qa2_6, qb0_6, qb1_6, qb2_6⟩
      | exact ⟨qa0_7, qa1_7, qa2_7, qb0_7, qb1_7, qb2_7⟩
      | exact ⟨((Ra_7.other3 (by simp <;> omega)).c (i := 0) rfl), ((Ra_7.other3 (by simp <;> omega)).c (i := 1) rfl), ((Ra_7.other3 (by simp <;> omega)).c (i := 2) rfl), ((Rb_7.other3 (by simp <;> omega)).c (i := 0) rfl), ((Rb_7.other3 (by simp <;> omega)).c (i := 1) rfl), ((Rb_7.other3 (by simp <;> omega)).c (i := 2) rfl)⟩
      | go_keep)
    (first
      | (go_at_call 66; (with_reducible refine (C2_0.out _ ha hb).mono ?_); rintro e W3 ⟨Xn, cn, rfl, hn, hb3⟩; have ha_3 := ha.below hb3; have ga_3 := ga.below hb3; have hb_3 := hb.below hb3; have gb_3 := gb.below hb3; have Ra_3 := Ra.below hb3; have qa0_3 := cbl hb3 qa0; have qa1_3 := cbl hb3 qa1; have qa2_3 := cbl hb3 qa2; have Rb_3 := Rb.below hb3; have qb0_3 := cbl hb3 qb0; have qb1_3 := cbl hb3 qb1; have qb2_3 := cbl hb3 qb2; have Rr_3 := Rr.below hb3; have qr0_3 := cbl hb3 qr0; have qr1_3 := cbl hb3 qr1; have qr2_3 := cbl hb3 qr2; have HBT_3 := Below.cons HBT hb3)
      | (go_at_call 79; (with_reducible refine (C2_1.out _ ga_3).mono ?_); rintro e W4 ⟨Xu, cu, rfl, hu, hb4⟩; have ha_4 := ha_3.below hb4; have ga_4 := ga_3.below hb4; have hb_4 := hb_3.below hb4; have gb_4 := gb_3.below hb4; have Ra_4 := Ra_3.below hb4; have qa0_4 := cbl hb4 qa0_3; have qa1_4 := cbl hb4 qa1_3; have qa2_4 := cbl hb4 qa2_3; have Rb_4 := Rb_3.below hb4; have qb0_4 := cbl hb4 qb0_3; have qb1_4 := cbl hb4 qb1_3; have qb2_4 := cbl hb4 qb2_3; have Rr_4 := Rr_3.below hb4; have qr0_4 := cbl hb4 qr0_3; have qr1_4 := cbl hb4 qr1_3; have qr2_4 := cbl hb4 qr2_3; have hn_4 := hn.below hb4; have HBT_4 := Below.cons HBT_3 hb4)
      | (go_at_call 79; (with_reducible refine (C2_2.out _ gb_4).mono ?_); rintro e W5 ⟨Xv, cv, rfl, hv, hb5⟩; have ha_5 := ha_4.below hb5; have ga_5 := ga_4.below hb5; have hb_5 := hb_4.below hb5; have gb_5 := gb_4.below hb5; have Ra_5 := Ra_4.below hb5; have qa0_5 := cbl hb5 qa0_4; have qa1_5 := cbl hb5 qa1_4; have qa2_5 := cbl hb5 qa2_4; have Rb_5 := Rb_4.below hb5; have qb0_5 := cbl hb5 qb0_4; have qb1_5 := cbl hb5 qb1_4; have qb2_5 := cbl hb5 qb2_4; have Rr_5 := Rr_4.below hb5; have qr0_5 := cbl hb5 qr0_4; have qr1_5 := cbl hb5 qr1_4; have qr2_5 := cbl hb5 qr2_4; have hn_5 := hn_4.below hb5; have hu_5 := hu.below hb5; have HBT_5 := Below.cons HBT_4 hb5)
      | (go_at_call 66; (with_reducible refine (C2_3.out _ _ _ _ _ hu_5 hv).mono ?_); rintro e W6 ⟨Xp, cp, rfl, hp, hb6⟩; have ha_6 := ha_5.below hb6; have ga_6 := ga_5.below hb6; have hb_6 := hb_5.below hb6; have gb_6 := gb_5.below hb6; have Ra_6 := Ra_5.below hb6; have qa0_6 := cbl hb6 qa0_5; have qa1_6 := cbl hb6 qa1_5; have qa2_6 := cbl hb6 qa2_5; have Rb_6 := Rb_5.below hb6; have qb0_6 := cbl hb6 qb0_5; have qb1_6 := cbl hb6 qb1_5; have qb2_6 := cbl hb6 qb2_5; have Rr_6 := Rr_5.below hb6; have qr0_6 := cbl hb6 qr0_5; have qr1_6 := cbl hb6 qr1_5; have qr2_6 := cbl hb6 qr2_5; have hn_6 := hn_5.below hb6; have hu_6 := hu_5.below hb6; have hv_6 := hv.below hb6; have HBT_6 := Below.cons HBT_5 hb6)
      | (go_at_call 78; (with_reducible refine (C2_4.out _ _ _ _ _ hn_6 hp).mono ?_); rintro e W7 ⟨Xq, cq, Yq, dq, rfl, hq, gq, hb7⟩; have ha_7 := ha_6.below hb7; have ga_7 := ga_6.below hb7; have hb_7 := hb_6.below hb7; have gb_7 := gb_6.below hb7; have Ra_7 := Ra_6.below hb7; have qa0_7 := cbl hb7 qa0_6; have qa1_7 := cbl hb7 qa1_6; have qa2_7 := cbl hb7 qa2_6; have Rb_7 := Rb_6.below hb7; have qb0_7 := cbl hb7 qb0_6; have qb1_7 := cbl hb7 qb1_6; have qb2_7 := cbl hb7 qb2_6; have Rr_7 := Rr_6.below hb7; have qr0_7 := cbl hb7 qr0_6; have qr1_7 := cbl hb7 qr1_6; have qr2_7 := cbl hb7 qr2_6; have hn_7 := hn_6.below hb7; have hu_7 := hu_6.below hb7; have hv_7 := hv_6.below hb7; have hp_7 := hp.below hb7; have HBT_7 := Below.cons HBT_6 hb7; have fz0 := Rr_7.f (i := 0); have fz1 := Rr_7.f (i := 1); have fz2 := Rr_7.f (i := 2)))
  all_goals (try go_wp2_with (fail))
  have hzq : q = a * b := by rw [Eq.out, En.out, Ep.out, Eu.out, Ev.out]; exact hd.out
  subst hzq
  have RS := Rr_7.store3 (.bool (sg ((a * b)).num)) (.slice Xq (nl (mg ((a * b)).num)) cq) (.slice Yq (nl ((a * b)).den) dq)
  have e0 := RS.c (i := 0) rfl
  have e1 := RS.c (i := 1) rfl
  have e2 := RS.c (i := 2) rfl
  refine bodyPost_ret (v := .agg #[.bool (sg ((a * b)).num), .slice Xq (nl (mg ((a * b)).num)) cq, .slice Yq (nl ((a * b)).den) dq]) (by simp [results, Tryz.results84, go_sem, e0, e1, e2]) rfl ?_
  exact ⟨Xq, cq, Yq, dq, rfl, (Rr_7.keep3 (nuB rfl) hq), (Rr_7.keep3 (nuB rfl) gq), (Below.store3 HBT_7 (by first | exact Nat.le_refl _ | omega))⟩
end Go.Proofs.YtpaffggdeedopaaGreatDoor

/- The document's rationals, walked: Mul, Add, Cmp. -/
set_option linter.unusedVariables false
set_option linter.unusedSimpArgs false
namespace Go.Proofs.YtpaffggdeedopaaGreatDoor
open Go.RowKit Go.Shelf
attribute [local go_sem] max2_i min2_i max_two min_two

theorem r9add_c (aA : Option Addr) (ac : Nat) (aB : Option Addr) (ad : Nat) (a : Rat) (bA : Option Addr) (bc : Nat) (bB : Option Addr) (bd : Nat) (b : Rat) (w : World) (ha : NatV w aA ac (mg a.num)) (ga : NatV w aB ad a.den) (hb : NatV w bA bc (mg b.num)) (gb : NatV w bB bd b.den) (la : nl (mg a.num) ≤ 262144) (ma : nl a.den ≤ 262144) (lb : nl (mg b.num) ≤ 262144) (mb : nl b.den ≤ 262144) :
    Calls Tryz.prog 23 #[.agg #[.bool (sg a.num), .slice aA (nl (mg a.num)) ac, .slice aB (nl a.den) ad], .agg #[.bool (sg b.num), .slice bA (nl (mg b.num)) bc, .slice bB (nl b.den) bd]] w (RetR w (a + b)) := by
  have hd := divInt_add a b
  replace hd := Lib.hid hd
  obtain ⟨hb1, Ra, Rb, Rr⟩ := bx3 w #[.bool (sg a.num), .slice aA (nl (mg a.num)) ac, .slice aB (nl a.den) ad] 26 #[.bool (sg b.num), .slice bA (nl (mg b.num)) bc, .slice bB (nl b.den) bd] 26 #[.bool false, .slice none 0 0, .slice none 0 0] 26
  replace ha := ha.below hb1
  replace ga := ga.below hb1
  replace hb := hb.below hb1
  replace gb := gb.below hb1
  have HBT := hb1
  clear hb1
  have qa0 := Ra.c (i := 0) rfl
  have qa1 := Ra.c (i := 1) rfl
  have qa2 := Ra.c (i := 2) rfl
  have qb0 := Rb.c (i := 0) rfl
  have qb1 := Rb.c (i := 1) rfl
  have qb2 := Rb.c (i := 2) rfl
  have qr0 := Rr.c (i := 0) rfl
  have qr1 := Rr.c (i := 1) rfl
  have qr2 := Rr.c (i := 2) rfl
  go_enter Tryz.func23, Tryz.ntmps23
  go_wp2_with (fail)
  have hd2 := drb ((((w.alloc (.cells #[.bool (sg a.num), .slice aA (nl (mg a.num)) ac, .slice aB (nl a.den) ad] 26)).alloc (.cells #[.bool (sg b.num), .slice bA (nl (mg b.num)) bc, .slice bB (nl b.den) bd] 26)).alloc (.cells #[.bool false, .slice none 0 0, .slice none 0 0] 26)))
  replace ha := ha.below hd2
  replace ga := ga.below hd2
  replace hb := hb.below hd2
  replace gb := gb.below hd2
  replace Ra := Ra.below hd2
  replace qa0 := cbl hd2 qa0
  replace qa1 := cbl hd2 qa1
  replace qa2 := cbl hd2 qa2
  replace Rb := Rb.below hd2
  replace qb0 := cbl hd2 qb0
  replace qb1 := cbl hd2 qb1
  replace qb2 := cbl hd2 qb2
  replace Rr := Rr.below hd2
  replace qr0 := cbl hd2 qr0
  replace qr1 := cbl hd2 qr1
  replace qr2 := cbl hd2 qr2
  replace HBT := Below.cons HBT hd2
  clear hd2
  obtain ⟨v, Ev⟩ : ∃ zq : Int, zq = (b.den : Int) := ⟨_, rfl⟩
  have Nv : nl (mg v) ≤ 262144 := by rw [Ev, mg_nat]; exact mb
  have C2_0 := fun (W : World) (h1 : NatV W bB bd b.den) => r9nat_c bB bd b.den W h1
  simp only [← Ev] at C2_0
  replace Ev := Lib.hid Ev
  replace C2_0 := Lib.hid C2_0
  obtain ⟨n1, En1⟩ : ∃ zq : Int, zq = a.num * v := ⟨_, rfl⟩
  have Nn1 : nl (mg n1) ≤ 524288 := by rw [En1, mg_mul]; have := nl_mul (mg a.num) (mg v); omega
  have C2_1 := fun (W : World) (A : Option Addr) (c : Nat) (h1 : NatV W aA ac (mg a.num)) (h2 : NatV W A c (mg v)) => zmul_c aA ac a.num A c v W h1 h2 (by omega) (by omega)
  simp only [← En1] at C2_1
  replace En1 := Lib.hid En1
  replace C2_1 := Lib.hid C2_1
  obtain ⟨u, Eu⟩ : ∃ zq : Int, zq = (a.den : Int) := ⟨_, rfl⟩
  have Nu : nl (mg u) ≤ 262144 := by rw [Eu, mg_nat]; exact ma
  have C2_2 := fun (W : World) (h1 : NatV W aB ad a.den) => r9nat_c aB ad a.den W h1
  simp only [← Eu] at C2_2
  replace Eu := Lib.hid Eu
  replace C2_2 := Lib.hid C2_2
  obtain ⟨n2, En2⟩ : ∃ zq : Int, zq = b.num * u := ⟨_, rfl⟩
  have Nn2 : nl (mg n2) ≤ 524288 := by rw [En2, mg_mul]; have := nl_mul (mg b.num) (mg u); omega
  have C2_3 := fun (W : World) (A : Option Addr) (c : Nat) (h1 : NatV W bA bc (mg b.num)) (h2 : NatV W A c (mg u)) => zmul_c bA bc b.num A c u W h1 h2 (by omega) (by omega)
  simp only [← En2] at C2_3
  replace En2 := Lib.hid En2
  replace C2_3 := Lib.hid C2_3
  obtain ⟨n, En⟩ : ∃ zq : Int, zq = n1 + n2 := ⟨_, rfl⟩
  have Nn : nl (mg n) ≤ 524289 := by rw [En]; exact add_nl Nn1 Nn2
  have C2_4 := fun (W : World) (A : Option Addr) (c : Nat) (B : Option Addr) (d : Nat) (h1 : NatV W A c (mg n1)) (h2 : NatV W B d (mg n2)) => zadd_c A c n1 B d n2 W h1 h2 (by omega) (by omega)
  simp only [← En] at C2_4
  replace En := Lib.hid En
  replace C2_4 := Lib.hid C2_4
  obtain ⟨u2, Eu2⟩ : ∃ zq : Int, zq = (a.den : Int) := ⟨_, rfl⟩
  have Nu2 : nl (mg u2) ≤ 262144 := by rw [Eu2, mg_nat]; exact ma
  have C2_5 := fun (W : World) (h1 : NatV W aB ad a.den) => r9nat_c aB ad a.den W h1
  simp only [← Eu2] at C2_5
  replace Eu2 := Lib.hid Eu2
  replace C2_5 := Lib.hid C2_5
  obtain ⟨v2, Ev2⟩ : ∃ zq : Int, zq = (b.den : Int) := ⟨_, rfl⟩
  have Nv2 : nl (mg v2) ≤ 262144 := by rw [Ev2, mg_nat]; exact mb
  have C2_6 := fun (W : World) (h1 : NatV W bB bd b.den) => r9nat_c bB bd b.den W h1
  simp only [← Ev2] at C2_6
  replace Ev2 := Lib.hid Ev2
  replace C2_6 := Lib.hid C2_6
  obtain ⟨p, Ep⟩ : ∃ zq : Int, zq = u2 * v2 := ⟨_, rfl⟩
  have Np : nl (mg p) ≤ 524288 := by rw [Ep, mg_mul]; have := nl_mul (mg u2) (mg v2); omega
  have P0 : 0 < p := by rw [Ep, Eu2.out, Ev2.out]; have := a.den_nz; have := b.den_nz; exact Int.mul_pos (by omega) (by omega)
  have C2_7 := fun (W : World) (A : Option Addr) (c : Nat) (B : Option Addr) (d : Nat) (h1 : NatV W A c (mg u2)) (h2 : NatV W B d (mg v2)) => zmul_c A c u2 B d v2 W h1 h2 (by omega) (by omega)
  simp only [← Ep] at C2_7
  replace Ep := Lib.hid Ep
  replace C2_7 := Lib.hid C2_7
  obtain ⟨q, Eq⟩ : ∃ zq : Rat, zq = Rat.divInt n p := ⟨_, rfl⟩
  have C2_8 := fun (W : World) (A : Option Addr) (c : Nat) (B : Option Addr) (d : Nat) (h1 : NatV W A c (mg n)) (h2 : NatV W B d (mg p)) => r9over_c A c n B d p W h1 h2 (by omega) (by omega) P0
  simp only [← Eq] at C2_8
  replace Eq := Lib.hid Eq
  replace C2_8 := Lib.hid C2_8
  go_region_held3 (fun W => W.cell? ⟨w.heap.size, 0, none⟩ = some (.bool (sg a.num)) ∧ W.cell? ⟨w.heap.size, 1, none⟩ = some (.slice aA (nl (mg a.num)) ac) ∧ W.cell? ⟨w.heap.size, 2, none⟩ = some (.slice aB (nl a.den) ad) ∧ W.cell? ⟨(w.heap.size + 1), 0, none⟩ = some (.bool (sg b.num)) ∧ W.cell? ⟨(w.heap.size + 1), 1, none⟩ = some (.slice bA (nl (mg b.num)) bc) ∧ W.cell? ⟨(w.heap.size + 1), 2, none⟩ = some (.slice bB (nl b.den) bd))
    (first
      | exact ⟨qa0, qa1, qa2, qb0, qb1, qb2⟩
      | exact ⟨qa0_3, qa1_3, qa2_3, qb0_3, qb1_3, qb2_3⟩
      | exact ⟨qa0_4, qa1_4, qa2_4, qb0_4, qb1_4, qb2_4⟩
      | exact ⟨qa0_5, qa1_5, qa2_5, qb0_5, qb1_5, qb2_5⟩
      | exact ⟨qa0_6, qa1_6, qa2_6, qb0_6, qb1_6, qb2_6⟩
      | exact ⟨qa0_7, qa1_7, qa2_7, qb0_7, qb1_7, qb2_7⟩
      | exact ⟨qa0_8, qa1_8, qa2_8, qb0_8, qb1_8, qb2_8⟩
      | exact ⟨qa0_9, qa1_9, qa2_9, qb0_9, qb1_9, qb2_9⟩
      | exact ⟨qa0_10, qa1_10, qa2_10, qb0_10, qb1_10, qb2_10⟩
      | exact ⟨qa0_11, qa1_11, qa2_11, qb0_11, qb1_11, qb2_11⟩
      | exact ⟨((Ra_11.other3 (by simp <;> omega)).c (i := 0) rfl), ((Ra_11.other3 (by simp <;> omega)).c (i := 1) rfl), ((Ra_11.other3 (by simp <;> omega)).c (i := 2) rfl), ((Rb_11.other3 (by simp <;> omega)).c (i := 0) rfl), ((Rb_11.other3 (by simp <;> omega)).c (i := 1) rfl), ((Rb_11.other3 (by simp <;> omega)).c (i := 2) rfl)⟩
      | go_keep)
    (first
      | (go_at_call 79; (with_reducible refine (C2_0.out _ gb).mono ?_); rintro e W3 ⟨Xv, cv, rfl, hv, hb3⟩; have ha_3 := ha.below hb3; have ga_3 := ga.below hb3; have hb_3 := hb.below hb3; have gb_3 := gb.below hb3; have Ra_3 := Ra.below hb3; have qa0_3 := cbl hb3 qa0; have qa1_3 := cbl hb3 qa1; have qa2_3 := cbl hb3 qa2; have Rb_3 := Rb.below hb3; have qb0_3 := cbl hb3 qb0; have qb1_3 := cbl hb3 qb1; have qb2_3 := cbl hb3 qb2; have Rr_3 := Rr.below hb3; have qr0_3 := cbl hb3 qr0; have qr1_3 := cbl hb3 qr1; have qr2_3 := cbl hb3 qr2; have HBT_3 := Below.cons HBT hb3)
      | (go_at_call 66; (with_reducible refine (C2_1.out _ _ _ ha_3 hv).mono ?_); rintro e W4 ⟨Xn1, cn1, rfl, hn1, hb4⟩; have ha_4 := ha_3.below hb4; have ga_4 := ga_3.below hb4; have hb_4 := hb_3.below hb4; have gb_4 := gb_3.below hb4; have Ra_4 := Ra_3.below hb4; have qa0_4 := cbl hb4 qa0_3; have qa1_4 := cbl hb4 qa1_3; have qa2_4 := cbl hb4 qa2_3; have Rb_4 := Rb_3.below hb4; have qb0_4 := cbl hb4 qb0_3; have qb1_4 := cbl hb4 qb1_3; have qb2_4 := cbl hb4 qb2_3; have Rr_4 := Rr_3.below hb4; have qr0_4 := cbl hb4 qr0_3; have qr1_4 := cbl hb4 qr1_3; have qr2_4 := cbl hb4 qr2_3; have hv_4 := hv.below hb4; have HBT_4 := Below.cons HBT_3 hb4)
      | (go_at_call 79; (with_reducible refine (C2_2.out _ ga_4).mono ?_); rintro e W5 ⟨Xu, cu, rfl, hu, hb5⟩; have ha_5 := ha_4.below hb5; have ga_5 := ga_4.below hb5; have hb_5 := hb_4.below hb5; have gb_5 := gb_4.below hb5; have Ra_5 := Ra_4.below hb5; have qa0_5 := cbl hb5 qa0_4; have qa1_5 := cbl hb5 qa1_4; have qa2_5 := cbl hb5 qa2_4; have Rb_5 := Rb_4.below hb5; have qb0_5 := cbl hb5 qb0_4; have qb1_5 := cbl hb5 qb1_4; have qb2_5 := cbl hb5 qb2_4; have Rr_5 := Rr_4.below hb5; have qr0_5 := cbl hb5 qr0_4; have qr1_5 := cbl hb5 qr1_4; have qr2_5 := cbl hb5 qr2_4; have hv_5 := hv_4.below hb5; have hn1_5 := hn1.below hb5; have HBT_5 := Below.cons HBT_4 hb5)
      | (go_at_call 66; (with_reducible refine (C2_3.out _ _ _ hb_5 hu).mono ?_); rintro e W6 ⟨Xn2, cn2, rfl, hn2, hb6⟩; have ha_6 := ha_5.below hb6; have ga_6 := ga_5.below hb6; have hb_6 := hb_5.below hb6; have gb_6 := gb_5.below hb6; have Ra_6 := Ra_5.below hb6; have qa0_6 := cbl hb6 qa0_5; have qa1_6 := cbl hb6 qa1_5; have qa2_6 := cbl hb6 qa2_5; have Rb_6 := Rb_5.below hb6; have qb0_6 := cbl hb6 qb0_5; have qb1_6 := cbl hb6 qb1_5; have qb2_6 := cbl hb6 qb2_5; have Rr_6 := Rr_5.below hb6; have qr0_6 := cbl hb6 qr0_5; have qr1_6 := cbl hb6 qr1_5; have qr2_6 := cbl hb6 qr2_5; have hv_6 := hv_5.below hb6; have hn1_6 := hn1_5.below hb6; have hu_6 := hu.below hb6; have HBT_6 := Below.cons HBT_5 hb6)
      | (go_at_call 65; (with_reducible refine (C2_4.out _ _ _ _ _ hn1_6 hn2).mono ?_); rintro e W7 ⟨Xn, cn, rfl, hn, hb7⟩; have ha_7 := ha_6.below hb7; have ga_7 := ga_6.below hb7; have hb_7 := hb_6.below hb7; have gb_7 := gb_6.below hb7; have Ra_7 := Ra_6.below hb7; have qa0_7 := cbl hb7 qa0_6; have qa1_7 := cbl hb7 qa1_6; have qa2_7 := cbl hb7 qa2_6; have Rb_7 := Rb_6.below hb7; have qb0_7 := cbl hb7 qb0_6; have qb1_7 := cbl hb7 qb1_6; have qb2_7 := cbl hb7 qb2_6; have Rr_7 := Rr_6.below hb7; have qr0_7 := cbl hb7 qr0_6; have qr1_7 := cbl hb7 qr1_6; have qr2_7 := cbl hb7 qr2_6; have hv_7 := hv_6.below hb7; have hn1_7 := hn1_6.below hb7; have hu_7 := hu_6.below hb7; have hn2_7 := hn2.below hb7; have HBT_7 := Below.cons HBT_6 hb7)
      | (go_at_call 79; (with_reducible refine (C2_5.out _ ga_7).mono ?_); rintro e W8 ⟨Xu2, cu2, rfl, hu2, hb8⟩; have ha_8 := ha_7.below hb8; have ga_8 := ga_7.below hb8; have hb_8 := hb_7.below hb8; have gb_8 := gb_7.below hb8; have Ra_8 := Ra_7.below hb8; have qa0_8 := cbl hb8 qa0_7; have qa1_8 := cbl hb8 qa1_7; have qa2_8 := cbl hb8 qa2_7; have Rb_8 := Rb_7.below hb8; have qb0_8 := cbl hb8 qb0_7; have qb1_8 := cbl hb8 qb1_7; have qb2_8 := cbl hb8 qb2_7; have Rr_8 := Rr_7.below hb8; have qr0_8 := cbl hb8 qr0_7; have qr1_8 := cbl hb8 qr1_7; have qr2_8 := cbl hb8 qr2_7; have hv_8 := hv_7.below hb8; have hn1_8 := hn1_7.below hb8; have hu_8 := hu_7.below hb8; have hn2_8 := hn2_7.below hb8; have hn_8 := hn.below hb8; have HBT_8 := Below.cons HBT_7 hb8)
      | (go_at_call 79; (with_reducible refine (C2_6.out _ gb_8).mono ?_); rintro e W9 ⟨Xv2, cv2, rfl, hv2, hb9⟩; have ha_9 := ha_8.below hb9; have ga_9 := ga_8.below hb9; have hb_9 := hb_8.below hb9; have gb_9 := gb_8.below hb9; have Ra_9 := Ra_8.below hb9; have qa0_9 := cbl hb9 qa0_8; have qa1_9 := cbl hb9 qa1_8; have qa2_9 := cbl hb9 qa2_8; have Rb_9 := Rb_8.below hb9; have qb0_9 := cbl hb9 qb0_8; have qb1_9 := cbl hb9 qb1_8; have qb2_9 := cbl hb9 qb2_8; have Rr_9 := Rr_8.below hb9; have qr0_9 := cbl hb9 qr0_8; have qr1_9 := cbl hb9 qr1_8; have qr2_9 := cbl hb9 qr2_8; have hv_9 := hv_8.below hb9; have hn1_9 := hn1_8.below hb9; have hu_9 := hu_8.below hb9; have hn2_9 := hn2_8.below hb9; have hn_9 := hn_8.below hb9; have hu2_9 := hu2.below hb9; have HBT_9 := Below.cons HBT_8 hb9)
      | (go_at_call 66; (with_reducible refine (C2_7.out _ _ _ _ _ hu2_9 hv2).mono ?_); rintro e W10 ⟨Xp, cp, rfl, hp, hb10⟩; have ha_10 := ha_9.below hb10; have ga_10 := ga_9.below hb10; have hb_10 := hb_9.below hb10; have gb_10 := gb_9.below hb10; have Ra_10 := Ra_9.below hb10; have qa0_10 := cbl hb10 qa0_9; have qa1_10 := cbl hb10 qa1_9; have qa2_10 := cbl hb10 qa2_9; have Rb_10 := Rb_9.below hb10; have qb0_10 := cbl hb10 qb0_9; have qb1_10 := cbl hb10 qb1_9; have qb2_10 := cbl hb10 qb2_9; have Rr_10 := Rr_9.below hb10; have qr0_10 := cbl hb10 qr0_9; have qr1_10 := cbl hb10 qr1_9; have qr2_10 := cbl hb10 qr2_9; have hv_10 := hv_9.below hb10; have hn1_10 := hn1_9.below hb10; have hu_10 := hu_9.below hb10; have hn2_10 := hn2_9.below hb10; have hn_10 := hn_9.below hb10; have hu2_10 := hu2_9.below hb10; have hv2_10 := hv2.below hb10; have HBT_10 := Below.cons HBT_9 hb10)
      | (go_at_call 78; (with_reducible refine (C2_8.out _ _ _ _ _ hn_10 hp).mono ?_); rintro e W11 ⟨Xq, cq, Yq, dq, rfl, hq, gq, hb11⟩; have ha_11 := ha_10.below hb11; have ga_11 := ga_10.below hb11; have hb_11 := hb_10.below hb11; have gb_11 := gb_10.below hb11; have Ra_11 := Ra_10.below hb11; have qa0_11 := cbl hb11 qa0_10; have qa1_11 := cbl hb11 qa1_10; have qa2_11 := cbl hb11 qa2_10; have Rb_11 := Rb_10.below hb11; have qb0_11 := cbl hb11 qb0_10; have qb1_11 := cbl hb11 qb1_10; have qb2_11 := cbl hb11 qb2_10; have Rr_11 := Rr_10.below hb11; have qr0_11 := cbl hb11 qr0_10; have qr1_11 := cbl hb11 qr1_10; have qr2_11 := cbl hb11 qr2_10; have hv_11 := hv_10.below hb11; have hn1_11 := hn1_10.below hb11; have hu_11 := hu_10.below hb11; have hn2_11 := hn2_10.below hb11; have hn_11 := hn_10.below hb11; have hu2_11 := hu2_10.below hb11; have hv2_11 := hv2_10.below hb11; have hp_11 := hp.below hb11; have HBT_11 := Below.cons HBT_10 hb11; have fz0 := Rr_11.f (i := 0); have fz1 := Rr_11.f (i := 1); have fz2 := Rr_11.f (i := 2)))
  all_goals (try go_wp2_with (fail))
  have hzq : q = a + b := by rw [Eq.out, En.out, En1.out, En2.out, Ep.out, Eu.out, Ev.out, Eu2.out, Ev2.out]; exact hd.out
  subst hzq
  have RS := Rr_11.store3 (.bool (sg ((a + b)).num)) (.slice Xq (nl (mg ((a + b)).num)) cq) (.slice Yq (nl ((a + b)).den) dq)
  have e0 := RS.c (i := 0) rfl
  have e1 := RS.c (i := 1) rfl
  have e2 := RS.c (i := 2) rfl
  refine bodyPost_ret (v := .agg #[.bool (sg ((a + b)).num), .slice Xq (nl (mg ((a + b)).num)) cq, .slice Yq (nl ((a + b)).den) dq]) (by simp [results, Tryz.results23, go_sem, e0, e1, e2]) rfl ?_
  exact ⟨Xq, cq, Yq, dq, rfl, (Rr_11.keep3 (nuB rfl) hq), (Rr_11.keep3 (nuB rfl) gq), (Below.store3 HBT_11 (by first | exact Nat.le_refl _ | omega))⟩
end Go.Proofs.YtpaffggdeedopaaGreatDoor

/- The document's rationals, walked: Cmp, Sub, Floor, Ceil, Same. -/
set_option linter.unusedVariables false
set_option linter.unusedSimpArgs false
namespace Go.Proofs.YtpaffggdeedopaaGreatDoor
open Go.RowKit Go.Shelf
attribute [local go_sem] max2_i min2_i max_two min_two

theorem r9cmp_c (aA : Option Addr) (ac : Nat) (aB : Option Addr) (ad : Nat) (a : Rat) (bA : Option Addr) (bc : Nat) (bB : Option Addr) (bd : Nat) (b : Rat) (w : World) (ha : NatV w aA ac (mg a.num)) (ga : NatV w aB ad a.den) (hb : NatV w bA bc (mg b.num)) (gb : NatV w bB bd b.den) (la : nl (mg a.num) ≤ 262144) (ma : nl a.den ≤ 262144) (lb : nl (mg b.num) ≤ 262144) (mb : nl b.den ≤ 262144) :
    Calls Tryz.prog 22 #[.agg #[.bool (sg a.num), .slice aA (nl (mg a.num)) ac, .slice aB (nl a.den) ad], .agg #[.bool (sg b.num), .slice bA (nl (mg b.num)) bc, .slice bB (nl b.den) bd]] w (fun e w' => e = .returned (.int .i64 (rcmp a b)) ∧ Below w.heap.size w w') := by
  have hd := rcmp_icmp a b
  replace hd := Lib.hid hd
  obtain ⟨hb1, Ra, Rb⟩ := bx2 w #[.bool (sg a.num), .slice aA (nl (mg a.num)) ac, .slice aB (nl a.den) ad] 26 #[.bool (sg b.num), .slice bA (nl (mg b.num)) bc, .slice bB (nl b.den) bd] 26
  replace ha := ha.below hb1
  replace ga := ga.below hb1
  replace hb := hb.below hb1
  replace gb := gb.below hb1
  have HBT := hb1
  clear hb1
  have qa0 := Ra.c (i := 0) rfl
  have qa1 := Ra.c (i := 1) rfl
  have qa2 := Ra.c (i := 2) rfl
  have qb0 := Rb.c (i := 0) rfl
  have qb1 := Rb.c (i := 1) rfl
  have qb2 := Rb.c (i := 2) rfl
  go_enter Tryz.func22, Tryz.ntmps22
  go_wp2_with (fail)
  have hd2 := drb (((w.alloc (.cells #[.bool (sg a.num), .slice aA (nl (mg a.num)) ac, .slice aB (nl a.den) ad] 26)).alloc (.cells #[.bool (sg b.num), .slice bA (nl (mg b.num)) bc, .slice bB (nl b.den) bd] 26)))
  replace ha := ha.below hd2
  replace ga := ga.below hd2
  replace hb := hb.below hd2
  replace gb := gb.below hd2
  replace Ra := Ra.below hd2
  replace qa0 := cbl hd2 qa0
  replace qa1 := cbl hd2 qa1
  replace qa2 := cbl hd2 qa2
  replace Rb := Rb.below hd2
  replace qb0 := cbl hd2 qb0
  replace qb1 := cbl hd2 qb1
  replace qb2 := cbl hd2 qb2
  replace HBT := Below.cons HBT hd2
  clear hd2
  obtain ⟨v, Ev⟩ : ∃ zq : Int, zq = (b.den : Int) := ⟨_, rfl⟩
  have Nv : nl (mg v) ≤ 262144 := by rw [Ev, mg_nat]; exact mb
  have C2_0 := fun (W : World) (h1 : NatV W bB bd b.den) => r9nat_c bB bd b.den W h1
  simp only [← Ev] at C2_0
  replace Ev := Lib.hid Ev
  replace C2_0 := Lib.hid C2_0
  obtain ⟨n1, En1⟩ : ∃ zq : Int, zq = a.num * v := ⟨_, rfl⟩
  have Nn1 : nl (mg n1) ≤ 524288 := by rw [En1, mg_mul]; have := nl_mul (mg a.num) (mg v); omega
  have C2_1 := fun (W : World) (A : Option Addr) (c : Nat) (h1 : NatV W aA ac (mg a.num)) (h2 : NatV W A c (mg v)) => zmul_c aA ac a.num A c v W h1 h2 (by omega) (by omega)
  simp only [← En1] at C2_1
  replace En1 := Lib.hid En1
  replace C2_1 := Lib.hid C2_1
  obtain ⟨u, Eu⟩ : ∃ zq : Int, zq = (a.den : Int) := ⟨_, rfl⟩
  have Nu : nl (mg u) ≤ 262144 := by rw [Eu, mg_nat]; exact ma
  have C2_2 := fun (W : World) (h1 : NatV W aB ad a.den) => r9nat_c aB ad a.den W h1
  simp only [← Eu] at C2_2
  replace Eu := Lib.hid Eu
  replace C2_2 := Lib.hid C2_2
  obtain ⟨n2, En2⟩ : ∃ zq : Int, zq = b.num * u := ⟨_, rfl⟩
  have Nn2 : nl (mg n2) ≤ 524288 := by rw [En2, mg_mul]; have := nl_mul (mg b.num) (mg u); omega
  have C2_3 := fun (W : World) (A : Option Addr) (c : Nat) (h1 : NatV W bA bc (mg b.num)) (h2 : NatV W A c (mg u)) => zmul_c bA bc b.num A c u W h1 h2 (by omega) (by omega)
  simp only [← En2] at C2_3
  replace En2 := Lib.hid En2
  replace C2_3 := Lib.hid C2_3
  have C2_4 := fun (W : World) (A : Option Addr) (c : Nat) (B : Option Addr) (d : Nat) (h1 : NatV W A c (mg n1)) (h2 : NatV W B d (mg n2)) => zcmp_c A c n1 B d n2 W h1 h2 (by omega) (by omega)
  replace C2_4 := Lib.hid C2_4
  go_region_held3 (fun W => W.cell? ⟨w.heap.size, 0, none⟩ = some (.bool (sg a.num)) ∧ W.cell? ⟨w.heap.size, 1, none⟩ = some (.slice aA (nl (mg a.num)) ac) ∧ W.cell? ⟨w.heap.size, 2, none⟩ = some (.slice aB (nl a.den) ad) ∧ W.cell? ⟨(w.heap.size + 1), 0, none⟩ = some (.bool (sg b.num)) ∧ W.cell? ⟨(w.heap.size + 1), 1, none⟩ = some (.slice bA (nl (mg b.num)) bc) ∧ W.cell? ⟨(w.heap.size + 1), 2, none⟩ = some (.slice bB (nl b.den) bd))
    (first
      | exact ⟨qa0, qa1, qa2, qb0, qb1, qb2⟩
      | exact ⟨qa0_3, qa1_3, qa2_3, qb0_3, qb1_3, qb2_3⟩
      | exact ⟨qa0_4, qa1_4, qa2_4, qb0_4, qb1_4, qb2_4⟩
      | exact ⟨qa0_5, qa1_5, qa2_5, qb0_5, qb1_5, qb2_5⟩
      | exact ⟨qa0_6, qa1_6, qa2_6, qb0_6, qb1_6, qb2_6⟩
      | exact ⟨qa0_7, qa1_7, qa2_7, qb0_7, qb1_7, qb2_7⟩
      | go_keep)
    (first
      | (go_at_call 79; (with_reducible refine (C2_0.out _ gb).mono ?_); rintro e W3 ⟨Xv, cv, rfl, hv, hb3⟩; have ha_3 := ha.below hb3; have ga_3 := ga.below hb3; have hb_3 := hb.below hb3; have gb_3 := gb.below hb3; have Ra_3 := Ra.below hb3; have qa0_3 := cbl hb3 qa0; have qa1_3 := cbl hb3 qa1; have qa2_3 := cbl hb3 qa2; have Rb_3 := Rb.below hb3; have qb0_3 := cbl hb3 qb0; have qb1_3 := cbl hb3 qb1; have qb2_3 := cbl hb3 qb2; have HBT_3 := Below.cons HBT hb3)
      | (go_at_call 66; (with_reducible refine (C2_1.out _ _ _ ha_3 hv).mono ?_); rintro e W4 ⟨Xn1, cn1, rfl, hn1, hb4⟩; have ha_4 := ha_3.below hb4; have ga_4 := ga_3.below hb4; have hb_4 := hb_3.below hb4; have gb_4 := gb_3.below hb4; have Ra_4 := Ra_3.below hb4; have qa0_4 := cbl hb4 qa0_3; have qa1_4 := cbl hb4 qa1_3; have qa2_4 := cbl hb4 qa2_3; have Rb_4 := Rb_3.below hb4; have qb0_4 := cbl hb4 qb0_3; have qb1_4 := cbl hb4 qb1_3; have qb2_4 := cbl hb4 qb2_3; have hv_4 := hv.below hb4; have HBT_4 := Below.cons HBT_3 hb4)
      | (go_at_call 79; (with_reducible refine (C2_2.out _ ga_4).mono ?_); rintro e W5 ⟨Xu, cu, rfl, hu, hb5⟩; have ha_5 := ha_4.below hb5; have ga_5 := ga_4.below hb5; have hb_5 := hb_4.below hb5; have gb_5 := gb_4.below hb5; have Ra_5 := Ra_4.below hb5; have qa0_5 := cbl hb5 qa0_4; have qa1_5 := cbl hb5 qa1_4; have qa2_5 := cbl hb5 qa2_4; have Rb_5 := Rb_4.below hb5; have qb0_5 := cbl hb5 qb0_4; have qb1_5 := cbl hb5 qb1_4; have qb2_5 := cbl hb5 qb2_4; have hv_5 := hv_4.below hb5; have hn1_5 := hn1.below hb5; have HBT_5 := Below.cons HBT_4 hb5)
      | (go_at_call 66; (with_reducible refine (C2_3.out _ _ _ hb_5 hu).mono ?_); rintro e W6 ⟨Xn2, cn2, rfl, hn2, hb6⟩; have ha_6 := ha_5.below hb6; have ga_6 := ga_5.below hb6; have hb_6 := hb_5.below hb6; have gb_6 := gb_5.below hb6; have Ra_6 := Ra_5.below hb6; have qa0_6 := cbl hb6 qa0_5; have qa1_6 := cbl hb6 qa1_5; have qa2_6 := cbl hb6 qa2_5; have Rb_6 := Rb_5.below hb6; have qb0_6 := cbl hb6 qb0_5; have qb1_6 := cbl hb6 qb1_5; have qb2_6 := cbl hb6 qb2_5; have hv_6 := hv_5.below hb6; have hn1_6 := hn1_5.below hb6; have hu_6 := hu.below hb6; have HBT_6 := Below.cons HBT_5 hb6)
      | (go_at_call 90; (with_reducible refine (C2_4.out _ _ _ _ _ hn1_6 hn2).mono ?_); rintro e W7 ⟨rfl, hb7⟩; have ha_7 := ha_6.below hb7; have ga_7 := ga_6.below hb7; have hb_7 := hb_6.below hb7; have gb_7 := gb_6.below hb7; have Ra_7 := Ra_6.below hb7; have qa0_7 := cbl hb7 qa0_6; have qa1_7 := cbl hb7 qa1_6; have qa2_7 := cbl hb7 qa2_6; have Rb_7 := Rb_6.below hb7; have qb0_7 := cbl hb7 qb0_6; have qb1_7 := cbl hb7 qb1_6; have qb2_7 := cbl hb7 qb2_6; have hv_7 := hv_6.below hb7; have hn1_7 := hn1_6.below hb7; have hu_7 := hu_6.below hb7; have hn2_7 := hn2.below hb7; have HBT_7 := Below.cons HBT_6 hb7))
  all_goals (try go_wp2_with (fail))
  go_ret
  exact ⟨by rw [En1.out, En2.out, Eu.out, Ev.out, hd.out]; rfl, HBT_7⟩
theorem r9sub_c (aA : Option Addr) (ac : Nat) (aB : Option Addr) (ad : Nat) (a : Rat) (bA : Option Addr) (bc : Nat) (bB : Option Addr) (bd : Nat) (b : Rat) (w : World) (ha : NatV w aA ac (mg a.num)) (ga : NatV w aB ad a.den) (hb : NatV w bA bc (mg b.num)) (gb : NatV w bB bd b.den) (la : nl (mg a.num) ≤ 262144) (ma : nl a.den ≤ 262144) (lb : nl (mg b.num) ≤ 262144) (mb : nl b.den ≤ 262144) :
    Calls Tryz.prog 19 #[.agg #[.bool (sg a.num), .slice aA (nl (mg a.num)) ac, .slice aB (nl a.den) ad], .agg #[.bool (sg b.num), .slice bA (nl (mg b.num)) bc, .slice bB (nl b.den) bd]] w (RetR w (a - b)) := by
  have e1 : nl (mg (-b).num) ≤ 262144 := by rw [Rat.neg_num, mg_neg]; exact lb
  have e2 : nl (-b).den ≤ 262144 := by rw [Rat.neg_den]; exact mb
  obtain ⟨hb1, Ra, Rb, Rr⟩ := bx3 w #[.bool (sg a.num), .slice aA (nl (mg a.num)) ac, .slice aB (nl a.den) ad] 26 #[.bool (sg b.num), .slice bA (nl (mg b.num)) bc, .slice bB (nl b.den) bd] 26 #[.bool false, .slice none 0 0, .slice none 0 0] 26
  replace ha := ha.below hb1
  replace ga := ga.below hb1
  replace hb := hb.below hb1
  replace gb := gb.below hb1
  have HBT := hb1
  clear hb1
  have qa0 := Ra.c (i := 0) rfl
  have qa1 := Ra.c (i := 1) rfl
  have qa2 := Ra.c (i := 2) rfl
  have qb0 := Rb.c (i := 0) rfl
  have qb1 := Rb.c (i := 1) rfl
  have qb2 := Rb.c (i := 2) rfl
  have qr0 := Rr.c (i := 0) rfl
  have qr1 := Rr.c (i := 1) rfl
  have qr2 := Rr.c (i := 2) rfl
  go_enter Tryz.func19, Tryz.ntmps19
  go_wp2_with (fail)
  have hd2 := drb ((((w.alloc (.cells #[.bool (sg a.num), .slice aA (nl (mg a.num)) ac, .slice aB (nl a.den) ad] 26)).alloc (.cells #[.bool (sg b.num), .slice bA (nl (mg b.num)) bc, .slice bB (nl b.den) bd] 26)).alloc (.cells #[.bool false, .slice none 0 0, .slice none 0 0] 26)))
  replace ha := ha.below hd2
  replace ga := ga.below hd2
  replace hb := hb.below hd2
  replace gb := gb.below hd2
  replace Ra := Ra.below hd2
  replace qa0 := cbl hd2 qa0
  replace qa1 := cbl hd2 qa1
  replace qa2 := cbl hd2 qa2
  replace Rb := Rb.below hd2
  replace qb0 := cbl hd2 qb0
  replace qb1 := cbl hd2 qb1
  replace qb2 := cbl hd2 qb2
  replace Rr := Rr.below hd2
  replace qr0 := cbl hd2 qr0
  replace qr1 := cbl hd2 qr1
  replace qr2 := cbl hd2 qr2
  replace HBT := Below.cons HBT hd2
  clear hd2
  obtain ⟨m, Em⟩ : ∃ zq : Rat, zq = -b := ⟨_, rfl⟩
  rw [← Em] at e1 e2
  have C2_0 := fun (W : World) (h1 : NatV W bA bc (mg b.num)) (h2 : NatV W bB bd b.den) => r9neg_c bA bc bB bd b W h1 h2 (by omega)
  simp only [← Em] at C2_0
  replace Em := Lib.hid Em
  replace C2_0 := Lib.hid C2_0
  obtain ⟨q, Eq⟩ : ∃ zq : Rat, zq = a + m := ⟨_, rfl⟩
  have C2_1 := fun (W : World) (A : Option Addr) (c : Nat) (B : Option Addr) (d : Nat) (h1 : NatV W aA ac (mg a.num)) (h2 : NatV W aB ad a.den) (h3 : NatV W A c (mg m.num)) (h4 : NatV W B d m.den) => r9add_c aA ac aB ad a A c B d m W h1 h2 h3 h4 la ma e1 e2
  simp only [← Eq] at C2_1
  replace Eq := Lib.hid Eq
  replace C2_1 := Lib.hid C2_1
  go_region_held3 (fun W => W.cell? ⟨w.heap.size, 0, none⟩ = some (.bool (sg a.num)) ∧ W.cell? ⟨w.heap.size, 1, none⟩ = some (.slice aA (nl (mg a.num)) ac) ∧ W.cell? ⟨w.heap.size, 2, none⟩ = some (.slice aB (nl a.den) ad) ∧ W.cell? ⟨(w.heap.size + 1), 0, none⟩ = some (.bool (sg b.num)) ∧ W.cell? ⟨(w.heap.size + 1), 1, none⟩ = some (.slice bA (nl (mg b.num)) bc) ∧ W.cell? ⟨(w.heap.size + 1), 2, none⟩ = some (.slice bB (nl b.den) bd))
    (first
      | exact ⟨qa0, qa1, qa2, qb0, qb1, qb2⟩
      | exact ⟨qa0_3, qa1_3, qa2_3, qb0_3, qb1_3, qb2_3⟩
      | exact ⟨qa0_4, qa1_4, qa2_4, qb0_4, qb1_4, qb2_4⟩
      | exact ⟨((Ra_4.other3 (by simp <;> omega)).c (i := 0) rfl), ((Ra_4.other3 (by simp <;> omega)).c (i := 1) rfl), ((Ra_4.other3 (by simp <;> omega)).c (i := 2) rfl), ((Rb_4.other3 (by simp <;> omega)).c (i := 0) rfl), ((Rb_4.other3 (by simp <;> omega)).c (i := 1) rfl), ((Rb_4.other3 (by simp <;> omega)).c (i := 2) rfl)⟩
      | go_keep)
    (first
      | (go_at_call 21; (with_reducible refine (C2_0.out _ hb gb).mono ?_); rintro e W3 ⟨Xm, cm, Ym, dm, rfl, hm, gm, hb3⟩; have ha_3 := ha.below hb3; have ga_3 := ga.below hb3; have hb_3 := hb.below hb3; have gb_3 := gb.below hb3; have Ra_3 := Ra.below hb3; have qa0_3 := cbl hb3 qa0; have qa1_3 := cbl hb3 qa1; have qa2_3 := cbl hb3 qa2; have Rb_3 := Rb.below hb3; have qb0_3 := cbl hb3 qb0; have qb1_3 := cbl hb3 qb1; have qb2_3 := cbl hb3 qb2; have Rr_3 := Rr.below hb3; have qr0_3 := cbl hb3 qr0; have qr1_3 := cbl hb3 qr1; have qr2_3 := cbl hb3 qr2; have HBT_3 := Below.cons HBT hb3)
      | (go_at_call 23; (with_reducible refine (C2_1.out _ _ _ _ _ ha_3 ga_3 hm gm).mono ?_); rintro e W4 ⟨Xq, cq, Yq, dq, rfl, hq, gq, hb4⟩; have ha_4 := ha_3.below hb4; have ga_4 := ga_3.below hb4; have hb_4 := hb_3.below hb4; have gb_4 := gb_3.below hb4; have Ra_4 := Ra_3.below hb4; have qa0_4 := cbl hb4 qa0_3; have qa1_4 := cbl hb4 qa1_3; have qa2_4 := cbl hb4 qa2_3; have Rb_4 := Rb_3.below hb4; have qb0_4 := cbl hb4 qb0_3; have qb1_4 := cbl hb4 qb1_3; have qb2_4 := cbl hb4 qb2_3; have Rr_4 := Rr_3.below hb4; have qr0_4 := cbl hb4 qr0_3; have qr1_4 := cbl hb4 qr1_3; have qr2_4 := cbl hb4 qr2_3; have hm_4 := hm.below hb4; have gm_4 := gm.below hb4; have HBT_4 := Below.cons HBT_3 hb4; have fz0 := Rr_4.f (i := 0); have fz1 := Rr_4.f (i := 1); have fz2 := Rr_4.f (i := 2)))
  all_goals (try go_wp2_with (fail))
  have hzq : q = a - b := by rw [Eq.out, Em.out, Rat.sub_eq_add_neg]
  subst hzq
  have RS := Rr_4.store3 (.bool (sg ((a - b)).num)) (.slice Xq (nl (mg ((a - b)).num)) cq) (.slice Yq (nl ((a - b)).den) dq)
  have e0 := RS.c (i := 0) rfl
  have e1 := RS.c (i := 1) rfl
  have e2 := RS.c (i := 2) rfl
  refine bodyPost_ret (v := .agg #[.bool (sg ((a - b)).num), .slice Xq (nl (mg ((a - b)).num)) cq, .slice Yq (nl ((a - b)).den) dq]) (by simp [results, Tryz.results19, go_sem, e0, e1, e2]) rfl ?_
  exact ⟨Xq, cq, Yq, dq, rfl, (Rr_4.keep3 (nuB rfl) hq), (Rr_4.keep3 (nuB rfl) gq), (Below.store3 HBT_4 (by first | exact Nat.le_refl _ | omega))⟩
theorem rat_same {a b : Rat} (h : a.num = b.num) : (a = b) ↔ a.den = b.den := ⟨fun e => by rw [e], fun e => Rat.ext h e⟩
theorem r9same_y (aA : Option Addr) (ac : Nat) (aB : Option Addr) (ad : Nat) (a : Rat) (bA : Option Addr) (bc : Nat) (bB : Option Addr) (bd : Nat) (b : Rat) (w : World) (ha : NatV w aA ac (mg a.num)) (ga : NatV w aB ad a.den) (hb : NatV w bA bc (mg b.num)) (gb : NatV w bB bd b.den) (la : nl (mg a.num) ≤ 1073741824) (ma : nl a.den ≤ 1073741824) (lb : nl (mg b.num) ≤ 1073741824) (mb : nl b.den ≤ 1073741824) (h0 : a.num = b.num) :
    Calls Tryz.prog 44 #[.agg #[.bool (sg a.num), .slice aA (nl (mg a.num)) ac, .slice aB (nl a.den) ad], .agg #[.bool (sg b.num), .slice bA (nl (mg b.num)) bc, .slice bB (nl b.den) bd]] w (fun e w' => e = .returned (.bool (decide (a.den = b.den))) ∧ Below w.heap.size w w') := by
  have ds : decide (a.num = b.num) = true := by simp; exact h0
  replace h0 := Lib.hid h0
  have kk : cmpN a.den b.den = 0 ↔ a.den = b.den := by unfold cmpN; split <;> (try split) <;> omega
  have eb : ((cmpN a.den b.den) == 0) = decide (a.den = b.den) := by rw [Bool.eq_iff_iff]; simp [kk]
  clear kk
  obtain ⟨cc, Ecc⟩ : ∃ z, z = cmpN a.den b.den := ⟨_, rfl⟩
  rw [← Ecc] at eb
  obtain ⟨hb1, Ra, Rb⟩ := bx2 w #[.bool (sg a.num), .slice aA (nl (mg a.num)) ac, .slice aB (nl a.den) ad] 26 #[.bool (sg b.num), .slice bA (nl (mg b.num)) bc, .slice bB (nl b.den) bd] 26
  replace ha := ha.below hb1
  replace ga := ga.below hb1
  replace hb := hb.below hb1
  replace gb := gb.below hb1
  have HBT := hb1
  clear hb1
  have qa0 := Ra.c (i := 0) rfl
  have qa1 := Ra.c (i := 1) rfl
  have qa2 := Ra.c (i := 2) rfl
  have qb0 := Rb.c (i := 0) rfl
  have qb1 := Rb.c (i := 1) rfl
  have qb2 := Rb.c (i := 2) rfl
  have CS := fun (W : World) (h1 : NatV W aA ac (mg a.num)) (h2 : NatV W bA bc (mg b.num)) => zsame_c aA ac a.num bA bc b.num W h1 h2 la lb
  rw [ds] at CS
  replace CS := Lib.hid CS
  have CC := fun (W : World) (h1 : NatV W aB ad a.den) (h2 : NatV W bB bd b.den) => rcmp_c aB ad a.den bB bd b.den W h1 h2 ma mb
  rw [← Ecc] at CC
  replace CC := Lib.hid CC
  replace Ecc := Lib.hid Ecc
  go_enter Tryz.func44, Tryz.ntmps44
  go_wp2_with (fail)
  refine (Calls.mono (CS.out _ ha hb) ?_)
  rintro e W2 ⟨rfl, hb2⟩
  replace ha := ha.below hb2
  replace ga := ga.below hb2
  replace hb := hb.below hb2
  replace gb := gb.below hb2
  replace Ra := Ra.below hb2
  replace qa0 := cbl hb2 qa0
  replace qa1 := cbl hb2 qa1
  replace qa2 := cbl hb2 qa2
  replace Rb := Rb.below hb2
  replace qb0 := cbl hb2 qb0
  replace qb1 := cbl hb2 qb1
  replace qb2 := cbl hb2 qb2
  replace HBT := Below.cons HBT hb2
  clear hb2
  go_wp2_with (fail)
  refine (Calls.mono (CC.out _ ga gb) ?_)
  rintro e w' ⟨rfl, hw⟩
  subst hw
  go_wp2_with (fail)
  go_ret
  exact ⟨rfl, HBT⟩
theorem r9same_n (aA : Option Addr) (ac : Nat) (aB : Option Addr) (ad : Nat) (a : Rat) (bA : Option Addr) (bc : Nat) (bB : Option Addr) (bd : Nat) (b : Rat) (w : World) (ha : NatV w aA ac (mg a.num)) (ga : NatV w aB ad a.den) (hb : NatV w bA bc (mg b.num)) (gb : NatV w bB bd b.den) (la : nl (mg a.num) ≤ 1073741824) (ma : nl a.den ≤ 1073741824) (lb : nl (mg b.num) ≤ 1073741824) (mb : nl b.den ≤ 1073741824) (h0 : a.num ≠ b.num) :
    Calls Tryz.prog 44 #[.agg #[.bool (sg a.num), .slice aA (nl (mg a.num)) ac, .slice aB (nl a.den) ad], .agg #[.bool (sg b.num), .slice bA (nl (mg b.num)) bc, .slice bB (nl b.den) bd]] w (fun e w' => e = .returned (.bool false) ∧ Below w.heap.size w w') := by
  have ds : decide (a.num = b.num) = false := by simp; exact h0
  replace h0 := Lib.hid h0
  obtain ⟨hb1, Ra, Rb⟩ := bx2 w #[.bool (sg a.num), .slice aA (nl (mg a.num)) ac, .slice aB (nl a.den) ad] 26 #[.bool (sg b.num), .slice bA (nl (mg b.num)) bc, .slice bB (nl b.den) bd] 26
  replace ha := ha.below hb1
  replace ga := ga.below hb1
  replace hb := hb.below hb1
  replace gb := gb.below hb1
  have HBT := hb1
  clear hb1
  have qa0 := Ra.c (i := 0) rfl
  have qa1 := Ra.c (i := 1) rfl
  have qa2 := Ra.c (i := 2) rfl
  have qb0 := Rb.c (i := 0) rfl
  have qb1 := Rb.c (i := 1) rfl
  have qb2 := Rb.c (i := 2) rfl
  have CS := fun (W : World) (h1 : NatV W aA ac (mg a.num)) (h2 : NatV W bA bc (mg b.num)) => zsame_c aA ac a.num bA bc b.num W h1 h2 la lb
  rw [ds] at CS
  replace CS := Lib.hid CS
  go_enter Tryz.func44, Tryz.ntmps44
  go_wp2_with (fail)
  refine (Calls.mono (CS.out _ ha hb) ?_)
  rintro e W2 ⟨rfl, hb2⟩
  replace ha := ha.below hb2
  replace ga := ga.below hb2
  replace hb := hb.below hb2
  replace gb := gb.below hb2
  replace Ra := Ra.below hb2
  replace qa0 := cbl hb2 qa0
  replace qa1 := cbl hb2 qa1
  replace qa2 := cbl hb2 qa2
  replace Rb := Rb.below hb2
  replace qb0 := cbl hb2 qb0
  replace qb1 := cbl hb2 qb1
  replace qb2 := cbl hb2 qb2
  replace HBT := Below.cons HBT hb2
  clear hb2
  go_wp2_with (fail)
  go_ret
  exact ⟨rfl, HBT⟩
theorem r9same_c (aA : Option Addr) (ac : Nat) (aB : Option Addr) (ad : Nat) (a : Rat) (bA : Option Addr) (bc : Nat) (bB : Option Addr) (bd : Nat) (b : Rat) (w : World) (ha : NatV w aA ac (mg a.num)) (ga : NatV w aB ad a.den) (hb : NatV w bA bc (mg b.num)) (gb : NatV w bB bd b.den) (la : nl (mg a.num) ≤ 1073741824) (ma : nl a.den ≤ 1073741824) (lb : nl (mg b.num) ≤ 1073741824) (mb : nl b.den ≤ 1073741824) :
    Calls Tryz.prog 44 #[.agg #[.bool (sg a.num), .slice aA (nl (mg a.num)) ac, .slice aB (nl a.den) ad], .agg #[.bool (sg b.num), .slice bA (nl (mg b.num)) bc, .slice bB (nl b.den) bd]] w fun e w' => e = .returned (.bool (decide (a = b))) ∧ Below w.heap.size w w' := by
  by_cases h : a.num = b.num
  · rw [show decide (a = b) = decide (a.den = b.den) by rw [decide_eq_decide]; exact rat_same h]; exact r9same_y aA ac aB ad a bA bc bB bd b w ha ga hb gb la ma lb mb h
  · rw [decide_eq_false (fun e => h (by rw [e]))]; exact r9same_n aA ac aB ad a bA bc bB bd b w ha ga hb gb la ma lb mb h
end Go.Proofs.YtpaffggdeedopaaGreatDoor

/- Dyadic numbers, walked: Rat; directions. -/
set_option linter.unusedVariables false
set_option linter.unusedSimpArgs false
namespace Go.Proofs.YtpaffggdeedopaaGreatDoor
open Go.RowKit Go.Shelf
attribute [local go_sem] max2_i min2_i max_two min_two

theorem iof1_c (w : World) : Calls Tryz.prog 108 #[.int .i64 1] w (RetI w 1) := iof_c 1 w (by decide)
theorem shf_one (k : Nat) : shf 1 (k : Int) = ((2 ^ k : Nat) : Int) := by
  unfold shf; rw [if_pos (Int.natCast_nonneg k), Int.toNat_natCast, Int.one_mul, Int.natCast_pow]; rfl
theorem rat_up {a : Rat} (h : Dyd a) (h0 : 0 ≤ dex a) : ((shf (dmn a) (dex a) : Int) : Rat) = a := by
  have h1 := lev h (E := 0) h0
  rw [Int.sub_zero] at h1
  unfold dval at h1
  rw [Rat.zpow_zero, Rat.mul_one] at h1
  exact h1
theorem rat_down {a : Rat} {k : Nat} (h : Dyd a) (hk : dex a = -(k : Int)) : Rat.divInt (dmn a) ((2 ^ k : Nat) : Int) = a := by
  have h1 := dval_q h
  rw [hk, dval_den] at h1
  rw [Rat.divInt_ofNat]; exact h1
theorem drat_up (aA : Option Addr) (ac : Nat) (a : Rat) (w : World) (ha : NatV w aA ac (mg (dmn a))) (oa : DOk a) (h0 : 0 ≤ dex a) :
    Calls Tryz.prog 45 #[.agg #[.bool (sg (dmn a)), .slice aA (nl (mg (dmn a))) ac, .int .i64 (dex a)]] w (RetR w a) := by
  have hl := oa.l
  have he := oa.e
  have hv := rat_up oa.d h0
  have t1 : decide (0 ≤ dex a) = true := by simp; exact h0
  have hr : -16777216 ≤ dex a ∧ dex a ≤ 16777216 := by omega
  replace hv := Lib.hid hv
  replace oa := Lib.hid oa
  replace h0 := Lib.hid h0
  replace he := Lib.hid he
  obtain ⟨hb1, Ra, Rr⟩ := bx2 w #[.bool (sg (dmn a)), .slice aA (nl (mg (dmn a))) ac, .int .i64 (dex a)] 31 #[.bool false, .slice none 0 0, .slice none 0 0] 26
  replace ha := ha.below hb1
  have HBT := hb1
  clear hb1
  have qa0 := Ra.c (i := 0) rfl
  have qa1 := Ra.c (i := 1) rfl
  have qa2 := Ra.c (i := 2) rfl
  have qr0 := Rr.c (i := 0) rfl
  have qr1 := Rr.c (i := 1) rfl
  have qr2 := Rr.c (i := 2) rfl
  go_enter Tryz.func45, Tryz.ntmps45
  go_wp2_with (fail)
  obtain ⟨z, Ez⟩ : ∃ zq : Int, zq = shf (dmn a) (dex a) := ⟨_, rfl⟩
  refine (Calls.mono (R := RetI ((w.alloc (.cells #[.bool (sg (dmn a)), .slice aA (nl (mg (dmn a))) ac, .int .i64 (dex a)] 31)).alloc (.cells #[.bool false, .slice none 0 0, .slice none 0 0] 26)) z) (by rw [Ez]; with_reducible exact (ishift_c aA ac (dmn a) (dex a) _ ha (by omega) hr)) ?_)
  replace Ez := Lib.hid Ez
  rintro e W2 ⟨Xz, cz, rfl, hz, hb2⟩
  replace ha := ha.below hb2
  replace Ra := Ra.below hb2
  replace qa0 := cbl hb2 qa0
  replace qa1 := cbl hb2 qa1
  replace qa2 := cbl hb2 qa2
  replace Rr := Rr.below hb2
  replace qr0 := cbl hb2 qr0
  replace qr1 := cbl hb2 qr1
  replace qr2 := cbl hb2 qr2
  replace HBT := Below.cons HBT hb2
  clear hb2
  go_wp2_with (fail)
  obtain ⟨q, Eq⟩ : ∃ zq : Rat, zq = (z : Rat) := ⟨_, rfl⟩
  refine (Calls.mono (R := RetR W2 q) (by rw [Eq]; with_reducible exact (rwhole_c Xz cz z _ hz)) ?_)
  replace Eq := Lib.hid Eq
  rintro e W3 ⟨Xq, cq, Yq, dq, rfl, hq, gq, hb3⟩
  replace ha := ha.below hb3
  replace Ra := Ra.below hb3
  replace qa0 := cbl hb3 qa0
  replace qa1 := cbl hb3 qa1
  replace qa2 := cbl hb3 qa2
  replace Rr := Rr.below hb3
  replace qr0 := cbl hb3 qr0
  replace qr1 := cbl hb3 qr1
  replace qr2 := cbl hb3 qr2
  replace hz := hz.below hb3
  replace HBT := Below.cons HBT hb3
  clear hb3
  have fzr0 := Rr.f (i := 0)
  have fzr1 := Rr.f (i := 1)
  have fzr2 := Rr.f (i := 2)
  go_wp2_with (fail)
  have hzq : q = a := by rw [Eq.out, Ez.out]; exact hv.out
  subst hzq
  have RS := Rr.store3 (.bool (sg q.num)) (.slice Xq (nl (mg q.num)) cq) (.slice Yq (nl q.den) dq)
  have e0 := RS.c (i := 0) rfl
  have e1 := RS.c (i := 1) rfl
  have e2 := RS.c (i := 2) rfl
  refine bodyPost_ret (v := .agg #[.bool (sg q.num), .slice Xq (nl (mg q.num)) cq, .slice Yq (nl q.den) dq]) (by simp [results, Tryz.results45, go_sem, e0, e1, e2]) rfl ?_
  exact ⟨Xq, cq, Yq, dq, rfl, (Rr.keep3 (nuB rfl) hq), (Rr.keep3 (nuB rfl) gq), (Below.store3 HBT (by first | exact Nat.le_refl _ | omega))⟩
theorem ways_c (w : World) :
    Calls Tryz.prog 80 #[] w fun e w' => e = .returned (.agg #[.func (.func 133) #[] #[], .func (.func 134) #[] #[], .func (.func 135) #[] #[], .func (.func 136) #[] #[], .func (.func 137) #[] #[]]) ∧ Below w.heap.size w w' := by
  go_enter Tryz.func80, Tryz.ntmps80
  go_wp2_with (fail)
  have hb : Below w.heap.size w (w.alloc (.cells #[.func (.func 133) #[] #[], .func (.func 134) #[] #[], .func (.func 135) #[] #[], .func (.func 136) #[] #[], .func (.func 137) #[] #[]] 92)) := (Below.refl _ _).alloc (Nat.le_refl _) _
  have RS : BoxA (w.alloc (.cells #[.func (.func 133) #[] #[], .func (.func 134) #[] #[], .func (.func 135) #[] #[], .func (.func 136) #[] #[], .func (.func 137) #[] #[]] 92)) w.heap.size 92 _ := ⟨at_new rfl⟩
  have e0 := RS.c (i := 0) rfl
  have e1 := RS.c (i := 1) rfl
  have e2 := RS.c (i := 2) rfl
  have e3 := RS.c (i := 3) rfl
  have e4 := RS.c (i := 4) rfl
  exact bodyPost_ret (v := .agg #[.func (.func 133) #[] #[], .func (.func 134) #[] #[], .func (.func 135) #[] #[], .func (.func 136) #[] #[], .func (.func 137) #[] #[]]) (by simp [results, Tryz.results80, go_sem, e0, e1, e2, e3, e4]) rfl ⟨rfl, hb⟩
end Go.Proofs.YtpaffggdeedopaaGreatDoor

/- Dyadic numbers, walked: Rat, down. -/
set_option linter.unusedVariables false
set_option linter.unusedSimpArgs false
namespace Go.Proofs.YtpaffggdeedopaaGreatDoor
open Go.RowKit Go.Shelf
attribute [local go_sem] max2_i min2_i max_two min_two
theorem drat_down (aA : Option Addr) (ac : Nat) (a : Rat) (w : World) (ha : NatV w aA ac (mg (dmn a))) (oa : DOk a) (h0 : dex a < 0) :
    Calls Tryz.prog 45 #[.agg #[.bool (sg (dmn a)), .slice aA (nl (mg (dmn a))) ac, .int .i64 (dex a)]] w (RetR w a) := by
  have hl := oa.l
  have he := oa.e
  obtain ⟨k, hk⟩ := Int.eq_ofNat_of_zero_le (show 0 ≤ -dex a by omega)
  have hv := rat_down (k := k) oa.d (by omega)
  have t1 : decide (0 ≤ dex a) = false := by simp; exact h0
  have lk : k ≤ 1000000 := by omega
  have Wk : IntKind.i64.wrap (k : Int) = (k : Int) := IntWalk.i64_in _ (by omega)
  replace hv := Lib.hid hv
  replace oa := Lib.hid oa
  replace h0 := Lib.hid h0
  replace he := Lib.hid he
  obtain ⟨p, Ep⟩ : ∃ zq : Int, zq = shf 1 (k : Int) := ⟨_, rfl⟩
  have Vp : p = ((2 ^ k : Nat) : Int) := by rw [Ep]; exact shf_one k
  have Pp : 0 < p := by rw [Vp]; have := Nat.two_pow_pos k; omega
  have Np : nl (mg p) ≤ 262144 := by rw [Vp, mg_nat, nl_two_pow]; omega
  have N1 : nl (mg 1) ≤ 1 := Nat.le_of_eq nl_one
  have CS := fun (W : World) (A : Option Addr) (c : Nat) (h1 : NatV W A c (mg 1)) => ishift_c A c 1 (k : Int) W h1 (by omega) (by omega)
  rw [← Ep] at CS
  obtain ⟨q, Eq⟩ : ∃ zq : Rat, zq = Rat.divInt (dmn a) p := ⟨_, rfl⟩
  have CM := fun (W : World) (A : Option Addr) (c : Nat) (h1 : NatV W aA ac (mg (dmn a))) (h2 : NatV W A c (mg p)) => rmake_q aA ac (dmn a) A c p W h1 h2 (by omega) Np Pp
  rw [← Eq] at CM
  have eqq : q = a := by rw [Eq, Vp]; exact hv.out
  replace Ep := Lib.hid Ep
  replace Vp := Lib.hid Vp
  replace Eq := Lib.hid Eq
  replace eqq := Lib.hid eqq
  replace CS := Lib.hid CS
  replace CM := Lib.hid CM
  obtain ⟨hb1, Ra, Rr⟩ := bx2 w #[.bool (sg (dmn a)), .slice aA (nl (mg (dmn a))) ac, .int .i64 (dex a)] 31 #[.bool false, .slice none 0 0, .slice none 0 0] 26
  replace ha := ha.below hb1
  have HBT := hb1
  clear hb1
  have qa0 := Ra.c (i := 0) rfl
  have qa1 := Ra.c (i := 1) rfl
  have qa2 := Ra.c (i := 2) rfl
  have qr0 := Rr.c (i := 0) rfl
  have qr1 := Rr.c (i := 1) rfl
  have qr2 := Rr.c (i := 2) rfl
  go_enter Tryz.func45, Tryz.ntmps45
  go_wp2_with (fail)
  generalize hW0 : ((w.alloc (.cells #[.bool (sg (dmn a)), .slice aA (nl (mg (dmn a))) ac, .int .i64 (dex a)] 31)).alloc (.cells #[.bool false, .slice none 0 0, .slice none 0 0] 26)) = W0 at *
  replace hW0 := Lib.hid hW0
  refine wp_region_inv (fun E a' w' => ∃ (u15 u16 u17 u18 u19 u20 u21 u22 u14 u23 u24 u3 u4 : Value),
    a' = { tmps := #[.agg #[.bool (sg (dmn a)), .slice aA (nl (mg (dmn a))) ac, .int .i64 (dex a)], .pointer (some ⟨w.heap.size, 0, none⟩), .pointer (some ⟨w.heap.size + 1, 0, none⟩), u3, u4, .pointer (some ⟨w.heap.size, 2, none⟩), .int .i64 (dex a), .bool false, undef, undef, undef, undef, undef, undef, u14, u15, u16, u17, u18, u19, u20, u21, u22, u23, u24, undef], defers := [] } ∧
    (E 0 = true → u15 = .pointer (some ⟨w.heap.size, 0, none⟩)) ∧
    (E 1 = true → u16 = .agg #[.bool (sg (dmn a)), .slice aA (nl (mg (dmn a))) ac]) ∧
    (E 2 = true → PI u17 1 w') ∧
    (E 3 = true → u18 = .pointer (some ⟨w.heap.size, 2, none⟩)) ∧
    (E 4 = true → u19 = .int .i64 (dex a)) ∧
    (E 5 = true → u20 = .int .i64 k) ∧
    (E 6 = true → PI u21 p w') ∧
    (E 7 = true → PRt u22 q w') ∧
    (E 8 = true → PRt u14 q w') ∧
    (E 9 = true → PR u23 q w') ∧
    (E 10 = true → u24 = .int .i64 0) ∧
    (E 11 = true → PB3 26 W0.heap.size u3 w') ∧
    (E 12 = true → PBR W0.heap.size u3 q w') ∧
    (E 13 = true → u4 = .int .i64 0) ∧
    (E 12 = true → E 11 = true) ∧
    Below W0.heap.size W0 w') (by kernel_rfl) (by kernel_rfl) ?init ?fin ?step
  case init => exact ⟨_, _, _, _, _, _, _, _, _, _, _, _, _, rfl, by simp, by simp, by simp, by simp, by simp, by simp, by simp, by simp, by simp, by simp, by simp, by simp, by simp, by simp, by simp, (Below.refl _ _).drew⟩
  case step =>
    rintro E a' w' i ⟨u15, u16, u17, u18, u19, u20, u21, u22, u14, u23, u24, u3, u4, rfl, h0, h1, h2, h3, h4, h5, h6, h7, h8, h9, h10, h11, h12, h13, hD12, hB⟩ hi hEi hdep
    have qa0 := cbl hB qa0
    have qa1 := cbl hB qa1
    have qa2 := cbl hB qa2
    obtain rfl | rfl | rfl | rfl | rfl | rfl | rfl | rfl | rfl | rfl | rfl | rfl | rfl | rfl : i = 0 ∨ i = 1 ∨ i = 2 ∨ i = 3 ∨ i = 4 ∨ i = 5 ∨ i = 6 ∨ i = 7 ∨ i = 8 ∨ i = 9 ∨ i = 10 ∨ i = 11 ∨ i = 12 ∨ i = 13 := by simp at hi; omega
    · skip
      refine wpOp_step rfl (fun K' hK' => ?_)
      go_simp
      refine hK' _ _ ?_
      exact ⟨_, _, _, _, _, _, _, _, _, _, _, _, _, rfl, fun _ => rfl, keepD (by decide) h1, keepD (by decide) h2, keepD (by decide) h3, keepD (by decide) h4, keepD (by decide) h5, keepD (by decide) h6, keepD (by decide) h7, keepD (by decide) h8, keepD (by decide) h9, keepD (by decide) h10, keepD (by decide) h11, keepD (by decide) h12, keepD (by decide) h13, (fun h => by have := hD12 (by simpa using h); simpa using this), hB⟩
    · skip
      have d0 := hdep _ rfl ⟨0, .data⟩ (by simp) rfl
      obtain rfl := h0 d0
      refine wpOp_step rfl (fun K' hK' => ?_)
      go_simp
      refine hK' _ _ ?_
      exact ⟨_, _, _, _, _, _, _, _, _, _, _, _, _, rfl, keepD (by decide) h0, fun _ => rfl, keepD (by decide) h2, keepD (by decide) h3, keepD (by decide) h4, keepD (by decide) h5, keepD (by decide) h6, keepD (by decide) h7, keepD (by decide) h8, keepD (by decide) h9, keepD (by decide) h10, keepD (by decide) h11, keepD (by decide) h12, keepD (by decide) h13, (fun h => by have := hD12 (by simpa using h); simpa using this), hB⟩
    · skip
      refine wpOp_step rfl (fun K' hK' => ?_)
      go_simp
      refine (Calls.mono (iof1_c w') ?_)
      rintro e W1 ⟨Xr, cr, rfl, kr, kb⟩
      refine hK' _ _ ?_
      exact ⟨_, _, _, _, _, _, _, _, _, _, _, _, _, rfl, keepD (by decide) h0, keepD (by decide) h1, fun _ => ⟨Xr, cr, rfl, kr⟩, keepD (by decide) h3, keepD (by decide) h4, keepD (by decide) h5, keepP (by decide) h6 (fun h => h.below kb), keepP (by decide) h7 (fun h => h.below kb), keepP (by decide) h8 (fun h => h.below kb), keepP (by decide) h9 (fun h => h.below kb), keepD (by decide) h10, keepP (by decide) h11 (fun h => h.below kb), keepP (by decide) h12 (fun h => h.below kb), keepD (by decide) h13, (fun h => by have := hD12 (by simpa using h); simpa using this), Below.cons hB kb⟩
    · skip
      refine wpOp_step rfl (fun K' hK' => ?_)
      go_simp
      refine hK' _ _ ?_
      exact ⟨_, _, _, _, _, _, _, _, _, _, _, _, _, rfl, keepD (by decide) h0, keepD (by decide) h1, keepD (by decide) h2, fun _ => rfl, keepD (by decide) h4, keepD (by decide) h5, keepD (by decide) h6, keepD (by decide) h7, keepD (by decide) h8, keepD (by decide) h9, keepD (by decide) h10, keepD (by decide) h11, keepD (by decide) h12, keepD (by decide) h13, (fun h => by have := hD12 (by simpa using h); simpa using this), hB⟩
    · skip
      have d3 := hdep _ rfl ⟨3, .data⟩ (by simp) rfl
      obtain rfl := h3 d3
      refine wpOp_step rfl (fun K' hK' => ?_)
      go_simp
      refine hK' _ _ ?_
      exact ⟨_, _, _, _, _, _, _, _, _, _, _, _, _, rfl, keepD (by decide) h0, keepD (by decide) h1, keepD (by decide) h2, keepD (by decide) h3, fun _ => rfl, keepD (by decide) h5, keepD (by decide) h6, keepD (by decide) h7, keepD (by decide) h8, keepD (by decide) h9, keepD (by decide) h10, keepD (by decide) h11, keepD (by decide) h12, keepD (by decide) h13, (fun h => by have := hD12 (by simpa using h); simpa using this), hB⟩
    · skip
      have d4 := hdep _ rfl ⟨4, .data⟩ (by simp) rfl
      obtain rfl := h4 d4
      refine wpOp_step rfl (fun K' hK' => ?_)
      go_simp
      refine hK' _ _ ?_
      exact ⟨_, _, _, _, _, _, _, _, _, _, _, _, _, rfl, keepD (by decide) h0, keepD (by decide) h1, keepD (by decide) h2, keepD (by decide) h3, keepD (by decide) h4, fun _ => rfl, keepD (by decide) h6, keepD (by decide) h7, keepD (by decide) h8, keepD (by decide) h9, keepD (by decide) h10, keepD (by decide) h11, keepD (by decide) h12, keepD (by decide) h13, (fun h => by have := hD12 (by simpa using h); simpa using this), hB⟩
    · skip
      have d2 := hdep _ rfl ⟨2, .data⟩ (by simp) rfl
      obtain ⟨X_2, c_2, rfl, k_2⟩ := h2 d2
      have d5 := hdep _ rfl ⟨5, .data⟩ (by simp) rfl
      obtain rfl := h5 d5
      refine wpOp_step rfl (fun K' hK' => ?_)
      go_simp
      refine (Calls.mono (CS.out w' _ _ k_2) ?_)
      rintro e W1 ⟨Xr, cr, rfl, kr, kb⟩
      refine hK' _ _ ?_
      exact ⟨_, _, _, _, _, _, _, _, _, _, _, _, _, rfl, keepD (by decide) h0, keepD (by decide) h1, keepP (by decide) h2 (fun h => h.below kb), keepD (by decide) h3, keepD (by decide) h4, keepD (by decide) h5, fun _ => ⟨Xr, cr, rfl, kr⟩, keepP (by decide) h7 (fun h => h.below kb), keepP (by decide) h8 (fun h => h.below kb), keepP (by decide) h9 (fun h => h.below kb), keepD (by decide) h10, keepP (by decide) h11 (fun h => h.below kb), keepP (by decide) h12 (fun h => h.below kb), keepD (by decide) h13, (fun h => by have := hD12 (by simpa using h); simpa using this), Below.cons hB kb⟩
    · skip
      have d1 := hdep _ rfl ⟨1, .data⟩ (by simp) rfl
      obtain rfl := h1 d1
      have d6 := hdep _ rfl ⟨6, .data⟩ (by simp) rfl
      obtain ⟨X_6, c_6, rfl, k_6⟩ := h6 d6
      refine wpOp_step rfl (fun K' hK' => ?_)
      go_simp
      refine (Calls.mono (CM.out w' _ _ (ha.below hB) k_6) ?_)
      rintro e W1 ⟨Xr, cr, Yr, dr, rfl, kr, lr, kb⟩
      refine hK' _ _ ?_
      exact ⟨_, _, _, _, _, _, _, _, _, _, _, _, _, rfl, keepD (by decide) h0, keepD (by decide) h1, keepP (by decide) h2 (fun h => h.below kb), keepD (by decide) h3, keepD (by decide) h4, keepD (by decide) h5, keepP (by decide) h6 (fun h => h.below kb), fun _ => ⟨Xr, cr, Yr, dr, rfl, kr, lr⟩, keepP (by decide) h8 (fun h => h.below kb), keepP (by decide) h9 (fun h => h.below kb), keepD (by decide) h10, keepP (by decide) h11 (fun h => h.below kb), keepP (by decide) h12 (fun h => h.below kb), keepD (by decide) h13, (fun h => by have := hD12 (by simpa using h); simpa using this), Below.cons hB kb⟩
    · skip
      have d7 := hdep _ rfl ⟨7, .data⟩ (by simp) rfl
      obtain ⟨X_7, c_7, Y_7, d_7, rfl, k_7, l_7⟩ := h7 d7
      refine wpOp_step rfl (fun K' hK' => ?_)
      go_simp
      refine hK' _ _ ?_
      exact ⟨_, _, _, _, _, _, _, _, _, _, _, _, _, rfl, keepD (by decide) h0, keepD (by decide) h1, keepD (by decide) h2, keepD (by decide) h3, keepD (by decide) h4, keepD (by decide) h5, keepD (by decide) h6, keepD (by decide) h7, fun _ => ⟨X_7, c_7, Y_7, d_7, rfl, k_7, l_7⟩, keepD (by decide) h9, keepD (by decide) h10, keepD (by decide) h11, keepD (by decide) h12, keepD (by decide) h13, (fun h => by have := hD12 (by simpa using h); simpa using this), hB⟩
    · skip
      have d8 := hdep _ rfl ⟨8, .data⟩ (by simp) rfl
      obtain ⟨X_8, c_8, Y_8, d_8, rfl, k_8, l_8⟩ := h8 d8
      refine wpOp_step rfl (fun K' hK' => ?_)
      go_simp
      refine hK' _ _ ?_
      exact ⟨_, _, _, _, _, _, _, _, _, _, _, _, _, rfl, keepD (by decide) h0, keepD (by decide) h1, keepD (by decide) h2, keepD (by decide) h3, keepD (by decide) h4, keepD (by decide) h5, keepD (by decide) h6, keepD (by decide) h7, keepD (by decide) h8, fun _ => ⟨X_8, c_8, Y_8, d_8, rfl, k_8, l_8⟩, keepD (by decide) h10, keepD (by decide) h11, keepD (by decide) h12, keepD (by decide) h13, (fun h => by have := hD12 (by simpa using h); simpa using this), hB⟩
    · skip
      have d8 := hdep _ rfl ⟨8, .data⟩ (by simp) rfl
      obtain ⟨X_8, c_8, Y_8, d_8, rfl, k_8, l_8⟩ := h8 d8
      refine wpOp_step rfl (fun K' hK' => ?_)
      go_simp
      refine hK' _ _ ?_
      exact ⟨_, _, _, _, _, _, _, _, _, _, _, _, _, rfl, keepD (by decide) h0, keepD (by decide) h1, keepD (by decide) h2, keepD (by decide) h3, keepD (by decide) h4, keepD (by decide) h5, keepD (by decide) h6, keepD (by decide) h7, keepD (by decide) h8, keepD (by decide) h9, fun _ => rfl, keepD (by decide) h11, keepD (by decide) h12, keepD (by decide) h13, (fun h => by have := hD12 (by simpa using h); simpa using this), hB⟩
    · skip
      have kb : Below w'.heap.size w' (w'.alloc (.cells #[.bool false, .slice none 0 0, .slice none 0 0] 26)) := (Below.refl _ _).alloc (Nat.le_refl _) _
      refine wpOp_step rfl (fun K' hK' => ?_)
      go_simp
      refine hK' _ _ ?_
      exact ⟨_, _, _, _, _, _, _, _, _, _, _, _, _, rfl, keepD (by decide) h0, keepD (by decide) h1, keepP (by decide) h2 (fun h => h.below kb), keepD (by decide) h3, keepD (by decide) h4, keepD (by decide) h5, keepP (by decide) h6 (fun h => h.below kb), keepP (by decide) h7 (fun h => h.below kb), keepP (by decide) h8 (fun h => h.below kb), keepP (by decide) h9 (fun h => h.below kb), keepD (by decide) h10, fun _ => ⟨_, _, _, _, rfl, hB.size, ⟨at_new rfl⟩, notU_bool _, notU_slice _ _ _, notU_slice _ _ _⟩, (fun h => by have h2 := hD12 (by simpa using h); rw [hEi] at h2; cases h2), keepD (by decide) h13, (fun _ => by simp), Below.cons hB kb⟩
    · skip
      have d11 := hdep _ rfl ⟨11, .data⟩ (by simp) rfl
      obtain ⟨nb, z0, z1, z2, rfl, hn, hb, nz0, nz1, nz2⟩ := h11 d11
      have d9 := hdep _ rfl ⟨9, .data⟩ (by simp) rfl
      obtain ⟨X_9, c_9, Y_9, d_9, rfl, k_9, l_9⟩ := h9 d9
      have fz0 := hb.f (i := 0)
      have cz0 := hb.c (i := 0) rfl
      have fz1 := hb.f (i := 1)
      have cz1 := hb.c (i := 1) rfl
      have fz2 := hb.f (i := 2)
      have cz2 := hb.c (i := 2) rfl
      have hp := hb.put3 (notU3 nz0 nz1 nz2) (.bool (sg q.num)) (.slice X_9 (nl (mg q.num)) c_9) (.slice Y_9 (nl q.den) d_9)
      have hs := hb.store3 (.bool (sg q.num)) (.slice X_9 (nl (mg q.num)) c_9) (.slice Y_9 (nl q.den) d_9)
      refine wpOp_step rfl (fun K' hK' => ?_)
      go_simp
      refine hK' _ _ ?_
      exact ⟨_, _, _, _, _, _, _, _, _, _, _, _, _, rfl, keepD (by decide) h0, keepD (by decide) h1, keepP (by decide) h2 (fun h => h.put hp), keepD (by decide) h3, keepD (by decide) h4, keepD (by decide) h5, keepP (by decide) h6 (fun h => h.put hp), keepP (by decide) h7 (fun h => h.put hp), keepP (by decide) h8 (fun h => h.put hp), keepP (by decide) h9 (fun h => h.put hp), keepD (by decide) h10, (fun _ => ⟨nb, _, _, _, rfl, hn, hs, notU_bool _, notU_slice _ _ _, notU_slice _ _ _⟩), fun _ => ⟨nb, X_9, c_9, Y_9, d_9, rfl, hn, hs, hp.nat k_9, hp.nat l_9⟩, keepD (by decide) h13, (fun _ => by simp [d11]), Below.store3 hB hn⟩
    · skip
      have d10 := hdep _ rfl ⟨10, .data⟩ (by simp) rfl
      obtain rfl := h10 d10
      refine wpOp_step rfl (fun K' hK' => ?_)
      go_simp
      refine hK' _ _ ?_
      exact ⟨_, _, _, _, _, _, _, _, _, _, _, _, _, rfl, keepD (by decide) h0, keepD (by decide) h1, keepD (by decide) h2, keepD (by decide) h3, keepD (by decide) h4, keepD (by decide) h5, keepD (by decide) h6, keepD (by decide) h7, keepD (by decide) h8, keepD (by decide) h9, keepD (by decide) h10, keepD (by decide) h11, keepD (by decide) h12, fun _ => rfl, (fun h => by have := hD12 (by simpa using h); simpa using this), hB⟩
  case fin =>
    rintro E a' w' ⟨u15, u16, u17, u18, u19, u20, u21, u22, u14, u23, u24, u3, u4, rfl, h0, h1, h2, h3, h4, h5, h6, h7, h8, h9, h10, h11, h12, h13, hD12, hB⟩ hall
    obtain ⟨nbq, Xq, cq, Yq, dq, rfl, hnq, Rq, hq, gq⟩ := h12 (hall 12 (by simp))
    replace ha := ha.below hB
    replace Ra := Ra.below hB
    replace qa0 := cbl hB qa0
    replace qa1 := cbl hB qa1
    replace qa2 := cbl hB qa2
    replace Rr := Rr.below hB
    replace qr0 := cbl hB qr0
    replace qr1 := cbl hB qr1
    replace qr2 := cbl hB qr2
    replace HBT := Below.cons HBT hB
    clear hall
    have kvq := hnq
    have qq0 := Rq.c (i := 0) rfl
    have qq1 := Rq.c (i := 1) rfl
    have qq2 := Rq.c (i := 2) rfl
    have hz : w.heap.size + 2 = W0.heap.size := by rw [← hW0.out]; simp
    have fzr0 := Rr.f (i := 0)
    have fzr1 := Rr.f (i := 1)
    have fzr2 := Rr.f (i := 2)
    go_wp2_with (fail)
    have hzq : q = a := by exact eqq.out
    subst hzq
    have RS := Rr.store3 (.bool (sg q.num)) (.slice Xq (nl (mg q.num)) cq) (.slice Yq (nl q.den) dq)
    have e0 := RS.c (i := 0) rfl
    have e1 := RS.c (i := 1) rfl
    have e2 := RS.c (i := 2) rfl
    refine bodyPost_ret (v := .agg #[.bool (sg q.num), .slice Xq (nl (mg q.num)) cq, .slice Yq (nl q.den) dq]) (by simp [results, Tryz.results45, go_sem, e0, e1, e2]) rfl ?_
    exact ⟨Xq, cq, Yq, dq, rfl, (Rr.keep3 (nuB rfl) hq), (Rr.keep3 (nuB rfl) gq), (Below.store3 HBT (by first | exact Nat.le_refl _ | omega))⟩
theorem drat_c (aA : Option Addr) (ac : Nat) (a : Rat) (w : World) (ha : NatV w aA ac (mg (dmn a))) (oa : DOk a) :
    Calls Tryz.prog 45 #[.agg #[.bool (sg (dmn a)), .slice aA (nl (mg (dmn a))) ac, .int .i64 (dex a)]] w (RetR w a) := by
  by_cases h : 0 ≤ dex a
  · exact drat_up aA ac a w ha oa h
  · exact drat_down aA ac a w ha oa (by omega)
end Go.Proofs.YtpaffggdeedopaaGreatDoor

/- Directions, walked. -/
set_option linter.unusedVariables false
set_option linter.unusedSimpArgs false
namespace Go.Proofs.YtpaffggdeedopaaGreatDoor
open Go.RowKit Go.Shelf
attribute [local go_sem] max2_i min2_i max_two min_two

theorem way1_c (neg odd : Bool) (h b : Int) (w : World) :
    Calls Tryz.prog 133 #[.bool neg, .bool odd, .int .i64 (icmp h b)] w fun e w' => e = .returned (.bool (upw neg odd (h - b) 0)) ∧ Below w.heap.size w w' := by
  have hu : upw neg odd (h - b) 0 = (false) := rfl
  rw [hu]
  go_enter Tryz.func133, Tryz.ntmps133
  go_wp2_with (fail)
  go_ret
  exact ⟨rfl, Below.refl _ _⟩
theorem way2_c (neg odd : Bool) (h b : Int) (w : World) :
    Calls Tryz.prog 134 #[.bool neg, .bool odd, .int .i64 (icmp h b)] w fun e w' => e = .returned (.bool (upw neg odd (h - b) 1)) ∧ Below w.heap.size w w' := by
  have hu : upw neg odd (h - b) 1 = (true) := rfl
  rw [hu]
  go_enter Tryz.func134, Tryz.ntmps134
  go_wp2_with (fail)
  go_ret
  exact ⟨rfl, Below.refl _ _⟩
theorem way3_c (neg odd : Bool) (h b : Int) (w : World) :
    Calls Tryz.prog 135 #[.bool neg, .bool odd, .int .i64 (icmp h b)] w fun e w' => e = .returned (.bool (upw neg odd (h - b) 2)) ∧ Below w.heap.size w w' := by
  have hu : upw neg odd (h - b) 2 = (neg) := rfl
  rw [hu]
  go_enter Tryz.func135, Tryz.ntmps135
  go_wp2_with (fail)
  go_ret
  exact ⟨rfl, Below.refl _ _⟩
theorem way4_c (neg odd : Bool) (h b : Int) (w : World) :
    Calls Tryz.prog 136 #[.bool neg, .bool odd, .int .i64 (icmp h b)] w fun e w' => e = .returned (.bool (upw neg odd (h - b) 3)) ∧ Below w.heap.size w w' := by
  have hu : upw neg odd (h - b) 3 = (!neg) := rfl
  rw [hu]
  go_enter Tryz.func136, Tryz.ntmps136
  go_wp2_with (fail)
  go_ret
  exact ⟨rfl, Below.refl _ _⟩
theorem icmp_lt {h b : Int} (k : h < b) : icmp h b = -1 := by unfold icmp; rw [if_pos k]
theorem icmp_gt {h b : Int} (k : b < h) : icmp h b = 1 := by unfold icmp; rw [if_neg (by omega), if_pos k]
theorem icmp_eq {h b : Int} (k : h = b) : icmp h b = 0 := by unfold icmp; rw [if_neg (by omega), if_neg (by omega)]
theorem way5_c (neg odd : Bool) (h b : Int) (w : World) :
    Calls Tryz.prog 137 #[.bool neg, .bool odd, .int .i64 (icmp h b)] w fun e w' => e = .returned (.bool (upw neg odd (h - b) 4)) ∧ Below w.heap.size w w' := by
  have hu : upw neg odd (h - b) 4 = (decide (0 < h - b) || (decide (h - b = 0) && odd)) := rfl
  rw [hu]
  rcases Int.lt_trichotomy h b with k | k | k
  · have e1 : (decide (0 < h - b) || (decide (h - b = 0) && odd)) = false := by simp; omega
    rw [icmp_lt k, e1]
    go_enter Tryz.func137, Tryz.ntmps137
    go_wp2_with (fail)
    go_ret
    exact ⟨rfl, Below.refl _ _⟩
  · have e1 : (decide (0 < h - b) || (decide (h - b = 0) && odd)) = odd := by
      rw [decide_eq_false (by omega), decide_eq_true (by omega)]; simp
    rw [icmp_eq k, e1]
    go_enter Tryz.func137, Tryz.ntmps137
    go_wp2_with (fail)
    go_ret
    exact ⟨rfl, Below.refl _ _⟩
  · have e1 : (decide (0 < h - b) || (decide (h - b = 0) && odd)) = true := by
      rw [decide_eq_true (by omega)]; simp
    rw [icmp_gt k, e1]
    go_enter Tryz.func137, Tryz.ntmps137
    go_wp2_with (fail)
    go_ret
    exact ⟨rfl, Below.refl _ _⟩
theorem rest_le {a b : Int} (hb : 0 < b) : nl (mg (a % b)) ≤ nl (mg b) := by
  have h1 := Int.emod_nonneg a (show b ≠ 0 by omega)
  have h2 := Int.emod_lt_of_pos a hb
  exact nl_mono (by unfold mg; omega)
theorem quo_le (a b : Int) : nl (mg (a / b)) ≤ nl (mg a) := nl_mono (Int.natAbs_ediv_le_natAbs a b)
theorem shf_twice (r : Int) : shf r 1 = 2 * r := by unfold shf; rw [if_pos (by decide), Int.mul_comm]; rfl
theorem dbl_le {r : Int} : nl (mg (2 * r)) ≤ nl (mg r) + 1 := by
  rw [nl_le, mg_mul, Nat.pow_succ, Nat.mul_comm]
  have := nl_lt (mg r)
  exact Nat.mul_lt_mul_of_lt_of_le this (by decide) (by decide)
theorem odd_limb {q : Int} {x : Nat} (hx : x = mg q / 4294967296 ^ 0 % 4294967296) : decide (q % 2 = 1) = decide (x % 2 = 1) := by
  rw [Nat.pow_zero, Nat.div_one] at hx
  rw [decide_eq_decide]
  unfold mg at hx; omega
theorem and_one_u32 (x : Nat) (hx : x < 4294967296) : bits .and .u32 (x : Int) 1 = ((x % 2 : Nat) : Int) := by
  have := u32_and_nat x 1 hx (by decide)
  rw [Nat.and_one_is_mod] at this
  exact this
end Go.Proofs.YtpaffggdeedopaaGreatDoor

/- A quotient rounded. -/
set_option linter.unusedVariables false
set_option linter.unusedSimpArgs false
namespace Go.Proofs.YtpaffggdeedopaaGreatDoor
open Go.RowKit Go.Shelf
attribute [local go_sem] max2_i min2_i max_two min_two

theorem way_idx0 (W : World) : (Instr.index 92 (.agg #[.func (.func 133) #[] #[], .func (.func 134) #[] #[], .func (.func 135) #[] #[], .func (.func 136) #[] #[], .func (.func 137) #[] #[]]) (.int .i64 0)).run Tryz.prog W = .ok (.agg #[.func (.func 133) #[] #[]]) W := by rfl
theorem way_fld0 (W : World) : (Instr.field 91 (.agg #[.func (.func 133) #[] #[]]) 0).run Tryz.prog W = .ok (.func (.func 133) #[] #[]) W := by rfl
theorem way_idx1 (W : World) : (Instr.index 92 (.agg #[.func (.func 133) #[] #[], .func (.func 134) #[] #[], .func (.func 135) #[] #[], .func (.func 136) #[] #[], .func (.func 137) #[] #[]]) (.int .i64 1)).run Tryz.prog W = .ok (.agg #[.func (.func 134) #[] #[]]) W := by rfl
theorem way_fld1 (W : World) : (Instr.field 91 (.agg #[.func (.func 134) #[] #[]]) 0).run Tryz.prog W = .ok (.func (.func 134) #[] #[]) W := by rfl
theorem way_idx2 (W : World) : (Instr.index 92 (.agg #[.func (.func 133) #[] #[], .func (.func 134) #[] #[], .func (.func 135) #[] #[], .func (.func 136) #[] #[], .func (.func 137) #[] #[]]) (.int .i64 2)).run Tryz.prog W = .ok (.agg #[.func (.func 135) #[] #[]]) W := by rfl
theorem way_fld2 (W : World) : (Instr.field 91 (.agg #[.func (.func 135) #[] #[]]) 0).run Tryz.prog W = .ok (.func (.func 135) #[] #[]) W := by rfl
theorem way_idx3 (W : World) : (Instr.index 92 (.agg #[.func (.func 133) #[] #[], .func (.func 134) #[] #[], .func (.func 135) #[] #[], .func (.func 136) #[] #[], .func (.func 137) #[] #[]]) (.int .i64 3)).run Tryz.prog W = .ok (.agg #[.func (.func 136) #[] #[]]) W := by rfl
theorem way_fld3 (W : World) : (Instr.field 91 (.agg #[.func (.func 136) #[] #[]]) 0).run Tryz.prog W = .ok (.func (.func 136) #[] #[]) W := by rfl
theorem way_idx4 (W : World) : (Instr.index 92 (.agg #[.func (.func 133) #[] #[], .func (.func 134) #[] #[], .func (.func 135) #[] #[], .func (.func 136) #[] #[], .func (.func 137) #[] #[]]) (.int .i64 4)).run Tryz.prog W = .ok (.agg #[.func (.func 137) #[] #[]]) W := by rfl
theorem way_fld4 (W : World) : (Instr.field 91 (.agg #[.func (.func 137) #[] #[]]) 0).run Tryz.prog W = .ok (.func (.func 137) #[] #[]) W := by rfl
/-- The way of a direction: where it lies in the row of ways, and what it says. -/
theorem way_at (dr : Int) (h0 : 0 ≤ dr) (h4 : dr ≤ 4) : ∃ fn : Nat, (fn = 133 ∨ fn = 134 ∨ fn = 135 ∨ fn = 136 ∨ fn = 137) ∧ (∀ W : World, (Instr.index 92 (.agg #[.func (.func 133) #[] #[], .func (.func 134) #[] #[], .func (.func 135) #[] #[], .func (.func 136) #[] #[], .func (.func 137) #[] #[]]) (.int .i64 dr)).run Tryz.prog W = .ok (.agg #[.func (.func fn) #[] #[]]) W) ∧
    (∀ W : World, (Instr.field 91 (.agg #[.func (.func fn) #[] #[]]) 0).run Tryz.prog W = .ok (.func (.func fn) #[] #[]) W) ∧
    (∀ (neg odd : Bool) (h b : Int) (w : World), Calls Tryz.prog fn #[.bool neg, .bool odd, .int .i64 (icmp h b)] w fun e w' => e = .returned (.bool (upw neg odd (h - b) dr)) ∧ Below w.heap.size w w') := by
  obtain rfl | rfl | rfl | rfl | rfl : dr = 0 ∨ dr = 1 ∨ dr = 2 ∨ dr = 3 ∨ dr = 4 := by omega
  · exact ⟨133, Or.inl rfl, way_idx0, way_fld0, way1_c⟩
  · exact ⟨134, Or.inr (Or.inl rfl), way_idx1, way_fld1, way2_c⟩
  · exact ⟨135, Or.inr (Or.inr (Or.inl rfl)), way_idx2, way_fld2, way3_c⟩
  · exact ⟨136, Or.inr (Or.inr (Or.inr (Or.inl rfl))), way_idx3, way_fld3, way4_c⟩
  · exact ⟨137, Or.inr (Or.inr (Or.inr (Or.inr rfl))), way_idx4, way_fld4, way5_c⟩
theorem over_z (aA : Option Addr) (ac : Nat) (a : Int) (bA : Option Addr) (bc : Nat) (b : Int) (dr : Int) (w : World) (ha : NatV w aA ac (mg a)) (hb : NatV w bA bc (mg b))  (d0 : 0 ≤ dr) (d4 : dr ≤ 4) (la : nl (mg a) ≤ 1000000) (lb : nl (mg b) ≤ 1000000) (hb0 : 0 < b) (h0 : a % b = 0) :
    Calls Tryz.prog 83 #[.agg #[.bool (sg a), .slice aA (nl (mg a)) ac], .agg #[.bool (sg b), .slice bA (nl (mg b)) bc], .int .i64 dr] w (RetI w (ovr a b dr)) := by
  have lr0 := rest_le (a := a) hb0
  have lq0 := quo_le a b
  have ld0 := dbl_le (r := a % b)
  have hov : ovr a b dr = a / b := by unfold ovr; rw [if_pos h0]
  replace hov := Lib.hid hov
  replace h0 := Lib.hid h0
  obtain ⟨hb1, Ra, Rb, Rr⟩ := bx3 w #[.bool (sg a), .slice aA (nl (mg a)) ac] 24 #[.bool (sg b), .slice bA (nl (mg b)) bc] 24 #[.bool false, .slice none 0 0] 24
  replace ha := ha.below hb1
  replace hb := hb.below hb1
  have HBT := hb1
  clear hb1
  have qa0 := Ra.c (i := 0) rfl
  have qa1 := Ra.c (i := 1) rfl
  have qb0 := Rb.c (i := 0) rfl
  have qb1 := Rb.c (i := 1) rfl
  have qr0 := Rr.c (i := 0) rfl
  have qr1 := Rr.c (i := 1) rfl
  go_enter Tryz.func83, Tryz.ntmps83
  go_wp2_with (fail)
  obtain ⟨q, Eq⟩ : ∃ zq : Int, zq = a / b := ⟨_, rfl⟩
  have lq : nl (mg q) ≤ 1000000 := by rw [Eq]; omega
  obtain ⟨m, Em⟩ : ∃ zq : Int, zq = a % b := ⟨_, rfl⟩
  have lm : nl (mg m) ≤ 1000000 := by rw [Em]; omega
  have dm2 : nl (mg (2 * m)) ≤ 1000001 := by rw [Em]; omega
  have CT2 := (idiv_c aA ac a bA bc b _ ha hb (by omega) (by omega) (by omega))
  rw [← Eq, ← Em] at CT2
  replace Eq := Lib.hid Eq
  replace Em := Lib.hid Em
  replace CT2 := Lib.hid CT2
  refine (Calls.mono CT2.out ?_)
  clear CT2
  rintro e W2 ⟨Xq, cq, Xm, cm, rfl, hq, hm, hb2⟩
  replace ha := ha.below hb2
  replace hb := hb.below hb2
  replace Ra := Ra.below hb2
  replace qa0 := cbl hb2 qa0
  replace qa1 := cbl hb2 qa1
  replace Rb := Rb.below hb2
  replace qb0 := cbl hb2 qb0
  replace qb1 := cbl hb2 qb1
  replace Rr := Rr.below hb2
  replace qr0 := cbl hb2 qr0
  replace qr1 := cbl hb2 qr1
  replace HBT := Below.cons HBT hb2
  clear hb2
  clear lr0 lq0 ld0
  have szr := Rr.lt
  go_wp2_with (fail)
  obtain ⟨hb3, Rq, Rm⟩ := bx2 W2 #[.bool (sg q), .slice Xq (nl (mg q)) cq] 24 #[.bool (sg m), .slice Xm (nl (mg m)) cm] 24
  replace ha := ha.below hb3
  replace hb := hb.below hb3
  replace Ra := Ra.below hb3
  replace qa0 := cbl hb3 qa0
  replace qa1 := cbl hb3 qa1
  replace Rb := Rb.below hb3
  replace qb0 := cbl hb3 qb0
  replace qb1 := cbl hb3 qb1
  replace Rr := Rr.below hb3
  replace qr0 := cbl hb3 qr0
  replace qr1 := cbl hb3 qr1
  replace hq := hq.below hb3
  replace hm := hm.below hb3
  replace HBT := Below.cons HBT hb3
  clear hb3
  have qq0 := Rq.c (i := 0) rfl
  have qq1 := Rq.c (i := 1) rfl
  have qm0 := Rm.c (i := 0) rfl
  have qm1 := Rm.c (i := 1) rfl
  have hsg : m.sign = 0 := by rw [Em.out, h0.out]; rfl
  have CG := isign_c Xm cm m ((W2.alloc (.cells #[.bool (sg q), .slice Xq (nl (mg q)) cq] 24)).alloc (.cells #[.bool (sg m), .slice Xm (nl (mg m)) cm] 24))
  rw [hsg] at CG
  replace hsg := Lib.hid hsg
  refine (Calls.mono (CG) ?_)
  rintro e W4 ⟨rfl, hb4⟩
  replace ha := ha.below hb4
  replace hb := hb.below hb4
  replace Ra := Ra.below hb4
  replace qa0 := cbl hb4 qa0
  replace qa1 := cbl hb4 qa1
  replace Rb := Rb.below hb4
  replace qb0 := cbl hb4 qb0
  replace qb1 := cbl hb4 qb1
  replace Rr := Rr.below hb4
  replace qr0 := cbl hb4 qr0
  replace qr1 := cbl hb4 qr1
  replace hq := hq.below hb4
  replace hm := hm.below hb4
  replace Rq := Rq.below hb4
  replace qq0 := cbl hb4 qq0
  replace qq1 := cbl hb4 qq1
  replace Rm := Rm.below hb4
  replace qm0 := cbl hb4 qm0
  replace qm1 := cbl hb4 qm1
  replace HBT := Below.cons HBT hb4
  clear hb4
  have fzr0 := Rr.f (i := 0)
  have fzr1 := Rr.f (i := 1)
  go_wp2_with (fail)
  have hzq : q = ovr a b dr := by rw [Eq.out, hov.out]
  subst hzq
  have RS := Rr.store2 (.bool (sg ((ovr a b dr)))) (.slice Xq (nl (mg ((ovr a b dr)))) cq)
  have e0 := RS.c (i := 0) rfl
  have e1 := RS.c (i := 1) rfl
  refine bodyPost_ret (v := .agg #[.bool (sg ((ovr a b dr))), .slice Xq (nl (mg ((ovr a b dr)))) cq]) (by simp [results, Tryz.results83, go_sem, e0, e1]) rfl ?_
  exact ⟨Xq, cq, rfl, (Rr.keep2 (nuB rfl) hq), (Below.store2 HBT (by first | exact Nat.le_refl _ | omega))⟩
theorem over_q (aA : Option Addr) (ac : Nat) (a : Int) (bA : Option Addr) (bc : Nat) (b : Int) (dr : Int) (w : World) (ha : NatV w aA ac (mg a)) (hb : NatV w bA bc (mg b))  (d0 : 0 ≤ dr) (d4 : dr ≤ 4) (la : nl (mg a) ≤ 1000000) (lb : nl (mg b) ≤ 1000000) (hb0 : 0 < b) (h0 : a % b ≠ 0) (h1 : a / b = 0) :
    Calls Tryz.prog 83 #[.agg #[.bool (sg a), .slice aA (nl (mg a)) ac], .agg #[.bool (sg b), .slice bA (nl (mg b)) bc], .int .i64 dr] w (RetI w (ovr a b dr)) := by
  have lr0 := rest_le (a := a) hb0
  have lq0 := quo_le a b
  have ld0 := dbl_le (r := a % b)
  have hov : ovr a b dr = if upw (sg a) (decide (a / b % 2 = 1)) (2 * (a % b) - b) dr then a / b + 1 else a / b := by unfold ovr; rw [if_neg h0]
  replace hov := Lib.hid hov
  replace h0 := Lib.hid h0
  replace h1 := Lib.hid h1
  obtain ⟨hb1, Ra, Rb, Rr⟩ := bx3 w #[.bool (sg a), .slice aA (nl (mg a)) ac] 24 #[.bool (sg b), .slice bA (nl (mg b)) bc] 24 #[.bool false, .slice none 0 0] 24
  replace ha := ha.below hb1
  replace hb := hb.below hb1
  have HBT := hb1
  clear hb1
  have qa0 := Ra.c (i := 0) rfl
  have qa1 := Ra.c (i := 1) rfl
  have qb0 := Rb.c (i := 0) rfl
  have qb1 := Rb.c (i := 1) rfl
  have qr0 := Rr.c (i := 0) rfl
  have qr1 := Rr.c (i := 1) rfl
  go_enter Tryz.func83, Tryz.ntmps83
  go_wp2_with (fail)
  obtain ⟨q, Eq⟩ : ∃ zq : Int, zq = a / b := ⟨_, rfl⟩
  have lq : nl (mg q) ≤ 1000000 := by rw [Eq]; omega
  obtain ⟨m, Em⟩ : ∃ zq : Int, zq = a % b := ⟨_, rfl⟩
  have lm : nl (mg m) ≤ 1000000 := by rw [Em]; omega
  have dm2 : nl (mg (2 * m)) ≤ 1000001 := by rw [Em]; omega
  have CT2 := (idiv_c aA ac a bA bc b _ ha hb (by omega) (by omega) (by omega))
  rw [← Eq, ← Em] at CT2
  replace Eq := Lib.hid Eq
  replace Em := Lib.hid Em
  replace CT2 := Lib.hid CT2
  refine (Calls.mono CT2.out ?_)
  clear CT2
  rintro e W2 ⟨Xq, cq, Xm, cm, rfl, hq, hm, hb2⟩
  replace ha := ha.below hb2
  replace hb := hb.below hb2
  replace Ra := Ra.below hb2
  replace qa0 := cbl hb2 qa0
  replace qa1 := cbl hb2 qa1
  replace Rb := Rb.below hb2
  replace qb0 := cbl hb2 qb0
  replace qb1 := cbl hb2 qb1
  replace Rr := Rr.below hb2
  replace qr0 := cbl hb2 qr0
  replace qr1 := cbl hb2 qr1
  replace HBT := Below.cons HBT hb2
  clear hb2
  clear lr0 lq0 ld0
  have szr := Rr.lt
  go_wp2_with (fail)
  obtain ⟨hb3, Rq, Rm⟩ := bx2 W2 #[.bool (sg q), .slice Xq (nl (mg q)) cq] 24 #[.bool (sg m), .slice Xm (nl (mg m)) cm] 24
  replace ha := ha.below hb3
  replace hb := hb.below hb3
  replace Ra := Ra.below hb3
  replace qa0 := cbl hb3 qa0
  replace qa1 := cbl hb3 qa1
  replace Rb := Rb.below hb3
  replace qb0 := cbl hb3 qb0
  replace qb1 := cbl hb3 qb1
  replace Rr := Rr.below hb3
  replace qr0 := cbl hb3 qr0
  replace qr1 := cbl hb3 qr1
  replace hq := hq.below hb3
  replace hm := hm.below hb3
  replace HBT := Below.cons HBT hb3
  clear hb3
  have qq0 := Rq.c (i := 0) rfl
  have qq1 := Rq.c (i := 1) rfl
  have qm0 := Rm.c (i := 0) rfl
  have qm1 := Rm.c (i := 1) rfl
  have hsg : (m.sign == 0) = false := by have := h0.out; rw [← Em.out] at this; simp; exact this
  obtain ⟨sn, Esn⟩ : ∃ sn, sn = m.sign := ⟨_, rfl⟩
  have CG := isign_c Xm cm m ((W2.alloc (.cells #[.bool (sg q), .slice Xq (nl (mg q)) cq] 24)).alloc (.cells #[.bool (sg m), .slice Xm (nl (mg m)) cm] 24))
  rw [← Esn] at CG hsg
  replace Esn := Lib.hid Esn
  have t1 : decide (0 < ((nl (mg q) : Nat) : Int)) = false := by rw [Eq.out, h1.out, mg0, nl_zero]; rfl
  have t2 : decide (0 < nl (mg q)) = false := by rw [Eq.out, h1.out, mg0, nl_zero]; rfl
  refine (Calls.mono (CG) ?_)
  rintro e W4 ⟨rfl, hb4⟩
  replace ha := ha.below hb4
  replace hb := hb.below hb4
  replace Ra := Ra.below hb4
  replace qa0 := cbl hb4 qa0
  replace qa1 := cbl hb4 qa1
  replace Rb := Rb.below hb4
  replace qb0 := cbl hb4 qb0
  replace qb1 := cbl hb4 qb1
  replace Rr := Rr.below hb4
  replace qr0 := cbl hb4 qr0
  replace qr1 := cbl hb4 qr1
  replace hq := hq.below hb4
  replace hm := hm.below hb4
  replace Rq := Rq.below hb4
  replace qq0 := cbl hb4 qq0
  replace qq1 := cbl hb4 qq1
  replace Rm := Rm.below hb4
  replace qm0 := cbl hb4 qm0
  replace qm1 := cbl hb4 qm1
  replace HBT := Below.cons HBT hb4
  clear hb4
  go_wp2_with (fail)
  have eod : decide (q % 2 = 1) = false := by rw [Eq.out, h1.out]; rfl
  obtain ⟨m2, Em2⟩ : ∃ z, z = 2 * m := ⟨_, rfl⟩
  rw [← Em2] at dm2
  have CS := fun (W : World) (h1 : NatV W Xm cm (mg m)) => ishift_c Xm cm m 1 W h1 (by omega) (by omega)
  simp only [shf_twice, ← Em2] at CS
  obtain ⟨fn, hfn, wi, wf, CW0⟩ := way_at dr d0 d4
  replace hfn := Lib.hid hfn
  obtain ⟨up, Eup⟩ : ∃ z, z = upw (sg a) false (m2 - b) dr := ⟨_, rfl⟩
  have CW := CW0 (sg a) false m2 b
  rw [← Eup] at CW
  clear CW0
  have hov2 : ovr a b dr = if up = true then q + 1 else q := by rw [hov.out, Eup, Em2, ← Eq.out, ← Em.out, eod]
  replace CS := Lib.hid CS
  replace CW := Lib.hid CW
  replace Em2 := Lib.hid Em2
  replace Eup := Lib.hid Eup
  replace hov2 := Lib.hid hov2
  refine wp_region_inv (fun E a' w' => ∃ (u34 u35 u36 u37 u38 u39 u40 u41 u42 u43 u44 u45 : Value),
    a' = { tmps := #[.agg #[.bool (sg a), .slice aA (nl (mg a)) ac], .agg #[.bool (sg b), .slice bA (nl (mg b)) bc], .int .i64 dr, .pointer (some ⟨w.heap.size, 0, none⟩), .pointer (some ⟨(w.heap.size + 1), 0, none⟩), undef, .pointer (some ⟨(w.heap.size + 1 + 1), 0, none⟩), .pointer (some ⟨W2.heap.size, 0, none⟩), .pointer (some ⟨(W2.heap.size + 1), 0, none⟩), .int .i64 0, .bool false, .tuple #[.agg #[.bool (sg q), .slice Xq (nl (mg q)) cq], .agg #[.bool (sg m), .slice Xm (nl (mg m)) cm], .int .i64 0], .agg #[.bool (sg a), .slice aA (nl (mg a)) ac], .agg #[.bool (sg b), .slice bA (nl (mg b)) bc], .tuple #[.agg #[.bool (sg q), .slice Xq (nl (mg q)) cq], .agg #[.bool (sg m), .slice Xm (nl (mg m)) cm], .int .i64 0], .agg #[.bool (sg q), .slice Xq (nl (mg q)) cq], .agg #[.bool (sg m), .slice Xm (nl (mg m)) cm], .int .i64 0, .agg #[.bool (sg m), .slice Xm (nl (mg m)) cm], .int .i64 sn, .bool false, undef, .pointer (some ⟨W2.heap.size, 1, none⟩), .slice Xq (nl (mg q)) cq, .int .i64 (nl (mg q)), .bool false, .bool false, undef, undef, undef, undef, undef, undef, .bool false, u34, u35, u36, u37, u38, u39, u40, u41, u42, u43, u44, u45, undef, undef, undef, undef], defers := [] } ∧
    (E 0 = true → u34 = (.agg #[.func (.func 133) #[] #[], .func (.func 134) #[] #[], .func (.func 135) #[] #[], .func (.func 136) #[] #[], .func (.func 137) #[] #[]])) ∧
    (E 1 = true → u35 = .int .i64 dr) ∧
    (E 2 = true → u36 = .agg #[.func (.func fn) #[] #[]]) ∧
    (E 3 = true → u37 = .func (.func fn) #[] #[]) ∧
    (E 4 = true → u38 = .pointer (some ⟨w.heap.size, 0, none⟩)) ∧
    (E 5 = true → u39 = .bool (sg a)) ∧
    (E 6 = true → u40 = .bool false) ∧
    (E 7 = true → u41 = .agg #[.bool (sg m), .slice Xm (nl (mg m)) cm]) ∧
    (E 8 = true → PI u42 m2 w') ∧
    (E 9 = true → u43 = .agg #[.bool (sg b), .slice bA (nl (mg b)) bc]) ∧
    (E 10 = true → u44 = .int .i64 (icmp m2 b)) ∧
    (E 11 = true → u45 = .bool up) ∧
    Below W4.heap.size W4 w') (by kernel_rfl) (by kernel_rfl) ?init ?fin ?step
  case init => exact ⟨_, _, _, _, _, _, _, _, _, _, _, _, rfl, by simp, by simp, by simp, by simp, by simp, by simp, by simp, by simp, by simp, by simp, by simp, by simp, (Below.refl _ _).drew⟩
  case step =>
    rintro E a' w' i ⟨u34, u35, u36, u37, u38, u39, u40, u41, u42, u43, u44, u45, rfl, h0, h1, h2, h3, h4, h5, h6, h7, h8, h9, h10, h11, hB⟩ hi hEi hdep
    have qa0 := cbl hB qa0
    have qa1 := cbl hB qa1
    have qb0 := cbl hB qb0
    have qb1 := cbl hB qb1
    have qm0 := cbl hB qm0
    have qm1 := cbl hB qm1
    obtain rfl | rfl | rfl | rfl | rfl | rfl | rfl | rfl | rfl | rfl | rfl | rfl : i = 0 ∨ i = 1 ∨ i = 2 ∨ i = 3 ∨ i = 4 ∨ i = 5 ∨ i = 6 ∨ i = 7 ∨ i = 8 ∨ i = 9 ∨ i = 10 ∨ i = 11 := by simp at hi; omega
    · skip
      refine wpOp_step rfl (fun K' hK' => ?_)
      go_simp
      refine (Calls.mono (ways_c w') ?_)
      rintro e W1 ⟨rfl, kb⟩
      refine hK' _ _ ?_
      exact ⟨_, _, _, _, _, _, _, _, _, _, _, _, rfl, fun _ => rfl, keepD (by decide) h1, keepD (by decide) h2, keepD (by decide) h3, keepD (by decide) h4, keepD (by decide) h5, keepD (by decide) h6, keepD (by decide) h7, keepP (by decide) h8 (fun h => h.below kb), keepD (by decide) h9, keepD (by decide) h10, keepD (by decide) h11, Below.cons hB kb⟩
    · skip
      refine wpOp_step rfl (fun K' hK' => ?_)
      go_simp
      refine hK' _ _ ?_
      exact ⟨_, _, _, _, _, _, _, _, _, _, _, _, rfl, keepD (by decide) h0, fun _ => rfl, keepD (by decide) h2, keepD (by decide) h3, keepD (by decide) h4, keepD (by decide) h5, keepD (by decide) h6, keepD (by decide) h7, keepD (by decide) h8, keepD (by decide) h9, keepD (by decide) h10, keepD (by decide) h11, hB⟩
    · skip
      have d0 := hdep _ rfl ⟨0, .data⟩ (by simp) rfl
      obtain rfl := h0 d0
      have d1 := hdep _ rfl ⟨1, .data⟩ (by simp) rfl
      obtain rfl := h1 d1
      refine wpOp_step rfl (fun K' hK' => ?_)
      go_simp
      refine hK' _ _ ?_
      exact ⟨_, _, _, _, _, _, _, _, _, _, _, _, rfl, keepD (by decide) h0, keepD (by decide) h1, fun _ => rfl, keepD (by decide) h3, keepD (by decide) h4, keepD (by decide) h5, keepD (by decide) h6, keepD (by decide) h7, keepD (by decide) h8, keepD (by decide) h9, keepD (by decide) h10, keepD (by decide) h11, hB⟩
    · skip
      have d2 := hdep _ rfl ⟨2, .data⟩ (by simp) rfl
      obtain rfl := h2 d2
      refine wpOp_step rfl (fun K' hK' => ?_)
      go_simp
      refine hK' _ _ ?_
      exact ⟨_, _, _, _, _, _, _, _, _, _, _, _, rfl, keepD (by decide) h0, keepD (by decide) h1, keepD (by decide) h2, fun _ => rfl, keepD (by decide) h4, keepD (by decide) h5, keepD (by decide) h6, keepD (by decide) h7, keepD (by decide) h8, keepD (by decide) h9, keepD (by decide) h10, keepD (by decide) h11, hB⟩
    · skip
      refine wpOp_step rfl (fun K' hK' => ?_)
      go_simp
      refine hK' _ _ ?_
      exact ⟨_, _, _, _, _, _, _, _, _, _, _, _, rfl, keepD (by decide) h0, keepD (by decide) h1, keepD (by decide) h2, keepD (by decide) h3, fun _ => rfl, keepD (by decide) h5, keepD (by decide) h6, keepD (by decide) h7, keepD (by decide) h8, keepD (by decide) h9, keepD (by decide) h10, keepD (by decide) h11, hB⟩
    · skip
      have d4 := hdep _ rfl ⟨4, .data⟩ (by simp) rfl
      obtain rfl := h4 d4
      refine wpOp_step rfl (fun K' hK' => ?_)
      go_simp
      refine hK' _ _ ?_
      exact ⟨_, _, _, _, _, _, _, _, _, _, _, _, rfl, keepD (by decide) h0, keepD (by decide) h1, keepD (by decide) h2, keepD (by decide) h3, keepD (by decide) h4, fun _ => rfl, keepD (by decide) h6, keepD (by decide) h7, keepD (by decide) h8, keepD (by decide) h9, keepD (by decide) h10, keepD (by decide) h11, hB⟩
    · skip
      refine wpOp_step rfl (fun K' hK' => ?_)
      go_simp
      refine hK' _ _ ?_
      exact ⟨_, _, _, _, _, _, _, _, _, _, _, _, rfl, keepD (by decide) h0, keepD (by decide) h1, keepD (by decide) h2, keepD (by decide) h3, keepD (by decide) h4, keepD (by decide) h5, fun _ => rfl, keepD (by decide) h7, keepD (by decide) h8, keepD (by decide) h9, keepD (by decide) h10, keepD (by decide) h11, hB⟩
    · skip
      refine wpOp_step rfl (fun K' hK' => ?_)
      go_simp
      refine hK' _ _ ?_
      exact ⟨_, _, _, _, _, _, _, _, _, _, _, _, rfl, keepD (by decide) h0, keepD (by decide) h1, keepD (by decide) h2, keepD (by decide) h3, keepD (by decide) h4, keepD (by decide) h5, keepD (by decide) h6, fun _ => rfl, keepD (by decide) h8, keepD (by decide) h9, keepD (by decide) h10, keepD (by decide) h11, hB⟩
    · skip
      have d7 := hdep _ rfl ⟨7, .data⟩ (by simp) rfl
      obtain rfl := h7 d7
      refine wpOp_step rfl (fun K' hK' => ?_)
      go_simp
      refine (Calls.mono (CS.out w' (hm.below hB)) ?_)
      rintro e W1 ⟨Xr, cr, rfl, kr, kb⟩
      refine hK' _ _ ?_
      exact ⟨_, _, _, _, _, _, _, _, _, _, _, _, rfl, keepD (by decide) h0, keepD (by decide) h1, keepD (by decide) h2, keepD (by decide) h3, keepD (by decide) h4, keepD (by decide) h5, keepD (by decide) h6, keepD (by decide) h7, fun _ => ⟨Xr, cr, rfl, kr⟩, keepD (by decide) h9, keepD (by decide) h10, keepD (by decide) h11, Below.cons hB kb⟩
    · skip
      refine wpOp_step rfl (fun K' hK' => ?_)
      go_simp
      refine hK' _ _ ?_
      exact ⟨_, _, _, _, _, _, _, _, _, _, _, _, rfl, keepD (by decide) h0, keepD (by decide) h1, keepD (by decide) h2, keepD (by decide) h3, keepD (by decide) h4, keepD (by decide) h5, keepD (by decide) h6, keepD (by decide) h7, keepD (by decide) h8, fun _ => rfl, keepD (by decide) h10, keepD (by decide) h11, hB⟩
    · skip
      have d8 := hdep _ rfl ⟨8, .data⟩ (by simp) rfl
      obtain ⟨X_8, c_8, rfl, k_8⟩ := h8 d8
      have d9 := hdep _ rfl ⟨9, .data⟩ (by simp) rfl
      obtain rfl := h9 d9
      refine wpOp_step rfl (fun K' hK' => ?_)
      go_simp
      refine (Calls.mono (icmp_c X_8 c_8 m2 bA bc b w' k_8 (hb.below hB) (by omega) (by omega)) ?_)
      rintro e W1 ⟨rfl, kb⟩
      refine hK' _ _ ?_
      exact ⟨_, _, _, _, _, _, _, _, _, _, _, _, rfl, keepD (by decide) h0, keepD (by decide) h1, keepD (by decide) h2, keepD (by decide) h3, keepD (by decide) h4, keepD (by decide) h5, keepD (by decide) h6, keepD (by decide) h7, keepP (by decide) h8 (fun h => h.below kb), keepD (by decide) h9, fun _ => rfl, keepD (by decide) h11, Below.cons hB kb⟩
    · skip
      have d3 := hdep _ rfl ⟨3, .data⟩ (by simp) rfl
      obtain rfl := h3 d3
      have d5 := hdep _ rfl ⟨5, .data⟩ (by simp) rfl
      obtain rfl := h5 d5
      have d6 := hdep _ rfl ⟨6, .data⟩ (by simp) rfl
      obtain rfl := h6 d6
      have d10 := hdep _ rfl ⟨10, .data⟩ (by simp) rfl
      obtain rfl := h10 d10
      rcases hfn.out with rfl | rfl | rfl | rfl | rfl
      all_goals refine wpOp_step rfl (fun K' hK' => ?_)
      all_goals go_simp
      all_goals refine (Calls.mono (CW.out w') ?_)
      all_goals rintro e W1 ⟨rfl, kb⟩
      all_goals refine hK' _ _ ?_
      all_goals exact ⟨_, _, _, _, _, _, _, _, _, _, _, _, rfl, keepD (by decide) h0, keepD (by decide) h1, keepD (by decide) h2, keepD (by decide) h3, keepD (by decide) h4, keepD (by decide) h5, keepD (by decide) h6, keepD (by decide) h7, keepP (by decide) h8 (fun h => h.below kb), keepD (by decide) h9, keepD (by decide) h10, fun _ => rfl, Below.cons hB kb⟩
  case fin =>
    rintro E a' w' ⟨u34, u35, u36, u37, u38, u39, u40, u41, u42, u43, u44, u45, rfl, h0, h1, h2, h3, h4, h5, h6, h7, h8, h9, h10, h11, hB⟩ hall
    replace ha := ha.below hB
    replace hb := hb.below hB
    replace Ra := Ra.below hB
    replace qa0 := cbl hB qa0
    replace qa1 := cbl hB qa1
    replace Rb := Rb.below hB
    replace qb0 := cbl hB qb0
    replace qb1 := cbl hB qb1
    replace Rr := Rr.below hB
    replace qr0 := cbl hB qr0
    replace qr1 := cbl hB qr1
    replace hq := hq.below hB
    replace hm := hm.below hB
    replace Rq := Rq.below hB
    replace qq0 := cbl hB qq0
    replace qq1 := cbl hB qq1
    replace Rm := Rm.below hB
    replace qm0 := cbl hB qm0
    replace qm1 := cbl hB qm1
    replace HBT := Below.cons HBT hB
    obtain rfl := h11 (hall 11 (by simp))
    clear hall
    cases up
    case false =>
      have fzr0 := Rr.f (i := 0)
      have fzr1 := Rr.f (i := 1)
      go_wp2_with (fail)
      have hzq : q = ovr a b dr := by have := hov2.out; simpa using this.symm
      subst hzq
      have RS := Rr.store2 (.bool (sg ((ovr a b dr)))) (.slice Xq (nl (mg ((ovr a b dr)))) cq)
      have e0 := RS.c (i := 0) rfl
      have e1 := RS.c (i := 1) rfl
      refine bodyPost_ret (v := .agg #[.bool (sg ((ovr a b dr))), .slice Xq (nl (mg ((ovr a b dr)))) cq]) (by simp [results, Tryz.results83, go_sem, e0, e1]) rfl ?_
      exact ⟨Xq, cq, rfl, (Rr.keep2 (nuB rfl) hq), (Below.store2 HBT (by first | exact Nat.le_refl _ | omega))⟩
    case true =>
      go_wp2_with (fail)
      have hd5 := drb (w')
      replace ha := ha.below hd5
      replace hb := hb.below hd5
      replace Ra := Ra.below hd5
      replace qa0 := cbl hd5 qa0
      replace qa1 := cbl hd5 qa1
      replace Rb := Rb.below hd5
      replace qb0 := cbl hd5 qb0
      replace qb1 := cbl hd5 qb1
      replace Rr := Rr.below hd5
      replace qr0 := cbl hd5 qr0
      replace qr1 := cbl hd5 qr1
      replace hq := hq.below hd5
      replace hm := hm.below hd5
      replace Rq := Rq.below hd5
      replace qq0 := cbl hd5 qq0
      replace qq1 := cbl hd5 qq1
      replace Rm := Rm.below hd5
      replace qm0 := cbl hd5 qm0
      replace qm1 := cbl hd5 qm1
      replace HBT := Below.cons HBT hd5
      clear hd5
      obtain ⟨o1, Eo1⟩ : ∃ zq : Int, zq = (1 : Int) := ⟨_, rfl⟩
      have No1 : nl (mg o1) ≤ 1 := by rw [Eo1]; exact Nat.le_of_eq nl_one
      have C5_0 := fun (W : World) => (show Calls Tryz.prog 108 #[.int .i64 1] W (RetI W o1) by rw [Eo1]; exact iof1_c W)
      replace Eo1 := Lib.hid Eo1
      replace C5_0 := Lib.hid C5_0
      obtain ⟨y, Ey⟩ : ∃ zq : Int, zq = q + o1 := ⟨_, rfl⟩
      have C5_1 := fun (W : World) (A : Option Addr) (c : Nat) (h1 : NatV W Xq cq (mg q)) (h2 : NatV W A c (mg o1)) => iadd_c Xq cq q A c o1 W h1 h2 (by omega) (by omega)
      simp only [← Ey] at C5_1
      replace Ey := Lib.hid Ey
      replace C5_1 := Lib.hid C5_1
      go_region_held3 (fun W => W.cell? ⟨W2.heap.size, 0, none⟩ = some (.bool (sg q)) ∧ W.cell? ⟨W2.heap.size, 1, none⟩ = some (.slice Xq (nl (mg q)) cq))
        (first
          | exact ⟨qq0, qq1⟩
          | exact ⟨qq0_6, qq1_6⟩
          | exact ⟨qq0_7, qq1_7⟩
          | exact ⟨((Rq_7.other2 (by simp <;> omega)).c (i := 0) rfl), ((Rq_7.other2 (by simp <;> omega)).c (i := 1) rfl)⟩
          | go_keep)
        (first
          | (go_at_call 108; (with_reducible refine (C5_0.out _).mono ?_); rintro e W6 ⟨Xo1, co1, rfl, ho1, hb6⟩; have ha_6 := ha.below hb6; have hb_6 := hb.below hb6; have Ra_6 := Ra.below hb6; have qa0_6 := cbl hb6 qa0; have qa1_6 := cbl hb6 qa1; have Rb_6 := Rb.below hb6; have qb0_6 := cbl hb6 qb0; have qb1_6 := cbl hb6 qb1; have Rr_6 := Rr.below hb6; have qr0_6 := cbl hb6 qr0; have qr1_6 := cbl hb6 qr1; have hq_6 := hq.below hb6; have hm_6 := hm.below hb6; have Rq_6 := Rq.below hb6; have qq0_6 := cbl hb6 qq0; have qq1_6 := cbl hb6 qq1; have Rm_6 := Rm.below hb6; have qm0_6 := cbl hb6 qm0; have qm1_6 := cbl hb6 qm1; have HBT_6 := Below.cons HBT hb6)
          | (go_at_call 103; (with_reducible refine (C5_1.out _ _ _ hq_6 ho1).mono ?_); rintro e W7 ⟨Xy, cy, rfl, hy, hb7⟩; have ha_7 := ha_6.below hb7; have hb_7 := hb_6.below hb7; have Ra_7 := Ra_6.below hb7; have qa0_7 := cbl hb7 qa0_6; have qa1_7 := cbl hb7 qa1_6; have Rb_7 := Rb_6.below hb7; have qb0_7 := cbl hb7 qb0_6; have qb1_7 := cbl hb7 qb1_6; have Rr_7 := Rr_6.below hb7; have qr0_7 := cbl hb7 qr0_6; have qr1_7 := cbl hb7 qr1_6; have hq_7 := hq_6.below hb7; have hm_7 := hm_6.below hb7; have Rq_7 := Rq_6.below hb7; have qq0_7 := cbl hb7 qq0_6; have qq1_7 := cbl hb7 qq1_6; have Rm_7 := Rm_6.below hb7; have qm0_7 := cbl hb7 qm0_6; have qm1_7 := cbl hb7 qm1_6; have ho1_7 := ho1.below hb7; have HBT_7 := Below.cons HBT_6 hb7; have fz0 := Rr_7.f (i := 0); have fz1 := Rr_7.f (i := 1)))
      all_goals (try go_wp2_with (fail))
      have hzy : y = ovr a b dr := by rw [Ey.out, Eo1.out]; have := hov2.out; simpa using this.symm
      subst hzy
      have RS := Rr_7.store2 (.bool (sg ((ovr a b dr)))) (.slice Xy (nl (mg ((ovr a b dr)))) cy)
      have e0 := RS.c (i := 0) rfl
      have e1 := RS.c (i := 1) rfl
      refine bodyPost_ret (v := .agg #[.bool (sg ((ovr a b dr))), .slice Xy (nl (mg ((ovr a b dr)))) cy]) (by simp [results, Tryz.results83, go_sem, e0, e1]) rfl ?_
      exact ⟨Xy, cy, rfl, (Rr_7.keep2 (nuB rfl) hy), (Below.store2 HBT_7 (by first | exact Nat.le_refl _ | omega))⟩
theorem over_n (aA : Option Addr) (ac : Nat) (a : Int) (bA : Option Addr) (bc : Nat) (b : Int) (dr : Int) (w : World) (ha : NatV w aA ac (mg a)) (hb : NatV w bA bc (mg b))  (d0 : 0 ≤ dr) (d4 : dr ≤ 4) (la : nl (mg a) ≤ 1000000) (lb : nl (mg b) ≤ 1000000) (hb0 : 0 < b) (h0 : a % b ≠ 0) (h1 : a / b ≠ 0) :
    Calls Tryz.prog 83 #[.agg #[.bool (sg a), .slice aA (nl (mg a)) ac], .agg #[.bool (sg b), .slice bA (nl (mg b)) bc], .int .i64 dr] w (RetI w (ovr a b dr)) := by
  have lr0 := rest_le (a := a) hb0
  have lq0 := quo_le a b
  have ld0 := dbl_le (r := a % b)
  have hov : ovr a b dr = if upw (sg a) (decide (a / b % 2 = 1)) (2 * (a % b) - b) dr then a / b + 1 else a / b := by unfold ovr; rw [if_neg h0]
  replace hov := Lib.hid hov
  replace h0 := Lib.hid h0
  replace h1 := Lib.hid h1
  obtain ⟨hb1, Ra, Rb, Rr⟩ := bx3 w #[.bool (sg a), .slice aA (nl (mg a)) ac] 24 #[.bool (sg b), .slice bA (nl (mg b)) bc] 24 #[.bool false, .slice none 0 0] 24
  replace ha := ha.below hb1
  replace hb := hb.below hb1
  have HBT := hb1
  clear hb1
  have qa0 := Ra.c (i := 0) rfl
  have qa1 := Ra.c (i := 1) rfl
  have qb0 := Rb.c (i := 0) rfl
  have qb1 := Rb.c (i := 1) rfl
  have qr0 := Rr.c (i := 0) rfl
  have qr1 := Rr.c (i := 1) rfl
  go_enter Tryz.func83, Tryz.ntmps83
  go_wp2_with (fail)
  obtain ⟨q, Eq⟩ : ∃ zq : Int, zq = a / b := ⟨_, rfl⟩
  have lq : nl (mg q) ≤ 1000000 := by rw [Eq]; omega
  obtain ⟨m, Em⟩ : ∃ zq : Int, zq = a % b := ⟨_, rfl⟩
  have lm : nl (mg m) ≤ 1000000 := by rw [Em]; omega
  have dm2 : nl (mg (2 * m)) ≤ 1000001 := by rw [Em]; omega
  have CT2 := (idiv_c aA ac a bA bc b _ ha hb (by omega) (by omega) (by omega))
  rw [← Eq, ← Em] at CT2
  replace Eq := Lib.hid Eq
  replace Em := Lib.hid Em
  replace CT2 := Lib.hid CT2
  refine (Calls.mono CT2.out ?_)
  clear CT2
  rintro e W2 ⟨Xq, cq, Xm, cm, rfl, hq, hm, hb2⟩
  replace ha := ha.below hb2
  replace hb := hb.below hb2
  replace Ra := Ra.below hb2
  replace qa0 := cbl hb2 qa0
  replace qa1 := cbl hb2 qa1
  replace Rb := Rb.below hb2
  replace qb0 := cbl hb2 qb0
  replace qb1 := cbl hb2 qb1
  replace Rr := Rr.below hb2
  replace qr0 := cbl hb2 qr0
  replace qr1 := cbl hb2 qr1
  replace HBT := Below.cons HBT hb2
  clear hb2
  clear lr0 lq0 ld0
  have szr := Rr.lt
  go_wp2_with (fail)
  obtain ⟨hb3, Rq, Rm⟩ := bx2 W2 #[.bool (sg q), .slice Xq (nl (mg q)) cq] 24 #[.bool (sg m), .slice Xm (nl (mg m)) cm] 24
  replace ha := ha.below hb3
  replace hb := hb.below hb3
  replace Ra := Ra.below hb3
  replace qa0 := cbl hb3 qa0
  replace qa1 := cbl hb3 qa1
  replace Rb := Rb.below hb3
  replace qb0 := cbl hb3 qb0
  replace qb1 := cbl hb3 qb1
  replace Rr := Rr.below hb3
  replace qr0 := cbl hb3 qr0
  replace qr1 := cbl hb3 qr1
  replace hq := hq.below hb3
  replace hm := hm.below hb3
  replace HBT := Below.cons HBT hb3
  clear hb3
  have qq0 := Rq.c (i := 0) rfl
  have qq1 := Rq.c (i := 1) rfl
  have qm0 := Rm.c (i := 0) rfl
  have qm1 := Rm.c (i := 1) rfl
  have hsg : (m.sign == 0) = false := by have := h0.out; rw [← Em.out] at this; simp; exact this
  obtain ⟨sn, Esn⟩ : ∃ sn, sn = m.sign := ⟨_, rfl⟩
  have CG := isign_c Xm cm m ((W2.alloc (.cells #[.bool (sg q), .slice Xq (nl (mg q)) cq] 24)).alloc (.cells #[.bool (sg m), .slice Xm (nl (mg m)) cm] 24))
  rw [← Esn] at CG hsg
  replace Esn := Lib.hid Esn
  refine (Calls.mono (CG) ?_)
  rintro e W4 ⟨rfl, hb4⟩
  replace ha := ha.below hb4
  replace hb := hb.below hb4
  replace Ra := Ra.below hb4
  replace qa0 := cbl hb4 qa0
  replace qa1 := cbl hb4 qa1
  replace Rb := Rb.below hb4
  replace qb0 := cbl hb4 qb0
  replace qb1 := cbl hb4 qb1
  replace Rr := Rr.below hb4
  replace qr0 := cbl hb4 qr0
  replace qr1 := cbl hb4 qr1
  replace hq := hq.below hb4
  replace hm := hm.below hb4
  replace Rq := Rq.below hb4
  replace qq0 := cbl hb4 qq0
  replace qq1 := cbl hb4 qq1
  replace Rm := Rm.below hb4
  replace qm0 := cbl hb4 qm0
  replace qm1 := cbl hb4 qm1
  replace HBT := Below.cons HBT hb4
  clear hb4
  have qn : mg q ≠ 0 := fun e => h1.out (Eq.out ▸ mg_zero.1 e)
  have t1 : decide (0 < (nl (mg q) : Int)) = true := by have := nl_pos.2 qn; simp; omega
  have t2 : decide (0 < nl (mg q)) = true := by have := nl_pos.2 qn; simp; omega
  have t9 := nl_pos.2 qn
  replace qn := Lib.hid qn
  obtain ⟨ad, eX, hc0⟩ := hq.rd.get 0 t9
  obtain ⟨x, Ex⟩ : ∃ x, x = gl (limbs (mg q)) 0 := ⟨_, rfl⟩
  have hxl : x < 4294967296 := by rw [Ex]; exact (lim_limbs _).gl 0
  have hxv : x = mg q / 4294967296 ^ 0 % 4294967296 := by rw [Ex, limbs_gl]
  rw [← Ex, show ad.add 0 = ad by cases ad; simp [Addr.add]; try (split <;> simp)] at hc0
  have hod := odd_limb hxv
  have hand := and_one_u32 x hxl
  obtain ⟨z, Ez⟩ : ∃ z, z = x % 2 := ⟨_, rfl⟩
  rw [← Ez] at hand hod
  have hoz : ((z : Int) == 1) = decide (q % 2 = 1) := by rw [hod]; by_cases k : z = 1 <;> simp [k] <;> omega
  obtain ⟨od, Eod⟩ : ∃ od, od = decide (q % 2 = 1) := ⟨_, rfl⟩
  rw [← Eod] at hoz
  replace Ex := Lib.hid Ex
  replace hxv := Lib.hid hxv
  replace hod := Lib.hid hod
  replace Ez := Lib.hid Ez
  replace Eod := Lib.hid Eod
  subst eX
  go_wp2_with (fail)
  obtain ⟨m2, Em2⟩ : ∃ z, z = 2 * m := ⟨_, rfl⟩
  rw [← Em2] at dm2
  have CS := fun (W : World) (h1 : NatV W Xm cm (mg m)) => ishift_c Xm cm m 1 W h1 (by omega) (by omega)
  simp only [shf_twice, ← Em2] at CS
  obtain ⟨fn, hfn, wi, wf, CW0⟩ := way_at dr d0 d4
  replace hfn := Lib.hid hfn
  obtain ⟨up, Eup⟩ : ∃ z, z = upw (sg a) od (m2 - b) dr := ⟨_, rfl⟩
  have CW := CW0 (sg a) od m2 b
  rw [← Eup] at CW
  clear CW0
  have hov2 : ovr a b dr = if up = true then q + 1 else q := by rw [hov.out, Eup, Em2, ← Eq.out, ← Em.out, Eod.out]
  replace CS := Lib.hid CS
  replace CW := Lib.hid CW
  replace Em2 := Lib.hid Em2
  replace Eup := Lib.hid Eup
  replace hov2 := Lib.hid hov2
  refine wp_region_inv (fun E a' w' => ∃ (u34 u35 u36 u37 u38 u39 u40 u41 u42 u43 u44 u45 : Value),
    a' = { tmps := #[.agg #[.bool (sg a), .slice aA (nl (mg a)) ac], .agg #[.bool (sg b), .slice bA (nl (mg b)) bc], .int .i64 dr, .pointer (some ⟨w.heap.size, 0, none⟩), .pointer (some ⟨(w.heap.size + 1), 0, none⟩), undef, .pointer (some ⟨(w.heap.size + 1 + 1), 0, none⟩), .pointer (some ⟨W2.heap.size, 0, none⟩), .pointer (some ⟨(W2.heap.size + 1), 0, none⟩), .int .i64 0, .bool od, .tuple #[.agg #[.bool (sg q), .slice (some ad) (nl (mg q)) cq], .agg #[.bool (sg m), .slice Xm (nl (mg m)) cm], .int .i64 0], .agg #[.bool (sg a), .slice aA (nl (mg a)) ac], .agg #[.bool (sg b), .slice bA (nl (mg b)) bc], .tuple #[.agg #[.bool (sg q), .slice (some ad) (nl (mg q)) cq], .agg #[.bool (sg m), .slice Xm (nl (mg m)) cm], .int .i64 0], .agg #[.bool (sg q), .slice (some ad) (nl (mg q)) cq], .agg #[.bool (sg m), .slice Xm (nl (mg m)) cm], .int .i64 0, .agg #[.bool (sg m), .slice Xm (nl (mg m)) cm], .int .i64 sn, .bool false, undef, .pointer (some ⟨W2.heap.size, 1, none⟩), .slice (some ad) (nl (mg q)) cq, .int .i64 (nl (mg q)), .bool true, .bool true, .pointer (some ⟨W2.heap.size, 1, none⟩), .slice (some ad) (nl (mg q)) cq, .pointer (some ad), .int .u32 x, .int .u32 z, .bool od, .bool od, u34, u35, u36, u37, u38, u39, u40, u41, u42, u43, u44, u45, undef, undef, undef, undef], defers := [] } ∧
    (E 0 = true → u34 = (.agg #[.func (.func 133) #[] #[], .func (.func 134) #[] #[], .func (.func 135) #[] #[], .func (.func 136) #[] #[], .func (.func 137) #[] #[]])) ∧
    (E 1 = true → u35 = .int .i64 dr) ∧
    (E 2 = true → u36 = .agg #[.func (.func fn) #[] #[]]) ∧
    (E 3 = true → u37 = .func (.func fn) #[] #[]) ∧
    (E 4 = true → u38 = .pointer (some ⟨w.heap.size, 0, none⟩)) ∧
    (E 5 = true → u39 = .bool (sg a)) ∧
    (E 6 = true → u40 = .bool od) ∧
    (E 7 = true → u41 = .agg #[.bool (sg m), .slice Xm (nl (mg m)) cm]) ∧
    (E 8 = true → PI u42 m2 w') ∧
    (E 9 = true → u43 = .agg #[.bool (sg b), .slice bA (nl (mg b)) bc]) ∧
    (E 10 = true → u44 = .int .i64 (icmp m2 b)) ∧
    (E 11 = true → u45 = .bool up) ∧
    Below W4.heap.size W4 w') (by kernel_rfl) (by kernel_rfl) ?init ?fin ?step
  case init => exact ⟨_, _, _, _, _, _, _, _, _, _, _, _, rfl, by simp, by simp, by simp, by simp, by simp, by simp, by simp, by simp, by simp, by simp, by simp, by simp, (Below.refl _ _).drew⟩
  case step =>
    rintro E a' w' i ⟨u34, u35, u36, u37, u38, u39, u40, u41, u42, u43, u44, u45, rfl, h0, h1, h2, h3, h4, h5, h6, h7, h8, h9, h10, h11, hB⟩ hi hEi hdep
    have qa0 := cbl hB qa0
    have qa1 := cbl hB qa1
    have qb0 := cbl hB qb0
    have qb1 := cbl hB qb1
    have qm0 := cbl hB qm0
    have qm1 := cbl hB qm1
    obtain rfl | rfl | rfl | rfl | rfl | rfl | rfl | rfl | rfl | rfl | rfl | rfl : i = 0 ∨ i = 1 ∨ i = 2 ∨ i = 3 ∨ i = 4 ∨ i = 5 ∨ i = 6 ∨ i = 7 ∨ i = 8 ∨ i = 9 ∨ i = 10 ∨ i = 11 := by simp at hi; omega
    · skip
      refine wpOp_step rfl (fun K' hK' => ?_)
      go_simp
      refine (Calls.mono (ways_c w') ?_)
      rintro e W1 ⟨rfl, kb⟩
      refine hK' _ _ ?_
      exact ⟨_, _, _, _, _, _, _, _, _, _, _, _, rfl, fun _ => rfl, keepD (by decide) h1, keepD (by decide) h2, keepD (by decide) h3, keepD (by decide) h4, keepD (by decide) h5, keepD (by decide) h6, keepD (by decide) h7, keepP (by decide) h8 (fun h => h.below kb), keepD (by decide) h9, keepD (by decide) h10, keepD (by decide) h11, Below.cons hB kb⟩
    · skip
      refine wpOp_step rfl (fun K' hK' => ?_)
      go_simp
      refine hK' _ _ ?_
      exact ⟨_, _, _, _, _, _, _, _, _, _, _, _, rfl, keepD (by decide) h0, fun _ => rfl, keepD (by decide) h2, keepD (by decide) h3, keepD (by decide) h4, keepD (by decide) h5, keepD (by decide) h6, keepD (by decide) h7, keepD (by decide) h8, keepD (by decide) h9, keepD (by decide) h10, keepD (by decide) h11, hB⟩
    · skip
      have d0 := hdep _ rfl ⟨0, .data⟩ (by simp) rfl
      obtain rfl := h0 d0
      have d1 := hdep _ rfl ⟨1, .data⟩ (by simp) rfl
      obtain rfl := h1 d1
      refine wpOp_step rfl (fun K' hK' => ?_)
      go_simp
      refine hK' _ _ ?_
      exact ⟨_, _, _, _, _, _, _, _, _, _, _, _, rfl, keepD (by decide) h0, keepD (by decide) h1, fun _ => rfl, keepD (by decide) h3, keepD (by decide) h4, keepD (by decide) h5, keepD (by decide) h6, keepD (by decide) h7, keepD (by decide) h8, keepD (by decide) h9, keepD (by decide) h10, keepD (by decide) h11, hB⟩
    · skip
      have d2 := hdep _ rfl ⟨2, .data⟩ (by simp) rfl
      obtain rfl := h2 d2
      refine wpOp_step rfl (fun K' hK' => ?_)
      go_simp
      refine hK' _ _ ?_
      exact ⟨_, _, _, _, _, _, _, _, _, _, _, _, rfl, keepD (by decide) h0, keepD (by decide) h1, keepD (by decide) h2, fun _ => rfl, keepD (by decide) h4, keepD (by decide) h5, keepD (by decide) h6, keepD (by decide) h7, keepD (by decide) h8, keepD (by decide) h9, keepD (by decide) h10, keepD (by decide) h11, hB⟩
    · skip
      refine wpOp_step rfl (fun K' hK' => ?_)
      go_simp
      refine hK' _ _ ?_
      exact ⟨_, _, _, _, _, _, _, _, _, _, _, _, rfl, keepD (by decide) h0, keepD (by decide) h1, keepD (by decide) h2, keepD (by decide) h3, fun _ => rfl, keepD (by decide) h5, keepD (by decide) h6, keepD (by decide) h7, keepD (by decide) h8, keepD (by decide) h9, keepD (by decide) h10, keepD (by decide) h11, hB⟩
    · skip
      have d4 := hdep _ rfl ⟨4, .data⟩ (by simp) rfl
      obtain rfl := h4 d4
      refine wpOp_step rfl (fun K' hK' => ?_)
      go_simp
      refine hK' _ _ ?_
      exact ⟨_, _, _, _, _, _, _, _, _, _, _, _, rfl, keepD (by decide) h0, keepD (by decide) h1, keepD (by decide) h2, keepD (by decide) h3, keepD (by decide) h4, fun _ => rfl, keepD (by decide) h6, keepD (by decide) h7, keepD (by decide) h8, keepD (by decide) h9, keepD (by decide) h10, keepD (by decide) h11, hB⟩
    · skip
      refine wpOp_step rfl (fun K' hK' => ?_)
      go_simp
      refine hK' _ _ ?_
      exact ⟨_, _, _, _, _, _, _, _, _, _, _, _, rfl, keepD (by decide) h0, keepD (by decide) h1, keepD (by decide) h2, keepD (by decide) h3, keepD (by decide) h4, keepD (by decide) h5, fun _ => rfl, keepD (by decide) h7, keepD (by decide) h8, keepD (by decide) h9, keepD (by decide) h10, keepD (by decide) h11, hB⟩
    · skip
      refine wpOp_step rfl (fun K' hK' => ?_)
      go_simp
      refine hK' _ _ ?_
      exact ⟨_, _, _, _, _, _, _, _, _, _, _, _, rfl, keepD (by decide) h0, keepD (by decide) h1, keepD (by decide) h2, keepD (by decide) h3, keepD (by decide) h4, keepD (by decide) h5, keepD (by decide) h6, fun _ => rfl, keepD (by decide) h8, keepD (by decide) h9, keepD (by decide) h10, keepD (by decide) h11, hB⟩
    · skip
      have d7 := hdep _ rfl ⟨7, .data⟩ (by simp) rfl
      obtain rfl := h7 d7
      refine wpOp_step rfl (fun K' hK' => ?_)
      go_simp
      refine (Calls.mono (CS.out w' (hm.below hB)) ?_)
      rintro e W1 ⟨Xr, cr, rfl, kr, kb⟩
      refine hK' _ _ ?_
      exact ⟨_, _, _, _, _, _, _, _, _, _, _, _, rfl, keepD (by decide) h0, keepD (by decide) h1, keepD (by decide) h2, keepD (by decide) h3, keepD (by decide) h4, keepD (by decide) h5, keepD (by decide) h6, keepD (by decide) h7, fun _ => ⟨Xr, cr, rfl, kr⟩, keepD (by decide) h9, keepD (by decide) h10, keepD (by decide) h11, Below.cons hB kb⟩
    · skip
      refine wpOp_step rfl (fun K' hK' => ?_)
      go_simp
      refine hK' _ _ ?_
      exact ⟨_, _, _, _, _, _, _, _, _, _, _, _, rfl, keepD (by decide) h0, keepD (by decide) h1, keepD (by decide) h2, keepD (by decide) h3, keepD (by decide) h4, keepD (by decide) h5, keepD (by decide) h6, keepD (by decide) h7, keepD (by decide) h8, fun _ => rfl, keepD (by decide) h10, keepD (by decide) h11, hB⟩
    · skip
      have d8 := hdep _ rfl ⟨8, .data⟩ (by simp) rfl
      obtain ⟨X_8, c_8, rfl, k_8⟩ := h8 d8
      have d9 := hdep _ rfl ⟨9, .data⟩ (by simp) rfl
      obtain rfl := h9 d9
      refine wpOp_step rfl (fun K' hK' => ?_)
      go_simp
      refine (Calls.mono (icmp_c X_8 c_8 m2 bA bc b w' k_8 (hb.below hB) (by omega) (by omega)) ?_)
      rintro e W1 ⟨rfl, kb⟩
      refine hK' _ _ ?_
      exact ⟨_, _, _, _, _, _, _, _, _, _, _, _, rfl, keepD (by decide) h0, keepD (by decide) h1, keepD (by decide) h2, keepD (by decide) h3, keepD (by decide) h4, keepD (by decide) h5, keepD (by decide) h6, keepD (by decide) h7, keepP (by decide) h8 (fun h => h.below kb), keepD (by decide) h9, fun _ => rfl, keepD (by decide) h11, Below.cons hB kb⟩
    · skip
      have d3 := hdep _ rfl ⟨3, .data⟩ (by simp) rfl
      obtain rfl := h3 d3
      have d5 := hdep _ rfl ⟨5, .data⟩ (by simp) rfl
      obtain rfl := h5 d5
      have d6 := hdep _ rfl ⟨6, .data⟩ (by simp) rfl
      obtain rfl := h6 d6
      have d10 := hdep _ rfl ⟨10, .data⟩ (by simp) rfl
      obtain rfl := h10 d10
      rcases hfn.out with rfl | rfl | rfl | rfl | rfl
      all_goals refine wpOp_step rfl (fun K' hK' => ?_)
      all_goals go_simp
      all_goals refine (Calls.mono (CW.out w') ?_)
      all_goals rintro e W1 ⟨rfl, kb⟩
      all_goals refine hK' _ _ ?_
      all_goals exact ⟨_, _, _, _, _, _, _, _, _, _, _, _, rfl, keepD (by decide) h0, keepD (by decide) h1, keepD (by decide) h2, keepD (by decide) h3, keepD (by decide) h4, keepD (by decide) h5, keepD (by decide) h6, keepD (by decide) h7, keepP (by decide) h8 (fun h => h.below kb), keepD (by decide) h9, keepD (by decide) h10, fun _ => rfl, Below.cons hB kb⟩
  case fin =>
    rintro E a' w' ⟨u34, u35, u36, u37, u38, u39, u40, u41, u42, u43, u44, u45, rfl, h0, h1, h2, h3, h4, h5, h6, h7, h8, h9, h10, h11, hB⟩ hall
    replace ha := ha.below hB
    replace hb := hb.below hB
    replace Ra := Ra.below hB
    replace qa0 := cbl hB qa0
    replace qa1 := cbl hB qa1
    replace Rb := Rb.below hB
    replace qb0 := cbl hB qb0
    replace qb1 := cbl hB qb1
    replace Rr := Rr.below hB
    replace qr0 := cbl hB qr0
    replace qr1 := cbl hB qr1
    replace hq := hq.below hB
    replace hm := hm.below hB
    replace Rq := Rq.below hB
    replace qq0 := cbl hB qq0
    replace qq1 := cbl hB qq1
    replace Rm := Rm.below hB
    replace qm0 := cbl hB qm0
    replace qm1 := cbl hB qm1
    replace hc0 := cbl hB hc0
    replace HBT := Below.cons HBT hB
    obtain rfl := h11 (hall 11 (by simp))
    clear hall
    cases up
    case false =>
      have fzr0 := Rr.f (i := 0)
      have fzr1 := Rr.f (i := 1)
      go_wp2_with (fail)
      have hzq : q = ovr a b dr := by have := hov2.out; simpa using this.symm
      subst hzq
      have RS := Rr.store2 (.bool (sg ((ovr a b dr)))) (.slice (some ad) (nl (mg ((ovr a b dr)))) cq)
      have e0 := RS.c (i := 0) rfl
      have e1 := RS.c (i := 1) rfl
      refine bodyPost_ret (v := .agg #[.bool (sg ((ovr a b dr))), .slice (some ad) (nl (mg ((ovr a b dr)))) cq]) (by simp [results, Tryz.results83, go_sem, e0, e1]) rfl ?_
      exact ⟨(some ad), cq, rfl, (Rr.keep2 (nuB rfl) hq), (Below.store2 HBT (by first | exact Nat.le_refl _ | omega))⟩
    case true =>
      go_wp2_with (fail)
      have hd5 := drb (w')
      replace ha := ha.below hd5
      replace hb := hb.below hd5
      replace Ra := Ra.below hd5
      replace qa0 := cbl hd5 qa0
      replace qa1 := cbl hd5 qa1
      replace Rb := Rb.below hd5
      replace qb0 := cbl hd5 qb0
      replace qb1 := cbl hd5 qb1
      replace Rr := Rr.below hd5
      replace qr0 := cbl hd5 qr0
      replace qr1 := cbl hd5 qr1
      replace hq := hq.below hd5
      replace hm := hm.below hd5
      replace Rq := Rq.below hd5
      replace qq0 := cbl hd5 qq0
      replace qq1 := cbl hd5 qq1
      replace Rm := Rm.below hd5
      replace qm0 := cbl hd5 qm0
      replace qm1 := cbl hd5 qm1
      replace hc0 := cbl hd5 hc0
      replace HBT := Below.cons HBT hd5
      clear hd5
      obtain ⟨o1, Eo1⟩ : ∃ zq : Int, zq = (1 : Int) := ⟨_, rfl⟩
      have No1 : nl (mg o1) ≤ 1 := by rw [Eo1]; exact Nat.le_of_eq nl_one
      have C5_0 := fun (W : World) => (show Calls Tryz.prog 108 #[.int .i64 1] W (RetI W o1) by rw [Eo1]; exact iof1_c W)
      replace Eo1 := Lib.hid Eo1
      replace C5_0 := Lib.hid C5_0
      obtain ⟨y, Ey⟩ : ∃ zq : Int, zq = q + o1 := ⟨_, rfl⟩
      have C5_1 := fun (W : World) (A : Option Addr) (c : Nat) (h1 : NatV W (some ad) cq (mg q)) (h2 : NatV W A c (mg o1)) => iadd_c (some ad) cq q A c o1 W h1 h2 (by omega) (by omega)
      simp only [← Ey] at C5_1
      replace Ey := Lib.hid Ey
      replace C5_1 := Lib.hid C5_1
      go_region_held3 (fun W => W.cell? ⟨W2.heap.size, 0, none⟩ = some (.bool (sg q)) ∧ W.cell? ⟨W2.heap.size, 1, none⟩ = some (.slice (some ad) (nl (mg q)) cq))
        (first
          | exact ⟨qq0, qq1⟩
          | exact ⟨qq0_6, qq1_6⟩
          | exact ⟨qq0_7, qq1_7⟩
          | exact ⟨((Rq_7.other2 (by simp <;> omega)).c (i := 0) rfl), ((Rq_7.other2 (by simp <;> omega)).c (i := 1) rfl)⟩
          | go_keep)
        (first
          | (go_at_call 108; (with_reducible refine (C5_0.out _).mono ?_); rintro e W6 ⟨Xo1, co1, rfl, ho1, hb6⟩; have ha_6 := ha.below hb6; have hb_6 := hb.below hb6; have Ra_6 := Ra.below hb6; have qa0_6 := cbl hb6 qa0; have qa1_6 := cbl hb6 qa1; have Rb_6 := Rb.below hb6; have qb0_6 := cbl hb6 qb0; have qb1_6 := cbl hb6 qb1; have Rr_6 := Rr.below hb6; have qr0_6 := cbl hb6 qr0; have qr1_6 := cbl hb6 qr1; have hq_6 := hq.below hb6; have hm_6 := hm.below hb6; have Rq_6 := Rq.below hb6; have qq0_6 := cbl hb6 qq0; have qq1_6 := cbl hb6 qq1; have Rm_6 := Rm.below hb6; have qm0_6 := cbl hb6 qm0; have qm1_6 := cbl hb6 qm1; have hc0_6 := cbl hb6 hc0; have HBT_6 := Below.cons HBT hb6)
          | (go_at_call 103; (with_reducible refine (C5_1.out _ _ _ hq_6 ho1).mono ?_); rintro e W7 ⟨Xy, cy, rfl, hy, hb7⟩; have ha_7 := ha_6.below hb7; have hb_7 := hb_6.below hb7; have Ra_7 := Ra_6.below hb7; have qa0_7 := cbl hb7 qa0_6; have qa1_7 := cbl hb7 qa1_6; have Rb_7 := Rb_6.below hb7; have qb0_7 := cbl hb7 qb0_6; have qb1_7 := cbl hb7 qb1_6; have Rr_7 := Rr_6.below hb7; have qr0_7 := cbl hb7 qr0_6; have qr1_7 := cbl hb7 qr1_6; have hq_7 := hq_6.below hb7; have hm_7 := hm_6.below hb7; have Rq_7 := Rq_6.below hb7; have qq0_7 := cbl hb7 qq0_6; have qq1_7 := cbl hb7 qq1_6; have Rm_7 := Rm_6.below hb7; have qm0_7 := cbl hb7 qm0_6; have qm1_7 := cbl hb7 qm1_6; have hc0_7 := cbl hb7 hc0_6; have ho1_7 := ho1.below hb7; have HBT_7 := Below.cons HBT_6 hb7; have fz0 := Rr_7.f (i := 0); have fz1 := Rr_7.f (i := 1)))
      all_goals (try go_wp2_with (fail))
      have hzy : y = ovr a b dr := by rw [Ey.out, Eo1.out]; have := hov2.out; simpa using this.symm
      subst hzy
      have RS := Rr_7.store2 (.bool (sg ((ovr a b dr)))) (.slice Xy (nl (mg ((ovr a b dr)))) cy)
      have e0 := RS.c (i := 0) rfl
      have e1 := RS.c (i := 1) rfl
      refine bodyPost_ret (v := .agg #[.bool (sg ((ovr a b dr))), .slice Xy (nl (mg ((ovr a b dr)))) cy]) (by simp [results, Tryz.results83, go_sem, e0, e1]) rfl ?_
      exact ⟨Xy, cy, rfl, (Rr_7.keep2 (nuB rfl) hy), (Below.store2 HBT_7 (by first | exact Nat.le_refl _ | omega))⟩
theorem over_c (aA : Option Addr) (ac : Nat) (a : Int) (bA : Option Addr) (bc : Nat) (b : Int) (dr : Int) (w : World) (ha : NatV w aA ac (mg a)) (hb : NatV w bA bc (mg b)) (la : nl (mg a) ≤ 1000000) (lb : nl (mg b) ≤ 1000000) (hb0 : 0 < b) (h0 : 0 ≤ dr) (h4 : dr ≤ 4) :
    Calls Tryz.prog 83 #[.agg #[.bool (sg a), .slice aA (nl (mg a)) ac], .agg #[.bool (sg b), .slice bA (nl (mg b)) bc], .int .i64 dr] w (RetI w (ovr a b dr)) := by
  by_cases k : a % b = 0
  · exact over_z aA ac a bA bc b dr w ha hb h0 h4 la lb hb0 k
  · by_cases k2 : a / b = 0
    · exact over_q aA ac a bA bc b dr w ha hb h0 h4 la lb hb0 k k2
    · exact over_n aA ac a bA bc b dr w ha hb h0 h4 la lb hb0 k k2
end Go.Proofs.YtpaffggdeedopaaGreatDoor
