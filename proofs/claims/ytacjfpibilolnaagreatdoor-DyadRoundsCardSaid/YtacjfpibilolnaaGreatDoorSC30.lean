/- Dyadic numbers, walked: Mid; rationals: Whole, Make; Rat. -/
import Derived.Test.YtacjfpibilolnaaGreatDoorSC27
import Derived.Test.YtacjfpibilolnaaGreatDoorSC29
import Derived.Test.YtacjfpibilolnaaGreatDoorSC03
import Derived.Orders
set_option maxRecDepth 100000
set_option maxHeartbeats 4000000
set_option linter.unusedVariables false
set_option linter.unusedSimpArgs false
namespace Go.Proofs.YtacjfpibilolnaaGreatDoor
open Go.RowKit Go.Shelf
attribute [local go_sem] max2_i min2_i max_two min_two

theorem mg_dm_le (z : Int) : mg (dm z) ≤ mg z := by
  have h := (dm_spec z).1
  have h2 := congrArg mg h
  rw [mg_mul] at h2
  have e : mg ((2 : Int) ^ v2 (mg z)) = 2 ^ v2 (mg z) := by unfold mg; rw [Int.natAbs_pow]; rfl
  rw [e] at h2
  rw [h2]; exact Nat.le_mul_of_pos_right _ (Nat.two_pow_pos _)
theorem form_bd (z e : Int) : nl (mg (dmn (dval z e))) ≤ nl (mg z) ∧ (dex (dval z e) = 0 ∨ e ≤ dex (dval z e) ∧ dex (dval z e) ≤ e + 32 * nl (mg z)) := by
  obtain ⟨h1, h2⟩ := make_form z e
  rw [← h1, ← h2]
  refine ⟨nl_mono (mg_dm_le z), ?_⟩
  unfold de
  split
  · exact .inl rfl
  · have := v2_le (mg z); exact .inr (by omega)
theorem sum_bd {a b : Rat} (ha : DOk a) (hb : DOk b) : ∃ z E, a + b = dval z E ∧ nl (mg z) ≤ 162503 ∧ -1000000 ≤ E ∧ E ≤ 1000000 := by
  have h1 := ha.e
  have h2 := hb.e
  have l1 := ha.l
  have l2 := hb.l
  obtain ⟨E, hE⟩ : ∃ E, E = min (dex a) (dex b) := ⟨_, rfl⟩
  refine ⟨shf (dmn a) (dex a - E) + shf (dmn b) (dex b - E), E, ?_, ?_, by omega, by omega⟩
  · rw [dval_add, lev ha.d (by omega), lev hb.d (by omega)]
  · have n1 := nl_shf (K := 0) l1 (d := dex a - E) (by omega) (by omega)
    have n2 := nl_shf (K := 0) l2 (d := dex b - E) (by omega) (by omega)
    have h3 := nl_add (mg (shf (dmn a) (dex a - E))) (mg (shf (dmn b) (dex b - E)))
    have h4 : nl (mg (shf (dmn a) (dex a - E) + shf (dmn b) (dex b - E))) ≤ nl (mg (shf (dmn a) (dex a - E)) + mg (shf (dmn b) (dex b - E))) := nl_mono (Int.natAbs_add_le _ _)
    omega
theorem dval_half (m e : Int) : dval m (e - 1) = dval m e * (1 / 2) := by
  unfold dval
  rw [show e - 1 = e + (-1) by omega, zp_add, Rat.mul_assoc, Rat.zpow_neg, Rat.zpow_one, Rat.div_def, Rat.one_mul]
def RetR (w : World) (q : Rat) (e : Ending) (w' : World) : Prop := ∃ A c B d, e = .returned (.agg #[.bool (sg q.num), .slice A (nl (mg q.num)) c, .slice B (nl q.den) d]) ∧ NatV w' A c (mg q.num) ∧ NatV w' B d q.den ∧ Below w.heap.size w w'
def RetRe (w : World) (q : Rat) (e : Ending) (w' : World) : Prop := ∃ A c B d, e = .returned (.tuple #[.agg #[.bool (sg q.num), .slice A (nl (mg q.num)) c, .slice B (nl q.den) d], .int .i64 0]) ∧ NatV w' A c (mg q.num) ∧ NatV w' B d q.den ∧ Below w.heap.size w w'
theorem dmid_c (aA : Option Addr) (ac : Nat) (a : Rat) (bA : Option Addr) (bc : Nat) (b : Rat) (w : World) (ha : NatV w aA ac (mg (dmn a))) (hb : NatV w bA bc (mg (dmn b))) (oa : DOk a) (ob : DOk b) (hT : Tab w) :
    Calls Tryz.prog 40 #[.agg #[.bool (sg (dmn a)), .slice aA (nl (mg (dmn a))) ac, .int .i64 (dex a)], .agg #[.bool (sg (dmn b)), .slice bA (nl (mg (dmn b))) bc, .int .i64 (dex b)]] w (RetD w ((a + b) * (1 / 2))) := by
  obtain ⟨z, E, hs, hz1, hE1, hE2⟩ := sum_bd oa ob
  obtain ⟨k1, k2⟩ := form_bd z E
  have hd : Dyd (a + b) := by rw [hs]; exact dyd_val z E
  rw [← hs] at k1 k2
  have hv : dval (dmn (a + b)) (dex (a + b) - 1) = (a + b) * (1 / 2) := by rw [dval_half, dval_q hd]
  replace hs := Lib.hid hs
  replace hd := Lib.hid hd
  replace hv := Lib.hid hv
  replace oa := Lib.hid oa
  replace ob := Lib.hid ob
  obtain ⟨hb1, Ra, Rb, Rr⟩ := bx3 w #[.bool (sg (dmn a)), .slice aA (nl (mg (dmn a))) ac, .int .i64 (dex a)] 28 #[.bool (sg (dmn b)), .slice bA (nl (mg (dmn b))) bc, .int .i64 (dex b)] 28 #[.bool false, .slice none 0 0, .int .i64 0] 28
  replace ha := ha.below hb1
  replace hb := hb.below hb1
  replace hT := hT.below hb1
  have HBT := hb1
  clear hb1
  have qa0 := Ra.c (i := 0) rfl
  have qa1 := Ra.c (i := 1) rfl
  have qa2 := Ra.c (i := 2) rfl
  have qb0 := Rb.c (i := 0) rfl
  have qb1 := Rb.c (i := 1) rfl
  have qb2 := Rb.c (i := 2) rfl
  have qr0 := Rr.c (i := 0) rfl
  have qr1 := Rr.c (i := 1) rfl
  have qr2 := Rr.c (i := 2) rfl
  go_enter Tryz.func40, Tryz.ntmps40
  go_wp2_with (fail)
  obtain ⟨u, Eu⟩ : ∃ zq : Rat, zq = a + b := ⟨_, rfl⟩
  have lu : nl (mg (dmn u)) ≤ 162503 := by rw [Eu]; exact Nat.le_trans k1 hz1
  have eu : -1000000 ≤ dex u ∧ dex u ≤ 6300096 := by rw [Eu]; omega
  obtain ⟨x, Ex⟩ : ∃ x, x = dex u - 1 := ⟨_, rfl⟩
  have Ix : dex u - 1 = x := Ex.symm
  have hxr : -1073741824 ≤ x ∧ x ≤ 1073741824 := by omega
  have hv2 : dval (dmn u) x = (a + b) * (1 / 2) := by rw [Ex, Eu]; exact hv.out
  clear k1 k2
  replace Ex := Lib.hid Ex
  replace hv2 := Lib.hid hv2
  refine (Calls.mono (R := RetD (((w.alloc (.cells #[.bool (sg (dmn a)), .slice aA (nl (mg (dmn a))) ac, .int .i64 (dex a)] 28)).alloc (.cells #[.bool (sg (dmn b)), .slice bA (nl (mg (dmn b))) bc, .int .i64 (dex b)] 28)).alloc (.cells #[.bool false, .slice none 0 0, .int .i64 0] 28)) u) (by rw [Eu]; with_reducible exact (dadd_c aA ac a bA bc b _ ha hb oa.out ob.out hT)) ?_)
  replace Eu := Lib.hid Eu
  rintro e W2 ⟨Xu, cu, rfl, hu, hb2⟩
  replace ha := ha.below hb2
  replace hb := hb.below hb2
  replace hT := hT.below hb2
  replace Ra := Ra.below hb2
  replace qa0 := cbl hb2 qa0
  replace qa1 := cbl hb2 qa1
  replace qa2 := cbl hb2 qa2
  replace Rb := Rb.below hb2
  replace qb0 := cbl hb2 qb0
  replace qb1 := cbl hb2 qb1
  replace qb2 := cbl hb2 qb2
  replace Rr := Rr.below hb2
  replace qr0 := cbl hb2 qr0
  replace qr1 := cbl hb2 qr1
  replace qr2 := cbl hb2 qr2
  replace HBT := Below.cons HBT hb2
  clear hb2
  go_wp2_with (fail)
  obtain ⟨hb3, Ru⟩ := bx1 W2 #[.bool (sg (dmn u)), .slice Xu (nl (mg (dmn u))) cu, .int .i64 (dex u)] 28
  replace ha := ha.below hb3
  replace hb := hb.below hb3
  replace hT := hT.below hb3
  replace Ra := Ra.below hb3
  replace qa0 := cbl hb3 qa0
  replace qa1 := cbl hb3 qa1
  replace qa2 := cbl hb3 qa2
  replace Rb := Rb.below hb3
  replace qb0 := cbl hb3 qb0
  replace qb1 := cbl hb3 qb1
  replace qb2 := cbl hb3 qb2
  replace Rr := Rr.below hb3
  replace qr0 := cbl hb3 qr0
  replace qr1 := cbl hb3 qr1
  replace qr2 := cbl hb3 qr2
  replace hu := hu.below hb3
  replace HBT := Below.cons HBT hb3
  clear hb3
  have qu0 := Ru.c (i := 0) rfl
  have qu1 := Ru.c (i := 1) rfl
  have qu2 := Ru.c (i := 2) rfl
  obtain ⟨q, Eq⟩ : ∃ zq : Rat, zq = dval (dmn u) x := ⟨_, rfl⟩
  refine (Calls.mono (R := RetD (W2.alloc (.cells #[.bool (sg (dmn u)), .slice Xu (nl (mg (dmn u))) cu, .int .i64 (dex u)] 28)) q) (by rw [Eq]; with_reducible exact (dmake_c Xu cu (dmn u) x _ hu hT (by omega) hxr)) ?_)
  replace Eq := Lib.hid Eq
  rintro e W4 ⟨Xq, cq, rfl, hq, hb4⟩
  replace ha := ha.below hb4
  replace hb := hb.below hb4
  replace hT := hT.below hb4
  replace Ra := Ra.below hb4
  replace qa0 := cbl hb4 qa0
  replace qa1 := cbl hb4 qa1
  replace qa2 := cbl hb4 qa2
  replace Rb := Rb.below hb4
  replace qb0 := cbl hb4 qb0
  replace qb1 := cbl hb4 qb1
  replace qb2 := cbl hb4 qb2
  replace Rr := Rr.below hb4
  replace qr0 := cbl hb4 qr0
  replace qr1 := cbl hb4 qr1
  replace qr2 := cbl hb4 qr2
  replace hu := hu.below hb4
  replace Ru := Ru.below hb4
  replace qu0 := cbl hb4 qu0
  replace qu1 := cbl hb4 qu1
  replace qu2 := cbl hb4 qu2
  replace HBT := Below.cons HBT hb4
  clear hb4
  have fzr0 := Rr.f (i := 0)
  have fzr1 := Rr.f (i := 1)
  have fzr2 := Rr.f (i := 2)
  go_wp2_with (fail)
  have hzq : q = (a + b) * (1 / 2) := by rw [Eq.out]; exact hv2.out
  subst hzq
  have RS := Rr.store3 (.bool (sg (dmn (((a + b) * (1 / 2)))))) (.slice Xq (nl (mg (dmn (((a + b) * (1 / 2)))))) cq) (.int .i64 (dex (((a + b) * (1 / 2)))))
  have e0 := RS.c (i := 0) rfl
  have e1 := RS.c (i := 1) rfl
  have e2 := RS.c (i := 2) rfl
  refine bodyPost_ret (v := .agg #[.bool (sg (dmn (((a + b) * (1 / 2))))), .slice Xq (nl (mg (dmn (((a + b) * (1 / 2)))))) cq, .int .i64 (dex (((a + b) * (1 / 2))))]) (by simp [results, Tryz.results40, go_sem, e0, e1, e2]) rfl ?_
  exact ⟨Xq, cq, rfl, (Rr.keep3 (nuB rfl) hq), (Below.store3 HBT (by first | exact Nat.le_refl _ | omega))⟩
theorem rwhole0_c (aA : Option Addr) (ac a : Nat) (w : World) (ha : NatV w aA ac a)  :
    Calls Tryz.prog 122 #[.slice aA (nl a) ac] w (RetI w (a : Int)) := by
  go_enter Tryz.func122, Tryz.ntmps122
  go_wp2_with (fail)
  obtain ⟨hb1, Rr⟩ := bx1 w #[.bool false, .slice aA (nl a) ac] 24
  replace ha := ha.below hb1
  have HBT := hb1
  clear hb1
  have qr0 := Rr.c (i := 0) rfl
  have qr1 := Rr.c (i := 1) rfl
  refine bodyPost_ret (v := .agg #[.bool false, .slice aA (nl a) ac]) (by simp [results, Tryz.results122, go_sem, qr0, qr1]) rfl ?_
  exact ⟨aA, ac, by rw [mg_nat, sg_f (Int.natCast_nonneg a)], by rw [mg_nat]; exact ha, HBT⟩
theorem rwhole_c (aA : Option Addr) (ac : Nat) (a : Int) (w : World) (ha : NatV w aA ac (mg a))  :
    Calls Tryz.prog 95 #[.agg #[.bool (sg a), .slice aA (nl (mg a)) ac]] w (RetR w (a : Rat)) := by
  go_enter Tryz.func95, Tryz.ntmps95
  go_wp2_with (fail)
  obtain ⟨hb1, Ra, Rr, Rl⟩ := bx3 w #[.bool (sg a), .slice aA (nl (mg a)) ac] 24 #[.bool (sg a), .slice aA (nl (mg a)) ac, .slice (some ⟨w.heap.size + 1 + 1, 0, none⟩) 1 1] 26 #[.int .u32 1] 58
  replace ha := ha.below hb1
  have HBT := hb1
  clear hb1
  have qa0 := Ra.c (i := 0) rfl
  have qa1 := Ra.c (i := 1) rfl
  have qr0 := Rr.c (i := 0) rfl
  have qr1 := Rr.c (i := 1) rfl
  have qr2 := Rr.c (i := 2) rfl
  have ql0 := Rl.c (i := 0) rfl
  have hone := nat_one _ _ Rl.at_
  refine bodyPost_ret (v := .agg #[.bool (sg a), .slice aA (nl (mg a)) ac, .slice (some ⟨w.heap.size + 1 + 1, 0, none⟩) 1 1]) (by simp [results, Tryz.results95, go_sem, qr0, qr1, qr2]) rfl ?_
  exact ⟨aA, ac, some ⟨w.heap.size + 1 + 1, 0, none⟩, 1, by rw [Rat.num_intCast, Rat.den_intCast, nl_one], by rw [Rat.num_intCast]; exact ha, by rw [Rat.den_intCast]; exact hone, HBT⟩
theorem gcd_parts {n d : Int} (hd : 0 < d) : n % (Nat.gcd (mg n) (mg d) : Int) = 0 ∧ d % (Nat.gcd (mg n) (mg d) : Int) = 0 ∧ 0 < Nat.gcd (mg n) (mg d) ∧ (Rat.divInt n d).num = n / (Nat.gcd (mg n) (mg d) : Int) ∧ ((Rat.divInt n d).den : Int) = d / (Nat.gcd (mg n) (mg d) : Int) ∧ (Rat.divInt n d).den = mg (d / (Nat.gcd (mg n) (mg d) : Int)) ∧ 0 ≤ d / (Nat.gcd (mg n) (mg d) : Int) := by
  have hg : 0 < Nat.gcd (mg n) (mg d) := Nat.gcd_pos_of_pos_right _ (mg_pos.2 (by omega))
  have h1 : ((Nat.gcd (mg n) (mg d) : Nat) : Int) ∣ n := by rw [← Int.dvd_natAbs]; exact Int.natCast_dvd_natCast.2 (Nat.gcd_dvd_left _ _)
  have h2 : ((Nat.gcd (mg n) (mg d) : Nat) : Int) ∣ d := by rw [← Int.dvd_natAbs]; exact Int.natCast_dvd_natCast.2 (Nat.gcd_dvd_right _ _)
  have hdd : d = ((mg d : Nat) : Int) := by unfold mg; omega
  have hden : (Rat.divInt n d).den = mg d / Nat.gcd (mg n) (mg d) := by
    conv => lhs; rw [hdd]
    rw [Rat.divInt_ofNat, Rat.den_mkRat, if_neg (show mg d ≠ 0 from fun e => by have := mg_zero.1 e; omega), Nat.gcd_comm]; rfl
  have hq : d / ((Nat.gcd (mg n) (mg d) : Nat) : Int) = ((mg d / Nat.gcd (mg n) (mg d) : Nat) : Int) := by
    conv => lhs; lhs; rw [hdd]
    exact (Int.natCast_ediv _ _).symm
  refine ⟨Int.emod_eq_zero_of_dvd h1, Int.emod_eq_zero_of_dvd h2, hg, ?_, ?_, ?_, ?_⟩
  · conv => lhs; rw [hdd]
    rw [Rat.divInt_ofNat, Rat.num_mkRat, if_neg (show mg d ≠ 0 from fun e => by have := mg_zero.1 e; omega), Nat.gcd_comm]; rfl
  · rw [hden, hq]
  · rw [hden, hq, mg_nat]
  · rw [hq]; exact Int.natCast_nonneg _
theorem rmake_q (aA : Option Addr) (ac : Nat) (a : Int) (bA : Option Addr) (bc : Nat) (b : Int) (w : World) (ha : NatV w aA ac (mg a)) (hb : NatV w bA bc (mg b)) (la : nl (mg a) ≤ 262144) (lb : nl (mg b) ≤ 262144) (hb0 : 0 < b) :
    Calls Tryz.prog 96 #[.agg #[.bool (sg a), .slice aA (nl (mg a)) ac], .agg #[.bool (sg b), .slice bA (nl (mg b)) bc]] w (RetRe w (Rat.divInt a b)) := by
  obtain ⟨p1, p2, p3, p4, p5, p6, p7⟩ := gcd_parts (n := a) hb0
  have hne : b ≠ 0 := by omega
  have hsg : b.sign = 1 := Int.sign_eq_one_of_pos hb0
  obtain ⟨g, Eg⟩ : ∃ g, g = Nat.gcd (mg a) (mg b) := ⟨_, rfl⟩
  rw [← Eg] at p1 p2 p3 p4 p5 p6 p7
  have lg : nl g ≤ 262144 := by rw [Eg]; exact Nat.le_trans (nl_mono (Nat.gcd_le_right _ (mg_pos.2 hne))) lb
  have hg0 : (g : Int) ≠ 0 := by omega
  have lg2 : nl (mg (g : Int)) ≤ 1048576 := by rw [mg_nat]; omega
  replace p1 := Lib.hid p1
  replace p2 := Lib.hid p2
  replace p4 := Lib.hid p4
  replace p5 := Lib.hid p5
  replace p6 := Lib.hid p6
  replace p7 := Lib.hid p7
  replace hb0 := Lib.hid hb0
  obtain ⟨hb1, Ra, Rb, Rr⟩ := bx3 w #[.bool (sg a), .slice aA (nl (mg a)) ac] 24 #[.bool (sg b), .slice bA (nl (mg b)) bc] 24 #[.bool false, .slice none 0 0, .slice none 0 0] 26
  replace ha := ha.below hb1
  replace hb := hb.below hb1
  have HBT := hb1
  clear hb1
  have qa0 := Ra.c (i := 0) rfl
  have qa1 := Ra.c (i := 1) rfl
  have qb0 := Rb.c (i := 0) rfl
  have qb1 := Rb.c (i := 1) rfl
  have qr0 := Rr.c (i := 0) rfl
  have qr1 := Rr.c (i := 1) rfl
  have qr2 := Rr.c (i := 2) rfl
  go_enter Tryz.func96, Tryz.ntmps96
  go_wp2_with (fail)
  have CG := isign_c bA bc b (((w.alloc (.cells #[.bool (sg a), .slice aA (nl (mg a)) ac] 24)).alloc (.cells #[.bool (sg b), .slice bA (nl (mg b)) bc] 24)).alloc (.cells #[.bool false, .slice none 0 0, .slice none 0 0] 26))
  rw [hsg] at CG
  replace CG := Lib.hid CG
  refine (Calls.mono (CG.out) ?_)
  rintro e W2 ⟨rfl, hb2⟩
  replace ha := ha.below hb2
  replace hb := hb.below hb2
  replace Ra := Ra.below hb2
  replace qa0 := cbl hb2 qa0
  replace qa1 := cbl hb2 qa1
  replace Rb := Rb.below hb2
  replace qb0 := cbl hb2 qb0
  replace qb1 := cbl hb2 qb1
  replace Rr := Rr.below hb2
  replace qr0 := cbl hb2 qr0
  replace qr1 := cbl hb2 qr1
  replace qr2 := cbl hb2 qr2
  replace HBT := Below.cons HBT hb2
  clear hb2
  go_wp2_with (fail)
  have CC := gcd_c aA ac (mg a) bA bc (mg b) W2 ha hb (by omega) (by omega)
  rw [← Eg] at CC
  replace CC := Lib.hid CC
  replace Eg := Lib.hid Eg
  refine (Calls.mono CC.out ?_)
  rintro e W3 ⟨Xg, cg, rfl, hg, hb3⟩
  replace ha := ha.below hb3
  replace hb := hb.below hb3
  replace Ra := Ra.below hb3
  replace qa0 := cbl hb3 qa0
  replace qa1 := cbl hb3 qa1
  replace Rb := Rb.below hb3
  replace qb0 := cbl hb3 qb0
  replace qb1 := cbl hb3 qb1
  replace Rr := Rr.below hb3
  replace qr0 := cbl hb3 qr0
  replace qr1 := cbl hb3 qr1
  replace qr2 := cbl hb3 qr2
  replace HBT := Below.cons HBT hb3
  clear hb3
  go_wp2_with (fail)
  obtain ⟨gi, Egi⟩ : ∃ zq : Int, zq = (g : Int) := ⟨_, rfl⟩
  refine (Calls.mono (R := RetI W3 gi) (by rw [Egi]; with_reducible exact (rwhole0_c Xg cg g _ hg)) ?_)
  replace Egi := Lib.hid Egi
  rintro e W4 ⟨Xgi, cgi, rfl, hgi, hb4⟩
  replace ha := ha.below hb4
  replace hb := hb.below hb4
  replace Ra := Ra.below hb4
  replace qa0 := cbl hb4 qa0
  replace qa1 := cbl hb4 qa1
  replace Rb := Rb.below hb4
  replace qb0 := cbl hb4 qb0
  replace qb1 := cbl hb4 qb1
  replace Rr := Rr.below hb4
  replace qr0 := cbl hb4 qr0
  replace qr1 := cbl hb4 qr1
  replace qr2 := cbl hb4 qr2
  replace hg := hg.below hb4
  replace HBT := Below.cons HBT hb4
  clear hb4
  have hzgi : gi = (g : Int) := by exact Egi.out
  subst hzgi
  obtain ⟨hb5, Rg⟩ := bx1 W4 #[.bool (sg (((g : Int)))), .slice Xgi (nl (mg (((g : Int))))) cgi] 24
  replace ha := ha.below hb5
  replace hb := hb.below hb5
  replace Ra := Ra.below hb5
  replace qa0 := cbl hb5 qa0
  replace qa1 := cbl hb5 qa1
  replace Rb := Rb.below hb5
  replace qb0 := cbl hb5 qb0
  replace qb1 := cbl hb5 qb1
  replace Rr := Rr.below hb5
  replace qr0 := cbl hb5 qr0
  replace qr1 := cbl hb5 qr1
  replace qr2 := cbl hb5 qr2
  replace hg := hg.below hb5
  replace hgi := hgi.below hb5
  replace HBT := Below.cons HBT hb5
  clear hb5
  have qg0 := Rg.c (i := 0) rfl
  have qg1 := Rg.c (i := 1) rfl
  go_wp2_with (fail)
  obtain ⟨u, Eu⟩ : ∃ zq : Int, zq = a / (g : Int) := ⟨_, rfl⟩
  have CE := iexact_c aA ac a Xgi cgi (g : Int) (W4.alloc (.cells #[.bool (sg (((g : Int)))), .slice Xgi (nl (mg (((g : Int))))) cgi] 24)) ha hgi (by omega) lg2 hg0 p1.out
  rw [← Eu] at CE
  replace Eu := Lib.hid Eu
  replace CE := Lib.hid CE
  refine (Calls.mono CE.out ?_)
  clear CE
  rintro e W6 ⟨Xu, cu, rfl, hu, hb6⟩
  replace ha := ha.below hb6
  replace hb := hb.below hb6
  replace Ra := Ra.below hb6
  replace qa0 := cbl hb6 qa0
  replace qa1 := cbl hb6 qa1
  replace Rb := Rb.below hb6
  replace qb0 := cbl hb6 qb0
  replace qb1 := cbl hb6 qb1
  replace Rr := Rr.below hb6
  replace qr0 := cbl hb6 qr0
  replace qr1 := cbl hb6 qr1
  replace qr2 := cbl hb6 qr2
  replace hg := hg.below hb6
  replace hgi := hgi.below hb6
  replace Rg := Rg.below hb6
  replace qg0 := cbl hb6 qg0
  replace qg1 := cbl hb6 qg1
  replace HBT := Below.cons HBT hb6
  clear hb6
  obtain ⟨hb7, Ru⟩ := bx1 W6 #[.bool (sg u), .slice Xu (nl (mg u)) cu] 24
  replace ha := ha.below hb7
  replace hb := hb.below hb7
  replace Ra := Ra.below hb7
  replace qa0 := cbl hb7 qa0
  replace qa1 := cbl hb7 qa1
  replace Rb := Rb.below hb7
  replace qb0 := cbl hb7 qb0
  replace qb1 := cbl hb7 qb1
  replace Rr := Rr.below hb7
  replace qr0 := cbl hb7 qr0
  replace qr1 := cbl hb7 qr1
  replace qr2 := cbl hb7 qr2
  replace hg := hg.below hb7
  replace hgi := hgi.below hb7
  replace Rg := Rg.below hb7
  replace qg0 := cbl hb7 qg0
  replace qg1 := cbl hb7 qg1
  replace hu := hu.below hb7
  replace HBT := Below.cons HBT hb7
  clear hb7
  have qu0 := Ru.c (i := 0) rfl
  have qu1 := Ru.c (i := 1) rfl
  go_wp2_with (fail)
  obtain ⟨v, Ev⟩ : ∃ zq : Int, zq = b / (g : Int) := ⟨_, rfl⟩
  have CE := iexact_c bA bc b Xgi cgi (g : Int) (W6.alloc (.cells #[.bool (sg u), .slice Xu (nl (mg u)) cu] 24)) hb hgi (by omega) lg2 hg0 p2.out
  rw [← Ev] at CE
  replace Ev := Lib.hid Ev
  replace CE := Lib.hid CE
  refine (Calls.mono CE.out ?_)
  clear CE
  rintro e W8 ⟨Xv, cv, rfl, hv, hb8⟩
  replace ha := ha.below hb8
  replace hb := hb.below hb8
  replace Ra := Ra.below hb8
  replace qa0 := cbl hb8 qa0
  replace qa1 := cbl hb8 qa1
  replace Rb := Rb.below hb8
  replace qb0 := cbl hb8 qb0
  replace qb1 := cbl hb8 qb1
  replace Rr := Rr.below hb8
  replace qr0 := cbl hb8 qr0
  replace qr1 := cbl hb8 qr1
  replace qr2 := cbl hb8 qr2
  replace hg := hg.below hb8
  replace hgi := hgi.below hb8
  replace Rg := Rg.below hb8
  replace qg0 := cbl hb8 qg0
  replace qg1 := cbl hb8 qg1
  replace hu := hu.below hb8
  replace Ru := Ru.below hb8
  replace qu0 := cbl hb8 qu0
  replace qu1 := cbl hb8 qu1
  replace HBT := Below.cons HBT hb8
  clear hb8
  have hvs : sg v = false := sg_f (by rw [Ev.out]; exact p7.out)
  obtain ⟨hb9, Rv⟩ := bx1 W8 #[.bool false, .slice Xv (nl (mg v)) cv] 24
  replace ha := ha.below hb9
  replace hb := hb.below hb9
  replace Ra := Ra.below hb9
  replace qa0 := cbl hb9 qa0
  replace qa1 := cbl hb9 qa1
  replace Rb := Rb.below hb9
  replace qb0 := cbl hb9 qb0
  replace qb1 := cbl hb9 qb1
  replace Rr := Rr.below hb9
  replace qr0 := cbl hb9 qr0
  replace qr1 := cbl hb9 qr1
  replace qr2 := cbl hb9 qr2
  replace hg := hg.below hb9
  replace hgi := hgi.below hb9
  replace Rg := Rg.below hb9
  replace qg0 := cbl hb9 qg0
  replace qg1 := cbl hb9 qg1
  replace hu := hu.below hb9
  replace Ru := Ru.below hb9
  replace qu0 := cbl hb9 qu0
  replace qu1 := cbl hb9 qu1
  replace hv := hv.below hb9
  replace HBT := Below.cons HBT hb9
  clear hb9
  have qv0 := Rv.c (i := 0) rfl
  have qv1 := Rv.c (i := 1) rfl
  have fzr0 := Rr.f (i := 0)
  have fzr1 := Rr.f (i := 1)
  have fzr2 := Rr.f (i := 2)
  go_wp2_with (fail)
  have hnum : u = (Rat.divInt a b).num := by rw [Eu.out]; exact p4.out.symm
  have hden : mg v = (Rat.divInt a b).den := by rw [Ev.out]; exact p6.out.symm
  have RS := Rr.store3 (.bool (sg u)) (.slice Xu (nl (mg u)) cu) (.slice Xv (nl (mg v)) cv)
  have e0 := RS.c (i := 0) rfl
  have e1 := RS.c (i := 1) rfl
  have e2 := RS.c (i := 2) rfl
  refine bodyPost_ret (v := .tuple #[.agg #[.bool (sg u), .slice Xu (nl (mg u)) cu, .slice Xv (nl (mg v)) cv], .int .i64 0]) (by simp [results, Tryz.results96, go_sem, e0, e1, e2]) rfl ?_
  exact ⟨Xu, cu, Xv, cv, by rw [← hnum, ← hden], by rw [← hnum]; exact Rr.keep3 (nuB rfl) hu, by rw [← hden]; exact Rr.keep3 (nuB rfl) hv, Below.store3 HBT (by omega)⟩
end Go.Proofs.YtacjfpibilolnaaGreatDoor

/- A region that draws its order, outside a fence: by an invariant on what has come up. -/
set_option linter.unusedVariables false
set_option linter.unusedSimpArgs false
namespace Go.Proofs.YtacjfpibilolnaaGreatDoor
open Go.RowKit

/-- Whatever comes up next keeps the invariant; when all has come up, it gives what is asked. -/
theorem wpAny_inv {P : Program} {ops : Array Oper} {Q : Exit → Act → World → Prop} {md : Region.Mode} (Inv : Array Bool → Act → World → Prop)
    (hdone : ∀ L a w, Inv L a w → Region.ready md ops L = [] → Q .normal a w)
    (hstep : ∀ L a w i, Inv L a w → i < ops.size → L.getD i true = false → (∀ o, ops[i]? = some o → ∀ e ∈ o.after, Region.binds md e = true → L.getD e.on false = true) →
      wpOp P ops Q i (fun a' w' => Inv (L.setIfInBounds i true) a' w') a w) :
    ∀ fuel L a w, Inv L a w → L.size = ops.size → L.toList.count false ≤ fuel → wpAny P md ops Q fuel L a w := by
  intro fuel
  induction fuel with
  | zero =>
    intro L a w hI hs hc
    have hr : Region.ready md ops L = [] := by
      rw [List.eq_nil_iff_forall_not_mem]
      intro i hi
      obtain ⟨h0, o, ho, _⟩ := mem_ready.1 hi
      have hlt : i < L.size := by rw [hs]; exact (Array.getElem?_eq_some_iff.1 ho).1
      have h1 : L.toList.count false = 0 := by omega
      rw [List.count_eq_zero] at h1
      refine h1 ?_
      have h2 : L[i] = false := by simpa [Array.getD, hlt] using h0
      exact h2 ▸ Array.getElem_mem_toList hlt
    exact ⟨hr, hdone L a w hI hr⟩
  | succ fuel ih =>
    intro L a w hI hs hc
    refine ⟨fun hr => hdone L a w hI hr, fun i hi => ?_⟩
    obtain ⟨h0, o, ho, hd⟩ := mem_ready.1 hi
    have hlt : i < ops.size := (Array.getElem?_eq_some_iff.1 ho).1
    refine wpOp_mono (fun a' w' hI' => ih _ a' w' hI' (by simpa using hs) ?_) (hstep L a w i hI hlt h0 (fun o' ho' e he hb => by
      rw [ho] at ho'; cases ho'; exact hd e he hb))
    have hl : i < L.size := by omega
    have h2 : L[i] = false := by simpa [Array.getD, hl] using h0
    have h3 := count_set (L := L.toList) (i := i) (by rw [Array.getElem?_toList, Array.getElem?_eq_getElem hl, h2])
    rw [Array.toList_setIfInBounds]
    omega

/-- A region that draws, by an invariant on which operations have come up ('D k': number k has). -/
theorem wp_region_inv {P : Program} {ops : Array Oper} {Q : Exit → Act → World → Prop} {id : Nat} {a : Act} {w : World} (Inv : (Nat → Bool) → Act → World → Prop) (hm : P.follows .mixedOrders = true)
    (hd : edgesDown ops = true)
    (h0 : Inv (fun _ => false) a w.drew)
    (hdone : ∀ D a w, Inv D a w → (∀ i, i < ops.size → D i = true) → Q .normal a w)
    (hstep : ∀ D a w i, Inv D a w → i < ops.size → D i = false → (∀ o, ops[i]? = some o → ∀ e ∈ o.after, Region.binds .any e = true → D e.on = true) →
      wpOp P ops Q i (fun a' w' => Inv (fun k => if k = i then true else D k) a' w') a w) :
    (Code.region id ops true).wp P Q a w := by
  refine wp_region_any hm (wpAny_inv (fun L a w => L.size = ops.size ∧ Inv (fun k => L.getD k false) a w) ?_ ?_ _ _ _ _ ⟨by simp, ?_⟩ (by simp) (by simp))
  · rintro L a w ⟨hs, hI⟩ hr
    exact hdone _ a w hI (ready_nil hd hs hr)
  · rintro L a w i ⟨hs, hI⟩ hi hL he
    have hl : i < L.size := by omega
    refine wpOp_mono (fun a' w' h' => ⟨by simpa using hs, ?_⟩) (hstep (fun k => L.getD k false) a w i hI hi (by simp only [Array.getD, hl, dite_true] at hL ⊢; exact hL) he)
    have : (fun k => (L.setIfInBounds i true).getD k false) = (fun k => if k = i then true else L.getD k false) := funext (bit_set hl)
    rw [this]
    exact h'
  · have : (fun k => (Array.replicate ops.size false).getD k false) = (fun _ : Nat => false) := by
      funext k
      by_cases hk : k < ops.size <;> simp [Array.getD, hk]
    rw [this]
    exact h0
end Go.Proofs.YtacjfpibilolnaaGreatDoor
