/- Dyadic numbers, walked: Mid; rationals: Whole, Make; Rat. -/
import Derived.Test.YtacjfpibilolnaaGreatDoorSA07
import Derived.Test.YtacjfpibilolnaaGreatDoorSA01
import Derived.Orders
import Derived.Test.YtacjfpibilolnaaGreatDoorSA06
set_option linter.unusedVariables false
set_option linter.unusedSimpArgs false
namespace Go.Proofs.YtacjfpibilolnaaGreatDoor
open Go.RowKit Go.Shelf
attribute [local go_sem] max2_i min2_i max_two min_two

theorem mg_dm_le (z : Int) : mg (dm z) ≤ mg z := by
  have h := (dm_spec z).1
  have h2 := congrArg mg h
  rw [mg_mul] at h2
  have e : mg ((2 : Int) ^ v2 (mg z)) = 2 ^ v2 (mg z) := by unfold mg; rw [Int.natAbs_pow]; rfl
  rw [e] at h2
  rw [h2]; exact Nat.le_mul_of_pos_right _ (Nat.two_pow_pos _)
theorem form_bd (z e : Int) : nl (mg (dmn (dval z e))) ≤ nl (mg z) ∧ (dex (dval z e) = 0 ∨ e ≤ dex (dval z e) ∧ dex (dval z e) ≤ e + 32 * nl (mg z)) := by
  obtain ⟨h1, h2⟩ := make_form z e
  rw [← h1, ← h2]
  refine ⟨nl_mono (mg_dm_le z), ?_⟩
  unfold de
  split
  · exact .inl rfl
  · have := v2_le (mg z); exact .inr (by omega)
theorem sum_bd {a b : Rat} (ha : DOk a) (hb : DOk b) : ∃ z E, a + b = dval z E ∧ nl (mg z) ≤ 162503 ∧ -1000000 ≤ E ∧ E ≤ 1000000 := by
  have h1 := ha.e
  have h2 := hb.e
  have l1 := ha.l
  have l2 := hb.l
  obtain ⟨E, hE⟩ : ∃ E, E = min (dex a) (dex b) := ⟨_, rfl⟩
  refine ⟨shf (dmn a) (dex a - E) + shf (dmn b) (dex b - E), E, ?_, ?_, by omega, by omega⟩
  · rw [dval_add, lev ha.d (by omega), lev hb.d (by omega)]
  · have n1 := nl_shf (K := 0) l1 (d := dex a - E) (by omega) (by omega)
    have n2 := nl_shf (K := 0) l2 (d := dex b - E) (by omega) (by omega)
    have h3 := nl_add (mg (shf (dmn a) (dex a - E))) (mg (shf (dmn b) (dex b - E)))
    have h4 : nl (mg (shf (dmn a) (dex a - E) + shf (dmn b) (dex b - E))) ≤ nl (mg (shf (dmn a) (dex a - E)) + mg (shf (dmn b) (dex b - E))) := nl_mono (Int.natAbs_add_le _ _)
    omega
theorem dval_half (m e : Int) : dval m (e - 1) = dval m e * (1 / 2) := by
  unfold dval
  rw [show e - 1 = e + (-1) by omega, zp_add, Rat.mul_assoc, Rat.zpow_neg, Rat.zpow_one, Rat.div_def, Rat.one_mul]
def RetR (w : World) (q : Rat) (e : Ending) (w' : World) : Prop := ∃ A c B d, e = .returned (.agg #[.bool (sg q.num), .slice A (nl (mg q.num)) c, .slice B (nl q.den) d]) ∧ NatV w' A c (mg q.num) ∧ NatV w' B d q.den ∧ Below w.heap.size w w'
def RetRe (w : World) (q : Rat) (e : Ending) (w' : World) : Prop := ∃ A c B d, e = .returned (.tuple #[.agg #[.bool (sg q.num), .slice A (nl (mg q.num)) c, .slice B (nl q.den) d], .int .i64 0]) ∧ NatV w' A c (mg q.num) ∧ NatV w' B d q.den ∧ Below w.heap.size w w'
set_option maxRecDepth 100000 in
set_option maxHeartbeats 1000000 in
theorem dmid_c (aA : Option Addr) (ac : Nat) (a : Rat) (bA : Option Addr) (bc : Nat) (b : Rat) (w : World) (ha : NatV w aA ac (mg (dmn a))) (hb : NatV w bA bc (mg (dmn b))) (oa : DOk a) (ob : DOk b) (hT : Tab w) :
    Calls Tryz.prog 40 #[.agg #[.bool (sg (dmn a)), .slice aA (nl (mg (dmn a))) ac, .int .i64 (dex a)], .agg #[.bool (sg (dmn b)), .slice bA (nl (mg (dmn b))) bc, .int .i64 (dex b)]] w (RetD w ((a + b) * (1 / 2))) := by
  obtain ⟨z, E, hs, hz1, hE1, hE2⟩ := sum_bd oa ob
  obtain ⟨k1, k2⟩ := form_bd z E
  have hd : Dyd (a + b) := by rw [hs]; exact dyd_val z E
  rw [← hs] at k1 k2
  have hv : dval (dmn (a + b)) (dex (a + b) - 1) = (a + b) * (1 / 2) := by rw [dval_half, dval_q hd]
  replace hs := Lib.hid hs
  replace hd := Lib.hid hd
  replace hv := Lib.hid hv
  replace oa := Lib.hid oa
  replace ob := Lib.hid ob
  have hb1 : Below (w).heap.size (w) (((w.alloc (.cells #[.bool (sg (dmn a)), .slice aA (nl (mg (dmn a))) ac, .int .i64 (dex a)] 28)).alloc (.cells #[.bool (sg (dmn b)), .slice bA (nl (mg (dmn b))) bc, .int .i64 (dex b)] 28)).alloc (.cells #[.bool false, .slice none 0 0, .int .i64 0] 28)) := (Below.alloc (Below.alloc (Below.alloc (Below.refl _ _) (Nat.le_refl _) _) (by simp <;> omega) _) (by simp <;> omega) _)
  replace ha := ha.below hb1
  replace hb := hb.below hb1
  replace hT := hT.below hb1
  have HBT := hb1
  clear hb1
  have Ra : BoxA (((w.alloc (.cells #[.bool (sg (dmn a)), .slice aA (nl (mg (dmn a))) ac, .int .i64 (dex a)] 28)).alloc (.cells #[.bool (sg (dmn b)), .slice bA (nl (mg (dmn b))) bc, .int .i64 (dex b)] 28)).alloc (.cells #[.bool false, .slice none 0 0, .int .i64 0] 28)) w.heap.size 28 #[.bool (sg (dmn a)), .slice aA (nl (mg (dmn a))) ac, .int .i64 (dex a)] := ⟨by repeat (first | exact at_new (by first | (simp; done) | (simp; omega)) | refine at_old (by first | (simp; done) | (simp; omega)) ?_)⟩
  have qa0 := Ra.c (i := 0) rfl
  have qa1 := Ra.c (i := 1) rfl
  have qa2 := Ra.c (i := 2) rfl
  have Rb : BoxA (((w.alloc (.cells #[.bool (sg (dmn a)), .slice aA (nl (mg (dmn a))) ac, .int .i64 (dex a)] 28)).alloc (.cells #[.bool (sg (dmn b)), .slice bA (nl (mg (dmn b))) bc, .int .i64 (dex b)] 28)).alloc (.cells #[.bool false, .slice none 0 0, .int .i64 0] 28)) (w.heap.size + 1) 28 #[.bool (sg (dmn b)), .slice bA (nl (mg (dmn b))) bc, .int .i64 (dex b)] := ⟨by repeat (first | exact at_new (by first | (simp; done) | (simp; omega)) | refine at_old (by first | (simp; done) | (simp; omega)) ?_)⟩
  have qb0 := Rb.c (i := 0) rfl
  have qb1 := Rb.c (i := 1) rfl
  have qb2 := Rb.c (i := 2) rfl
  have Rr : BoxA (((w.alloc (.cells #[.bool (sg (dmn a)), .slice aA (nl (mg (dmn a))) ac, .int .i64 (dex a)] 28)).alloc (.cells #[.bool (sg (dmn b)), .slice bA (nl (mg (dmn b))) bc, .int .i64 (dex b)] 28)).alloc (.cells #[.bool false, .slice none 0 0, .int .i64 0] 28)) (w.heap.size + 1 + 1) 28 #[.bool false, .slice none 0 0, .int .i64 0] := ⟨by repeat (first | exact at_new (by first | (simp; done) | (simp; omega)) | refine at_old (by first | (simp; done) | (simp; omega)) ?_)⟩
  have qr0 := Rr.c (i := 0) rfl
  have qr1 := Rr.c (i := 1) rfl
  have qr2 := Rr.c (i := 2) rfl
  go_enter Tryz.func40, Tryz.ntmps40
  go_wp2_with (fail)
  obtain ⟨u, Eu⟩ : ∃ zq : Rat, zq = a + b := ⟨_, rfl⟩
  have lu : nl (mg (dmn u)) ≤ 162503 := by rw [Eu]; exact Nat.le_trans k1 hz1
  have eu : -1000000 ≤ dex u ∧ dex u ≤ 6300096 := by rw [Eu]; omega
  obtain ⟨x, Ex⟩ : ∃ x, x = dex u - 1 := ⟨_, rfl⟩
  have Ix : dex u - 1 = x := Ex.symm
  have hxr : -1073741824 ≤ x ∧ x ≤ 1073741824 := by omega
  have hv2 : dval (dmn u) x = (a + b) * (1 / 2) := by rw [Ex, Eu]; exact hv.out
  clear k1 k2
  replace Ex := Lib.hid Ex
  replace hv2 := Lib.hid hv2
  refine (Calls.mono (R := RetD (((w.alloc (.cells #[.bool (sg (dmn a)), .slice aA (nl (mg (dmn a))) ac, .int .i64 (dex a)] 28)).alloc (.cells #[.bool (sg (dmn b)), .slice bA (nl (mg (dmn b))) bc, .int .i64 (dex b)] 28)).alloc (.cells #[.bool false, .slice none 0 0, .int .i64 0] 28)) u) (by rw [Eu]; with_reducible exact (dadd_c aA ac a bA bc b _ ha hb oa.out ob.out hT)) ?_)
  replace Eu := Lib.hid Eu
  rintro e W2 ⟨Xu, cu, rfl, hu, hb2⟩
  replace ha := ha.below hb2
  replace hb := hb.below hb2
  replace hT := hT.below hb2
  replace Ra := Ra.below hb2
  replace qa0 := cell_below hb2 qa0
  replace qa1 := cell_below hb2 qa1
  replace qa2 := cell_below hb2 qa2
  replace Rb := Rb.below hb2
  replace qb0 := cell_below hb2 qb0
  replace qb1 := cell_below hb2 qb1
  replace qb2 := cell_below hb2 qb2
  replace Rr := Rr.below hb2
  replace qr0 := cell_below hb2 qr0
  replace qr1 := cell_below hb2 qr1
  replace qr2 := cell_below hb2 qr2
  replace HBT := Below.cons HBT hb2
  clear hb2
  go_wp2_with (fail)
  have hb3 : Below (W2).heap.size (W2) (W2.alloc (.cells #[.bool (sg (dmn u)), .slice Xu (nl (mg (dmn u))) cu, .int .i64 (dex u)] 28)) := (Below.alloc (Below.refl _ _) (Nat.le_refl _) _)
  replace ha := ha.below hb3
  replace hb := hb.below hb3
  replace hT := hT.below hb3
  replace Ra := Ra.below hb3
  replace qa0 := cell_below hb3 qa0
  replace qa1 := cell_below hb3 qa1
  replace qa2 := cell_below hb3 qa2
  replace Rb := Rb.below hb3
  replace qb0 := cell_below hb3 qb0
  replace qb1 := cell_below hb3 qb1
  replace qb2 := cell_below hb3 qb2
  replace Rr := Rr.below hb3
  replace qr0 := cell_below hb3 qr0
  replace qr1 := cell_below hb3 qr1
  replace qr2 := cell_below hb3 qr2
  replace hu := hu.below hb3
  replace HBT := Below.cons HBT hb3
  clear hb3
  have Ru : BoxA (W2.alloc (.cells #[.bool (sg (dmn u)), .slice Xu (nl (mg (dmn u))) cu, .int .i64 (dex u)] 28)) W2.heap.size 28 #[.bool (sg (dmn u)), .slice Xu (nl (mg (dmn u))) cu, .int .i64 (dex u)] := ⟨by repeat (first | exact at_new (by first | (simp; done) | (simp; omega)) | refine at_old (by first | (simp; done) | (simp; omega)) ?_)⟩
  have qu0 := Ru.c (i := 0) rfl
  have qu1 := Ru.c (i := 1) rfl
  have qu2 := Ru.c (i := 2) rfl
  obtain ⟨q, Eq⟩ : ∃ zq : Rat, zq = dval (dmn u) x := ⟨_, rfl⟩
  refine (Calls.mono (R := RetD (W2.alloc (.cells #[.bool (sg (dmn u)), .slice Xu (nl (mg (dmn u))) cu, .int .i64 (dex u)] 28)) q) (by rw [Eq]; with_reducible exact (dmake_c Xu cu (dmn u) x _ hu hT (by omega) hxr)) ?_)
  replace Eq := Lib.hid Eq
  rintro e W4 ⟨Xq, cq, rfl, hq, hb4⟩
  replace ha := ha.below hb4
  replace hb := hb.below hb4
  replace hT := hT.below hb4
  replace Ra := Ra.below hb4
  replace qa0 := cell_below hb4 qa0
  replace qa1 := cell_below hb4 qa1
  replace qa2 := cell_below hb4 qa2
  replace Rb := Rb.below hb4
  replace qb0 := cell_below hb4 qb0
  replace qb1 := cell_below hb4 qb1
  replace qb2 := cell_below hb4 qb2
  replace Rr := Rr.below hb4
  replace qr0 := cell_below hb4 qr0
  replace qr1 := cell_below hb4 qr1
  replace qr2 := cell_below hb4 qr2
  replace hu := hu.below hb4
  replace Ru := Ru.below hb4
  replace qu0 := cell_below hb4 qu0
  replace qu1 := cell_below hb4 qu1
  replace qu2 := cell_below hb4 qu2
  replace HBT := Below.cons HBT hb4
  clear hb4
  have fzr0 := Rr.f (i := 0)
  have fzr1 := Rr.f (i := 1)
  have fzr2 := Rr.f (i := 2)
  go_wp2_with (fail)
  have hzq : q = (a + b) * (1 / 2) := by rw [Eq.out]; exact hv2.out
  subst hzq
  have RS := Rr.store3 (.bool (sg (dmn (((a + b) * (1 / 2)))))) (.slice Xq (nl (mg (dmn (((a + b) * (1 / 2)))))) cq) (.int .i64 (dex (((a + b) * (1 / 2)))))
  have e0 := RS.c (i := 0) rfl
  have e1 := RS.c (i := 1) rfl
  have e2 := RS.c (i := 2) rfl
  refine bodyPost_ret (v := .agg #[.bool (sg (dmn (((a + b) * (1 / 2))))), .slice Xq (nl (mg (dmn (((a + b) * (1 / 2)))))) cq, .int .i64 (dex (((a + b) * (1 / 2))))]) (by simp [results, Tryz.results40, go_sem, e0, e1, e2]) rfl ?_
  exact ⟨Xq, cq, rfl, (Rr.keep3 (by intro u hu; simp at hu; rcases hu with rfl | rfl | rfl <;> first | exact notU_bool _ | exact notU_slice _ _ _ | exact notU_i64 _) hq), (Below.store3 HBT (by first | exact Nat.le_refl _ | omega))⟩
set_option maxRecDepth 100000 in
set_option maxHeartbeats 1000000 in
theorem rwhole0_c (aA : Option Addr) (ac a : Nat) (w : World) (ha : NatV w aA ac a)  :
    Calls Tryz.prog 122 #[.slice aA (nl a) ac] w (RetI w (a : Int)) := by
  go_enter Tryz.func122, Tryz.ntmps122
  go_wp2_with (fail)
  have hb1 : Below (w).heap.size (w) (w.alloc (.cells #[.bool false, .slice aA (nl a) ac] 24)) := (Below.alloc (Below.refl _ _) (Nat.le_refl _) _)
  replace ha := ha.below hb1
  have HBT := hb1
  clear hb1
  have Rr : BoxA (w.alloc (.cells #[.bool false, .slice aA (nl a) ac] 24)) w.heap.size 24 #[.bool false, .slice aA (nl a) ac] := ⟨by repeat (first | exact at_new (by first | (simp; done) | (simp; omega)) | refine at_old (by first | (simp; done) | (simp; omega)) ?_)⟩
  have qr0 := Rr.c (i := 0) rfl
  have qr1 := Rr.c (i := 1) rfl
  refine bodyPost_ret (v := .agg #[.bool false, .slice aA (nl a) ac]) (by simp [results, Tryz.results122, go_sem, qr0, qr1]) rfl ?_
  exact ⟨aA, ac, by rw [mg_nat, sg_f (Int.natCast_nonneg a)], by rw [mg_nat]; exact ha, HBT⟩
set_option maxRecDepth 100000 in
set_option maxHeartbeats 1000000 in
theorem rwhole_c (aA : Option Addr) (ac : Nat) (a : Int) (w : World) (ha : NatV w aA ac (mg a))  :
    Calls Tryz.prog 95 #[.agg #[.bool (sg a), .slice aA (nl (mg a)) ac]] w (RetR w (a : Rat)) := by
  go_enter Tryz.func95, Tryz.ntmps95
  go_wp2_with (fail)
  have hb1 : Below (w).heap.size (w) (((w.alloc (.cells #[.bool (sg a), .slice aA (nl (mg a)) ac] 24)).alloc (.cells #[.bool (sg a), .slice aA (nl (mg a)) ac, .slice (some ⟨w.heap.size + 1 + 1, 0, none⟩) 1 1] 26)).alloc (.cells #[.int .u32 1] 58)) := (Below.alloc (Below.alloc (Below.alloc (Below.refl _ _) (Nat.le_refl _) _) (by simp <;> omega) _) (by simp <;> omega) _)
  replace ha := ha.below hb1
  have HBT := hb1
  clear hb1
  have Ra : BoxA (((w.alloc (.cells #[.bool (sg a), .slice aA (nl (mg a)) ac] 24)).alloc (.cells #[.bool (sg a), .slice aA (nl (mg a)) ac, .slice (some ⟨w.heap.size + 1 + 1, 0, none⟩) 1 1] 26)).alloc (.cells #[.int .u32 1] 58)) w.heap.size 24 #[.bool (sg a), .slice aA (nl (mg a)) ac] := ⟨by repeat (first | exact at_new (by first | (simp; done) | (simp; omega)) | refine at_old (by first | (simp; done) | (simp; omega)) ?_)⟩
  have qa0 := Ra.c (i := 0) rfl
  have qa1 := Ra.c (i := 1) rfl
  have Rr : BoxA (((w.alloc (.cells #[.bool (sg a), .slice aA (nl (mg a)) ac] 24)).alloc (.cells #[.bool (sg a), .slice aA (nl (mg a)) ac, .slice (some ⟨w.heap.size + 1 + 1, 0, none⟩) 1 1] 26)).alloc (.cells #[.int .u32 1] 58)) (w.heap.size + 1) 26 #[.bool (sg a), .slice aA (nl (mg a)) ac, .slice (some ⟨w.heap.size + 1 + 1, 0, none⟩) 1 1] := ⟨by repeat (first | exact at_new (by first | (simp; done) | (simp; omega)) | refine at_old (by first | (simp; done) | (simp; omega)) ?_)⟩
  have qr0 := Rr.c (i := 0) rfl
  have qr1 := Rr.c (i := 1) rfl
  have qr2 := Rr.c (i := 2) rfl
  have Rl : BoxA (((w.alloc (.cells #[.bool (sg a), .slice aA (nl (mg a)) ac] 24)).alloc (.cells #[.bool (sg a), .slice aA (nl (mg a)) ac, .slice (some ⟨w.heap.size + 1 + 1, 0, none⟩) 1 1] 26)).alloc (.cells #[.int .u32 1] 58)) (w.heap.size + 1 + 1) 58 #[.int .u32 1] := ⟨by repeat (first | exact at_new (by first | (simp; done) | (simp; omega)) | refine at_old (by first | (simp; done) | (simp; omega)) ?_)⟩
  have ql0 := Rl.c (i := 0) rfl
  have hone := nat_one _ _ Rl.at_
  refine bodyPost_ret (v := .agg #[.bool (sg a), .slice aA (nl (mg a)) ac, .slice (some ⟨w.heap.size + 1 + 1, 0, none⟩) 1 1]) (by simp [results, Tryz.results95, go_sem, qr0, qr1, qr2]) rfl ?_
  exact ⟨aA, ac, some ⟨w.heap.size + 1 + 1, 0, none⟩, 1, by rw [Rat.num_intCast, Rat.den_intCast, nl_one], by rw [Rat.num_intCast]; exact ha, by rw [Rat.den_intCast]; exact hone, HBT⟩
theorem gcd_parts {n d : Int} (hd : 0 < d) : n % (Nat.gcd (mg n) (mg d) : Int) = 0 ∧ d % (Nat.gcd (mg n) (mg d) : Int) = 0 ∧ 0 < Nat.gcd (mg n) (mg d) ∧ (Rat.divInt n d).num = n / (Nat.gcd (mg n) (mg d) : Int) ∧ ((Rat.divInt n d).den : Int) = d / (Nat.gcd (mg n) (mg d) : Int) ∧ (Rat.divInt n d).den = mg (d / (Nat.gcd (mg n) (mg d) : Int)) ∧ 0 ≤ d / (Nat.gcd (mg n) (mg d) : Int) := by
  have hg : 0 < Nat.gcd (mg n) (mg d) := Nat.gcd_pos_of_pos_right _ (mg_pos.2 (by omega))
  have h1 : ((Nat.gcd (mg n) (mg d) : Nat) : Int) ∣ n := by rw [← Int.dvd_natAbs]; exact Int.natCast_dvd_natCast.2 (Nat.gcd_dvd_left _ _)
  have h2 : ((Nat.gcd (mg n) (mg d) : Nat) : Int) ∣ d := by rw [← Int.dvd_natAbs]; exact Int.natCast_dvd_natCast.2 (Nat.gcd_dvd_right _ _)
  have hdd : d = ((mg d : Nat) : Int) := by unfold mg; omega
  have hden : (Rat.divInt n d).den = mg d / Nat.gcd (mg n) (mg d) := by
    conv => lhs; rw [hdd]
    rw [Rat.divInt_ofNat, Rat.den_mkRat, if_neg (show mg d ≠ 0 from fun e => by have := mg_zero.1 e; omega), Nat.gcd_comm]; rfl
  have hq : d / ((Nat.gcd (mg n) (mg d) : Nat) : Int) = ((mg d / Nat.gcd (mg n) (mg d) : Nat) : Int) := by
    conv => lhs; lhs; rw [hdd]
    exact (Int.natCast_ediv _ _).symm
  refine ⟨Int.emod_eq_zero_of_dvd h1, Int.emod_eq_zero_of_dvd h2, hg, ?_, ?_, ?_, ?_⟩
  · conv => lhs; rw [hdd]
    rw [Rat.divInt_ofNat, Rat.num_mkRat, if_neg (show mg d ≠ 0 from fun e => by have := mg_zero.1 e; omega), Nat.gcd_comm]; rfl
  · rw [hden, hq]
  · rw [hden, hq, mg_nat]
  · rw [hq]; exact Int.natCast_nonneg _
set_option maxRecDepth 100000 in
set_option maxHeartbeats 1000000 in
theorem rmake_q (aA : Option Addr) (ac : Nat) (a : Int) (bA : Option Addr) (bc : Nat) (b : Int) (w : World) (ha : NatV w aA ac (mg a)) (hb : NatV w bA bc (mg b)) (la : nl (mg a) ≤ 262144) (lb : nl (mg b) ≤ 262144) (hb0 : 0 < b) :
    Calls Tryz.prog 96 #[.agg #[.bool (sg a), .slice aA (nl (mg a)) ac], .agg #[.bool (sg b), .slice bA (nl (mg b)) bc]] w (RetRe w (Rat.divInt a b)) := by
  obtain ⟨p1, p2, p3, p4, p5, p6, p7⟩ := gcd_parts (n := a) hb0
  have hne : b ≠ 0 := by omega
  have hsg : b.sign = 1 := Int.sign_eq_one_of_pos hb0
  obtain ⟨g, Eg⟩ : ∃ g, g = Nat.gcd (mg a) (mg b) := ⟨_, rfl⟩
  rw [← Eg] at p1 p2 p3 p4 p5 p6 p7
  have lg : nl g ≤ 262144 := by rw [Eg]; exact Nat.le_trans (nl_mono (Nat.gcd_le_right _ (mg_pos.2 hne))) lb
  have hg0 : (g : Int) ≠ 0 := by omega
  have lg2 : nl (mg (g : Int)) ≤ 1048576 := by rw [mg_nat]; omega
  replace p1 := Lib.hid p1
  replace p2 := Lib.hid p2
  replace p4 := Lib.hid p4
  replace p5 := Lib.hid p5
  replace p6 := Lib.hid p6
  replace p7 := Lib.hid p7
  replace hb0 := Lib.hid hb0
  have hb1 : Below (w).heap.size (w) (((w.alloc (.cells #[.bool (sg a), .slice aA (nl (mg a)) ac] 24)).alloc (.cells #[.bool (sg b), .slice bA (nl (mg b)) bc] 24)).alloc (.cells #[.bool false, .slice none 0 0, .slice none 0 0] 26)) := (Below.alloc (Below.alloc (Below.alloc (Below.refl _ _) (Nat.le_refl _) _) (by simp <;> omega) _) (by simp <;> omega) _)
  replace ha := ha.below hb1
  replace hb := hb.below hb1
  have HBT := hb1
  clear hb1
  have Ra : BoxA (((w.alloc (.cells #[.bool (sg a), .slice aA (nl (mg a)) ac] 24)).alloc (.cells #[.bool (sg b), .slice bA (nl (mg b)) bc] 24)).alloc (.cells #[.bool false, .slice none 0 0, .slice none 0 0] 26)) w.heap.size 24 #[.bool (sg a), .slice aA (nl (mg a)) ac] := ⟨by repeat (first | exact at_new (by first | (simp; done) | (simp; omega)) | refine at_old (by first | (simp; done) | (simp; omega)) ?_)⟩
  have qa0 := Ra.c (i := 0) rfl
  have qa1 := Ra.c (i := 1) rfl
  have Rb : BoxA (((w.alloc (.cells #[.bool (sg a), .slice aA (nl (mg a)) ac] 24)).alloc (.cells #[.bool (sg b), .slice bA (nl (mg b)) bc] 24)).alloc (.cells #[.bool false, .slice none 0 0, .slice none 0 0] 26)) (w.heap.size + 1) 24 #[.bool (sg b), .slice bA (nl (mg b)) bc] := ⟨by repeat (first | exact at_new (by first | (simp; done) | (simp; omega)) | refine at_old (by first | (simp; done) | (simp; omega)) ?_)⟩
  have qb0 := Rb.c (i := 0) rfl
  have qb1 := Rb.c (i := 1) rfl
  have Rr : BoxA (((w.alloc (.cells #[.bool (sg a), .slice aA (nl (mg a)) ac] 24)).alloc (.cells #[.bool (sg b), .slice bA (nl (mg b)) bc] 24)).alloc (.cells #[.bool false, .slice none 0 0, .slice none 0 0] 26)) (w.heap.size + 1 + 1) 26 #[.bool false, .slice none 0 0, .slice none 0 0] := ⟨by repeat (first | exact at_new (by first | (simp; done) | (simp; omega)) | refine at_old (by first | (simp; done) | (simp; omega)) ?_)⟩
  have qr0 := Rr.c (i := 0) rfl
  have qr1 := Rr.c (i := 1) rfl
  have qr2 := Rr.c (i := 2) rfl
  go_enter Tryz.func96, Tryz.ntmps96
  go_wp2_with (fail)
  have CG := isign_c bA bc b (((w.alloc (.cells #[.bool (sg a), .slice aA (nl (mg a)) ac] 24)).alloc (.cells #[.bool (sg b), .slice bA (nl (mg b)) bc] 24)).alloc (.cells #[.bool false, .slice none 0 0, .slice none 0 0] 26))
  rw [hsg] at CG
  replace CG := Lib.hid CG
  refine (Calls.mono (CG.out) ?_)
  rintro e W2 ⟨rfl, hb2⟩
  replace ha := ha.below hb2
  replace hb := hb.below hb2
  replace Ra := Ra.below hb2
  replace qa0 := cell_below hb2 qa0
  replace qa1 := cell_below hb2 qa1
  replace Rb := Rb.below hb2
  replace qb0 := cell_below hb2 qb0
  replace qb1 := cell_below hb2 qb1
  replace Rr := Rr.below hb2
  replace qr0 := cell_below hb2 qr0
  replace qr1 := cell_below hb2 qr1
  replace qr2 := cell_below hb2 qr2
  replace HBT := Below.cons HBT hb2
  clear hb2
  go_wp2_with (fail)
  have CC := gcd_c aA ac (mg a) bA bc (mg b) W2 ha hb (by omega) (by omega)
  rw [← Eg] at CC
  replace CC := Lib.hid CC
  replace Eg := Lib.hid Eg
  refine (Calls.mono CC.out ?_)
  rintro e W3 ⟨Xg, cg, rfl, hg, hb3⟩
  replace ha := ha.below hb3
  replace hb := hb.below hb3
  replace Ra := Ra.below hb3
  replace qa0 := cell_below hb3 qa0
  replace qa1 := cell_below hb3 qa1
  replace Rb := Rb.below hb3
  replace qb0 := cell_below hb3 qb0
  replace qb1 := cell_below hb3 qb1
  replace Rr := Rr.below hb3
  replace qr0 := cell_below hb3 qr0
  replace qr1 := cell_below hb3 qr1
  replace qr2 := cell_below hb3 qr2
  replace HBT := Below.cons HBT hb3
  clear hb3
  go_wp2_with (fail)
  obtain ⟨gi, Egi⟩ : ∃ zq : Int, zq = (g : Int) := ⟨_, rfl⟩
  refine (Calls.mono (R := RetI W3 gi) (by rw [Egi]; with_reducible exact (rwhole0_c Xg cg g _ hg)) ?_)
  replace Egi := Lib.hid Egi
  rintro e W4 ⟨Xgi, cgi, rfl, hgi, hb4⟩
  replace ha := ha.below hb4
  replace hb := hb.below hb4
  replace Ra := Ra.below hb4
  replace qa0 := cell_below hb4 qa0
  replace qa1 := cell_below hb4 qa1
  replace Rb := Rb.below hb4
  replace qb0 := cell_below hb4 qb0
  replace qb1 := cell_below hb4 qb1
  replace Rr := Rr.below hb4
  replace qr0 := cell_below hb4 qr0
  replace qr1 := cell_below hb4 qr1
  replace qr2 := cell_below hb4 qr2
  replace hg := hg.below hb4
  replace HBT := Below.cons HBT hb4
  clear hb4
  have hzgi : gi = (g : Int) := by exact Egi.out
  subst hzgi
  have hb5 : Below (W4).heap.size (W4) (W4.alloc (.cells #[.bool (sg (((g : Int)))), .slice Xgi (nl (mg (((g : Int))))) cgi] 24)) := (Below.alloc (Below.refl _ _) (Nat.le_refl _) _)
  replace ha := ha.below hb5
  replace hb := hb.below hb5
  replace Ra := Ra.below hb5
  replace qa0 := cell_below hb5 qa0
  replace qa1 := cell_below hb5 qa1
  replace Rb := Rb.below hb5
  replace qb0 := cell_below hb5 qb0
  replace qb1 := cell_below hb5 qb1
  replace Rr := Rr.below hb5
  replace qr0 := cell_below hb5 qr0
  replace qr1 := cell_below hb5 qr1
  replace qr2 := cell_below hb5 qr2
  replace hg := hg.below hb5
  replace hgi := hgi.below hb5
  replace HBT := Below.cons HBT hb5
  clear hb5
  have Rg : BoxA (W4.alloc (.cells #[.bool (sg (((g : Int)))), .slice Xgi (nl (mg (((g : Int))))) cgi] 24)) W4.heap.size 24 #[.bool (sg (((g : Int)))), .slice Xgi (nl (mg (((g : Int))))) cgi] := ⟨by repeat (first | exact at_new (by first | (simp; done) | (simp; omega)) | refine at_old (by first | (simp; done) | (simp; omega)) ?_)⟩
  have qg0 := Rg.c (i := 0) rfl
  have qg1 := Rg.c (i := 1) rfl
  go_wp2_with (fail)
  obtain ⟨u, Eu⟩ : ∃ zq : Int, zq = a / (g : Int) := ⟨_, rfl⟩
  have CE := iexact_c aA ac a Xgi cgi (g : Int) (W4.alloc (.cells #[.bool (sg (((g : Int)))), .slice Xgi (nl (mg (((g : Int))))) cgi] 24)) ha hgi (by omega) lg2 hg0 p1.out
  rw [← Eu] at CE
  replace Eu := Lib.hid Eu
  replace CE := Lib.hid CE
  refine (Calls.mono CE.out ?_)
  clear CE
  rintro e W6 ⟨Xu, cu, rfl, hu, hb6⟩
  replace ha := ha.below hb6
  replace hb := hb.below hb6
  replace Ra := Ra.below hb6
  replace qa0 := cell_below hb6 qa0
  replace qa1 := cell_below hb6 qa1
  replace Rb := Rb.below hb6
  replace qb0 := cell_below hb6 qb0
  replace qb1 := cell_below hb6 qb1
  replace Rr := Rr.below hb6
  replace qr0 := cell_below hb6 qr0
  replace qr1 := cell_below hb6 qr1
  replace qr2 := cell_below hb6 qr2
  replace hg := hg.below hb6
  replace hgi := hgi.below hb6
  replace Rg := Rg.below hb6
  replace qg0 := cell_below hb6 qg0
  replace qg1 := cell_below hb6 qg1
  replace HBT := Below.cons HBT hb6
  clear hb6
  have hb7 : Below (W6).heap.size (W6) (W6.alloc (.cells #[.bool (sg u), .slice Xu (nl (mg u)) cu] 24)) := (Below.alloc (Below.refl _ _) (Nat.le_refl _) _)
  replace ha := ha.below hb7
  replace hb := hb.below hb7
  replace Ra := Ra.below hb7
  replace qa0 := cell_below hb7 qa0
  replace qa1 := cell_below hb7 qa1
  replace Rb := Rb.below hb7
  replace qb0 := cell_below hb7 qb0
  replace qb1 := cell_below hb7 qb1
  replace Rr := Rr.below hb7
  replace qr0 := cell_below hb7 qr0
  replace qr1 := cell_below hb7 qr1
  replace qr2 := cell_below hb7 qr2
  replace hg := hg.below hb7
  replace hgi := hgi.below hb7
  replace Rg := Rg.below hb7
  replace qg0 := cell_below hb7 qg0
  replace qg1 := cell_below hb7 qg1
  replace hu := hu.below hb7
  replace HBT := Below.cons HBT hb7
  clear hb7
  have Ru : BoxA (W6.alloc (.cells #[.bool (sg u), .slice Xu (nl (mg u)) cu] 24)) W6.heap.size 24 #[.bool (sg u), .slice Xu (nl (mg u)) cu] := ⟨by repeat (first | exact at_new (by first | (simp; done) | (simp; omega)) | refine at_old (by first | (simp; done) | (simp; omega)) ?_)⟩
  have qu0 := Ru.c (i := 0) rfl
  have qu1 := Ru.c (i := 1) rfl
  go_wp2_with (fail)
  obtain ⟨v, Ev⟩ : ∃ zq : Int, zq = b / (g : Int) := ⟨_, rfl⟩
  have CE := iexact_c bA bc b Xgi cgi (g : Int) (W6.alloc (.cells #[.bool (sg u), .slice Xu (nl (mg u)) cu] 24)) hb hgi (by omega) lg2 hg0 p2.out
  rw [← Ev] at CE
  replace Ev := Lib.hid Ev
  replace CE := Lib.hid CE
  refine (Calls.mono CE.out ?_)
  clear CE
  rintro e W8 ⟨Xv, cv, rfl, hv, hb8⟩
  replace ha := ha.below hb8
  replace hb := hb.below hb8
  replace Ra := Ra.below hb8
  replace qa0 := cell_below hb8 qa0
  replace qa1 := cell_below hb8 qa1
  replace Rb := Rb.below hb8
  replace qb0 := cell_below hb8 qb0
  replace qb1 := cell_below hb8 qb1
  replace Rr := Rr.below hb8
  replace qr0 := cell_below hb8 qr0
  replace qr1 := cell_below hb8 qr1
  replace qr2 := cell_below hb8 qr2
  replace hg := hg.below hb8
  replace hgi := hgi.below hb8
  replace Rg := Rg.below hb8
  replace qg0 := cell_below hb8 qg0
  replace qg1 := cell_below hb8 qg1
  replace hu := hu.below hb8
  replace Ru := Ru.below hb8
  replace qu0 := cell_below hb8 qu0
  replace qu1 := cell_below hb8 qu1
  replace HBT := Below.cons HBT hb8
  clear hb8
  have hvs : sg v = false := sg_f (by rw [Ev.out]; exact p7.out)
  have hb9 : Below (W8).heap.size (W8) (W8.alloc (.cells #[.bool false, .slice Xv (nl (mg v)) cv] 24)) := (Below.alloc (Below.refl _ _) (Nat.le_refl _) _)
  replace ha := ha.below hb9
  replace hb := hb.below hb9
  replace Ra := Ra.below hb9
  replace qa0 := cell_below hb9 qa0
  replace qa1 := cell_below hb9 qa1
  replace Rb := Rb.below hb9
  replace qb0 := cell_below hb9 qb0
  replace qb1 := cell_below hb9 qb1
  replace Rr := Rr.below hb9
  replace qr0 := cell_below hb9 qr0
  replace qr1 := cell_below hb9 qr1
  replace qr2 := cell_below hb9 qr2
  replace hg := hg.below hb9
  replace hgi := hgi.below hb9
  replace Rg := Rg.below hb9
  replace qg0 := cell_below hb9 qg0
  replace qg1 := cell_below hb9 qg1
  replace hu := hu.below hb9
  replace Ru := Ru.below hb9
  replace qu0 := cell_below hb9 qu0
  replace qu1 := cell_below hb9 qu1
  replace hv := hv.below hb9
  replace HBT := Below.cons HBT hb9
  clear hb9
  have Rv : BoxA (W8.alloc (.cells #[.bool false, .slice Xv (nl (mg v)) cv] 24)) W8.heap.size 24 #[.bool false, .slice Xv (nl (mg v)) cv] := ⟨by repeat (first | exact at_new (by first | (simp; done) | (simp; omega)) | refine at_old (by first | (simp; done) | (simp; omega)) ?_)⟩
  have qv0 := Rv.c (i := 0) rfl
  have qv1 := Rv.c (i := 1) rfl
  have fzr0 := Rr.f (i := 0)
  have fzr1 := Rr.f (i := 1)
  have fzr2 := Rr.f (i := 2)
  go_wp2_with (fail)
  have hnum : u = (Rat.divInt a b).num := by rw [Eu.out]; exact p4.out.symm
  have hden : mg v = (Rat.divInt a b).den := by rw [Ev.out]; exact p6.out.symm
  have RS := Rr.store3 (.bool (sg u)) (.slice Xu (nl (mg u)) cu) (.slice Xv (nl (mg v)) cv)
  have e0 := RS.c (i := 0) rfl
  have e1 := RS.c (i := 1) rfl
  have e2 := RS.c (i := 2) rfl
  refine bodyPost_ret (v := .tuple #[.agg #[.bool (sg u), .slice Xu (nl (mg u)) cu, .slice Xv (nl (mg v)) cv], .int .i64 0]) (by simp [results, Tryz.results96, go_sem, e0, e1, e2]) rfl ?_
  exact ⟨Xu, cu, Xv, cv, by rw [← hnum, ← hden], by rw [← hnum]; exact Rr.keep3 (by intro u hu; simp at hu; rcases hu with rfl | rfl | rfl <;> first | exact notU_bool _ | exact notU_slice _ _ _ | exact notU_i64 _) hu, by rw [← hden]; exact Rr.keep3 (by intro u hu; simp at hu; rcases hu with rfl | rfl | rfl <;> first | exact notU_bool _ | exact notU_slice _ _ _ | exact notU_i64 _) hv, Below.store3 HBT (by omega)⟩
end Go.Proofs.YtacjfpibilolnaaGreatDoor

/- A region that draws its order, outside a fence: by an invariant on what has come up. -/
set_option linter.unusedVariables false
set_option linter.unusedSimpArgs false
namespace Go.Proofs.YtacjfpibilolnaaGreatDoor
open Go.RowKit

/-- Whatever comes up next keeps the invariant; when all has come up, it gives what is asked. -/
theorem wpAny_inv {P : Program} {ops : Array Oper} {Q : Exit → Act → World → Prop} {md : Region.Mode} (Inv : Array Bool → Act → World → Prop)
    (hdone : ∀ L a w, Inv L a w → Region.ready md ops L = [] → Q .normal a w)
    (hstep : ∀ L a w i, Inv L a w → i < ops.size → L.getD i true = false → (∀ o, ops[i]? = some o → ∀ e ∈ o.after, Region.binds md e = true → L.getD e.on false = true) →
      wpOp P ops Q i (fun a' w' => Inv (L.setIfInBounds i true) a' w') a w) :
    ∀ fuel L a w, Inv L a w → L.size = ops.size → L.toList.count false ≤ fuel → wpAny P md ops Q fuel L a w := by
  intro fuel
  induction fuel with
  | zero =>
    intro L a w hI hs hc
    have hr : Region.ready md ops L = [] := by
      rw [List.eq_nil_iff_forall_not_mem]
      intro i hi
      obtain ⟨h0, o, ho, _⟩ := mem_ready.1 hi
      have hlt : i < L.size := by rw [hs]; exact (Array.getElem?_eq_some_iff.1 ho).1
      have h1 : L.toList.count false = 0 := by omega
      rw [List.count_eq_zero] at h1
      refine h1 ?_
      have h2 : L[i] = false := by simpa [Array.getD, hlt] using h0
      exact h2 ▸ Array.getElem_mem_toList hlt
    exact ⟨hr, hdone L a w hI hr⟩
  | succ fuel ih =>
    intro L a w hI hs hc
    refine ⟨fun hr => hdone L a w hI hr, fun i hi => ?_⟩
    obtain ⟨h0, o, ho, hd⟩ := mem_ready.1 hi
    have hlt : i < ops.size := (Array.getElem?_eq_some_iff.1 ho).1
    refine wpOp_mono (fun a' w' hI' => ih _ a' w' hI' (by simpa using hs) ?_) (hstep L a w i hI hlt h0 (fun o' ho' e he hb => by
      rw [ho] at ho'; cases ho'; exact hd e he hb))
    have hl : i < L.size := by omega
    have h2 : L[i] = false := by simpa [Array.getD, hl] using h0
    have h3 := count_set (L := L.toList) (i := i) (by rw [Array.getElem?_toList, Array.getElem?_eq_getElem hl, h2])
    rw [Array.toList_setIfInBounds]
    omega

/-- A region that draws, by an invariant on which operations have come up ('D k': number k has). -/
theorem wp_region_inv {P : Program} {ops : Array Oper} {Q : Exit → Act → World → Prop} {id : Nat} {a : Act} {w : World} (Inv : (Nat → Bool) → Act → World → Prop) (hm : P.follows .mixedOrders = true)
    (hd : edgesDown ops = true)
    (h0 : Inv (fun _ => false) a w.drew)
    (hdone : ∀ D a w, Inv D a w → (∀ i, i < ops.size → D i = true) → Q .normal a w)
    (hstep : ∀ D a w i, Inv D a w → i < ops.size → D i = false → (∀ o, ops[i]? = some o → ∀ e ∈ o.after, Region.binds .any e = true → D e.on = true) →
      wpOp P ops Q i (fun a' w' => Inv (fun k => if k = i then true else D k) a' w') a w) :
    (Code.region id ops true).wp P Q a w := by
  refine wp_region_any hm (wpAny_inv (fun L a w => L.size = ops.size ∧ Inv (fun k => L.getD k false) a w) ?_ ?_ _ _ _ _ ⟨by simp, ?_⟩ (by simp) (by simp))
  · rintro L a w ⟨hs, hI⟩ hr
    exact hdone _ a w hI (ready_nil hd hs hr)
  · rintro L a w i ⟨hs, hI⟩ hi hL he
    have hl : i < L.size := by omega
    refine wpOp_mono (fun a' w' h' => ⟨by simpa using hs, ?_⟩) (hstep (fun k => L.getD k false) a w i hI hi (by simp only [Array.getD, hl, dite_true] at hL ⊢; exact hL) he)
    have : (fun k => (L.setIfInBounds i true).getD k false) = (fun k => if k = i then true else L.getD k false) := funext (bit_set hl)
    rw [this]
    exact h'
  · have : (fun k => (Array.replicate ops.size false).getD k false) = (fun _ : Nat => false) := by
      funext k
      by_cases hk : k < ops.size <;> simp [Array.getD, hk]
    rw [this]
    exact h0
end Go.Proofs.YtacjfpibilolnaaGreatDoor

/- What a region that draws its order has made so far: numbers in slots, variables in memory. -/
set_option linter.unusedVariables false
set_option linter.unusedSimpArgs false
namespace Go.Proofs.YtacjfpibilolnaaGreatDoor
open Go.RowKit Go.Shelf

theorem keepP {D : Nat → Bool} {i k : Nat} {p q : Prop} (hne : k ≠ i) (h : D k = true → p) (hpq : p → q) : (if k = i then true else D k) = true → q := by rw [if_neg hne]; exact fun e => hpq (h e)
theorem keepP' {D : Nat → Bool} {i k : Nat} {p q : Prop} (hne : k ≠ i) (h : D k = true → p) (hpq : D k = true → p → q) : (if k = i then true else D k) = true → q := by rw [if_neg hne]; exact fun e => hpq e (h e)
def PI (u : Value) (z : Int) (W : World) : Prop := ∃ X c, u = .agg #[.bool (sg z), .slice X (nl (mg z)) c] ∧ NatV W X c (mg z)
def PR (u : Value) (q : Rat) (W : World) : Prop := ∃ X c Y d, u = .agg #[.bool (sg q.num), .slice X (nl (mg q.num)) c, .slice Y (nl q.den) d] ∧ NatV W X c (mg q.num) ∧ NatV W Y d q.den
def PRt (u : Value) (q : Rat) (W : World) : Prop := ∃ X c Y d, u = .tuple #[.agg #[.bool (sg q.num), .slice X (nl (mg q.num)) c, .slice Y (nl q.den) d], .int .i64 0] ∧ NatV W X c (mg q.num) ∧ NatV W Y d q.den
/-- A variable that the region has made; one that it has written. -/
def PB3 (t : TypeId) (n0 : Nat) (u : Value) (W : World) : Prop := ∃ nb u0 u1 u2, u = .pointer (some ⟨nb, 0, none⟩) ∧ n0 ≤ nb ∧ BoxA W nb t #[u0, u1, u2] ∧ NotU u0 ∧ NotU u1 ∧ NotU u2
def PB2 (t : TypeId) (n0 : Nat) (u : Value) (W : World) : Prop := ∃ nb u0 u1, u = .pointer (some ⟨nb, 0, none⟩) ∧ n0 ≤ nb ∧ BoxA W nb t #[u0, u1] ∧ NotU u0 ∧ NotU u1
theorem notU3 {u0 u1 u2 : Value} (h0 : NotU u0) (h1 : NotU u1) (h2 : NotU u2) : ∀ x ∈ (#[u0, u1, u2] : Array Value).toList, NotU x := by
  intro x hx; simp at hx; rcases hx with rfl | rfl | rfl <;> assumption
theorem notU2 {u0 u1 : Value} (h0 : NotU u0) (h1 : NotU u1) : ∀ x ∈ (#[u0, u1] : Array Value).toList, NotU x := by
  intro x hx; simp at hx; rcases hx with rfl | rfl <;> assumption
def PBI (n0 : Nat) (u : Value) (z : Int) (W : World) : Prop := ∃ nb X c, u = .pointer (some ⟨nb, 0, none⟩) ∧ n0 ≤ nb ∧ BoxA W nb 24 #[.bool (sg z), .slice X (nl (mg z)) c] ∧ NatV W X c (mg z)
def PBR (n0 : Nat) (u : Value) (q : Rat) (W : World) : Prop := ∃ nb X c Y d, u = .pointer (some ⟨nb, 0, none⟩) ∧ n0 ≤ nb ∧ BoxA W nb 26 #[.bool (sg q.num), .slice X (nl (mg q.num)) c, .slice Y (nl q.den) d] ∧ NatV W X c (mg q.num) ∧ NatV W Y d q.den
section
variable {W W' : World} {u : Value} {z : Int} {q : Rat} {t : TypeId} {n0 : Nat}
theorem PI.below (h : PI u z W) (hb : Below W.heap.size W W') : PI u z W' := by
  obtain ⟨X, c, h1, h2⟩ := h; exact ⟨X, c, h1, h2.below hb⟩
theorem PR.below (h : PR u q W) (hb : Below W.heap.size W W') : PR u q W' := by
  obtain ⟨X, c, Y, d, h1, h2, h3⟩ := h; exact ⟨X, c, Y, d, h1, h2.below hb, h3.below hb⟩
theorem PRt.below (h : PRt u q W) (hb : Below W.heap.size W W') : PRt u q W' := by
  obtain ⟨X, c, Y, d, h1, h2, h3⟩ := h; exact ⟨X, c, Y, d, h1, h2.below hb, h3.below hb⟩
theorem PB3.below (h : PB3 t n0 u W) (hb : Below W.heap.size W W') : PB3 t n0 u W' := by
  obtain ⟨nb, u0, u1, u2, h1, h2, h3, h4⟩ := h; exact ⟨nb, u0, u1, u2, h1, h2, h3.below hb, h4⟩
theorem PB2.below (h : PB2 t n0 u W) (hb : Below W.heap.size W W') : PB2 t n0 u W' := by
  obtain ⟨nb, u0, u1, h1, h2, h3, h4⟩ := h; exact ⟨nb, u0, u1, h1, h2, h3.below hb, h4⟩
theorem PB3.lt (h : PB3 t n0 u W) : ∃ nb, u = .pointer (some ⟨nb, 0, none⟩) ∧ nb < W.heap.size := by
  obtain ⟨nb, u0, u1, u2, h1, h2, h3, h4⟩ := h; exact ⟨nb, h1, h3.lt⟩
theorem PB2.lt (h : PB2 t n0 u W) : ∃ nb, u = .pointer (some ⟨nb, 0, none⟩) ∧ nb < W.heap.size := by
  obtain ⟨nb, u0, u1, h1, h2, h3, h4⟩ := h; exact ⟨nb, h1, h3.lt⟩
theorem PBI.below (h : PBI n0 u z W) (hb : Below W.heap.size W W') : PBI n0 u z W' := by
  obtain ⟨nb, X, c, h1, h2, h3, h4⟩ := h; exact ⟨nb, X, c, h1, h2, h3.below hb, h4.below hb⟩
theorem PBR.below (h : PBR n0 u q W) (hb : Below W.heap.size W W') : PBR n0 u q W' := by
  obtain ⟨nb, X, c, Y, d, h1, h2, h3, h4, h5⟩ := h; exact ⟨nb, X, c, Y, d, h1, h2, h3.below hb, h4.below hb, h5.below hb⟩
/-- What a store into a variable without limbs leaves as it was. -/
structure Put (W W' : World) (k : Nat) : Prop where
  nat : ∀ {A : Option Addr} {c n : Nat}, NatV W A c n → NatV W' A c n
  far : ∀ j, j ≠ k → W'.heap[j]? = W.heap[j]?
theorem BoxA.put3 {u0 u1 u2 : Value} {k : Nat} (h : BoxA W k t #[u0, u1, u2]) (hu : ∀ x ∈ (#[u0, u1, u2] : Array Value).toList, NotU x) (v0 v1 v2 : Value) : Put W (((W.setCell ⟨k, 0, none⟩ v0).setCell ⟨k, 1, none⟩ v1).setCell ⟨k, 2, none⟩ v2) k := ⟨fun hN => h.keep3 hu hN, fun j hj => set3_far j hj⟩
theorem BoxA.put2 {u0 u1 : Value} {k : Nat} (h : BoxA W k t #[u0, u1]) (hu : ∀ x ∈ (#[u0, u1] : Array Value).toList, NotU x) (v0 v1 : Value) : Put W ((W.setCell ⟨k, 0, none⟩ v0).setCell ⟨k, 1, none⟩ v1) k := ⟨fun hN => h.keep2 hu hN, fun j hj => set2_far j hj⟩
theorem PI.put {k : Nat} (h : PI u z W) (hp : Put W W' k) : PI u z W' := by
  obtain ⟨X, c, h1, h2⟩ := h; exact ⟨X, c, h1, hp.nat h2⟩
theorem PR.put {k : Nat} (h : PR u q W) (hp : Put W W' k) : PR u q W' := by
  obtain ⟨X, c, Y, d, h1, h2, h3⟩ := h; exact ⟨X, c, Y, d, h1, hp.nat h2, hp.nat h3⟩
theorem PRt.put {k : Nat} (h : PRt u q W) (hp : Put W W' k) : PRt u q W' := by
  obtain ⟨X, c, Y, d, h1, h2, h3⟩ := h; exact ⟨X, c, Y, d, h1, hp.nat h2, hp.nat h3⟩
theorem PB3.put {k : Nat} (h : PB3 t n0 u W) (hp : Put W W' k) (hne : u ≠ .pointer (some ⟨k, 0, none⟩)) : PB3 t n0 u W' := by
  obtain ⟨nb, u0, u1, u2, h1, h2, h3, h4⟩ := h
  exact ⟨nb, u0, u1, u2, h1, h2, ⟨(hp.far nb (fun e => hne (by rw [h1, e]))).trans h3.at_⟩, h4⟩
theorem PB2.put {k : Nat} (h : PB2 t n0 u W) (hp : Put W W' k) (hne : u ≠ .pointer (some ⟨k, 0, none⟩)) : PB2 t n0 u W' := by
  obtain ⟨nb, u0, u1, h1, h2, h3, h4⟩ := h
  exact ⟨nb, u0, u1, h1, h2, ⟨(hp.far nb (fun e => hne (by rw [h1, e]))).trans h3.at_⟩, h4⟩
theorem PBI.put {k : Nat} (h : PBI n0 u z W) (hp : Put W W' k) (hne : u ≠ .pointer (some ⟨k, 0, none⟩)) : PBI n0 u z W' := by
  obtain ⟨nb, X, c, h1, h2, h3, h4⟩ := h
  exact ⟨nb, X, c, h1, h2, ⟨(hp.far nb (fun e => hne (by rw [h1, e]))).trans h3.at_⟩, hp.nat h4⟩
end
end Go.Proofs.YtacjfpibilolnaaGreatDoor

/- The document's whole numbers, walked: Shift. -/
set_option linter.unusedVariables false
set_option linter.unusedSimpArgs false
namespace Go.Proofs.YtacjfpibilolnaaGreatDoor
open Go.RowKit Go.Shelf
attribute [local go_sem] max2_i min2_i max_two min_two

def PN (u : Value) (n : Nat) (W : World) : Prop := ∃ X c, u = .slice X (nl n) c ∧ NatV W X c n
def PII (u : Value) (q r : Int) (W : World) : Prop := ∃ X c Y d, u = .tuple #[.agg #[.bool (sg q), .slice X (nl (mg q)) c], .agg #[.bool (sg r), .slice Y (nl (mg r)) d], .int .i64 0] ∧ NatV W X c (mg q) ∧ NatV W Y d (mg r)
theorem PN.below {W W' : World} {u : Value} {n : Nat} (h : PN u n W) (hb : Below W.heap.size W W') : PN u n W' := by
  obtain ⟨X, c, h1, h2⟩ := h; exact ⟨X, c, h1, h2.below hb⟩
theorem PII.below {W W' : World} {u : Value} {q r : Int} (h : PII u q r W) (hb : Below W.heap.size W W') : PII u q r W' := by
  obtain ⟨X, c, Y, d, h1, h2, h3⟩ := h; exact ⟨X, c, Y, d, h1, h2.below hb, h3.below hb⟩
theorem PN.put {W W' : World} {u : Value} {n k : Nat} (h : PN u n W) (hp : Put W W' k) : PN u n W' := by
  obtain ⟨X, c, h1, h2⟩ := h; exact ⟨X, c, h1, hp.nat h2⟩
theorem PII.put {W W' : World} {u : Value} {q r : Int} {k : Nat} (h : PII u q r W) (hp : Put W W' k) : PII u q r W' := by
  obtain ⟨X, c, Y, d, h1, h2, h3⟩ := h; exact ⟨X, c, Y, d, h1, hp.nat h2, hp.nat h3⟩
theorem shf_up (a : Int) (k : Nat) : ival (sg a) (mg a * 2 ^ k) = shf a (k : Int) := by
  rcases Int.lt_or_le a 0 with h | h
  · have := shf_bn (n := (k : Int)) h (Int.natCast_nonneg k)
    rw [Int.toNat_natCast] at this
    rw [sg_t h]; exact this
  · have := shf_nn (n := (k : Int)) h (Int.natCast_nonneg k)
    rw [Int.toNat_natCast] at this
    rw [sg_f h]; exact this
theorem shf_dn (a : Int) {n : Int} {k : Nat} (h : -n = (k : Int)) (h0 : n < 0) : a / (ival false (2 ^ k)) = shf a n := by
  unfold shf; rw [if_neg (by omega), h, Int.toNat_natCast, ival_false, Int.natCast_pow]; rfl
set_option maxRecDepth 100000 in
set_option maxHeartbeats 4000000 in
theorem zshift_u (aA : Option Addr) (ac : Nat) (a : Int) (n : Int) (w : World) (ha : NatV w aA ac (mg a))  (la : nl (mg a) ≤ 1048576) (n0 : 0 ≤ n) (n1 : n ≤ 16777216) :
    Calls Tryz.prog 25 #[.agg #[.bool (sg a), .slice aA (nl (mg a)) ac], .int .i64 n] w (RetI w (shf a n)) := by
  obtain ⟨k, rfl⟩ := Int.eq_ofNat_of_zero_le n0
  have t1 : decide (0 ≤ (k : Int)) = true := by simp
  have hv := shf_up a k
  have hk : k ≤ 16777216 := by omega
  have hs := nl_shl (mg a) k
  replace hv := Lib.hid hv
  have hb1 : Below (w).heap.size (w) ((w.alloc (.cells #[.bool (sg a), .slice aA (nl (mg a)) ac] 24)).alloc (.cells #[.bool false, .slice none 0 0] 24)) := (Below.alloc (Below.alloc (Below.refl _ _) (Nat.le_refl _) _) (by simp <;> omega) _)
  replace ha := ha.below hb1
  have HBT := hb1
  clear hb1
  have Ra : BoxA ((w.alloc (.cells #[.bool (sg a), .slice aA (nl (mg a)) ac] 24)).alloc (.cells #[.bool false, .slice none 0 0] 24)) w.heap.size 24 #[.bool (sg a), .slice aA (nl (mg a)) ac] := ⟨by repeat (first | exact at_new (by first | (simp; done) | (simp; omega)) | refine at_old (by first | (simp; done) | (simp; omega)) ?_)⟩
  have qa0 := Ra.c (i := 0) rfl
  have qa1 := Ra.c (i := 1) rfl
  have Rr : BoxA ((w.alloc (.cells #[.bool (sg a), .slice aA (nl (mg a)) ac] 24)).alloc (.cells #[.bool false, .slice none 0 0] 24)) (w.heap.size + 1) 24 #[.bool false, .slice none 0 0] := ⟨by repeat (first | exact at_new (by first | (simp; done) | (simp; omega)) | refine at_old (by first | (simp; done) | (simp; omega)) ?_)⟩
  have qr0 := Rr.c (i := 0) rfl
  have qr1 := Rr.c (i := 1) rfl
  go_enter Tryz.func25, Tryz.ntmps25
  go_wp2_with (fail)
  have hd2 : Below (((w.alloc (.cells #[.bool (sg a), .slice aA (nl (mg a)) ac] 24)).alloc (.cells #[.bool false, .slice none 0 0] 24))).heap.size ((w.alloc (.cells #[.bool (sg a), .slice aA (nl (mg a)) ac] 24)).alloc (.cells #[.bool false, .slice none 0 0] 24)) (((w.alloc (.cells #[.bool (sg a), .slice aA (nl (mg a)) ac] 24)).alloc (.cells #[.bool false, .slice none 0 0] 24))).drew := (Below.refl _ _).drew
  replace ha := ha.below hd2
  replace Ra := Ra.below hd2
  replace qa0 := cell_below hd2 qa0
  replace qa1 := cell_below hd2 qa1
  replace Rr := Rr.below hd2
  replace qr0 := cell_below hd2 qr0
  replace qr1 := cell_below hd2 qr1
  replace HBT := Below.cons HBT hd2
  clear hd2
  obtain ⟨m, Em⟩ : ∃ zq : Nat, zq = mg a * 2 ^ k := ⟨_, rfl⟩
  have Bm : nl m ≤ 1099511627776 := by rw [Em]; omega
  have C2_0 := fun (W : World) (h1 : NatV W aA ac (mg a)) => rshl_c aA ac (mg a) k W h1 (by omega) (by omega)
  simp only [← Em] at C2_0
  replace Em := Lib.hid Em
  replace C2_0 := Lib.hid C2_0
  obtain ⟨z, Ez⟩ : ∃ zq : Int, zq = ival (sg a) m := ⟨_, rfl⟩
  have C2_1 := fun (W : World) (A : Option Addr) (c : Nat) (h1 : NatV W A c m) => rz_c (sg a) A c m W h1 (by omega)
  simp only [← Ez] at C2_1
  replace Ez := Lib.hid Ez
  replace C2_1 := Lib.hid C2_1
  go_region_held3 (fun W => W.cell? ⟨w.heap.size, 0, none⟩ = some (.bool (sg a)) ∧ W.cell? ⟨w.heap.size, 1, none⟩ = some (.slice aA (nl (mg a)) ac))
    (first
      | exact ⟨qa0, qa1⟩
      | exact ⟨qa0_3, qa1_3⟩
      | exact ⟨qa0_4, qa1_4⟩
      | exact ⟨((Ra_4.other2 (by simp <;> omega)).c (i := 0) rfl), ((Ra_4.other2 (by simp <;> omega)).c (i := 1) rfl)⟩
      | go_keep)
    (first
      | (go_at_call 73; (with_reducible refine (C2_0.out _ ha).mono ?_); rintro e W3 ⟨Xm, cm, rfl, hm, hb3⟩; have ha_3 := ha.below hb3; have Ra_3 := Ra.below hb3; have qa0_3 := cell_below hb3 qa0; have qa1_3 := cell_below hb3 qa1; have Rr_3 := Rr.below hb3; have qr0_3 := cell_below hb3 qr0; have qr1_3 := cell_below hb3 qr1; have HBT_3 := Below.cons HBT hb3)
      | (go_at_call 71; (with_reducible refine (C2_1.out _ _ _ hm).mono ?_); rintro e W4 ⟨Xz, cz, rfl, hz, hb4⟩; have ha_4 := ha_3.below hb4; have Ra_4 := Ra_3.below hb4; have qa0_4 := cell_below hb4 qa0_3; have qa1_4 := cell_below hb4 qa1_3; have Rr_4 := Rr_3.below hb4; have qr0_4 := cell_below hb4 qr0_3; have qr1_4 := cell_below hb4 qr1_3; have hm_4 := hm.below hb4; have HBT_4 := Below.cons HBT_3 hb4; have fz0 := Rr_4.f (i := 0); have fz1 := Rr_4.f (i := 1)))
  all_goals (try go_wp2_with (fail))
  have hzz : z = (shf a (k : Int)) := by rw [Ez.out, Em.out]; exact hv.out
  subst hzz
  have RS := Rr_4.store2 (.bool (sg (((shf a (k : Int)))))) (.slice Xz (nl (mg (((shf a (k : Int)))))) cz)
  have e0 := RS.c (i := 0) rfl
  have e1 := RS.c (i := 1) rfl
  refine bodyPost_ret (v := .agg #[.bool (sg (((shf a (k : Int))))), .slice Xz (nl (mg (((shf a (k : Int)))))) cz]) (by simp [results, Tryz.results25, go_sem, e0, e1]) rfl ?_
  exact ⟨Xz, cz, rfl, (Rr_4.keep2 (by intro u hu; simp at hu; rcases hu with rfl | rfl <;> first | exact notU_bool _ | exact notU_slice _ _ _ | exact notU_i64 _) hz), (Below.store2 HBT_4 (by first | exact Nat.le_refl _ | omega))⟩
set_option maxRecDepth 100000 in
set_option maxHeartbeats 1000000 in
theorem zshift_d (aA : Option Addr) (ac : Nat) (a : Int) (n : Int) (w : World) (ha : NatV w aA ac (mg a))  (la : nl (mg a) ≤ 1048576) (n0 : n < 0) (n1 : -16777216 ≤ n) :
    Calls Tryz.prog 25 #[.agg #[.bool (sg a), .slice aA (nl (mg a)) ac], .int .i64 n] w (RetI w (shf a n)) := by
  obtain ⟨k, hk⟩ := Int.eq_ofNat_of_zero_le (show 0 ≤ -n by omega)
  have t1 : decide (0 ≤ n) = false := by simp; exact n0
  have lk : k ≤ 16777216 := by omega
  have Wk : IntKind.i64.wrap (k : Int) = (k : Int) := IntWalk.i64_in _ (by omega)
  have hv := shf_dn a hk n0
  obtain ⟨p, Ep⟩ : ∃ z : Nat, z = 1 * 2 ^ k := ⟨_, rfl⟩
  have Np : nl p ≤ 1048576 := by rw [Ep, Nat.one_mul, nl_two_pow]; omega
  have C1 := fun (W : World) (A : Option Addr) (c : Nat) (h1 : NatV W A c 1) => rshl_c A c 1 k W h1 (by rw [nl_one]; decide) (by omega)
  rw [← Ep] at C1
  obtain ⟨pz, Epz⟩ : ∃ z : Int, z = ival false p := ⟨_, rfl⟩
  have C2 := fun (W : World) (A : Option Addr) (c : Nat) (h1 : NatV W A c p) => rz_c false A c p W h1 (by omega)
  rw [← Epz] at C2
  have pz0 : pz ≠ 0 := by rw [Epz, ival_false, Ep]; have := Nat.two_pow_pos k; omega
  have Npz : nl (mg pz) ≤ 1048576 := by rw [Epz, mg_ival]; exact Np
  obtain ⟨q, Eq⟩ : ∃ z : Int, z = a / pz := ⟨_, rfl⟩
  obtain ⟨r, Er⟩ : ∃ z : Int, z = a % pz := ⟨_, rfl⟩
  have C3 := fun (W : World) (A : Option Addr) (c : Nat) (h1 : NatV W aA ac (mg a)) (h2 : NatV W A c (mg pz)) => zdiv_c aA ac a A c pz W h1 h2 (by omega) (by omega) pz0
  rw [← Eq, ← Er] at C3
  have eqz : q = shf a n := by rw [Eq, Epz, Ep, Nat.one_mul]; exact hv
  replace hv := Lib.hid hv
  replace Ep := Lib.hid Ep
  replace Epz := Lib.hid Epz
  replace Eq := Lib.hid Eq
  replace Er := Lib.hid Er
  replace C1 := Lib.hid C1
  replace C2 := Lib.hid C2
  replace C3 := Lib.hid C3
  replace eqz := Lib.hid eqz
  have hb1 : Below (w).heap.size (w) ((w.alloc (.cells #[.bool (sg a), .slice aA (nl (mg a)) ac] 24)).alloc (.cells #[.bool false, .slice none 0 0] 24)) := (Below.alloc (Below.alloc (Below.refl _ _) (Nat.le_refl _) _) (by simp <;> omega) _)
  replace ha := ha.below hb1
  have HBT := hb1
  clear hb1
  have Ra : BoxA ((w.alloc (.cells #[.bool (sg a), .slice aA (nl (mg a)) ac] 24)).alloc (.cells #[.bool false, .slice none 0 0] 24)) w.heap.size 24 #[.bool (sg a), .slice aA (nl (mg a)) ac] := ⟨by repeat (first | exact at_new (by first | (simp; done) | (simp; omega)) | refine at_old (by first | (simp; done) | (simp; omega)) ?_)⟩
  have qa0 := Ra.c (i := 0) rfl
  have qa1 := Ra.c (i := 1) rfl
  have Rr : BoxA ((w.alloc (.cells #[.bool (sg a), .slice aA (nl (mg a)) ac] 24)).alloc (.cells #[.bool false, .slice none 0 0] 24)) (w.heap.size + 1) 24 #[.bool false, .slice none 0 0] := ⟨by repeat (first | exact at_new (by first | (simp; done) | (simp; omega)) | refine at_old (by first | (simp; done) | (simp; omega)) ?_)⟩
  have qr0 := Rr.c (i := 0) rfl
  have qr1 := Rr.c (i := 1) rfl
  go_enter Tryz.func25, Tryz.ntmps25
  go_wp2_with (fail)
  generalize hW0 : ((w.alloc (.cells #[.bool (sg a), .slice aA (nl (mg a)) ac] 24)).alloc (.cells #[.bool false, .slice none 0 0] 24)) = W0 at *
  replace hW0 := Lib.hid hW0
  refine wp_region_inv (fun E a' w' => ∃ (u18 u19 u20 u21 u22 u23 u24 u17 u25 u26 u27 u5 u6 u7 : Value),
    a' = { tmps := #[.agg #[.bool (sg a), .slice aA (nl (mg a)) ac], .int .i64 n, .pointer (some ⟨w.heap.size, 0, none⟩), undef, .pointer (some ⟨(w.heap.size + 1), 0, none⟩), u5, u6, u7, .int .i64 n, .bool false, undef, undef, undef, undef, undef, undef, undef, u17, u18, u19, u20, u21, u22, u23, u24, u25, u26, u27, undef], defers := [] } ∧
    (E 0 = true → u18 = .agg #[.bool (sg a), .slice aA (nl (mg a)) ac]) ∧
    (E 1 = true → PN u19 1 w') ∧
    (E 2 = true → u20 = .int .i64 n) ∧
    (E 3 = true → u21 = .int .i64 k) ∧
    (E 4 = true → PN u22 p w') ∧
    (E 5 = true → PI u23 pz w') ∧
    (E 6 = true → PII u24 q r w') ∧
    (E 7 = true → PII u17 q r w') ∧
    (E 8 = true → PI u25 q w') ∧
    (E 9 = true → PI u26 r w') ∧
    (E 10 = true → u27 = .int .i64 0) ∧
    (E 11 = true → PB2 24 W0.heap.size u5 w') ∧
    (E 12 = true → PB2 24 W0.heap.size u6 w') ∧
    (E 13 = true → PBI W0.heap.size u5 q w') ∧
    (E 14 = true → PBI W0.heap.size u6 r w') ∧
    (E 15 = true → u7 = .int .i64 0) ∧
    (E 13 = true → E 11 = true) ∧
    (E 14 = true → E 12 = true) ∧
    (E 11 = true → E 12 = true → u5 ≠ u6) ∧
    Below W0.heap.size W0 w') (by kernel_rfl) (by kernel_rfl) ?init ?fin ?step
  case init => exact ⟨_, _, _, _, _, _, _, _, _, _, _, _, _, _, rfl, by simp, by simp, by simp, by simp, by simp, by simp, by simp, by simp, by simp, by simp, by simp, by simp, by simp, by simp, by simp, by simp, by simp, by simp, by simp, (Below.refl _ _).drew⟩
  case step =>
    rintro E a' w' i ⟨u18, u19, u20, u21, u22, u23, u24, u17, u25, u26, u27, u5, u6, u7, rfl, h0, h1, h2, h3, h4, h5, h6, h7, h8, h9, h10, h11, h12, h13, h14, h15, hD13, hD14, hN11_12, hB⟩ hi hEi hdep
    have qa0 := cell_below hB qa0
    have qa1 := cell_below hB qa1
    obtain rfl | rfl | rfl | rfl | rfl | rfl | rfl | rfl | rfl | rfl | rfl | rfl | rfl | rfl | rfl | rfl : i = 0 ∨ i = 1 ∨ i = 2 ∨ i = 3 ∨ i = 4 ∨ i = 5 ∨ i = 6 ∨ i = 7 ∨ i = 8 ∨ i = 9 ∨ i = 10 ∨ i = 11 ∨ i = 12 ∨ i = 13 ∨ i = 14 ∨ i = 15 := by simp at hi; omega
    · skip
      refine wpOp_step rfl (fun K' hK' => ?_)
      go_simp
      refine hK' _ _ ?_
      exact ⟨_, _, _, _, _, _, _, _, _, _, _, _, _, _, rfl, fun _ => rfl, keepD (by decide) h1, keepD (by decide) h2, keepD (by decide) h3, keepD (by decide) h4, keepD (by decide) h5, keepD (by decide) h6, keepD (by decide) h7, keepD (by decide) h8, keepD (by decide) h9, keepD (by decide) h10, keepD (by decide) h11, keepD (by decide) h12, keepD (by decide) h13, keepD (by decide) h14, keepD (by decide) h15, (fun h => by have := hD13 (by simpa using h); simpa using this), (fun h => by have := hD14 (by simpa using h); simpa using this), (fun h k => hN11_12 (by simpa using h) (by simpa using k)), hB⟩
    · skip
      have kb : Below w'.heap.size w' (w'.alloc (.cells #[.int .u32 1] 58)) := (Below.refl _ _).alloc (Nat.le_refl _) _
      refine wpOp_step rfl (fun K' hK' => ?_)
      go_simp
      refine hK' _ _ ?_
      exact ⟨_, _, _, _, _, _, _, _, _, _, _, _, _, _, rfl, keepD (by decide) h0, fun _ => ⟨some ⟨w'.heap.size, 0, none⟩, 1, by rw [nl_one], nat_one _ _ (heap_alloc_new w' (.cells #[.int .u32 1] 58))⟩, keepD (by decide) h2, keepD (by decide) h3, keepP (by decide) h4 (fun h => h.below kb), keepP (by decide) h5 (fun h => h.below kb), keepP (by decide) h6 (fun h => h.below kb), keepP (by decide) h7 (fun h => h.below kb), keepP (by decide) h8 (fun h => h.below kb), keepP (by decide) h9 (fun h => h.below kb), keepD (by decide) h10, keepP (by decide) h11 (fun h => h.below kb), keepP (by decide) h12 (fun h => h.below kb), keepP (by decide) h13 (fun h => h.below kb), keepP (by decide) h14 (fun h => h.below kb), keepD (by decide) h15, (fun h => by have := hD13 (by simpa using h); simpa using this), (fun h => by have := hD14 (by simpa using h); simpa using this), (fun h k => hN11_12 (by simpa using h) (by simpa using k)), Below.cons hB kb⟩
    · skip
      refine wpOp_step rfl (fun K' hK' => ?_)
      go_simp
      refine hK' _ _ ?_
      exact ⟨_, _, _, _, _, _, _, _, _, _, _, _, _, _, rfl, keepD (by decide) h0, keepD (by decide) h1, fun _ => rfl, keepD (by decide) h3, keepD (by decide) h4, keepD (by decide) h5, keepD (by decide) h6, keepD (by decide) h7, keepD (by decide) h8, keepD (by decide) h9, keepD (by decide) h10, keepD (by decide) h11, keepD (by decide) h12, keepD (by decide) h13, keepD (by decide) h14, keepD (by decide) h15, (fun h => by have := hD13 (by simpa using h); simpa using this), (fun h => by have := hD14 (by simpa using h); simpa using this), (fun h k => hN11_12 (by simpa using h) (by simpa using k)), hB⟩
    · skip
      have d2 := hdep _ rfl ⟨2, .data⟩ (by simp) rfl
      obtain rfl := h2 d2
      refine wpOp_step rfl (fun K' hK' => ?_)
      go_simp
      refine hK' _ _ ?_
      exact ⟨_, _, _, _, _, _, _, _, _, _, _, _, _, _, rfl, keepD (by decide) h0, keepD (by decide) h1, keepD (by decide) h2, fun _ => rfl, keepD (by decide) h4, keepD (by decide) h5, keepD (by decide) h6, keepD (by decide) h7, keepD (by decide) h8, keepD (by decide) h9, keepD (by decide) h10, keepD (by decide) h11, keepD (by decide) h12, keepD (by decide) h13, keepD (by decide) h14, keepD (by decide) h15, (fun h => by have := hD13 (by simpa using h); simpa using this), (fun h => by have := hD14 (by simpa using h); simpa using this), (fun h k => hN11_12 (by simpa using h) (by simpa using k)), hB⟩
    · skip
      have d1 := hdep _ rfl ⟨1, .data⟩ (by simp) rfl
      obtain ⟨X_1, c_1, rfl, k_1⟩ := h1 d1
      have d3 := hdep _ rfl ⟨3, .data⟩ (by simp) rfl
      obtain rfl := h3 d3
      refine wpOp_step rfl (fun K' hK' => ?_)
      go_simp
      refine (Calls.mono (C1.out w' _ _ k_1) ?_)
      rintro e W1 ⟨Xr, cr, rfl, kr, kb⟩
      refine hK' _ _ ?_
      exact ⟨_, _, _, _, _, _, _, _, _, _, _, _, _, _, rfl, keepD (by decide) h0, keepP (by decide) h1 (fun h => h.below kb), keepD (by decide) h2, keepD (by decide) h3, fun _ => ⟨Xr, cr, rfl, kr⟩, keepP (by decide) h5 (fun h => h.below kb), keepP (by decide) h6 (fun h => h.below kb), keepP (by decide) h7 (fun h => h.below kb), keepP (by decide) h8 (fun h => h.below kb), keepP (by decide) h9 (fun h => h.below kb), keepD (by decide) h10, keepP (by decide) h11 (fun h => h.below kb), keepP (by decide) h12 (fun h => h.below kb), keepP (by decide) h13 (fun h => h.below kb), keepP (by decide) h14 (fun h => h.below kb), keepD (by decide) h15, (fun h => by have := hD13 (by simpa using h); simpa using this), (fun h => by have := hD14 (by simpa using h); simpa using this), (fun h k => hN11_12 (by simpa using h) (by simpa using k)), Below.cons hB kb⟩
    · skip
      have d4 := hdep _ rfl ⟨4, .data⟩ (by simp) rfl
      obtain ⟨X_4, c_4, rfl, k_4⟩ := h4 d4
      refine wpOp_step rfl (fun K' hK' => ?_)
      go_simp
      refine (Calls.mono (C2.out w' _ _ k_4) ?_)
      rintro e W1 ⟨Xr, cr, rfl, kr, kb⟩
      refine hK' _ _ ?_
      exact ⟨_, _, _, _, _, _, _, _, _, _, _, _, _, _, rfl, keepD (by decide) h0, keepP (by decide) h1 (fun h => h.below kb), keepD (by decide) h2, keepD (by decide) h3, keepP (by decide) h4 (fun h => h.below kb), fun _ => ⟨Xr, cr, rfl, kr⟩, keepP (by decide) h6 (fun h => h.below kb), keepP (by decide) h7 (fun h => h.below kb), keepP (by decide) h8 (fun h => h.below kb), keepP (by decide) h9 (fun h => h.below kb), keepD (by decide) h10, keepP (by decide) h11 (fun h => h.below kb), keepP (by decide) h12 (fun h => h.below kb), keepP (by decide) h13 (fun h => h.below kb), keepP (by decide) h14 (fun h => h.below kb), keepD (by decide) h15, (fun h => by have := hD13 (by simpa using h); simpa using this), (fun h => by have := hD14 (by simpa using h); simpa using this), (fun h k => hN11_12 (by simpa using h) (by simpa using k)), Below.cons hB kb⟩
    · skip
      have d0 := hdep _ rfl ⟨0, .data⟩ (by simp) rfl
      obtain rfl := h0 d0
      have d5 := hdep _ rfl ⟨5, .data⟩ (by simp) rfl
      obtain ⟨X_5, c_5, rfl, k_5⟩ := h5 d5
      refine wpOp_step rfl (fun K' hK' => ?_)
      go_simp
      refine (Calls.mono (C3.out w' _ _ (ha.below hB) k_5) ?_)
      rintro e W1 ⟨Xr, cr, Yr, dr, rfl, kr, lr, kb⟩
      refine hK' _ _ ?_
      exact ⟨_, _, _, _, _, _, _, _, _, _, _, _, _, _, rfl, keepD (by decide) h0, keepP (by decide) h1 (fun h => h.below kb), keepD (by decide) h2, keepD (by decide) h3, keepP (by decide) h4 (fun h => h.below kb), keepP (by decide) h5 (fun h => h.below kb), fun _ => ⟨Xr, cr, Yr, dr, rfl, kr, lr⟩, keepP (by decide) h7 (fun h => h.below kb), keepP (by decide) h8 (fun h => h.below kb), keepP (by decide) h9 (fun h => h.below kb), keepD (by decide) h10, keepP (by decide) h11 (fun h => h.below kb), keepP (by decide) h12 (fun h => h.below kb), keepP (by decide) h13 (fun h => h.below kb), keepP (by decide) h14 (fun h => h.below kb), keepD (by decide) h15, (fun h => by have := hD13 (by simpa using h); simpa using this), (fun h => by have := hD14 (by simpa using h); simpa using this), (fun h k => hN11_12 (by simpa using h) (by simpa using k)), Below.cons hB kb⟩
    · skip
      have d6 := hdep _ rfl ⟨6, .data⟩ (by simp) rfl
      obtain ⟨X_6, c_6, Y_6, d_6, rfl, k_6, l_6⟩ := h6 d6
      refine wpOp_step rfl (fun K' hK' => ?_)
      go_simp
      refine hK' _ _ ?_
      exact ⟨_, _, _, _, _, _, _, _, _, _, _, _, _, _, rfl, keepD (by decide) h0, keepD (by decide) h1, keepD (by decide) h2, keepD (by decide) h3, keepD (by decide) h4, keepD (by decide) h5, keepD (by decide) h6, fun _ => ⟨X_6, c_6, Y_6, d_6, rfl, k_6, l_6⟩, keepD (by decide) h8, keepD (by decide) h9, keepD (by decide) h10, keepD (by decide) h11, keepD (by decide) h12, keepD (by decide) h13, keepD (by decide) h14, keepD (by decide) h15, (fun h => by have := hD13 (by simpa using h); simpa using this), (fun h => by have := hD14 (by simpa using h); simpa using this), (fun h k => hN11_12 (by simpa using h) (by simpa using k)), hB⟩
    · skip
      have d7 := hdep _ rfl ⟨7, .data⟩ (by simp) rfl
      obtain ⟨X_7, c_7, Y_7, d_7, rfl, k_7, l_7⟩ := h7 d7
      refine wpOp_step rfl (fun K' hK' => ?_)
      go_simp
      refine hK' _ _ ?_
      exact ⟨_, _, _, _, _, _, _, _, _, _, _, _, _, _, rfl, keepD (by decide) h0, keepD (by decide) h1, keepD (by decide) h2, keepD (by decide) h3, keepD (by decide) h4, keepD (by decide) h5, keepD (by decide) h6, keepD (by decide) h7, fun _ => ⟨X_7, c_7, rfl, k_7⟩, keepD (by decide) h9, keepD (by decide) h10, keepD (by decide) h11, keepD (by decide) h12, keepD (by decide) h13, keepD (by decide) h14, keepD (by decide) h15, (fun h => by have := hD13 (by simpa using h); simpa using this), (fun h => by have := hD14 (by simpa using h); simpa using this), (fun h k => hN11_12 (by simpa using h) (by simpa using k)), hB⟩
    · skip
      have d7 := hdep _ rfl ⟨7, .data⟩ (by simp) rfl
      obtain ⟨X_7, c_7, Y_7, d_7, rfl, k_7, l_7⟩ := h7 d7
      refine wpOp_step rfl (fun K' hK' => ?_)
      go_simp
      refine hK' _ _ ?_
      exact ⟨_, _, _, _, _, _, _, _, _, _, _, _, _, _, rfl, keepD (by decide) h0, keepD (by decide) h1, keepD (by decide) h2, keepD (by decide) h3, keepD (by decide) h4, keepD (by decide) h5, keepD (by decide) h6, keepD (by decide) h7, keepD (by decide) h8, fun _ => ⟨Y_7, d_7, rfl, l_7⟩, keepD (by decide) h10, keepD (by decide) h11, keepD (by decide) h12, keepD (by decide) h13, keepD (by decide) h14, keepD (by decide) h15, (fun h => by have := hD13 (by simpa using h); simpa using this), (fun h => by have := hD14 (by simpa using h); simpa using this), (fun h k => hN11_12 (by simpa using h) (by simpa using k)), hB⟩
    · skip
      have d7 := hdep _ rfl ⟨7, .data⟩ (by simp) rfl
      obtain ⟨X_7, c_7, Y_7, d_7, rfl, k_7, l_7⟩ := h7 d7
      refine wpOp_step rfl (fun K' hK' => ?_)
      go_simp
      refine hK' _ _ ?_
      exact ⟨_, _, _, _, _, _, _, _, _, _, _, _, _, _, rfl, keepD (by decide) h0, keepD (by decide) h1, keepD (by decide) h2, keepD (by decide) h3, keepD (by decide) h4, keepD (by decide) h5, keepD (by decide) h6, keepD (by decide) h7, keepD (by decide) h8, keepD (by decide) h9, fun _ => rfl, keepD (by decide) h11, keepD (by decide) h12, keepD (by decide) h13, keepD (by decide) h14, keepD (by decide) h15, (fun h => by have := hD13 (by simpa using h); simpa using this), (fun h => by have := hD14 (by simpa using h); simpa using this), (fun h k => hN11_12 (by simpa using h) (by simpa using k)), hB⟩
    · skip
      have kb : Below w'.heap.size w' (w'.alloc (.cells #[.bool false, .slice none 0 0] 24)) := (Below.refl _ _).alloc (Nat.le_refl _) _
      refine wpOp_step rfl (fun K' hK' => ?_)
      go_simp
      refine hK' _ _ ?_
      exact ⟨_, _, _, _, _, _, _, _, _, _, _, _, _, _, rfl, keepD (by decide) h0, keepP (by decide) h1 (fun h => h.below kb), keepD (by decide) h2, keepD (by decide) h3, keepP (by decide) h4 (fun h => h.below kb), keepP (by decide) h5 (fun h => h.below kb), keepP (by decide) h6 (fun h => h.below kb), keepP (by decide) h7 (fun h => h.below kb), keepP (by decide) h8 (fun h => h.below kb), keepP (by decide) h9 (fun h => h.below kb), keepD (by decide) h10, fun _ => ⟨_, _, _, rfl, hB.size, ⟨at_new rfl⟩, notU_bool _, notU_slice _ _ _⟩, keepP (by decide) h12 (fun h => h.below kb), (fun h => by have h2 := hD13 (by simpa using h); rw [hEi] at h2; cases h2), keepP (by decide) h14 (fun h => h.below kb), keepD (by decide) h15, (fun _ => by simp), (fun h => by have := hD14 (by simpa using h); simpa using this), (fun _ h => by obtain ⟨n2, e2, l2⟩ := (h12 (by simpa using h)).lt; rw [e2]; intro e3; simp at e3 <;> omega), Below.cons hB kb⟩
    · skip
      have kb : Below w'.heap.size w' (w'.alloc (.cells #[.bool false, .slice none 0 0] 24)) := (Below.refl _ _).alloc (Nat.le_refl _) _
      refine wpOp_step rfl (fun K' hK' => ?_)
      go_simp
      refine hK' _ _ ?_
      exact ⟨_, _, _, _, _, _, _, _, _, _, _, _, _, _, rfl, keepD (by decide) h0, keepP (by decide) h1 (fun h => h.below kb), keepD (by decide) h2, keepD (by decide) h3, keepP (by decide) h4 (fun h => h.below kb), keepP (by decide) h5 (fun h => h.below kb), keepP (by decide) h6 (fun h => h.below kb), keepP (by decide) h7 (fun h => h.below kb), keepP (by decide) h8 (fun h => h.below kb), keepP (by decide) h9 (fun h => h.below kb), keepD (by decide) h10, keepP (by decide) h11 (fun h => h.below kb), fun _ => ⟨_, _, _, rfl, hB.size, ⟨at_new rfl⟩, notU_bool _, notU_slice _ _ _⟩, keepP (by decide) h13 (fun h => h.below kb), (fun h => by have h2 := hD14 (by simpa using h); rw [hEi] at h2; cases h2), keepD (by decide) h15, (fun h => by have := hD13 (by simpa using h); simpa using this), (fun _ => by simp), (fun h _ => by obtain ⟨n2, e2, l2⟩ := (h11 (by simpa using h)).lt; rw [e2]; intro e3; simp at e3 <;> omega), Below.cons hB kb⟩
    · skip
      have d11 := hdep _ rfl ⟨11, .data⟩ (by simp) rfl
      obtain ⟨nb, z0, z1, rfl, hn, hb, nz0, nz1⟩ := h11 d11
      have d8 := hdep _ rfl ⟨8, .data⟩ (by simp) rfl
      obtain ⟨X_8, c_8, rfl, k_8⟩ := h8 d8
      have fz0 := hb.f (i := 0)
      have cz0 := hb.c (i := 0) rfl
      have fz1 := hb.f (i := 1)
      have cz1 := hb.c (i := 1) rfl
      have hp := hb.put2 (notU2 nz0 nz1) (.bool (sg q)) (.slice X_8 (nl (mg q)) c_8)
      have hs := hb.store2 (.bool (sg q)) (.slice X_8 (nl (mg q)) c_8)
      refine wpOp_step rfl (fun K' hK' => ?_)
      go_simp
      refine hK' _ _ ?_
      exact ⟨_, _, _, _, _, _, _, _, _, _, _, _, _, _, rfl, keepD (by decide) h0, keepP (by decide) h1 (fun h => h.put hp), keepD (by decide) h2, keepD (by decide) h3, keepP (by decide) h4 (fun h => h.put hp), keepP (by decide) h5 (fun h => h.put hp), keepP (by decide) h6 (fun h => h.put hp), keepP (by decide) h7 (fun h => h.put hp), keepP (by decide) h8 (fun h => h.put hp), keepP (by decide) h9 (fun h => h.put hp), keepD (by decide) h10, (fun _ => ⟨nb, _, _, rfl, hn, hs, notU_bool _, notU_slice _ _ _⟩), keepP' (by decide) h12 (fun e h => h.put hp (fun e3 => hN11_12 d11 (by simpa using e) e3.symm)), fun _ => ⟨nb, X_8, c_8, rfl, hn, hs, hp.nat k_8⟩, keepP' (by decide) h14 (fun e h => h.put hp (fun e3 => hN11_12 d11 (hD14 (by simpa using e)) e3.symm)), keepD (by decide) h15, (fun _ => by simp [d11]), (fun h => by have := hD14 (by simpa using h); simpa using this), (fun h k => hN11_12 (by simpa using h) (by simpa using k)), Below.store2 hB hn⟩
    · skip
      have d12 := hdep _ rfl ⟨12, .data⟩ (by simp) rfl
      obtain ⟨nb, z0, z1, rfl, hn, hb, nz0, nz1⟩ := h12 d12
      have d9 := hdep _ rfl ⟨9, .data⟩ (by simp) rfl
      obtain ⟨X_9, c_9, rfl, k_9⟩ := h9 d9
      have fz0 := hb.f (i := 0)
      have cz0 := hb.c (i := 0) rfl
      have fz1 := hb.f (i := 1)
      have cz1 := hb.c (i := 1) rfl
      have hp := hb.put2 (notU2 nz0 nz1) (.bool (sg r)) (.slice X_9 (nl (mg r)) c_9)
      have hs := hb.store2 (.bool (sg r)) (.slice X_9 (nl (mg r)) c_9)
      refine wpOp_step rfl (fun K' hK' => ?_)
      go_simp
      refine hK' _ _ ?_
      exact ⟨_, _, _, _, _, _, _, _, _, _, _, _, _, _, rfl, keepD (by decide) h0, keepP (by decide) h1 (fun h => h.put hp), keepD (by decide) h2, keepD (by decide) h3, keepP (by decide) h4 (fun h => h.put hp), keepP (by decide) h5 (fun h => h.put hp), keepP (by decide) h6 (fun h => h.put hp), keepP (by decide) h7 (fun h => h.put hp), keepP (by decide) h8 (fun h => h.put hp), keepP (by decide) h9 (fun h => h.put hp), keepD (by decide) h10, keepP' (by decide) h11 (fun e h => h.put hp (hN11_12 (by simpa using e) d12)), (fun _ => ⟨nb, _, _, rfl, hn, hs, notU_bool _, notU_slice _ _ _⟩), keepP' (by decide) h13 (fun e h => h.put hp (hN11_12 (hD13 (by simpa using e)) d12)), fun _ => ⟨nb, X_9, c_9, rfl, hn, hs, hp.nat k_9⟩, keepD (by decide) h15, (fun h => by have := hD13 (by simpa using h); simpa using this), (fun _ => by simp [d12]), (fun h k => hN11_12 (by simpa using h) (by simpa using k)), Below.store2 hB hn⟩
    · skip
      have d10 := hdep _ rfl ⟨10, .data⟩ (by simp) rfl
      obtain rfl := h10 d10
      refine wpOp_step rfl (fun K' hK' => ?_)
      go_simp
      refine hK' _ _ ?_
      exact ⟨_, _, _, _, _, _, _, _, _, _, _, _, _, _, rfl, keepD (by decide) h0, keepD (by decide) h1, keepD (by decide) h2, keepD (by decide) h3, keepD (by decide) h4, keepD (by decide) h5, keepD (by decide) h6, keepD (by decide) h7, keepD (by decide) h8, keepD (by decide) h9, keepD (by decide) h10, keepD (by decide) h11, keepD (by decide) h12, keepD (by decide) h13, keepD (by decide) h14, fun _ => rfl, (fun h => by have := hD13 (by simpa using h); simpa using this), (fun h => by have := hD14 (by simpa using h); simpa using this), (fun h k => hN11_12 (by simpa using h) (by simpa using k)), hB⟩
  case fin =>
    rintro E a' w' ⟨u18, u19, u20, u21, u22, u23, u24, u17, u25, u26, u27, u5, u6, u7, rfl, h0, h1, h2, h3, h4, h5, h6, h7, h8, h9, h10, h11, h12, h13, h14, h15, hD13, hD14, hN11_12, hB⟩ hall
    obtain ⟨nbq, Xq, cq, rfl, hnq, Rq, hq⟩ := h13 (hall 13 (by simp))
    replace ha := ha.below hB
    replace Ra := Ra.below hB
    replace qa0 := cell_below hB qa0
    replace qa1 := cell_below hB qa1
    replace Rr := Rr.below hB
    replace qr0 := cell_below hB qr0
    replace qr1 := cell_below hB qr1
    replace HBT := Below.cons HBT hB
    have kvq := hnq
    have qq0 := Rq.c (i := 0) rfl
    have qq1 := Rq.c (i := 1) rfl
    have hz : w.heap.size + 2 = W0.heap.size := by rw [← hW0.out]; simp
    have fzr0 := Rr.f (i := 0)
    have fzr1 := Rr.f (i := 1)
    go_wp2_with (fail)
    have hzq : q = (shf a n) := by exact eqz.out
    subst hzq
    have RS := Rr.store2 (.bool (sg (((shf a n))))) (.slice Xq (nl (mg (((shf a n))))) cq)
    have e0 := RS.c (i := 0) rfl
    have e1 := RS.c (i := 1) rfl
    refine bodyPost_ret (v := .agg #[.bool (sg (((shf a n)))), .slice Xq (nl (mg (((shf a n))))) cq]) (by simp [results, Tryz.results25, go_sem, e0, e1]) rfl ?_
    exact ⟨Xq, cq, rfl, (Rr.keep2 (by intro u hu; simp at hu; rcases hu with rfl | rfl <;> first | exact notU_bool _ | exact notU_slice _ _ _ | exact notU_i64 _) hq), (Below.store2 HBT (by first | exact Nat.le_refl _ | omega))⟩
theorem zshift_c (aA : Option Addr) (ac : Nat) (a : Int) (n : Int) (w : World) (ha : NatV w aA ac (mg a)) (la : nl (mg a) ≤ 1048576) (ln : -16777216 ≤ n ∧ n ≤ 16777216) :
    Calls Tryz.prog 25 #[.agg #[.bool (sg a), .slice aA (nl (mg a)) ac], .int .i64 n] w (RetI w (shf a n)) := by
  by_cases h : 0 ≤ n
  · exact zshift_u aA ac a n w ha la h ln.2
  · exact zshift_d aA ac a n w ha la (by omega) ln.1
end Go.Proofs.YtacjfpibilolnaaGreatDoor

/- The document's greatest common divisor, walked. -/
set_option linter.unusedVariables false
set_option linter.unusedSimpArgs false
namespace Go.Proofs.YtacjfpibilolnaaGreatDoor
open Go.RowKit Go.Shelf
attribute [local go_sem] max2_i min2_i max_two min_two

set_option maxRecDepth 100000 in
set_option maxHeartbeats 4000000 in
theorem rgcd_c (aA : Option Addr) (ac a : Nat) (bA : Option Addr) (bc b : Nat) (w : World) (ha : NatV w aA ac a) (hb : NatV w bA bc b) (la : nl a ≤ 16777216) (lb : nl b ≤ 16777216) :
    Calls Tryz.prog 125 #[.slice aA (nl a) ac, .slice bA (nl b) bc] w (RetN w (Nat.gcd a b)) := by
  go_enter Tryz.func125, Tryz.ntmps125
  go_wp2_with (fail)
  go_loopw [0, 1] (fun va vb wr => ∃ (x y : Nat) (X : Option Addr) (cx : Nat) (Y : Option Addr) (cy : Nat), va = .slice X (nl x) cx ∧ vb = .slice Y (nl y) cy ∧ NatV wr X cx x ∧ NatV wr Y cy y ∧ Below w.heap.size w wr ∧ Hid (Nat.gcd x y = Nat.gcd a b) ∧ nl x ≤ 16777216 ∧ nl y ≤ 16777216) (fun va vb wr => natAt wr (some vb))
  case atStart => exact ⟨a, b, aA, ac, bA, bc, rfl, rfl, ha, hb, Below.refl _ _, Lib.hid rfl, la, lb⟩
  case round =>
    obtain ⟨x, y, X, cx, Y, cy, rfl, rfl, hX, hY, hbr, hg, lx, ly⟩ := hrel
    by_cases h0 : y = 0
    · have t1 : decide (0 < (nl y : Int)) = false := by rw [h0, nl_zero]; rfl
      have t2 : decide (0 < nl y) = false := by rw [h0, nl_zero]; rfl
      have ev : x = Nat.gcd a b := by rw [← hg.out, h0, Nat.gcd_zero_right]
      replace ev := Lib.hid ev
      replace h0 := Lib.hid h0
      go_wp2_with (fail)
      go_ret
      rw [← ev.out]
      exact ⟨X, cx, rfl, hX, hbr⟩
    · have t1 : decide (0 < (nl y : Int)) = true := by have := nl_pos.2 h0; simp; omega
      have t2 : decide (0 < nl y) = true := by have := nl_pos.2 h0; simp; omega
      have CD := rdiv_c X cx x Y cy y wr hX hY lx ly (by omega)
      obtain ⟨r, Er⟩ : ∃ z : Nat, z = x % y := ⟨_, rfl⟩
      rw [← Er] at CD
      have lr : nl r ≤ 16777216 := by rw [Er]; exact Nat.le_trans (nl_mod_le x y) lx
      have hr : r < y := by rw [Er]; exact Nat.mod_lt _ (by omega)
      have hg2 : Nat.gcd y r = Nat.gcd a b := by rw [Er, ← hg.out, Nat.gcd_comm x y, Nat.gcd_rec y x, Nat.gcd_comm]
      replace hg2 := Lib.hid hg2
      replace CD := Lib.hid CD
      replace Er := Lib.hid Er
      go_wp2_with (fail)
      refine CD.out.mono ?_
      rintro e w1 ⟨Q, cq, R, cr, rfl, hQ, hR, hb1⟩
      have hY1 := hY.below hb1
      have hmeas : natAt w1 (some (.slice R (nl r) cr)) < natAt wr (some (.slice Y (nl y) cy)) := by rw [hR.at_, hY.at_]; exact hr
      replace hmeas := Lib.hid hmeas
      go_wp2_with (fail)
      go_roundw
      case rel => exact ⟨y, r, Y, cy, R, cr, rfl, rfl, hY1, hR, hbr.cons hb1, hg2, ly, lr⟩
      case measure => exact hmeas.out
end Go.Proofs.YtacjfpibilolnaaGreatDoor
