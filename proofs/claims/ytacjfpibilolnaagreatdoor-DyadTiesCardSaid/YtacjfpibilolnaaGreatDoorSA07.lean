/- Dyadic numbers, walked: Sign, Neg, Scaled, Cmp, Add, Sub, Mid. -/
import Derived.Test.YtacjfpibilolnaaGreatDoorSA06
import Derived.Test.YtacjfpibilolnaaGreatDoorSA01
import Derived.RangeFuncFrom
import Derived.RangeFuncBox
import Derived.RangeFuncLeaves
import Derived.Test.YtacjfpibilolnaaGreatDoorSA05
import Derived.Test.YtacjfpibilolnaaGreatDoorSA02
import Derived.RangeFuncNested
import Derived.OwnWalkIn
import Derived.TacticsInMore
import Derived.LoopNIn
import Derived.LoopIn
import Derived.Stop.RegionWithIn
import Derived.Laws.EntriesVeiled
set_option linter.unusedVariables false
set_option linter.unusedSimpArgs false
namespace Go.Proofs.YtacjfpibilolnaaGreatDoor
open Go.RowKit Go.Shelf
attribute [local go_sem] max2_i min2_i max_two min_two

/-- A dyadic number of no great size. -/
structure DOk (q : Rat) : Prop where
  d : Dyd q
  l : nl (mg (dmn q)) ≤ 100000
  e : -1000000 ≤ dex q ∧ dex q ≤ 1000000
theorem dval_neg (m e : Int) : dval (-m) e = -dval m e := by unfold dval; rw [Rat.intCast_neg, Rat.neg_mul]
theorem dval_add (x y e : Int) : dval (x + y) e = dval x e + dval y e := by unfold dval; rw [Rat.intCast_add, Rat.add_mul]
theorem dval_lt {x y e : Int} : dval x e < dval y e ↔ x < y := by
  unfold dval
  rw [Rat.mul_lt_mul_right (zp_pos e)]
  exact Rat.intCast_lt_intCast
theorem nz_neg {m e : Int} (h : Nz m e) : Nz (-m) e := by
  rcases h with h | ⟨rfl, rfl⟩
  · exact .inl (by omega)
  · exact .inr ⟨rfl, rfl⟩
theorem form_neg {q : Rat} (h : Dyd q) : dmn (-q) = -dmn q ∧ dex (-q) = dex q := by
  have h1 := form_of_nz (nz_neg (nz_q q))
  rw [dval_neg, dval_q h] at h1
  exact h1
theorem dyd_neg {q : Rat} (h : Dyd q) : Dyd (-q) := by
  obtain ⟨m, e, rfl⟩ := h; exact ⟨-m, e, (dval_neg m e).symm⟩
theorem dok_neg {q : Rat} (h : DOk q) : DOk (-q) := by
  obtain ⟨h1, h2⟩ := form_neg h.d
  exact ⟨dyd_neg h.d, by rw [h1, mg_neg]; exact h.l, by rw [h2]; exact h.e⟩
theorem lev {q : Rat} (h : Dyd q) {E : Int} (hE : E ≤ dex q) : dval (shf (dmn q) (dex q - E)) E = q := by
  unfold shf
  rw [if_pos (by omega), dval_shift]
  have : E + ((dex q - E).toNat : Int) = dex q := by omega
  rw [this, dval_q h]
def rcmp (a b : Rat) : Int := if a < b then -1 else if b < a then 1 else 0
theorem icmp_dval (x y e : Int) : icmp x y = rcmp (dval x e) (dval y e) := by
  unfold icmp rcmp; simp only [dval_lt]
theorem nl_shf {z d : Int} {K : Nat} (h : nl (mg z) ≤ 100000) (h0 : 0 ≤ d) (h1 : d ≤ 2000000) : nl (mg (shf z d)) ≤ 162502 := by
  unfold shf
  rw [if_pos h0, mg_mul]
  have e : mg ((2 : Int) ^ d.toNat) = 2 ^ d.toNat := by unfold mg; rw [Int.natAbs_pow]; rfl
  rw [e]
  have := nl_shl (mg z) d.toNat
  omega
set_option maxRecDepth 100000 in
set_option maxHeartbeats 1000000 in
theorem dsign_c (aA : Option Addr) (ac : Nat) (a : Rat) (w : World) (ha : NatV w aA ac (mg (dmn a)))  :
    Calls Tryz.prog 28 #[.agg #[.bool (sg (dmn a)), .slice aA (nl (mg (dmn a))) ac, .int .i64 (dex a)]] w (fun e w' => e = .returned (.int .i64 (dmn a).sign) ∧ Below w.heap.size w w') := by
  have hb1 : Below (w).heap.size (w) (w.alloc (.cells #[.bool (sg (dmn a)), .slice aA (nl (mg (dmn a))) ac, .int .i64 (dex a)] 28)) := (Below.alloc (Below.refl _ _) (Nat.le_refl _) _)
  replace ha := ha.below hb1
  have HBT := hb1
  clear hb1
  have Ra : BoxA (w.alloc (.cells #[.bool (sg (dmn a)), .slice aA (nl (mg (dmn a))) ac, .int .i64 (dex a)] 28)) w.heap.size 28 #[.bool (sg (dmn a)), .slice aA (nl (mg (dmn a))) ac, .int .i64 (dex a)] := ⟨by repeat (first | exact at_new (by first | (simp; done) | (simp; omega)) | refine at_old (by first | (simp; done) | (simp; omega)) ?_)⟩
  have qa0 := Ra.c (i := 0) rfl
  have qa1 := Ra.c (i := 1) rfl
  have qa2 := Ra.c (i := 2) rfl
  go_enter Tryz.func28, Tryz.ntmps28
  go_wp2_with (fail)
  refine (Calls.mono (isign_c aA ac (dmn a) _) ?_)
  rintro e W2 ⟨rfl, hb2⟩
  replace ha := ha.below hb2
  replace Ra := Ra.below hb2
  replace qa0 := cell_below hb2 qa0
  replace qa1 := cell_below hb2 qa1
  replace qa2 := cell_below hb2 qa2
  replace HBT := Below.cons HBT hb2
  clear hb2
  go_wp2_with (fail)
  go_ret
  exact ⟨rfl, HBT⟩
set_option maxRecDepth 100000 in
set_option maxHeartbeats 1000000 in
theorem dneg_c (aA : Option Addr) (ac : Nat) (a : Rat) (w : World) (ha : NatV w aA ac (mg (dmn a))) (ok : DOk a) :
    Calls Tryz.prog 46 #[.agg #[.bool (sg (dmn a)), .slice aA (nl (mg (dmn a))) ac, .int .i64 (dex a)]] w (RetD w (-a)) := by
  have hl := ok.l
  obtain ⟨f1, f2⟩ := form_neg ok.d
  replace f1 := Lib.hid f1
  replace f2 := Lib.hid f2
  replace ok := Lib.hid ok
  have hb1 : Below (w).heap.size (w) ((w.alloc (.cells #[.bool (sg (dmn a)), .slice aA (nl (mg (dmn a))) ac, .int .i64 (dex a)] 28)).alloc (.cells #[.bool false, .slice none 0 0, .int .i64 0] 28)) := (Below.alloc (Below.alloc (Below.refl _ _) (Nat.le_refl _) _) (by simp <;> omega) _)
  replace ha := ha.below hb1
  have HBT := hb1
  clear hb1
  have Ra : BoxA ((w.alloc (.cells #[.bool (sg (dmn a)), .slice aA (nl (mg (dmn a))) ac, .int .i64 (dex a)] 28)).alloc (.cells #[.bool false, .slice none 0 0, .int .i64 0] 28)) w.heap.size 28 #[.bool (sg (dmn a)), .slice aA (nl (mg (dmn a))) ac, .int .i64 (dex a)] := ⟨by repeat (first | exact at_new (by first | (simp; done) | (simp; omega)) | refine at_old (by first | (simp; done) | (simp; omega)) ?_)⟩
  have qa0 := Ra.c (i := 0) rfl
  have qa1 := Ra.c (i := 1) rfl
  have qa2 := Ra.c (i := 2) rfl
  have Rr : BoxA ((w.alloc (.cells #[.bool (sg (dmn a)), .slice aA (nl (mg (dmn a))) ac, .int .i64 (dex a)] 28)).alloc (.cells #[.bool false, .slice none 0 0, .int .i64 0] 28)) (w.heap.size + 1) 28 #[.bool false, .slice none 0 0, .int .i64 0] := ⟨by repeat (first | exact at_new (by first | (simp; done) | (simp; omega)) | refine at_old (by first | (simp; done) | (simp; omega)) ?_)⟩
  have qr0 := Rr.c (i := 0) rfl
  have qr1 := Rr.c (i := 1) rfl
  have qr2 := Rr.c (i := 2) rfl
  go_enter Tryz.func46, Tryz.ntmps46
  go_wp2_with (fail)
  have hd2 : Below (((w.alloc (.cells #[.bool (sg (dmn a)), .slice aA (nl (mg (dmn a))) ac, .int .i64 (dex a)] 28)).alloc (.cells #[.bool false, .slice none 0 0, .int .i64 0] 28))).heap.size ((w.alloc (.cells #[.bool (sg (dmn a)), .slice aA (nl (mg (dmn a))) ac, .int .i64 (dex a)] 28)).alloc (.cells #[.bool false, .slice none 0 0, .int .i64 0] 28)) (((w.alloc (.cells #[.bool (sg (dmn a)), .slice aA (nl (mg (dmn a))) ac, .int .i64 (dex a)] 28)).alloc (.cells #[.bool false, .slice none 0 0, .int .i64 0] 28))).drew := (Below.refl _ _).drew
  replace ha := ha.below hd2
  replace Ra := Ra.below hd2
  replace qa0 := cell_below hd2 qa0
  replace qa1 := cell_below hd2 qa1
  replace qa2 := cell_below hd2 qa2
  replace Rr := Rr.below hd2
  replace qr0 := cell_below hd2 qr0
  replace qr1 := cell_below hd2 qr1
  replace qr2 := cell_below hd2 qr2
  replace HBT := Below.cons HBT hd2
  clear hd2
  obtain ⟨z, Ez⟩ : ∃ zq : Int, zq = -(dmn a) := ⟨_, rfl⟩
  have C2_0 := fun (W : World) (h1 : NatV W aA ac (mg (dmn a))) => ineg_c aA ac (dmn a) W h1 (by omega)
  simp only [← Ez] at C2_0
  replace Ez := Lib.hid Ez
  replace C2_0 := Lib.hid C2_0
  go_region_held3 (fun W => W.cell? ⟨w.heap.size, 0, none⟩ = some (.bool (sg (dmn a))) ∧ W.cell? ⟨w.heap.size, 1, none⟩ = some (.slice aA (nl (mg (dmn a))) ac) ∧ W.cell? ⟨w.heap.size, 2, none⟩ = some (.int .i64 (dex a)))
    (first
      | exact ⟨qa0, qa1, qa2⟩
      | exact ⟨qa0_3, qa1_3, qa2_3⟩
      | exact ⟨((Ra_3.other3 (by simp <;> omega)).c (i := 0) rfl), ((Ra_3.other3 (by simp <;> omega)).c (i := 1) rfl), ((Ra_3.other3 (by simp <;> omega)).c (i := 2) rfl)⟩
      | go_keep)
    (first
      | (go_at_call 88; (with_reducible refine (C2_0.out _ ha).mono ?_); rintro e W3 ⟨Xz, cz, rfl, hz, hb3⟩; have ha_3 := ha.below hb3; have Ra_3 := Ra.below hb3; have qa0_3 := cell_below hb3 qa0; have qa1_3 := cell_below hb3 qa1; have qa2_3 := cell_below hb3 qa2; have Rr_3 := Rr.below hb3; have qr0_3 := cell_below hb3 qr0; have qr1_3 := cell_below hb3 qr1; have qr2_3 := cell_below hb3 qr2; have HBT_3 := Below.cons HBT hb3; have fz0 := Rr_3.f (i := 0); have fz1 := Rr_3.f (i := 1); have fz2 := Rr_3.f (i := 2)))
  all_goals (try go_wp2_with (fail))
  have eqz : z = dmn (-a) := by rw [Ez.out, f1.out]
  have RS := Rr_3.store3 (.bool (sg z)) (.slice Xz (nl (mg z)) cz) (.int .i64 (dex a))
  have e0 := RS.c (i := 0) rfl
  have e1 := RS.c (i := 1) rfl
  have e2 := RS.c (i := 2) rfl
  refine bodyPost_ret (v := .agg #[.bool (sg z), .slice Xz (nl (mg z)) cz, .int .i64 (dex a)]) (by simp [results, Tryz.results46, go_sem, e0, e1, e2]) rfl ?_
  exact ⟨Xz, cz, (by rw [eqz, f2.out]), by rw [← eqz]; exact (Rr_3.keep3 (by intro u hu; simp at hu; rcases hu with rfl | rfl | rfl <;> first | exact notU_bool _ | exact notU_slice _ _ _ | exact notU_i64 _) hz), (Below.store3 HBT_3 (by first | exact Nat.le_refl _ | omega))⟩
set_option maxRecDepth 100000 in
set_option maxHeartbeats 1000000 in
theorem dscaled_c (aA : Option Addr) (ac : Nat) (a : Rat) (n : Int) (w : World) (ha : NatV w aA ac (mg (dmn a)))  (ok : DOk a) (hn : -1000000 ≤ n ∧ n ≤ 1000000) :
    Calls Tryz.prog 21 #[.agg #[.bool (sg (dmn a)), .slice aA (nl (mg (dmn a))) ac, .int .i64 (dex a)], .int .i64 n] w (RetI w (shf (dmn a) (dex a + n))) := by
  have hl := ok.l
  have he := ok.e
  obtain ⟨x, Ex⟩ : ∃ x, x = dex a + n := ⟨_, rfl⟩
  have Ix : dex a + n = x := Ex.symm
  rw [Ix]
  have hx : -16777216 ≤ x ∧ x ≤ 16777216 := by omega
  replace Ex := Lib.hid Ex
  replace ok := Lib.hid ok
  replace he := Lib.hid he
  have hb1 : Below (w).heap.size (w) ((w.alloc (.cells #[.bool (sg (dmn a)), .slice aA (nl (mg (dmn a))) ac, .int .i64 (dex a)] 28)).alloc (.cells #[.bool false, .slice none 0 0] 24)) := (Below.alloc (Below.alloc (Below.refl _ _) (Nat.le_refl _) _) (by simp <;> omega) _)
  replace ha := ha.below hb1
  have HBT := hb1
  clear hb1
  have Ra : BoxA ((w.alloc (.cells #[.bool (sg (dmn a)), .slice aA (nl (mg (dmn a))) ac, .int .i64 (dex a)] 28)).alloc (.cells #[.bool false, .slice none 0 0] 24)) w.heap.size 28 #[.bool (sg (dmn a)), .slice aA (nl (mg (dmn a))) ac, .int .i64 (dex a)] := ⟨by repeat (first | exact at_new (by first | (simp; done) | (simp; omega)) | refine at_old (by first | (simp; done) | (simp; omega)) ?_)⟩
  have qa0 := Ra.c (i := 0) rfl
  have qa1 := Ra.c (i := 1) rfl
  have qa2 := Ra.c (i := 2) rfl
  have Rr : BoxA ((w.alloc (.cells #[.bool (sg (dmn a)), .slice aA (nl (mg (dmn a))) ac, .int .i64 (dex a)] 28)).alloc (.cells #[.bool false, .slice none 0 0] 24)) (w.heap.size + 1) 24 #[.bool false, .slice none 0 0] := ⟨by repeat (first | exact at_new (by first | (simp; done) | (simp; omega)) | refine at_old (by first | (simp; done) | (simp; omega)) ?_)⟩
  have qr0 := Rr.c (i := 0) rfl
  have qr1 := Rr.c (i := 1) rfl
  go_enter Tryz.func21, Tryz.ntmps21
  go_wp2_with (fail)
  obtain ⟨z, Ez⟩ : ∃ zq : Int, zq = shf (dmn a) x := ⟨_, rfl⟩
  refine (Calls.mono (R := RetI ((w.alloc (.cells #[.bool (sg (dmn a)), .slice aA (nl (mg (dmn a))) ac, .int .i64 (dex a)] 28)).alloc (.cells #[.bool false, .slice none 0 0] 24)) z) (by rw [Ez]; with_reducible exact (ishift_c aA ac (dmn a) x _ ha (by omega) hx)) ?_)
  replace Ez := Lib.hid Ez
  rintro e W2 ⟨Xz, cz, rfl, hz, hb2⟩
  replace ha := ha.below hb2
  replace Ra := Ra.below hb2
  replace qa0 := cell_below hb2 qa0
  replace qa1 := cell_below hb2 qa1
  replace qa2 := cell_below hb2 qa2
  replace Rr := Rr.below hb2
  replace qr0 := cell_below hb2 qr0
  replace qr1 := cell_below hb2 qr1
  replace HBT := Below.cons HBT hb2
  clear hb2
  have fzr0 := Rr.f (i := 0)
  have fzr1 := Rr.f (i := 1)
  go_wp2_with (fail)
  have hzz : z = shf (dmn a) x := by exact Ez.out
  subst hzz
  have RS := Rr.store2 (.bool (sg ((shf (dmn a) x)))) (.slice Xz (nl (mg ((shf (dmn a) x)))) cz)
  have e0 := RS.c (i := 0) rfl
  have e1 := RS.c (i := 1) rfl
  refine bodyPost_ret (v := .agg #[.bool (sg ((shf (dmn a) x))), .slice Xz (nl (mg ((shf (dmn a) x)))) cz]) (by simp [results, Tryz.results21, go_sem, e0, e1]) rfl ?_
  exact ⟨Xz, cz, rfl, (Rr.keep2 (by intro u hu; simp at hu; rcases hu with rfl | rfl <;> first | exact notU_bool _ | exact notU_slice _ _ _ | exact notU_i64 _) hz), (Below.store2 HBT (by first | exact Nat.le_refl _ | omega))⟩
set_option maxRecDepth 100000 in
set_option maxHeartbeats 1000000 in
theorem dcmp1_c (aA : Option Addr) (ac : Nat) (a : Int) (bA : Option Addr) (bc : Nat) (b : Int) (n : Int) (w : World) (ha : NatV w aA ac (mg a)) (hb : NatV w bA bc (mg b))  (la : nl (mg a) ≤ 262144) (lb : nl (mg b) ≤ 262144) :
    Calls Tryz.prog 86 #[.agg #[.bool (sg a), .slice aA (nl (mg a)) ac], .agg #[.bool (sg b), .slice bA (nl (mg b)) bc], .int .i64 n] w (fun e w' => e = .returned (.int .i64 (icmp a b)) ∧ Below w.heap.size w w') := by
  have hb1 : Below (w).heap.size (w) ((w.alloc (.cells #[.bool (sg a), .slice aA (nl (mg a)) ac] 24)).alloc (.cells #[.bool (sg b), .slice bA (nl (mg b)) bc] 24)) := (Below.alloc (Below.alloc (Below.refl _ _) (Nat.le_refl _) _) (by simp <;> omega) _)
  replace ha := ha.below hb1
  replace hb := hb.below hb1
  have HBT := hb1
  clear hb1
  have Ra : BoxA ((w.alloc (.cells #[.bool (sg a), .slice aA (nl (mg a)) ac] 24)).alloc (.cells #[.bool (sg b), .slice bA (nl (mg b)) bc] 24)) w.heap.size 24 #[.bool (sg a), .slice aA (nl (mg a)) ac] := ⟨by repeat (first | exact at_new (by first | (simp; done) | (simp; omega)) | refine at_old (by first | (simp; done) | (simp; omega)) ?_)⟩
  have qa0 := Ra.c (i := 0) rfl
  have qa1 := Ra.c (i := 1) rfl
  have Rb : BoxA ((w.alloc (.cells #[.bool (sg a), .slice aA (nl (mg a)) ac] 24)).alloc (.cells #[.bool (sg b), .slice bA (nl (mg b)) bc] 24)) (w.heap.size + 1) 24 #[.bool (sg b), .slice bA (nl (mg b)) bc] := ⟨by repeat (first | exact at_new (by first | (simp; done) | (simp; omega)) | refine at_old (by first | (simp; done) | (simp; omega)) ?_)⟩
  have qb0 := Rb.c (i := 0) rfl
  have qb1 := Rb.c (i := 1) rfl
  go_enter Tryz.func86, Tryz.ntmps86
  go_wp2_with (fail)
  refine (Calls.mono (icmp_c aA ac a bA bc b _ ha hb (by omega) (by omega)) ?_)
  rintro e W2 ⟨rfl, hb2⟩
  replace ha := ha.below hb2
  replace hb := hb.below hb2
  replace Ra := Ra.below hb2
  replace qa0 := cell_below hb2 qa0
  replace qa1 := cell_below hb2 qa1
  replace Rb := Rb.below hb2
  replace qb0 := cell_below hb2 qb0
  replace qb1 := cell_below hb2 qb1
  replace HBT := Below.cons HBT hb2
  clear hb2
  go_wp2_with (fail)
  go_ret
  exact ⟨rfl, HBT⟩
set_option maxRecDepth 100000 in
set_option maxHeartbeats 1000000 in
theorem dadd1_c (aA : Option Addr) (ac : Nat) (a : Int) (bA : Option Addr) (bc : Nat) (b : Int) (n : Int) (w : World) (ha : NatV w aA ac (mg a)) (hb : NatV w bA bc (mg b))  (la : nl (mg a) ≤ 200000) (lb : nl (mg b) ≤ 200000) (hn : -1000000 ≤ n ∧ n ≤ 1000000) (hT : Tab w) :
    Calls Tryz.prog 90 #[.agg #[.bool (sg a), .slice aA (nl (mg a)) ac], .agg #[.bool (sg b), .slice bA (nl (mg b)) bc], .int .i64 n] w (RetD w (dval (a + b) n)) := by
  have hb1 : Below (w).heap.size (w) (((w.alloc (.cells #[.bool (sg a), .slice aA (nl (mg a)) ac] 24)).alloc (.cells #[.bool (sg b), .slice bA (nl (mg b)) bc] 24)).alloc (.cells #[.bool false, .slice none 0 0, .int .i64 0] 28)) := (Below.alloc (Below.alloc (Below.alloc (Below.refl _ _) (Nat.le_refl _) _) (by simp <;> omega) _) (by simp <;> omega) _)
  replace ha := ha.below hb1
  replace hb := hb.below hb1
  replace hT := hT.below hb1
  have HBT := hb1
  clear hb1
  have Ra : BoxA (((w.alloc (.cells #[.bool (sg a), .slice aA (nl (mg a)) ac] 24)).alloc (.cells #[.bool (sg b), .slice bA (nl (mg b)) bc] 24)).alloc (.cells #[.bool false, .slice none 0 0, .int .i64 0] 28)) w.heap.size 24 #[.bool (sg a), .slice aA (nl (mg a)) ac] := ⟨by repeat (first | exact at_new (by first | (simp; done) | (simp; omega)) | refine at_old (by first | (simp; done) | (simp; omega)) ?_)⟩
  have qa0 := Ra.c (i := 0) rfl
  have qa1 := Ra.c (i := 1) rfl
  have Rb : BoxA (((w.alloc (.cells #[.bool (sg a), .slice aA (nl (mg a)) ac] 24)).alloc (.cells #[.bool (sg b), .slice bA (nl (mg b)) bc] 24)).alloc (.cells #[.bool false, .slice none 0 0, .int .i64 0] 28)) (w.heap.size + 1) 24 #[.bool (sg b), .slice bA (nl (mg b)) bc] := ⟨by repeat (first | exact at_new (by first | (simp; done) | (simp; omega)) | refine at_old (by first | (simp; done) | (simp; omega)) ?_)⟩
  have qb0 := Rb.c (i := 0) rfl
  have qb1 := Rb.c (i := 1) rfl
  have Rr : BoxA (((w.alloc (.cells #[.bool (sg a), .slice aA (nl (mg a)) ac] 24)).alloc (.cells #[.bool (sg b), .slice bA (nl (mg b)) bc] 24)).alloc (.cells #[.bool false, .slice none 0 0, .int .i64 0] 28)) (w.heap.size + 1 + 1) 28 #[.bool false, .slice none 0 0, .int .i64 0] := ⟨by repeat (first | exact at_new (by first | (simp; done) | (simp; omega)) | refine at_old (by first | (simp; done) | (simp; omega)) ?_)⟩
  have qr0 := Rr.c (i := 0) rfl
  have qr1 := Rr.c (i := 1) rfl
  have qr2 := Rr.c (i := 2) rfl
  go_enter Tryz.func90, Tryz.ntmps90
  go_wp2_with (fail)
  obtain ⟨u, Eu⟩ : ∃ zq : Int, zq = a + b := ⟨_, rfl⟩
  have Nu : nl (mg u) ≤ 200001 := by rw [Eu]; have h1 := nl_add (mg a) (mg b); have h2 : nl (mg (a + b)) ≤ nl (mg a + mg b) := nl_mono (Int.natAbs_add_le a b); omega
  refine (Calls.mono (R := RetI (((w.alloc (.cells #[.bool (sg a), .slice aA (nl (mg a)) ac] 24)).alloc (.cells #[.bool (sg b), .slice bA (nl (mg b)) bc] 24)).alloc (.cells #[.bool false, .slice none 0 0, .int .i64 0] 28)) u) (by rw [Eu]; with_reducible exact (iadd_c aA ac a bA bc b _ ha hb (by omega) (by omega))) ?_)
  replace Eu := Lib.hid Eu
  rintro e W2 ⟨Xu, cu, rfl, hu, hb2⟩
  replace ha := ha.below hb2
  replace hb := hb.below hb2
  replace hT := hT.below hb2
  replace Ra := Ra.below hb2
  replace qa0 := cell_below hb2 qa0
  replace qa1 := cell_below hb2 qa1
  replace Rb := Rb.below hb2
  replace qb0 := cell_below hb2 qb0
  replace qb1 := cell_below hb2 qb1
  replace Rr := Rr.below hb2
  replace qr0 := cell_below hb2 qr0
  replace qr1 := cell_below hb2 qr1
  replace qr2 := cell_below hb2 qr2
  replace HBT := Below.cons HBT hb2
  clear hb2
  go_wp2_with (fail)
  obtain ⟨q, Eq⟩ : ∃ zq : Rat, zq = dval u n := ⟨_, rfl⟩
  refine (Calls.mono (R := RetD W2 q) (by rw [Eq]; with_reducible exact (dmake_c Xu cu u n _ hu hT (by omega) (by omega))) ?_)
  replace Eq := Lib.hid Eq
  rintro e W3 ⟨Xq, cq, rfl, hq, hb3⟩
  replace ha := ha.below hb3
  replace hb := hb.below hb3
  replace hT := hT.below hb3
  replace Ra := Ra.below hb3
  replace qa0 := cell_below hb3 qa0
  replace qa1 := cell_below hb3 qa1
  replace Rb := Rb.below hb3
  replace qb0 := cell_below hb3 qb0
  replace qb1 := cell_below hb3 qb1
  replace Rr := Rr.below hb3
  replace qr0 := cell_below hb3 qr0
  replace qr1 := cell_below hb3 qr1
  replace qr2 := cell_below hb3 qr2
  replace hu := hu.below hb3
  replace HBT := Below.cons HBT hb3
  clear hb3
  have fzr0 := Rr.f (i := 0)
  have fzr1 := Rr.f (i := 1)
  have fzr2 := Rr.f (i := 2)
  go_wp2_with (fail)
  have hzq : q = dval (a + b) n := by rw [Eq.out, Eu.out]
  subst hzq
  have RS := Rr.store3 (.bool (sg (dmn ((dval (a + b) n))))) (.slice Xq (nl (mg (dmn ((dval (a + b) n))))) cq) (.int .i64 (dex ((dval (a + b) n))))
  have e0 := RS.c (i := 0) rfl
  have e1 := RS.c (i := 1) rfl
  have e2 := RS.c (i := 2) rfl
  refine bodyPost_ret (v := .agg #[.bool (sg (dmn ((dval (a + b) n)))), .slice Xq (nl (mg (dmn ((dval (a + b) n))))) cq, .int .i64 (dex ((dval (a + b) n)))]) (by simp [results, Tryz.results90, go_sem, e0, e1, e2]) rfl ?_
  exact ⟨Xq, cq, rfl, (Rr.keep3 (by intro u hu; simp at hu; rcases hu with rfl | rfl | rfl <;> first | exact notU_bool _ | exact notU_slice _ _ _ | exact notU_i64 _) hq), (Below.store3 HBT (by first | exact Nat.le_refl _ | omega))⟩
set_option maxRecDepth 100000 in
set_option maxHeartbeats 1000000 in
theorem dlevcmp_c (aA : Option Addr) (ac : Nat) (a : Rat) (bA : Option Addr) (bc : Nat) (b : Rat) (w : World) (ha : NatV w aA ac (mg (dmn a))) (hb : NatV w bA bc (mg (dmn b))) (oa : DOk a) (ob : DOk b) :
    Calls Tryz.prog 85 #[.agg #[.bool (sg (dmn a)), .slice aA (nl (mg (dmn a))) ac, .int .i64 (dex a)], .agg #[.bool (sg (dmn b)), .slice bA (nl (mg (dmn b))) bc, .int .i64 (dex b)], .func (.func 86) #[] #[]] w (fun e w' => e = .returned (.int .i64 (rcmp a b)) ∧ Below w.heap.size w w') := by
  have ha1 := oa.l
  have hb1 := ob.l
  have ha2 := oa.e
  have hb2 := ob.e
  obtain ⟨E, EE⟩ : ∃ E, E = min (dex a) (dex b) := ⟨_, rfl⟩
  have IE : min (dex a) (dex b) = E := EE.symm
  have hEa : E ≤ dex a := by omega
  have hEb : E ≤ dex b := by omega
  have hE : -1000000 ≤ E ∧ E ≤ 1000000 := by omega
  have va := lev oa.d hEa
  have vb := lev ob.d hEb
  obtain ⟨da, Eda⟩ : ∃ d, d = dex a - E := ⟨_, rfl⟩
  have Ida : dex a - E = da := Eda.symm
  have Rda : 0 ≤ da ∧ da ≤ 2000000 := by omega
  have Wda : IntKind.i64.wrap da = da := IntWalk.i64_in _ (by omega)
  rw [Ida] at va
  obtain ⟨db, Edb⟩ : ∃ d, d = dex b - E := ⟨_, rfl⟩
  have Idb : dex b - E = db := Edb.symm
  have Rdb : 0 ≤ db ∧ db ≤ 2000000 := by omega
  have Wdb : IntKind.i64.wrap db = db := IntWalk.i64_in _ (by omega)
  rw [Idb] at vb
  replace EE := Lib.hid EE
  replace Eda := Lib.hid Eda
  replace Edb := Lib.hid Edb
  replace va := Lib.hid va
  replace vb := Lib.hid vb
  replace hEa := Lib.hid hEa
  replace hEb := Lib.hid hEb
  replace oa := Lib.hid oa
  replace ob := Lib.hid ob
  replace ha2 := Lib.hid ha2
  replace hb2 := Lib.hid hb2
  have hb1 : Below (w).heap.size (w) ((w.alloc (.cells #[.bool (sg (dmn a)), .slice aA (nl (mg (dmn a))) ac, .int .i64 (dex a)] 28)).alloc (.cells #[.bool (sg (dmn b)), .slice bA (nl (mg (dmn b))) bc, .int .i64 (dex b)] 28)) := (Below.alloc (Below.alloc (Below.refl _ _) (Nat.le_refl _) _) (by simp <;> omega) _)
  replace ha := ha.below hb1
  replace hb := hb.below hb1
  have HBT := hb1
  clear hb1
  have Ra : BoxA ((w.alloc (.cells #[.bool (sg (dmn a)), .slice aA (nl (mg (dmn a))) ac, .int .i64 (dex a)] 28)).alloc (.cells #[.bool (sg (dmn b)), .slice bA (nl (mg (dmn b))) bc, .int .i64 (dex b)] 28)) w.heap.size 28 #[.bool (sg (dmn a)), .slice aA (nl (mg (dmn a))) ac, .int .i64 (dex a)] := ⟨by repeat (first | exact at_new (by first | (simp; done) | (simp; omega)) | refine at_old (by first | (simp; done) | (simp; omega)) ?_)⟩
  have qa0 := Ra.c (i := 0) rfl
  have qa1 := Ra.c (i := 1) rfl
  have qa2 := Ra.c (i := 2) rfl
  have Rb : BoxA ((w.alloc (.cells #[.bool (sg (dmn a)), .slice aA (nl (mg (dmn a))) ac, .int .i64 (dex a)] 28)).alloc (.cells #[.bool (sg (dmn b)), .slice bA (nl (mg (dmn b))) bc, .int .i64 (dex b)] 28)) (w.heap.size + 1) 28 #[.bool (sg (dmn b)), .slice bA (nl (mg (dmn b))) bc, .int .i64 (dex b)] := ⟨by repeat (first | exact at_new (by first | (simp; done) | (simp; omega)) | refine at_old (by first | (simp; done) | (simp; omega)) ?_)⟩
  have qb0 := Rb.c (i := 0) rfl
  have qb1 := Rb.c (i := 1) rfl
  have qb2 := Rb.c (i := 2) rfl
  go_enter Tryz.func85, Tryz.ntmps85
  go_wp2_with (fail)
  have hd2 : Below (((w.alloc (.cells #[.bool (sg (dmn a)), .slice aA (nl (mg (dmn a))) ac, .int .i64 (dex a)] 28)).alloc (.cells #[.bool (sg (dmn b)), .slice bA (nl (mg (dmn b))) bc, .int .i64 (dex b)] 28))).heap.size ((w.alloc (.cells #[.bool (sg (dmn a)), .slice aA (nl (mg (dmn a))) ac, .int .i64 (dex a)] 28)).alloc (.cells #[.bool (sg (dmn b)), .slice bA (nl (mg (dmn b))) bc, .int .i64 (dex b)] 28)) (((w.alloc (.cells #[.bool (sg (dmn a)), .slice aA (nl (mg (dmn a))) ac, .int .i64 (dex a)] 28)).alloc (.cells #[.bool (sg (dmn b)), .slice bA (nl (mg (dmn b))) bc, .int .i64 (dex b)] 28))).drew := (Below.refl _ _).drew
  replace ha := ha.below hd2
  replace hb := hb.below hd2
  replace Ra := Ra.below hd2
  replace qa0 := cell_below hd2 qa0
  replace qa1 := cell_below hd2 qa1
  replace qa2 := cell_below hd2 qa2
  replace Rb := Rb.below hd2
  replace qb0 := cell_below hd2 qb0
  replace qb1 := cell_below hd2 qb1
  replace qb2 := cell_below hd2 qb2
  replace HBT := Below.cons HBT hd2
  clear hd2
  obtain ⟨x, Ex⟩ : ∃ zq : Int, zq = shf (dmn a) da := ⟨_, rfl⟩
  have Nx : nl (mg x) ≤ 162502 := by rw [Ex]; exact nl_shf (K := 0) (by omega) (by omega) (by omega)
  have C2_0 := fun (W : World) (h1 : NatV W aA ac (mg (dmn a))) => ishift_c aA ac (dmn a) da W h1 (by omega) (by omega)
  simp only [← Ex] at C2_0
  replace Ex := Lib.hid Ex
  replace C2_0 := Lib.hid C2_0
  obtain ⟨y, Ey⟩ : ∃ zq : Int, zq = shf (dmn b) db := ⟨_, rfl⟩
  have Ny : nl (mg y) ≤ 162502 := by rw [Ey]; exact nl_shf (K := 0) (by omega) (by omega) (by omega)
  have C2_1 := fun (W : World) (h1 : NatV W bA bc (mg (dmn b))) => ishift_c bA bc (dmn b) db W h1 (by omega) (by omega)
  simp only [← Ey] at C2_1
  replace Ey := Lib.hid Ey
  replace C2_1 := Lib.hid C2_1
  have C2_2 := fun (W : World) (A : Option Addr) (c : Nat) (B : Option Addr) (d : Nat) (h1 : NatV W A c (mg x)) (h2 : NatV W B d (mg y)) => dcmp1_c A c x B d y E W h1 h2 (by omega) (by omega)
  replace C2_2 := Lib.hid C2_2
  go_region_held3 (fun W => W.cell? ⟨w.heap.size, 0, none⟩ = some (.bool (sg (dmn a))) ∧ W.cell? ⟨w.heap.size, 1, none⟩ = some (.slice aA (nl (mg (dmn a))) ac) ∧ W.cell? ⟨w.heap.size, 2, none⟩ = some (.int .i64 (dex a)) ∧ W.cell? ⟨(w.heap.size + 1), 0, none⟩ = some (.bool (sg (dmn b))) ∧ W.cell? ⟨(w.heap.size + 1), 1, none⟩ = some (.slice bA (nl (mg (dmn b))) bc) ∧ W.cell? ⟨(w.heap.size + 1), 2, none⟩ = some (.int .i64 (dex b)))
    (first
      | exact ⟨qa0, qa1, qa2, qb0, qb1, qb2⟩
      | exact ⟨qa0_3, qa1_3, qa2_3, qb0_3, qb1_3, qb2_3⟩
      | exact ⟨qa0_4, qa1_4, qa2_4, qb0_4, qb1_4, qb2_4⟩
      | exact ⟨qa0_5, qa1_5, qa2_5, qb0_5, qb1_5, qb2_5⟩
      | go_keep)
    (first
      | (go_at_call 63; (with_reducible refine (C2_0.out _ ha).mono ?_); rintro e W3 ⟨Xx, cx, rfl, hx, hb3⟩; have ha_3 := ha.below hb3; have hb_3 := hb.below hb3; have Ra_3 := Ra.below hb3; have qa0_3 := cell_below hb3 qa0; have qa1_3 := cell_below hb3 qa1; have qa2_3 := cell_below hb3 qa2; have Rb_3 := Rb.below hb3; have qb0_3 := cell_below hb3 qb0; have qb1_3 := cell_below hb3 qb1; have qb2_3 := cell_below hb3 qb2; have HBT_3 := Below.cons HBT hb3)
      | (go_at_call 63; (with_reducible refine (C2_1.out _ hb_3).mono ?_); rintro e W4 ⟨Xy, cy, rfl, hy, hb4⟩; have ha_4 := ha_3.below hb4; have hb_4 := hb_3.below hb4; have Ra_4 := Ra_3.below hb4; have qa0_4 := cell_below hb4 qa0_3; have qa1_4 := cell_below hb4 qa1_3; have qa2_4 := cell_below hb4 qa2_3; have Rb_4 := Rb_3.below hb4; have qb0_4 := cell_below hb4 qb0_3; have qb1_4 := cell_below hb4 qb1_3; have qb2_4 := cell_below hb4 qb2_3; have hx_4 := hx.below hb4; have HBT_4 := Below.cons HBT_3 hb4)
      | (go_at_call 86; (with_reducible refine (C2_2.out _ _ _ _ _ hx_4 hy).mono ?_); rintro e W5 ⟨rfl, hb5⟩; have ha_5 := ha_4.below hb5; have hb_5 := hb_4.below hb5; have Ra_5 := Ra_4.below hb5; have qa0_5 := cell_below hb5 qa0_4; have qa1_5 := cell_below hb5 qa1_4; have qa2_5 := cell_below hb5 qa2_4; have Rb_5 := Rb_4.below hb5; have qb0_5 := cell_below hb5 qb0_4; have qb1_5 := cell_below hb5 qb1_4; have qb2_5 := cell_below hb5 qb2_4; have hx_5 := hx_4.below hb5; have hy_5 := hy.below hb5; have HBT_5 := Below.cons HBT_4 hb5))
  all_goals (try go_wp2_with (fail))
  go_ret
  exact ⟨ret_int (by rw [icmp_dval x y E, Ex.out, Ey.out, va.out, vb.out]), HBT_5⟩
set_option maxRecDepth 100000 in
set_option maxHeartbeats 1000000 in
theorem dlevadd_c (aA : Option Addr) (ac : Nat) (a : Rat) (bA : Option Addr) (bc : Nat) (b : Rat) (w : World) (ha : NatV w aA ac (mg (dmn a))) (hb : NatV w bA bc (mg (dmn b))) (oa : DOk a) (ob : DOk b) (hT : Tab w) :
    Calls Tryz.prog 89 #[.agg #[.bool (sg (dmn a)), .slice aA (nl (mg (dmn a))) ac, .int .i64 (dex a)], .agg #[.bool (sg (dmn b)), .slice bA (nl (mg (dmn b))) bc, .int .i64 (dex b)], .func (.func 90) #[] #[]] w (RetD w (a + b)) := by
  have ha1 := oa.l
  have hb1 := ob.l
  have ha2 := oa.e
  have hb2 := ob.e
  obtain ⟨E, EE⟩ : ∃ E, E = min (dex a) (dex b) := ⟨_, rfl⟩
  have IE : min (dex a) (dex b) = E := EE.symm
  have hEa : E ≤ dex a := by omega
  have hEb : E ≤ dex b := by omega
  have hE : -1000000 ≤ E ∧ E ≤ 1000000 := by omega
  have va := lev oa.d hEa
  have vb := lev ob.d hEb
  obtain ⟨da, Eda⟩ : ∃ d, d = dex a - E := ⟨_, rfl⟩
  have Ida : dex a - E = da := Eda.symm
  have Rda : 0 ≤ da ∧ da ≤ 2000000 := by omega
  have Wda : IntKind.i64.wrap da = da := IntWalk.i64_in _ (by omega)
  rw [Ida] at va
  obtain ⟨db, Edb⟩ : ∃ d, d = dex b - E := ⟨_, rfl⟩
  have Idb : dex b - E = db := Edb.symm
  have Rdb : 0 ≤ db ∧ db ≤ 2000000 := by omega
  have Wdb : IntKind.i64.wrap db = db := IntWalk.i64_in _ (by omega)
  rw [Idb] at vb
  replace EE := Lib.hid EE
  replace Eda := Lib.hid Eda
  replace Edb := Lib.hid Edb
  replace va := Lib.hid va
  replace vb := Lib.hid vb
  replace hEa := Lib.hid hEa
  replace hEb := Lib.hid hEb
  replace oa := Lib.hid oa
  replace ob := Lib.hid ob
  replace ha2 := Lib.hid ha2
  replace hb2 := Lib.hid hb2
  have hb1 : Below (w).heap.size (w) (((w.alloc (.cells #[.bool (sg (dmn a)), .slice aA (nl (mg (dmn a))) ac, .int .i64 (dex a)] 28)).alloc (.cells #[.bool (sg (dmn b)), .slice bA (nl (mg (dmn b))) bc, .int .i64 (dex b)] 28)).alloc (.cells #[.bool false, .slice none 0 0, .int .i64 0] 28)) := (Below.alloc (Below.alloc (Below.alloc (Below.refl _ _) (Nat.le_refl _) _) (by simp <;> omega) _) (by simp <;> omega) _)
  replace ha := ha.below hb1
  replace hb := hb.below hb1
  replace hT := hT.below hb1
  have HBT := hb1
  clear hb1
  have Ra : BoxA (((w.alloc (.cells #[.bool (sg (dmn a)), .slice aA (nl (mg (dmn a))) ac, .int .i64 (dex a)] 28)).alloc (.cells #[.bool (sg (dmn b)), .slice bA (nl (mg (dmn b))) bc, .int .i64 (dex b)] 28)).alloc (.cells #[.bool false, .slice none 0 0, .int .i64 0] 28)) w.heap.size 28 #[.bool (sg (dmn a)), .slice aA (nl (mg (dmn a))) ac, .int .i64 (dex a)] := ⟨by repeat (first | exact at_new (by first | (simp; done) | (simp; omega)) | refine at_old (by first | (simp; done) | (simp; omega)) ?_)⟩
  have qa0 := Ra.c (i := 0) rfl
  have qa1 := Ra.c (i := 1) rfl
  have qa2 := Ra.c (i := 2) rfl
  have Rb : BoxA (((w.alloc (.cells #[.bool (sg (dmn a)), .slice aA (nl (mg (dmn a))) ac, .int .i64 (dex a)] 28)).alloc (.cells #[.bool (sg (dmn b)), .slice bA (nl (mg (dmn b))) bc, .int .i64 (dex b)] 28)).alloc (.cells #[.bool false, .slice none 0 0, .int .i64 0] 28)) (w.heap.size + 1) 28 #[.bool (sg (dmn b)), .slice bA (nl (mg (dmn b))) bc, .int .i64 (dex b)] := ⟨by repeat (first | exact at_new (by first | (simp; done) | (simp; omega)) | refine at_old (by first | (simp; done) | (simp; omega)) ?_)⟩
  have qb0 := Rb.c (i := 0) rfl
  have qb1 := Rb.c (i := 1) rfl
  have qb2 := Rb.c (i := 2) rfl
  have Rr : BoxA (((w.alloc (.cells #[.bool (sg (dmn a)), .slice aA (nl (mg (dmn a))) ac, .int .i64 (dex a)] 28)).alloc (.cells #[.bool (sg (dmn b)), .slice bA (nl (mg (dmn b))) bc, .int .i64 (dex b)] 28)).alloc (.cells #[.bool false, .slice none 0 0, .int .i64 0] 28)) (w.heap.size + 1 + 1) 28 #[.bool false, .slice none 0 0, .int .i64 0] := ⟨by repeat (first | exact at_new (by first | (simp; done) | (simp; omega)) | refine at_old (by first | (simp; done) | (simp; omega)) ?_)⟩
  have qr0 := Rr.c (i := 0) rfl
  have qr1 := Rr.c (i := 1) rfl
  have qr2 := Rr.c (i := 2) rfl
  go_enter Tryz.func89, Tryz.ntmps89
  go_wp2_with (fail)
  have hd2 : Below ((((w.alloc (.cells #[.bool (sg (dmn a)), .slice aA (nl (mg (dmn a))) ac, .int .i64 (dex a)] 28)).alloc (.cells #[.bool (sg (dmn b)), .slice bA (nl (mg (dmn b))) bc, .int .i64 (dex b)] 28)).alloc (.cells #[.bool false, .slice none 0 0, .int .i64 0] 28))).heap.size (((w.alloc (.cells #[.bool (sg (dmn a)), .slice aA (nl (mg (dmn a))) ac, .int .i64 (dex a)] 28)).alloc (.cells #[.bool (sg (dmn b)), .slice bA (nl (mg (dmn b))) bc, .int .i64 (dex b)] 28)).alloc (.cells #[.bool false, .slice none 0 0, .int .i64 0] 28)) ((((w.alloc (.cells #[.bool (sg (dmn a)), .slice aA (nl (mg (dmn a))) ac, .int .i64 (dex a)] 28)).alloc (.cells #[.bool (sg (dmn b)), .slice bA (nl (mg (dmn b))) bc, .int .i64 (dex b)] 28)).alloc (.cells #[.bool false, .slice none 0 0, .int .i64 0] 28))).drew := (Below.refl _ _).drew
  replace ha := ha.below hd2
  replace hb := hb.below hd2
  replace hT := hT.below hd2
  replace Ra := Ra.below hd2
  replace qa0 := cell_below hd2 qa0
  replace qa1 := cell_below hd2 qa1
  replace qa2 := cell_below hd2 qa2
  replace Rb := Rb.below hd2
  replace qb0 := cell_below hd2 qb0
  replace qb1 := cell_below hd2 qb1
  replace qb2 := cell_below hd2 qb2
  replace Rr := Rr.below hd2
  replace qr0 := cell_below hd2 qr0
  replace qr1 := cell_below hd2 qr1
  replace qr2 := cell_below hd2 qr2
  replace HBT := Below.cons HBT hd2
  clear hd2
  obtain ⟨x, Ex⟩ : ∃ zq : Int, zq = shf (dmn a) da := ⟨_, rfl⟩
  have Nx : nl (mg x) ≤ 162502 := by rw [Ex]; exact nl_shf (K := 0) (by omega) (by omega) (by omega)
  have C2_0 := fun (W : World) (h1 : NatV W aA ac (mg (dmn a))) => ishift_c aA ac (dmn a) da W h1 (by omega) (by omega)
  simp only [← Ex] at C2_0
  replace Ex := Lib.hid Ex
  replace C2_0 := Lib.hid C2_0
  obtain ⟨y, Ey⟩ : ∃ zq : Int, zq = shf (dmn b) db := ⟨_, rfl⟩
  have Ny : nl (mg y) ≤ 162502 := by rw [Ey]; exact nl_shf (K := 0) (by omega) (by omega) (by omega)
  have C2_1 := fun (W : World) (h1 : NatV W bA bc (mg (dmn b))) => ishift_c bA bc (dmn b) db W h1 (by omega) (by omega)
  simp only [← Ey] at C2_1
  replace Ey := Lib.hid Ey
  replace C2_1 := Lib.hid C2_1
  obtain ⟨q, Eq⟩ : ∃ zq : Rat, zq = dval (x + y) E := ⟨_, rfl⟩
  have C2_2 := fun (W : World) (A : Option Addr) (c : Nat) (B : Option Addr) (d : Nat) (h1 : NatV W A c (mg x)) (h2 : NatV W B d (mg y)) (h3 : Tab W) => dadd1_c A c x B d y E W h1 h2 (by omega) (by omega) hE h3
  simp only [← Eq] at C2_2
  replace Eq := Lib.hid Eq
  replace C2_2 := Lib.hid C2_2
  go_region_held3 (fun W => W.cell? ⟨w.heap.size, 0, none⟩ = some (.bool (sg (dmn a))) ∧ W.cell? ⟨w.heap.size, 1, none⟩ = some (.slice aA (nl (mg (dmn a))) ac) ∧ W.cell? ⟨w.heap.size, 2, none⟩ = some (.int .i64 (dex a)) ∧ W.cell? ⟨(w.heap.size + 1), 0, none⟩ = some (.bool (sg (dmn b))) ∧ W.cell? ⟨(w.heap.size + 1), 1, none⟩ = some (.slice bA (nl (mg (dmn b))) bc) ∧ W.cell? ⟨(w.heap.size + 1), 2, none⟩ = some (.int .i64 (dex b)))
    (first
      | exact ⟨qa0, qa1, qa2, qb0, qb1, qb2⟩
      | exact ⟨qa0_3, qa1_3, qa2_3, qb0_3, qb1_3, qb2_3⟩
      | exact ⟨qa0_4, qa1_4, qa2_4, qb0_4, qb1_4, qb2_4⟩
      | exact ⟨qa0_5, qa1_5, qa2_5, qb0_5, qb1_5, qb2_5⟩
      | exact ⟨((Ra_5.other3 (by simp <;> omega)).c (i := 0) rfl), ((Ra_5.other3 (by simp <;> omega)).c (i := 1) rfl), ((Ra_5.other3 (by simp <;> omega)).c (i := 2) rfl), ((Rb_5.other3 (by simp <;> omega)).c (i := 0) rfl), ((Rb_5.other3 (by simp <;> omega)).c (i := 1) rfl), ((Rb_5.other3 (by simp <;> omega)).c (i := 2) rfl)⟩
      | go_keep)
    (first
      | (go_at_call 63; (with_reducible refine (C2_0.out _ ha).mono ?_); rintro e W3 ⟨Xx, cx, rfl, hx, hb3⟩; have ha_3 := ha.below hb3; have hb_3 := hb.below hb3; have hT_3 := hT.below hb3; have Ra_3 := Ra.below hb3; have qa0_3 := cell_below hb3 qa0; have qa1_3 := cell_below hb3 qa1; have qa2_3 := cell_below hb3 qa2; have Rb_3 := Rb.below hb3; have qb0_3 := cell_below hb3 qb0; have qb1_3 := cell_below hb3 qb1; have qb2_3 := cell_below hb3 qb2; have Rr_3 := Rr.below hb3; have qr0_3 := cell_below hb3 qr0; have qr1_3 := cell_below hb3 qr1; have qr2_3 := cell_below hb3 qr2; have HBT_3 := Below.cons HBT hb3)
      | (go_at_call 63; (with_reducible refine (C2_1.out _ hb_3).mono ?_); rintro e W4 ⟨Xy, cy, rfl, hy, hb4⟩; have ha_4 := ha_3.below hb4; have hb_4 := hb_3.below hb4; have hT_4 := hT_3.below hb4; have Ra_4 := Ra_3.below hb4; have qa0_4 := cell_below hb4 qa0_3; have qa1_4 := cell_below hb4 qa1_3; have qa2_4 := cell_below hb4 qa2_3; have Rb_4 := Rb_3.below hb4; have qb0_4 := cell_below hb4 qb0_3; have qb1_4 := cell_below hb4 qb1_3; have qb2_4 := cell_below hb4 qb2_3; have Rr_4 := Rr_3.below hb4; have qr0_4 := cell_below hb4 qr0_3; have qr1_4 := cell_below hb4 qr1_3; have qr2_4 := cell_below hb4 qr2_3; have hx_4 := hx.below hb4; have HBT_4 := Below.cons HBT_3 hb4)
      | (go_at_call 90; (with_reducible refine (C2_2.out _ _ _ _ _ hx_4 hy hT_4).mono ?_); rintro e W5 ⟨Xq, cq, rfl, hq, hb5⟩; have ha_5 := ha_4.below hb5; have hb_5 := hb_4.below hb5; have hT_5 := hT_4.below hb5; have Ra_5 := Ra_4.below hb5; have qa0_5 := cell_below hb5 qa0_4; have qa1_5 := cell_below hb5 qa1_4; have qa2_5 := cell_below hb5 qa2_4; have Rb_5 := Rb_4.below hb5; have qb0_5 := cell_below hb5 qb0_4; have qb1_5 := cell_below hb5 qb1_4; have qb2_5 := cell_below hb5 qb2_4; have Rr_5 := Rr_4.below hb5; have qr0_5 := cell_below hb5 qr0_4; have qr1_5 := cell_below hb5 qr1_4; have qr2_5 := cell_below hb5 qr2_4; have hx_5 := hx_4.below hb5; have hy_5 := hy.below hb5; have HBT_5 := Below.cons HBT_4 hb5; have fz0 := Rr_5.f (i := 0); have fz1 := Rr_5.f (i := 1); have fz2 := Rr_5.f (i := 2)))
  all_goals (try go_wp2_with (fail))
  have hzq : q = a + b := by rw [Eq.out, dval_add, Ex.out, Ey.out, va.out, vb.out]
  subst hzq
  have RS := Rr_5.store3 (.bool (sg (dmn ((a + b))))) (.slice Xq (nl (mg (dmn ((a + b))))) cq) (.int .i64 (dex ((a + b))))
  have e0 := RS.c (i := 0) rfl
  have e1 := RS.c (i := 1) rfl
  have e2 := RS.c (i := 2) rfl
  refine bodyPost_ret (v := .agg #[.bool (sg (dmn ((a + b)))), .slice Xq (nl (mg (dmn ((a + b))))) cq, .int .i64 (dex ((a + b)))]) (by simp [results, Tryz.results89, go_sem, e0, e1, e2]) rfl ?_
  exact ⟨Xq, cq, rfl, (Rr_5.keep3 (by intro u hu; simp at hu; rcases hu with rfl | rfl | rfl <;> first | exact notU_bool _ | exact notU_slice _ _ _ | exact notU_i64 _) hq), (Below.store3 HBT_5 (by first | exact Nat.le_refl _ | omega))⟩
set_option maxRecDepth 100000 in
set_option maxHeartbeats 1000000 in
theorem dcmp_c (aA : Option Addr) (ac : Nat) (a : Rat) (bA : Option Addr) (bc : Nat) (b : Rat) (w : World) (ha : NatV w aA ac (mg (dmn a))) (hb : NatV w bA bc (mg (dmn b))) (oa : DOk a) (ob : DOk b) :
    Calls Tryz.prog 41 #[.agg #[.bool (sg (dmn a)), .slice aA (nl (mg (dmn a))) ac, .int .i64 (dex a)], .agg #[.bool (sg (dmn b)), .slice bA (nl (mg (dmn b))) bc, .int .i64 (dex b)]] w (fun e w' => e = .returned (.int .i64 (rcmp a b)) ∧ Below w.heap.size w w') := by
  have hb1 : Below (w).heap.size (w) ((w.alloc (.cells #[.bool (sg (dmn a)), .slice aA (nl (mg (dmn a))) ac, .int .i64 (dex a)] 28)).alloc (.cells #[.bool (sg (dmn b)), .slice bA (nl (mg (dmn b))) bc, .int .i64 (dex b)] 28)) := (Below.alloc (Below.alloc (Below.refl _ _) (Nat.le_refl _) _) (by simp <;> omega) _)
  replace ha := ha.below hb1
  replace hb := hb.below hb1
  have HBT := hb1
  clear hb1
  have Ra : BoxA ((w.alloc (.cells #[.bool (sg (dmn a)), .slice aA (nl (mg (dmn a))) ac, .int .i64 (dex a)] 28)).alloc (.cells #[.bool (sg (dmn b)), .slice bA (nl (mg (dmn b))) bc, .int .i64 (dex b)] 28)) w.heap.size 28 #[.bool (sg (dmn a)), .slice aA (nl (mg (dmn a))) ac, .int .i64 (dex a)] := ⟨by repeat (first | exact at_new (by first | (simp; done) | (simp; omega)) | refine at_old (by first | (simp; done) | (simp; omega)) ?_)⟩
  have qa0 := Ra.c (i := 0) rfl
  have qa1 := Ra.c (i := 1) rfl
  have qa2 := Ra.c (i := 2) rfl
  have Rb : BoxA ((w.alloc (.cells #[.bool (sg (dmn a)), .slice aA (nl (mg (dmn a))) ac, .int .i64 (dex a)] 28)).alloc (.cells #[.bool (sg (dmn b)), .slice bA (nl (mg (dmn b))) bc, .int .i64 (dex b)] 28)) (w.heap.size + 1) 28 #[.bool (sg (dmn b)), .slice bA (nl (mg (dmn b))) bc, .int .i64 (dex b)] := ⟨by repeat (first | exact at_new (by first | (simp; done) | (simp; omega)) | refine at_old (by first | (simp; done) | (simp; omega)) ?_)⟩
  have qb0 := Rb.c (i := 0) rfl
  have qb1 := Rb.c (i := 1) rfl
  have qb2 := Rb.c (i := 2) rfl
  replace oa := Lib.hid oa
  replace ob := Lib.hid ob
  go_enter Tryz.func41, Tryz.ntmps41
  go_wp2_with (fail)
  refine (Calls.mono (dlevcmp_c aA ac a bA bc b _ ha hb oa.out ob.out) ?_)
  rintro e W2 ⟨rfl, hb2⟩
  replace ha := ha.below hb2
  replace hb := hb.below hb2
  replace Ra := Ra.below hb2
  replace qa0 := cell_below hb2 qa0
  replace qa1 := cell_below hb2 qa1
  replace qa2 := cell_below hb2 qa2
  replace Rb := Rb.below hb2
  replace qb0 := cell_below hb2 qb0
  replace qb1 := cell_below hb2 qb1
  replace qb2 := cell_below hb2 qb2
  replace HBT := Below.cons HBT hb2
  clear hb2
  go_wp2_with (fail)
  go_ret
  exact ⟨rfl, HBT⟩
set_option maxRecDepth 100000 in
set_option maxHeartbeats 1000000 in
theorem dadd_c (aA : Option Addr) (ac : Nat) (a : Rat) (bA : Option Addr) (bc : Nat) (b : Rat) (w : World) (ha : NatV w aA ac (mg (dmn a))) (hb : NatV w bA bc (mg (dmn b))) (oa : DOk a) (ob : DOk b) (hT : Tab w) :
    Calls Tryz.prog 48 #[.agg #[.bool (sg (dmn a)), .slice aA (nl (mg (dmn a))) ac, .int .i64 (dex a)], .agg #[.bool (sg (dmn b)), .slice bA (nl (mg (dmn b))) bc, .int .i64 (dex b)]] w (RetD w (a + b)) := by
  have hb1 : Below (w).heap.size (w) (((w.alloc (.cells #[.bool (sg (dmn a)), .slice aA (nl (mg (dmn a))) ac, .int .i64 (dex a)] 28)).alloc (.cells #[.bool (sg (dmn b)), .slice bA (nl (mg (dmn b))) bc, .int .i64 (dex b)] 28)).alloc (.cells #[.bool false, .slice none 0 0, .int .i64 0] 28)) := (Below.alloc (Below.alloc (Below.alloc (Below.refl _ _) (Nat.le_refl _) _) (by simp <;> omega) _) (by simp <;> omega) _)
  replace ha := ha.below hb1
  replace hb := hb.below hb1
  replace hT := hT.below hb1
  have HBT := hb1
  clear hb1
  have Ra : BoxA (((w.alloc (.cells #[.bool (sg (dmn a)), .slice aA (nl (mg (dmn a))) ac, .int .i64 (dex a)] 28)).alloc (.cells #[.bool (sg (dmn b)), .slice bA (nl (mg (dmn b))) bc, .int .i64 (dex b)] 28)).alloc (.cells #[.bool false, .slice none 0 0, .int .i64 0] 28)) w.heap.size 28 #[.bool (sg (dmn a)), .slice aA (nl (mg (dmn a))) ac, .int .i64 (dex a)] := ⟨by repeat (first | exact at_new (by first | (simp; done) | (simp; omega)) | refine at_old (by first | (simp; done) | (simp; omega)) ?_)⟩
  have qa0 := Ra.c (i := 0) rfl
  have qa1 := Ra.c (i := 1) rfl
  have qa2 := Ra.c (i := 2) rfl
  have Rb : BoxA (((w.alloc (.cells #[.bool (sg (dmn a)), .slice aA (nl (mg (dmn a))) ac, .int .i64 (dex a)] 28)).alloc (.cells #[.bool (sg (dmn b)), .slice bA (nl (mg (dmn b))) bc, .int .i64 (dex b)] 28)).alloc (.cells #[.bool false, .slice none 0 0, .int .i64 0] 28)) (w.heap.size + 1) 28 #[.bool (sg (dmn b)), .slice bA (nl (mg (dmn b))) bc, .int .i64 (dex b)] := ⟨by repeat (first | exact at_new (by first | (simp; done) | (simp; omega)) | refine at_old (by first | (simp; done) | (simp; omega)) ?_)⟩
  have qb0 := Rb.c (i := 0) rfl
  have qb1 := Rb.c (i := 1) rfl
  have qb2 := Rb.c (i := 2) rfl
  have Rr : BoxA (((w.alloc (.cells #[.bool (sg (dmn a)), .slice aA (nl (mg (dmn a))) ac, .int .i64 (dex a)] 28)).alloc (.cells #[.bool (sg (dmn b)), .slice bA (nl (mg (dmn b))) bc, .int .i64 (dex b)] 28)).alloc (.cells #[.bool false, .slice none 0 0, .int .i64 0] 28)) (w.heap.size + 1 + 1) 28 #[.bool false, .slice none 0 0, .int .i64 0] := ⟨by repeat (first | exact at_new (by first | (simp; done) | (simp; omega)) | refine at_old (by first | (simp; done) | (simp; omega)) ?_)⟩
  have qr0 := Rr.c (i := 0) rfl
  have qr1 := Rr.c (i := 1) rfl
  have qr2 := Rr.c (i := 2) rfl
  replace oa := Lib.hid oa
  replace ob := Lib.hid ob
  go_enter Tryz.func48, Tryz.ntmps48
  go_wp2_with (fail)
  obtain ⟨q, Eq⟩ : ∃ zq : Rat, zq = a + b := ⟨_, rfl⟩
  refine (Calls.mono (R := RetD (((w.alloc (.cells #[.bool (sg (dmn a)), .slice aA (nl (mg (dmn a))) ac, .int .i64 (dex a)] 28)).alloc (.cells #[.bool (sg (dmn b)), .slice bA (nl (mg (dmn b))) bc, .int .i64 (dex b)] 28)).alloc (.cells #[.bool false, .slice none 0 0, .int .i64 0] 28)) q) (by rw [Eq]; with_reducible exact (dlevadd_c aA ac a bA bc b _ ha hb oa.out ob.out hT)) ?_)
  replace Eq := Lib.hid Eq
  rintro e W2 ⟨Xq, cq, rfl, hq, hb2⟩
  replace ha := ha.below hb2
  replace hb := hb.below hb2
  replace hT := hT.below hb2
  replace Ra := Ra.below hb2
  replace qa0 := cell_below hb2 qa0
  replace qa1 := cell_below hb2 qa1
  replace qa2 := cell_below hb2 qa2
  replace Rb := Rb.below hb2
  replace qb0 := cell_below hb2 qb0
  replace qb1 := cell_below hb2 qb1
  replace qb2 := cell_below hb2 qb2
  replace Rr := Rr.below hb2
  replace qr0 := cell_below hb2 qr0
  replace qr1 := cell_below hb2 qr1
  replace qr2 := cell_below hb2 qr2
  replace HBT := Below.cons HBT hb2
  clear hb2
  have fzr0 := Rr.f (i := 0)
  have fzr1 := Rr.f (i := 1)
  have fzr2 := Rr.f (i := 2)
  go_wp2_with (fail)
  have hzq : q = a + b := by exact Eq.out
  subst hzq
  have RS := Rr.store3 (.bool (sg (dmn ((a + b))))) (.slice Xq (nl (mg (dmn ((a + b))))) cq) (.int .i64 (dex ((a + b))))
  have e0 := RS.c (i := 0) rfl
  have e1 := RS.c (i := 1) rfl
  have e2 := RS.c (i := 2) rfl
  refine bodyPost_ret (v := .agg #[.bool (sg (dmn ((a + b)))), .slice Xq (nl (mg (dmn ((a + b))))) cq, .int .i64 (dex ((a + b)))]) (by simp [results, Tryz.results48, go_sem, e0, e1, e2]) rfl ?_
  exact ⟨Xq, cq, rfl, (Rr.keep3 (by intro u hu; simp at hu; rcases hu with rfl | rfl | rfl <;> first | exact notU_bool _ | exact notU_slice _ _ _ | exact notU_i64 _) hq), (Below.store3 HBT (by first | exact Nat.le_refl _ | omega))⟩
set_option maxRecDepth 100000 in
set_option maxHeartbeats 1000000 in
theorem dsub_c (aA : Option Addr) (ac : Nat) (a : Rat) (bA : Option Addr) (bc : Nat) (b : Rat) (w : World) (ha : NatV w aA ac (mg (dmn a))) (hb : NatV w bA bc (mg (dmn b))) (oa : DOk a) (ob : DOk b) (hT : Tab w) :
    Calls Tryz.prog 42 #[.agg #[.bool (sg (dmn a)), .slice aA (nl (mg (dmn a))) ac, .int .i64 (dex a)], .agg #[.bool (sg (dmn b)), .slice bA (nl (mg (dmn b))) bc, .int .i64 (dex b)]] w (RetD w (a - b)) := by
  have hb1 : Below (w).heap.size (w) (((w.alloc (.cells #[.bool (sg (dmn a)), .slice aA (nl (mg (dmn a))) ac, .int .i64 (dex a)] 28)).alloc (.cells #[.bool (sg (dmn b)), .slice bA (nl (mg (dmn b))) bc, .int .i64 (dex b)] 28)).alloc (.cells #[.bool false, .slice none 0 0, .int .i64 0] 28)) := (Below.alloc (Below.alloc (Below.alloc (Below.refl _ _) (Nat.le_refl _) _) (by simp <;> omega) _) (by simp <;> omega) _)
  replace ha := ha.below hb1
  replace hb := hb.below hb1
  replace hT := hT.below hb1
  have HBT := hb1
  clear hb1
  have Ra : BoxA (((w.alloc (.cells #[.bool (sg (dmn a)), .slice aA (nl (mg (dmn a))) ac, .int .i64 (dex a)] 28)).alloc (.cells #[.bool (sg (dmn b)), .slice bA (nl (mg (dmn b))) bc, .int .i64 (dex b)] 28)).alloc (.cells #[.bool false, .slice none 0 0, .int .i64 0] 28)) w.heap.size 28 #[.bool (sg (dmn a)), .slice aA (nl (mg (dmn a))) ac, .int .i64 (dex a)] := ⟨by repeat (first | exact at_new (by first | (simp; done) | (simp; omega)) | refine at_old (by first | (simp; done) | (simp; omega)) ?_)⟩
  have qa0 := Ra.c (i := 0) rfl
  have qa1 := Ra.c (i := 1) rfl
  have qa2 := Ra.c (i := 2) rfl
  have Rb : BoxA (((w.alloc (.cells #[.bool (sg (dmn a)), .slice aA (nl (mg (dmn a))) ac, .int .i64 (dex a)] 28)).alloc (.cells #[.bool (sg (dmn b)), .slice bA (nl (mg (dmn b))) bc, .int .i64 (dex b)] 28)).alloc (.cells #[.bool false, .slice none 0 0, .int .i64 0] 28)) (w.heap.size + 1) 28 #[.bool (sg (dmn b)), .slice bA (nl (mg (dmn b))) bc, .int .i64 (dex b)] := ⟨by repeat (first | exact at_new (by first | (simp; done) | (simp; omega)) | refine at_old (by first | (simp; done) | (simp; omega)) ?_)⟩
  have qb0 := Rb.c (i := 0) rfl
  have qb1 := Rb.c (i := 1) rfl
  have qb2 := Rb.c (i := 2) rfl
  have Rr : BoxA (((w.alloc (.cells #[.bool (sg (dmn a)), .slice aA (nl (mg (dmn a))) ac, .int .i64 (dex a)] 28)).alloc (.cells #[.bool (sg (dmn b)), .slice bA (nl (mg (dmn b))) bc, .int .i64 (dex b)] 28)).alloc (.cells #[.bool false, .slice none 0 0, .int .i64 0] 28)) (w.heap.size + 1 + 1) 28 #[.bool false, .slice none 0 0, .int .i64 0] := ⟨by repeat (first | exact at_new (by first | (simp; done) | (simp; omega)) | refine at_old (by first | (simp; done) | (simp; omega)) ?_)⟩
  have qr0 := Rr.c (i := 0) rfl
  have qr1 := Rr.c (i := 1) rfl
  have qr2 := Rr.c (i := 2) rfl
  have on := dok_neg ob
  replace oa := Lib.hid oa
  replace ob := Lib.hid ob
  replace on := Lib.hid on
  go_enter Tryz.func42, Tryz.ntmps42
  go_wp2_with (fail)
  have hd2 : Below ((((w.alloc (.cells #[.bool (sg (dmn a)), .slice aA (nl (mg (dmn a))) ac, .int .i64 (dex a)] 28)).alloc (.cells #[.bool (sg (dmn b)), .slice bA (nl (mg (dmn b))) bc, .int .i64 (dex b)] 28)).alloc (.cells #[.bool false, .slice none 0 0, .int .i64 0] 28))).heap.size (((w.alloc (.cells #[.bool (sg (dmn a)), .slice aA (nl (mg (dmn a))) ac, .int .i64 (dex a)] 28)).alloc (.cells #[.bool (sg (dmn b)), .slice bA (nl (mg (dmn b))) bc, .int .i64 (dex b)] 28)).alloc (.cells #[.bool false, .slice none 0 0, .int .i64 0] 28)) ((((w.alloc (.cells #[.bool (sg (dmn a)), .slice aA (nl (mg (dmn a))) ac, .int .i64 (dex a)] 28)).alloc (.cells #[.bool (sg (dmn b)), .slice bA (nl (mg (dmn b))) bc, .int .i64 (dex b)] 28)).alloc (.cells #[.bool false, .slice none 0 0, .int .i64 0] 28))).drew := (Below.refl _ _).drew
  replace ha := ha.below hd2
  replace hb := hb.below hd2
  replace hT := hT.below hd2
  replace Ra := Ra.below hd2
  replace qa0 := cell_below hd2 qa0
  replace qa1 := cell_below hd2 qa1
  replace qa2 := cell_below hd2 qa2
  replace Rb := Rb.below hd2
  replace qb0 := cell_below hd2 qb0
  replace qb1 := cell_below hd2 qb1
  replace qb2 := cell_below hd2 qb2
  replace Rr := Rr.below hd2
  replace qr0 := cell_below hd2 qr0
  replace qr1 := cell_below hd2 qr1
  replace qr2 := cell_below hd2 qr2
  replace HBT := Below.cons HBT hd2
  clear hd2
  obtain ⟨u, Eu⟩ : ∃ zq : Rat, zq = -b := ⟨_, rfl⟩
  have C2_0 := fun (W : World) (h1 : NatV W bA bc (mg (dmn b))) => dneg_c bA bc b W h1 ob.out
  simp only [← Eu] at C2_0
  replace Eu := Lib.hid Eu
  replace C2_0 := Lib.hid C2_0
  obtain ⟨q, Eq⟩ : ∃ zq : Rat, zq = a + u := ⟨_, rfl⟩
  have C2_1 := fun (W : World) (B : Option Addr) (d : Nat) (h1 : NatV W aA ac (mg (dmn a))) (h2 : NatV W B d (mg (dmn u))) (h3 : Tab W) => dadd_c aA ac a B d u W h1 h2 oa.out (by rw [Eu.out]; exact on.out) h3
  simp only [← Eq] at C2_1
  replace Eq := Lib.hid Eq
  replace C2_1 := Lib.hid C2_1
  go_region_held3 (fun W => W.cell? ⟨w.heap.size, 0, none⟩ = some (.bool (sg (dmn a))) ∧ W.cell? ⟨w.heap.size, 1, none⟩ = some (.slice aA (nl (mg (dmn a))) ac) ∧ W.cell? ⟨w.heap.size, 2, none⟩ = some (.int .i64 (dex a)) ∧ W.cell? ⟨(w.heap.size + 1), 0, none⟩ = some (.bool (sg (dmn b))) ∧ W.cell? ⟨(w.heap.size + 1), 1, none⟩ = some (.slice bA (nl (mg (dmn b))) bc) ∧ W.cell? ⟨(w.heap.size + 1), 2, none⟩ = some (.int .i64 (dex b)))
    (first
      | exact ⟨qa0, qa1, qa2, qb0, qb1, qb2⟩
      | exact ⟨qa0_3, qa1_3, qa2_3, qb0_3, qb1_3, qb2_3⟩
      | exact ⟨qa0_4, qa1_4, qa2_4, qb0_4, qb1_4, qb2_4⟩
      | exact ⟨((Ra_4.other3 (by simp <;> omega)).c (i := 0) rfl), ((Ra_4.other3 (by simp <;> omega)).c (i := 1) rfl), ((Ra_4.other3 (by simp <;> omega)).c (i := 2) rfl), ((Rb_4.other3 (by simp <;> omega)).c (i := 0) rfl), ((Rb_4.other3 (by simp <;> omega)).c (i := 1) rfl), ((Rb_4.other3 (by simp <;> omega)).c (i := 2) rfl)⟩
      | go_keep)
    (first
      | (go_at_call 46; (with_reducible refine (C2_0.out _ hb).mono ?_); rintro e W3 ⟨Xu, cu, rfl, hu, hb3⟩; have ha_3 := ha.below hb3; have hb_3 := hb.below hb3; have hT_3 := hT.below hb3; have Ra_3 := Ra.below hb3; have qa0_3 := cell_below hb3 qa0; have qa1_3 := cell_below hb3 qa1; have qa2_3 := cell_below hb3 qa2; have Rb_3 := Rb.below hb3; have qb0_3 := cell_below hb3 qb0; have qb1_3 := cell_below hb3 qb1; have qb2_3 := cell_below hb3 qb2; have Rr_3 := Rr.below hb3; have qr0_3 := cell_below hb3 qr0; have qr1_3 := cell_below hb3 qr1; have qr2_3 := cell_below hb3 qr2; have HBT_3 := Below.cons HBT hb3)
      | (go_at_call 48; (with_reducible refine (C2_1.out _ _ _ ha_3 hu hT_3).mono ?_); rintro e W4 ⟨Xq, cq, rfl, hq, hb4⟩; have ha_4 := ha_3.below hb4; have hb_4 := hb_3.below hb4; have hT_4 := hT_3.below hb4; have Ra_4 := Ra_3.below hb4; have qa0_4 := cell_below hb4 qa0_3; have qa1_4 := cell_below hb4 qa1_3; have qa2_4 := cell_below hb4 qa2_3; have Rb_4 := Rb_3.below hb4; have qb0_4 := cell_below hb4 qb0_3; have qb1_4 := cell_below hb4 qb1_3; have qb2_4 := cell_below hb4 qb2_3; have Rr_4 := Rr_3.below hb4; have qr0_4 := cell_below hb4 qr0_3; have qr1_4 := cell_below hb4 qr1_3; have qr2_4 := cell_below hb4 qr2_3; have hu_4 := hu.below hb4; have HBT_4 := Below.cons HBT_3 hb4; have fz0 := Rr_4.f (i := 0); have fz1 := Rr_4.f (i := 1); have fz2 := Rr_4.f (i := 2)))
  all_goals (try go_wp2_with (fail))
  have hzq : q = a - b := by rw [Eq.out, Eu.out, Rat.sub_eq_add_neg]
  subst hzq
  have RS := Rr_4.store3 (.bool (sg (dmn ((a - b))))) (.slice Xq (nl (mg (dmn ((a - b))))) cq) (.int .i64 (dex ((a - b))))
  have e0 := RS.c (i := 0) rfl
  have e1 := RS.c (i := 1) rfl
  have e2 := RS.c (i := 2) rfl
  refine bodyPost_ret (v := .agg #[.bool (sg (dmn ((a - b)))), .slice Xq (nl (mg (dmn ((a - b))))) cq, .int .i64 (dex ((a - b)))]) (by simp [results, Tryz.results42, go_sem, e0, e1, e2]) rfl ?_
  exact ⟨Xq, cq, rfl, (Rr_4.keep3 (by intro u hu; simp at hu; rcases hu with rfl | rfl | rfl <;> first | exact notU_bool _ | exact notU_slice _ _ _ | exact notU_i64 _) hq), (Below.store3 HBT_4 (by first | exact Nat.le_refl _ | omega))⟩
end Go.Proofs.YtacjfpibilolnaaGreatDoor

/- A loop over a function's items, where each item that is handed on holds something of memory. -/
set_option linter.unusedVariables false
set_option linter.unusedSimpArgs false
namespace Go.Proofs.YtacjfpibilolnaaGreatDoor
open Go.RowKit

/-- What a function that hands on items promises (Mv: what it does to variables of its own): each of them holds H when it is handed on, and at the end S (or, where it was stopped, Sp) holds of all that were. -/
def SeqX {α : Type} (F : Fence) (n : Nat) (P : Program) (g : Nat) (lb : Array Value) (encs : α → Array Value) (H : List α → α → World → Prop) (Kp Mv : World → World → Prop) (S Sp : List α → World → Prop) (w : World) : Prop :=
  ∀ (l : Nat) (J Jx : List α → World → Prop) (W : World), Below w.heap.size w W → AbidesFrom W.heap.size J → AbidesFrom W.heap.size Jx → (∀ s A B, J s A → Mv A B → J s B) →
    (∀ pre x W1, J pre W1 → H pre x W1 → YieldAt F (n - 1) P l (encs x) W1 fun e W' =>
      (e = .returned (.bool true) ∧ J (pre ++ [x]) W' ∧ Kp W1 W') ∨ (e = .returned (.bool false) ∧ Jx (pre ++ [x]) W' ∧ Kp W1 W')) →
    J [] W →
    CallsIn F n P g (#[.func (.yield l) #[] #[]] ++ lb) W fun e W' => (∃ v, e = .returned v) ∧ ((∃ xs, S xs W' ∧ J xs W') ∨ (∃ pre, Sp pre W' ∧ Jx pre W'))
/-- How the body of a round may be left. -/
def postX {α : Type} (Kp : World → World → Prop) (I : List α → World → Prop) (Ix : Code → List α → World → Prop) (xs : List α) (W : World) : Exit → Act → World → Prop
  | .normal, _, W' => KeepsOthers W W' ∧ Kp W W' ∧ I xs W'
  | .ret, _, W' => KeepsOthers W W' ∧ Kp W W' ∧ Ix .ret xs W'
  | .exit id, _, W' => KeepsOthers W W' ∧ Kp W W' ∧ Ix (.exit id) xs W'
  | .goto t, _, W' => KeepsOthers W W' ∧ Kp W W' ∧ Ix (.goto t) xs W'
  | .panic _, _, _ => False
  | .outgrown, _, _ => False
theorem wpIn_rangeX {F : Fence} {n : Nat} {P : Program} {α : Type} {g : Operand} {ps : Array Tmp} {assign body : Code} {Q : Exit → Act → World → Prop} {a : Act} {w : World}
    (hro : F.round = none) (h1 : 1 ≤ n) {gf : Nat} {lb : Array Value} (hg : a.eval g = .func (.func gf) #[] lb) (hFg : F.fn gf) (eg : ∀ args w, (callFunc gf args).run P w = .ok (.enter gf args) w)
    {encs : α → Array Value} {H : List α → α → World → Prop} {Kp Mv : World → World → Prop} {S Sp : List α → World → Prop} {w0 : World} (hseq : SeqX F (n - 1) P gf lb encs H Kp Mv S Sp w0)
    (hM : ∀ A B, Mv A B → ∀ k, w.heap.size ≤ k → k < A.heap.size → B.heap[k]? = A.heap[k]?)
    (hKt : ∀ {A B C : World}, Kp A B → Kp B C → Kp A C) (hKb : ∀ (W : World) (l : Nat) (o o' : Obj), w.heap.size ≤ l → W.heap[l]? = some o → o.isCells = false → o.isWalk = false → Kp W (W.putObj l o')) (hb0 : Below w0.heap.size w0 w) (hps : ∀ x, (encs x).size = ps.size)
    (hH : OwnFrom w.heap.size (fun (p : List α × α) W => H p.1 p.2 W)) (hS : OwnFrom w.heap.size S) (hSp : OwnFrom w.heap.size Sp)
    (I : List α → World → Prop) (Ix : Code → List α → World → Prop) (hI : OwnFrom w.heap.size I) (hIx : ∀ c, OwnFrom w.heap.size (Ix c)) (hIM : ∀ s A B, I s A → Mv A B → I s B) (h0 : I [] w) (a₁ : α → Act)
    (hassign : ∀ (l : Nat) (x : α) (W : World) (K : Act → World → Prop), K (a₁ x) W →
      assign.wpIn (F.inRound l) (n - 1 - 1) P (Exit.then K (fun _ _ _ => False)) { tmps := (ps.zip (encs x)).foldl (fun t (p, v) => t.setIfInBounds p v) a.tmps, defers := [] } W)
    (hbody : ∀ (l : Nat) (pre : List α) (x : α) (W : World), I pre W → H pre x W → body.wpIn (F.inRound l) (n - 1 - 1) P (postX Kp I Ix (pre ++ [x]) W) (a₁ x) W)
    (hdone : ∀ (D : Nat) (xs : List α) (W : World), w.heap.size ≤ D → S xs W → I xs W → W.heap[D]? = some (.deferred (some [])) → Q .normal { a with defers := { target := .collected D, args := #[] } :: a.defers } W)
    (hstop : ∀ (D : Nat) (c : Code) (pre : List α) (W : World), w.heap.size ≤ D → Sp pre W → Ix c pre W → W.heap[D]? = some (.deferred (some [])) → c.wpIn F n P Q { a with defers := { target := .collected D, args := #[] } :: a.defers } W) :
    (Code.rangeFunc g ps assign body).wpIn F n P Q a w := by
  refine wpIn_rangeFunc fun fn hfn => ?_
  rw [hro]
  let rec' : LoopState → Option Code → Loop := fun st pe => { state := st, pending := pe, fn, tmps := a.tmps, params := ps, assign, body, defers := w.heap.size }
  obtain ⟨rc, hrc⟩ : ∃ rc : LoopState → Option Code → Loop, rc = rec' := ⟨_, rfl⟩
  obtain ⟨W1, hW1⟩ : ∃ W1, W1 = (w.alloc (.deferred (some []))).alloc (.loop (rc .ready none)) := ⟨_, rfl⟩
  have hz : W1.heap.size = w.heap.size + 2 := by rw [hW1]; simp
  have hL1 : W1.heap[w.heap.size + 1]? = some (.loop (rc .ready none)) := by rw [hW1]; exact at_new (by simp)
  have hK1 : W1.heap[w.heap.size]? = some (.deferred (some [])) := by rw [hW1]; exact at_old (by simp) (at_new rfl)
  have hI1 : I [] W1 := by rw [hW1]; exact hI.alloc _ (hI.alloc _ h0)
  have hb1 : Below w0.heap.size w0 W1 := by
    rw [hW1]; exact hb0.trans ((((Below.refl _ w).alloc (Nat.le_refl _) _).alloc (by simp) _).mono hb0.size)
  refine ⟨w.heap.size + 1, [{ target := .collected w.heap.size, args := #[] }], W1, { target := .fn (.func gf) lb, args := #[.func (.yield (w.heap.size + 1)) #[] #[]] }, W1, gf, #[.func (.yield (w.heap.size + 1)) #[] #[]] ++ lb, W1, ?_, ?_, ?_, ?_, fun _ => h1, ?_⟩
  · rw [hW1, hrc]; exact run_enterLoop_outer _ _ _ _ _
  · simp only [resolve, hg]
    simp [go_sem]
  · intro f' hf'
    simp [Target.leads] at hf'
    subst hf'; exact hFg
  · simp [invoke, go_sem, eg]
  have turn : ∀ {A B : World} {row : Option Nat}, (∀ r, row = some r → W1.heap.size ≤ r ∧ ∃ o : Obj, A.heap[r]? = some o ∧ o.isWalk = true) → (∀ r, row = some r → w.heap.size ≤ r ∧ ∃ o : Obj, A.heap[r]? = some o ∧ o.isCells = false) := fun hr r e => by
    obtain ⟨hB, o, ho, hw⟩ := hr r e
    exact ⟨by omega, o, ho, Obj.not_cells_of_walk hw⟩
  refine (hseq (w.heap.size + 1)
    (fun pre W => I pre W ∧ W.heap[w.heap.size + 1]? = some (.loop (rc .ready none)) ∧ W.heap[w.heap.size]? = some (.deferred (some [])))
    (fun pre W => ∃ c, Ix c pre W ∧ W.heap[w.heap.size + 1]? = some (.loop (rc .done (some c))) ∧ W.heap[w.heap.size]? = some (.deferred (some [])))
    W1 hb1 ?ab1 ?ab2 ?mv ?round ⟨hI1, hL1, hK1⟩).mono ?fin
  case mv =>
    rintro x A B ⟨h1, h2, h3⟩ hm
    exact ⟨hIM x A B h1 hm, (hM A B hm _ (by omega) (Array.getElem?_eq_some_iff.1 h2).1).trans h2, (hM A B hm _ (by omega) (Array.getElem?_eq_some_iff.1 h3).1).trans h3⟩
  case ab1 =>
    rintro x A B row ⟨h1, h2, h3⟩ hg' hr
    exact ⟨hI x A B row h1 hg' (turn (B := B) hr), (grownBy_keeps hg' (fun r e => (hr r e).2) h2 rfl).trans h2, (grownBy_keeps hg' (fun r e => (hr r e).2) h3 rfl).trans h3⟩
  case ab2 =>
    rintro x A B row ⟨c, h1, h2, h3⟩ hg' hr
    exact ⟨c, hIx c x A B row h1 hg' (turn (B := B) hr), (grownBy_keeps hg' (fun r e => (hr r e).2) h2 rfl).trans h2, (grownBy_keeps hg' (fun r e => (hr r e).2) h3 rfl).trans h3⟩
  case round =>
    rintro pre x W ⟨hi, hl, hk⟩ hx
    have hlt : w.heap.size + 1 < W.heap.size := (Array.getElem?_eq_some_iff.1 hl).1
    have hy := run_yield (P := P) (args := encs x) hl (by rw [hrc]; exact hps x)
    rw [hrc] at hy
    refine ⟨fn, _, assign, body, hy, roundIn_of_wpIn hfn (hassign _ x W _ ⟨_, run_beginRound hl (by rw [hrc]), ?_⟩)⟩
    obtain ⟨bz, hbz⟩ : ∃ bz, bz = Obj.loop { rc .ready none with state := .busy } := ⟨_, rfl⟩
    rw [← hbz]
    have hl2 : (W.putObj (w.heap.size + 1) bz).heap[w.heap.size + 1]? = some bz := World.putObj_heap_same hlt
    have hk2 : (W.putObj (w.heap.size + 1) bz).heap[w.heap.size]? = some (.deferred (some [])) := (World.putObj_heap_other (by omega)).trans hk
    have hw2 : Kp W (W.putObj (w.heap.size + 1) bz) := hKb _ _ _ _ (by omega) hl rfl rfl
    refine wpIn_mono (hbody _ pre x _ (hI.putObj _ hi (by omega) hl rfl) (hH.putObj (s := (pre, x)) _ hx (by omega) hl rfl)) ?_
    have out : ∀ (jump : Option Code) (W3 : World), KeepsOthers (W.putObj (w.heap.size + 1) bz) W3 →
        (Instr.endRound (w.heap.size + 1) jump).run P W3 = .ok (.bool jump.isNone) (W3.putObj (w.heap.size + 1) (.loop (rc (if jump.isNone then .ready else .done) jump))) ∧ W3.heap[w.heap.size + 1]? = some bz ∧
        (W3.putObj (w.heap.size + 1) (.loop (rc (if jump.isNone then .ready else .done) jump))).heap[w.heap.size + 1]? = some (.loop (rc (if jump.isNone then .ready else .done) jump)) ∧
        (W3.putObj (w.heap.size + 1) (.loop (rc (if jump.isNone then .ready else .done) jump))).heap[w.heap.size]? = some (.deferred (some [])) := fun jump W3 h3 => by
      have hl3 := h3.same _ _ hl2 (by rw [hbz]; rfl)
      have he := run_endRound (P := P) jump (by rw [hbz] at hl3; exact hl3)
      rw [hrc] at he ⊢
      exact ⟨he, hl3, World.putObj_heap_same (Array.getElem?_eq_some_iff.1 hl3).1, (World.putObj_heap_other (by omega)).trans (h3.same _ _ hk2 rfl)⟩
    have hbc : bz.isCells = false := by rw [hbz]; rfl
    have hbw : bz.isWalk = false := by rw [hbz]; rfl
    have leave : ∀ (c : Code) (W3 : World), KeepsOthers (W.putObj (w.heap.size + 1) bz) W3 → Kp (W.putObj (w.heap.size + 1) bz) W3 → Ix c (pre ++ [x]) W3 → ∃ v w', (Instr.endRound (w.heap.size + 1) (some c)).run P W3 = .ok v w' ∧
        ((Ending.returned v = .returned (.bool true) ∧ (I (pre ++ [x]) w' ∧ w'.heap[w.heap.size + 1]? = some (.loop (rc .ready none)) ∧ w'.heap[w.heap.size]? = some (.deferred (some []))) ∧ Kp W w') ∨
          (Ending.returned v = .returned (.bool false) ∧ (∃ c, Ix c (pre ++ [x]) w' ∧ w'.heap[w.heap.size + 1]? = some (.loop (rc .done (some c))) ∧ w'.heap[w.heap.size]? = some (.deferred (some []))) ∧ Kp W w')) := fun c W3 h3 hk3 hi3 => by
      obtain ⟨hr, hl3, hl4, hk4⟩ := out (some c) W3 h3
      exact ⟨_, _, hr, .inr ⟨rfl, ⟨c, (hIx _).putObj _ hi3 (by omega) hl3 hbc, hl4, hk4⟩, hKt (hKt hw2 hk3) (hKb _ _ _ _ (by omega) hl3 hbc hbw)⟩⟩
    rintro e a3 W3 hp
    cases e with
    | normal =>
      obtain ⟨h3, hk3, hi3⟩ := hp
      obtain ⟨hr, hl3, hl4, hk4⟩ := out none W3 h3
      exact ⟨_, _, hr, .inl ⟨rfl, ⟨hI.putObj _ hi3 (by omega) hl3 hbc, hl4, hk4⟩, hKt (hKt hw2 hk3) (hKb _ _ _ _ (by omega) hl3 hbc hbw)⟩⟩
    | ret => exact leave .ret W3 hp.1 hp.2.1 hp.2.2
    | exit id => exact leave (.exit id) W3 hp.1 hp.2.1 hp.2.2
    | goto t => exact leave (.goto t) W3 hp.1 hp.2.1 hp.2.2
    | panic ch => exact hp.elim
    | outgrown => exact hp.elim
  case fin =>
    rintro e W2 ⟨⟨v, rfl⟩, (⟨xs, hSx, hi, hl, hk⟩ | ⟨pre, hSx, c, hi, hl, hk⟩)⟩
    · exact ⟨none, _, by have := run_endLoop (P := P) hl (by rw [hrc]; simp [rec']); rw [hrc] at this; exact this,
        hdone _ xs _ (Nat.le_refl _) (hS.putObj _ hSx (by omega) hl rfl) (hI.putObj _ hi (by omega) hl rfl) ((World.putObj_heap_other (by omega)).trans hk)⟩
    · exact ⟨some c, _, by have := run_endLoop (P := P) hl (by rw [hrc]; simp [rec']); rw [hrc] at this; exact this,
        hstop _ c pre _ (Nat.le_refl _) (hSp.putObj _ hSx (by omega) hl rfl) ((hIx c).putObj _ hi (by omega) hl rfl) ((World.putObj_heap_other (by omega)).trans hk)⟩
end Go.Proofs.YtacjfpibilolnaaGreatDoor

/- Euclid's pairs, handed on one by one. -/
set_option linter.unusedVariables false
set_option linter.unusedSimpArgs false
namespace Go.Proofs.YtacjfpibilolnaaGreatDoor
open Go.RowKit Go.Shelf
attribute [local go_sem] Oper.semAt_some

/-- Euclid's pairs. -/
def euc (a b : Nat) : Nat → Nat × Nat
  | 0 => (a, b)
  | k + 1 => ((euc a b k).2, (euc a b k).1 % (euc a b k).2)
theorem euc_gcd (a b : Nat) : ∀ k, (∀ i, i < k → (euc a b i).2 ≠ 0) → Nat.gcd (euc a b k).1 (euc a b k).2 = Nat.gcd a b
  | 0, _ => rfl
  | k + 1, h => by
    rw [← euc_gcd a b k (fun i hi => h i (by omega))]
    show Nat.gcd (euc a b k).2 ((euc a b k).1 % (euc a b k).2) = _
    rw [Nat.gcd_comm (euc a b k).1, Nat.gcd_rec (euc a b k).2 (euc a b k).1, Nat.gcd_comm]
/-- A pair of naturals as they lie in memory. -/
structure It where
  A : Option Addr
  c : Nat
  a : Nat
  B : Option Addr
  d : Nat
  b : Nat
def It.enc (x : It) : Array Value := #[.slice x.A (nl x.a) x.c, .slice x.B (nl x.b) x.d]
def It.ok (x : It) (W : World) : Prop := NatV W x.A x.c x.a ∧ NatV W x.B x.d x.b
/-- Limbs stay what they are, and so do two variables. -/
structure KpU (Ba Bb : Nat) (W W' : World) : Prop where
  u : ∀ (p : Addr) (x : Nat), W.cell? p = some (.int .u32 (x : Nat)) → W'.cell? p = some (.int .u32 (x : Nat))
  a : ∀ o : Obj, o.isCells = true → W.heap[Ba]? = some o → W'.heap[Ba]? = some o
  b : ∀ o : Obj, o.isCells = true → W.heap[Bb]? = some o → W'.heap[Bb]? = some o
theorem KpU.t {Ba Bb : Nat} {A B C : World} (h : KpU Ba Bb A B) (k : KpU Ba Bb B C) : KpU Ba Bb A C := ⟨fun p x e => k.u p x (h.u p x e), fun o ho e => k.a o ho (h.a o ho e), fun o ho e => k.b o ho (h.b o ho e)⟩
theorem KpU.bk {Ba Bb : Nat} {w : World} (W : World) (l : Nat) (o o' : Obj) (_ : w.heap.size ≤ l) (h : W.heap[l]? = some o) (ho : o.isCells = false) (_ : o.isWalk = false) : KpU Ba Bb W (W.putObj l o') := by
  refine ⟨fun p x e => cell_kept e (grownBy_putObj' W l o') (fun r e => by cases e; exact ⟨o, h, ho⟩), fun u hu e => ?_, fun u hu e => ?_⟩
  · have hne : Ba ≠ l := fun e2 => by subst e2; rw [h] at e; cases e; rw [ho] at hu; cases hu
    exact (World.putObj_heap_other hne).trans e
  · have hne : Bb ≠ l := fun e2 => by subst e2; rw [h] at e; cases e; rw [ho] at hu; cases hu
    exact (World.putObj_heap_other hne).trans e
theorem NatV.kpu {Ba Bb : Nat} {W W' : World} {A : Option Addr} {c n : Nat} (h : NatV W A c n) (hk : KpU Ba Bb W W') : NatV W' A c n := by
  refine ⟨?_, h.cap, h.cmax⟩
  rcases h.rd with h1 | ⟨ad, rfl, h1⟩
  · exact .inl h1
  · refine .inr ⟨ad, rfl, fun i u hi => ?_⟩
    have h2 := h1 i u hi
    obtain ⟨hl, he⟩ := List.getElem?_eq_some_iff.1 hi
    have hil : i < (limbs n).length := by simpa [vals] using hl
    rw [vals_get _ i hil] at hi
    cases hi
    exact hk.u _ _ h2
/-- All but two variables stays as it was. -/
structure MvU (Ba Bb : Nat) (W W' : World) : Prop where
  os : W'.os = W.os
  tape : W'.tape = W.tape
  output : W'.output = W.output
  size : W.heap.size ≤ W'.heap.size
  block : ∀ k, k < W.heap.size → k ≠ Ba → k ≠ Bb → W'.heap[k]? = W.heap[k]?
/-- What is handed on, and what holds at the end. -/
def EuH (a b : Nat) (pre : List It) (x : It) (W : World) : Prop := x.ok W ∧ (x.a, x.b) = euc a b pre.length ∧ ∀ i, i < pre.length → (euc a b i).2 ≠ 0
def EuS (a b : Nat) (xs : List It) (W : World) : Prop := ∃ pre x, xs = pre ++ [x] ∧ EuH a b pre x W ∧ x.b = 0
def EuP (a b : Nat) (xs : List It) (W : World) : Prop := ∃ pre x, xs = pre ++ [x] ∧ EuH a b pre x W
theorem rests_c (A : Option Addr) (la ca : Nat) (B : Option Addr) (lb cb : Nat) (w : World) :
    Calls Tryz.prog 138 #[.slice A la ca, .slice B lb cb] w fun e w' =>
      e = .returned (.func (.func 153) #[] #[.pointer (some ⟨w.heap.size, 0, none⟩), .pointer (some ⟨w.heap.size + 1, 0, none⟩)]) ∧
      w' = (w.alloc (.cells #[.slice A la ca] 22)).alloc (.cells #[.slice B lb cb] 22) := by
  go_enter Tryz.func138, Tryz.ntmps138
  go_wp2_with (fail)
  go_ret
  exact ⟨rfl, rfl⟩
/-- The natural that a slice shows. -/
def natAt (W : World) (v : Option Value) : Nat := match v with
  | some (.slice (some ad) n _) => val ((List.range n).map fun i => match W.cell? (ad.add i) with | some (.int _ x) => x.toNat | _ => 0)
  | _ => 0
theorem NatV.at_ {W : World} {A : Option Addr} {c a : Nat} (h : NatV W A c a) : natAt W (some (.slice A (nl a) c)) = a := by
  rcases h.rd with h1 | ⟨ad, rfl, h1⟩
  · have h0 : limbs a = [] := by simpa [vals] using h1
    have h2 : a = 0 := by rw [← val_limbs a, h0]; rfl
    have h3 : nl a = 0 := by rw [h2, nl_zero]
    unfold natAt
    rw [h3, h2]
    cases A <;> rfl
  · show val _ = a
    rw [show ((List.range (nl a)).map fun i => match W.cell? (ad.add i) with | some (.int _ x) => x.toNat | _ => 0) = limbs a from ?_, val_limbs]
    apply List.ext_getElem
    · simp [nl]
    · intro i h2 h3
      have h4 := h1 i _ (vals_get (limbs a) i h3)
      rw [List.getElem_map, List.getElem_range, h4]
      simp only [Int.toNat_natCast]
      exact gl_get h3
theorem Boxed.keepN {W : World} {k : Nat} {t : TypeId} {A : Option Addr} {n c : Nat} {v : Value} (h : Boxed W k t (.slice A n c)) {X : Option Addr} {x m : Nat} (hN : NatV W X x m) : NatV (W.setCell ⟨k, 0, none⟩ v) X x m :=
  BoxA.keep (W := W) (k := k) (t := t) (us := #[.slice A n c]) ⟨h⟩ (by intro u hu; simp at hu; subst hu; exact notU_slice _ _ _) (fun j hj => Below.heap_setCell _ _ _ _ (by simpa using hj)) hN
theorem nl_max {a b k : Nat} (ha : nl a ≤ k) (hb : nl b ≤ k) : nl (max a b) ≤ k := by
  rcases Nat.le_total a b with h | h
  · rw [Nat.max_eq_right h]; exact hb
  · rw [Nat.max_eq_left h]; exact ha
theorem mv_two (W : World) (Ba Bb : Nat) (u v : Value) : MvU Ba Bb W ((W.setCell ⟨Ba, 0, none⟩ u).setCell ⟨Bb, 0, none⟩ v) :=
  ⟨rfl, rfl, rfl, by simp [World.setCell], fun k _ h1 h2 => by rw [Below.heap_setCell _ _ _ _ (by simpa using h2), Below.heap_setCell _ _ _ _ (by simpa using h1)]⟩
set_option maxRecDepth 100000 in
set_option maxHeartbeats 1000000 in
theorem rests1_in (l Ba Bb : Nat) (a b : Nat) (hla : nl a ≤ 16777216) (hlb : nl b ≤ 16777216) (hne : Ba ≠ Bb)
    (J Jx : List It → World → Prop) (hJd : ∀ pre W W', J pre W → Below W.heap.size W W' → J pre W') (hJm : ∀ s A B, J s A → MvU Ba Bb A B → J s B)
    (hY : ∀ pre x W, J pre W → EuH a b pre x W → YieldAt Fence.wide 2 Tryz.prog l x.enc W fun e W' =>
      (e = .returned (.bool true) ∧ J (pre ++ [x]) W' ∧ KpU Ba Bb W W') ∨ (e = .returned (.bool false) ∧ Jx (pre ++ [x]) W' ∧ KpU Ba Bb W W'))
    (A : Option Addr) (c : Nat) (B : Option Addr) (d : Nat) (W : World) (h1 : Boxed W Ba 22 (.slice A (nl a) c)) (h2 : Boxed W Bb 22 (.slice B (nl b) d))
    (hA : NatV W A c a) (hB : NatV W B d b) (h0 : J [] W) :
    CallsIn Fence.wide 3 Tryz.prog 153 #[.func (.yield l) #[] #[], .pointer (some ⟨Ba, 0, none⟩), .pointer (some ⟨Bb, 0, none⟩)] W fun e W' =>
      (∃ v, e = .returned v) ∧ ((∃ xs, EuS a b xs W' ∧ J xs W') ∨ (∃ pre, EuP a b pre W' ∧ Jx pre W')) := by
  refine callsIn_of_wp Tryz.func153 rfl trivial ?_ rfl
  simp only [Tryz.ntmps153, List.size_toArray, List.length_cons, List.length_nil, Nat.reduceAdd, Nat.reduceSub, Array.replicate_succ, Array.replicate_zero, List.push_toArray, List.append_toArray, List.nil_append, List.cons_append]
  have HY := Lib.hid hY
  clear hY
  gi_wp2_with (fail)
  gi_loopw [4, 5, 6] (fun u4 u5 u6 wr => ∃ (pre : List It) (x : It), J pre wr ∧ EuH a b pre x wr ∧ Boxed wr Ba 22 (.slice x.A (nl x.a) x.c) ∧ Boxed wr Bb 22 (.slice x.B (nl x.b) x.d) ∧ x.a ≤ max a b ∧ x.b ≤ max a b) (fun u4 u5 u6 wr => natAt wr (wr.cell? ⟨Bb, 0, none⟩))
  case atStart => exact ⟨[], ⟨A, c, a, B, d, b⟩, h0, ⟨⟨hA, hB⟩, rfl, fun i h => by simp at h⟩, h1, h2, by simp; omega, by simp; omega⟩
  case round =>
    obtain ⟨pre, ⟨A, c, x, B, d, y⟩, hJ, hH, hba, hbb, hxm, hym⟩ := hrel
    have hxa : nl x ≤ 16777216 := Nat.le_trans (nl_mono hxm) (nl_max hla hlb)
    have hyb : nl y ≤ 16777216 := Nat.le_trans (nl_mono hym) (nl_max hla hlb)
    have ca := hba.cell
    have cb := hbb.cell
    have cm : natAt wr (wr.cell? ⟨Bb, 0, none⟩) = y := by rw [cb]; exact hH.1.2.at_
    obtain ⟨fn, tmps, assign, body, hy, hR⟩ := HY.out pre _ wr hJ hH
    simp only [It.enc] at hy
    have HR := Lib.hid (hR.mono (R' := fun e W' => ∃ t, e = .returned (.bool t) ∧ KpU Ba Bb wr W' ∧ Hid ((t = true ∧ J (pre ++ [⟨A, c, x, B, d, y⟩]) W') ∨ (t = false ∧ Jx (pre ++ [⟨A, c, x, B, d, y⟩]) W'))) (by
      rintro e W' (⟨rfl, h1, h2⟩ | ⟨rfl, h1, h2⟩)
      · exact ⟨true, rfl, h2, Lib.hid (.inl ⟨rfl, h1⟩)⟩
      · exact ⟨false, rfl, h2, Lib.hid (.inr ⟨rfl, h1⟩)⟩))
    have H1 := hH.1.1
    have H2 := hH.1.2
    have H3 := Lib.hid hH.2
    replace hba := Lib.hid hba
    replace hbb := Lib.hid hbb
    replace cm := Lib.hid cm
    replace hJd := Lib.hid hJd
    replace hJm := Lib.hid hJm
    clear hR hJ hH
    gi_wp2_with (fail)
    refine (Hid.out HR).mono ?_
    rintro e W' ⟨t, rfl, K, ht⟩
    have hb2 : Boxed W' Bb 22 (.slice B (nl y) d) := K.b _ rfl hbb.out
    have ha2 : Boxed W' Ba 22 (.slice A (nl x) c) := K.a _ rfl hba.out
    have hX := H1.kpu K
    have hYy := H2.kpu K
    have E' : EuH a b pre ⟨A, c, x, B, d, y⟩ W' := ⟨⟨hX, hYy⟩, H3.out⟩
    have ca2 := ha2.cell
    have cb2 := hb2.cell
    cases t with
    | false =>
      obtain ⟨h, _⟩ | ⟨_, hx⟩ := ht.out
      · cases h
      · replace hx := Lib.hid hx
        replace E' := Lib.hid E'
        gi_wp2_with (fail)
        refine bodyPost_end (results_none rfl _ _ _) rfl ?_
        exact ⟨⟨_, rfl⟩, .inr ⟨_, ⟨_, _, rfl, E'.out⟩, hx.out⟩⟩
    | true =>
      obtain ⟨_, hJ2⟩ | ⟨h, _⟩ := ht.out
      · by_cases hy0 : y = 0
        · have t1 : decide (0 < (nl y : Int)) = false := by rw [hy0, nl_zero]; rfl
          have t2 : decide (0 < nl y) = false := by rw [hy0, nl_zero]; rfl
          replace hy0 := Lib.hid hy0
          replace hJ2 := Lib.hid hJ2
          replace E' := Lib.hid E'
          gi_wp2_with (fail)
          refine bodyPost_end (results_none rfl _ _ _) rfl ?_
          exact ⟨⟨_, rfl⟩, .inl ⟨_, ⟨_, _, rfl, E'.out, hy0.out⟩, hJ2.out⟩⟩
        · have t1 : decide (0 < (nl y : Int)) = true := by have := nl_pos.2 hy0; simp; omega
          have t2 : decide (0 < nl y) = true := by have := nl_pos.2 hy0; simp; omega
          have CD := ddivmod_c A c x B d y W' hX hYy hxa hyb (by omega)
          replace CD := Lib.hid CD
          replace hJ2 := Lib.hid hJ2
          replace E' := Lib.hid E'
          replace hy0 := Lib.hid hy0
          replace ha2 := Lib.hid ha2
          replace hb2 := Lib.hid hb2
          gi_wp2_with (refine ⟨trivial, ?_⟩; gi_at_call 131; (with_reducible refine (callsIn_wide.2 (Hid.out CD)).mono ?_); rintro e W2 ⟨X, cx, Y, cy, rfl, hq, hr, hbd⟩; have ha3 : Boxed W2 Ba 22 (.slice A (nl x) c) := heap_below hbd ha2.out; have hb3 : Boxed W2 Bb 22 (.slice B (nl y) d) := heap_below hbd hb2.out; have ca3 := ha3.cell; have cb3 := hb3.cell; have fa3 := ha3.frozen; have fb3 := hb3.frozen)
          go_roundw
          case rel =>
            have hJ3 := hJm.out _ _ _ (hJd.out _ _ _ hJ2.out hbd) (mv_two W2 Ba Bb (.slice B (nl y) d) (.slice Y (nl (x % y)) cy))
            have hb4 : Boxed (W2.setCell ⟨Ba, 0, none⟩ (.slice B (nl y) d)) Bb 22 (.slice B (nl y) d) := hb3.other (fun e => hne e.symm) _
            have n1 := Boxed.keepN hb4 (v := .slice Y (nl (x % y)) cy) (Boxed.keepN ha3 (v := .slice B (nl y) d) (hYy.below hbd))
            have n2 := Boxed.keepN hb4 (v := .slice Y (nl (x % y)) cy) (Boxed.keepN ha3 (v := .slice B (nl y) d) hr)
            refine ⟨_, ⟨B, d, y, Y, cy, x % y⟩, hJ3, ⟨⟨n1, n2⟩, ?_, ?_⟩, (Boxed.set _ ha3).other hne _, Boxed.set _ hb4, hym, Nat.le_trans (Nat.mod_le _ _) hxm⟩
            · have h := H3.out.1
              simp only [List.length_append, List.length_cons, List.length_nil, euc]
              rw [← h]
            · intro i hi
              simp only [List.length_append, List.length_cons, List.length_nil] at hi
              by_cases e : i = pre.length
              · rw [e, ← H3.out.1]; exact hy0.out
              · exact H3.out.2 i (by omega)
          case measure =>
            have hb4 : Boxed (W2.setCell ⟨Ba, 0, none⟩ (.slice B (nl y) d)) Bb 22 (.slice B (nl y) d) := hb3.other (fun e => hne e.symm) _
            have n2 := Boxed.keepN hb4 (v := .slice Y (nl (x % y)) cy) (Boxed.keepN ha3 (v := .slice B (nl y) d) hr)
            rw [cm.out, (Boxed.set _ hb4).cell, n2.at_]
            exact Nat.mod_lt _ (Nat.pos_of_ne_zero hy0.out)
      · cases h
end Go.Proofs.YtacjfpibilolnaaGreatDoor

/- The greatest common divisor, walked. -/
set_option linter.unusedVariables false
set_option linter.unusedSimpArgs false
namespace Go.Proofs.YtacjfpibilolnaaGreatDoor
open Go.RowKit Go.Shelf
attribute [local go_sem] Oper.semAt_some

theorem below_grown {W W' : World} (hb : Below W.heap.size W W') : W.grownBy W' none := ⟨hb.os, hb.tape, hb.output, hb.size, fun k hk _ => hb.block k hk⟩
theorem rests_seq (A : Option Addr) (c a : Nat) (B : Option Addr) (d b : Nat) (Ba Bb : Nat) (hne : Ba ≠ Bb) (w : World) (hla : nl a ≤ 16777216) (hlb : nl b ≤ 16777216) (h1 : Boxed w Ba 22 (.slice A (nl a) c)) (h2 : Boxed w Bb 22 (.slice B (nl b) d)) (hA : NatV w A c a) (hB : NatV w B d b) :
    SeqX Fence.wide 3 Tryz.prog 153 #[.pointer (some ⟨Ba, 0, none⟩), .pointer (some ⟨Bb, 0, none⟩)] It.enc (EuH a b) (KpU Ba Bb) (MvU Ba Bb) (EuS a b) (EuP a b) w := by
  intro l J Jx W hW hJ hJx hJm hY h0
  exact rests1_in l Ba Bb a b hla hlb hne J Jx (fun pre W W' h hb => hJ pre W W' none h (below_grown hb) (fun r e => by cases e)) hJm hY A c B d W (heap_below hW h1) (heap_below hW h2) (hA.below hW) (hB.below hW) h0
theorem NatV.kept {W W' : World} {A : Option Addr} {c n : Nat} {row : Option Nat} (h : NatV W A c n) (hg : W.grownBy W' row) (hr : ∀ r, row = some r → ∃ o : Obj, W.heap[r]? = some o ∧ o.isCells = false) : NatV W' A c n := by
  refine ⟨?_, h.cap, h.cmax⟩
  rcases h.rd with h1 | ⟨ad, rfl, h1⟩
  · exact .inl h1
  · exact .inr ⟨ad, rfl, fun i u hi => cell_kept (h1 i u hi) hg hr⟩
theorem EuH.kept {a b : Nat} {pre : List It} {x : It} {W W' : World} {row : Option Nat} (h : EuH a b pre x W) (hg : W.grownBy W' row) (hr : ∀ r, row = some r → ∃ o : Obj, W.heap[r]? = some o ∧ o.isCells = false) : EuH a b pre x W' :=
  ⟨⟨h.1.1.kept hg hr, h.1.2.kept hg hr⟩, h.2⟩
theorem own_euH (a b n : Nat) : OwnFrom n (fun (p : List It × It) W => EuH a b p.1 p.2 W) := fun s W W' row hs hg hr => hs.kept hg (fun r e => (hr r e).2)
theorem own_euS (a b n : Nat) : OwnFrom n (EuS a b) := fun s W W' row hs hg hr => by
  obtain ⟨pre, x, h1, h2, h3⟩ := hs
  exact ⟨pre, x, h1, h2.kept hg (fun r e => (hr r e).2), h3⟩
theorem own_euP (a b n : Nat) : OwnFrom n (EuP a b) := fun s W W' row hs hg hr => by
  obtain ⟨pre, x, h1, h2⟩ := hs
  exact ⟨pre, x, h1, h2.kept hg (fun r e => (hr r e).2)⟩
/-- A store into a variable that holds no limb keeps limbs, and two other variables. -/
theorem kpu_set {W : World} {k Ba Bb : Nat} {t : TypeId} {u v : Value} (h : Boxed W k t u) (hu : NotU u) (ha : Ba ≠ k) (hb : Bb ≠ k) : KpU Ba Bb W (W.setCell ⟨k, 0, none⟩ v) := by
  refine ⟨fun p x e => ?_, fun o _ e => (Below.heap_setCell _ _ _ _ (by simpa using ha)).trans e, fun o _ e => (Below.heap_setCell _ _ _ _ (by simpa using hb)).trans e⟩
  have hne : p.block ≠ k := fun e2 => by
    unfold World.cell? at e
    rw [e2, show W.heap[k]? = _ from h] at e
    simp only at e
    split at e
    · cases e
    · have hm := Array.mem_of_getElem? e
      simp at hm
      exact hu x hm.symm
  rw [World.cell?_of_block (w := W) (a := p) (Below.heap_setCell _ _ _ _ (by simpa using hne))]
  exact e
def outv (pre : List It) : Value := match pre.getLast? with
  | none => .slice none 0 0
  | some x => .slice x.A (nl x.a) x.c
theorem outv_snoc (pre : List It) (x : It) : outv (pre ++ [x]) = .slice x.A (nl x.a) x.c := by simp [outv]
theorem outv_notU (pre : List It) : NotU (outv pre) := by
  unfold outv; split <;> exact notU_slice _ _ _
theorem mvu_below {w W W' : World} {s Ba Bb : Nat} (h : Below s w W) (hm : MvU Ba Bb W W') (ha : s ≤ Ba) (hb : s ≤ Bb) (hs : s ≤ W.heap.size) : Below s w W' :=
  h.trans ⟨hm.os, hm.tape, hm.output, hm.size, fun k hk => hm.block k (by omega) (by omega) (by omega)⟩
set_option maxRecDepth 100000 in
set_option maxHeartbeats 1000000 in
theorem gcd_c (A : Option Addr) (c a : Nat) (B : Option Addr) (d b : Nat) (w : World) (hA : NatV w A c a) (hB : NatV w B d b) (hla : nl a ≤ 16777216) (hlb : nl b ≤ 16777216) :
    Calls Tryz.prog 123 #[.slice A (nl a) c, .slice B (nl b) d] w (RetN w (Nat.gcd a b)) := by
  refine (callsIn_wide (n := 4)).1 ?_
  refine callsIn_of_wp_marks Tryz.func123 rfl trivial ?_ rfl
  simp only [Tryz.ntmps123, List.size_toArray, List.length_cons, List.length_nil, Nat.reduceAdd, Nat.reduceSub, Array.replicate_succ, Array.replicate_zero, List.push_toArray, List.append_toArray, List.nil_append, List.cons_append]
  gi_wp2_with (refine ⟨trivial, ?_⟩; gi_at_call 138; refine (callsIn_wide.2 (rests_c A (nl a) c B (nl b) d _)).mono ?_; rintro e w' ⟨rfl, rfl⟩)
  obtain ⟨s, hs0⟩ : ∃ s, s = w.heap.size := ⟨_, rfl⟩
  obtain ⟨W8, hW8⟩ : ∃ W8, (((w.alloc (.cells #[.slice none 0 0] 22)).alloc (.cells #[.slice A (nl a) c] 22)).alloc (.cells #[.slice B (nl b) d] 22)) = W8 := ⟨_, rfl⟩
  have bO : Boxed W8 s 22 (.slice none 0 0) := by
    subst hs0 hW8; unfold Boxed; repeat (first | exact at_new (by simp) | refine at_old (by simp <;> omega) ?_)
  have bA : Boxed W8 (s + 1) 22 (.slice A (nl a) c) := by
    subst hs0 hW8; unfold Boxed; repeat (first | exact at_new (by simp) | refine at_old (by simp <;> omega) ?_)
  have bB : Boxed W8 (s + 2) 22 (.slice B (nl b) d) := by
    subst hs0 hW8; unfold Boxed; repeat (first | exact at_new (by simp) | refine at_old (by simp <;> omega) ?_)
  have hsz : W8.heap.size = s + 3 := by subst hs0 hW8; simp
  have hB0 : Below s w W8 := by
    subst hs0 hW8
    exact ((((Below.refl _ w).alloc (Nat.le_refl _) _).alloc (by simp) _).alloc (by simp; omega) _)
  have hA8 := hA.below (hs0 ▸ hB0)
  have hB8 := hB.below (hs0 ▸ hB0)
  rw [← hs0]
  simp only [Nat.add_assoc, Nat.reduceAdd]
  rw [hW8]
  clear hW8
  have HS := Lib.hid hs0
  clear hs0
  refine wpIn_rangeX (w0 := W8) rfl (by omega) (gf := 153) (lb := #[.pointer (some ⟨s + 1, 0, none⟩), .pointer (some ⟨s + 2, 0, none⟩)]) rfl trivial (enters_of Tryz.func153 (by kernel_rfl) rfl)
    (rests_seq A c a B d b (s + 1) (s + 2) (by omega) W8 hla hlb bA bB hA8 hB8) (fun X Y h k h1 h2 => h.block k h2 (by omega) (by omega))
    KpU.t (fun W l o o' h1 h2 h3 h4 => KpU.bk W l o o' h1 h2 h3 h4) (Below.refl _ _) (fun _ => rfl) (own_euH a b _) (own_euS a b _) (own_euP a b _)
    (fun pre W => Boxed W s 22 (outv pre) ∧ Below s w W ∧ s + 3 ≤ W.heap.size) (fun _ _ _ => False)
    ?own (fun _ _ _ _ _ hs _ _ => hs) ?mv ?start
    (fun x => { tmps := #[.slice A (nl a) c, .slice B (nl b) d, undef, undef, .slice none 0 0, .pointer (some ⟨s, 0, none⟩), .slice x.A (nl x.a) x.c, .slice A (nl a) c, .slice B (nl b) d,
      .func (.func 153) #[] #[.pointer (some ⟨s + 1, 0, none⟩), .pointer (some ⟨s + 2, 0, none⟩)], .slice x.A (nl x.a) x.c, .slice x.B (nl x.b) x.d, undef, undef], defers := [] }) ?assign ?body ?done ?stop
  case own =>
    refine OwnFrom.and (Own.from (boxed_own _ _ _) _) (OwnFrom.and (ownFrom_below (Nat.le_of_eq HS.out) (by omega)) ?_)
    intro x Y Z row h hg hr
    exact Nat.le_trans h hg.size
  case mv =>
    rintro x Y Z ⟨h1, h2, h3⟩ hm
    exact ⟨(hm.block s (by omega) (by omega) (by omega)).trans h1, mvu_below h2 hm (by omega) (by omega) (by omega), Nat.le_trans h3 hm.size⟩
  case start => exact ⟨bO, hB0, by omega⟩
  case assign =>
    intro l x W K hK
    simp only [It.enc]
    gi_wp2
    exact hK
  case stop =>
    rintro D c pre W _ _ h _
    exact h.elim
  case done =>
    rintro D ys W hD ⟨pre, x, rfl, hE, hx0⟩ ⟨hv, hB, hs3⟩ hK
    rw [outv_snoc] at hv
    have hc := hv.cell
    have hg : x.a = Nat.gcd a b := by
      have h1 := euc_gcd a b pre.length hE.2.2
      rw [← hE.2.1] at h1
      simp only [hx0, Nat.gcd_zero_right] at h1
      exact h1
    have hX := hE.1.1
    replace hg := Lib.hid hg
    replace hE := Lib.hid hE
    replace hx0 := Lib.hid hx0
    gi_wp2_with (fail)
    have hDlt : D < W.heap.size := (Array.getElem?_eq_some_iff.1 hK).1
    refine ⟨by simp, .inl ⟨_, _, rfl, run_takeDeferred hK, ?_⟩⟩
    have hp : Below s w (W.putObj D (.deferred none)) := hB.trans (belowK_b (w := W8) (by omega) W D _ _ hD hK rfl rfl)
    refine ⟨_, results_tmp rfl _ _ _, ?_⟩
    have hX2 := hX.kept (grownBy_putObj' W D (.deferred none)) (fun r e => by cases e; exact ⟨_, hK, rfl⟩)
    rw [← hg.out]
    exact ⟨x.A, x.c, rfl, hX2, hp.mono (Nat.le_of_eq HS.out.symm)⟩
  case body =>
    rintro l pre x W ⟨hv, hB, hs3⟩ hE
    have hc := hv.cell
    have hf := hv.frozen
    gi_wp2_with (fail)
    refine ⟨KeepsOthers.setCell _ _ _, kpu_set hv (outv_notU pre) (by omega) (by omega), ?_, hB.setCell (p := ⟨s, 0, none⟩) (Nat.le_refl _) _, by simpa [World.setCell] using hs3⟩
    rw [outv_snoc]
    exact Boxed.set _ hv
end Go.Proofs.YtacjfpibilolnaaGreatDoor
