/- Products by transforms, by the best way, and powers. -/
import Derived.Test.YtacjfpibilolnaaGreatDoorSB39
import Derived.Test.YtacjfpibilolnaaGreatDoorSB35
import Derived.Test.YtacjfpibilolnaaGreatDoorSB36
set_option maxRecDepth 100000
set_option maxHeartbeats 4000000
set_option linter.unusedVariables false
set_option linter.unusedSimpArgs false
namespace Go.Proofs.YtacjfpibilolnaaGreatDoor
open Go.RowKit Go.Shelf
attribute [local go_sem] max2_i min2_i max_two min_two

theorem fast_c (A : Option Addr) (c a : Nat) (B : Option Addr) (d b : Nat) (w : World) (hA : NatV w A c a) (hB : NatV w B d b) (hG : Flds w) (ha : nl a ≤ 16384) (hb : nl b ≤ 16384) :
    Calls Tryz.prog 134 #[.slice A (nl a) c, .slice B (nl b) d] w (RetN w (a * b)) := by
  by_cases h : nl a < nl b
  · have hd : decide ((nl a : Int) < (nl b : Int)) = true := by simp; omega
    have hd2 : decide ((16384 : Int) < (nl b : Int)) = false := by simp; omega
    have CC := conv_c B d b A c a w hB hA hG hb ha
    replace CC := Lib.hid CC
    go_enter Tryz.func134, Tryz.ntmps134
    go_wp2_with (fail)
    refine CC.out.mono ?_
    rintro e w1 ⟨X, cx, n, L, rfl, hLl, hX, hLm, hnc, hn, hv, hb1⟩
    go_wp2_with (fail)
    refine (carry_c X n cx L w1 hLl hX hLm (by omega) hnc).mono ?_
    rintro e w2 ⟨Y, cy, rfl, h1, h2⟩
    go_wp2_with (fail)
    go_ret
    rw [Nat.mul_comm a b, ← hv]
    exact ⟨Y, cy, rfl, h1, hb1.cons h2⟩
  · have hd : decide ((nl a : Int) < (nl b : Int)) = false := by simp; omega
    have hd2 : decide ((16384 : Int) < (nl a : Int)) = false := by simp; omega
    have CC := conv_c A c a B d b w hA hB hG ha hb
    replace CC := Lib.hid CC
    go_enter Tryz.func134, Tryz.ntmps134
    go_wp2_with (fail)
    refine CC.out.mono ?_
    rintro e w1 ⟨X, cx, n, L, rfl, hLl, hX, hLm, hnc, hn, hv, hb1⟩
    go_wp2_with (fail)
    refine (carry_c X n cx L w1 hLl hX hLm (by omega) hnc).mono ?_
    rintro e w2 ⟨Y, cy, rfl, h1, h2⟩
    go_wp2_with (fail)
    go_ret
    rw [← hv]
    exact ⟨Y, cy, rfl, h1, hb1.cons h2⟩
end Go.Proofs.YtacjfpibilolnaaGreatDoor

/- The product by whichever way is best; powers. -/
set_option linter.unusedVariables false
set_option linter.unusedSimpArgs false
namespace Go.Proofs.YtacjfpibilolnaaGreatDoor
open Go.RowKit Go.Shelf
attribute [local go_sem] max2_i min2_i max_two min_two

theorem mul_c (A : Option Addr) (c a : Nat) (B : Option Addr) (d b : Nat) (w : World) (hA : NatV w A c a) (hB : NatV w B d b) (hG : Flds w) (ha : nl a ≤ 16384) (hb : nl b ≤ 16384) :
    Calls Tryz.prog 121 #[.slice A (nl a) c, .slice B (nl b) d] w (RetN w (a * b)) := by
  have hb0 : Below w.heap.size w (w.alloc (.cells #[.int .i64 48, .func (.func 134) #[] #[], .int .i64 14, .func (.func 135) #[] #[], .int .i64 8, .func (.func 136) #[] #[]] 122)) := (Below.refl _ _).alloc (Nat.le_refl _) _
  have hob := heap_alloc_new w (.cells #[.int .i64 48, .func (.func 134) #[] #[], .int .i64 14, .func (.func 135) #[] #[], .int .i64 8, .func (.func 136) #[] #[]] 122)
  have hu := Tryz.underlying122
  obtain ⟨m, hm⟩ : ∃ m, m = min (nl a) (nl b) := ⟨_, rfl⟩
  have hmI : min (nl a : Int) (nl b : Int) = (m : Int) := by omega
  have HM := Lib.hid hm
  clear hm
  go_enter Tryz.func121, Tryz.ntmps121
  go_wp2_with (fail)
  obtain ⟨s, hs⟩ : ∃ s, s = w.heap.size := ⟨_, rfl⟩
  rw [← hs] at hob ⊢
  replace hs := Lib.hid hs
  generalize w.alloc (.cells #[.int .i64 48, .func (.func 134) #[] #[], .int .i64 14, .func (.func 135) #[] #[], .int .i64 8, .func (.func 136) #[] #[]] 122) = W0 at *
  have k0 : W0.cell? ⟨s, 0, none⟩ = some (.int .i64 48) := by unfold World.cell?; rw [hob]; rfl
  have k1 : W0.cell? ⟨s, 1, none⟩ = some (.func (.func 134) #[] #[]) := by unfold World.cell?; rw [hob]; rfl
  have k2 : W0.cell? ⟨s, 2, none⟩ = some (.int .i64 14) := by unfold World.cell?; rw [hob]; rfl
  have k3 : W0.cell? ⟨s, 3, none⟩ = some (.func (.func 135) #[] #[]) := by unfold World.cell?; rw [hob]; rfl
  have k4 : W0.cell? ⟨s, 4, none⟩ = some (.int .i64 8) := by unfold World.cell?; rw [hob]; rfl
  have k5 : W0.cell? ⟨s, 5, none⟩ = some (.func (.func 136) #[] #[]) := by unfold World.cell?; rw [hob]; rfl
  clear hob
  go_loopw [6, 12] (fun v6 ct wr => ∃ i : Nat, ct = .int .i64 i ∧ i ≤ 3 ∧ Below W0.heap.size W0 wr) (fun v6 ct wr => 3 - (intOf ct).toNat)
  case atStart => exact ⟨0, rfl, by decide, .refl _ _⟩
  case round =>
    obtain ⟨i, rfl, hi, hbr⟩ := hrel
    have hbT := hb0.cons hbr
    by_cases hlt : i < 3
    · rcases i with _ | _ | _ | i
      · have hbB : Below wr.heap.size wr (wr.alloc (.cells #[.int .i64 48, .func (.func 134) #[] #[]] 122)) := (Below.refl _ _).alloc (Nat.le_refl _) _
        have hoB := heap_alloc_new wr (.cells #[.int .i64 48, .func (.func 134) #[] #[]] 122)
        have b0 : (wr.alloc (.cells #[.int .i64 48, .func (.func 134) #[] #[]] 122)).cell? ⟨wr.heap.size, 0, none⟩ = some (.int .i64 48) := by unfold World.cell?; rw [hoB]; rfl
        have b1 : (wr.alloc (.cells #[.int .i64 48, .func (.func 134) #[] #[]] 122)).cell? ⟨wr.heap.size, 1, none⟩ = some (.func (.func 134) #[] #[]) := by unfold World.cell?; rw [hoB]; rfl
        have q0 := cbl hbr k0
        have q1 := cbl hbr k1
        clear hoB
        by_cases hn : 48 ≤ m
        · have hd : decide ((48 : Int) ≤ (m : Int)) = true := by simp; omega
          have CC := fast_c A c a B d b _ ((hA.below hbT).below hbB) ((hB.below hbT).below hbB) ((hG.below hbT).below hbB) ha hb
          replace CC := Lib.hid CC
          go_wp2_with (fail)
          refine CC.out.mono ?_
          rintro e w2 ⟨Y, cy, rfl, h1, h2⟩
          go_wp2_with (fail)
          go_ret
          exact ⟨Y, cy, rfl, h1, (hbT.cons hbB).cons h2⟩
        · have hd : decide ((48 : Int) ≤ (m : Int)) = false := by simp; omega
          go_wp2_with (fail)
          go_roundw
          case rel => exact ⟨1, by go_num, by decide, hbr.cons hbB⟩
          case measure => simp only [intOf]; decide
      · have hbB : Below wr.heap.size wr (wr.alloc (.cells #[.int .i64 14, .func (.func 135) #[] #[]] 122)) := (Below.refl _ _).alloc (Nat.le_refl _) _
        have hoB := heap_alloc_new wr (.cells #[.int .i64 14, .func (.func 135) #[] #[]] 122)
        have b0 : (wr.alloc (.cells #[.int .i64 14, .func (.func 135) #[] #[]] 122)).cell? ⟨wr.heap.size, 0, none⟩ = some (.int .i64 14) := by unfold World.cell?; rw [hoB]; rfl
        have b1 : (wr.alloc (.cells #[.int .i64 14, .func (.func 135) #[] #[]] 122)).cell? ⟨wr.heap.size, 1, none⟩ = some (.func (.func 135) #[] #[]) := by unfold World.cell?; rw [hoB]; rfl
        have q0 := cbl hbr k2
        have q1 := cbl hbr k3
        clear hoB
        by_cases hn : 14 ≤ m
        · have hd : decide ((14 : Int) ≤ (m : Int)) = true := by simp; omega
          have CC := toom_c 16384 A c a B d b _ ((hA.below hbT).below hbB) ((hB.below hbT).below hbB) ha hb (by decide)
          replace CC := Lib.hid CC
          go_wp2_with (fail)
          refine CC.out.mono ?_
          rintro e w2 ⟨Y, cy, rfl, h1, h2⟩
          go_wp2_with (fail)
          go_ret
          exact ⟨Y, cy, rfl, h1, (hbT.cons hbB).cons h2⟩
        · have hd : decide ((14 : Int) ≤ (m : Int)) = false := by simp; omega
          go_wp2_with (fail)
          go_roundw
          case rel => exact ⟨2, by go_num, by decide, hbr.cons hbB⟩
          case measure => simp only [intOf]; decide
      · have hbB : Below wr.heap.size wr (wr.alloc (.cells #[.int .i64 8, .func (.func 136) #[] #[]] 122)) := (Below.refl _ _).alloc (Nat.le_refl _) _
        have hoB := heap_alloc_new wr (.cells #[.int .i64 8, .func (.func 136) #[] #[]] 122)
        have b0 : (wr.alloc (.cells #[.int .i64 8, .func (.func 136) #[] #[]] 122)).cell? ⟨wr.heap.size, 0, none⟩ = some (.int .i64 8) := by unfold World.cell?; rw [hoB]; rfl
        have b1 : (wr.alloc (.cells #[.int .i64 8, .func (.func 136) #[] #[]] 122)).cell? ⟨wr.heap.size, 1, none⟩ = some (.func (.func 136) #[] #[]) := by unfold World.cell?; rw [hoB]; rfl
        have q0 := cbl hbr k4
        have q1 := cbl hbr k5
        clear hoB
        by_cases hn : 8 ≤ m
        · have hd : decide ((8 : Int) ≤ (m : Int)) = true := by simp; omega
          have CC := karatsuba_c 16384 A c a B d b _ ((hA.below hbT).below hbB) ((hB.below hbT).below hbB) ha hb (by decide)
          replace CC := Lib.hid CC
          go_wp2_with (fail)
          refine CC.out.mono ?_
          rintro e w2 ⟨Y, cy, rfl, h1, h2⟩
          go_wp2_with (fail)
          go_ret
          exact ⟨Y, cy, rfl, h1, (hbT.cons hbB).cons h2⟩
        · have hd : decide ((8 : Int) ≤ (m : Int)) = false := by simp; omega
          go_wp2_with (fail)
          go_roundw
          case rel => exact ⟨3, by go_num, by decide, hbr.cons hbB⟩
          case measure => simp only [intOf]; decide
      · omega
    · obtain rfl : i = 3 := by omega
      have CC := school_c A c a B d b wr (hA.below hbT) (hB.below hbT) (by omega) (by omega)
      replace CC := Lib.hid CC
      go_wp2_with (fail)
      refine CC.out.mono ?_
      rintro e w2 ⟨Y, cy, rfl, h1, h2⟩
      go_wp2_with (fail)
      go_ret
      exact ⟨Y, cy, rfl, h1, hbT.cons h2⟩
end Go.Proofs.YtacjfpibilolnaaGreatDoor

/- Whole numbers and dyadic numbers, walked: Mul. -/
set_option linter.unusedVariables false
set_option linter.unusedSimpArgs false
namespace Go.Proofs.YtacjfpibilolnaaGreatDoor
open Go.RowKit Go.Shelf
attribute [local go_sem] max2_i min2_i max_two min_two

theorem imul_c (aA : Option Addr) (ac : Nat) (a : Int) (bA : Option Addr) (bc : Nat) (b : Int) (w : World) (ha : NatV w aA ac (mg a)) (hb : NatV w bA bc (mg b)) (hG : Flds w) (la : nl (mg a) ≤ 16384) (lb : nl (mg b) ≤ 16384) :
    Calls Tryz.prog 93 #[.agg #[.bool (sg a), .slice aA (nl (mg a)) ac], .agg #[.bool (sg b), .slice bA (nl (mg b)) bc]] w (RetI w (a * b)) := by
  obtain ⟨ns, Ens⟩ : ∃ x, x = (sg a != sg b) := ⟨_, rfl⟩
  have Ins : (sg a != sg b) = ns := Ens.symm
  have Ins2 : (!(sg a == sg b)) = ns := Ens.symm
  have hv := ival_mul a b
  rw [Ins] at hv
  replace hv := Lib.hid hv
  replace Ens := Lib.hid Ens
  obtain ⟨hb1, Ra, Rb, Rr⟩ := bx3 w #[.bool (sg a), .slice aA (nl (mg a)) ac] 24 #[.bool (sg b), .slice bA (nl (mg b)) bc] 24 #[.bool false, .slice none 0 0] 24
  replace ha := ha.below hb1
  replace hb := hb.below hb1
  replace hG := hG.below hb1
  have HBT := hb1
  clear hb1
  have qa0 := Ra.c (i := 0) rfl
  have qa1 := Ra.c (i := 1) rfl
  have qb0 := Rb.c (i := 0) rfl
  have qb1 := Rb.c (i := 1) rfl
  have qr0 := Rr.c (i := 0) rfl
  have qr1 := Rr.c (i := 1) rfl
  go_enter Tryz.func93, Tryz.ntmps93
  go_wp2_with (fail)
  have hd2 := drb ((((w.alloc (.cells #[.bool (sg a), .slice aA (nl (mg a)) ac] 24)).alloc (.cells #[.bool (sg b), .slice bA (nl (mg b)) bc] 24)).alloc (.cells #[.bool false, .slice none 0 0] 24)))
  replace ha := ha.below hd2
  replace hb := hb.below hd2
  replace hG := hG.below hd2
  replace Ra := Ra.below hd2
  replace qa0 := cbl hd2 qa0
  replace qa1 := cbl hd2 qa1
  replace Rb := Rb.below hd2
  replace qb0 := cbl hd2 qb0
  replace qb1 := cbl hd2 qb1
  replace Rr := Rr.below hd2
  replace qr0 := cbl hd2 qr0
  replace qr1 := cbl hd2 qr1
  replace HBT := Below.cons HBT hd2
  clear hd2
  obtain ⟨n, En⟩ : ∃ zq : Nat, zq = mg a * mg b := ⟨_, rfl⟩
  have Bn : nl n ≤ 32768 := by rw [En]; have := nl_mul (mg a) (mg b); omega
  have C2_0 := fun (W : World) (h1 : NatV W aA ac (mg a)) (h2 : NatV W bA bc (mg b)) (h3 : Flds W) => mul_c aA ac (mg a) bA bc (mg b) W h1 h2 h3 (by omega) (by omega)
  simp only [← En] at C2_0
  replace En := Lib.hid En
  replace C2_0 := Lib.hid C2_0
  obtain ⟨z, Ez⟩ : ∃ zq : Int, zq = ival ns n := ⟨_, rfl⟩
  have C2_1 := fun (W : World) (A : Option Addr) (c : Nat) (h1 : NatV W A c n) => imake_c ns A c n W h1 (by omega)
  simp only [← Ez] at C2_1
  replace Ez := Lib.hid Ez
  replace C2_1 := Lib.hid C2_1
  go_region_held3 (fun W => W.cell? ⟨w.heap.size, 0, none⟩ = some (.bool (sg a)) ∧ W.cell? ⟨(w.heap.size + 1), 0, none⟩ = some (.bool (sg b)) ∧ W.cell? ⟨w.heap.size, 1, none⟩ = some (.slice aA (nl (mg a)) ac) ∧ W.cell? ⟨(w.heap.size + 1), 1, none⟩ = some (.slice bA (nl (mg b)) bc))
    (first
      | exact ⟨qa0, qb0, qa1, qb1⟩
      | exact ⟨qa0_3, qb0_3, qa1_3, qb1_3⟩
      | exact ⟨qa0_4, qb0_4, qa1_4, qb1_4⟩
      | exact ⟨((Ra_4.other2 (by simp <;> omega)).c (i := 0) rfl), ((Rb_4.other2 (by simp <;> omega)).c (i := 0) rfl), ((Ra_4.other2 (by simp <;> omega)).c (i := 1) rfl), ((Rb_4.other2 (by simp <;> omega)).c (i := 1) rfl)⟩
      | go_keep)
    (first
      | (go_at_call 121; (with_reducible refine (C2_0.out _ ha hb hG).mono ?_); rintro e W3 ⟨Xn, cn, rfl, hn, hb3⟩; have ha_3 := ha.below hb3; have hb_3 := hb.below hb3; have hG_3 := hG.below hb3; have Ra_3 := Ra.below hb3; have qa0_3 := cbl hb3 qa0; have qa1_3 := cbl hb3 qa1; have Rb_3 := Rb.below hb3; have qb0_3 := cbl hb3 qb0; have qb1_3 := cbl hb3 qb1; have Rr_3 := Rr.below hb3; have qr0_3 := cbl hb3 qr0; have qr1_3 := cbl hb3 qr1; have HBT_3 := Below.cons HBT hb3)
      | (go_at_call 64; (with_reducible refine (C2_1.out _ _ _ hn).mono ?_); rintro e W4 ⟨Xz, cz, rfl, hz, hb4⟩; have ha_4 := ha_3.below hb4; have hb_4 := hb_3.below hb4; have hG_4 := hG_3.below hb4; have Ra_4 := Ra_3.below hb4; have qa0_4 := cbl hb4 qa0_3; have qa1_4 := cbl hb4 qa1_3; have Rb_4 := Rb_3.below hb4; have qb0_4 := cbl hb4 qb0_3; have qb1_4 := cbl hb4 qb1_3; have Rr_4 := Rr_3.below hb4; have qr0_4 := cbl hb4 qr0_3; have qr1_4 := cbl hb4 qr1_3; have hn_4 := hn.below hb4; have HBT_4 := Below.cons HBT_3 hb4; have fz0 := Rr_4.f (i := 0); have fz1 := Rr_4.f (i := 1)))
  all_goals (try go_wp2_with (fail))
  have hzz : z = a * b := by rw [Ez.out, En.out]; exact hv.out
  subst hzz
  have RS := Rr_4.store2 (.bool (sg ((a * b)))) (.slice Xz (nl (mg ((a * b)))) cz)
  have e0 := RS.c (i := 0) rfl
  have e1 := RS.c (i := 1) rfl
  refine bodyPost_ret (v := .agg #[.bool (sg ((a * b))), .slice Xz (nl (mg ((a * b)))) cz]) (by simp [results, Tryz.results93, go_sem, e0, e1]) rfl ?_
  exact ⟨Xz, cz, rfl, (Rr_4.keep2 (nuB rfl) hz), (Below.store2 HBT_4 (by first | exact Nat.le_refl _ | omega))⟩
theorem dmul_val {a b : Rat} (ha : Dyd a) (hb : Dyd b) : dval (dmn a * dmn b) (dex a + dex b) = a * b := by
  conv => rhs; rw [← dval_q ha, ← dval_q hb]
  unfold dval
  rw [Rat.intCast_mul, zp_add]
  generalize ((dmn a : Int) : Rat) = x
  generalize ((dmn b : Int) : Rat) = y
  generalize (2 : Rat) ^ dex a = u
  generalize (2 : Rat) ^ dex b = v
  grind
theorem dmul_c (aA : Option Addr) (ac : Nat) (a : Rat) (bA : Option Addr) (bc : Nat) (b : Rat) (w : World) (ha : NatV w aA ac (mg (dmn a))) (hb : NatV w bA bc (mg (dmn b))) (oa : DOk a) (ob : DOk b) (la : nl (mg (dmn a)) ≤ 16384) (lb : nl (mg (dmn b)) ≤ 16384) (hT : Tab w) (hG : Flds w) :
    Calls Tryz.prog 51 #[.agg #[.bool (sg (dmn a)), .slice aA (nl (mg (dmn a))) ac, .int .i64 (dex a)], .agg #[.bool (sg (dmn b)), .slice bA (nl (mg (dmn b))) bc, .int .i64 (dex b)]] w (RetD w (a * b)) := by
  have ea := oa.e
  have eb := ob.e
  have hv := dmul_val oa.d ob.d
  obtain ⟨x, Ex⟩ : ∃ x, x = dex a + dex b := ⟨_, rfl⟩
  have Ix : dex a + dex b = x := Ex.symm
  have hx : -1073741824 ≤ x ∧ x ≤ 1073741824 := by omega
  rw [Ix] at hv
  have Wx : IntKind.i64.wrap x = x := IntWalk.i64_in _ (by omega)
  replace hv := Lib.hid hv
  replace oa := Lib.hid oa
  replace ob := Lib.hid ob
  replace Ex := Lib.hid Ex
  obtain ⟨hb1, Ra, Rb, Rr⟩ := bx3 w #[.bool (sg (dmn a)), .slice aA (nl (mg (dmn a))) ac, .int .i64 (dex a)] 28 #[.bool (sg (dmn b)), .slice bA (nl (mg (dmn b))) bc, .int .i64 (dex b)] 28 #[.bool false, .slice none 0 0, .int .i64 0] 28
  replace ha := ha.below hb1
  replace hb := hb.below hb1
  replace hT := hT.below hb1
  replace hG := hG.below hb1
  have HBT := hb1
  clear hb1
  have qa0 := Ra.c (i := 0) rfl
  have qa1 := Ra.c (i := 1) rfl
  have qa2 := Ra.c (i := 2) rfl
  have qb0 := Rb.c (i := 0) rfl
  have qb1 := Rb.c (i := 1) rfl
  have qb2 := Rb.c (i := 2) rfl
  have qr0 := Rr.c (i := 0) rfl
  have qr1 := Rr.c (i := 1) rfl
  have qr2 := Rr.c (i := 2) rfl
  go_enter Tryz.func51, Tryz.ntmps51
  go_wp2_with (fail)
  have hd2 := drb ((((w.alloc (.cells #[.bool (sg (dmn a)), .slice aA (nl (mg (dmn a))) ac, .int .i64 (dex a)] 28)).alloc (.cells #[.bool (sg (dmn b)), .slice bA (nl (mg (dmn b))) bc, .int .i64 (dex b)] 28)).alloc (.cells #[.bool false, .slice none 0 0, .int .i64 0] 28)))
  replace ha := ha.below hd2
  replace hb := hb.below hd2
  replace hT := hT.below hd2
  replace hG := hG.below hd2
  replace Ra := Ra.below hd2
  replace qa0 := cbl hd2 qa0
  replace qa1 := cbl hd2 qa1
  replace qa2 := cbl hd2 qa2
  replace Rb := Rb.below hd2
  replace qb0 := cbl hd2 qb0
  replace qb1 := cbl hd2 qb1
  replace qb2 := cbl hd2 qb2
  replace Rr := Rr.below hd2
  replace qr0 := cbl hd2 qr0
  replace qr1 := cbl hd2 qr1
  replace qr2 := cbl hd2 qr2
  replace HBT := Below.cons HBT hd2
  clear hd2
  obtain ⟨n, En⟩ : ∃ zq : Int, zq = dmn a * dmn b := ⟨_, rfl⟩
  have Bn : nl (mg n) ≤ 32768 := by rw [En, mg_mul]; have := nl_mul (mg (dmn a)) (mg (dmn b)); omega
  have C2_0 := fun (W : World) (h1 : NatV W aA ac (mg (dmn a))) (h2 : NatV W bA bc (mg (dmn b))) (h3 : Flds W) => imul_c aA ac (dmn a) bA bc (dmn b) W h1 h2 h3 (by omega) (by omega)
  simp only [← En] at C2_0
  replace En := Lib.hid En
  replace C2_0 := Lib.hid C2_0
  obtain ⟨z, Ez⟩ : ∃ zq : Rat, zq = dval n x := ⟨_, rfl⟩
  have C2_1 := fun (W : World) (A : Option Addr) (c : Nat) (h1 : NatV W A c (mg n)) (h2 : Tab W) => dmake_c A c n x W h1 h2 (by omega) hx
  simp only [← Ez] at C2_1
  replace Ez := Lib.hid Ez
  replace C2_1 := Lib.hid C2_1
  go_region_held3 (fun W => W.cell? ⟨w.heap.size, 0, none⟩ = some (.bool (sg (dmn a))) ∧ W.cell? ⟨w.heap.size, 1, none⟩ = some (.slice aA (nl (mg (dmn a))) ac) ∧ W.cell? ⟨w.heap.size, 2, none⟩ = some (.int .i64 (dex a)) ∧ W.cell? ⟨(w.heap.size + 1), 0, none⟩ = some (.bool (sg (dmn b))) ∧ W.cell? ⟨(w.heap.size + 1), 1, none⟩ = some (.slice bA (nl (mg (dmn b))) bc) ∧ W.cell? ⟨(w.heap.size + 1), 2, none⟩ = some (.int .i64 (dex b)))
    (first
      | exact ⟨qa0, qa1, qa2, qb0, qb1, qb2⟩
      | exact ⟨qa0_3, qa1_3, qa2_3, qb0_3, qb1_3, qb2_3⟩
      | exact ⟨qa0_4, qa1_4, qa2_4, qb0_4, qb1_4, qb2_4⟩
      | exact ⟨((Ra_4.other3 (by simp <;> omega)).c (i := 0) rfl), ((Ra_4.other3 (by simp <;> omega)).c (i := 1) rfl), ((Ra_4.other3 (by simp <;> omega)).c (i := 2) rfl), ((Rb_4.other3 (by simp <;> omega)).c (i := 0) rfl), ((Rb_4.other3 (by simp <;> omega)).c (i := 1) rfl), ((Rb_4.other3 (by simp <;> omega)).c (i := 2) rfl)⟩
      | go_keep)
    (first
      | (go_at_call 93; (with_reducible refine (C2_0.out _ ha hb hG).mono ?_); rintro e W3 ⟨Xn, cn, rfl, hn, hb3⟩; have ha_3 := ha.below hb3; have hb_3 := hb.below hb3; have hT_3 := hT.below hb3; have hG_3 := hG.below hb3; have Ra_3 := Ra.below hb3; have qa0_3 := cbl hb3 qa0; have qa1_3 := cbl hb3 qa1; have qa2_3 := cbl hb3 qa2; have Rb_3 := Rb.below hb3; have qb0_3 := cbl hb3 qb0; have qb1_3 := cbl hb3 qb1; have qb2_3 := cbl hb3 qb2; have Rr_3 := Rr.below hb3; have qr0_3 := cbl hb3 qr0; have qr1_3 := cbl hb3 qr1; have qr2_3 := cbl hb3 qr2; have HBT_3 := Below.cons HBT hb3)
      | (go_at_call 24; (with_reducible refine (C2_1.out _ _ _ hn hT_3).mono ?_); rintro e W4 ⟨Xz, cz, rfl, hz, hb4⟩; have ha_4 := ha_3.below hb4; have hb_4 := hb_3.below hb4; have hT_4 := hT_3.below hb4; have hG_4 := hG_3.below hb4; have Ra_4 := Ra_3.below hb4; have qa0_4 := cbl hb4 qa0_3; have qa1_4 := cbl hb4 qa1_3; have qa2_4 := cbl hb4 qa2_3; have Rb_4 := Rb_3.below hb4; have qb0_4 := cbl hb4 qb0_3; have qb1_4 := cbl hb4 qb1_3; have qb2_4 := cbl hb4 qb2_3; have Rr_4 := Rr_3.below hb4; have qr0_4 := cbl hb4 qr0_3; have qr1_4 := cbl hb4 qr1_3; have qr2_4 := cbl hb4 qr2_3; have hn_4 := hn.below hb4; have HBT_4 := Below.cons HBT_3 hb4; have fz0 := Rr_4.f (i := 0); have fz1 := Rr_4.f (i := 1); have fz2 := Rr_4.f (i := 2)))
  all_goals (try go_wp2_with (fail))
  have hzz : z = a * b := by rw [Ez.out, En.out]; exact hv.out
  subst hzz
  have RS := Rr_4.store3 (.bool (sg (dmn ((a * b))))) (.slice Xz (nl (mg (dmn ((a * b))))) cz) (.int .i64 (dex ((a * b))))
  have e0 := RS.c (i := 0) rfl
  have e1 := RS.c (i := 1) rfl
  have e2 := RS.c (i := 2) rfl
  refine bodyPost_ret (v := .agg #[.bool (sg (dmn ((a * b)))), .slice Xz (nl (mg (dmn ((a * b))))) cz, .int .i64 (dex ((a * b)))]) (by simp [results, Tryz.results51, go_sem, e0, e1, e2]) rfl ?_
  exact ⟨Xz, cz, rfl, (Rr_4.keep3 (nuB rfl) hz), (Below.store3 HBT_4 (by first | exact Nat.le_refl _ | omega))⟩
end Go.Proofs.YtacjfpibilolnaaGreatDoor

/- The library's table and the package's variable, as they were laid. -/
set_option linter.unusedVariables false
set_option linter.unusedSimpArgs false
namespace Go.Proofs.YtacjfpibilolnaaGreatDoor
open Go.RowKit Go.ChangeShapes Go.WideShapes Go.ChangeAt

theorem row_glob : Tryz.prog.globalNamed "ziggurat/ntt.fields" = some 1 := by kernel_rfl
theorem row_globT : (Tryz.prog.globals[1]?).map (·.type) = some 156 := by kernel_rfl
theorem tab_of_laid2 {W : World} (h : laidMetH Tryz.prog [("math/bits.deBruijn32tab", Rows.laid_math_bits_deBruijn32tab), ("ziggurat/ntt.fields", Rows.laid_ziggurat_ntt_fields)] W) : Tab W := by
  rw [MakeChecks.laidMetH_plain _ _ _ (by kernel_rfl)] at h
  obtain ⟨ps, ⟨g0, t0, cs0, f0, p0, q0, hg0, ht0, hv0, hd0, _, _⟩, _⟩ := h
  obtain rfl := Option.some.inj (row_globD.symm.trans hg0)
  obtain rfl := Option.some.inj (row_globDT.symm.trans ht0)
  obtain ⟨xs, n, _, hx, hl, hxs, he⟩ := DataW.trod_array Tryz.underlying120 hd0
  have h3 : Tryz.prog.cellsOf 120 = 32 := by kernel_rfl
  have cell := fun i => World.var?_cell hg0 hv0 i
  obtain ⟨cl⟩ := cs0
  simp only [row_cells8, Nat.mul_one] at he
  refine tab_core (t0 := 0) hxs (by rw [← h3]; exact hl) ?_ he (fun i => by simpa using cell i)
  simp only [Rows.laid_math_bits_deBruijn32tab, Prod.mk.injEq, DataW.agg.injEq] at hx
  exact hx.1.symm
/-- The package's variable, as it was laid, gives the cells that the walks read. -/
theorem flds_of_laid2 {W : World} (h : laidMetH Tryz.prog [("math/bits.deBruijn32tab", Rows.laid_math_bits_deBruijn32tab), ("ziggurat/ntt.fields", Rows.laid_ziggurat_ntt_fields)] W) : Flds W := by
  rw [MakeChecks.laidMetH_plain _ _ _ (by kernel_rfl)] at h
  obtain ⟨ps, ⟨_, _, _, _, _, _, _, _, _, _, hrest, _⟩, _⟩ := h
  obtain ⟨g0, t0, cs0, f0, p0, q0, hg0, ht0, hv0, hd0, _, _⟩ := hrest
  obtain rfl := Option.some.inj (row_glob.symm.trans hg0)
  obtain rfl := Option.some.inj (row_globT.symm.trans ht0)
  obtain ⟨xs, n, _, hx, hl, hxs, he⟩ := DataW.trod_array Tryz.underlying156 hd0
  have h3 : Tryz.prog.cellsOf 156 = 3 := by kernel_rfl
  have h1 : Tryz.prog.cellsOf 155 = 1 := by kernel_rfl
  have h0 : Tryz.prog.cellsOf 94 = 1 := by kernel_rfl
  have cell := fun i => World.var?_cell hg0 hv0 i
  obtain ⟨cl⟩ := cs0
  have hl' : cl.length = 3 := by rw [← h3]; exact hl
  match cl, hl' with
  | [c0, c1, c2], _ =>
    match xs, hxs with
    | [x0, x1, x2], _ =>
      have e0 := he 0 (by decide)
      have e1 := he 1 (by decide)
      have e2 := he 2 (by decide)
      rw [h1] at e0 e1 e2
      have one : ∀ (c : Value) (x : DataW Unit × List MemPlace) (z : Int), DataW.trod (fun _ => ()) Tryz.prog W 0 (fun _ => true) false n 155 [c] = some x → x.1 = .agg [.lit (.int .u64 z)] → c = .int .u64 z := by
        intro c x z hc hz
        obtain ⟨ys, n2, _, hy, _, hys, hey⟩ := DataW.trod_struct Tryz.underlying155 hc
        have e : DataW.trod (fun _ => ()) Tryz.prog W 0 (fun _ => true) false n2 94 (([c].drop 0).take (Tryz.prog.cellsOf 94)) = ys[0]? := hey 0 _ rfl
        rw [h0] at e
        match ys, hys with
        | [y], _ =>
          obtain ⟨z', hz1, hz2, _⟩ := DataW.trod_int Tryz.underlying94 (show DataW.trod (fun _ => ()) Tryz.prog W 0 (fun _ => true) false n2 94 [c] = some y from e)
          simp only [List.cons.injEq, and_true] at hz1
          rw [hy, hz2] at hz
          simp at hz
          rw [hz1, hz]
      simp only [Rows.laid_ziggurat_ntt_fields, Prod.mk.injEq, DataW.agg.injEq, List.map_cons, List.map_nil, List.cons.injEq, and_true] at hx
      obtain ⟨⟨hx0, hx1, hx2⟩, _⟩ := hx
      have k0 := one c0 x0 _ e0 hx0.symm
      have k1 := one c1 x1 _ e1 hx1.symm
      have k2 := one c2 x2 _ e2 hx2.symm
      subst k0 k1 k2
      exact ⟨cell 0, cell 1, cell 2⟩
theorem door_met2 (os : Os) (args : Array Value) : laidMetH Tryz.prog [("math/bits.deBruijn32tab", Rows.laid_math_bits_deBruijn32tab), ("ziggurat/ntt.fields", Rows.laid_ziggurat_ntt_fields)] ((World.doorLaid Tryz.prog 400 os).forCall (fun _ _ => 0) ⟨#[], args, []⟩).memory :=
  laidMetH_of_parts3 (fuel := 8) (laidMet_of_run' 8 (by kernel_rfl) (by kernel_rfl)) (by kernel_rfl) (by kernel_rfl)
end Go.Proofs.YtacjfpibilolnaaGreatDoor
