/- Halves: steps of two naturals that take about half of their limbs away. -/
import Derived.Test.YthcmoimlnhghcaaGreatDoorM04
import Derived.Deep.CutRange
import Derived.Test.YthcmoimlnhghcaaGreatDoorM01
import Derived.IntWalk
import Derived.Test.YthcmoimlnhghcaaGreatDoorM02
import Derived.Test.YthcmoimlnhghcaaGreatDoorM03
import Derived.Test.YthcmoimlnhghcaaGreatDoorRows
import Derived.ProofKit
import Derived.LaidMore
import Derived.OpenShut
import Derived.Stop.Joined
import Derived.Deep.Slices
import Derived.Below
import Derived.Carry
set_option maxRecDepth 100000
set_option maxHeartbeats 4000000
set_option linter.unusedVariables false
set_option linter.unusedSimpArgs false
namespace Go.Proofs.YthcmoimlnhghcaaGreatDoor
open Go.RowKit Go.Shelf
attribute [local go_sem] max2_i min2_i max_two min_two

/-- Of how many limbs at most the steps of halves are. -/
def hf (L : Nat) : Nat := [2, 2, 3, 4, 5, 6, 7, 8, 28, 32, 53, 60, 82, 92, 115, 166, 190, 250, 275, 378, 404, 522, 549, 712, 740, 924, 953, 1184, 1214, 1548, 1579, 1962, 1994, 2498, 2531, 3086, 3120, 3882, 3917, 4732, 4768].getD L 0
theorem hf_mono {i j : Nat} (h : i ≤ j) (hj : j ≤ 40) : hf i ≤ hf j := by
  have : ∀ j, j < 41 → ∀ i, i < 41 → i ≤ j → hf i ≤ hf j := by decide
  exact this j (by omega) i (by omega) h
theorem hf_step {L : Nat} (h8 : 8 ≤ L) (h : L ≤ 40) : hf (L - 2) + 2 * hf (L - L / 2) + L + 3 ≤ hf L := by
  have : ∀ L, L < 41 → 8 ≤ L → hf (L - 2) + 2 * hf (L - L / 2) + L + 3 ≤ hf L := by decide
  exact this L (by omega) h8
theorem hf_few {L : Nat} (h : L ≤ 40) : max 1 L ≤ hf L := by
  have : ∀ L, L < 41 → max 1 L ≤ hf L := by decide
  exact this L (by omega)
theorem hf_most {L : Nat} (h : L ≤ 40) : hf L ≤ 4768 := by
  have : ∀ L, L < 41 → hf L ≤ 4768 := by decide
  exact this L (by omega)
theorem halved_c (N : Nat) : N ≤ 40 → ∀ (aA : Option Addr) (ac a : Nat) (bA : Option Addr) (bc b : Nat) (w : World), nl a = N → b ≤ a → NatV w aA ac a → NatV w bA bc b → Flds w →
    Calls Tryz.prog 96 #[.slice aA (nl a) ac, .slice bA (nl b) bc] w fun e w' => ∃ m : Mx, m.U ∧ m.sz (hf N) ∧ RetM w m e w' := by
  induction N using Nat.strongRecOn with
  | ind N ih =>
    intro hN40 aA ac a bA bc b w hNa hba ha hb hG
    subst hNa
    have hG0 := hG
    have hbn := nl_mono hba
    have la : nl a ≤ 40 := by omega
    have lb : nl b ≤ 40 := Nat.le_trans (nl_mono hba) la
    obtain ⟨n, En⟩ : ∃ z, z = nl a / 2 := ⟨_, rfl⟩
    have In : (nl a : Int) / 2 = (n : Int) := by omega
    have Jn : (nl a : Int).tdiv 2 = (n : Int) := by rw [Int.tdiv_eq_ediv_of_nonneg (by omega)]; exact In
    have Wn : IntKind.i64.wrap (n : Int) = (n : Int) := IntWalk.i64_in _ (by omega)
    obtain ⟨n1, En1⟩ : ∃ z : Int, z = (n : Int) + 1 := ⟨_, rfl⟩
    have In1 : (n : Int) + 1 = n1 := En1.symm
    have Wn1 : IntKind.i64.wrap n1 = n1 := IntWalk.i64_in _ (by omega)
    replace En := Lib.hid En
    replace En1 := Lib.hid En1
    obtain ⟨hb1, Rr⟩ := bx1 w #[.bool false, .slice none 0 0, .bool false, .slice none 0 0, .bool false, .slice none 0 0, .bool false, .slice none 0 0] 89
    replace ha := ha.below hb1
    replace hb := hb.below hb1
    replace hG := hG.below hb1
    have HBT := hb1
    clear hb1
    by_cases h1 : nl b ≤ n + 1
    · skip
      have t1 : decide ((nl b : Int) ≤ n1) = true := by simp; omega
      have CW := few_c aA ac a bA bc b _ ha hb hG (by omega) (by omega)
      go_enter Tryz.func96, Tryz.ntmps96
      go_wp2_with (fail)
      refine (Calls.mono (CW) ?_)
      rintro e W2 ⟨m, Um, Sm, m0A, m0c, m1A, m1c, m2A, m2c, m3A, m3c, rfl, hm0, hm1, hm2, hm3, hb2⟩
      replace ha := ha.below hb2
      replace hb := hb.below hb2
      replace hG := hG.below hb2
      replace Rr := Rr.below hb2
      replace HBT := Below.cons HBT hb2
      clear hb2
      have fz0 := Rr.f (i := 0)
      have cz_0 := Rr.c (i := 0) rfl
      have fz1 := Rr.f (i := 1)
      have cz_1 := Rr.c (i := 1) rfl
      have fz2 := Rr.f (i := 2)
      have cz_2 := Rr.c (i := 2) rfl
      have fz3 := Rr.f (i := 3)
      have cz_3 := Rr.c (i := 3) rfl
      have fz4 := Rr.f (i := 4)
      have cz_4 := Rr.c (i := 4) rfl
      have fz5 := Rr.f (i := 5)
      have cz_5 := Rr.c (i := 5) rfl
      have fz6 := Rr.f (i := 6)
      have cz_6 := Rr.c (i := 6) rfl
      have fz7 := Rr.f (i := 7)
      have cz_7 := Rr.c (i := 7) rfl
      go_wp2_with (fail)
      have RS := Rr.store8 (.bool (sg m.a)) (.slice m0A (nl (mg m.a)) m0c) (.bool (sg m.b)) (.slice m1A (nl (mg m.b)) m1c) (.bool (sg m.c)) (.slice m2A (nl (mg m.c)) m2c) (.bool (sg m.d)) (.slice m3A (nl (mg m.d)) m3c)
      have e0 := RS.c (i := 0) rfl
      have e1 := RS.c (i := 1) rfl
      have e2 := RS.c (i := 2) rfl
      have e3 := RS.c (i := 3) rfl
      have e4 := RS.c (i := 4) rfl
      have e5 := RS.c (i := 5) rfl
      have e6 := RS.c (i := 6) rfl
      have e7 := RS.c (i := 7) rfl
      refine bodyPost_ret (v := .agg #[.bool (sg m.a), .slice m0A (nl (mg m.a)) m0c, .bool (sg m.b), .slice m1A (nl (mg m.b)) m1c, .bool (sg m.c), .slice m2A (nl (mg m.c)) m2c, .bool (sg m.d), .slice m3A (nl (mg m.d)) m3c]) (by simp [results, Tryz.results96, go_sem, e0, e1, e2, e3, e4, e5, e6, e7]) rfl ?_
      exact ⟨m, Um, Sm.mono (by have h1 := nl_mono hba; have h2 := hf_few hN40; omega), m0A, m0c, m1A, m1c, m2A, m2c, m3A, m3c, rfl, Rr.keep8 (lista8 _ rfl) hm0, Rr.keep8 (lista8 _ rfl) hm1, Rr.keep8 (lista8 _ rfl) hm2, Rr.keep8 (lista8 _ rfl) hm3, Below.store8 HBT (by first | exact Nat.le_refl _ | omega)⟩
    · skip
      have t1 : decide ((nl b : Int) ≤ n1) = false := by simp; omega
      by_cases h2 : nl a < 8
      · skip
        have t2 : decide ((nl a : Int) < 8) = true := by simp; omega
        have t2' : decide (nl a < 8) = true := by simp; omega
        have CW := few_c aA ac a bA bc b _ ha hb hG (by omega) (by omega)
        go_enter Tryz.func96, Tryz.ntmps96
        go_wp2_with (fail)
        refine (Calls.mono (CW) ?_)
        rintro e W2 ⟨m, Um, Sm, m0A, m0c, m1A, m1c, m2A, m2c, m3A, m3c, rfl, hm0, hm1, hm2, hm3, hb2⟩
        replace ha := ha.below hb2
        replace hb := hb.below hb2
        replace hG := hG.below hb2
        replace Rr := Rr.below hb2
        replace HBT := Below.cons HBT hb2
        clear hb2
        have fz0 := Rr.f (i := 0)
        have cz_0 := Rr.c (i := 0) rfl
        have fz1 := Rr.f (i := 1)
        have cz_1 := Rr.c (i := 1) rfl
        have fz2 := Rr.f (i := 2)
        have cz_2 := Rr.c (i := 2) rfl
        have fz3 := Rr.f (i := 3)
        have cz_3 := Rr.c (i := 3) rfl
        have fz4 := Rr.f (i := 4)
        have cz_4 := Rr.c (i := 4) rfl
        have fz5 := Rr.f (i := 5)
        have cz_5 := Rr.c (i := 5) rfl
        have fz6 := Rr.f (i := 6)
        have cz_6 := Rr.c (i := 6) rfl
        have fz7 := Rr.f (i := 7)
        have cz_7 := Rr.c (i := 7) rfl
        go_wp2_with (fail)
        have RS := Rr.store8 (.bool (sg m.a)) (.slice m0A (nl (mg m.a)) m0c) (.bool (sg m.b)) (.slice m1A (nl (mg m.b)) m1c) (.bool (sg m.c)) (.slice m2A (nl (mg m.c)) m2c) (.bool (sg m.d)) (.slice m3A (nl (mg m.d)) m3c)
        have e0 := RS.c (i := 0) rfl
        have e1 := RS.c (i := 1) rfl
        have e2 := RS.c (i := 2) rfl
        have e3 := RS.c (i := 3) rfl
        have e4 := RS.c (i := 4) rfl
        have e5 := RS.c (i := 5) rfl
        have e6 := RS.c (i := 6) rfl
        have e7 := RS.c (i := 7) rfl
        refine bodyPost_ret (v := .agg #[.bool (sg m.a), .slice m0A (nl (mg m.a)) m0c, .bool (sg m.b), .slice m1A (nl (mg m.b)) m1c, .bool (sg m.c), .slice m2A (nl (mg m.c)) m2c, .bool (sg m.d), .slice m3A (nl (mg m.d)) m3c]) (by simp [results, Tryz.results96, go_sem, e0, e1, e2, e3, e4, e5, e6, e7]) rfl ?_
        exact ⟨m, Um, Sm.mono (by have h1 := nl_mono hba; have h2 := hf_few hN40; omega), m0A, m0c, m1A, m1c, m2A, m2c, m3A, m3c, rfl, Rr.keep8 (lista8 _ rfl) hm0, Rr.keep8 (lista8 _ rfl) hm1, Rr.keep8 (lista8 _ rfl) hm2, Rr.keep8 (lista8 _ rfl) hm3, Below.store8 HBT (by first | exact Nat.le_refl _ | omega)⟩
      · skip
        have t2 : decide ((nl a : Int) < 8) = false := by simp; omega
        have t2' : decide (nl a < 8) = false := by simp; omega
        have hN8 : 8 ≤ (nl a) := by omega
        have hst := hf_step hN8 hN40
        have hnN : (nl a) / 2 = n := En.out.symm
        rw [hnN] at hst
        have hmo := hf_most hN40
        obtain ⟨k32, Ek⟩ : ∃ z : Nat, z = 32 * n := ⟨_, rfl⟩
        have Ik : (32 : Int) * (n : Int) = (k32 : Int) := by omega
        have Wk : IntKind.i64.wrap (k32 : Int) = (k32 : Int) := IntWalk.i64_in _ (by omega)
        have CS := fun (x : Nat) (A : Option Addr) (c : Nat) (W : World) (h : NatV W A c x) (hx : nl x ≤ 1073741824) => shr_ci A c x (k32 : Int) W h hx (Int.natCast_nonneg _) (by omega)
        simp only [Int.toNat_natCast] at CS
        obtain ⟨fb, Efb⟩ : ∃ z, z = hf ((nl a) - n) := ⟨_, rfl⟩
        have hfb := hf_most (show (nl a) - n ≤ 40 by omega)
        rw [← Efb] at hst hfb
        have hsha : nl (a / 2 ^ k32) ≤ (nl a) - n := by rw [Ek]; exact nl_shr32 a n
        have hshb : b / 2 ^ k32 ≤ a / 2 ^ k32 := Nat.div_le_div_right hba
        replace Ek := Lib.hid Ek
        replace CS := Lib.hid CS
        replace Efb := Lib.hid Efb
        replace hnN := Lib.hid hnN
        replace hst := Lib.hid hst
        go_enter Tryz.func96, Tryz.ntmps96
        go_wp2_with (fail)
        obtain ⟨u, Eu⟩ : ∃ zq : Nat, zq = a / 2 ^ k32 := ⟨_, rfl⟩
        refine (Calls.mono (R := RetN (w.alloc (.cells #[.bool false, .slice none 0 0, .bool false, .slice none 0 0, .bool false, .slice none 0 0, .bool false, .slice none 0 0] 89)) u) (by rw [Eu]; with_reducible exact (CS.out a aA ac _ ha (by omega))) ?_)
        replace Eu := Lib.hid Eu
        rintro e W2 ⟨Xu, cu, rfl, hu, hb2⟩
        replace ha := ha.below hb2
        replace hb := hb.below hb2
        replace hG := hG.below hb2
        replace Rr := Rr.below hb2
        replace HBT := Below.cons HBT hb2
        clear hb2
        go_wp2_with (fail)
        obtain ⟨v, Ev⟩ : ∃ zq : Nat, zq = b / 2 ^ k32 := ⟨_, rfl⟩
        refine (Calls.mono (R := RetN W2 v) (by rw [Ev]; with_reducible exact (CS.out b bA bc _ hb (by omega))) ?_)
        replace Ev := Lib.hid Ev
        rintro e W3 ⟨Xv, cv, rfl, hv, hb3⟩
        replace ha := ha.below hb3
        replace hb := hb.below hb3
        replace hG := hG.below hb3
        replace Rr := Rr.below hb3
        replace hu := hu.below hb3
        replace HBT := Below.cons HBT hb3
        clear hb3
        go_wp2_with (fail)
        have hu1 : nl u ≤ (nl a) - n := by rw [Eu.out]; exact hsha
        have hvu : v ≤ u := by rw [Eu.out, Ev.out]; exact hshb
        clear hsha hshb
        have CH := ih (nl u) (by omega) (by omega) Xu cu u Xv cv v _ rfl hvu hu hv hG
        have Sm0 : hf (nl u) ≤ fb := by rw [Efb.out]; exact hf_mono hu1 (by omega)
        replace CH := Lib.hid CH
        replace Sm0 := Lib.hid Sm0
        refine (Calls.mono (CH.out) ?_)
        rintro e W4 ⟨m, Um, Sm, m0A, m0c, m1A, m1c, m2A, m2c, m3A, m3c, rfl, hm0, hm1, hm2, hm3, hb4⟩
        replace ha := ha.below hb4
        replace hb := hb.below hb4
        replace hG := hG.below hb4
        replace Rr := Rr.below hb4
        replace hu := hu.below hb4
        replace hv := hv.below hb4
        replace HBT := Below.cons HBT hb4
        clear hb4
        replace Sm := Sm.mono Sm0.out
        clear CH Sm0
        clear hu
        clear hv
        have ltr := Rr.lt
        have fbig : fb ≤ 4768 := hfb
        obtain ⟨hb5, Rm⟩ := bx1 W4 #[.bool (sg m.a), .slice m0A (nl (mg m.a)) m0c, .bool (sg m.b), .slice m1A (nl (mg m.b)) m1c, .bool (sg m.c), .slice m2A (nl (mg m.c)) m2c, .bool (sg m.d), .slice m3A (nl (mg m.d)) m3c] 89
        replace ha := ha.below hb5
        replace hb := hb.below hb5
        replace hG := hG.below hb5
        replace Rr := Rr.below hb5
        replace hm0 := hm0.below hb5
        replace hm1 := hm1.below hb5
        replace hm2 := hm2.below hb5
        replace hm3 := hm3.below hb5
        replace HBT := Below.cons HBT hb5
        clear hb5
        have qm0 := Rm.c (i := 0) rfl
        have qm1 := Rm.c (i := 1) rfl
        have qm2 := Rm.c (i := 2) rfl
        have qm3 := Rm.c (i := 3) rfl
        have qm4 := Rm.c (i := 4) rfl
        have qm5 := Rm.c (i := 5) rfl
        have qm6 := Rm.c (i := 6) rfl
        have qm7 := Rm.c (i := 7) rfl
        go_wp2_with (fail)
        have CD := do_c m0A m0c m1A m1c m2A m2c m3A m3c m aA ac a bA bc b _ hm0 hm1 hm2 hm3 ha hb hG (Sm.mono (by omega)) (by omega) (by omega)
        have hsx := Mx.sz_x (m := m) (a := a) (b := b) Sm (Nat.le_refl _) (by omega)
        have hsy := Mx.sz_y (m := m) (a := a) (b := b) Sm (Nat.le_refl _) (by omega)
        obtain ⟨x, Ex⟩ : ∃ z, z = mg (m.x a b) := ⟨_, rfl⟩
        obtain ⟨y, Ey⟩ : ∃ z, z = mg (m.y a b) := ⟨_, rfl⟩
        rw [← Ex, ← Ey] at CD
        rw [← Ex] at hsx
        rw [← Ey] at hsy
        replace Ex := Lib.hid Ex
        replace Ey := Lib.hid Ey
        replace CD := Lib.hid CD
        refine (Calls.mono CD.out ?_)
        rintro e W6 ⟨Xx, cx, Xy, cy, rfl, hx, hy, hb6⟩
        replace ha := ha.below hb6
        replace hb := hb.below hb6
        replace hG := hG.below hb6
        replace Rr := Rr.below hb6
        replace hm0 := hm0.below hb6
        replace hm1 := hm1.below hb6
        replace hm2 := hm2.below hb6
        replace hm3 := hm3.below hb6
        replace Rm := Rm.below hb6
        replace qm0 := cbl hb6 qm0
        replace qm1 := cbl hb6 qm1
        replace qm2 := cbl hb6 qm2
        replace qm3 := cbl hb6 qm3
        replace qm4 := cbl hb6 qm4
        replace qm5 := cbl hb6 qm5
        replace qm6 := cbl hb6 qm6
        replace qm7 := cbl hb6 qm7
        replace HBT := Below.cons HBT hb6
        clear hb6 CD
        go_wp2_with (fail)
        obtain ⟨cq, Ecq⟩ : ∃ z, z = cmpN x y := ⟨_, rfl⟩
        have CC := cmp_c Xx cx x Xy cy y _ hx hy (by omega) (by omega)
        rw [← Ecq] at CC
        replace CC := Lib.hid CC
        replace Ecq := Lib.hid Ecq
        refine (Calls.mono (CC.out) ?_)
        rintro e W7 ⟨rfl, hb7⟩
        replace ha := ha.below hb7
        replace hb := hb.below hb7
        replace hG := hG.below hb7
        replace Rr := Rr.below hb7
        replace hm0 := hm0.below hb7
        replace hm1 := hm1.below hb7
        replace hm2 := hm2.below hb7
        replace hm3 := hm3.below hb7
        replace Rm := Rm.below hb7
        replace qm0 := cbl hb7 qm0
        replace qm1 := cbl hb7 qm1
        replace qm2 := cbl hb7 qm2
        replace qm3 := cbl hb7 qm3
        replace qm4 := cbl hb7 qm4
        replace qm5 := cbl hb7 qm5
        replace qm6 := cbl hb7 qm6
        replace qm7 := cbl hb7 qm7
        replace hx := hx.below hb7
        replace hy := hy.below hb7
        replace HBT := Below.cons HBT hb7
        clear hb7
        clear CC
        by_cases h3 : x < y
        · skip
          have t3 : decide (cq < 0) = true := by rw [Ecq.out]; exact decide_eq_true (cmpN_neg.2 h3)
          replace h3 := Lib.hid h3
          have fz0 := Rr.f (i := 0)
          have cz_0 := Rr.c (i := 0) rfl
          have fz1 := Rr.f (i := 1)
          have cz_1 := Rr.c (i := 1) rfl
          have fz2 := Rr.f (i := 2)
          have cz_2 := Rr.c (i := 2) rfl
          have fz3 := Rr.f (i := 3)
          have cz_3 := Rr.c (i := 3) rfl
          have fz4 := Rr.f (i := 4)
          have cz_4 := Rr.c (i := 4) rfl
          have fz5 := Rr.f (i := 5)
          have cz_5 := Rr.c (i := 5) rfl
          have fz6 := Rr.f (i := 6)
          have cz_6 := Rr.c (i := 6) rfl
          have fz7 := Rr.f (i := 7)
          have cz_7 := Rr.c (i := 7) rfl
          go_wp2_with (fail)
          have RS := Rr.store8 (.bool (sg m.a)) (.slice m0A (nl (mg m.a)) m0c) (.bool (sg m.b)) (.slice m1A (nl (mg m.b)) m1c) (.bool (sg m.c)) (.slice m2A (nl (mg m.c)) m2c) (.bool (sg m.d)) (.slice m3A (nl (mg m.d)) m3c)
          have e0 := RS.c (i := 0) rfl
          have e1 := RS.c (i := 1) rfl
          have e2 := RS.c (i := 2) rfl
          have e3 := RS.c (i := 3) rfl
          have e4 := RS.c (i := 4) rfl
          have e5 := RS.c (i := 5) rfl
          have e6 := RS.c (i := 6) rfl
          have e7 := RS.c (i := 7) rfl
          refine bodyPost_ret (v := .agg #[.bool (sg m.a), .slice m0A (nl (mg m.a)) m0c, .bool (sg m.b), .slice m1A (nl (mg m.b)) m1c, .bool (sg m.c), .slice m2A (nl (mg m.c)) m2c, .bool (sg m.d), .slice m3A (nl (mg m.d)) m3c]) (by simp [results, Tryz.results96, go_sem, e0, e1, e2, e3, e4, e5, e6, e7]) rfl ?_
          exact ⟨m, Um, Sm.mono (by have := hst.out; omega), m0A, m0c, m1A, m1c, m2A, m2c, m3A, m3c, rfl, Rr.keep8 (lista8 _ rfl) hm0, Rr.keep8 (lista8 _ rfl) hm1, Rr.keep8 (lista8 _ rfl) hm2, Rr.keep8 (lista8 _ rfl) hm3, Below.store8 HBT (by first | exact Nat.le_refl _ | omega)⟩
        · skip
          have t3 : decide (cq < 0) = false := by rw [Ecq.out]; exact decide_eq_false (fun e => h3 (cmpN_neg.1 e))
          clear h3
          by_cases h4 : nl y ≤ n + 1
          · skip
            have t4 : decide ((nl y : Int) ≤ n1) = true := by simp; omega
            replace h4 := Lib.hid h4
            have fz0 := Rr.f (i := 0)
            have cz_0 := Rr.c (i := 0) rfl
            have fz1 := Rr.f (i := 1)
            have cz_1 := Rr.c (i := 1) rfl
            have fz2 := Rr.f (i := 2)
            have cz_2 := Rr.c (i := 2) rfl
            have fz3 := Rr.f (i := 3)
            have cz_3 := Rr.c (i := 3) rfl
            have fz4 := Rr.f (i := 4)
            have cz_4 := Rr.c (i := 4) rfl
            have fz5 := Rr.f (i := 5)
            have cz_5 := Rr.c (i := 5) rfl
            have fz6 := Rr.f (i := 6)
            have cz_6 := Rr.c (i := 6) rfl
            have fz7 := Rr.f (i := 7)
            have cz_7 := Rr.c (i := 7) rfl
            go_wp2_with (fail)
            have RS := Rr.store8 (.bool (sg m.a)) (.slice m0A (nl (mg m.a)) m0c) (.bool (sg m.b)) (.slice m1A (nl (mg m.b)) m1c) (.bool (sg m.c)) (.slice m2A (nl (mg m.c)) m2c) (.bool (sg m.d)) (.slice m3A (nl (mg m.d)) m3c)
            have e0 := RS.c (i := 0) rfl
            have e1 := RS.c (i := 1) rfl
            have e2 := RS.c (i := 2) rfl
            have e3 := RS.c (i := 3) rfl
            have e4 := RS.c (i := 4) rfl
            have e5 := RS.c (i := 5) rfl
            have e6 := RS.c (i := 6) rfl
            have e7 := RS.c (i := 7) rfl
            refine bodyPost_ret (v := .agg #[.bool (sg m.a), .slice m0A (nl (mg m.a)) m0c, .bool (sg m.b), .slice m1A (nl (mg m.b)) m1c, .bool (sg m.c), .slice m2A (nl (mg m.c)) m2c, .bool (sg m.d), .slice m3A (nl (mg m.d)) m3c]) (by simp [results, Tryz.results96, go_sem, e0, e1, e2, e3, e4, e5, e6, e7]) rfl ?_
            exact ⟨m, Um, Sm.mono (by have := hst.out; omega), m0A, m0c, m1A, m1c, m2A, m2c, m3A, m3c, rfl, Rr.keep8 (lista8 _ rfl) hm0, Rr.keep8 (lista8 _ rfl) hm1, Rr.keep8 (lista8 _ rfl) hm2, Rr.keep8 (lista8 _ rfl) hm3, Below.store8 HBT (by first | exact Nat.le_refl _ | omega)⟩
          · skip
            have t4 : decide ((nl y : Int) ≤ n1) = false := by simp; omega
            have hy0 : 0 < y := by rcases Nat.eq_zero_or_pos y with z | z; (rw [z, nl_zero] at h4; omega); exact z
            go_wp2_with (fail)
            have CQ := ddivmod_c Xx cx x Xy cy y _ hx hy (by omega) (by omega) hy0
            obtain ⟨q, Eq⟩ : ∃ z, z = x / y := ⟨_, rfl⟩
            obtain ⟨g, Eg⟩ : ∃ z, z = x % y := ⟨_, rfl⟩
            rw [← Eq, ← Eg] at CQ
            have hq : nl q ≤ fb + (nl a) + 1 := by rw [Eq]; exact Nat.le_trans (nl_div _ _) hsx
            have hgy : g < y := by rw [Eg]; exact Nat.mod_lt _ hy0
            have hgn : nl g ≤ nl y := nl_mono (Nat.le_of_lt hgy)
            replace CQ := Lib.hid CQ
            replace Eq := Lib.hid Eq
            replace Eg := Lib.hid Eg
            refine (Calls.mono CQ.out ?_)
            rintro e W8 ⟨Xq, cqq, Xg, cg, rfl, hq0, hg0, hb8⟩
            replace ha := ha.below hb8
            replace hb := hb.below hb8
            replace hG := hG.below hb8
            replace Rr := Rr.below hb8
            replace hm0 := hm0.below hb8
            replace hm1 := hm1.below hb8
            replace hm2 := hm2.below hb8
            replace hm3 := hm3.below hb8
            replace Rm := Rm.below hb8
            replace qm0 := cbl hb8 qm0
            replace qm1 := cbl hb8 qm1
            replace qm2 := cbl hb8 qm2
            replace qm3 := cbl hb8 qm3
            replace qm4 := cbl hb8 qm4
            replace qm5 := cbl hb8 qm5
            replace qm6 := cbl hb8 qm6
            replace qm7 := cbl hb8 qm7
            replace hx := hx.below hb8
            replace hy := hy.below hb8
            replace HBT := Below.cons HBT hb8
            clear hb8 CQ
            clear hx
            go_wp2_with (fail)
            have CT := then_c m0A m0c m1A m1c m2A m2c m3A m3c m Xq cqq q _ hm0 hm1 hm2 hm3 hq0 hG (Sm.mono (by omega)) (by omega)
            obtain ⟨p, Ep⟩ : ∃ z, z = m.nx q := ⟨_, rfl⟩
            have Up : p.U := by rw [Ep]; exact Mx.u_nx Um q
            have Sp : p.sz (2 * fb + (nl a) + 2) := by rw [Ep]; exact (Mx.sz_nx Sm hq).mono (by omega)
            rw [← Ep] at CT
            replace CT := Lib.hid CT
            replace Ep := Lib.hid Ep
            refine (Calls.mono CT.out ?_)
            rintro e W9 ⟨p0A, p0c, p1A, p1c, p2A, p2c, p3A, p3c, rfl, hp0, hp1, hp2, hp3, hb9⟩
            replace ha := ha.below hb9
            replace hb := hb.below hb9
            replace hG := hG.below hb9
            replace Rr := Rr.below hb9
            replace hm0 := hm0.below hb9
            replace hm1 := hm1.below hb9
            replace hm2 := hm2.below hb9
            replace hm3 := hm3.below hb9
            replace Rm := Rm.below hb9
            replace qm0 := cbl hb9 qm0
            replace qm1 := cbl hb9 qm1
            replace qm2 := cbl hb9 qm2
            replace qm3 := cbl hb9 qm3
            replace qm4 := cbl hb9 qm4
            replace qm5 := cbl hb9 qm5
            replace qm6 := cbl hb9 qm6
            replace qm7 := cbl hb9 qm7
            replace hy := hy.below hb9
            replace hq0 := hq0.below hb9
            replace hg0 := hg0.below hb9
            replace HBT := Below.cons HBT hb9
            clear hb9 CT
            clear hm0
            clear hm1
            clear hm2
            clear hm3
            clear hq0
            clear qm0
            clear qm1
            clear qm2
            clear qm3
            clear qm4
            clear qm5
            clear qm6
            clear qm7
            clear Um Sm hsx
            have fm0 := Rm.f (i := 0)
            have cm_0 := Rm.c (i := 0) rfl
            have fm1 := Rm.f (i := 1)
            have cm_1 := Rm.c (i := 1) rfl
            have fm2 := Rm.f (i := 2)
            have cm_2 := Rm.c (i := 2) rfl
            have fm3 := Rm.f (i := 3)
            have cm_3 := Rm.c (i := 3) rfl
            have fm4 := Rm.f (i := 4)
            have cm_4 := Rm.c (i := 4) rfl
            have fm5 := Rm.f (i := 5)
            have cm_5 := Rm.c (i := 5) rfl
            have fm6 := Rm.f (i := 6)
            have cm_6 := Rm.c (i := 6) rfl
            have fm7 := Rm.f (i := 7)
            have cm_7 := Rm.c (i := 7) rfl
            have hkm : w.heap.size + 1 ≤ W4.heap.size := by omega
            have hkr : w.heap.size ≠ W4.heap.size := by omega
            replace hkm := Lib.hid hkm
            replace hkr := Lib.hid hkr
            have ha' := Rm.keep8 (v0 := .bool (sg p.a)) (v1 := .slice p0A (nl (mg p.a)) p0c) (v2 := .bool (sg p.b)) (v3 := .slice p1A (nl (mg p.b)) p1c) (v4 := .bool (sg p.c)) (v5 := .slice p2A (nl (mg p.c)) p2c) (v6 := .bool (sg p.d)) (v7 := .slice p3A (nl (mg p.d)) p3c) (lista8 _ rfl) ha
            have hb' := Rm.keep8 (v0 := .bool (sg p.a)) (v1 := .slice p0A (nl (mg p.a)) p0c) (v2 := .bool (sg p.b)) (v3 := .slice p1A (nl (mg p.b)) p1c) (v4 := .bool (sg p.c)) (v5 := .slice p2A (nl (mg p.c)) p2c) (v6 := .bool (sg p.d)) (v7 := .slice p3A (nl (mg p.d)) p3c) (lista8 _ rfl) hb
            have hy' := Rm.keep8 (v0 := .bool (sg p.a)) (v1 := .slice p0A (nl (mg p.a)) p0c) (v2 := .bool (sg p.b)) (v3 := .slice p1A (nl (mg p.b)) p1c) (v4 := .bool (sg p.c)) (v5 := .slice p2A (nl (mg p.c)) p2c) (v6 := .bool (sg p.d)) (v7 := .slice p3A (nl (mg p.d)) p3c) (lista8 _ rfl) hy
            have hg0' := Rm.keep8 (v0 := .bool (sg p.a)) (v1 := .slice p0A (nl (mg p.a)) p0c) (v2 := .bool (sg p.b)) (v3 := .slice p1A (nl (mg p.b)) p1c) (v4 := .bool (sg p.c)) (v5 := .slice p2A (nl (mg p.c)) p2c) (v6 := .bool (sg p.d)) (v7 := .slice p3A (nl (mg p.d)) p3c) (lista8 _ rfl) hg0
            have hp0' := Rm.keep8 (v0 := .bool (sg p.a)) (v1 := .slice p0A (nl (mg p.a)) p0c) (v2 := .bool (sg p.b)) (v3 := .slice p1A (nl (mg p.b)) p1c) (v4 := .bool (sg p.c)) (v5 := .slice p2A (nl (mg p.c)) p2c) (v6 := .bool (sg p.d)) (v7 := .slice p3A (nl (mg p.d)) p3c) (lista8 _ rfl) hp0
            have hp1' := Rm.keep8 (v0 := .bool (sg p.a)) (v1 := .slice p0A (nl (mg p.a)) p0c) (v2 := .bool (sg p.b)) (v3 := .slice p1A (nl (mg p.b)) p1c) (v4 := .bool (sg p.c)) (v5 := .slice p2A (nl (mg p.c)) p2c) (v6 := .bool (sg p.d)) (v7 := .slice p3A (nl (mg p.d)) p3c) (lista8 _ rfl) hp1
            have hp2' := Rm.keep8 (v0 := .bool (sg p.a)) (v1 := .slice p0A (nl (mg p.a)) p0c) (v2 := .bool (sg p.b)) (v3 := .slice p1A (nl (mg p.b)) p1c) (v4 := .bool (sg p.c)) (v5 := .slice p2A (nl (mg p.c)) p2c) (v6 := .bool (sg p.d)) (v7 := .slice p3A (nl (mg p.d)) p3c) (lista8 _ rfl) hp2
            have hp3' := Rm.keep8 (v0 := .bool (sg p.a)) (v1 := .slice p0A (nl (mg p.a)) p0c) (v2 := .bool (sg p.b)) (v3 := .slice p1A (nl (mg p.b)) p1c) (v4 := .bool (sg p.c)) (v5 := .slice p2A (nl (mg p.c)) p2c) (v6 := .bool (sg p.d)) (v7 := .slice p3A (nl (mg p.d)) p3c) (lista8 _ rfl) hp3
            have Rm' := Rm.store8 (.bool (sg p.a)) (.slice p0A (nl (mg p.a)) p0c) (.bool (sg p.b)) (.slice p1A (nl (mg p.b)) p1c) (.bool (sg p.c)) (.slice p2A (nl (mg p.c)) p2c) (.bool (sg p.d)) (.slice p3A (nl (mg p.d)) p3c)
            have Rr' : BoxA ((((((((W9.setCell ⟨W4.heap.size, 0, none⟩ (.bool (sg p.a))).setCell ⟨W4.heap.size, 1, none⟩ (.slice p0A (nl (mg p.a)) p0c)).setCell ⟨W4.heap.size, 2, none⟩ (.bool (sg p.b))).setCell ⟨W4.heap.size, 3, none⟩ (.slice p1A (nl (mg p.b)) p1c)).setCell ⟨W4.heap.size, 4, none⟩ (.bool (sg p.c))).setCell ⟨W4.heap.size, 5, none⟩ (.slice p2A (nl (mg p.c)) p2c)).setCell ⟨W4.heap.size, 6, none⟩ (.bool (sg p.d))).setCell ⟨W4.heap.size, 7, none⟩ (.slice p3A (nl (mg p.d)) p3c)) _ _ _ := Rr.far8 hkr.out
            have HBT' := Below.store8 (k := W4.heap.size) (v0 := .bool (sg p.a)) (v1 := .slice p0A (nl (mg p.a)) p0c) (v2 := .bool (sg p.b)) (v3 := .slice p1A (nl (mg p.b)) p1c) (v4 := .bool (sg p.c)) (v5 := .slice p2A (nl (mg p.c)) p2c) (v6 := .bool (sg p.d)) (v7 := .slice p3A (nl (mg p.d)) p3c) HBT (by have := hkm.out; omega)
            have hG' := hG0.below HBT'
            go_upto_region 11 with (fail)
            clear ha hb hy hg0 hp0 hp1 hp2 hp3 Rm Rr HBT hG fm0 fm1 fm2 fm3 fm4 fm5 fm6 fm7 cm_0 cm_1 cm_2 cm_3 cm_4 cm_5 cm_6 cm_7
            have ha := ha'
            clear ha'
            have hb := hb'
            clear hb'
            have hy := hy'
            clear hy'
            have hg0 := hg0'
            clear hg0'
            have hp0 := hp0'
            clear hp0'
            have hp1 := hp1'
            clear hp1'
            have hp2 := hp2'
            clear hp2'
            have hp3 := hp3'
            clear hp3'
            have Rm := Rm'
            clear Rm'
            have Rr := Rr'
            clear Rr'
            have HBT := HBT'
            clear HBT'
            have hG := hG'
            clear hG'
            generalize hWn : ((((((((W9.setCell ⟨W4.heap.size, 0, none⟩ (.bool (sg p.a))).setCell ⟨W4.heap.size, 1, none⟩ (.slice p0A (nl (mg p.a)) p0c)).setCell ⟨W4.heap.size, 2, none⟩ (.bool (sg p.b))).setCell ⟨W4.heap.size, 3, none⟩ (.slice p1A (nl (mg p.b)) p1c)).setCell ⟨W4.heap.size, 4, none⟩ (.bool (sg p.c))).setCell ⟨W4.heap.size, 5, none⟩ (.slice p2A (nl (mg p.c)) p2c)).setCell ⟨W4.heap.size, 6, none⟩ (.bool (sg p.d))).setCell ⟨W4.heap.size, 7, none⟩ (.slice p3A (nl (mg p.d)) p3c)) = V0 at *
            clear hWn
            have qm0 := Rm.c (i := 0) rfl
            have qm1 := Rm.c (i := 1) rfl
            have qm2 := Rm.c (i := 2) rfl
            have qm3 := Rm.c (i := 3) rfl
            have qm4 := Rm.c (i := 4) rfl
            have qm5 := Rm.c (i := 5) rfl
            have qm6 := Rm.c (i := 6) rfl
            have qm7 := Rm.c (i := 7) rfl
            by_cases h5 : nl g ≤ n + 1
            · skip
              have t5 : decide ((nl g : Int) ≤ n1) = true := by simp; omega
              replace h5 := Lib.hid h5
              have fz0 := Rr.f (i := 0)
              have cz_0 := Rr.c (i := 0) rfl
              have fz1 := Rr.f (i := 1)
              have cz_1 := Rr.c (i := 1) rfl
              have fz2 := Rr.f (i := 2)
              have cz_2 := Rr.c (i := 2) rfl
              have fz3 := Rr.f (i := 3)
              have cz_3 := Rr.c (i := 3) rfl
              have fz4 := Rr.f (i := 4)
              have cz_4 := Rr.c (i := 4) rfl
              have fz5 := Rr.f (i := 5)
              have cz_5 := Rr.c (i := 5) rfl
              have fz6 := Rr.f (i := 6)
              have cz_6 := Rr.c (i := 6) rfl
              have fz7 := Rr.f (i := 7)
              have cz_7 := Rr.c (i := 7) rfl
              go_wp2_with (fail)
              have RS := Rr.store8 (.bool (sg p.a)) (.slice p0A (nl (mg p.a)) p0c) (.bool (sg p.b)) (.slice p1A (nl (mg p.b)) p1c) (.bool (sg p.c)) (.slice p2A (nl (mg p.c)) p2c) (.bool (sg p.d)) (.slice p3A (nl (mg p.d)) p3c)
              have e0 := RS.c (i := 0) rfl
              have e1 := RS.c (i := 1) rfl
              have e2 := RS.c (i := 2) rfl
              have e3 := RS.c (i := 3) rfl
              have e4 := RS.c (i := 4) rfl
              have e5 := RS.c (i := 5) rfl
              have e6 := RS.c (i := 6) rfl
              have e7 := RS.c (i := 7) rfl
              refine bodyPost_ret (v := .agg #[.bool (sg p.a), .slice p0A (nl (mg p.a)) p0c, .bool (sg p.b), .slice p1A (nl (mg p.b)) p1c, .bool (sg p.c), .slice p2A (nl (mg p.c)) p2c, .bool (sg p.d), .slice p3A (nl (mg p.d)) p3c]) (by simp [results, Tryz.results96, go_sem, e0, e1, e2, e3, e4, e5, e6, e7]) rfl ?_
              exact ⟨p, Up, Sp.mono (by have := hst.out; omega), p0A, p0c, p1A, p1c, p2A, p2c, p3A, p3c, rfl, Rr.keep8 (lista8 _ rfl) hp0, Rr.keep8 (lista8 _ rfl) hp1, Rr.keep8 (lista8 _ rfl) hp2, Rr.keep8 (lista8 _ rfl) hp3, Below.store8 HBT (by first | exact Nat.le_refl _ | omega)⟩
            · skip
              have t5 : decide ((nl g : Int) ≤ n1) = false := by simp; omega
              by_cases h6 : nl a ≤ nl y
              · skip
                have t6 : decide ((nl a : Int) ≤ (nl y : Int)) = true := by simp; omega
                have t6' : decide (nl a ≤ nl y) = true := by simp; omega
                replace h6 := Lib.hid h6
                replace h5 := Lib.hid h5
                have fz0 := Rr.f (i := 0)
                have cz_0 := Rr.c (i := 0) rfl
                have fz1 := Rr.f (i := 1)
                have cz_1 := Rr.c (i := 1) rfl
                have fz2 := Rr.f (i := 2)
                have cz_2 := Rr.c (i := 2) rfl
                have fz3 := Rr.f (i := 3)
                have cz_3 := Rr.c (i := 3) rfl
                have fz4 := Rr.f (i := 4)
                have cz_4 := Rr.c (i := 4) rfl
                have fz5 := Rr.f (i := 5)
                have cz_5 := Rr.c (i := 5) rfl
                have fz6 := Rr.f (i := 6)
                have cz_6 := Rr.c (i := 6) rfl
                have fz7 := Rr.f (i := 7)
                have cz_7 := Rr.c (i := 7) rfl
                go_wp2_with (fail)
                have RS := Rr.store8 (.bool (sg p.a)) (.slice p0A (nl (mg p.a)) p0c) (.bool (sg p.b)) (.slice p1A (nl (mg p.b)) p1c) (.bool (sg p.c)) (.slice p2A (nl (mg p.c)) p2c) (.bool (sg p.d)) (.slice p3A (nl (mg p.d)) p3c)
                have e0 := RS.c (i := 0) rfl
                have e1 := RS.c (i := 1) rfl
                have e2 := RS.c (i := 2) rfl
                have e3 := RS.c (i := 3) rfl
                have e4 := RS.c (i := 4) rfl
                have e5 := RS.c (i := 5) rfl
                have e6 := RS.c (i := 6) rfl
                have e7 := RS.c (i := 7) rfl
                refine bodyPost_ret (v := .agg #[.bool (sg p.a), .slice p0A (nl (mg p.a)) p0c, .bool (sg p.b), .slice p1A (nl (mg p.b)) p1c, .bool (sg p.c), .slice p2A (nl (mg p.c)) p2c, .bool (sg p.d), .slice p3A (nl (mg p.d)) p3c]) (by simp [results, Tryz.results96, go_sem, e0, e1, e2, e3, e4, e5, e6, e7]) rfl ?_
                exact ⟨p, Up, Sp.mono (by have := hst.out; omega), p0A, p0c, p1A, p1c, p2A, p2c, p3A, p3c, rfl, Rr.keep8 (lista8 _ rfl) hp0, Rr.keep8 (lista8 _ rfl) hp1, Rr.keep8 (lista8 _ rfl) hp2, Rr.keep8 (lista8 _ rfl) hp3, Below.store8 HBT (by first | exact Nat.le_refl _ | omega)⟩
              · skip
                have t6 : decide ((nl a : Int) ≤ (nl y : Int)) = false := by simp; omega
                have t6' : decide (nl a ≤ nl y) = false := by simp; omega
                obtain ⟨j0, Ej0⟩ : ∃ z : Int, z = 2 * (nl g : Int) := ⟨_, rfl⟩
                have Ij0 : 2 * (nl g : Int) = j0 := Ej0.symm
                obtain ⟨j1, Ej1⟩ : ∃ z : Int, z = j0 - (nl a : Int) := ⟨_, rfl⟩
                have Ij1 : j0 - (nl a : Int) = j1 := Ej1.symm
                have bj1 : 3 ≤ j1 := by omega
                have Mj1 : max j1 0 = j1 := by omega
                obtain ⟨j, Ej⟩ : ∃ z : Nat, z = (j1 / 2).toNat := ⟨_, rfl⟩
                have Ij : j1 / 2 = (j : Int) := by omega
                have Jj : j1.tdiv 2 = (j : Int) := by rw [Int.tdiv_eq_ediv_of_nonneg (by omega)]; exact Ij
                have hj1 : 1 ≤ j := by omega
                have hj2 : j ≤ 40 := by omega
                obtain ⟨j32, Ej32⟩ : ∃ z : Nat, z = 32 * j := ⟨_, rfl⟩
                have Ij32 : (32 : Int) * (j : Int) = (j32 : Int) := by omega
                have Wj0 : IntKind.i64.wrap j0 = j0 := IntWalk.i64_in _ (by omega)
                have Wj1 : IntKind.i64.wrap j1 = j1 := IntWalk.i64_in _ (by omega)
                have Wj : IntKind.i64.wrap (j : Int) = (j : Int) := IntWalk.i64_in _ (by omega)
                have Wj32 : IntKind.i64.wrap (j32 : Int) = (j32 : Int) := IntWalk.i64_in _ (by omega)
                have CS := fun (x : Nat) (A : Option Addr) (c : Nat) (W : World) (h : NatV W A c x) (hx : nl x ≤ 1073741824) => shr_ci A c x (j32 : Int) W h hx (Int.natCast_nonneg _) (by omega)
                simp only [Int.toNat_natCast] at CS
                have hny : nl (y / 2 ^ j32) ≤ (nl a) - 2 := by have h := nl_shr32 y j; rw [← Ej32] at h; omega
                have hgg : g / 2 ^ j32 ≤ y / 2 ^ j32 := Nat.div_le_div_right (Nat.le_of_lt hgy)
                obtain ⟨fd, Efd⟩ : ∃ z, z = hf ((nl a) - 2) := ⟨_, rfl⟩
                have hfd := hf_most (show (nl a) - 2 ≤ 40 by omega)
                have hst2 := hst.out
                rw [← Efd] at hst2 hfd
                replace Ej0 := Lib.hid Ej0
                replace Ej1 := Lib.hid Ej1
                replace Ej := Lib.hid Ej
                replace Ej32 := Lib.hid Ej32
                replace CS := Lib.hid CS
                replace Efd := Lib.hid Efd
                replace h5 := Lib.hid h5
                replace h6 := Lib.hid h6
                replace hst2 := Lib.hid hst2
                have hst := hst2
                go_wp2_with (fail)
                clear qm0
                clear qm1
                clear qm2
                clear qm3
                clear qm4
                clear qm5
                clear qm6
                clear qm7
                have hys : nl y ≤ 1073741824 := by omega
                have hgs : nl g ≤ 1073741824 := by omega
                have hne : W4.heap.size ≠ w.heap.size := fun e => hkr.out e.symm
                replace hne := Lib.hid hne
                have hd10 := drb (V0)
                replace ha := ha.below hd10
                replace hb := hb.below hd10
                replace hG := hG.below hd10
                replace Rr := Rr.below hd10
                replace Rm := Rm.below hd10
                replace hy := hy.below hd10
                replace hg0 := hg0.below hd10
                replace hp0 := hp0.below hd10
                replace hp1 := hp1.below hd10
                replace hp2 := hp2.below hd10
                replace hp3 := hp3.below hd10
                replace HBT := Below.cons HBT hd10
                clear hd10
                obtain ⟨S, hS⟩ : ∃ S : World → Prop, S = fun W => W.cell? ⟨W4.heap.size, 0, none⟩ = some (.bool (sg p.a)) ∧ W.cell? ⟨W4.heap.size, 1, none⟩ = some (.slice p0A (nl (mg p.a)) p0c) ∧ W.cell? ⟨W4.heap.size, 2, none⟩ = some (.bool (sg p.b)) ∧ W.cell? ⟨W4.heap.size, 3, none⟩ = some (.slice p1A (nl (mg p.b)) p1c) ∧ W.cell? ⟨W4.heap.size, 4, none⟩ = some (.bool (sg p.c)) ∧ W.cell? ⟨W4.heap.size, 5, none⟩ = some (.slice p2A (nl (mg p.c)) p2c) ∧ W.cell? ⟨W4.heap.size, 6, none⟩ = some (.bool (sg p.d)) ∧ W.cell? ⟨W4.heap.size, 7, none⟩ = some (.slice p3A (nl (mg p.d)) p3c) := ⟨_, rfl⟩
                have HSq : S (V0).drew := by rw [hS]; exact ⟨(Rm.c (i := 0) rfl), (Rm.c (i := 1) rfl), (Rm.c (i := 2) rfl), (Rm.c (i := 3) rfl), (Rm.c (i := 4) rfl), (Rm.c (i := 5) rfl), (Rm.c (i := 6) rfl), (Rm.c (i := 7) rfl)⟩
                have hSb : ∀ W W' : World, Below W.heap.size W W' → S W → S W' := by rw [hS]; exact fun W W' hb h => ⟨cell_below hb h.1, cell_below hb h.2.1, cell_below hb h.2.2.1, cell_below hb h.2.2.2.1, cell_below hb h.2.2.2.2.1, cell_below hb h.2.2.2.2.2.1, cell_below hb h.2.2.2.2.2.2.1, cell_below hb h.2.2.2.2.2.2.2⟩
                replace hSb := Lib.hid hSb
                replace hS := Lib.hid hS
                refine wp_region_seq S [(0, true), (1, true), (2, true), (3, true), (5, true), (6, true), (7, true), (4, false), (8, false), (9, false), (10, false), (11, false)] (by kernel_rfl) (by kernel_rfl) (by kernel_rfl) HSq (fun hSq => ?_)
                clear hSq
                replace HSq := Lib.hid HSq
                clear Rm
                refine SeqP.take (v := ?_) rfl (fun _ _ _ h => h) (Or.inl ⟨by rfl, ?_⟩) ?_
                rotate_left 1
                · intro wq hSw; rw [hS.out] at hSw; (try dsimp only at hSw); go_simp; try with_reducible rfl
                try simp only [Act.put, List.setIfInBounds_toArray, List.set_cons_zero, List.set_cons_succ]
                refine SeqP.take (v := ?_) rfl (fun _ _ _ h => h) (Or.inl ⟨by rfl, ?_⟩) ?_
                rotate_left 1
                · intro wq hSw; rw [hS.out] at hSw; (try dsimp only at hSw); go_simp; try with_reducible rfl
                try simp only [Act.put, List.setIfInBounds_toArray, List.set_cons_zero, List.set_cons_succ]
                refine SeqP.take (v := ?_) rfl (fun _ _ _ h => h) (Or.inl ⟨by rfl, ?_⟩) ?_
                rotate_left 1
                · intro wq hSw; rw [hS.out] at hSw; (try dsimp only at hSw); go_simp; try with_reducible rfl
                try simp only [Act.put, List.setIfInBounds_toArray, List.set_cons_zero, List.set_cons_succ]
                refine SeqP.take (v := ?_) rfl (fun _ _ _ h => h) (Or.inl ⟨by rfl, ?_⟩) ?_
                rotate_left 1
                · intro wq hSw; rw [hS.out] at hSw; (try dsimp only at hSw); go_simp; try with_reducible rfl
                try simp only [Act.put, List.setIfInBounds_toArray, List.set_cons_zero, List.set_cons_succ]
                refine SeqP.take (v := ?_) rfl (fun _ _ _ h => h) (Or.inl ⟨by rfl, ?_⟩) ?_
                rotate_left 1
                · intro wq hSw; rw [hS.out] at hSw; (try dsimp only at hSw); go_simp; try with_reducible rfl
                try simp only [Act.put, List.setIfInBounds_toArray, List.set_cons_zero, List.set_cons_succ]
                refine SeqP.take (v := ?_) rfl (fun _ _ _ h => h) (Or.inl ⟨by rfl, ?_⟩) ?_
                rotate_left 1
                · intro wq hSw; rw [hS.out] at hSw; (try dsimp only at hSw); go_simp; try with_reducible rfl
                try simp only [Act.put, List.setIfInBounds_toArray, List.set_cons_zero, List.set_cons_succ]
                refine SeqP.take (v := ?_) rfl (fun _ _ _ h => h) (Or.inl ⟨by rfl, ?_⟩) ?_
                rotate_left 1
                · intro wq hSw; rw [hS.out] at hSw; (try dsimp only at hSw); go_simp; try with_reducible rfl
                try simp only [Act.put, List.setIfInBounds_toArray, List.set_cons_zero, List.set_cons_succ]
                refine SeqP.call rfl (by rfl) (fun Kq hKq => ?_)
                go_simp
                obtain ⟨u, Eu⟩ : ∃ z : Nat, z = y / 2 ^ j32 := ⟨_, rfl⟩
                go_at_call 117
                refine (Calls.mono (R := RetN (V0).drew u) (by rw [Eu]; exact CS.out y Xy cy _ hy hys) ?_)
                replace Eu := Lib.hid Eu
                rintro e W11 ⟨Xu, cu, rfl, hu, hb11⟩
                replace ha := ha.below hb11
                replace hb := hb.below hb11
                replace hG := hG.below hb11
                replace Rr := Rr.below hb11
                replace hy := hy.below hb11
                replace hg0 := hg0.below hb11
                replace hp0 := hp0.below hb11
                replace hp1 := hp1.below hb11
                replace hp2 := hp2.below hb11
                replace hp3 := hp3.below hb11
                replace HBT := Below.cons HBT hb11
                replace HSq := Lib.hid (hSb.out _ _ hb11 HSq.out)
                clear hb11
                refine hKq.out _ _ HSq.out (fun hSq => ?_)
                clear hSq hKq Kq
                try simp only [Act.put, List.setIfInBounds_toArray, List.set_cons_zero, List.set_cons_succ]
                refine SeqP.call rfl (by rfl) (fun Kq hKq => ?_)
                go_simp
                obtain ⟨v, Ev⟩ : ∃ z : Nat, z = g / 2 ^ j32 := ⟨_, rfl⟩
                go_at_call 117
                refine (Calls.mono (R := RetN W11 v) (by rw [Ev]; exact CS.out g Xg cg _ hg0 hgs) ?_)
                replace Ev := Lib.hid Ev
                rintro e W12 ⟨Xv, cv, rfl, hv, hb12⟩
                replace ha := ha.below hb12
                replace hb := hb.below hb12
                replace hG := hG.below hb12
                replace Rr := Rr.below hb12
                replace hy := hy.below hb12
                replace hg0 := hg0.below hb12
                replace hp0 := hp0.below hb12
                replace hp1 := hp1.below hb12
                replace hp2 := hp2.below hb12
                replace hp3 := hp3.below hb12
                replace hu := hu.below hb12
                replace HBT := Below.cons HBT hb12
                replace HSq := Lib.hid (hSb.out _ _ hb12 HSq.out)
                clear hb12
                refine hKq.out _ _ HSq.out (fun hSq => ?_)
                clear hSq hKq Kq
                try simp only [Act.put, List.setIfInBounds_toArray, List.set_cons_zero, List.set_cons_succ]
                refine SeqP.call rfl (by rfl) (fun Kq hKq => ?_)
                go_simp
                have hu1 : nl u ≤ (nl a) - 2 := by rw [Eu.out]; exact hny
                have hvu : v ≤ u := by rw [Eu.out, Ev.out]; exact hgg
                have CH := ih (nl u) (by omega) (by omega) Xu cu u Xv cv v _ rfl hvu hu hv hG
                have Sm0 : hf (nl u) ≤ fd := by rw [Efd.out]; exact hf_mono hu1 (by omega)
                replace CH := Lib.hid CH
                replace Sm0 := Lib.hid Sm0
                go_at_call 96
                refine CH.out.mono ?_
                rintro e W13 ⟨o, Uo, So, o0A, o0c, o1A, o1c, o2A, o2c, o3A, o3c, rfl, ho0, ho1, ho2, ho3, hb13⟩
                replace So := So.mono Sm0.out
                clear CH Sm0
                replace ha := ha.below hb13
                replace hb := hb.below hb13
                replace hG := hG.below hb13
                replace Rr := Rr.below hb13
                replace hy := hy.below hb13
                replace hg0 := hg0.below hb13
                replace hp0 := hp0.below hb13
                replace hp1 := hp1.below hb13
                replace hp2 := hp2.below hb13
                replace hp3 := hp3.below hb13
                replace hu := hu.below hb13
                replace hv := hv.below hb13
                replace HBT := Below.cons HBT hb13
                replace HSq := Lib.hid (hSb.out _ _ hb13 HSq.out)
                clear hb13
                refine hKq.out _ _ HSq.out (fun hSq => ?_)
                clear hSq hKq Kq
                try simp only [Act.put, List.setIfInBounds_toArray, List.set_cons_zero, List.set_cons_succ]
                refine SeqP.call rfl (by rfl) (fun Kq hKq => ?_)
                go_simp
                have CF := after_c p0A p0c p1A p1c p2A p2c p3A p3c p o0A o0c o1A o1c o2A o2c o3A o3c o _ hp0 hp1 hp2 hp3 ho0 ho1 ho2 ho3 hG (Sp.mono (by omega)) (So.mono (by omega))
                obtain ⟨d, Ed⟩ : ∃ z, z = p.af o := ⟨_, rfl⟩
                have Ud : d.U := by rw [Ed]; exact Mx.u_af Up Uo
                have Sd : d.sz (hf (nl a)) := by rw [Ed]; exact (Mx.sz_af Sp So).mono (by have := hst.out; omega)
                rw [← Ed] at CF
                replace CF := Lib.hid CF
                replace Ed := Lib.hid Ed
                go_at_call 143
                refine CF.out.mono ?_
                rintro e W14 ⟨d0A, d0c, d1A, d1c, d2A, d2c, d3A, d3c, rfl, hd0, hd1, hd2, hd3, hb14⟩
                clear CF
                replace ha := ha.below hb14
                replace hb := hb.below hb14
                replace hG := hG.below hb14
                replace Rr := Rr.below hb14
                replace hy := hy.below hb14
                replace hg0 := hg0.below hb14
                replace hp0 := hp0.below hb14
                replace hp1 := hp1.below hb14
                replace hp2 := hp2.below hb14
                replace hp3 := hp3.below hb14
                replace hu := hu.below hb14
                replace hv := hv.below hb14
                replace ho0 := ho0.below hb14
                replace ho1 := ho1.below hb14
                replace ho2 := ho2.below hb14
                replace ho3 := ho3.below hb14
                replace HBT := Below.cons HBT hb14
                replace HSq := Lib.hid (hSb.out _ _ hb14 HSq.out)
                clear hb14
                refine hKq.out _ _ HSq.out (fun hSq => ?_)
                clear hSq hKq Kq
                try simp only [Act.put, List.setIfInBounds_toArray, List.set_cons_zero, List.set_cons_succ]
                have HSx := HSq.out
                rw [hS.out] at HSx
                obtain ⟨zx0, zx1, zx2, zx3, zx4, zx5, zx6, zx7⟩ := HSx
                have fz0 := Rr.f (i := 0)
                have cz_0 := Rr.c (i := 0) rfl
                have fz1 := Rr.f (i := 1)
                have cz_1 := Rr.c (i := 1) rfl
                have fz2 := Rr.f (i := 2)
                have cz_2 := Rr.c (i := 2) rfl
                have fz3 := Rr.f (i := 3)
                have cz_3 := Rr.c (i := 3) rfl
                have fz4 := Rr.f (i := 4)
                have cz_4 := Rr.c (i := 4) rfl
                have fz5 := Rr.f (i := 5)
                have cz_5 := Rr.c (i := 5) rfl
                have fz6 := Rr.f (i := 6)
                have cz_6 := Rr.c (i := 6) rfl
                have fz7 := Rr.f (i := 7)
                have cz_7 := Rr.c (i := 7) rfl
                refine SeqP.call rfl (by rfl) (fun Kq hKq => ?_)
                go_simp
                refine hKq.out _ _ (by rw [hS.out]; exact ⟨cell_other8 zx0 hne.out, cell_other8 zx1 hne.out, cell_other8 zx2 hne.out, cell_other8 zx3 hne.out, cell_other8 zx4 hne.out, cell_other8 zx5 hne.out, cell_other8 zx6 hne.out, cell_other8 zx7 hne.out⟩) (fun hSq => ?_)
                clear hSq hKq Kq zx0 zx1 zx2 zx3 zx4 zx5 zx6 zx7
                try simp only [Act.put, List.setIfInBounds_toArray, List.set_cons_zero, List.set_cons_succ]
                refine SeqP.done ?_
                clear hSb HSq
                all_goals (try go_wp2_with (fail))
                have RS := Rr.store8 (.bool (sg d.a)) (.slice d0A (nl (mg d.a)) d0c) (.bool (sg d.b)) (.slice d1A (nl (mg d.b)) d1c) (.bool (sg d.c)) (.slice d2A (nl (mg d.c)) d2c) (.bool (sg d.d)) (.slice d3A (nl (mg d.d)) d3c)
                have e0 := RS.c (i := 0) rfl
                have e1 := RS.c (i := 1) rfl
                have e2 := RS.c (i := 2) rfl
                have e3 := RS.c (i := 3) rfl
                have e4 := RS.c (i := 4) rfl
                have e5 := RS.c (i := 5) rfl
                have e6 := RS.c (i := 6) rfl
                have e7 := RS.c (i := 7) rfl
                refine bodyPost_ret (v := .agg #[.bool (sg d.a), .slice d0A (nl (mg d.a)) d0c, .bool (sg d.b), .slice d1A (nl (mg d.b)) d1c, .bool (sg d.c), .slice d2A (nl (mg d.c)) d2c, .bool (sg d.d), .slice d3A (nl (mg d.d)) d3c]) (by simp [results, Tryz.results96, go_sem, e0, e1, e2, e3, e4, e5, e6, e7]) rfl ?_
                exact ⟨d, Ud, Sd.mono (Nat.le_refl _), d0A, d0c, d1A, d1c, d2A, d2c, d3A, d3c, rfl, Rr.keep8 (lista8 _ rfl) hd0, Rr.keep8 (lista8 _ rfl) hd1, Rr.keep8 (lista8 _ rfl) hd2, Rr.keep8 (lista8 _ rfl) hd3, Below.store8 HBT (by first | exact Nat.le_refl _ | omega)⟩
end Go.Proofs.YthcmoimlnhghcaaGreatDoor

/- The greatest common divisor by halves. -/
set_option linter.unusedVariables false
set_option linter.unusedSimpArgs false
namespace Go.Proofs.YthcmoimlnhghcaaGreatDoor
open Go.RowKit Go.Shelf
attribute [local go_sem] max2_i min2_i max_two min_two

theorem bl_up {a b : Nat} (h : a ≤ b) : bl a ≤ bl b := by
  by_cases h0 : a = 0
  · subst h0; unfold bl; rw [if_pos rfl]; omega
  · have h1 := bl_ge h0
    have h2 := bl_lt b
    have h3 : 2 ^ (bl a - 1) < 2 ^ bl b := by omega
    have := (Nat.pow_lt_pow_iff_right (by decide : 1 < 2)).1 h3
    omega
theorem halfZ_e (A : Option Addr) (c a : Nat) (B : Option Addr) (d b : Nat) (w : World) (h : b = 0) :
    Calls Tryz.prog 88 #[.slice A (nl a) c, .slice B (nl b) d] w (RetQZ w) := by
  subst h; rw [nl_zero]; exact ddivZ_c A c (nl a) B d w
/-- What gets less with each round. -/
def hmeas (S x y : Nat) : Nat := (bl x + bl y) * 2 ^ (S + 1) + (x + y)
theorem hsum_lt {S x y : Nat} (h : bl x + bl y ≤ S) : x + y < 2 ^ (S + 1) := by
  have h1 := bl_lt x
  have h2 := bl_lt y
  have h3 : 2 ^ bl x ≤ 2 ^ S := Nat.pow_le_pow_right (by decide) (by omega)
  have h4 : 2 ^ bl y ≤ 2 ^ S := Nat.pow_le_pow_right (by decide) (by omega)
  rw [Nat.pow_succ]; omega
theorem half_dec {S x y p q : Nat} (hS : bl x + bl y ≤ S) (hyx : y ≤ x) (hqp : q ≤ p) (hq : 0 < q) (h : (p = x ∧ q = y) ∨ bl p + bl q < bl x + bl y) :
    hmeas S q (p % q) < hmeas S x y ∧ bl q + bl (p % q) ≤ S := by
  have h1 : bl (p % q) ≤ bl p := bl_up (Nat.mod_le _ _)
  have hm := Nat.mod_lt p hq
  unfold hmeas
  generalize hK : 2 ^ (S + 1) = K
  rcases h with ⟨rfl, rfl⟩ | h
  · refine ⟨?_, by omega⟩
    have h2 : (bl q + bl (p % q)) * K ≤ (bl p + bl q) * K := Nat.mul_le_mul_right _ (by omega)
    omega
  · refine ⟨?_, by omega⟩
    have h2 := hsum_lt (S := S) (x := q) (y := p % q) (by omega)
    rw [hK] at h2
    have h3 : (bl q + bl (p % q) + 1) * K ≤ (bl x + bl y) * K := Nat.mul_le_mul_right _ (by omega)
    rw [Nat.add_mul, Nat.one_mul] at h3
    omega
theorem half_sz {x y p q : Nat} (hyx : y ≤ x) (hqp : q ≤ p) (h : (p = x ∧ q = y) ∨ bl p + bl q < bl x + bl y) : q ≤ x ∨ bl q ≤ bl x := by
  rcases h with ⟨rfl, rfl⟩ | h
  · exact .inl hyx
  · have h1 := bl_up hqp
    have h2 := bl_up hyx
    exact .inr (by omega)
theorem nl_bl {q x : Nat} (h : bl q ≤ bl x) : nl q ≤ nl x := by
  by_cases h0 : q = 0
  · subst h0; rw [nl_zero]; omega
  · obtain ⟨L, e1, e2, _⟩ := bl_top h0
    have h1 := bl_le x
    have := nl_pos.2 h0
    omega
theorem half_c (A : Option Addr) (c a : Nat) (B : Option Addr) (d b : Nat) (w : World) (hA : NatV w A c a) (hB : NatV w B d b) (hG : Flds w) (la : nl a ≤ 40) (lb : nl b ≤ 40) :
    Calls Tryz.prog 41 #[.slice A (nl a) c, .slice B (nl b) d] w (RetN w (Nat.gcd a b)) := by
  obtain ⟨S, hS⟩ : ∃ S, S = bl a + bl b := ⟨_, rfl⟩
  replace hS := Lib.hid hS
  go_enter Tryz.func41, Tryz.ntmps41
  go_wp2_with (fail)
  refine (cmp_c A c a B d b w hA hB (by omega) (by omega)).mono ?_
  rintro e w1 ⟨rfl, hb1⟩
  go_upto_if 13 with (fail)
  go_cut [0, 1] from 10 to 15 (fun v0 v1 wx => ∃ (x y : Nat) (X : Option Addr) (cx : Nat) (Y : Option Addr) (cy : Nat), v0 = .slice X (nl x) cx ∧ v1 = .slice Y (nl y) cy ∧ NatV wx X cx x ∧ NatV wx Y cy y ∧ Below w.heap.size w wx ∧ Hid (Nat.gcd x y = Nat.gcd a b) ∧ y ≤ x ∧ nl x ≤ 40 ∧ Hid (bl x + bl y ≤ S))
  case first =>
    by_cases h : a < b
    · have t1 : decide (cmpN a b < 0) = true := decide_eq_true (cmpN_neg.2 h)
      simp only [t1]
      go_wp2_with (fail)
      go_meet
      exact ⟨b, a, B, d, A, c, rfl, rfl, hB.below hb1, hA.below hb1, hb1, Lib.hid (Nat.gcd_comm b a), by omega, lb, Lib.hid (by rw [hS.out]; omega)⟩
    · have t1 : decide (cmpN a b < 0) = false := decide_eq_false (fun e => h (cmpN_neg.1 e))
      simp only [t1]
      go_wp2_with (fail)
      go_meet
      exact ⟨a, b, A, c, B, d, rfl, rfl, hA.below hb1, hB.below hb1, hb1, Lib.hid rfl, by omega, la, Lib.hid (by rw [hS.out]; omega)⟩
  case rest =>
    obtain ⟨x0, y0, X0, cx0, Y0, cy0, rfl, rfl, hX0, hY0, hb0, hg0, hyx0, lx0, hS0⟩ := hcut
    go_wp2_with (fail)
    go_loopw [0, 1, 5, 6, 7, 8, 9] (fun v0 v1 v5 v6 v7 v8 v9 wr => ∃ (x y : Nat) (X : Option Addr) (cx : Nat) (Y : Option Addr) (cy : Nat), v0 = .slice X (nl x) cx ∧ v1 = .slice Y (nl y) cy ∧ NatV wr X cx x ∧ NatV wr Y cy y ∧ Below w.heap.size w wr ∧ Hid (Nat.gcd x y = Nat.gcd a b) ∧ y ≤ x ∧ nl x ≤ 40 ∧ Hid (bl x + bl y ≤ S)) (fun v0 v1 v5 v6 v7 v8 v9 wr => hmeas S (natAt wr (some v0)) (natAt wr (some v1)))
    case atStart => exact ⟨x0, y0, X0, cx0, Y0, cy0, rfl, rfl, hX0, hY0, hb0, hg0, hyx0, lx0, hS0⟩
    case round =>
      obtain ⟨x, y, X, cx, Y, cy, rfl, rfl, hX, hY, hbr, hg, hyx, lx, hSr⟩ := hrel
      have hX0' := Lib.hid hX
      have hY0' := Lib.hid hY
      clear hX0 hY0 hb0 hg0 hyx0 lx0 hS0
      have ly : nl y ≤ 40 := Nat.le_trans (nl_mono hyx) lx
      by_cases h0 : nl y < 8
      · have t1 : decide (8 ≤ (nl y : Int)) = false := by simp; omega
        have t2 : decide (8 ≤ nl y) = false := by simp; omega
        have CE := gcd_c X cx x Y cy y wr hX hY (by omega) (by omega)
        rw [hg.out] at CE
        replace CE := Lib.hid CE
        go_wp2_with (fail)
        refine CE.out.mono ?_
        rintro e w1 ⟨Z, cz, rfl, hZ, hb1⟩
        go_wp2_with (fail)
        go_ret
        exact ⟨Z, cz, rfl, hZ, hbr.cons hb1⟩
      · have t1 : decide (8 ≤ (nl y : Int)) = true := by simp; omega
        have t2 : decide (8 ≤ nl y) = true := by simp; omega
        have CH := halved_c (nl x) lx X cx x Y cy y wr rfl hyx hX hY (hG.below hbr)
        have hfx := hf_most lx
        replace CH := Lib.hid CH
        go_wp2_with (fail)
        refine CH.out.mono ?_
        rintro e w2 ⟨m, hU, hsz, mA, ma, mB, mb, mC, mc, mD, md, rfl, m0, m1, m2, m3, hb2⟩
        clear CH
        replace hX := hX.below hb2
        replace hY := hY.below hb2
        have hbr2 := hbr.cons hb2
        have CD := do_c mA ma mB mb mC mc mD md m X cx x Y cy y _ m0 m1 m2 m3 hX hY (hG.below hbr2) (hsz.mono (by omega)) (by omega) (by omega)
        have hgm := Mx.gcd hU x y
        have hsx := Mx.sz_x (a := x) (b := y) hsz lx ly
        have hsy := Mx.sz_y (a := x) (b := y) hsz lx ly
        obtain ⟨u, Eu⟩ : ∃ z, z = mg (m.x x y) := ⟨_, rfl⟩
        obtain ⟨v, Ev⟩ : ∃ z, z = mg (m.y x y) := ⟨_, rfl⟩
        rw [← Eu, ← Ev] at CD hgm
        rw [← Eu] at hsx
        rw [← Ev] at hsy
        replace CD := Lib.hid CD
        replace Eu := Lib.hid Eu
        replace Ev := Lib.hid Ev
        replace hgm := Lib.hid hgm
        go_wp2_with (fail)
        refine CD.out.mono ?_
        rintro e w3 ⟨U, cu, V, cv, rfl, hu, hv, hb3⟩
        clear CD m0 m1 m2 m3
        replace hX := hX.below hb3
        replace hY := hY.below hb3
        have hbr3 := hbr2.cons hb3
        have CC := cmp_c U cu u V cv v w3 hu hv (by omega) (by omega)
        obtain ⟨cq, Ecq⟩ : ∃ z, z = cmpN u v := ⟨_, rfl⟩
        rw [← Ecq] at CC
        replace CC := Lib.hid CC
        replace Ecq := Lib.hid Ecq
        clear hb2 hb3 hbr hbr2
        go_wp2_with (fail)
        refine CC.out.mono ?_
        rintro e w4 ⟨rfl, hb4⟩
        clear CC
        replace hX := hX.below hb4
        replace hY := hY.below hb4
        replace hu := hu.below hb4
        replace hv := hv.below hb4
        have hbr4 := hbr3.cons hb4
        clear hb4 hbr3
        go_upto_if 31 with (fail)
        go_cut [5, 6] from 28 to 33 (fun v5 v6 wx => wx = w4 ∧ ∃ (p q : Nat) (P : Option Addr) (cp : Nat) (Q : Option Addr) (cq : Nat), v5 = .slice P (nl p) cp ∧ v6 = .slice Q (nl q) cq ∧ NatV w4 P cp p ∧ NatV w4 Q cq q ∧ Hid (Nat.gcd p q = Nat.gcd x y) ∧ q ≤ p ∧ nl p ≤ 5000)
        case first =>
          by_cases h : u < v
          · have t3 : decide (cq < 0) = true := by rw [Ecq.out]; exact decide_eq_true (cmpN_neg.2 h)
            simp only [t3]
            go_wp2_with (fail)
            go_meet
            exact ⟨rfl, v, u, V, cv, U, cu, rfl, rfl, hv, hu, Lib.hid (by rw [Nat.gcd_comm, hgm.out]), by omega, by omega⟩
          · have t3 : decide (cq < 0) = false := by rw [Ecq.out]; exact decide_eq_false (fun e => h (cmpN_neg.1 e))
            simp only [t3]
            go_wp2_with (fail)
            go_meet
            exact ⟨rfl, u, v, U, cu, V, cv, rfl, rfl, hu, hv, hgm, by omega, by omega⟩
        case rest =>
          obtain ⟨rfl, p, q, P, cp, Q, cqq, rfl, rfl, hP, hQ, hgp, hqp, lp⟩ := hcut
          have lq : nl q ≤ 5000 := Nat.le_trans (nl_mono hqp) lp
          clear hu hv hgm hsx hsy
          have W0 : ∀ (A : Option Addr) (c n : Nat), NatV wc A c n → nl n ≤ 5000 → Calls Tryz.prog 92 #[.slice A (nl n) c] wc fun e w' => e = .returned (.int .i64 (bl n : Nat)) ∧ w' = wc := fun A c n h hn => bits_c A c n wc h (by omega)
          have B1 := W0 P cp p hP lp
          have B2 := W0 Q cqq q hQ lq
          have B3 := W0 X cx x hX (by omega)
          have B4 := W0 Y cy y hY (by omega)
          obtain ⟨bp, Ebp⟩ : ∃ z, z = bl p := ⟨_, rfl⟩
          obtain ⟨bq, Ebq⟩ : ∃ z, z = bl q := ⟨_, rfl⟩
          obtain ⟨bx, Ebx⟩ : ∃ z, z = bl x := ⟨_, rfl⟩
          obtain ⟨by', Eby⟩ : ∃ z, z = bl y := ⟨_, rfl⟩
          have l1 := bl_le p
          have l2 := bl_le q
          have l3 := bl_le x
          have l4 := bl_le y
          rw [← Ebp] at B1 l1
          rw [← Ebq] at B2 l2
          rw [← Ebx] at B3 l3
          rw [← Eby] at B4 l4
          obtain ⟨s1, Es1⟩ : ∃ z : Nat, z = bp + bq := ⟨_, rfl⟩
          obtain ⟨s2, Es2⟩ : ∃ z : Nat, z = bx + by' := ⟨_, rfl⟩
          have I1 : (bp : Int) + (bq : Int) = (s1 : Int) := by omega
          have I2 : (bx : Int) + (by' : Int) = (s2 : Int) := by omega
          have V1 : IntKind.i64.wrap (s1 : Int) = (s1 : Int) := IntWalk.i64_in _ (by omega)
          have V2 : IntKind.i64.wrap (s2 : Int) = (s2 : Int) := IntWalk.i64_in _ (by omega)
          replace Ebp := Lib.hid Ebp
          replace Ebq := Lib.hid Ebq
          replace Ebx := Lib.hid Ebx
          replace Eby := Lib.hid Eby
          replace Es1 := Lib.hid Es1
          replace Es2 := Lib.hid Es2
          replace B1 := Lib.hid B1
          replace B2 := Lib.hid B2
          replace B3 := Lib.hid B3
          replace B4 := Lib.hid B4
          clear W0
          go_wp2_with (fail)
          refine B1.out.mono ?_
          rintro e w' ⟨rfl, hw⟩
          subst hw
          go_wp2_with (fail)
          refine B2.out.mono ?_
          rintro e w' ⟨rfl, hw⟩
          subst hw
          go_wp2_with (fail)
          refine B3.out.mono ?_
          rintro e w' ⟨rfl, hw⟩
          subst hw
          go_wp2_with (fail)
          refine B4.out.mono ?_
          rintro e w5 ⟨rfl, hw⟩
          subst hw
          go_upto_if 44 with (fail)
          go_cut [5, 6] from 34 to 46 (fun v5 v6 wx => wx = w5 ∧ ∃ (p q : Nat) (P : Option Addr) (cp : Nat) (Q : Option Addr) (cq : Nat), v5 = .slice P (nl p) cp ∧ v6 = .slice Q (nl q) cq ∧ NatV w5 P cp p ∧ NatV w5 Q cq q ∧ Hid (Nat.gcd p q = Nat.gcd x y) ∧ q ≤ p ∧ nl p ≤ 5000 ∧ Hid ((p = x ∧ q = y) ∨ bl p + bl q < bl x + bl y))
          case first =>
            by_cases h : s2 ≤ s1
            · have t3 : decide ((s2 : Int) ≤ (s1 : Int)) = true := by simp; omega
              have t3' : decide (s2 ≤ s1) = true := by simp; omega
              simp only [t3, t3']
              go_wp2_with (fail)
              go_meet
              exact ⟨rfl, x, y, X, cx, Y, cy, rfl, rfl, hX, hY, Lib.hid rfl, hyx, by omega, Lib.hid (.inl ⟨rfl, rfl⟩)⟩
            · have t3 : decide ((s2 : Int) ≤ (s1 : Int)) = false := by simp; omega
              have t3' : decide (s2 ≤ s1) = false := by simp; omega
              simp only [t3, t3']
              go_wp2_with (fail)
              go_meet
              exact ⟨rfl, p, q, P, cp, Q, cqq, rfl, rfl, hP, hQ, hgp, hqp, lp, Lib.hid (.inr (by rw [← Ebp.out, ← Ebq.out, ← Ebx.out, ← Eby.out, ← Es1.out, ← Es2.out]; omega))⟩
          case rest =>
            clear hP hQ hgp hqp lp lq B1 B2 B3 B4
            obtain ⟨rfl, p, q, P, cp, Q, cqq, rfl, rfl, hP, hQ, hgp, hqp, lp, hor⟩ := hcut
            have lq : nl q ≤ 5000 := Nat.le_trans (nl_mono hqp) lp
            by_cases hq0 : q = 0
            · have hpg : p = Nat.gcd a b := by rw [← hg.out, ← hgp.out, hq0, Nat.gcd_zero_right]
              have t4 : ((nl q : Int) == 0) = true := ieqT (by rw [hq0, nl_zero]; rfl)
              have t4' : (nl q == 0) = true := by rw [hq0, nl_zero]; rfl
              have CZ := halfZ_e P cp p Q cqq q wc hq0
              replace hq0 := Lib.hid hq0
              replace hpg := Lib.hid hpg
              replace CZ := Lib.hid CZ
              go_wp2_with (fail)
              refine CZ.out.mono ?_
              rintro e w6 ⟨rfl, hb6⟩
              have hP6 := hP.below hb6
              go_wp2_with (fail)
              go_ret
              rw [← hpg.out]
              exact ⟨P, cp, rfl, hP6, hbr4.cons hb6⟩
            · have hq1 : 0 < q := Nat.pos_of_ne_zero hq0
              have t4 : ((nl q : Int) == 0) = false := ieqF (by have := nl_pos.2 hq0; omega)
              have t4' : (nl q == 0) = false := by have := nl_pos.2 hq0; simp; omega
              have CQ := ddivmod_c P cp p Q cqq q wc hP hQ (by omega) (by omega) hq1
              have hdec := half_dec hSr.out hyx hqp hq1 hor.out
              have hsq : nl q ≤ 40 := by
                rcases half_sz hyx hqp hor.out with h | h
                · exact Nat.le_trans (nl_mono h) lx
                · exact Nat.le_trans (nl_bl h) lx
              have hg2 : Nat.gcd q (p % q) = Nat.gcd a b := by rw [← hg.out, ← hgp.out, Nat.gcd_comm p q, Nat.gcd_rec q p, Nat.gcd_comm]
              obtain ⟨r, Er⟩ : ∃ z, z = p % q := ⟨_, rfl⟩
              have hrq : r < q := by rw [Er]; exact Nat.mod_lt _ hq1
              rw [← Er] at CQ hdec hg2
              replace CQ := Lib.hid CQ
              replace Er := Lib.hid Er
              replace hg2 := Lib.hid hg2
              replace hq0 := Lib.hid hq0
              have hd1 := Lib.hid hdec.1
              have hd2 := Lib.hid hdec.2
              clear hdec
              go_wp2_with (fail)
              refine CQ.out.mono ?_
              rintro e w6 ⟨D, cd, R, cr, rfl, hD, hR, hb6⟩
              have hQ6 := hQ.below hb6
              have hbr6 := hbr4.cons hb6
              have hme : hmeas S (natAt w6 (some (.slice Q (nl q) cqq))) (natAt w6 (some (.slice R (nl r) cr))) < hmeas S x y := by rw [hQ6.at_, hR.at_]; exact hd1.out
              replace hme := Lib.hid hme
              go_wp2_with (fail)
              go_roundw
              case rel => exact ⟨q, r, Q, cqq, R, cr, rfl, rfl, hQ6, hR, hbr6, hg2, by omega, hsq, hd2⟩
              case measure => rw [hX0'.out.at_, hY0'.out.at_]; exact hme.out
end Go.Proofs.YthcmoimlnhghcaaGreatDoor

/- Powers modulo a natural. -/
set_option linter.unusedVariables false
set_option linter.unusedSimpArgs false
namespace Go.Proofs.YthcmoimlnhghcaaGreatDoor
open Go.RowKit Go.Shelf
attribute [local go_sem] max2_i min2_i max_two min_two

/-- What a call leaves that makes a natural, and tells that nothing was wrong. -/
def RetNE (w : World) (n : Nat) (e : Ending) (w' : World) : Prop := ∃ (X : Option Addr) (c : Nat), e = .returned (.tuple #[.slice X (nl n) c, .int .i64 0]) ∧ NatV w' X c n ∧ Below w.heap.size w w'
theorem pm_sq {a k m : Nat} : a ^ k % m * (a ^ k % m) % m = a ^ (2 * k) % m := by
  rw [← Nat.mul_mod, ← Nat.pow_add]; congr 2; omega
theorem pm_one {a k m : Nat} : a ^ (2 * k) % m * (a % m) % m = a ^ (2 * k + 1) % m := by
  rw [← Nat.mul_mod, ← Nat.pow_succ]
theorem pm_bit (e j : Nat) : e / 2 ^ j = 2 * (e / 2 ^ (j + 1)) + e / 2 ^ j % 2 := by
  rw [Nat.pow_succ, ← Nat.div_div_eq_div_mul]; omega
theorem pmrest_c (A : Option Addr) (c x : Nat) (M : Option Addr) (cm m k : Nat) (w : World) (hA : NatV w A c x) (hM : NatV w M cm m) (hk : BoxA w k 22 #[.slice M (nl m) cm]) (lx : nl x ≤ 16777216) (lm : nl m ≤ 16777216) (h0 : 0 < m) :
    Calls Tryz.prog 102 #[.slice A (nl x) c, .pointer (some ⟨k, 0, none⟩)] w (RetN w (x % m)) := by
  have q0 := hk.c (i := 0) rfl
  have CD := ddivmod_c A c x M cm m w hA hM lx lm h0
  replace CD := Lib.hid CD
  go_enter Tryz.func102, Tryz.ntmps102
  go_wp2_with (fail)
  refine CD.out.mono ?_
  rintro e w1 ⟨Q, cq, R, cr, rfl, hQ, hR, hb1⟩
  go_wp2_with (fail)
  go_ret
  exact ⟨R, cr, rfl, hR, hb1⟩
theorem powmodZ_c (A : Option Addr) (la c : Nat) (E : Option Addr) (le ce : Nat) (M : Option Addr) (cm : Nat) (w : World) :
    Calls Tryz.prog 45 #[.slice A la c, .slice E le ce, .slice M 0 cm] w fun e w' => e = .returned (.tuple #[.slice none 0 0, .int .i64 3]) ∧ Below w.heap.size w w' := by
  have hb : Below w.heap.size w (w.alloc (.cells #[.slice M 0 cm] 22)) := (Below.refl _ _).alloc (Nat.le_refl _) _
  have RB : BoxA (w.alloc (.cells #[.slice M 0 cm] 22)) w.heap.size 22 #[.slice M 0 cm] := ⟨at_new rfl⟩
  have q0 := RB.c (i := 0) rfl
  go_enter Tryz.func45, Tryz.ntmps45
  go_wp2_with (fail)
  exact bodyPost_ret (v := .tuple #[.slice none 0 0, .int .i64 3]) (by simp [results, Tryz.results45, go_sem]) rfl ⟨rfl, hb⟩
theorem powmod_c (A : Option Addr) (c a : Nat) (E : Option Addr) (ce e : Nat) (M : Option Addr) (cm m : Nat) (w : World) (hA : NatV w A c a) (hE : NatV w E ce e) (hM : NatV w M cm m) (hG : Flds w) (la : nl a ≤ 8192) (le : nl e ≤ 8192) (lm : nl m ≤ 8192) (h0 : 0 < m) :
    Calls Tryz.prog 45 #[.slice A (nl a) c, .slice E (nl e) ce, .slice M (nl m) cm] w (RetNE w (a ^ e % m)) := by
  have hb : Below w.heap.size w (w.alloc (.cells #[.slice M (nl m) cm] 22)) := (Below.refl _ _).alloc (Nat.le_refl _) _
  have RB : BoxA (w.alloc (.cells #[.slice M (nl m) cm] 22)) w.heap.size 22 #[.slice M (nl m) cm] := ⟨at_new rfl⟩
  have q0 := RB.c (i := 0) rfl
  have t0 : ((nl m : Int) == 0) = false := ieqF (by have := nl_pos.2 (show m ≠ 0 by omega); omega)
  have t0' : (nl m == 0) = false := by have := nl_pos.2 (show m ≠ 0 by omega); simp; omega
  have A0 := hA.below hb
  have E0 := hE.below hb
  have M0 := hM.below hb
  have G0 := hG.below hb
  obtain ⟨s, hs⟩ : ∃ s, s = w.heap.size := ⟨_, rfl⟩
  have O1 : Calls Tryz.prog 103 #[.int .u64 1] (w.alloc (.cells #[.slice M (nl m) cm] 22)) (RetN _ 1) := nof_c 1 _ (by decide)
  replace O1 := Lib.hid O1
  go_enter Tryz.func45, Tryz.ntmps45
  go_wp2_with (fail)
  refine O1.out.mono ?_
  rintro ee w1 ⟨X1, c1, rfl, hX1, hb1⟩
  have RB1 := RB.below hb1
  have A1 := A0.below hb1
  have E1 := E0.below hb1
  have M1 := M0.below hb1
  have G1 := G0.below hb1
  have HB1 := hb.cons hb1
  go_wp2_with (fail)
  refine (pmrest_c X1 c1 1 M cm m _ w1 hX1 M1 RB1 (by rw [nl_one]; decide) (by omega) h0).mono ?_
  rintro ee w2 ⟨X2, c2, rfl, hX2, hb2⟩
  have RB2 := RB1.below hb2
  have A2 := A1.below hb2
  have E2 := E1.below hb2
  have M2 := M1.below hb2
  have G2 := G1.below hb2
  have HB2 := HB1.cons hb2
  go_wp2_with (fail)
  refine (pmrest_c A c a M cm m _ w2 A2 M2 RB2 (by omega) (by omega) h0).mono ?_
  rintro ee w3 ⟨Y, cy, rfl, hY, hb3⟩
  have RB3 := RB2.below hb3
  have E3 := E2.below hb3
  have M3 := M2.below hb3
  have G3 := G2.below hb3
  have X3 := hX2.below hb3
  have HB3 := HB2.cons hb3
  clear A0 A1 A2 E0 E1 E2 M0 M1 M2 G0 G1 G2 HB1 HB2 hX2 RB1 RB2 hb1 hb2 hb3 hX1 RB q0 O1
  go_wp2_with (fail)
  refine (bits_c E ce e w3 E3 (by omega)).mono ?_
  rintro ee w4 ⟨rfl, hw⟩
  subst hw
  obtain ⟨y, Ey⟩ : ∃ y, y = a % m := ⟨_, rfl⟩
  rw [← Ey] at hY
  have ly : nl y ≤ 8192 := by rw [Ey]; exact Nat.le_trans (nl_mod_le _ _) la
  have hbl := bl_le e
  obtain ⟨B, EB⟩ : ∃ B, B = bl e := ⟨_, rfl⟩
  rw [← EB] at hbl
  have st0 : 1 % m = a ^ (e / 2 ^ B) % m := by
    have h1 : e / 2 ^ B = 0 := by rw [EB]; exact Nat.div_eq_of_lt (bl_lt e)
    rw [h1, Nat.pow_zero]
  have hBI : (bl e : Int) = (B : Int) := by rw [EB]
  rw [← EB, ← Ey]
  obtain ⟨o0, Eo0⟩ : ∃ z, z = 1 % m := ⟨_, rfl⟩
  rw [← Eo0] at X3 st0 ⊢
  replace Eo0 := Lib.hid Eo0
  have HB0 := Lib.hid HB3
  have HK : ∀ W, Below w4.heap.size w4 W → BoxA W w.heap.size 22 #[.slice M (nl m) cm] ∧ NatV W E ce e ∧ NatV W M cm m ∧ Flds W ∧ NatV W Y cy y := fun W h => ⟨RB3.below h, E3.below h, M3.below h, G3.below h, hY.below h⟩
  replace HK := Lib.hid HK
  replace st0 := Lib.hid st0
  replace Ey := Lib.hid Ey
  replace EB := Lib.hid EB
  clear hBI
  have WB : IntKind.i64.wrap ((B : Int) - 1) = (B : Int) - 1 := IntWalk.i64_in _ (by omega)
  clear RB3 E3 M3 G3 HB3 hY
  go_wp2_with (fail)
  go_loopw [9, 10] (fun v9 v10 wr => ∃ (j o : Nat) (O : Option Addr) (co : Nat), v9 = .slice O (nl o) co ∧ v10 = .int .i64 ((j : Int) - 1) ∧ j ≤ B ∧ NatV wr O co o ∧ Hid (o = a ^ (e / 2 ^ j) % m) ∧ Below w4.heap.size w4 wr ∧ nl o ≤ 8192) (fun v9 v10 wr => (intOf v10 + 1).toNat)
  case atStart => exact ⟨B, o0, X2, c2, rfl, rfl, Nat.le_refl _, X3, st0, Below.refl _ _, by rw [Eo0.out]; exact Nat.le_trans (nl_mod_lt 1 (by omega)) lm⟩
  case round =>
    obtain ⟨j, o, O, co, rfl, rfl, hj, hO, ho, hbr, lo⟩ := hrel
    clear X3
    cases j with
    | zero =>
      have hoe : o = a ^ e % m := by rw [ho.out, Nat.pow_zero, Nat.div_one]
      have t1 : decide (0 ≤ ((0 : Nat) : Int) - 1) = false := by decide
      replace hoe := Lib.hid hoe
      go_wp2_with (fail)
      refine bodyPost_ret (v := .tuple #[.slice O (nl o) co, .int .i64 0]) (by simp [results, Tryz.results45, go_sem]) rfl ?_
      rw [← hoe.out]
      exact ⟨O, co, rfl, hO, HB0.out.cons hbr⟩
    | succ j =>
      rw [show (((j + 1 : Nat) : Int) - 1) = (j : Int) by omega]
      have t1 : decide (0 ≤ (j : Int)) = true := by simp
      have Wj : IntKind.i64.wrap ((j : Int) - 1) = (j : Int) - 1 := IntWalk.i64_in _ (by omega)
      obtain ⟨KB, KE, KM, KG, KY⟩ := HK.out wr hbr
      have CM := mul_c O co o O co o wr hO hO KG (by omega) (by omega)
      obtain ⟨p, Ep⟩ : ∃ p, p = o * o := ⟨_, rfl⟩
      have lp : nl p ≤ 16384 := by rw [Ep]; have := nl_mul o o; omega
      rw [← Ep] at CM
      have hs1 : p % m = a ^ (2 * (e / 2 ^ (j + 1))) % m := by rw [Ep, ho.out]; exact pm_sq
      have hbit := pm_bit e j
      have hbv : e / 2 ^ j % 2 = 0 ∨ e / 2 ^ j % 2 = 1 := by omega
      replace CM := Lib.hid CM
      replace Ep := Lib.hid Ep
      clear KE KY
      go_wp2_with (fail)
      refine CM.out.mono ?_
      rintro ee w5 ⟨P, cp, rfl, hP, hb5⟩
      have CR := pmrest_c P cp p M cm m _ w5 hP (KM.below hb5) (KB.below hb5) (by omega) (by omega) h0
      obtain ⟨q, Eq⟩ : ∃ q, q = p % m := ⟨_, rfl⟩
      rw [← Eq] at CR hs1
      have lq : nl q ≤ 8192 := by rw [Eq]; exact Nat.le_trans (nl_mod_lt p (by omega)) lm
      replace CR := Lib.hid CR
      replace Eq := Lib.hid Eq
      replace hs1 := Lib.hid hs1
      replace hbit := Lib.hid hbit
      clear KB KM KG CM
      go_wp2_with (fail)
      refine CR.out.mono ?_
      rintro ee w6 ⟨Q, cq, rfl, hQ, hb6⟩
      have hbr6 := (hbr.cons hb5).cons hb6
      obtain ⟨KB, KE, KM, KG, KY⟩ := HK.out w6 hbr6
      have CB := bit_c E ce e j w6 KE (by omega) (by omega)
      rcases hbv with hbv | hbv
      · rw [hbv] at CB
        have hfin : q = a ^ (e / 2 ^ j) % m := by rw [hs1.out]; congr 2; have h := hbit.out; rw [hbv] at h; omega
        replace hfin := Lib.hid hfin
        replace CB := Lib.hid CB
        replace hbv := Lib.hid hbv
        clear KB KE KM KG KY CR
        go_wp2_with (fail)
        refine CB.out.mono ?_
        rintro ee w7 ⟨rfl, hw⟩
        subst hw
        go_wp2_with (fail)
        go_roundw
        case rel => exact ⟨j, q, Q, cq, rfl, rfl, by omega, hQ, hfin, hbr6, lq⟩
        case measure => simp only [intOf]; omega
      · rw [hbv] at CB
        have CM := mul_c Q cq q Y cy y w6 hQ KY KG (by omega) (by omega)
        obtain ⟨u, Eu⟩ : ∃ u, u = q * y := ⟨_, rfl⟩
        have lu : nl u ≤ 16384 := by rw [Eu]; have := nl_mul q y; omega
        have hfin : u % m = a ^ (e / 2 ^ j) % m := by rw [Eu, hs1.out, Ey.out, pm_one]; congr 2; rw [hbit.out, hbv]
        rw [← Eu] at CM
        replace hfin := Lib.hid hfin
        replace CB := Lib.hid CB
        replace CM := Lib.hid CM
        replace hbv := Lib.hid hbv
        replace Eu := Lib.hid Eu
        clear KE KG KY CR
        go_wp2_with (fail)
        refine CB.out.mono ?_
        rintro ee w7 ⟨rfl, hw⟩
        subst hw
        go_wp2_with (fail)
        refine CM.out.mono ?_
        rintro ee w8 ⟨U, cu, rfl, hU, hb8⟩
        have CR := pmrest_c U cu u M cm m _ w8 hU (KM.below hb8) (KB.below hb8) (by omega) (by omega) h0
        obtain ⟨v, Ev⟩ : ∃ v, v = u % m := ⟨_, rfl⟩
        rw [← Ev] at CR hfin
        have lv : nl v ≤ 8192 := by rw [Ev]; exact Nat.le_trans (nl_mod_lt u (by omega)) lm
        replace CR := Lib.hid CR
        replace Ev := Lib.hid Ev
        clear KB KM CM CB
        go_wp2_with (fail)
        refine CR.out.mono ?_
        rintro ee w9 ⟨V, cv, rfl, hV, hb9⟩
        have hbr9 := (hbr6.cons hb8).cons hb9
        go_wp2_with (fail)
        go_roundw
        case rel => exact ⟨j, v, V, cv, rfl, rfl, by omega, hV, hfin, hbr9, lv⟩
        case measure => simp only [intOf]; omega
end Go.Proofs.YthcmoimlnhghcaaGreatDoor

/- Inverses modulo a natural. -/
set_option linter.unusedVariables false
set_option linter.unusedSimpArgs false
namespace Go.Proofs.YthcmoimlnhghcaaGreatDoor
open Go.RowKit Go.Shelf
attribute [local go_sem] max2_i min2_i max_two min_two

attribute [local go_sem] Oper.semAt_some
/-- The inverse. -/
noncomputable def inv (a m : Nat) : Nat := mg (exu a m % (m : Int))
theorem inv_sz {a m L : Nat} (h : nl m ≤ L) (h0 : 0 < m) : nl (inv a m) ≤ L := by
  have h1 := Int.emod_nonneg (exu a m) (show (m : Int) ≠ 0 by omega)
  have h2 := Int.emod_lt_of_pos (exu a m) (show (0 : Int) < m by omega)
  refine Nat.le_trans (nl_mono ?_) h
  unfold inv mg; omega
/-- What a call leaves that tells that there is none. -/
def RetNone (w : World) (e : Ending) (w' : World) : Prop := e = .returned (.tuple #[.slice none 0 0, .int .i64 4]) ∧ Below w.heap.size w w'
theorem inverseNot_c (aA : Option Addr) (ac a : Nat) (mA : Option Addr) (mc m : Nat) (w : World) (ha : NatV w aA ac a) (hm : NatV w mA mc m) (hG : Flds w) (la : nl a ≤ 8192) (lm : nl m ≤ 8192) (h : m = 0 ∨ Nat.gcd a m ≠ 1) :
    Calls Tryz.prog 43 #[.slice aA (nl a) ac, .slice mA (nl m) mc] w (RetNone w) := by
  replace h := Lib.hid h
  go_enter Tryz.func43, Tryz.ntmps43
  go_wp2_with (fail)
  have CX := ext_c aA ac a mA mc m _ ha hm hG la lm
  obtain ⟨g, Eg⟩ : ∃ z : Nat, z = Nat.gcd a m := ⟨_, rfl⟩
  obtain ⟨u, Eu⟩ : ∃ z : Int, z = exu a m := ⟨_, rfl⟩
  obtain ⟨v, Ev⟩ : ∃ z : Int, z = exv a m := ⟨_, rfl⟩
  obtain ⟨lu, lv⟩ := ex_sz (L := 8192) la lm (by decide)
  rw [← Eg, ← Eu, ← Ev] at CX
  rw [← Eu] at lu
  rw [← Ev] at lv
  replace CX := Lib.hid CX
  replace Eg := Lib.hid Eg
  replace Eu := Lib.hid Eu
  replace Ev := Lib.hid Ev
  refine (Calls.mono CX.out ?_)
  rintro e W1 ⟨Xg, cg, Xu, cu, Xv, cv, rfl, hg, hu, hv, hb1⟩
  replace ha := ha.below hb1
  replace hm := hm.below hb1
  replace hG := hG.below hb1
  have HBT := hb1
  clear hb1 CX
  obtain ⟨hb2, Ru, Rv⟩ := bx2 W1 #[.bool (sg u), .slice Xu (nl (mg u)) cu] 24 #[.bool (sg v), .slice Xv (nl (mg v)) cv] 24
  replace ha := ha.below hb2
  replace hm := hm.below hb2
  replace hG := hG.below hb2
  replace hg := hg.below hb2
  replace hu := hu.below hb2
  replace hv := hv.below hb2
  replace HBT := Below.cons HBT hb2
  clear hb2
  have qu0 := Ru.c (i := 0) rfl
  have qu1 := Ru.c (i := 1) rfl
  have qv0 := Rv.c (i := 0) rfl
  have qv1 := Rv.c (i := 1) rfl
  go_wp2_with (fail)
  by_cases lg : nl g ≤ 2
  · skip
    by_cases hm0 : m = 0
    · skip
      have t1 : ((nl m : Int) == 0) = true := ieqT (by rw [hm0, nl_zero]; rfl)
      have t1' : (nl m == 0) = true := by rw [hm0, nl_zero]; rfl
      replace hm0 := Lib.hid hm0
      refine (low_c Xg cg g _ hg lg).mono ?_
      rintro e w9 ⟨rfl, hw⟩
      subst hw
      go_wp2_with (fail)
      refine bodyPost_ret (v := .tuple #[.slice none 0 0, .int .i64 4]) (by simp [results, Tryz.results43, go_sem]) rfl ⟨rfl, HBT⟩
    · skip
      have t1 : ((nl m : Int) == 0) = false := ieqF (by have := nl_pos.2 hm0; omega)
      have t1' : (nl m == 0) = false := by have := nl_pos.2 hm0; simp; omega
      have hg1 : g ≠ 1 := by rw [Eg.out]; exact h.out.resolve_left hm0
      have t2 : ((g : Int) != 1) = true := ineT (by omega)
      have t2' : (g != 1) = true := by simp [hg1]
      replace hm0 := Lib.hid hm0
      replace hg1 := Lib.hid hg1
      refine (low_c Xg cg g _ hg lg).mono ?_
      rintro e w9 ⟨rfl, hw⟩
      subst hw
      go_wp2_with (fail)
      refine bodyPost_ret (v := .tuple #[.slice none 0 0, .int .i64 4]) (by simp [results, Tryz.results43, go_sem]) rfl ⟨rfl, HBT⟩
  · skip
    replace lg : 2 < nl g := by omega
    by_cases hm0 : m = 0
    · skip
      have t1 : ((nl m : Int) == 0) = true := ieqT (by rw [hm0, nl_zero]; rfl)
      have t1' : (nl m == 0) = true := by rw [hm0, nl_zero]; rfl
      replace hm0 := Lib.hid hm0
      refine (lowNot_c Xg cg (nl g) _ lg).mono ?_
      rintro e w9 ⟨rfl, hw⟩
      subst hw
      go_wp2_with (fail)
      refine bodyPost_ret (v := .tuple #[.slice none 0 0, .int .i64 4]) (by simp [results, Tryz.results43, go_sem]) rfl ⟨rfl, HBT⟩
    · skip
      have t1 : ((nl m : Int) == 0) = false := ieqF (by have := nl_pos.2 hm0; omega)
      have t1' : (nl m == 0) = false := by have := nl_pos.2 hm0; simp; omega
      replace hm0 := Lib.hid hm0
      refine (lowNot_c Xg cg (nl g) _ lg).mono ?_
      rintro e w9 ⟨rfl, hw⟩
      subst hw
      go_wp2_with (fail)
      refine bodyPost_ret (v := .tuple #[.slice none 0 0, .int .i64 4]) (by simp [results, Tryz.results43, go_sem]) rfl ⟨rfl, HBT⟩
theorem inverse_c (aA : Option Addr) (ac a : Nat) (mA : Option Addr) (mc m : Nat) (w : World) (ha : NatV w aA ac a) (hm : NatV w mA mc m) (hG : Flds w) (la : nl a ≤ 8192) (lm : nl m ≤ 8192) (h0 : 0 < m) (h1 : Nat.gcd a m = 1) :
    Calls Tryz.prog 43 #[.slice aA (nl a) ac, .slice mA (nl m) mc] w (RetNE w (inv a m)) := by
  have t1 : ((nl m : Int) == 0) = false := ieqF (by have := nl_pos.2 (show m ≠ 0 by omega); omega)
  have t1' : (nl m == 0) = false := by have := nl_pos.2 (show m ≠ 0 by omega); simp; omega
  replace h1 := Lib.hid h1
  go_enter Tryz.func43, Tryz.ntmps43
  go_wp2_with (fail)
  have CX := ext_c aA ac a mA mc m _ ha hm hG la lm
  obtain ⟨g, Eg⟩ : ∃ z : Nat, z = Nat.gcd a m := ⟨_, rfl⟩
  obtain ⟨u, Eu⟩ : ∃ z : Int, z = exu a m := ⟨_, rfl⟩
  obtain ⟨v, Ev⟩ : ∃ z : Int, z = exv a m := ⟨_, rfl⟩
  obtain ⟨lu, lv⟩ := ex_sz (L := 8192) la lm (by decide)
  rw [← Eg, ← Eu, ← Ev] at CX
  rw [← Eu] at lu
  rw [← Ev] at lv
  replace CX := Lib.hid CX
  replace Eg := Lib.hid Eg
  replace Eu := Lib.hid Eu
  replace Ev := Lib.hid Ev
  refine (Calls.mono CX.out ?_)
  rintro e W1 ⟨Xg, cg, Xu, cu, Xv, cv, rfl, hg, hu, hv, hb1⟩
  replace ha := ha.below hb1
  replace hm := hm.below hb1
  replace hG := hG.below hb1
  have HBT := hb1
  clear hb1 CX
  obtain ⟨hb2, Ru, Rv⟩ := bx2 W1 #[.bool (sg u), .slice Xu (nl (mg u)) cu] 24 #[.bool (sg v), .slice Xv (nl (mg v)) cv] 24
  replace ha := ha.below hb2
  replace hm := hm.below hb2
  replace hG := hG.below hb2
  replace hg := hg.below hb2
  replace hu := hu.below hb2
  replace hv := hv.below hb2
  replace HBT := Below.cons HBT hb2
  clear hb2
  have qu0 := Ru.c (i := 0) rfl
  have qu1 := Ru.c (i := 1) rfl
  have qv0 := Rv.c (i := 0) rfl
  have qv1 := Rv.c (i := 1) rfl
  go_wp2_with (fail)
  have hg1 : g = 1 := by rw [Eg.out]; exact h1.out
  have lg : nl g ≤ 2 := by rw [hg1, nl_one]; decide
  have t2 : ((g : Int) != 1) = false := ineF (by omega)
  have t2' : (g != 1) = false := by simp [hg1]
  replace hg1 := Lib.hid hg1
  refine (low_c Xg cg g _ hg lg).mono ?_
  rintro e w9 ⟨rfl, hw⟩
  subst hw
  clear qv0
  clear qv1
  clear Rv
  obtain ⟨n, En⟩ : ∃ z : Int, z = (m : Int) := ⟨_, rfl⟩
  have Nn : nl (mg n) ≤ 8192 := by rw [En, mg_nat]; exact lm
  have n0 : n ≠ 0 := by rw [En]; omega
  have CW := fun (W : World) (h : NatV W mA mc m) => whole_c mA mc m W h (by omega)
  rw [← En] at CW
  obtain ⟨q, Eq⟩ : ∃ z : Int, z = u / n := ⟨_, rfl⟩
  obtain ⟨r, Er⟩ : ∃ z : Int, z = u % n := ⟨_, rfl⟩
  have CD := fun (W : World) (A : Option Addr) (c : Nat) (h1 : NatV W Xu cu (mg u)) (h2 : NatV W A c (mg n)) => idiv_c Xu cu u A c n W h1 h2 (by omega) (by omega) n0
  rw [← Eq, ← Er] at CD
  have hvr : inv a m = mg r := by unfold inv; rw [Er, Eu.out, En]
  replace En := Lib.hid En
  replace CW := Lib.hid CW
  replace Eq := Lib.hid Eq
  replace Er := Lib.hid Er
  replace CD := Lib.hid CD
  replace hvr := Lib.hid hvr
  replace n0 := Lib.hid n0
  go_wp2_with (fail)
  generalize hV0 : ((W1.alloc (.cells #[.bool (sg u), .slice Xu (nl (mg u)) cu] 24)).alloc (.cells #[.bool (sg v), .slice Xv (nl (mg v)) cv] 24)) = V0 at *
  replace hV0 := Lib.hid hV0
  refine wp_region_inv (fun E a' w' => ∃ (u38 u39 u40 u41 u37 u42 u43 u44 u11 u12 u13 : Value),
    a' = { tmps := #[.slice aA (nl a) ac, .slice mA (nl m) mc, undef, undef, .slice none 0 0, .int .i64 0, .slice Xg (nl g) cg, .pointer (some ⟨W1.heap.size, 0, none⟩), .pointer (some ⟨(W1.heap.size + 1), 0, none⟩), .int .u64 (g : Nat), .bool true, u11, u12, u13, .tuple #[.slice Xg (nl g) cg, .agg #[.bool (sg u), .slice Xu (nl (mg u)) cu], .agg #[.bool (sg v), .slice Xv (nl (mg v)) cv]], .slice aA (nl a) ac, .slice mA (nl m) mc, .tuple #[.slice Xg (nl g) cg, .agg #[.bool (sg u), .slice Xu (nl (mg u)) cu], .agg #[.bool (sg v), .slice Xv (nl (mg v)) cv]], .slice Xg (nl g) cg, .agg #[.bool (sg u), .slice Xu (nl (mg u)) cu], .agg #[.bool (sg v), .slice Xv (nl (mg v)) cv], .tuple #[.int .u64 (g : Nat), .bool true], .slice Xg (nl g) cg, .tuple #[.int .u64 (g : Nat), .bool true], .int .u64 (g : Nat), .bool true, .slice mA (nl m) mc, .int .i64 (nl m : Nat), .bool false, .bool false, .bool true, .bool false, .bool false, .bool false, .int .u64 (g : Nat), .bool false, .bool false, u37, u38, u39, u40, u41, u42, u43, u44, undef, undef], defers := [] } ∧
    (E 0 = true → u38 = .agg #[.bool (sg u), .slice Xu (nl (mg u)) cu]) ∧
    (E 1 = true → u39 = .slice mA (nl m) mc) ∧
    (E 2 = true → PI u40 n w') ∧
    (E 3 = true → PII u41 q r w') ∧
    (E 4 = true → PII u37 q r w') ∧
    (E 5 = true → PI u42 q w') ∧
    (E 6 = true → PI u43 r w') ∧
    (E 7 = true → u44 = .int .i64 0) ∧
    (E 8 = true → PB2 24 V0.heap.size u11 w') ∧
    (E 9 = true → PB2 24 V0.heap.size u12 w') ∧
    (E 10 = true → PBI V0.heap.size u11 q w') ∧
    (E 11 = true → PBI V0.heap.size u12 r w') ∧
    (E 12 = true → u13 = .int .i64 0) ∧
    (E 10 = true → E 8 = true) ∧
    (E 11 = true → E 9 = true) ∧
    (E 8 = true → E 9 = true → u11 ≠ u12) ∧
    Below V0.heap.size V0 w') (by kernel_rfl) (by kernel_rfl) ?init ?fin ?step
  case init => exact ⟨_, _, _, _, _, _, _, _, _, _, _, rfl, by simp, by simp, by simp, by simp, by simp, by simp, by simp, by simp, by simp, by simp, by simp, by simp, by simp, by simp, by simp, by simp, (Below.refl _ _).drew⟩
  case step =>
    rintro E a' w' i ⟨u38, u39, u40, u41, u37, u42, u43, u44, u11, u12, u13, rfl, h0, h1, h2, h3, h4, h5, h6, h7, h8, h9, h10, h11, h12, hD10, hD11, hN8_9, hB⟩ hi hEi hdep
    have qu0 := cbl hB qu0
    have qu1 := cbl hB qu1
    obtain rfl | rfl | rfl | rfl | rfl | rfl | rfl | rfl | rfl | rfl | rfl | rfl | rfl : i = 0 ∨ i = 1 ∨ i = 2 ∨ i = 3 ∨ i = 4 ∨ i = 5 ∨ i = 6 ∨ i = 7 ∨ i = 8 ∨ i = 9 ∨ i = 10 ∨ i = 11 ∨ i = 12 := by simp at hi; omega
    · skip
      refine wpOp_step rfl (fun K' hK' => ?_)
      go_simp
      refine hK' _ _ ?_
      exact ⟨_, _, _, _, _, _, _, _, _, _, _, rfl, fun _ => rfl, keepD (by decide) h1, keepD (by decide) h2, keepD (by decide) h3, keepD (by decide) h4, keepD (by decide) h5, keepD (by decide) h6, keepD (by decide) h7, keepD (by decide) h8, keepD (by decide) h9, keepD (by decide) h10, keepD (by decide) h11, keepD (by decide) h12, (fun h => by have := hD10 (by simpa using h); simpa using this), (fun h => by have := hD11 (by simpa using h); simpa using this), (fun h k => hN8_9 (by simpa using h) (by simpa using k)), hB⟩
    · skip
      refine wpOp_step rfl (fun K' hK' => ?_)
      go_simp
      refine hK' _ _ ?_
      exact ⟨_, _, _, _, _, _, _, _, _, _, _, rfl, keepD (by decide) h0, fun _ => rfl, keepD (by decide) h2, keepD (by decide) h3, keepD (by decide) h4, keepD (by decide) h5, keepD (by decide) h6, keepD (by decide) h7, keepD (by decide) h8, keepD (by decide) h9, keepD (by decide) h10, keepD (by decide) h11, keepD (by decide) h12, (fun h => by have := hD10 (by simpa using h); simpa using this), (fun h => by have := hD11 (by simpa using h); simpa using this), (fun h k => hN8_9 (by simpa using h) (by simpa using k)), hB⟩
    · skip
      have d1 := hdep _ rfl ⟨1, .data⟩ (by simp) rfl
      obtain rfl := h1 d1
      refine wpOp_step rfl (fun K' hK' => ?_)
      go_simp
      refine (Calls.mono (CW.out w' (hm.below hB)) ?_)
      rintro e W1 ⟨Xr, cr, rfl, kr, kb⟩
      refine hK' _ _ ?_
      exact ⟨_, _, _, _, _, _, _, _, _, _, _, rfl, keepD (by decide) h0, keepD (by decide) h1, fun _ => ⟨Xr, cr, rfl, kr⟩, keepP (by decide) h3 (fun h => h.below kb), keepP (by decide) h4 (fun h => h.below kb), keepP (by decide) h5 (fun h => h.below kb), keepP (by decide) h6 (fun h => h.below kb), keepD (by decide) h7, keepP (by decide) h8 (fun h => h.below kb), keepP (by decide) h9 (fun h => h.below kb), keepP (by decide) h10 (fun h => h.below kb), keepP (by decide) h11 (fun h => h.below kb), keepD (by decide) h12, (fun h => by have := hD10 (by simpa using h); simpa using this), (fun h => by have := hD11 (by simpa using h); simpa using this), (fun h k => hN8_9 (by simpa using h) (by simpa using k)), Below.cons hB kb⟩
    · skip
      have d0 := hdep _ rfl ⟨0, .data⟩ (by simp) rfl
      obtain rfl := h0 d0
      have d2 := hdep _ rfl ⟨2, .data⟩ (by simp) rfl
      obtain ⟨X_2, c_2, rfl, k_2⟩ := h2 d2
      refine wpOp_step rfl (fun K' hK' => ?_)
      go_simp
      refine (Calls.mono (CD.out w' _ _ (hu.below hB) k_2) ?_)
      rintro e W1 ⟨Xr, cr, Yr, dr, rfl, kr, lr, kb⟩
      refine hK' _ _ ?_
      exact ⟨_, _, _, _, _, _, _, _, _, _, _, rfl, keepD (by decide) h0, keepD (by decide) h1, keepP (by decide) h2 (fun h => h.below kb), fun _ => ⟨Xr, cr, Yr, dr, rfl, kr, lr⟩, keepP (by decide) h4 (fun h => h.below kb), keepP (by decide) h5 (fun h => h.below kb), keepP (by decide) h6 (fun h => h.below kb), keepD (by decide) h7, keepP (by decide) h8 (fun h => h.below kb), keepP (by decide) h9 (fun h => h.below kb), keepP (by decide) h10 (fun h => h.below kb), keepP (by decide) h11 (fun h => h.below kb), keepD (by decide) h12, (fun h => by have := hD10 (by simpa using h); simpa using this), (fun h => by have := hD11 (by simpa using h); simpa using this), (fun h k => hN8_9 (by simpa using h) (by simpa using k)), Below.cons hB kb⟩
    · skip
      have d3 := hdep _ rfl ⟨3, .data⟩ (by simp) rfl
      obtain ⟨X_3, c_3, Y_3, d_3, rfl, k_3, l_3⟩ := h3 d3
      refine wpOp_step rfl (fun K' hK' => ?_)
      go_simp
      refine hK' _ _ ?_
      exact ⟨_, _, _, _, _, _, _, _, _, _, _, rfl, keepD (by decide) h0, keepD (by decide) h1, keepD (by decide) h2, keepD (by decide) h3, fun _ => ⟨X_3, c_3, Y_3, d_3, rfl, k_3, l_3⟩, keepD (by decide) h5, keepD (by decide) h6, keepD (by decide) h7, keepD (by decide) h8, keepD (by decide) h9, keepD (by decide) h10, keepD (by decide) h11, keepD (by decide) h12, (fun h => by have := hD10 (by simpa using h); simpa using this), (fun h => by have := hD11 (by simpa using h); simpa using this), (fun h k => hN8_9 (by simpa using h) (by simpa using k)), hB⟩
    · skip
      have d4 := hdep _ rfl ⟨4, .data⟩ (by simp) rfl
      obtain ⟨X_4, c_4, Y_4, d_4, rfl, k_4, l_4⟩ := h4 d4
      refine wpOp_step rfl (fun K' hK' => ?_)
      go_simp
      refine hK' _ _ ?_
      exact ⟨_, _, _, _, _, _, _, _, _, _, _, rfl, keepD (by decide) h0, keepD (by decide) h1, keepD (by decide) h2, keepD (by decide) h3, keepD (by decide) h4, fun _ => ⟨X_4, c_4, rfl, k_4⟩, keepD (by decide) h6, keepD (by decide) h7, keepD (by decide) h8, keepD (by decide) h9, keepD (by decide) h10, keepD (by decide) h11, keepD (by decide) h12, (fun h => by have := hD10 (by simpa using h); simpa using this), (fun h => by have := hD11 (by simpa using h); simpa using this), (fun h k => hN8_9 (by simpa using h) (by simpa using k)), hB⟩
    · skip
      have d4 := hdep _ rfl ⟨4, .data⟩ (by simp) rfl
      obtain ⟨X_4, c_4, Y_4, d_4, rfl, k_4, l_4⟩ := h4 d4
      refine wpOp_step rfl (fun K' hK' => ?_)
      go_simp
      refine hK' _ _ ?_
      exact ⟨_, _, _, _, _, _, _, _, _, _, _, rfl, keepD (by decide) h0, keepD (by decide) h1, keepD (by decide) h2, keepD (by decide) h3, keepD (by decide) h4, keepD (by decide) h5, fun _ => ⟨Y_4, d_4, rfl, l_4⟩, keepD (by decide) h7, keepD (by decide) h8, keepD (by decide) h9, keepD (by decide) h10, keepD (by decide) h11, keepD (by decide) h12, (fun h => by have := hD10 (by simpa using h); simpa using this), (fun h => by have := hD11 (by simpa using h); simpa using this), (fun h k => hN8_9 (by simpa using h) (by simpa using k)), hB⟩
    · skip
      have d4 := hdep _ rfl ⟨4, .data⟩ (by simp) rfl
      obtain ⟨X_4, c_4, Y_4, d_4, rfl, k_4, l_4⟩ := h4 d4
      refine wpOp_step rfl (fun K' hK' => ?_)
      go_simp
      refine hK' _ _ ?_
      exact ⟨_, _, _, _, _, _, _, _, _, _, _, rfl, keepD (by decide) h0, keepD (by decide) h1, keepD (by decide) h2, keepD (by decide) h3, keepD (by decide) h4, keepD (by decide) h5, keepD (by decide) h6, fun _ => rfl, keepD (by decide) h8, keepD (by decide) h9, keepD (by decide) h10, keepD (by decide) h11, keepD (by decide) h12, (fun h => by have := hD10 (by simpa using h); simpa using this), (fun h => by have := hD11 (by simpa using h); simpa using this), (fun h k => hN8_9 (by simpa using h) (by simpa using k)), hB⟩
    · skip
      have kb : Below w'.heap.size w' (w'.alloc (.cells #[.bool false, .slice none 0 0] 24)) := (Below.refl _ _).alloc (Nat.le_refl _) _
      refine wpOp_step rfl (fun K' hK' => ?_)
      go_simp
      refine hK' _ _ ?_
      exact ⟨_, _, _, _, _, _, _, _, _, _, _, rfl, keepD (by decide) h0, keepD (by decide) h1, keepP (by decide) h2 (fun h => h.below kb), keepP (by decide) h3 (fun h => h.below kb), keepP (by decide) h4 (fun h => h.below kb), keepP (by decide) h5 (fun h => h.below kb), keepP (by decide) h6 (fun h => h.below kb), keepD (by decide) h7, fun _ => ⟨_, _, _, rfl, hB.size, ⟨at_new rfl⟩, notU_bool _, notU_slice _ _ _⟩, keepP (by decide) h9 (fun h => h.below kb), (fun h => by have h2 := hD10 (by simpa using h); rw [hEi] at h2; cases h2), keepP (by decide) h11 (fun h => h.below kb), keepD (by decide) h12, (fun _ => by simp), (fun h => by have := hD11 (by simpa using h); simpa using this), (fun _ h => by obtain ⟨n2, e2, l2⟩ := (h9 (by simpa using h)).lt; rw [e2]; intro e3; simp at e3 <;> omega), Below.cons hB kb⟩
    · skip
      have kb : Below w'.heap.size w' (w'.alloc (.cells #[.bool false, .slice none 0 0] 24)) := (Below.refl _ _).alloc (Nat.le_refl _) _
      refine wpOp_step rfl (fun K' hK' => ?_)
      go_simp
      refine hK' _ _ ?_
      exact ⟨_, _, _, _, _, _, _, _, _, _, _, rfl, keepD (by decide) h0, keepD (by decide) h1, keepP (by decide) h2 (fun h => h.below kb), keepP (by decide) h3 (fun h => h.below kb), keepP (by decide) h4 (fun h => h.below kb), keepP (by decide) h5 (fun h => h.below kb), keepP (by decide) h6 (fun h => h.below kb), keepD (by decide) h7, keepP (by decide) h8 (fun h => h.below kb), fun _ => ⟨_, _, _, rfl, hB.size, ⟨at_new rfl⟩, notU_bool _, notU_slice _ _ _⟩, keepP (by decide) h10 (fun h => h.below kb), (fun h => by have h2 := hD11 (by simpa using h); rw [hEi] at h2; cases h2), keepD (by decide) h12, (fun h => by have := hD10 (by simpa using h); simpa using this), (fun _ => by simp), (fun h _ => by obtain ⟨n2, e2, l2⟩ := (h8 (by simpa using h)).lt; rw [e2]; intro e3; simp at e3 <;> omega), Below.cons hB kb⟩
    · skip
      have d8 := hdep _ rfl ⟨8, .data⟩ (by simp) rfl
      obtain ⟨nb, z0, z1, rfl, hn, hb, nz0, nz1⟩ := h8 d8
      have d5 := hdep _ rfl ⟨5, .data⟩ (by simp) rfl
      obtain ⟨X_5, c_5, rfl, k_5⟩ := h5 d5
      have fz0 := hb.f (i := 0)
      have cz0 := hb.c (i := 0) rfl
      have fz1 := hb.f (i := 1)
      have cz1 := hb.c (i := 1) rfl
      have hp := hb.put2 (notU2 nz0 nz1) (.bool (sg q)) (.slice X_5 (nl (mg q)) c_5)
      have hs := hb.store2 (.bool (sg q)) (.slice X_5 (nl (mg q)) c_5)
      refine wpOp_step rfl (fun K' hK' => ?_)
      go_simp
      refine hK' _ _ ?_
      exact ⟨_, _, _, _, _, _, _, _, _, _, _, rfl, keepD (by decide) h0, keepD (by decide) h1, keepP (by decide) h2 (fun h => h.put hp), keepP (by decide) h3 (fun h => h.put hp), keepP (by decide) h4 (fun h => h.put hp), keepP (by decide) h5 (fun h => h.put hp), keepP (by decide) h6 (fun h => h.put hp), keepD (by decide) h7, (fun _ => ⟨nb, _, _, rfl, hn, hs, notU_bool _, notU_slice _ _ _⟩), keepP' (by decide) h9 (fun e h => h.put hp (fun e3 => hN8_9 d8 (by simpa using e) e3.symm)), fun _ => ⟨nb, X_5, c_5, rfl, hn, hs, hp.nat k_5⟩, keepP' (by decide) h11 (fun e h => h.put hp (fun e3 => hN8_9 d8 (hD11 (by simpa using e)) e3.symm)), keepD (by decide) h12, (fun _ => by simp [d8]), (fun h => by have := hD11 (by simpa using h); simpa using this), (fun h k => hN8_9 (by simpa using h) (by simpa using k)), Below.store2 hB hn⟩
    · skip
      have d9 := hdep _ rfl ⟨9, .data⟩ (by simp) rfl
      obtain ⟨nb, z0, z1, rfl, hn, hb, nz0, nz1⟩ := h9 d9
      have d6 := hdep _ rfl ⟨6, .data⟩ (by simp) rfl
      obtain ⟨X_6, c_6, rfl, k_6⟩ := h6 d6
      have fz0 := hb.f (i := 0)
      have cz0 := hb.c (i := 0) rfl
      have fz1 := hb.f (i := 1)
      have cz1 := hb.c (i := 1) rfl
      have hp := hb.put2 (notU2 nz0 nz1) (.bool (sg r)) (.slice X_6 (nl (mg r)) c_6)
      have hs := hb.store2 (.bool (sg r)) (.slice X_6 (nl (mg r)) c_6)
      refine wpOp_step rfl (fun K' hK' => ?_)
      go_simp
      refine hK' _ _ ?_
      exact ⟨_, _, _, _, _, _, _, _, _, _, _, rfl, keepD (by decide) h0, keepD (by decide) h1, keepP (by decide) h2 (fun h => h.put hp), keepP (by decide) h3 (fun h => h.put hp), keepP (by decide) h4 (fun h => h.put hp), keepP (by decide) h5 (fun h => h.put hp), keepP (by decide) h6 (fun h => h.put hp), keepD (by decide) h7, keepP' (by decide) h8 (fun e h => h.put hp (hN8_9 (by simpa using e) d9)), (fun _ => ⟨nb, _, _, rfl, hn, hs, notU_bool _, notU_slice _ _ _⟩), keepP' (by decide) h10 (fun e h => h.put hp (hN8_9 (hD10 (by simpa using e)) d9)), fun _ => ⟨nb, X_6, c_6, rfl, hn, hs, hp.nat k_6⟩, keepD (by decide) h12, (fun h => by have := hD10 (by simpa using h); simpa using this), (fun _ => by simp [d9]), (fun h k => hN8_9 (by simpa using h) (by simpa using k)), Below.store2 hB hn⟩
    · skip
      have d7 := hdep _ rfl ⟨7, .data⟩ (by simp) rfl
      obtain rfl := h7 d7
      refine wpOp_step rfl (fun K' hK' => ?_)
      go_simp
      refine hK' _ _ ?_
      exact ⟨_, _, _, _, _, _, _, _, _, _, _, rfl, keepD (by decide) h0, keepD (by decide) h1, keepD (by decide) h2, keepD (by decide) h3, keepD (by decide) h4, keepD (by decide) h5, keepD (by decide) h6, keepD (by decide) h7, keepD (by decide) h8, keepD (by decide) h9, keepD (by decide) h10, keepD (by decide) h11, fun _ => rfl, (fun h => by have := hD10 (by simpa using h); simpa using this), (fun h => by have := hD11 (by simpa using h); simpa using this), (fun h k => hN8_9 (by simpa using h) (by simpa using k)), hB⟩
  case fin =>
    rintro E a' w' ⟨u38, u39, u40, u41, u37, u42, u43, u44, u11, u12, u13, rfl, h0, h1, h2, h3, h4, h5, h6, h7, h8, h9, h10, h11, h12, hD10, hD11, hN8_9, hB⟩ hall
    obtain ⟨nbr, Xr, cr, rfl, hnr, Rr, hr⟩ := h11 (hall 11 (by simp))
    replace ha := ha.below hB
    replace hm := hm.below hB
    replace hG := hG.below hB
    replace hg := hg.below hB
    replace hu := hu.below hB
    replace hv := hv.below hB
    replace Ru := Ru.below hB
    replace qu0 := cbl hB qu0
    replace qu1 := cbl hB qu1
    replace HBT := Below.cons HBT hB
    have kvr := hnr
    have qr0 := Rr.c (i := 0) rfl
    have qr1 := Rr.c (i := 1) rfl
    clear hall
    generalize hV1 : w' = V1 at *
    clear hV1
    go_wp2_with (fail)
    refine bodyPost_ret (v := .tuple #[.slice Xr (nl (mg r)) cr, .int .i64 0]) (by simp [results, Tryz.results43, go_sem]) rfl ?_
    rw [hvr.out]
    exact ⟨Xr, cr, rfl, hr, HBT⟩
end Go.Proofs.YthcmoimlnhghcaaGreatDoor

/- Literals in the laws' walks. -/
set_option linter.unusedVariables false
set_option linter.unusedSimpArgs false
namespace Go.Proofs.YthcmoimlnhghcaaGreatDoor
open Go.RowKit Go.Shelf
theorem at_len1 {f : Nat} {A : Option Addr} {c a la : Nat} {xs : List Value} {w : World} {R : Ending → World → Prop} (ha : nl a = la) (h : Calls Tryz.prog f (.slice A (nl a) c :: xs).toArray w R) : Calls Tryz.prog f (.slice A la c :: xs).toArray w R := by
  subst ha; exact h
theorem at_lenR {f : Nat} {x : Value} {B : Option Addr} {d b lb : Nat} {xs : List Value} {w : World} {R : Ending → World → Prop} (hb : nl b = lb) (h : Calls Tryz.prog f (x :: .slice B (nl b) d :: xs).toArray w R) : Calls Tryz.prog f (x :: .slice B lb d :: xs).toArray w R := by
  subst hb; exact h
theorem at_len2 {f : Nat} {A B : Option Addr} {c d a b la lb : Nat} {xs : List Value} {w : World} {R : Ending → World → Prop} (ha : nl a = la) (hb : nl b = lb) (h : Calls Tryz.prog f (.slice A (nl a) c :: .slice B (nl b) d :: xs).toArray w R) : Calls Tryz.prog f (.slice A la c :: .slice B lb d :: xs).toArray w R := by
  subst ha hb; exact h
theorem alloc_sz (W : World) (o : Obj) : (W.alloc o).heap.size = W.heap.size + 1 := Array.size_push _
theorem nat_nil (w : World) : NatV w none 0 0 := ⟨.inl (by simp [vals, limbs_zero]), by rw [nl_zero]; exact Nat.le_refl _, by decide⟩
theorem lim_of {l : List Nat} (h : l.all (fun x => decide (x < 4294967296)) = true) : Lim l := fun x hx => by simpa using List.all_eq_true.1 h x hx
theorem lim_lit {l : List Nat} (h : l.all (fun x => decide (x < 4294967296)) = true) (h2 : (l.getD (l.length - 1) 0 != 0) = true) : limbs (val l) = l := limbs_val (lim_of h) (.inr (bne_iff_ne.1 h2))
theorem nl_lit {l : List Nat} (h : l.all (fun x => decide (x < 4294967296)) = true) (h2 : (l.getD (l.length - 1) 0 != 0) = true) : nl (val l) = l.length := by unfold nl; rw [lim_lit h h2]
theorem rd_lit {l : List Nat} (W : World) (s : Nat) (arr : Array Value) (t : TypeId) (h : W.heap[s]? = some (.cells arr t (0, 0))) (ha : arr.toList = vals l) : Rd W (some ⟨s, 0, none⟩) l := by
  refine .inr ⟨_, rfl, fun i u hu => ?_⟩
  rw [← ha, Array.getElem?_toList] at hu
  unfold World.cell?
  have e : (Addr.add ⟨s, 0, none⟩ i) = ⟨s, i, none⟩ := by simp only [Addr.add]; split <;> simp_all
  rw [e]
  simp [h, hu]
theorem nlit {l : List Nat} (W : World) (s : Nat) (arr : Array Value) (h : W.heap[s]? = some (.cells arr 65 (0, 0))) (ha : arr.toList = vals l) (h1 : l.all (fun x => decide (x < 4294967296)) = true) (h2 : (l.getD (l.length - 1) 0 != 0) = true) (h3 : l.length ≤ maxLen) : NatV W (some ⟨s, 0, none⟩) l.length (val l) :=
  ⟨by rw [lim_lit h1 h2]; exact rd_lit W s arr _ h ha, by rw [nl_lit h1 h2]; exact Nat.le_refl _, h3⟩
theorem same1_t (A : Option Addr) (c a : Nat) (B : Option Addr) (d b : Nat) (w : World) (hA : NatV w A c a) (hB : NatV w B d b) (ha : nl a ≤ 1099511627776) (hb : nl b ≤ 1099511627776) (h : a = b) :
    Calls Tryz.prog 38 #[.slice A (nl a) c, .slice B (nl b) d] w fun e w' => e = .returned (.bool true) ∧ Below w.heap.size w w' := by
  refine (same1_c A c a B d b w hA hB ha hb).mono ?_
  rintro e w1 ⟨rfl, h1⟩
  exact ⟨by rw [decide_eq_true h], h1⟩
end Go.Proofs.YthcmoimlnhghcaaGreatDoor

/- The document's rationals, walked: Made; the laws' own small numbers. -/
set_option linter.unusedVariables false
set_option linter.unusedSimpArgs false
namespace Go.Proofs.YthcmoimlnhghcaaGreatDoor
open Go.RowKit Go.Shelf
attribute [local go_sem] max2_i min2_i max_two min_two

end Go.Proofs.YthcmoimlnhghcaaGreatDoor

/- Rounding in five directions: what the laws say of it. No Go in it. -/
set_option linter.unusedVariables false
set_option linter.unusedSimpArgs false
namespace Go.Proofs.YthcmoimlnhghcaaGreatDoor

theorem dbl (x : Rat) : x + x = 2 * x := by grind
end Go.Proofs.YthcmoimlnhghcaaGreatDoor

/- A rational rounded to a whole number, the document's way. -/
set_option linter.unusedVariables false
set_option linter.unusedSimpArgs false
namespace Go.Proofs.YthcmoimlnhghcaaGreatDoor
open Go.RowKit Go.Shelf
attribute [local go_sem] max2_i min2_i max_two min_two

theorem PBR.put {W W' : World} {u : Value} {q : Rat} {n0 k : Nat} (h : PBR n0 u q W) (hp : Put W W' k) (hne : u ≠ .pointer (some ⟨k, 0, none⟩)) : PBR n0 u q W' := by
  obtain ⟨nb, X, c, Y, d, h1, h2, h3, h4, h5⟩ := h
  exact ⟨nb, X, c, Y, d, h1, h2, ⟨(hp.far nb (fun e => hne (by rw [h1, e]))).trans h3.at_⟩, hp.nat h4, hp.nat h5⟩
end Go.Proofs.YthcmoimlnhghcaaGreatDoor

/- A rational, a dyadic number, rounded, the document's way: Cut, Round. -/
set_option linter.unusedVariables false
set_option linter.unusedSimpArgs false
namespace Go.Proofs.YthcmoimlnhghcaaGreatDoor
open Go.RowKit Go.Shelf
attribute [local go_sem] max2_i min2_i max_two min_two

end Go.Proofs.YthcmoimlnhghcaaGreatDoor

/- What the laws of dyadic numbers share: cutting in any direction, sizes, what is alike. -/
set_option linter.unusedVariables false
set_option linter.unusedSimpArgs false
namespace Go.Proofs.YthcmoimlnhghcaaGreatDoor
open Go.RowKit Go.Shelf

/-- How long a dyadic number is, and how far its power lies from 0. -/
structure DB (q : Rat) (l E : Nat) : Prop where
  d : Dyd q
  l : nl (mg (dmn q)) ≤ l
  e : -(E : Int) ≤ dex q ∧ dex q ≤ E
theorem DB.ok {q : Rat} {l E : Nat} (h : DB q l E) (hl : l ≤ 100000) (hE : E ≤ 1000000) : DOk q := ⟨h.d, by have := h.l; omega, by have := h.e; omega⟩
theorem DB.mono {q : Rat} {l E l2 E2 : Nat} (h : DB q l E) (hl : l ≤ l2) (hE : E ≤ E2) : DB q l2 E2 := ⟨h.d, by have := h.l; omega, by have := h.e; omega⟩
def PD (u : Value) (q : Rat) (W : World) : Prop := ∃ X c, u = .agg #[.bool (sg (dmn q)), .slice X (nl (mg (dmn q))) c, .int .i64 (dex q)] ∧ NatV W X c (mg (dmn q))
def PBD (n0 : Nat) (u : Value) (q : Rat) (W : World) : Prop := ∃ nb X c, u = .pointer (some ⟨nb, 0, none⟩) ∧ n0 ≤ nb ∧ BoxA W nb 26 #[.bool (sg (dmn q)), .slice X (nl (mg (dmn q))) c, .int .i64 (dex q)] ∧ NatV W X c (mg (dmn q))
theorem PD.below {W W' : World} {u : Value} {q : Rat} (h : PD u q W) (hb : Below W.heap.size W W') : PD u q W' := by
  obtain ⟨X, c, h1, h2⟩ := h; exact ⟨X, c, h1, h2.below hb⟩
theorem PD.put {W W' : World} {u : Value} {q : Rat} {k : Nat} (h : PD u q W) (hp : Put W W' k) : PD u q W' := by
  obtain ⟨X, c, h1, h2⟩ := h; exact ⟨X, c, h1, hp.nat h2⟩
theorem PBD.below {W W' : World} {u : Value} {q : Rat} {n0 : Nat} (h : PBD n0 u q W) (hb : Below W.heap.size W W') : PBD n0 u q W' := by
  obtain ⟨nb, X, c, h1, h2, h3, h4⟩ := h; exact ⟨nb, X, c, h1, h2, h3.below hb, h4.below hb⟩
theorem PBD.put {W W' : World} {u : Value} {q : Rat} {n0 k : Nat} (h : PBD n0 u q W) (hp : Put W W' k) (hne : u ≠ .pointer (some ⟨k, 0, none⟩)) : PBD n0 u q W' := by
  obtain ⟨nb, X, c, h1, h2, h3, h4⟩ := h
  exact ⟨nb, X, c, h1, h2, ⟨(hp.far nb (fun e => hne (by rw [h1, e]))).trans h3.at_⟩, hp.nat h4⟩
theorem zsameT_c (aA : Option Addr) (ac : Nat) (a : Int) (bA : Option Addr) (bc : Nat) (b : Int) (w : World) (ha : NatV w aA ac (mg a)) (hb : NatV w bA bc (mg b)) (la : nl (mg a) ≤ 1073741824) (h : a = b) :
    Calls Tryz.prog 42 #[.agg #[.bool (sg a), .slice aA (nl (mg a)) ac], .agg #[.bool (sg b), .slice bA (nl (mg b)) bc]] w (fun e w' => e = .returned (.bool true) ∧ Below w.heap.size w w') := by
  subst h
  refine (zsame_c aA ac a bA bc a w ha hb la la).mono ?_
  rintro e w1 ⟨rfl, h1⟩
  exact ⟨by rw [decide_eq_true rfl], h1⟩
end Go.Proofs.YthcmoimlnhghcaaGreatDoor

/- Head of the laws of greatest common divisors. -/
set_option linter.unusedVariables false
set_option linter.unusedSimpArgs false
namespace Go.Proofs.YthcmoimlnhghcaaGreatDoor
open Go.RowKit Go.Shelf
attribute [local go_sem] max2_i min2_i max_two min_two

theorem dep_of {o : Oper} {E : Nat → Bool} (h : ∀ e ∈ o.after, Region.binds .any e = true → E e.on = true) (j : Nat) (hj : o.after.toList.any (fun e => e.on == j && Region.binds .any e) = true) : E j = true := by
  obtain ⟨e, he, h2⟩ := List.any_eq_true.1 hj
  rw [Bool.and_eq_true] at h2
  have h3 := h e (by simpa using he) h2.2
  rw [beq_iff_eq.1 h2.1] at h3; exact h3
theorem wanted_of {ops : Array Oper} {o : Oper} {T : Array Value} {j k : Nat} {b : Bool} (hg : o.guard = some (j, b)) (hk : (ops.toList[j]?).bind (fun o => o.dst) = some k) (h : T[k]? = some (.bool b)) : Region.wanted o (yielded ops T) = true := by
  unfold Region.wanted
  rw [hg]
  have h2 : (ops[j]?).bind (fun o => o.dst) = some k := by rw [← Array.getElem?_toList]; exact hk
  simp only [yielded, h2, Option.bind_some, h, beq_self_eq_true]
theorem getD_of {T : Array Value} {k : Nat} {v : Value} (h : T[k]? = some v) : T.getD k undef = v := by
  rw [Array.getD_eq_getD_getElem?, h]; rfl
theorem en1 : eun 12 18 = 3 := (eun_eq (by decide) (by decide)).symm
theorem en2 : eun 12 0 = 0 := (eun_eq (by decide) (by decide)).symm
theorem en3 : eun 3 7 = 3 := (eun_eq (by decide) (by decide)).symm
theorem en4 : eun 12 1 = 1 := (eun_eq (by decide) (by decide)).symm
theorem ex1 : exu 12 18 = -1 ∧ exv 12 18 = 1 := by unfold exu exv; rw [en1]; decide
theorem ex2 : exu 12 0 = 1 ∧ exv 12 0 = 0 := by unfold exu exv; rw [en2]; decide
theorem iv1 : inv 3 7 = 5 := by unfold inv exu; rw [en3]; decide
theorem iv2 : inv 12 1 = 0 := by unfold inv exu; rw [en4]; decide
theorem eqN {P : Program} {f : Nat} {xs : Array Value} {w : World} {n m : Nat} (e : n = m) (h : Calls P f xs w (RetN w n)) : Calls P f xs w (RetN w m) := e ▸ h
theorem eqQ {P : Program} {f : Nat} {xs : Array Value} {w : World} {g : Nat → Nat} {n m : Nat} (e : n = m) (h : Calls P f xs w (RetQs w g n)) : Calls P f xs w (RetQs w g m) := e ▸ h
def headK (u0 u1 u2 u3 u4 u5 u6 u7 u8 u9 u10 u11 u12 u13 u14 u15 u16 u17 u18 u19 : Value) (a n6 n18 n2 n5 n24 n0 : Nat) (zm z1 z0 : Int) : List Kd := [.val (u0),
  .val (u1),
  .nat (n6),
  .one (n6),
  .val (.bool true),
  .val (.bool true),
  .val (u1),
  .val (u0),
  .nat (n6),
  .one (n6),
  .val (.bool true),
  .val (.bool true),
  .val (.bool true),
  .val (u0),
  .val (u1),
  .nat (n6),
  .one (n6),
  .val (.bool true),
  .val (.bool true),
  .val (.bool true),
  .nat (n0),
  .val (.int .i64 0),
  .val (.bool true),
  .val (.bool true),
  .val (.bool true),
  .val (u1),
  .nat (n18),
  .val (u1),
  .val (.bool true),
  .val (.bool true),
  .val (.bool true),
  .val (u2),
  .one (n6),
  .val (.bool true),
  .val (.bool true),
  .val (.bool true),
  .val (u3),
  .int (zm),
  .val (.bool true),
  .val (.bool true),
  .val (.bool true),
  .val (u4),
  .int (z1),
  .val (.bool true),
  .val (.bool true),
  .val (.bool true),
  .val (u5),
  .val (u0),
  .val (.bool true),
  .val (.bool true),
  .val (.bool true),
  .val (u6),
  .int (z1),
  .val (.bool true),
  .val (.bool true),
  .val (.bool true),
  .val (u7),
  .int (z0),
  .val (.bool true),
  .val (.bool true),
  .val (.bool true),
  .val (u8),
  .val (u9),
  .val (u10),
  .val (.int .i64 0),
  .val (.bool true),
  .val (.bool true),
  .val (.bool true),
  .val (u8),
  .val (u11),
  .val (u12),
  .val (u13),
  .val (.bool true),
  .val (.bool true),
  .val (.bool true),
  .val (u8),
  .val (u14),
  .val (u15),
  .one (n2),
  .val (.bool true),
  .val (.bool true),
  .val (.bool true),
  .val (u0),
  .qs (quo a 0) (0),
  .val (.int .i64 0),
  .val (.bool true),
  .val (.bool true),
  .val (.bool true),
  .val (u16),
  .one (n5),
  .val (.bool true),
  .val (.bool true),
  .val (.bool true),
  .val (.int .i64 0),
  .val (.bool true),
  .val (.bool true),
  .val (.bool true),
  .val (.int .i64 4),
  .val (.bool true),
  .val (.bool true),
  .val (.bool true),
  .val (.int .i64 4),
  .val (.bool true),
  .val (.bool true),
  .val (.bool true),
  .val (u17),
  .val (.int .i64 0),
  .val (.bool true),
  .val (.bool true),
  .val (.bool true),
  .val (.int .i64 0),
  .val (.bool true),
  .val (.bool true),
  .val (.bool true),
  .val (u18),
  .one (n24),
  .val (.bool true),
  .val (.bool true),
  .val (.bool true),
  .val (.int .i64 0),
  .val (.bool true),
  .val (.bool true),
  .val (.bool true),
  .val (u19),
  .val (u13),
  .val (.bool true),
  .val (.bool true),
  .val (.bool true),
  .val (.int .i64 0),
  .val (.bool true),
  .val (.bool true),
  .val (.bool true),
  .val (.int .i64 3),
  .val (.bool true),
  .val (.bool true),
  .val (.bool true)]
theorem ghead_c (w : World) (hG : Flds w) : Calls Tryz.prog 31 #[] w fun e w' => e = .returned (.bool true) ∧ Below w.heap.size w w' := by
  have hb1 : Below (w).heap.size (w) ((w).alloc (.cells #[.int .u32 12] 65)) := (Below.refl _ _).alloc (Nat.le_refl _) _
  have ha := nlit (l := [12]) _ _ _ (heap_alloc_new (w) (.cells #[.int .u32 12] 65)) rfl (by decide) (by decide) (by decide)
  obtain ⟨a, Ea⟩ : ∃ zq : Nat, zq = val [12] := ⟨_, rfl⟩
  rw [← Ea] at ha
  have Na : nl a = 1 := by rw [Ea]; exact nl_lit (by decide) (by decide)
  have Va : a = 12 := by rw [Ea]; decide
  have Ba : nl a ≤ 1 := Nat.le_of_eq Na
  replace Na := Lib.hid Na
  replace Ea := Lib.hid Ea
  replace Va := Lib.hid Va
  replace hG := hG.below hb1
  have HBT := hb1
  clear hb1
  have hb2 : Below (((w).alloc (.cells #[.int .u32 12] 65))).heap.size (((w).alloc (.cells #[.int .u32 12] 65))) ((((w).alloc (.cells #[.int .u32 12] 65))).alloc (.cells #[.int .u32 18] 65)) := (Below.refl _ _).alloc (Nat.le_refl _) _
  have hb := nlit (l := [18]) _ _ _ (heap_alloc_new (((w).alloc (.cells #[.int .u32 12] 65))) (.cells #[.int .u32 18] 65)) rfl (by decide) (by decide) (by decide)
  obtain ⟨b, Eb⟩ : ∃ zq : Nat, zq = val [18] := ⟨_, rfl⟩
  rw [← Eb] at hb
  simp only [alloc_sz] at hb
  have Nb : nl b = 1 := by rw [Eb]; exact nl_lit (by decide) (by decide)
  have Vb : b = 18 := by rw [Eb]; decide
  have Bb : nl b ≤ 1 := Nat.le_of_eq Nb
  replace Nb := Lib.hid Nb
  replace Eb := Lib.hid Eb
  replace Vb := Lib.hid Vb
  replace hG := hG.below hb2
  replace ha := ha.below hb2
  replace HBT := Below.cons HBT hb2
  clear hb2
  have hb3 : Below (((((w).alloc (.cells #[.int .u32 12] 65))).alloc (.cells #[.int .u32 18] 65))).heap.size (((((w).alloc (.cells #[.int .u32 12] 65))).alloc (.cells #[.int .u32 18] 65))) ((((((w).alloc (.cells #[.int .u32 12] 65))).alloc (.cells #[.int .u32 18] 65))).alloc (.cells #[.int .u32 1] 65)) := (Below.refl _ _).alloc (Nat.le_refl _) _
  have ho := nlit (l := [1]) _ _ _ (heap_alloc_new (((((w).alloc (.cells #[.int .u32 12] 65))).alloc (.cells #[.int .u32 18] 65))) (.cells #[.int .u32 1] 65)) rfl (by decide) (by decide) (by decide)
  obtain ⟨o, Eo⟩ : ∃ zq : Nat, zq = val [1] := ⟨_, rfl⟩
  rw [← Eo] at ho
  simp only [alloc_sz] at ho
  have No : nl o = 1 := by rw [Eo]; exact nl_lit (by decide) (by decide)
  have Vo : o = 1 := by rw [Eo]; decide
  have Bo : nl o ≤ 1 := Nat.le_of_eq No
  replace No := Lib.hid No
  replace Eo := Lib.hid Eo
  replace Vo := Lib.hid Vo
  replace hG := hG.below hb3
  replace ha := ha.below hb3
  replace hb := hb.below hb3
  replace HBT := Below.cons HBT hb3
  clear hb3
  have hnil := nat_nil (((((((w).alloc (.cells #[.int .u32 12] 65))).alloc (.cells #[.int .u32 18] 65))).alloc (.cells #[.int .u32 1] 65)))
  have Nnil : Hid (nl 0 = 0) := Lib.hid nl_zero
  have Bnil : nl 0 ≤ 0 := Nat.le_of_eq nl_zero
  go_enter Tryz.func31, Tryz.ntmps31
  go_wp2_with (fail)
  have CX := (at_len2 Na.out Nb.out (ext_c _ _ a _ _ b _ ha hb hG (by omega) (by omega)))
  obtain ⟨g, Eg⟩ : ∃ z : Nat, z = Nat.gcd a b := ⟨_, rfl⟩
  obtain ⟨u, Eu⟩ : ∃ z : Int, z = exu a b := ⟨_, rfl⟩
  obtain ⟨v, Ev⟩ : ∃ z : Int, z = exv a b := ⟨_, rfl⟩
  rw [← Eg, ← Eu, ← Ev] at CX
  replace CX := Lib.hid CX
  replace Eg := Lib.hid Eg
  replace Eu := Lib.hid Eu
  replace Ev := Lib.hid Ev
  refine (Calls.mono (CX.out) ?_)
  rintro e W4 ⟨Xg, cg, Xu, cu, Xv, cv, rfl, hg, hu, hv, hb4⟩
  replace hG := hG.below hb4
  replace ha := ha.below hb4
  replace hb := hb.below hb4
  replace ho := ho.below hb4
  replace hnil := hnil.below hb4
  replace HBT := Below.cons HBT hb4
  clear hb4
  clear CX
  obtain ⟨hb5, Ru, Rv⟩ := bx2 W4 #[.bool (sg u), .slice Xu (nl (mg u)) cu] 24 #[.bool (sg v), .slice Xv (nl (mg v)) cv] 24
  replace hG := hG.below hb5
  replace ha := ha.below hb5
  replace hb := hb.below hb5
  replace ho := ho.below hb5
  replace hnil := hnil.below hb5
  replace hg := hg.below hb5
  replace hu := hu.below hb5
  replace hv := hv.below hb5
  replace HBT := Below.cons HBT hb5
  clear hb5
  go_wp2_with (fail)
  have CX := (at_len2 Na.out Nnil.out (ext_c _ _ a none 0 0 _ ha hnil hG (by omega) (by omega)))
  obtain ⟨h', Eh'⟩ : ∃ z : Nat, z = Nat.gcd a 0 := ⟨_, rfl⟩
  obtain ⟨p', Ep'⟩ : ∃ z : Int, z = exu a 0 := ⟨_, rfl⟩
  obtain ⟨q', Eq'⟩ : ∃ z : Int, z = exv a 0 := ⟨_, rfl⟩
  rw [← Eh', ← Ep', ← Eq'] at CX
  replace CX := Lib.hid CX
  replace Eh' := Lib.hid Eh'
  replace Ep' := Lib.hid Ep'
  replace Eq' := Lib.hid Eq'
  refine (Calls.mono (CX.out) ?_)
  rintro e W6 ⟨Xh', ch', Xp', cp', Xq', cq', rfl, hh', hp', hq', hb6⟩
  replace hG := hG.below hb6
  replace ha := ha.below hb6
  replace hb := hb.below hb6
  replace ho := ho.below hb6
  replace hnil := hnil.below hb6
  replace hg := hg.below hb6
  replace hu := hu.below hb6
  replace hv := hv.below hb6
  replace Ru := Ru.below hb6
  replace Rv := Rv.below hb6
  replace HBT := Below.cons HBT hb6
  clear hb6
  clear CX
  have hb7 : Below (W6).heap.size (W6) ((W6.alloc (.cells #[.bool (sg p'), .slice Xp' (nl (mg p')) cp'] 24)).alloc (.cells #[.bool (sg q'), .slice Xq' (nl (mg q')) cq'] 24)) := (Below.alloc (Below.alloc (Below.refl _ _) (Nat.le_refl _) _) (by simp <;> omega) _)
  replace hG := hG.below hb7
  replace ha := ha.below hb7
  replace hb := hb.below hb7
  replace ho := ho.below hb7
  replace hnil := hnil.below hb7
  replace hg := hg.below hb7
  replace hu := hu.below hb7
  replace hv := hv.below hb7
  replace Ru := Ru.below hb7
  replace Rv := Rv.below hb7
  replace hh' := hh'.below hb7
  replace hp' := hp'.below hb7
  replace hq' := hq'.below hb7
  replace HBT := Below.cons HBT hb7
  clear hb7
  have Rp' : BoxA ((W6.alloc (.cells #[.bool (sg p'), .slice Xp' (nl (mg p')) cp'] 24)).alloc (.cells #[.bool (sg q'), .slice Xq' (nl (mg q')) cq'] 24)) W6.heap.size 24 #[.bool (sg p'), .slice Xp' (nl (mg p')) cp'] := ⟨by repeat (first | exact at_new (by first | (simp; done) | (simp; omega)) | refine at_old (by first | (simp; done) | (simp; omega)) ?_)⟩
  have Rq' : BoxA ((W6.alloc (.cells #[.bool (sg p'), .slice Xp' (nl (mg p')) cp'] 24)).alloc (.cells #[.bool (sg q'), .slice Xq' (nl (mg q')) cq'] 24)) (W6.heap.size + 1) 24 #[.bool (sg q'), .slice Xq' (nl (mg q')) cq'] := ⟨by repeat (first | exact at_new (by first | (simp; done) | (simp; omega)) | refine at_old (by first | (simp; done) | (simp; omega)) ?_)⟩
  go_wp2_with (fail)
  have CQ := (at_len2 Na.out Nb.out (quots_c _ _ a _ _ b _ ha hb (by omega) (by omega)))
  replace CQ := Lib.hid CQ
  refine (Calls.mono (CQ.out) ?_)
  rintro e W8 ⟨Xqs, cqs, rfl, hqs, mqs, hb8⟩
  replace hG := hG.below hb8
  replace ha := ha.below hb8
  replace hb := hb.below hb8
  replace ho := ho.below hb8
  replace hnil := hnil.below hb8
  replace hg := hg.below hb8
  replace hu := hu.below hb8
  replace hv := hv.below hb8
  replace Ru := Ru.below hb8
  replace Rv := Rv.below hb8
  replace hh' := hh'.below hb8
  replace hp' := hp'.below hb8
  replace hq' := hq'.below hb8
  replace Rp' := Rp'.below hb8
  replace Rq' := Rq'.below hb8
  replace HBT := Below.cons HBT hb8
  clear hb8
  clear CQ
  have nq : eun a b = 3 := by rw [Va.out, Vb.out]; exact en1
  rw [nq] at hqs
  simp only [nq]
  replace nq := Lib.hid nq
  have hb9 : Below (W8).heap.size (W8) ((W8).alloc (.cells #[.int .u32 3] 65)) := (Below.refl _ _).alloc (Nat.le_refl _) _
  have hx3 := nlit (l := [3]) _ _ _ (heap_alloc_new (W8) (.cells #[.int .u32 3] 65)) rfl (by decide) (by decide) (by decide)
  obtain ⟨x3, Ex3⟩ : ∃ zq : Nat, zq = val [3] := ⟨_, rfl⟩
  rw [← Ex3] at hx3
  have Nx3 : nl x3 = 1 := by rw [Ex3]; exact nl_lit (by decide) (by decide)
  have Vx3 : x3 = 3 := by rw [Ex3]; decide
  have Bx3 : nl x3 ≤ 1 := Nat.le_of_eq Nx3
  replace Nx3 := Lib.hid Nx3
  replace Ex3 := Lib.hid Ex3
  replace Vx3 := Lib.hid Vx3
  replace hG := hG.below hb9
  replace ha := ha.below hb9
  replace hb := hb.below hb9
  replace ho := ho.below hb9
  replace hnil := hnil.below hb9
  replace hg := hg.below hb9
  replace hu := hu.below hb9
  replace hv := hv.below hb9
  replace Ru := Ru.below hb9
  replace Rv := Rv.below hb9
  replace hh' := hh'.below hb9
  replace hp' := hp'.below hb9
  replace hq' := hq'.below hb9
  replace Rp' := Rp'.below hb9
  replace Rq' := Rq'.below hb9
  replace hqs := hqs.below hb9
  replace HBT := Below.cons HBT hb9
  clear hb9
  have hb10 : Below (((W8).alloc (.cells #[.int .u32 3] 65))).heap.size (((W8).alloc (.cells #[.int .u32 3] 65))) ((((W8).alloc (.cells #[.int .u32 3] 65))).alloc (.cells #[.int .u32 7] 65)) := (Below.refl _ _).alloc (Nat.le_refl _) _
  have hx7 := nlit (l := [7]) _ _ _ (heap_alloc_new (((W8).alloc (.cells #[.int .u32 3] 65))) (.cells #[.int .u32 7] 65)) rfl (by decide) (by decide) (by decide)
  obtain ⟨x7, Ex7⟩ : ∃ zq : Nat, zq = val [7] := ⟨_, rfl⟩
  rw [← Ex7] at hx7
  simp only [alloc_sz] at hx7
  have Nx7 : nl x7 = 1 := by rw [Ex7]; exact nl_lit (by decide) (by decide)
  have Vx7 : x7 = 7 := by rw [Ex7]; decide
  have Bx7 : nl x7 ≤ 1 := Nat.le_of_eq Nx7
  replace Nx7 := Lib.hid Nx7
  replace Ex7 := Lib.hid Ex7
  replace Vx7 := Lib.hid Vx7
  replace hG := hG.below hb10
  replace ha := ha.below hb10
  replace hb := hb.below hb10
  replace ho := ho.below hb10
  replace hnil := hnil.below hb10
  replace hg := hg.below hb10
  replace hu := hu.below hb10
  replace hv := hv.below hb10
  replace Ru := Ru.below hb10
  replace Rv := Rv.below hb10
  replace hh' := hh'.below hb10
  replace hp' := hp'.below hb10
  replace hq' := hq'.below hb10
  replace Rp' := Rp'.below hb10
  replace Rq' := Rq'.below hb10
  replace hqs := hqs.below hb10
  replace hx3 := hx3.below hb10
  replace HBT := Below.cons HBT hb10
  clear hb10
  go_wp2_with (fail)
  have CI := (at_len2 Nx3.out Nx7.out (inverse_c _ _ x3 _ _ x7 _ hx3 hx7 hG (by omega) (by omega) (by rw [Vx7.out]; decide) (by rw [Vx3.out, Vx7.out]; decide)))
  obtain ⟨i, Ei⟩ : ∃ z : Nat, z = inv x3 x7 := ⟨_, rfl⟩
  rw [← Ei] at CI
  replace CI := Lib.hid CI
  replace Ei := Lib.hid Ei
  refine (Calls.mono (CI.out) ?_)
  rintro e W11 ⟨Xi, ci, rfl, hi, hb11⟩
  replace hG := hG.below hb11
  replace ha := ha.below hb11
  replace hb := hb.below hb11
  replace ho := ho.below hb11
  replace hnil := hnil.below hb11
  replace hg := hg.below hb11
  replace hu := hu.below hb11
  replace hv := hv.below hb11
  replace Ru := Ru.below hb11
  replace Rv := Rv.below hb11
  replace hh' := hh'.below hb11
  replace hp' := hp'.below hb11
  replace hq' := hq'.below hb11
  replace Rp' := Rp'.below hb11
  replace Rq' := Rq'.below hb11
  replace hqs := hqs.below hb11
  replace hx3 := hx3.below hb11
  replace hx7 := hx7.below hb11
  replace HBT := Below.cons HBT hb11
  clear hb11
  clear CI
  have hb12 : Below (W11).heap.size (W11) ((W11).alloc (.cells #[.int .u32 2] 65)) := (Below.refl _ _).alloc (Nat.le_refl _) _
  have hy2 := nlit (l := [2]) _ _ _ (heap_alloc_new (W11) (.cells #[.int .u32 2] 65)) rfl (by decide) (by decide) (by decide)
  obtain ⟨y2, Ey2⟩ : ∃ zq : Nat, zq = val [2] := ⟨_, rfl⟩
  rw [← Ey2] at hy2
  have Ny2 : nl y2 = 1 := by rw [Ey2]; exact nl_lit (by decide) (by decide)
  have Vy2 : y2 = 2 := by rw [Ey2]; decide
  have By2 : nl y2 ≤ 1 := Nat.le_of_eq Ny2
  replace Ny2 := Lib.hid Ny2
  replace Ey2 := Lib.hid Ey2
  replace Vy2 := Lib.hid Vy2
  replace hG := hG.below hb12
  replace ha := ha.below hb12
  replace hb := hb.below hb12
  replace ho := ho.below hb12
  replace hnil := hnil.below hb12
  replace hg := hg.below hb12
  replace hu := hu.below hb12
  replace hv := hv.below hb12
  replace Ru := Ru.below hb12
  replace Rv := Rv.below hb12
  replace hh' := hh'.below hb12
  replace hp' := hp'.below hb12
  replace hq' := hq'.below hb12
  replace Rp' := Rp'.below hb12
  replace Rq' := Rq'.below hb12
  replace hqs := hqs.below hb12
  replace hx3 := hx3.below hb12
  replace hx7 := hx7.below hb12
  replace hi := hi.below hb12
  replace HBT := Below.cons HBT hb12
  clear hb12
  have hb13 : Below (((W11).alloc (.cells #[.int .u32 2] 65))).heap.size (((W11).alloc (.cells #[.int .u32 2] 65))) ((((W11).alloc (.cells #[.int .u32 2] 65))).alloc (.cells #[.int .u32 4] 65)) := (Below.refl _ _).alloc (Nat.le_refl _) _
  have hy4 := nlit (l := [4]) _ _ _ (heap_alloc_new (((W11).alloc (.cells #[.int .u32 2] 65))) (.cells #[.int .u32 4] 65)) rfl (by decide) (by decide) (by decide)
  obtain ⟨y4, Ey4⟩ : ∃ zq : Nat, zq = val [4] := ⟨_, rfl⟩
  rw [← Ey4] at hy4
  simp only [alloc_sz] at hy4
  have Ny4 : nl y4 = 1 := by rw [Ey4]; exact nl_lit (by decide) (by decide)
  have Vy4 : y4 = 4 := by rw [Ey4]; decide
  have By4 : nl y4 ≤ 1 := Nat.le_of_eq Ny4
  replace Ny4 := Lib.hid Ny4
  replace Ey4 := Lib.hid Ey4
  replace Vy4 := Lib.hid Vy4
  replace hG := hG.below hb13
  replace ha := ha.below hb13
  replace hb := hb.below hb13
  replace ho := ho.below hb13
  replace hnil := hnil.below hb13
  replace hg := hg.below hb13
  replace hu := hu.below hb13
  replace hv := hv.below hb13
  replace Ru := Ru.below hb13
  replace Rv := Rv.below hb13
  replace hh' := hh'.below hb13
  replace hp' := hp'.below hb13
  replace hq' := hq'.below hb13
  replace Rp' := Rp'.below hb13
  replace Rq' := Rq'.below hb13
  replace hqs := hqs.below hb13
  replace hx3 := hx3.below hb13
  replace hx7 := hx7.below hb13
  replace hi := hi.below hb13
  replace hy2 := hy2.below hb13
  replace HBT := Below.cons HBT hb13
  clear hb13
  go_wp2_with (fail)
  have CI := (at_len2 Ny2.out Ny4.out (inverseNot_c _ _ y2 _ _ y4 _ hy2 hy4 hG (by omega) (by omega) (Or.inr (by rw [Vy2.out, Vy4.out]; decide))))
  replace CI := Lib.hid CI
  refine (Calls.mono (CI.out) ?_)
  rintro e W14 ⟨rfl, hb14⟩
  replace hG := hG.below hb14
  replace ha := ha.below hb14
  replace hb := hb.below hb14
  replace ho := ho.below hb14
  replace hnil := hnil.below hb14
  replace hg := hg.below hb14
  replace hu := hu.below hb14
  replace hv := hv.below hb14
  replace Ru := Ru.below hb14
  replace Rv := Rv.below hb14
  replace hh' := hh'.below hb14
  replace hp' := hp'.below hb14
  replace hq' := hq'.below hb14
  replace Rp' := Rp'.below hb14
  replace Rq' := Rq'.below hb14
  replace hqs := hqs.below hb14
  replace hx3 := hx3.below hb14
  replace hx7 := hx7.below hb14
  replace hi := hi.below hb14
  replace hy2 := hy2.below hb14
  replace hy4 := hy4.below hb14
  replace HBT := Below.cons HBT hb14
  clear hb14
  clear CI
  go_wp2_with (fail)
  have CI := (at_len2 No.out Nnil.out (inverseNot_c _ _ o none 0 0 _ ho hnil hG (by omega) (by omega) (Or.inl rfl)))
  replace CI := Lib.hid CI
  refine (Calls.mono (CI.out) ?_)
  rintro e W15 ⟨rfl, hb15⟩
  replace hG := hG.below hb15
  replace ha := ha.below hb15
  replace hb := hb.below hb15
  replace ho := ho.below hb15
  replace hnil := hnil.below hb15
  replace hg := hg.below hb15
  replace hu := hu.below hb15
  replace hv := hv.below hb15
  replace Ru := Ru.below hb15
  replace Rv := Rv.below hb15
  replace hh' := hh'.below hb15
  replace hp' := hp'.below hb15
  replace hq' := hq'.below hb15
  replace Rp' := Rp'.below hb15
  replace Rq' := Rq'.below hb15
  replace hqs := hqs.below hb15
  replace hx3 := hx3.below hb15
  replace hx7 := hx7.below hb15
  replace hi := hi.below hb15
  replace hy2 := hy2.below hb15
  replace hy4 := hy4.below hb15
  replace HBT := Below.cons HBT hb15
  clear hb15
  clear CI
  go_wp2_with (fail)
  have CI := (at_len2 Na.out No.out (inverse_c _ _ a _ _ o _ ha ho hG (by omega) (by omega) (by rw [Vo.out]; decide) (by rw [Va.out, Vo.out]; decide)))
  obtain ⟨j, Ej⟩ : ∃ z : Nat, z = inv a o := ⟨_, rfl⟩
  rw [← Ej] at CI
  replace CI := Lib.hid CI
  replace Ej := Lib.hid Ej
  refine (Calls.mono (CI.out) ?_)
  rintro e W16 ⟨Xj, cj, rfl, hj, hb16⟩
  replace hG := hG.below hb16
  replace ha := ha.below hb16
  replace hb := hb.below hb16
  replace ho := ho.below hb16
  replace hnil := hnil.below hb16
  replace hg := hg.below hb16
  replace hu := hu.below hb16
  replace hv := hv.below hb16
  replace Ru := Ru.below hb16
  replace Rv := Rv.below hb16
  replace hh' := hh'.below hb16
  replace hp' := hp'.below hb16
  replace hq' := hq'.below hb16
  replace Rp' := Rp'.below hb16
  replace Rq' := Rq'.below hb16
  replace hqs := hqs.below hb16
  replace hx3 := hx3.below hb16
  replace hx7 := hx7.below hb16
  replace hi := hi.below hb16
  replace hy2 := hy2.below hb16
  replace hy4 := hy4.below hb16
  replace HBT := Below.cons HBT hb16
  clear hb16
  clear CI
  have hb17 : Below (W16).heap.size (W16) ((W16).alloc (.cells #[.int .u32 2] 65)) := (Below.refl _ _).alloc (Nat.le_refl _) _
  have hz2 := nlit (l := [2]) _ _ _ (heap_alloc_new (W16) (.cells #[.int .u32 2] 65)) rfl (by decide) (by decide) (by decide)
  obtain ⟨z2, Ez2⟩ : ∃ zq : Nat, zq = val [2] := ⟨_, rfl⟩
  rw [← Ez2] at hz2
  have Nz2 : nl z2 = 1 := by rw [Ez2]; exact nl_lit (by decide) (by decide)
  have Vz2 : z2 = 2 := by rw [Ez2]; decide
  have Bz2 : nl z2 ≤ 1 := Nat.le_of_eq Nz2
  replace Nz2 := Lib.hid Nz2
  replace Ez2 := Lib.hid Ez2
  replace Vz2 := Lib.hid Vz2
  replace hG := hG.below hb17
  replace ha := ha.below hb17
  replace hb := hb.below hb17
  replace ho := ho.below hb17
  replace hnil := hnil.below hb17
  replace hg := hg.below hb17
  replace hu := hu.below hb17
  replace hv := hv.below hb17
  replace Ru := Ru.below hb17
  replace Rv := Rv.below hb17
  replace hh' := hh'.below hb17
  replace hp' := hp'.below hb17
  replace hq' := hq'.below hb17
  replace Rp' := Rp'.below hb17
  replace Rq' := Rq'.below hb17
  replace hqs := hqs.below hb17
  replace hx3 := hx3.below hb17
  replace hx7 := hx7.below hb17
  replace hi := hi.below hb17
  replace hy2 := hy2.below hb17
  replace hy4 := hy4.below hb17
  replace hj := hj.below hb17
  replace HBT := Below.cons HBT hb17
  clear hb17
  have hb18 : Below (((W16).alloc (.cells #[.int .u32 2] 65))).heap.size (((W16).alloc (.cells #[.int .u32 2] 65))) ((((W16).alloc (.cells #[.int .u32 2] 65))).alloc (.cells #[.int .u32 10] 65)) := (Below.refl _ _).alloc (Nat.le_refl _) _
  have hz10 := nlit (l := [10]) _ _ _ (heap_alloc_new (((W16).alloc (.cells #[.int .u32 2] 65))) (.cells #[.int .u32 10] 65)) rfl (by decide) (by decide) (by decide)
  obtain ⟨z10, Ez10⟩ : ∃ zq : Nat, zq = val [10] := ⟨_, rfl⟩
  rw [← Ez10] at hz10
  simp only [alloc_sz] at hz10
  have Nz10 : nl z10 = 1 := by rw [Ez10]; exact nl_lit (by decide) (by decide)
  have Vz10 : z10 = 10 := by rw [Ez10]; decide
  have Bz10 : nl z10 ≤ 1 := Nat.le_of_eq Nz10
  replace Nz10 := Lib.hid Nz10
  replace Ez10 := Lib.hid Ez10
  replace Vz10 := Lib.hid Vz10
  replace hG := hG.below hb18
  replace ha := ha.below hb18
  replace hb := hb.below hb18
  replace ho := ho.below hb18
  replace hnil := hnil.below hb18
  replace hg := hg.below hb18
  replace hu := hu.below hb18
  replace hv := hv.below hb18
  replace Ru := Ru.below hb18
  replace Rv := Rv.below hb18
  replace hh' := hh'.below hb18
  replace hp' := hp'.below hb18
  replace hq' := hq'.below hb18
  replace Rp' := Rp'.below hb18
  replace Rq' := Rq'.below hb18
  replace hqs := hqs.below hb18
  replace hx3 := hx3.below hb18
  replace hx7 := hx7.below hb18
  replace hi := hi.below hb18
  replace hy2 := hy2.below hb18
  replace hy4 := hy4.below hb18
  replace hj := hj.below hb18
  replace hz2 := hz2.below hb18
  replace HBT := Below.cons HBT hb18
  clear hb18
  have hb19 : Below (((((W16).alloc (.cells #[.int .u32 2] 65))).alloc (.cells #[.int .u32 10] 65))).heap.size (((((W16).alloc (.cells #[.int .u32 2] 65))).alloc (.cells #[.int .u32 10] 65))) ((((((W16).alloc (.cells #[.int .u32 2] 65))).alloc (.cells #[.int .u32 10] 65))).alloc (.cells #[.int .u32 1000] 65)) := (Below.refl _ _).alloc (Nat.le_refl _) _
  have hz1000 := nlit (l := [1000]) _ _ _ (heap_alloc_new (((((W16).alloc (.cells #[.int .u32 2] 65))).alloc (.cells #[.int .u32 10] 65))) (.cells #[.int .u32 1000] 65)) rfl (by decide) (by decide) (by decide)
  obtain ⟨z1000, Ez1000⟩ : ∃ zq : Nat, zq = val [1000] := ⟨_, rfl⟩
  rw [← Ez1000] at hz1000
  simp only [alloc_sz] at hz1000
  have Nz1000 : nl z1000 = 1 := by rw [Ez1000]; exact nl_lit (by decide) (by decide)
  have Vz1000 : z1000 = 1000 := by rw [Ez1000]; decide
  have Bz1000 : nl z1000 ≤ 1 := Nat.le_of_eq Nz1000
  replace Nz1000 := Lib.hid Nz1000
  replace Ez1000 := Lib.hid Ez1000
  replace Vz1000 := Lib.hid Vz1000
  replace hG := hG.below hb19
  replace ha := ha.below hb19
  replace hb := hb.below hb19
  replace ho := ho.below hb19
  replace hnil := hnil.below hb19
  replace hg := hg.below hb19
  replace hu := hu.below hb19
  replace hv := hv.below hb19
  replace Ru := Ru.below hb19
  replace Rv := Rv.below hb19
  replace hh' := hh'.below hb19
  replace hp' := hp'.below hb19
  replace hq' := hq'.below hb19
  replace Rp' := Rp'.below hb19
  replace Rq' := Rq'.below hb19
  replace hqs := hqs.below hb19
  replace hx3 := hx3.below hb19
  replace hx7 := hx7.below hb19
  replace hi := hi.below hb19
  replace hy2 := hy2.below hb19
  replace hy4 := hy4.below hb19
  replace hj := hj.below hb19
  replace hz2 := hz2.below hb19
  replace hz10 := hz10.below hb19
  replace HBT := Below.cons HBT hb19
  clear hb19
  go_wp2_with (fail)
  have CP := powmod_c _ _ z2 _ _ z10 _ _ z1000 _ hz2 hz10 hz1000 hG (by omega) (by omega) (by omega) (by rw [Vz1000.out]; decide)
  rw [Nz2.out, Nz10.out, Nz1000.out] at CP
  obtain ⟨p, Ep⟩ : ∃ z : Nat, z = z2 ^ z10 % z1000 := ⟨_, rfl⟩
  rw [← Ep] at CP
  replace CP := Lib.hid CP
  replace Ep := Lib.hid Ep
  refine (Calls.mono (CP.out) ?_)
  rintro e W20 ⟨Xp, cp, rfl, hp, hb20⟩
  replace hG := hG.below hb20
  replace ha := ha.below hb20
  replace hb := hb.below hb20
  replace ho := ho.below hb20
  replace hnil := hnil.below hb20
  replace hg := hg.below hb20
  replace hu := hu.below hb20
  replace hv := hv.below hb20
  replace Ru := Ru.below hb20
  replace Rv := Rv.below hb20
  replace hh' := hh'.below hb20
  replace hp' := hp'.below hb20
  replace hq' := hq'.below hb20
  replace Rp' := Rp'.below hb20
  replace Rq' := Rq'.below hb20
  replace hqs := hqs.below hb20
  replace hx3 := hx3.below hb20
  replace hx7 := hx7.below hb20
  replace hi := hi.below hb20
  replace hy2 := hy2.below hb20
  replace hy4 := hy4.below hb20
  replace hj := hj.below hb20
  replace hz2 := hz2.below hb20
  replace hz10 := hz10.below hb20
  replace hz1000 := hz1000.below hb20
  replace HBT := Below.cons HBT hb20
  clear hb20
  clear CP
  have hb21 : Below (W20).heap.size (W20) ((W20).alloc (.cells #[.int .u32 5] 65)) := (Below.refl _ _).alloc (Nat.le_refl _) _
  have hx5 := nlit (l := [5]) _ _ _ (heap_alloc_new (W20) (.cells #[.int .u32 5] 65)) rfl (by decide) (by decide) (by decide)
  obtain ⟨x5, Ex5⟩ : ∃ zq : Nat, zq = val [5] := ⟨_, rfl⟩
  rw [← Ex5] at hx5
  have Nx5 : nl x5 = 1 := by rw [Ex5]; exact nl_lit (by decide) (by decide)
  have Vx5 : x5 = 5 := by rw [Ex5]; decide
  have Bx5 : nl x5 ≤ 1 := Nat.le_of_eq Nx5
  replace Nx5 := Lib.hid Nx5
  replace Ex5 := Lib.hid Ex5
  replace Vx5 := Lib.hid Vx5
  replace hG := hG.below hb21
  replace ha := ha.below hb21
  replace hb := hb.below hb21
  replace ho := ho.below hb21
  replace hnil := hnil.below hb21
  replace hg := hg.below hb21
  replace hu := hu.below hb21
  replace hv := hv.below hb21
  replace Ru := Ru.below hb21
  replace Rv := Rv.below hb21
  replace hh' := hh'.below hb21
  replace hp' := hp'.below hb21
  replace hq' := hq'.below hb21
  replace Rp' := Rp'.below hb21
  replace Rq' := Rq'.below hb21
  replace hqs := hqs.below hb21
  replace hx3 := hx3.below hb21
  replace hx7 := hx7.below hb21
  replace hi := hi.below hb21
  replace hy2 := hy2.below hb21
  replace hy4 := hy4.below hb21
  replace hj := hj.below hb21
  replace hz2 := hz2.below hb21
  replace hz10 := hz10.below hb21
  replace hz1000 := hz1000.below hb21
  replace hp := hp.below hb21
  replace HBT := Below.cons HBT hb21
  clear hb21
  go_wp2_with (fail)
  have CP := powmod_c none 0 0 none 0 0 _ _ x5 _ hnil hnil hx5 hG (by omega) (by omega) (by omega) (by rw [Vx5.out]; decide)
  rw [Nx5.out] at CP
  simp only [nl_zero] at CP
  obtain ⟨o1, Eo1⟩ : ∃ z : Nat, z = 0 ^ 0 % x5 := ⟨_, rfl⟩
  rw [← Eo1] at CP
  replace CP := Lib.hid CP
  replace Eo1 := Lib.hid Eo1
  refine (Calls.mono (CP.out) ?_)
  rintro e W22 ⟨Xo1, co1, rfl, ho1, hb22⟩
  replace hG := hG.below hb22
  replace ha := ha.below hb22
  replace hb := hb.below hb22
  replace ho := ho.below hb22
  replace hnil := hnil.below hb22
  replace hg := hg.below hb22
  replace hu := hu.below hb22
  replace hv := hv.below hb22
  replace Ru := Ru.below hb22
  replace Rv := Rv.below hb22
  replace hh' := hh'.below hb22
  replace hp' := hp'.below hb22
  replace hq' := hq'.below hb22
  replace Rp' := Rp'.below hb22
  replace Rq' := Rq'.below hb22
  replace hqs := hqs.below hb22
  replace hx3 := hx3.below hb22
  replace hx7 := hx7.below hb22
  replace hi := hi.below hb22
  replace hy2 := hy2.below hb22
  replace hy4 := hy4.below hb22
  replace hj := hj.below hb22
  replace hz2 := hz2.below hb22
  replace hz10 := hz10.below hb22
  replace hz1000 := hz1000.below hb22
  replace hp := hp.below hb22
  replace hx5 := hx5.below hb22
  replace HBT := Below.cons HBT hb22
  clear hb22
  clear CP
  go_wp2_with (fail)
  refine (Calls.mono (powmodZ_c _ 1 _ _ 1 _ none 0 _) ?_)
  rintro e W23 ⟨rfl, hb23⟩
  replace hG := hG.below hb23
  replace ha := ha.below hb23
  replace hb := hb.below hb23
  replace ho := ho.below hb23
  replace hnil := hnil.below hb23
  replace hg := hg.below hb23
  replace hu := hu.below hb23
  replace hv := hv.below hb23
  replace Ru := Ru.below hb23
  replace Rv := Rv.below hb23
  replace hh' := hh'.below hb23
  replace hp' := hp'.below hb23
  replace hq' := hq'.below hb23
  replace Rp' := Rp'.below hb23
  replace Rq' := Rq'.below hb23
  replace hqs := hqs.below hb23
  replace hx3 := hx3.below hb23
  replace hx7 := hx7.below hb23
  replace hi := hi.below hb23
  replace hy2 := hy2.below hb23
  replace hy4 := hy4.below hb23
  replace hj := hj.below hb23
  replace hz2 := hz2.below hb23
  replace hz10 := hz10.below hb23
  replace hz1000 := hz1000.below hb23
  replace hp := hp.below hb23
  replace hx5 := hx5.below hb23
  replace ho1 := ho1.below hb23
  replace HBT := Below.cons HBT hb23
  clear hb23
  go_wp2_with (fail)
  obtain ⟨qd, Y0, d0, eq0, qc0, qn0⟩ := hqs 0 (by decide)
  subst eq0
  obtain ⟨qd1, Y1, d1, eq1, qc1, qn1⟩ := hqs 1 (by decide)
  cases eq1
  obtain ⟨qd2, Y2, d2, eq2, qc2, qn2⟩ := hqs 2 (by decide)
  cases eq2
  obtain ⟨k0, Ek0⟩ : ∃ z : Nat, z = quo a b 0 := ⟨_, rfl⟩
  rw [← Ek0] at qc0 qn0
  have Vk0 : k0 = 0 := by rw [Ek0, Va.out, Vb.out]; decide
  obtain ⟨k1, Ek1⟩ : ∃ z : Nat, z = quo a b 1 := ⟨_, rfl⟩
  rw [← Ek1] at qc1 qn1
  have Vk1 : k1 = 1 := by rw [Ek1, Va.out, Vb.out]; decide
  obtain ⟨k2, Ek2⟩ : ∃ z : Nat, z = quo a b 2 := ⟨_, rfl⟩
  rw [← Ek2] at qc2 qn2
  have Vk2 : k2 = 2 := by rw [Ek2, Va.out, Vb.out]; decide
  have qc0' : (W23).cell? qd = some (.slice Y0 (nl k0) d0) := by have h := qc0; unfold Addr.add at h; rw [if_pos rfl] at h; exact h
  have qc1' : (W23).cell? ⟨qd.block, qd.off + 1, none⟩ = some (.slice Y1 (nl k1) d1) := by have h := qc1; unfold Addr.add at h; rw [if_neg (by decide)] at h; exact h
  have qc2' : (W23).cell? ⟨qd.block, qd.off + 2, none⟩ = some (.slice Y2 (nl k2) d2) := by have h := qc2; unfold Addr.add at h; rw [if_neg (by decide)] at h; exact h
  have Xg6 : g = 6 := by rw [Eg.out, Va.out, Vb.out]; decide
  have Xu1 : u = -1 := by rw [Eu.out, Va.out, Vb.out]; exact ex1.1
  have Xv1 : v = 1 := by rw [Ev.out, Va.out, Vb.out]; exact ex1.2
  have Xh12 : h' = a := by rw [Eh'.out, Nat.gcd_zero_right]
  have Xp1 : p' = 1 := by rw [Ep'.out, Va.out]; exact ex2.1
  have Xq0 : q' = 0 := by rw [Eq'.out, Va.out]; exact ex2.2
  have Xi5 : i = 5 := by rw [Ei.out, Vx3.out, Vx7.out]; exact iv1
  have Xj0 : nl j = 0 := by rw [Ej.out, Va.out, Vo.out, iv2, nl_zero]
  have Xp24 : p = 24 := by rw [Ep.out, Vz2.out, Vz10.out, Vz1000.out]
  have Xo11 : o1 = o := by rw [Eo1.out, Vx5.out, Vo.out]
  have K00 : nl k0 = 0 := by rw [Vk0, nl_zero]
  replace Ek0 := Lib.hid Ek0
  replace Ek1 := Lib.hid Ek1
  replace Ek2 := Lib.hid Ek2
  replace Vk0 := Lib.hid Vk0
  replace Vk1 := Lib.hid Vk1
  replace Vk2 := Lib.hid Vk2
  replace Xg6 := Lib.hid Xg6
  replace Xu1 := Lib.hid Xu1
  replace Xv1 := Lib.hid Xv1
  replace Xh12 := Lib.hid Xh12
  replace Xp1 := Lib.hid Xp1
  replace Xq0 := Lib.hid Xq0
  replace Xi5 := Lib.hid Xi5
  replace Xj0 := Lib.hid Xj0
  replace Xp24 := Lib.hid Xp24
  replace Xo11 := Lib.hid Xo11
  replace K00 := Lib.hid K00
  obtain ⟨n6, Vn6⟩ : ∃ z : Nat, z = 6 := ⟨_, rfl⟩
  have Bn6 : nl n6 ≤ 1 := by rw [Vn6]; exact nl_limb (by decide)
  replace Vn6 := Lib.hid Vn6
  obtain ⟨n18, Vn18⟩ : ∃ z : Nat, z = 18 := ⟨_, rfl⟩
  have Bn18 : nl n18 ≤ 1 := by rw [Vn18]; exact nl_limb (by decide)
  replace Vn18 := Lib.hid Vn18
  obtain ⟨n2, Vn2⟩ : ∃ z : Nat, z = 2 := ⟨_, rfl⟩
  have Bn2 : nl n2 ≤ 1 := by rw [Vn2]; exact nl_limb (by decide)
  replace Vn2 := Lib.hid Vn2
  obtain ⟨n5, Vn5⟩ : ∃ z : Nat, z = 5 := ⟨_, rfl⟩
  have Bn5 : nl n5 ≤ 1 := by rw [Vn5]; exact nl_limb (by decide)
  replace Vn5 := Lib.hid Vn5
  obtain ⟨n24, Vn24⟩ : ∃ z : Nat, z = 24 := ⟨_, rfl⟩
  have Bn24 : nl n24 ≤ 1 := by rw [Vn24]; exact nl_limb (by decide)
  replace Vn24 := Lib.hid Vn24
  obtain ⟨n0, Vn0⟩ : ∃ z : Nat, z = 0 := ⟨_, rfl⟩
  have Bn0 : nl n0 ≤ 1 := by rw [Vn0]; exact nl_limb (by decide)
  replace Vn0 := Lib.hid Vn0
  obtain ⟨zm, Vzm⟩ : ∃ z : Int, z = -1 := ⟨_, rfl⟩
  have Bzm : nl (mg zm) ≤ 1 := by rw [Vzm]; exact nl_limb (by decide)
  have CZzm : ∀ W : World, Calls Tryz.prog 51 #[.int .i64 (-1)] W (RetI W zm) := fun W => by rw [Vzm]; exact zof_c (-1) W (by decide) (by decide)
  replace Vzm := Lib.hid Vzm
  replace CZzm := Lib.hid CZzm
  obtain ⟨z1, Vz1⟩ : ∃ z : Int, z = 1 := ⟨_, rfl⟩
  have Bz1 : nl (mg z1) ≤ 1 := by rw [Vz1]; exact nl_limb (by decide)
  have CZz1 : ∀ W : World, Calls Tryz.prog 51 #[.int .i64 (1)] W (RetI W z1) := fun W => by rw [Vz1]; exact zof_c (1) W (by decide) (by decide)
  replace Vz1 := Lib.hid Vz1
  replace CZz1 := Lib.hid CZz1
  obtain ⟨z0, Vz0⟩ : ∃ z : Int, z = 0 := ⟨_, rfl⟩
  have Bz0 : nl (mg z0) ≤ 1 := by rw [Vz0]; exact nl_limb (by decide)
  have CZz0 : ∀ W : World, Calls Tryz.prog 51 #[.int .i64 (0)] W (RetI W z0) := fun W => by rw [Vz0]; exact zof_c (0) W (by decide) (by decide)
  replace Vz0 := Lib.hid Vz0
  replace CZz0 := Lib.hid CZz0
  clear qc0 qc1 qc2 nq mqs
  simp only [List.append]
  refine wp_region_mono (headK (.slice (some ⟨w.heap.size, 0, none⟩) 1 1) (.slice (some ⟨w.heap.size + 1, 0, none⟩) 1 1) (.slice Xg (nl g) cg) (.agg #[.bool (sg u), .slice Xu (nl (mg u)) cu]) (.agg #[.bool (sg v), .slice Xv (nl (mg v)) cv]) (.slice Xh' (nl h') ch') (.agg #[.bool (sg p'), .slice Xp' (nl (mg p')) cp']) (.agg #[.bool (sg q'), .slice Xq' (nl (mg q')) cq']) (.slice (some qd) 3 cqs) (.pointer (some qd)) (.slice Y0 (nl k0) d0) (.pointer (some ⟨qd.block, qd.off + 1, none⟩)) (.slice Y1 (nl k1) d1) (.slice (some ⟨w.heap.size + 1 + 1, 0, none⟩) 1 1) (.pointer (some ⟨qd.block, qd.off + 2, none⟩)) (.slice Y2 (nl k2) d2) (.slice Xi (nl i) ci) (.slice Xj (nl j) cj) (.slice Xp (nl p) cp) (.slice Xo1 (nl o1) co1) a n6 n18 n2 n5 n24 n0 zm z1 z0) (by kernel_rfl) (by kernel_rfl) (by kernel_rfl) ?_ ?_
  · skip
    refine ⟨?_, ?_⟩
    · intro E ac wc st hdep
      have t1 : ac.tmps[1]? = some (.slice (some ⟨w.heap.size, 0, none⟩) 1 1) := (st.old 1 (by kernel_rfl)).trans (by rfl)
      have e1 : ac.tmps.getD 1 undef = _ := getD_of t1
      refine wpOp_want rfl (by rfl) (fun K' hK' => ?_)
      go_simp
      exact hK'.out _ _ ⟨_, rfl, rfl, Below.refl _ _⟩
    refine ⟨?_, ?_⟩
    · intro E ac wc st hdep
      have t2 : ac.tmps[2]? = some (.slice (some ⟨w.heap.size + 1, 0, none⟩) 1 1) := (st.old 2 (by kernel_rfl)).trans (by rfl)
      have e2 : ac.tmps.getD 2 undef = _ := getD_of t2
      refine wpOp_want rfl (by rfl) (fun K' hK' => ?_)
      go_simp
      exact hK'.out _ _ ⟨_, rfl, rfl, Below.refl _ _⟩
    refine ⟨?_, ?_⟩
    · intro E ac wc st hdep
      obtain ⟨v88, t88, r88⟩ := st.new 0 88 (by rfl) (dep_of hdep 0 (by rfl))
      have r88' : v88 = .slice (some ⟨w.heap.size, 0, none⟩) 1 1 := r88
      clear r88
      subst r88'
      obtain ⟨v89, t89, r89⟩ := st.new 1 89 (by rfl) (dep_of hdep 1 (by rfl))
      have r89' : v89 = .slice (some ⟨w.heap.size + 1, 0, none⟩) 1 1 := r89
      clear r89
      subst r89'
      have e88 : ac.tmps.getD 88 undef = _ := getD_of t88
      have e89 : ac.tmps.getD 89 undef = _ := getD_of t89
      refine wpOp_want rfl (by rfl) (fun K' hK' => ?_)
      go_simp
      refine (Calls.mono (R := RetN wc (n6)) (eqN (by rw [Vn6.out]; first | (rw [Va.out, Vb.out]; done) | (rw [Va.out, Vb.out]; decide)) (at_len2 Na.out Nb.out (gcd_c _ _ a _ _ b wc (ha.below st.b) (hb.below st.b) (by have := Ba; omega) (by have := Bb; omega)))) ?_)
      rintro e W ⟨X, c, rfl, hX, kb⟩
      exact hK'.out _ _ ⟨_, rfl, ⟨X, c, rfl, hX⟩, kb⟩
    refine ⟨?_, ?_⟩
    · intro E ac wc st hdep
      refine wpOp_want rfl (by rfl) (fun K' hK' => ?_)
      go_simp
      exact hK'.out _ _ ⟨_, rfl, ⟨_, _, rfl, by rw [Vn6.out]; exact nlit (l := [6]) _ _ _ (heap_alloc_new wc _) rfl (by decide) (by decide) (by decide), by rw [Vn6.out]; exact nl_lit (l := [6]) (by decide) (by decide)⟩, (Below.refl _ _).alloc (Nat.le_refl _) _⟩
    refine ⟨?_, ?_⟩
    · intro E ac wc st hdep
      obtain ⟨v90, t90, r90⟩ := st.new 2 90 (by rfl) (dep_of hdep 2 (by rfl))
      obtain ⟨X90, c90, rfl, h90⟩ := r90
      obtain ⟨v91, t91, r91⟩ := st.new 3 91 (by rfl) (dep_of hdep 3 (by rfl))
      obtain ⟨X91, c91, rfl, h91, n91⟩ := r91
      replace n91 := Lib.hid n91
      have e90 : ac.tmps.getD 90 undef = _ := getD_of t90
      have e91 : ac.tmps.getD 91 undef = _ := getD_of t91
      refine wpOp_want rfl (by rfl) (fun K' hK' => ?_)
      go_simp
      refine (Calls.mono (at_lenR n91.out (same1_t X90 c90 n6 X91 c91 n6 wc h90 h91 (by have := Bn6; omega) (by have := Bn6; omega) (by rfl))) ?_)
      rintro e W ⟨rfl, kb⟩
      exact hK'.out _ _ ⟨_, rfl, rfl, kb⟩
    refine ⟨?_, ?_⟩
    · intro E ac wc st hdep
      obtain ⟨v92, t92, r92⟩ := st.new 4 92 (by rfl) (dep_of hdep 4 (by rfl))
      have r92' : v92 = .bool true := r92
      clear r92
      subst r92'
      have e92 : ac.tmps.getD 92 undef = _ := getD_of t92
      refine wpOp_want rfl (by rfl) (fun K' hK' => ?_)
      go_simp
      exact hK'.out _ _ ⟨_, rfl, rfl, Below.refl _ _⟩
    refine ⟨?_, ?_⟩
    · intro E ac wc st hdep
      have t2 : ac.tmps[2]? = some (.slice (some ⟨w.heap.size + 1, 0, none⟩) 1 1) := (st.old 2 (by kernel_rfl)).trans (by rfl)
      obtain ⟨v93, t93, r93⟩ := st.new 5 93 (by rfl) (dep_of hdep 5 (by rfl))
      have r93' : v93 = .bool true := r93
      clear r93
      subst r93'
      have e2 : ac.tmps.getD 2 undef = _ := getD_of t2
      have e93 : ac.tmps.getD 93 undef = _ := getD_of t93
      refine wpOp_want rfl (wanted_of (by rfl) (by rfl) t93) (fun K' hK' => ?_)
      go_simp
      exact hK'.out _ _ ⟨_, rfl, rfl, Below.refl _ _⟩
    refine ⟨?_, ?_⟩
    · intro E ac wc st hdep
      have t1 : ac.tmps[1]? = some (.slice (some ⟨w.heap.size, 0, none⟩) 1 1) := (st.old 1 (by kernel_rfl)).trans (by rfl)
      obtain ⟨v93, t93, r93⟩ := st.new 5 93 (by rfl) (dep_of hdep 5 (by rfl))
      have r93' : v93 = .bool true := r93
      clear r93
      subst r93'
      have e1 : ac.tmps.getD 1 undef = _ := getD_of t1
      have e93 : ac.tmps.getD 93 undef = _ := getD_of t93
      refine wpOp_want rfl (wanted_of (by rfl) (by rfl) t93) (fun K' hK' => ?_)
      go_simp
      exact hK'.out _ _ ⟨_, rfl, rfl, Below.refl _ _⟩
    refine ⟨?_, ?_⟩
    · intro E ac wc st hdep
      obtain ⟨v94, t94, r94⟩ := st.new 6 94 (by rfl) (dep_of hdep 6 (by rfl))
      have r94' : v94 = .slice (some ⟨w.heap.size + 1, 0, none⟩) 1 1 := r94
      clear r94
      subst r94'
      obtain ⟨v95, t95, r95⟩ := st.new 7 95 (by rfl) (dep_of hdep 7 (by rfl))
      have r95' : v95 = .slice (some ⟨w.heap.size, 0, none⟩) 1 1 := r95
      clear r95
      subst r95'
      obtain ⟨v93, t93, r93⟩ := st.new 5 93 (by rfl) (dep_of hdep 5 (by rfl))
      have r93' : v93 = .bool true := r93
      clear r93
      subst r93'
      have e94 : ac.tmps.getD 94 undef = _ := getD_of t94
      have e95 : ac.tmps.getD 95 undef = _ := getD_of t95
      have e93 : ac.tmps.getD 93 undef = _ := getD_of t93
      refine wpOp_want rfl (wanted_of (by rfl) (by rfl) t93) (fun K' hK' => ?_)
      go_simp
      refine (Calls.mono (R := RetN wc (n6)) (eqN (by rw [Vn6.out]; first | (rw [Va.out, Vb.out]; done) | (rw [Va.out, Vb.out]; decide)) (at_len2 Nb.out Na.out (lehmer_c _ _ b _ _ a wc (hb.below st.b) (ha.below st.b) (hG.below st.b) (by have := Bb; omega) (by have := Ba; omega)))) ?_)
      rintro e W ⟨X, c, rfl, hX, kb⟩
      exact hK'.out _ _ ⟨_, rfl, ⟨X, c, rfl, hX⟩, kb⟩
    refine ⟨?_, ?_⟩
    · intro E ac wc st hdep
      obtain ⟨v93, t93, r93⟩ := st.new 5 93 (by rfl) (dep_of hdep 5 (by rfl))
      have r93' : v93 = .bool true := r93
      clear r93
      subst r93'
      have e93 : ac.tmps.getD 93 undef = _ := getD_of t93
      refine wpOp_want rfl (wanted_of (by rfl) (by rfl) t93) (fun K' hK' => ?_)
      go_simp
      exact hK'.out _ _ ⟨_, rfl, ⟨_, _, rfl, by rw [Vn6.out]; exact nlit (l := [6]) _ _ _ (heap_alloc_new wc _) rfl (by decide) (by decide) (by decide), by rw [Vn6.out]; exact nl_lit (l := [6]) (by decide) (by decide)⟩, (Below.refl _ _).alloc (Nat.le_refl _) _⟩
    refine ⟨?_, ?_⟩
    · intro E ac wc st hdep
      obtain ⟨v96, t96, r96⟩ := st.new 8 96 (by rfl) (dep_of hdep 8 (by rfl))
      obtain ⟨X96, c96, rfl, h96⟩ := r96
      obtain ⟨v97, t97, r97⟩ := st.new 9 97 (by rfl) (dep_of hdep 9 (by rfl))
      obtain ⟨X97, c97, rfl, h97, n97⟩ := r97
      replace n97 := Lib.hid n97
      obtain ⟨v93, t93, r93⟩ := st.new 5 93 (by rfl) (dep_of hdep 5 (by rfl))
      have r93' : v93 = .bool true := r93
      clear r93
      subst r93'
      have e96 : ac.tmps.getD 96 undef = _ := getD_of t96
      have e97 : ac.tmps.getD 97 undef = _ := getD_of t97
      have e93 : ac.tmps.getD 93 undef = _ := getD_of t93
      refine wpOp_want rfl (wanted_of (by rfl) (by rfl) t93) (fun K' hK' => ?_)
      go_simp
      refine (Calls.mono (at_lenR n97.out (same1_t X96 c96 n6 X97 c97 n6 wc h96 h97 (by have := Bn6; omega) (by have := Bn6; omega) (by rfl))) ?_)
      rintro e W ⟨rfl, kb⟩
      exact hK'.out _ _ ⟨_, rfl, rfl, kb⟩
    refine ⟨?_, ?_⟩
    · intro E ac wc st hdep
      obtain ⟨v93, t93, r93⟩ := st.new 5 93 (by rfl) (dep_of hdep 5 (by rfl))
      have r93' : v93 = .bool true := r93
      clear r93
      subst r93'
      obtain ⟨v98, t98, r98⟩ := st.new 10 98 (by rfl) (dep_of hdep 10 (by rfl))
      have r98' : v98 = .bool true := r98
      clear r98
      subst r98'
      have e93 : ac.tmps.getD 93 undef = _ := getD_of t93
      have e98 : ac.tmps.getD 98 undef = _ := getD_of t98
      refine wpOp_want rfl (by rfl) (fun K' hK' => ?_)
      go_simp
      exact hK'.out _ _ ⟨_, rfl, rfl, Below.refl _ _⟩
    refine ⟨?_, ?_⟩
    · intro E ac wc st hdep
      obtain ⟨v99, t99, r99⟩ := st.new 11 99 (by rfl) (dep_of hdep 11 (by rfl))
      have r99' : v99 = .bool true := r99
      clear r99
      subst r99'
      have e99 : ac.tmps.getD 99 undef = _ := getD_of t99
      refine wpOp_want rfl (by rfl) (fun K' hK' => ?_)
      go_simp
      exact hK'.out _ _ ⟨_, rfl, rfl, Below.refl _ _⟩
    refine ⟨?_, ?_⟩
    · intro E ac wc st hdep
      have t1 : ac.tmps[1]? = some (.slice (some ⟨w.heap.size, 0, none⟩) 1 1) := (st.old 1 (by kernel_rfl)).trans (by rfl)
      obtain ⟨v100, t100, r100⟩ := st.new 12 100 (by rfl) (dep_of hdep 12 (by rfl))
      have r100' : v100 = .bool true := r100
      clear r100
      subst r100'
      have e1 : ac.tmps.getD 1 undef = _ := getD_of t1
      have e100 : ac.tmps.getD 100 undef = _ := getD_of t100
      refine wpOp_want rfl (wanted_of (by rfl) (by rfl) t100) (fun K' hK' => ?_)
      go_simp
      exact hK'.out _ _ ⟨_, rfl, rfl, Below.refl _ _⟩
    refine ⟨?_, ?_⟩
    · intro E ac wc st hdep
      have t2 : ac.tmps[2]? = some (.slice (some ⟨w.heap.size + 1, 0, none⟩) 1 1) := (st.old 2 (by kernel_rfl)).trans (by rfl)
      obtain ⟨v100, t100, r100⟩ := st.new 12 100 (by rfl) (dep_of hdep 12 (by rfl))
      have r100' : v100 = .bool true := r100
      clear r100
      subst r100'
      have e2 : ac.tmps.getD 2 undef = _ := getD_of t2
      have e100 : ac.tmps.getD 100 undef = _ := getD_of t100
      refine wpOp_want rfl (wanted_of (by rfl) (by rfl) t100) (fun K' hK' => ?_)
      go_simp
      exact hK'.out _ _ ⟨_, rfl, rfl, Below.refl _ _⟩
    refine ⟨?_, ?_⟩
    · intro E ac wc st hdep
      obtain ⟨v101, t101, r101⟩ := st.new 13 101 (by rfl) (dep_of hdep 13 (by rfl))
      have r101' : v101 = .slice (some ⟨w.heap.size, 0, none⟩) 1 1 := r101
      clear r101
      subst r101'
      obtain ⟨v102, t102, r102⟩ := st.new 14 102 (by rfl) (dep_of hdep 14 (by rfl))
      have r102' : v102 = .slice (some ⟨w.heap.size + 1, 0, none⟩) 1 1 := r102
      clear r102
      subst r102'
      obtain ⟨v100, t100, r100⟩ := st.new 12 100 (by rfl) (dep_of hdep 12 (by rfl))
      have r100' : v100 = .bool true := r100
      clear r100
      subst r100'
      have e101 : ac.tmps.getD 101 undef = _ := getD_of t101
      have e102 : ac.tmps.getD 102 undef = _ := getD_of t102
      have e100 : ac.tmps.getD 100 undef = _ := getD_of t100
      refine wpOp_want rfl (wanted_of (by rfl) (by rfl) t100) (fun K' hK' => ?_)
      go_simp
      refine (Calls.mono (R := RetN wc (n6)) (eqN (by rw [Vn6.out]; first | (rw [Va.out, Vb.out]; done) | (rw [Va.out, Vb.out]; decide)) (at_len2 Na.out Nb.out (half_c _ _ a _ _ b wc (ha.below st.b) (hb.below st.b) (hG.below st.b) (by have := Ba; omega) (by have := Bb; omega)))) ?_)
      rintro e W ⟨X, c, rfl, hX, kb⟩
      exact hK'.out _ _ ⟨_, rfl, ⟨X, c, rfl, hX⟩, kb⟩
    refine ⟨?_, ?_⟩
    · intro E ac wc st hdep
      obtain ⟨v100, t100, r100⟩ := st.new 12 100 (by rfl) (dep_of hdep 12 (by rfl))
      have r100' : v100 = .bool true := r100
      clear r100
      subst r100'
      have e100 : ac.tmps.getD 100 undef = _ := getD_of t100
      refine wpOp_want rfl (wanted_of (by rfl) (by rfl) t100) (fun K' hK' => ?_)
      go_simp
      exact hK'.out _ _ ⟨_, rfl, ⟨_, _, rfl, by rw [Vn6.out]; exact nlit (l := [6]) _ _ _ (heap_alloc_new wc _) rfl (by decide) (by decide) (by decide), by rw [Vn6.out]; exact nl_lit (l := [6]) (by decide) (by decide)⟩, (Below.refl _ _).alloc (Nat.le_refl _) _⟩
    refine ⟨?_, ?_⟩
    · intro E ac wc st hdep
      obtain ⟨v103, t103, r103⟩ := st.new 15 103 (by rfl) (dep_of hdep 15 (by rfl))
      obtain ⟨X103, c103, rfl, h103⟩ := r103
      obtain ⟨v104, t104, r104⟩ := st.new 16 104 (by rfl) (dep_of hdep 16 (by rfl))
      obtain ⟨X104, c104, rfl, h104, n104⟩ := r104
      replace n104 := Lib.hid n104
      obtain ⟨v100, t100, r100⟩ := st.new 12 100 (by rfl) (dep_of hdep 12 (by rfl))
      have r100' : v100 = .bool true := r100
      clear r100
      subst r100'
      have e103 : ac.tmps.getD 103 undef = _ := getD_of t103
      have e104 : ac.tmps.getD 104 undef = _ := getD_of t104
      have e100 : ac.tmps.getD 100 undef = _ := getD_of t100
      refine wpOp_want rfl (wanted_of (by rfl) (by rfl) t100) (fun K' hK' => ?_)
      go_simp
      refine (Calls.mono (at_lenR n104.out (same1_t X103 c103 n6 X104 c104 n6 wc h103 h104 (by have := Bn6; omega) (by have := Bn6; omega) (by rfl))) ?_)
      rintro e W ⟨rfl, kb⟩
      exact hK'.out _ _ ⟨_, rfl, rfl, kb⟩
    refine ⟨?_, ?_⟩
    · intro E ac wc st hdep
      obtain ⟨v100, t100, r100⟩ := st.new 12 100 (by rfl) (dep_of hdep 12 (by rfl))
      have r100' : v100 = .bool true := r100
      clear r100
      subst r100'
      obtain ⟨v105, t105, r105⟩ := st.new 17 105 (by rfl) (dep_of hdep 17 (by rfl))
      have r105' : v105 = .bool true := r105
      clear r105
      subst r105'
      have e100 : ac.tmps.getD 100 undef = _ := getD_of t100
      have e105 : ac.tmps.getD 105 undef = _ := getD_of t105
      refine wpOp_want rfl (by rfl) (fun K' hK' => ?_)
      go_simp
      exact hK'.out _ _ ⟨_, rfl, rfl, Below.refl _ _⟩
    refine ⟨?_, ?_⟩
    · intro E ac wc st hdep
      obtain ⟨v106, t106, r106⟩ := st.new 18 106 (by rfl) (dep_of hdep 18 (by rfl))
      have r106' : v106 = .bool true := r106
      clear r106
      subst r106'
      have e106 : ac.tmps.getD 106 undef = _ := getD_of t106
      refine wpOp_want rfl (by rfl) (fun K' hK' => ?_)
      go_simp
      exact hK'.out _ _ ⟨_, rfl, rfl, Below.refl _ _⟩
    refine ⟨?_, ?_⟩
    · intro E ac wc st hdep
      obtain ⟨v107, t107, r107⟩ := st.new 19 107 (by rfl) (dep_of hdep 19 (by rfl))
      have r107' : v107 = .bool true := r107
      clear r107
      subst r107'
      have e107 : ac.tmps.getD 107 undef = _ := getD_of t107
      refine wpOp_want rfl (wanted_of (by rfl) (by rfl) t107) (fun K' hK' => ?_)
      go_simp
      refine (Calls.mono (R := RetN wc (n0)) (eqN (by rw [Vn0.out]; first | (rfl; done) | (decide)) (at_len2 Nnil.out Nnil.out (gcd_c _ _ 0 _ _ 0 wc (hnil.below st.b) (hnil.below st.b) (by have := Bnil; omega) (by have := Bnil; omega)))) ?_)
      rintro e W ⟨X, c, rfl, hX, kb⟩
      exact hK'.out _ _ ⟨_, rfl, ⟨X, c, rfl, hX⟩, kb⟩
    refine ⟨?_, ?_⟩
    · intro E ac wc st hdep
      obtain ⟨v108, t108, r108⟩ := st.new 20 108 (by rfl) (dep_of hdep 20 (by rfl))
      obtain ⟨X108, c108, rfl, h108⟩ := r108
      obtain ⟨v107, t107, r107⟩ := st.new 19 107 (by rfl) (dep_of hdep 19 (by rfl))
      have r107' : v107 = .bool true := r107
      clear r107
      subst r107'
      have zz : nl n0 = 0 := by rw [Vn0.out, nl_zero]
      have e108 : ac.tmps.getD 108 undef = _ := getD_of t108
      have e107 : ac.tmps.getD 107 undef = _ := getD_of t107
      refine wpOp_want rfl (wanted_of (by rfl) (by rfl) t107) (fun K' hK' => ?_)
      go_simp
      exact hK'.out _ _ ⟨_, rfl, rfl, Below.refl _ _⟩
    refine ⟨?_, ?_⟩
    · intro E ac wc st hdep
      obtain ⟨v109, t109, r109⟩ := st.new 21 109 (by rfl) (dep_of hdep 21 (by rfl))
      have r109' : v109 = .int .i64 0 := r109
      clear r109
      subst r109'
      obtain ⟨v107, t107, r107⟩ := st.new 19 107 (by rfl) (dep_of hdep 19 (by rfl))
      have r107' : v107 = .bool true := r107
      clear r107
      subst r107'
      have e109 : ac.tmps.getD 109 undef = _ := getD_of t109
      have e107 : ac.tmps.getD 107 undef = _ := getD_of t107
      refine wpOp_want rfl (wanted_of (by rfl) (by rfl) t107) (fun K' hK' => ?_)
      go_simp
      exact hK'.out _ _ ⟨_, rfl, rfl, Below.refl _ _⟩
    refine ⟨?_, ?_⟩
    · intro E ac wc st hdep
      obtain ⟨v107, t107, r107⟩ := st.new 19 107 (by rfl) (dep_of hdep 19 (by rfl))
      have r107' : v107 = .bool true := r107
      clear r107
      subst r107'
      obtain ⟨v110, t110, r110⟩ := st.new 22 110 (by rfl) (dep_of hdep 22 (by rfl))
      have r110' : v110 = .bool true := r110
      clear r110
      subst r110'
      have e107 : ac.tmps.getD 107 undef = _ := getD_of t107
      have e110 : ac.tmps.getD 110 undef = _ := getD_of t110
      refine wpOp_want rfl (by rfl) (fun K' hK' => ?_)
      go_simp
      exact hK'.out _ _ ⟨_, rfl, rfl, Below.refl _ _⟩
    refine ⟨?_, ?_⟩
    · intro E ac wc st hdep
      obtain ⟨v111, t111, r111⟩ := st.new 23 111 (by rfl) (dep_of hdep 23 (by rfl))
      have r111' : v111 = .bool true := r111
      clear r111
      subst r111'
      have e111 : ac.tmps.getD 111 undef = _ := getD_of t111
      refine wpOp_want rfl (by rfl) (fun K' hK' => ?_)
      go_simp
      exact hK'.out _ _ ⟨_, rfl, rfl, Below.refl _ _⟩
    refine ⟨?_, ?_⟩
    · intro E ac wc st hdep
      have t2 : ac.tmps[2]? = some (.slice (some ⟨w.heap.size + 1, 0, none⟩) 1 1) := (st.old 2 (by kernel_rfl)).trans (by rfl)
      obtain ⟨v112, t112, r112⟩ := st.new 24 112 (by rfl) (dep_of hdep 24 (by rfl))
      have r112' : v112 = .bool true := r112
      clear r112
      subst r112'
      have e2 : ac.tmps.getD 2 undef = _ := getD_of t2
      have e112 : ac.tmps.getD 112 undef = _ := getD_of t112
      refine wpOp_want rfl (wanted_of (by rfl) (by rfl) t112) (fun K' hK' => ?_)
      go_simp
      exact hK'.out _ _ ⟨_, rfl, rfl, Below.refl _ _⟩
    refine ⟨?_, ?_⟩
    · intro E ac wc st hdep
      obtain ⟨v113, t113, r113⟩ := st.new 25 113 (by rfl) (dep_of hdep 25 (by rfl))
      have r113' : v113 = .slice (some ⟨w.heap.size + 1, 0, none⟩) 1 1 := r113
      clear r113
      subst r113'
      obtain ⟨v112, t112, r112⟩ := st.new 24 112 (by rfl) (dep_of hdep 24 (by rfl))
      have r112' : v112 = .bool true := r112
      clear r112
      subst r112'
      have e113 : ac.tmps.getD 113 undef = _ := getD_of t113
      have e112 : ac.tmps.getD 112 undef = _ := getD_of t112
      refine wpOp_want rfl (wanted_of (by rfl) (by rfl) t112) (fun K' hK' => ?_)
      go_simp
      refine (Calls.mono (R := RetN wc (n18)) (eqN (by rw [Vn18.out]; first | (rw [Vb.out]; done) | (rw [Vb.out]; decide)) (at_len2 Nnil.out Nb.out (half_c _ _ 0 _ _ b wc (hnil.below st.b) (hb.below st.b) (hG.below st.b) (by have := Bnil; omega) (by have := Bb; omega)))) ?_)
      rintro e W ⟨X, c, rfl, hX, kb⟩
      exact hK'.out _ _ ⟨_, rfl, ⟨X, c, rfl, hX⟩, kb⟩
    refine ⟨?_, ?_⟩
    · intro E ac wc st hdep
      have t2 : ac.tmps[2]? = some (.slice (some ⟨w.heap.size + 1, 0, none⟩) 1 1) := (st.old 2 (by kernel_rfl)).trans (by rfl)
      obtain ⟨v112, t112, r112⟩ := st.new 24 112 (by rfl) (dep_of hdep 24 (by rfl))
      have r112' : v112 = .bool true := r112
      clear r112
      subst r112'
      have e2 : ac.tmps.getD 2 undef = _ := getD_of t2
      have e112 : ac.tmps.getD 112 undef = _ := getD_of t112
      refine wpOp_want rfl (wanted_of (by rfl) (by rfl) t112) (fun K' hK' => ?_)
      go_simp
      exact hK'.out _ _ ⟨_, rfl, rfl, Below.refl _ _⟩
    refine ⟨?_, ?_⟩
    · intro E ac wc st hdep
      obtain ⟨v114, t114, r114⟩ := st.new 26 114 (by rfl) (dep_of hdep 26 (by rfl))
      obtain ⟨X114, c114, rfl, h114⟩ := r114
      obtain ⟨v115, t115, r115⟩ := st.new 27 115 (by rfl) (dep_of hdep 27 (by rfl))
      have r115' : v115 = .slice (some ⟨w.heap.size + 1, 0, none⟩) 1 1 := r115
      clear r115
      subst r115'
      obtain ⟨v112, t112, r112⟩ := st.new 24 112 (by rfl) (dep_of hdep 24 (by rfl))
      have r112' : v112 = .bool true := r112
      clear r112
      subst r112'
      have e114 : ac.tmps.getD 114 undef = _ := getD_of t114
      have e115 : ac.tmps.getD 115 undef = _ := getD_of t115
      have e112 : ac.tmps.getD 112 undef = _ := getD_of t112
      refine wpOp_want rfl (wanted_of (by rfl) (by rfl) t112) (fun K' hK' => ?_)
      go_simp
      refine (Calls.mono (at_lenR Nb.out (same1_t X114 c114 n18 _ _ b wc h114 (hb.below st.b) (by have := Bn18; omega) (by have := Bb; omega) (by rw [Vb.out, Vn18.out]))) ?_)
      rintro e W ⟨rfl, kb⟩
      exact hK'.out _ _ ⟨_, rfl, rfl, kb⟩
    refine ⟨?_, ?_⟩
    · intro E ac wc st hdep
      obtain ⟨v112, t112, r112⟩ := st.new 24 112 (by rfl) (dep_of hdep 24 (by rfl))
      have r112' : v112 = .bool true := r112
      clear r112
      subst r112'
      obtain ⟨v116, t116, r116⟩ := st.new 28 116 (by rfl) (dep_of hdep 28 (by rfl))
      have r116' : v116 = .bool true := r116
      clear r116
      subst r116'
      have e112 : ac.tmps.getD 112 undef = _ := getD_of t112
      have e116 : ac.tmps.getD 116 undef = _ := getD_of t116
      refine wpOp_want rfl (by rfl) (fun K' hK' => ?_)
      go_simp
      exact hK'.out _ _ ⟨_, rfl, rfl, Below.refl _ _⟩
    refine ⟨?_, ?_⟩
    · intro E ac wc st hdep
      obtain ⟨v117, t117, r117⟩ := st.new 29 117 (by rfl) (dep_of hdep 29 (by rfl))
      have r117' : v117 = .bool true := r117
      clear r117
      subst r117'
      have e117 : ac.tmps.getD 117 undef = _ := getD_of t117
      refine wpOp_want rfl (by rfl) (fun K' hK' => ?_)
      go_simp
      exact hK'.out _ _ ⟨_, rfl, rfl, Below.refl _ _⟩
    refine ⟨?_, ?_⟩
    · intro E ac wc st hdep
      have t4 : ac.tmps[4]? = some (.slice Xg (nl g) cg) := (st.old 4 (by kernel_rfl)).trans (by rfl)
      obtain ⟨v118, t118, r118⟩ := st.new 30 118 (by rfl) (dep_of hdep 30 (by rfl))
      have r118' : v118 = .bool true := r118
      clear r118
      subst r118'
      have e4 : ac.tmps.getD 4 undef = _ := getD_of t4
      have e118 : ac.tmps.getD 118 undef = _ := getD_of t118
      refine wpOp_want rfl (wanted_of (by rfl) (by rfl) t118) (fun K' hK' => ?_)
      go_simp
      exact hK'.out _ _ ⟨_, rfl, rfl, Below.refl _ _⟩
    refine ⟨?_, ?_⟩
    · intro E ac wc st hdep
      obtain ⟨v118, t118, r118⟩ := st.new 30 118 (by rfl) (dep_of hdep 30 (by rfl))
      have r118' : v118 = .bool true := r118
      clear r118
      subst r118'
      have e118 : ac.tmps.getD 118 undef = _ := getD_of t118
      refine wpOp_want rfl (wanted_of (by rfl) (by rfl) t118) (fun K' hK' => ?_)
      go_simp
      exact hK'.out _ _ ⟨_, rfl, ⟨_, _, rfl, by rw [Vn6.out]; exact nlit (l := [6]) _ _ _ (heap_alloc_new wc _) rfl (by decide) (by decide) (by decide), by rw [Vn6.out]; exact nl_lit (l := [6]) (by decide) (by decide)⟩, (Below.refl _ _).alloc (Nat.le_refl _) _⟩
    refine ⟨?_, ?_⟩
    · intro E ac wc st hdep
      obtain ⟨v119, t119, r119⟩ := st.new 31 119 (by rfl) (dep_of hdep 31 (by rfl))
      have r119' : v119 = .slice Xg (nl g) cg := r119
      clear r119
      subst r119'
      obtain ⟨v120, t120, r120⟩ := st.new 32 120 (by rfl) (dep_of hdep 32 (by rfl))
      obtain ⟨X120, c120, rfl, h120, n120⟩ := r120
      replace n120 := Lib.hid n120
      obtain ⟨v118, t118, r118⟩ := st.new 30 118 (by rfl) (dep_of hdep 30 (by rfl))
      have r118' : v118 = .bool true := r118
      clear r118
      subst r118'
      have e119 : ac.tmps.getD 119 undef = _ := getD_of t119
      have e120 : ac.tmps.getD 120 undef = _ := getD_of t120
      have e118 : ac.tmps.getD 118 undef = _ := getD_of t118
      refine wpOp_want rfl (wanted_of (by rfl) (by rfl) t118) (fun K' hK' => ?_)
      go_simp
      refine (Calls.mono (at_lenR n120.out (same1_t Xg cg g X120 c120 n6 wc (hg.below st.b) h120 (by rw [Xg6.out, ← Vn6.out]; have := Bn6; omega) (by have := Bn6; omega) (by rw [Xg6.out, Vn6.out]))) ?_)
      rintro e W ⟨rfl, kb⟩
      exact hK'.out _ _ ⟨_, rfl, rfl, kb⟩
    refine ⟨?_, ?_⟩
    · intro E ac wc st hdep
      obtain ⟨v118, t118, r118⟩ := st.new 30 118 (by rfl) (dep_of hdep 30 (by rfl))
      have r118' : v118 = .bool true := r118
      clear r118
      subst r118'
      obtain ⟨v121, t121, r121⟩ := st.new 33 121 (by rfl) (dep_of hdep 33 (by rfl))
      have r121' : v121 = .bool true := r121
      clear r121
      subst r121'
      have e118 : ac.tmps.getD 118 undef = _ := getD_of t118
      have e121 : ac.tmps.getD 121 undef = _ := getD_of t121
      refine wpOp_want rfl (by rfl) (fun K' hK' => ?_)
      go_simp
      exact hK'.out _ _ ⟨_, rfl, rfl, Below.refl _ _⟩
    refine ⟨?_, ?_⟩
    · intro E ac wc st hdep
      obtain ⟨v122, t122, r122⟩ := st.new 34 122 (by rfl) (dep_of hdep 34 (by rfl))
      have r122' : v122 = .bool true := r122
      clear r122
      subst r122'
      have e122 : ac.tmps.getD 122 undef = _ := getD_of t122
      refine wpOp_want rfl (by rfl) (fun K' hK' => ?_)
      go_simp
      exact hK'.out _ _ ⟨_, rfl, rfl, Below.refl _ _⟩
    refine ⟨?_, ?_⟩
    · intro E ac wc st hdep
      have t5 : ac.tmps[5]? = some (.pointer (some ⟨W4.heap.size, 0, none⟩)) := (st.old 5 (by kernel_rfl)).trans (by rfl)
      obtain ⟨v123, t123, r123⟩ := st.new 35 123 (by rfl) (dep_of hdep 35 (by rfl))
      have r123' : v123 = .bool true := r123
      clear r123
      subst r123'
      have qq0 := (Ru.below st.b).c (i := 0) rfl
      have qq1 := (Ru.below st.b).c (i := 1) rfl
      have e5 : ac.tmps.getD 5 undef = _ := getD_of t5
      have e123 : ac.tmps.getD 123 undef = _ := getD_of t123
      refine wpOp_want rfl (wanted_of (by rfl) (by rfl) t123) (fun K' hK' => ?_)
      go_simp
      exact hK'.out _ _ ⟨_, rfl, rfl, Below.refl _ _⟩
    refine ⟨?_, ?_⟩
    · intro E ac wc st hdep
      obtain ⟨v123, t123, r123⟩ := st.new 35 123 (by rfl) (dep_of hdep 35 (by rfl))
      have r123' : v123 = .bool true := r123
      clear r123
      subst r123'
      have e123 : ac.tmps.getD 123 undef = _ := getD_of t123
      refine wpOp_want rfl (wanted_of (by rfl) (by rfl) t123) (fun K' hK' => ?_)
      go_simp
      refine (Calls.mono (R := RetI wc (zm)) (CZzm.out wc) ?_)
      rintro e W ⟨X, c, rfl, hX, kb⟩
      exact hK'.out _ _ ⟨_, rfl, ⟨X, c, rfl, hX⟩, kb⟩
    refine ⟨?_, ?_⟩
    · intro E ac wc st hdep
      obtain ⟨v124, t124, r124⟩ := st.new 36 124 (by rfl) (dep_of hdep 36 (by rfl))
      have r124' : v124 = .agg #[.bool (sg u), .slice Xu (nl (mg u)) cu] := r124
      clear r124
      subst r124'
      obtain ⟨v125, t125, r125⟩ := st.new 37 125 (by rfl) (dep_of hdep 37 (by rfl))
      obtain ⟨X125, c125, rfl, h125⟩ := r125
      obtain ⟨v123, t123, r123⟩ := st.new 35 123 (by rfl) (dep_of hdep 35 (by rfl))
      have r123' : v123 = .bool true := r123
      clear r123
      subst r123'
      have e124 : ac.tmps.getD 124 undef = _ := getD_of t124
      have e125 : ac.tmps.getD 125 undef = _ := getD_of t125
      have e123 : ac.tmps.getD 123 undef = _ := getD_of t123
      refine wpOp_want rfl (wanted_of (by rfl) (by rfl) t123) (fun K' hK' => ?_)
      go_simp
      refine (Calls.mono (zsameT_c Xu cu u X125 c125 zm wc (hu.below st.b) h125 (by rw [Xu1.out, ← Vzm.out]; have := Bzm; omega) (by rw [Xu1.out, Vzm.out])) ?_)
      rintro e W ⟨rfl, kb⟩
      exact hK'.out _ _ ⟨_, rfl, rfl, kb⟩
    refine ⟨?_, ?_⟩
    · intro E ac wc st hdep
      obtain ⟨v123, t123, r123⟩ := st.new 35 123 (by rfl) (dep_of hdep 35 (by rfl))
      have r123' : v123 = .bool true := r123
      clear r123
      subst r123'
      obtain ⟨v126, t126, r126⟩ := st.new 38 126 (by rfl) (dep_of hdep 38 (by rfl))
      have r126' : v126 = .bool true := r126
      clear r126
      subst r126'
      have e123 : ac.tmps.getD 123 undef = _ := getD_of t123
      have e126 : ac.tmps.getD 126 undef = _ := getD_of t126
      refine wpOp_want rfl (by rfl) (fun K' hK' => ?_)
      go_simp
      exact hK'.out _ _ ⟨_, rfl, rfl, Below.refl _ _⟩
    refine ⟨?_, ?_⟩
    · intro E ac wc st hdep
      obtain ⟨v127, t127, r127⟩ := st.new 39 127 (by rfl) (dep_of hdep 39 (by rfl))
      have r127' : v127 = .bool true := r127
      clear r127
      subst r127'
      have e127 : ac.tmps.getD 127 undef = _ := getD_of t127
      refine wpOp_want rfl (by rfl) (fun K' hK' => ?_)
      go_simp
      exact hK'.out _ _ ⟨_, rfl, rfl, Below.refl _ _⟩
    refine ⟨?_, ?_⟩
    · intro E ac wc st hdep
      have t6 : ac.tmps[6]? = some (.pointer (some ⟨(W4.heap.size + 1), 0, none⟩)) := (st.old 6 (by kernel_rfl)).trans (by rfl)
      obtain ⟨v128, t128, r128⟩ := st.new 40 128 (by rfl) (dep_of hdep 40 (by rfl))
      have r128' : v128 = .bool true := r128
      clear r128
      subst r128'
      have qq0 := (Rv.below st.b).c (i := 0) rfl
      have qq1 := (Rv.below st.b).c (i := 1) rfl
      have e6 : ac.tmps.getD 6 undef = _ := getD_of t6
      have e128 : ac.tmps.getD 128 undef = _ := getD_of t128
      refine wpOp_want rfl (wanted_of (by rfl) (by rfl) t128) (fun K' hK' => ?_)
      go_simp
      exact hK'.out _ _ ⟨_, rfl, rfl, Below.refl _ _⟩
    refine ⟨?_, ?_⟩
    · intro E ac wc st hdep
      obtain ⟨v128, t128, r128⟩ := st.new 40 128 (by rfl) (dep_of hdep 40 (by rfl))
      have r128' : v128 = .bool true := r128
      clear r128
      subst r128'
      have e128 : ac.tmps.getD 128 undef = _ := getD_of t128
      refine wpOp_want rfl (wanted_of (by rfl) (by rfl) t128) (fun K' hK' => ?_)
      go_simp
      refine (Calls.mono (R := RetI wc (z1)) (CZz1.out wc) ?_)
      rintro e W ⟨X, c, rfl, hX, kb⟩
      exact hK'.out _ _ ⟨_, rfl, ⟨X, c, rfl, hX⟩, kb⟩
    refine ⟨?_, ?_⟩
    · intro E ac wc st hdep
      obtain ⟨v129, t129, r129⟩ := st.new 41 129 (by rfl) (dep_of hdep 41 (by rfl))
      have r129' : v129 = .agg #[.bool (sg v), .slice Xv (nl (mg v)) cv] := r129
      clear r129
      subst r129'
      obtain ⟨v130, t130, r130⟩ := st.new 42 130 (by rfl) (dep_of hdep 42 (by rfl))
      obtain ⟨X130, c130, rfl, h130⟩ := r130
      obtain ⟨v128, t128, r128⟩ := st.new 40 128 (by rfl) (dep_of hdep 40 (by rfl))
      have r128' : v128 = .bool true := r128
      clear r128
      subst r128'
      have e129 : ac.tmps.getD 129 undef = _ := getD_of t129
      have e130 : ac.tmps.getD 130 undef = _ := getD_of t130
      have e128 : ac.tmps.getD 128 undef = _ := getD_of t128
      refine wpOp_want rfl (wanted_of (by rfl) (by rfl) t128) (fun K' hK' => ?_)
      go_simp
      refine (Calls.mono (zsameT_c Xv cv v X130 c130 z1 wc (hv.below st.b) h130 (by rw [Xv1.out, ← Vz1.out]; have := Bz1; omega) (by rw [Xv1.out, Vz1.out])) ?_)
      rintro e W ⟨rfl, kb⟩
      exact hK'.out _ _ ⟨_, rfl, rfl, kb⟩
    refine ⟨?_, ?_⟩
    · intro E ac wc st hdep
      obtain ⟨v128, t128, r128⟩ := st.new 40 128 (by rfl) (dep_of hdep 40 (by rfl))
      have r128' : v128 = .bool true := r128
      clear r128
      subst r128'
      obtain ⟨v131, t131, r131⟩ := st.new 43 131 (by rfl) (dep_of hdep 43 (by rfl))
      have r131' : v131 = .bool true := r131
      clear r131
      subst r131'
      have e128 : ac.tmps.getD 128 undef = _ := getD_of t128
      have e131 : ac.tmps.getD 131 undef = _ := getD_of t131
      refine wpOp_want rfl (by rfl) (fun K' hK' => ?_)
      go_simp
      exact hK'.out _ _ ⟨_, rfl, rfl, Below.refl _ _⟩
    refine ⟨?_, ?_⟩
    · intro E ac wc st hdep
      obtain ⟨v132, t132, r132⟩ := st.new 44 132 (by rfl) (dep_of hdep 44 (by rfl))
      have r132' : v132 = .bool true := r132
      clear r132
      subst r132'
      have e132 : ac.tmps.getD 132 undef = _ := getD_of t132
      refine wpOp_want rfl (by rfl) (fun K' hK' => ?_)
      go_simp
      exact hK'.out _ _ ⟨_, rfl, rfl, Below.refl _ _⟩
    refine ⟨?_, ?_⟩
    · intro E ac wc st hdep
      have t7 : ac.tmps[7]? = some (.slice Xh' (nl h') ch') := (st.old 7 (by kernel_rfl)).trans (by rfl)
      obtain ⟨v133, t133, r133⟩ := st.new 45 133 (by rfl) (dep_of hdep 45 (by rfl))
      have r133' : v133 = .bool true := r133
      clear r133
      subst r133'
      have e7 : ac.tmps.getD 7 undef = _ := getD_of t7
      have e133 : ac.tmps.getD 133 undef = _ := getD_of t133
      refine wpOp_want rfl (wanted_of (by rfl) (by rfl) t133) (fun K' hK' => ?_)
      go_simp
      exact hK'.out _ _ ⟨_, rfl, rfl, Below.refl _ _⟩
    refine ⟨?_, ?_⟩
    · intro E ac wc st hdep
      have t1 : ac.tmps[1]? = some (.slice (some ⟨w.heap.size, 0, none⟩) 1 1) := (st.old 1 (by kernel_rfl)).trans (by rfl)
      obtain ⟨v133, t133, r133⟩ := st.new 45 133 (by rfl) (dep_of hdep 45 (by rfl))
      have r133' : v133 = .bool true := r133
      clear r133
      subst r133'
      have e1 : ac.tmps.getD 1 undef = _ := getD_of t1
      have e133 : ac.tmps.getD 133 undef = _ := getD_of t133
      refine wpOp_want rfl (wanted_of (by rfl) (by rfl) t133) (fun K' hK' => ?_)
      go_simp
      exact hK'.out _ _ ⟨_, rfl, rfl, Below.refl _ _⟩
    refine ⟨?_, ?_⟩
    · intro E ac wc st hdep
      obtain ⟨v134, t134, r134⟩ := st.new 46 134 (by rfl) (dep_of hdep 46 (by rfl))
      have r134' : v134 = .slice Xh' (nl h') ch' := r134
      clear r134
      subst r134'
      obtain ⟨v135, t135, r135⟩ := st.new 47 135 (by rfl) (dep_of hdep 47 (by rfl))
      have r135' : v135 = .slice (some ⟨w.heap.size, 0, none⟩) 1 1 := r135
      clear r135
      subst r135'
      obtain ⟨v133, t133, r133⟩ := st.new 45 133 (by rfl) (dep_of hdep 45 (by rfl))
      have r133' : v133 = .bool true := r133
      clear r133
      subst r133'
      have e134 : ac.tmps.getD 134 undef = _ := getD_of t134
      have e135 : ac.tmps.getD 135 undef = _ := getD_of t135
      have e133 : ac.tmps.getD 133 undef = _ := getD_of t133
      refine wpOp_want rfl (wanted_of (by rfl) (by rfl) t133) (fun K' hK' => ?_)
      go_simp
      refine (Calls.mono (at_lenR Na.out (same1_t Xh' ch' h' _ _ a wc (hh'.below st.b) (ha.below st.b) (by rw [Xh12.out]; have := Ba; omega) (by have := Ba; omega) (by exact Xh12.out))) ?_)
      rintro e W ⟨rfl, kb⟩
      exact hK'.out _ _ ⟨_, rfl, rfl, kb⟩
    refine ⟨?_, ?_⟩
    · intro E ac wc st hdep
      obtain ⟨v133, t133, r133⟩ := st.new 45 133 (by rfl) (dep_of hdep 45 (by rfl))
      have r133' : v133 = .bool true := r133
      clear r133
      subst r133'
      obtain ⟨v136, t136, r136⟩ := st.new 48 136 (by rfl) (dep_of hdep 48 (by rfl))
      have r136' : v136 = .bool true := r136
      clear r136
      subst r136'
      have e133 : ac.tmps.getD 133 undef = _ := getD_of t133
      have e136 : ac.tmps.getD 136 undef = _ := getD_of t136
      refine wpOp_want rfl (by rfl) (fun K' hK' => ?_)
      go_simp
      exact hK'.out _ _ ⟨_, rfl, rfl, Below.refl _ _⟩
    refine ⟨?_, ?_⟩
    · intro E ac wc st hdep
      obtain ⟨v137, t137, r137⟩ := st.new 49 137 (by rfl) (dep_of hdep 49 (by rfl))
      have r137' : v137 = .bool true := r137
      clear r137
      subst r137'
      have e137 : ac.tmps.getD 137 undef = _ := getD_of t137
      refine wpOp_want rfl (by rfl) (fun K' hK' => ?_)
      go_simp
      exact hK'.out _ _ ⟨_, rfl, rfl, Below.refl _ _⟩
    refine ⟨?_, ?_⟩
    · intro E ac wc st hdep
      have t8 : ac.tmps[8]? = some (.pointer (some ⟨W6.heap.size, 0, none⟩)) := (st.old 8 (by kernel_rfl)).trans (by rfl)
      obtain ⟨v138, t138, r138⟩ := st.new 50 138 (by rfl) (dep_of hdep 50 (by rfl))
      have r138' : v138 = .bool true := r138
      clear r138
      subst r138'
      have qq0 := (Rp'.below st.b).c (i := 0) rfl
      have qq1 := (Rp'.below st.b).c (i := 1) rfl
      have e8 : ac.tmps.getD 8 undef = _ := getD_of t8
      have e138 : ac.tmps.getD 138 undef = _ := getD_of t138
      refine wpOp_want rfl (wanted_of (by rfl) (by rfl) t138) (fun K' hK' => ?_)
      go_simp
      exact hK'.out _ _ ⟨_, rfl, rfl, Below.refl _ _⟩
    refine ⟨?_, ?_⟩
    · intro E ac wc st hdep
      obtain ⟨v138, t138, r138⟩ := st.new 50 138 (by rfl) (dep_of hdep 50 (by rfl))
      have r138' : v138 = .bool true := r138
      clear r138
      subst r138'
      have e138 : ac.tmps.getD 138 undef = _ := getD_of t138
      refine wpOp_want rfl (wanted_of (by rfl) (by rfl) t138) (fun K' hK' => ?_)
      go_simp
      refine (Calls.mono (R := RetI wc (z1)) (CZz1.out wc) ?_)
      rintro e W ⟨X, c, rfl, hX, kb⟩
      exact hK'.out _ _ ⟨_, rfl, ⟨X, c, rfl, hX⟩, kb⟩
    refine ⟨?_, ?_⟩
    · intro E ac wc st hdep
      obtain ⟨v139, t139, r139⟩ := st.new 51 139 (by rfl) (dep_of hdep 51 (by rfl))
      have r139' : v139 = .agg #[.bool (sg p'), .slice Xp' (nl (mg p')) cp'] := r139
      clear r139
      subst r139'
      obtain ⟨v140, t140, r140⟩ := st.new 52 140 (by rfl) (dep_of hdep 52 (by rfl))
      obtain ⟨X140, c140, rfl, h140⟩ := r140
      obtain ⟨v138, t138, r138⟩ := st.new 50 138 (by rfl) (dep_of hdep 50 (by rfl))
      have r138' : v138 = .bool true := r138
      clear r138
      subst r138'
      have e139 : ac.tmps.getD 139 undef = _ := getD_of t139
      have e140 : ac.tmps.getD 140 undef = _ := getD_of t140
      have e138 : ac.tmps.getD 138 undef = _ := getD_of t138
      refine wpOp_want rfl (wanted_of (by rfl) (by rfl) t138) (fun K' hK' => ?_)
      go_simp
      refine (Calls.mono (zsameT_c Xp' cp' p' X140 c140 z1 wc (hp'.below st.b) h140 (by rw [Xp1.out, ← Vz1.out]; have := Bz1; omega) (by rw [Xp1.out, Vz1.out])) ?_)
      rintro e W ⟨rfl, kb⟩
      exact hK'.out _ _ ⟨_, rfl, rfl, kb⟩
    refine ⟨?_, ?_⟩
    · intro E ac wc st hdep
      obtain ⟨v138, t138, r138⟩ := st.new 50 138 (by rfl) (dep_of hdep 50 (by rfl))
      have r138' : v138 = .bool true := r138
      clear r138
      subst r138'
      obtain ⟨v141, t141, r141⟩ := st.new 53 141 (by rfl) (dep_of hdep 53 (by rfl))
      have r141' : v141 = .bool true := r141
      clear r141
      subst r141'
      have e138 : ac.tmps.getD 138 undef = _ := getD_of t138
      have e141 : ac.tmps.getD 141 undef = _ := getD_of t141
      refine wpOp_want rfl (by rfl) (fun K' hK' => ?_)
      go_simp
      exact hK'.out _ _ ⟨_, rfl, rfl, Below.refl _ _⟩
    refine ⟨?_, ?_⟩
    · intro E ac wc st hdep
      obtain ⟨v142, t142, r142⟩ := st.new 54 142 (by rfl) (dep_of hdep 54 (by rfl))
      have r142' : v142 = .bool true := r142
      clear r142
      subst r142'
      have e142 : ac.tmps.getD 142 undef = _ := getD_of t142
      refine wpOp_want rfl (by rfl) (fun K' hK' => ?_)
      go_simp
      exact hK'.out _ _ ⟨_, rfl, rfl, Below.refl _ _⟩
    refine ⟨?_, ?_⟩
    · intro E ac wc st hdep
      have t9 : ac.tmps[9]? = some (.pointer (some ⟨(W6.heap.size + 1), 0, none⟩)) := (st.old 9 (by kernel_rfl)).trans (by rfl)
      obtain ⟨v143, t143, r143⟩ := st.new 55 143 (by rfl) (dep_of hdep 55 (by rfl))
      have r143' : v143 = .bool true := r143
      clear r143
      subst r143'
      have qq0 := (Rq'.below st.b).c (i := 0) rfl
      have qq1 := (Rq'.below st.b).c (i := 1) rfl
      have e9 : ac.tmps.getD 9 undef = _ := getD_of t9
      have e143 : ac.tmps.getD 143 undef = _ := getD_of t143
      refine wpOp_want rfl (wanted_of (by rfl) (by rfl) t143) (fun K' hK' => ?_)
      go_simp
      exact hK'.out _ _ ⟨_, rfl, rfl, Below.refl _ _⟩
    refine ⟨?_, ?_⟩
    · intro E ac wc st hdep
      obtain ⟨v143, t143, r143⟩ := st.new 55 143 (by rfl) (dep_of hdep 55 (by rfl))
      have r143' : v143 = .bool true := r143
      clear r143
      subst r143'
      have e143 : ac.tmps.getD 143 undef = _ := getD_of t143
      refine wpOp_want rfl (wanted_of (by rfl) (by rfl) t143) (fun K' hK' => ?_)
      go_simp
      refine (Calls.mono (R := RetI wc (z0)) (CZz0.out wc) ?_)
      rintro e W ⟨X, c, rfl, hX, kb⟩
      exact hK'.out _ _ ⟨_, rfl, ⟨X, c, rfl, hX⟩, kb⟩
    refine ⟨?_, ?_⟩
    · intro E ac wc st hdep
      obtain ⟨v144, t144, r144⟩ := st.new 56 144 (by rfl) (dep_of hdep 56 (by rfl))
      have r144' : v144 = .agg #[.bool (sg q'), .slice Xq' (nl (mg q')) cq'] := r144
      clear r144
      subst r144'
      obtain ⟨v145, t145, r145⟩ := st.new 57 145 (by rfl) (dep_of hdep 57 (by rfl))
      obtain ⟨X145, c145, rfl, h145⟩ := r145
      obtain ⟨v143, t143, r143⟩ := st.new 55 143 (by rfl) (dep_of hdep 55 (by rfl))
      have r143' : v143 = .bool true := r143
      clear r143
      subst r143'
      have e144 : ac.tmps.getD 144 undef = _ := getD_of t144
      have e145 : ac.tmps.getD 145 undef = _ := getD_of t145
      have e143 : ac.tmps.getD 143 undef = _ := getD_of t143
      refine wpOp_want rfl (wanted_of (by rfl) (by rfl) t143) (fun K' hK' => ?_)
      go_simp
      refine (Calls.mono (zsameT_c Xq' cq' q' X145 c145 z0 wc (hq'.below st.b) h145 (by rw [Xq0.out, ← Vz0.out]; have := Bz0; omega) (by rw [Xq0.out, Vz0.out])) ?_)
      rintro e W ⟨rfl, kb⟩
      exact hK'.out _ _ ⟨_, rfl, rfl, kb⟩
    refine ⟨?_, ?_⟩
    · intro E ac wc st hdep
      obtain ⟨v143, t143, r143⟩ := st.new 55 143 (by rfl) (dep_of hdep 55 (by rfl))
      have r143' : v143 = .bool true := r143
      clear r143
      subst r143'
      obtain ⟨v146, t146, r146⟩ := st.new 58 146 (by rfl) (dep_of hdep 58 (by rfl))
      have r146' : v146 = .bool true := r146
      clear r146
      subst r146'
      have e143 : ac.tmps.getD 143 undef = _ := getD_of t143
      have e146 : ac.tmps.getD 146 undef = _ := getD_of t146
      refine wpOp_want rfl (by rfl) (fun K' hK' => ?_)
      go_simp
      exact hK'.out _ _ ⟨_, rfl, rfl, Below.refl _ _⟩
    refine ⟨?_, ?_⟩
    · intro E ac wc st hdep
      obtain ⟨v147, t147, r147⟩ := st.new 59 147 (by rfl) (dep_of hdep 59 (by rfl))
      have r147' : v147 = .bool true := r147
      clear r147
      subst r147'
      have e147 : ac.tmps.getD 147 undef = _ := getD_of t147
      refine wpOp_want rfl (by rfl) (fun K' hK' => ?_)
      go_simp
      exact hK'.out _ _ ⟨_, rfl, rfl, Below.refl _ _⟩
    refine ⟨?_, ?_⟩
    · intro E ac wc st hdep
      have t10 : ac.tmps[10]? = some (.slice (some qd) 3 cqs) := (st.old 10 (by kernel_rfl)).trans (by rfl)
      obtain ⟨v148, t148, r148⟩ := st.new 60 148 (by rfl) (dep_of hdep 60 (by rfl))
      have r148' : v148 = .bool true := r148
      clear r148
      subst r148'
      have e10 : ac.tmps.getD 10 undef = _ := getD_of t10
      have e148 : ac.tmps.getD 148 undef = _ := getD_of t148
      refine wpOp_want rfl (wanted_of (by rfl) (by rfl) t148) (fun K' hK' => ?_)
      go_simp
      exact hK'.out _ _ ⟨_, rfl, rfl, Below.refl _ _⟩
    refine ⟨?_, ?_⟩
    · intro E ac wc st hdep
      obtain ⟨v149, t149, r149⟩ := st.new 61 149 (by rfl) (dep_of hdep 61 (by rfl))
      have r149' : v149 = .slice (some qd) 3 cqs := r149
      clear r149
      subst r149'
      obtain ⟨v148, t148, r148⟩ := st.new 60 148 (by rfl) (dep_of hdep 60 (by rfl))
      have r148' : v148 = .bool true := r148
      clear r148
      subst r148'
      have e149 : ac.tmps.getD 149 undef = _ := getD_of t149
      have e148 : ac.tmps.getD 148 undef = _ := getD_of t148
      refine wpOp_want rfl (wanted_of (by rfl) (by rfl) t148) (fun K' hK' => ?_)
      go_simp
      exact hK'.out _ _ ⟨_, rfl, rfl, Below.refl _ _⟩
    refine ⟨?_, ?_⟩
    · intro E ac wc st hdep
      obtain ⟨v150, t150, r150⟩ := st.new 62 150 (by rfl) (dep_of hdep 62 (by rfl))
      have r150' : v150 = .pointer (some qd) := r150
      clear r150
      subst r150'
      obtain ⟨v148, t148, r148⟩ := st.new 60 148 (by rfl) (dep_of hdep 60 (by rfl))
      have r148' : v148 = .bool true := r148
      clear r148
      subst r148'
      have qq := cbl st.b qc0'
      have e150 : ac.tmps.getD 150 undef = _ := getD_of t150
      have e148 : ac.tmps.getD 148 undef = _ := getD_of t148
      refine wpOp_want rfl (wanted_of (by rfl) (by rfl) t148) (fun K' hK' => ?_)
      go_simp
      exact hK'.out _ _ ⟨_, rfl, rfl, Below.refl _ _⟩
    refine ⟨?_, ?_⟩
    · intro E ac wc st hdep
      obtain ⟨v151, t151, r151⟩ := st.new 63 151 (by rfl) (dep_of hdep 63 (by rfl))
      have r151' : v151 = .slice Y0 (nl k0) d0 := r151
      clear r151
      subst r151'
      obtain ⟨v148, t148, r148⟩ := st.new 60 148 (by rfl) (dep_of hdep 60 (by rfl))
      have r148' : v148 = .bool true := r148
      clear r148
      subst r148'
      have zz := K00.out
      have e151 : ac.tmps.getD 151 undef = _ := getD_of t151
      have e148 : ac.tmps.getD 148 undef = _ := getD_of t148
      refine wpOp_want rfl (wanted_of (by rfl) (by rfl) t148) (fun K' hK' => ?_)
      go_simp
      exact hK'.out _ _ ⟨_, rfl, rfl, Below.refl _ _⟩
    refine ⟨?_, ?_⟩
    · intro E ac wc st hdep
      obtain ⟨v152, t152, r152⟩ := st.new 64 152 (by rfl) (dep_of hdep 64 (by rfl))
      have r152' : v152 = .int .i64 0 := r152
      clear r152
      subst r152'
      obtain ⟨v148, t148, r148⟩ := st.new 60 148 (by rfl) (dep_of hdep 60 (by rfl))
      have r148' : v148 = .bool true := r148
      clear r148
      subst r148'
      have e152 : ac.tmps.getD 152 undef = _ := getD_of t152
      have e148 : ac.tmps.getD 148 undef = _ := getD_of t148
      refine wpOp_want rfl (wanted_of (by rfl) (by rfl) t148) (fun K' hK' => ?_)
      go_simp
      exact hK'.out _ _ ⟨_, rfl, rfl, Below.refl _ _⟩
    refine ⟨?_, ?_⟩
    · intro E ac wc st hdep
      obtain ⟨v148, t148, r148⟩ := st.new 60 148 (by rfl) (dep_of hdep 60 (by rfl))
      have r148' : v148 = .bool true := r148
      clear r148
      subst r148'
      obtain ⟨v153, t153, r153⟩ := st.new 65 153 (by rfl) (dep_of hdep 65 (by rfl))
      have r153' : v153 = .bool true := r153
      clear r153
      subst r153'
      have e148 : ac.tmps.getD 148 undef = _ := getD_of t148
      have e153 : ac.tmps.getD 153 undef = _ := getD_of t153
      refine wpOp_want rfl (by rfl) (fun K' hK' => ?_)
      go_simp
      exact hK'.out _ _ ⟨_, rfl, rfl, Below.refl _ _⟩
    refine ⟨?_, ?_⟩
    · intro E ac wc st hdep
      obtain ⟨v154, t154, r154⟩ := st.new 66 154 (by rfl) (dep_of hdep 66 (by rfl))
      have r154' : v154 = .bool true := r154
      clear r154
      subst r154'
      have e154 : ac.tmps.getD 154 undef = _ := getD_of t154
      refine wpOp_want rfl (by rfl) (fun K' hK' => ?_)
      go_simp
      exact hK'.out _ _ ⟨_, rfl, rfl, Below.refl _ _⟩
    refine ⟨?_, ?_⟩
    · intro E ac wc st hdep
      have t10 : ac.tmps[10]? = some (.slice (some qd) 3 cqs) := (st.old 10 (by kernel_rfl)).trans (by rfl)
      obtain ⟨v155, t155, r155⟩ := st.new 67 155 (by rfl) (dep_of hdep 67 (by rfl))
      have r155' : v155 = .bool true := r155
      clear r155
      subst r155'
      have e10 : ac.tmps.getD 10 undef = _ := getD_of t10
      have e155 : ac.tmps.getD 155 undef = _ := getD_of t155
      refine wpOp_want rfl (wanted_of (by rfl) (by rfl) t155) (fun K' hK' => ?_)
      go_simp
      exact hK'.out _ _ ⟨_, rfl, rfl, Below.refl _ _⟩
    refine ⟨?_, ?_⟩
    · intro E ac wc st hdep
      obtain ⟨v156, t156, r156⟩ := st.new 68 156 (by rfl) (dep_of hdep 68 (by rfl))
      have r156' : v156 = .slice (some qd) 3 cqs := r156
      clear r156
      subst r156'
      obtain ⟨v155, t155, r155⟩ := st.new 67 155 (by rfl) (dep_of hdep 67 (by rfl))
      have r155' : v155 = .bool true := r155
      clear r155
      subst r155'
      have e156 : ac.tmps.getD 156 undef = _ := getD_of t156
      have e155 : ac.tmps.getD 155 undef = _ := getD_of t155
      refine wpOp_want rfl (wanted_of (by rfl) (by rfl) t155) (fun K' hK' => ?_)
      go_simp
      exact hK'.out _ _ ⟨_, rfl, rfl, Below.refl _ _⟩
    refine ⟨?_, ?_⟩
    · intro E ac wc st hdep
      obtain ⟨v157, t157, r157⟩ := st.new 69 157 (by rfl) (dep_of hdep 69 (by rfl))
      have r157' : v157 = .pointer (some ⟨qd.block, qd.off + 1, none⟩) := r157
      clear r157
      subst r157'
      obtain ⟨v155, t155, r155⟩ := st.new 67 155 (by rfl) (dep_of hdep 67 (by rfl))
      have r155' : v155 = .bool true := r155
      clear r155
      subst r155'
      have qq := cbl st.b qc1'
      have e157 : ac.tmps.getD 157 undef = _ := getD_of t157
      have e155 : ac.tmps.getD 155 undef = _ := getD_of t155
      refine wpOp_want rfl (wanted_of (by rfl) (by rfl) t155) (fun K' hK' => ?_)
      go_simp
      exact hK'.out _ _ ⟨_, rfl, rfl, Below.refl _ _⟩
    refine ⟨?_, ?_⟩
    · intro E ac wc st hdep
      have t3 : ac.tmps[3]? = some (.slice (some ⟨w.heap.size + 1 + 1, 0, none⟩) 1 1) := (st.old 3 (by kernel_rfl)).trans (by rfl)
      obtain ⟨v155, t155, r155⟩ := st.new 67 155 (by rfl) (dep_of hdep 67 (by rfl))
      have r155' : v155 = .bool true := r155
      clear r155
      subst r155'
      have e3 : ac.tmps.getD 3 undef = _ := getD_of t3
      have e155 : ac.tmps.getD 155 undef = _ := getD_of t155
      refine wpOp_want rfl (wanted_of (by rfl) (by rfl) t155) (fun K' hK' => ?_)
      go_simp
      exact hK'.out _ _ ⟨_, rfl, rfl, Below.refl _ _⟩
    refine ⟨?_, ?_⟩
    · intro E ac wc st hdep
      obtain ⟨v158, t158, r158⟩ := st.new 70 158 (by rfl) (dep_of hdep 70 (by rfl))
      have r158' : v158 = .slice Y1 (nl k1) d1 := r158
      clear r158
      subst r158'
      obtain ⟨v159, t159, r159⟩ := st.new 71 159 (by rfl) (dep_of hdep 71 (by rfl))
      have r159' : v159 = .slice (some ⟨w.heap.size + 1 + 1, 0, none⟩) 1 1 := r159
      clear r159
      subst r159'
      obtain ⟨v155, t155, r155⟩ := st.new 67 155 (by rfl) (dep_of hdep 67 (by rfl))
      have r155' : v155 = .bool true := r155
      clear r155
      subst r155'
      have e158 : ac.tmps.getD 158 undef = _ := getD_of t158
      have e159 : ac.tmps.getD 159 undef = _ := getD_of t159
      have e155 : ac.tmps.getD 155 undef = _ := getD_of t155
      refine wpOp_want rfl (wanted_of (by rfl) (by rfl) t155) (fun K' hK' => ?_)
      go_simp
      refine (Calls.mono (at_lenR No.out (same1_t Y1 d1 k1 _ _ o wc (qn1.below st.b) (ho.below st.b) (by rw [Vk1.out]; exact (Nat.le_trans (nl_limb (by decide)) (by decide))) (by have := Bo; omega) (by rw [Vk1.out, Vo.out]))) ?_)
      rintro e W ⟨rfl, kb⟩
      exact hK'.out _ _ ⟨_, rfl, rfl, kb⟩
    refine ⟨?_, ?_⟩
    · intro E ac wc st hdep
      obtain ⟨v155, t155, r155⟩ := st.new 67 155 (by rfl) (dep_of hdep 67 (by rfl))
      have r155' : v155 = .bool true := r155
      clear r155
      subst r155'
      obtain ⟨v160, t160, r160⟩ := st.new 72 160 (by rfl) (dep_of hdep 72 (by rfl))
      have r160' : v160 = .bool true := r160
      clear r160
      subst r160'
      have e155 : ac.tmps.getD 155 undef = _ := getD_of t155
      have e160 : ac.tmps.getD 160 undef = _ := getD_of t160
      refine wpOp_want rfl (by rfl) (fun K' hK' => ?_)
      go_simp
      exact hK'.out _ _ ⟨_, rfl, rfl, Below.refl _ _⟩
    refine ⟨?_, ?_⟩
    · intro E ac wc st hdep
      obtain ⟨v161, t161, r161⟩ := st.new 73 161 (by rfl) (dep_of hdep 73 (by rfl))
      have r161' : v161 = .bool true := r161
      clear r161
      subst r161'
      have e161 : ac.tmps.getD 161 undef = _ := getD_of t161
      refine wpOp_want rfl (by rfl) (fun K' hK' => ?_)
      go_simp
      exact hK'.out _ _ ⟨_, rfl, rfl, Below.refl _ _⟩
    refine ⟨?_, ?_⟩
    · intro E ac wc st hdep
      have t10 : ac.tmps[10]? = some (.slice (some qd) 3 cqs) := (st.old 10 (by kernel_rfl)).trans (by rfl)
      obtain ⟨v162, t162, r162⟩ := st.new 74 162 (by rfl) (dep_of hdep 74 (by rfl))
      have r162' : v162 = .bool true := r162
      clear r162
      subst r162'
      have e10 : ac.tmps.getD 10 undef = _ := getD_of t10
      have e162 : ac.tmps.getD 162 undef = _ := getD_of t162
      refine wpOp_want rfl (wanted_of (by rfl) (by rfl) t162) (fun K' hK' => ?_)
      go_simp
      exact hK'.out _ _ ⟨_, rfl, rfl, Below.refl _ _⟩
    refine ⟨?_, ?_⟩
    · intro E ac wc st hdep
      obtain ⟨v163, t163, r163⟩ := st.new 75 163 (by rfl) (dep_of hdep 75 (by rfl))
      have r163' : v163 = .slice (some qd) 3 cqs := r163
      clear r163
      subst r163'
      obtain ⟨v162, t162, r162⟩ := st.new 74 162 (by rfl) (dep_of hdep 74 (by rfl))
      have r162' : v162 = .bool true := r162
      clear r162
      subst r162'
      have e163 : ac.tmps.getD 163 undef = _ := getD_of t163
      have e162 : ac.tmps.getD 162 undef = _ := getD_of t162
      refine wpOp_want rfl (wanted_of (by rfl) (by rfl) t162) (fun K' hK' => ?_)
      go_simp
      exact hK'.out _ _ ⟨_, rfl, rfl, Below.refl _ _⟩
    refine ⟨?_, ?_⟩
    · intro E ac wc st hdep
      obtain ⟨v164, t164, r164⟩ := st.new 76 164 (by rfl) (dep_of hdep 76 (by rfl))
      have r164' : v164 = .pointer (some ⟨qd.block, qd.off + 2, none⟩) := r164
      clear r164
      subst r164'
      obtain ⟨v162, t162, r162⟩ := st.new 74 162 (by rfl) (dep_of hdep 74 (by rfl))
      have r162' : v162 = .bool true := r162
      clear r162
      subst r162'
      have qq := cbl st.b qc2'
      have e164 : ac.tmps.getD 164 undef = _ := getD_of t164
      have e162 : ac.tmps.getD 162 undef = _ := getD_of t162
      refine wpOp_want rfl (wanted_of (by rfl) (by rfl) t162) (fun K' hK' => ?_)
      go_simp
      exact hK'.out _ _ ⟨_, rfl, rfl, Below.refl _ _⟩
    refine ⟨?_, ?_⟩
    · intro E ac wc st hdep
      obtain ⟨v162, t162, r162⟩ := st.new 74 162 (by rfl) (dep_of hdep 74 (by rfl))
      have r162' : v162 = .bool true := r162
      clear r162
      subst r162'
      have e162 : ac.tmps.getD 162 undef = _ := getD_of t162
      refine wpOp_want rfl (wanted_of (by rfl) (by rfl) t162) (fun K' hK' => ?_)
      go_simp
      exact hK'.out _ _ ⟨_, rfl, ⟨_, _, rfl, by rw [Vn2.out]; exact nlit (l := [2]) _ _ _ (heap_alloc_new wc _) rfl (by decide) (by decide) (by decide), by rw [Vn2.out]; exact nl_lit (l := [2]) (by decide) (by decide)⟩, (Below.refl _ _).alloc (Nat.le_refl _) _⟩
    refine ⟨?_, ?_⟩
    · intro E ac wc st hdep
      obtain ⟨v165, t165, r165⟩ := st.new 77 165 (by rfl) (dep_of hdep 77 (by rfl))
      have r165' : v165 = .slice Y2 (nl k2) d2 := r165
      clear r165
      subst r165'
      obtain ⟨v166, t166, r166⟩ := st.new 78 166 (by rfl) (dep_of hdep 78 (by rfl))
      obtain ⟨X166, c166, rfl, h166, n166⟩ := r166
      replace n166 := Lib.hid n166
      obtain ⟨v162, t162, r162⟩ := st.new 74 162 (by rfl) (dep_of hdep 74 (by rfl))
      have r162' : v162 = .bool true := r162
      clear r162
      subst r162'
      have e165 : ac.tmps.getD 165 undef = _ := getD_of t165
      have e166 : ac.tmps.getD 166 undef = _ := getD_of t166
      have e162 : ac.tmps.getD 162 undef = _ := getD_of t162
      refine wpOp_want rfl (wanted_of (by rfl) (by rfl) t162) (fun K' hK' => ?_)
      go_simp
      refine (Calls.mono (at_lenR n166.out (same1_t Y2 d2 k2 X166 c166 n2 wc (qn2.below st.b) h166 (by rw [Vk2.out]; exact (Nat.le_trans (nl_limb (by decide)) (by decide))) (by have := Bn2; omega) (by rw [Vk2.out, Vn2.out]))) ?_)
      rintro e W ⟨rfl, kb⟩
      exact hK'.out _ _ ⟨_, rfl, rfl, kb⟩
    refine ⟨?_, ?_⟩
    · intro E ac wc st hdep
      obtain ⟨v162, t162, r162⟩ := st.new 74 162 (by rfl) (dep_of hdep 74 (by rfl))
      have r162' : v162 = .bool true := r162
      clear r162
      subst r162'
      obtain ⟨v167, t167, r167⟩ := st.new 79 167 (by rfl) (dep_of hdep 79 (by rfl))
      have r167' : v167 = .bool true := r167
      clear r167
      subst r167'
      have e162 : ac.tmps.getD 162 undef = _ := getD_of t162
      have e167 : ac.tmps.getD 167 undef = _ := getD_of t167
      refine wpOp_want rfl (by rfl) (fun K' hK' => ?_)
      go_simp
      exact hK'.out _ _ ⟨_, rfl, rfl, Below.refl _ _⟩
    refine ⟨?_, ?_⟩
    · intro E ac wc st hdep
      obtain ⟨v168, t168, r168⟩ := st.new 80 168 (by rfl) (dep_of hdep 80 (by rfl))
      have r168' : v168 = .bool true := r168
      clear r168
      subst r168'
      have e168 : ac.tmps.getD 168 undef = _ := getD_of t168
      refine wpOp_want rfl (by rfl) (fun K' hK' => ?_)
      go_simp
      exact hK'.out _ _ ⟨_, rfl, rfl, Below.refl _ _⟩
    refine ⟨?_, ?_⟩
    · intro E ac wc st hdep
      have t1 : ac.tmps[1]? = some (.slice (some ⟨w.heap.size, 0, none⟩) 1 1) := (st.old 1 (by kernel_rfl)).trans (by rfl)
      obtain ⟨v169, t169, r169⟩ := st.new 81 169 (by rfl) (dep_of hdep 81 (by rfl))
      have r169' : v169 = .bool true := r169
      clear r169
      subst r169'
      have e1 : ac.tmps.getD 1 undef = _ := getD_of t1
      have e169 : ac.tmps.getD 169 undef = _ := getD_of t169
      refine wpOp_want rfl (wanted_of (by rfl) (by rfl) t169) (fun K' hK' => ?_)
      go_simp
      exact hK'.out _ _ ⟨_, rfl, rfl, Below.refl _ _⟩
    refine ⟨?_, ?_⟩
    · intro E ac wc st hdep
      obtain ⟨v170, t170, r170⟩ := st.new 82 170 (by rfl) (dep_of hdep 82 (by rfl))
      have r170' : v170 = .slice (some ⟨w.heap.size, 0, none⟩) 1 1 := r170
      clear r170
      subst r170'
      obtain ⟨v169, t169, r169⟩ := st.new 81 169 (by rfl) (dep_of hdep 81 (by rfl))
      have r169' : v169 = .bool true := r169
      clear r169
      subst r169'
      have e170 : ac.tmps.getD 170 undef = _ := getD_of t170
      have e169 : ac.tmps.getD 169 undef = _ := getD_of t169
      refine wpOp_want rfl (wanted_of (by rfl) (by rfl) t169) (fun K' hK' => ?_)
      go_simp
      refine (Calls.mono (R := RetQs wc (quo a 0) (0)) (eqQ (by rw [Va.out]; exact en2) (at_len2 Na.out Nnil.out (quots_c _ _ a _ _ 0 wc (ha.below st.b) (hnil.below st.b) (by have := Ba; omega) (by have := Bnil; omega)))) ?_)
      rintro e W ⟨X, c, rfl, hX, _, kb⟩
      exact hK'.out _ _ ⟨_, rfl, ⟨X, c, rfl, hX⟩, kb⟩
    refine ⟨?_, ?_⟩
    · intro E ac wc st hdep
      obtain ⟨v171, t171, r171⟩ := st.new 83 171 (by rfl) (dep_of hdep 83 (by rfl))
      obtain ⟨X171, c171, rfl, h171⟩ := r171
      obtain ⟨v169, t169, r169⟩ := st.new 81 169 (by rfl) (dep_of hdep 81 (by rfl))
      have r169' : v169 = .bool true := r169
      clear r169
      subst r169'
      have e171 : ac.tmps.getD 171 undef = _ := getD_of t171
      have e169 : ac.tmps.getD 169 undef = _ := getD_of t169
      refine wpOp_want rfl (wanted_of (by rfl) (by rfl) t169) (fun K' hK' => ?_)
      go_simp
      exact hK'.out _ _ ⟨_, rfl, rfl, Below.refl _ _⟩
    refine ⟨?_, ?_⟩
    · intro E ac wc st hdep
      obtain ⟨v172, t172, r172⟩ := st.new 84 172 (by rfl) (dep_of hdep 84 (by rfl))
      have r172' : v172 = .int .i64 0 := r172
      clear r172
      subst r172'
      obtain ⟨v169, t169, r169⟩ := st.new 81 169 (by rfl) (dep_of hdep 81 (by rfl))
      have r169' : v169 = .bool true := r169
      clear r169
      subst r169'
      have e172 : ac.tmps.getD 172 undef = _ := getD_of t172
      have e169 : ac.tmps.getD 169 undef = _ := getD_of t169
      refine wpOp_want rfl (wanted_of (by rfl) (by rfl) t169) (fun K' hK' => ?_)
      go_simp
      exact hK'.out _ _ ⟨_, rfl, rfl, Below.refl _ _⟩
    refine ⟨?_, ?_⟩
    · intro E ac wc st hdep
      obtain ⟨v169, t169, r169⟩ := st.new 81 169 (by rfl) (dep_of hdep 81 (by rfl))
      have r169' : v169 = .bool true := r169
      clear r169
      subst r169'
      obtain ⟨v173, t173, r173⟩ := st.new 85 173 (by rfl) (dep_of hdep 85 (by rfl))
      have r173' : v173 = .bool true := r173
      clear r173
      subst r173'
      have e169 : ac.tmps.getD 169 undef = _ := getD_of t169
      have e173 : ac.tmps.getD 173 undef = _ := getD_of t173
      refine wpOp_want rfl (by rfl) (fun K' hK' => ?_)
      go_simp
      exact hK'.out _ _ ⟨_, rfl, rfl, Below.refl _ _⟩
    refine ⟨?_, ?_⟩
    · intro E ac wc st hdep
      obtain ⟨v174, t174, r174⟩ := st.new 86 174 (by rfl) (dep_of hdep 86 (by rfl))
      have r174' : v174 = .bool true := r174
      clear r174
      subst r174'
      have e174 : ac.tmps.getD 174 undef = _ := getD_of t174
      refine wpOp_want rfl (by rfl) (fun K' hK' => ?_)
      go_simp
      exact hK'.out _ _ ⟨_, rfl, rfl, Below.refl _ _⟩
    refine ⟨?_, ?_⟩
    · intro E ac wc st hdep
      have t11 : ac.tmps[11]? = some (.slice Xi (nl i) ci) := (st.old 11 (by kernel_rfl)).trans (by rfl)
      obtain ⟨v175, t175, r175⟩ := st.new 87 175 (by rfl) (dep_of hdep 87 (by rfl))
      have r175' : v175 = .bool true := r175
      clear r175
      subst r175'
      have e11 : ac.tmps.getD 11 undef = _ := getD_of t11
      have e175 : ac.tmps.getD 175 undef = _ := getD_of t175
      refine wpOp_want rfl (wanted_of (by rfl) (by rfl) t175) (fun K' hK' => ?_)
      go_simp
      exact hK'.out _ _ ⟨_, rfl, rfl, Below.refl _ _⟩
    refine ⟨?_, ?_⟩
    · intro E ac wc st hdep
      obtain ⟨v175, t175, r175⟩ := st.new 87 175 (by rfl) (dep_of hdep 87 (by rfl))
      have r175' : v175 = .bool true := r175
      clear r175
      subst r175'
      have e175 : ac.tmps.getD 175 undef = _ := getD_of t175
      refine wpOp_want rfl (wanted_of (by rfl) (by rfl) t175) (fun K' hK' => ?_)
      go_simp
      exact hK'.out _ _ ⟨_, rfl, ⟨_, _, rfl, by rw [Vn5.out]; exact nlit (l := [5]) _ _ _ (heap_alloc_new wc _) rfl (by decide) (by decide) (by decide), by rw [Vn5.out]; exact nl_lit (l := [5]) (by decide) (by decide)⟩, (Below.refl _ _).alloc (Nat.le_refl _) _⟩
    refine ⟨?_, ?_⟩
    · intro E ac wc st hdep
      obtain ⟨v176, t176, r176⟩ := st.new 88 176 (by rfl) (dep_of hdep 88 (by rfl))
      have r176' : v176 = .slice Xi (nl i) ci := r176
      clear r176
      subst r176'
      obtain ⟨v177, t177, r177⟩ := st.new 89 177 (by rfl) (dep_of hdep 89 (by rfl))
      obtain ⟨X177, c177, rfl, h177, n177⟩ := r177
      replace n177 := Lib.hid n177
      obtain ⟨v175, t175, r175⟩ := st.new 87 175 (by rfl) (dep_of hdep 87 (by rfl))
      have r175' : v175 = .bool true := r175
      clear r175
      subst r175'
      have e176 : ac.tmps.getD 176 undef = _ := getD_of t176
      have e177 : ac.tmps.getD 177 undef = _ := getD_of t177
      have e175 : ac.tmps.getD 175 undef = _ := getD_of t175
      refine wpOp_want rfl (wanted_of (by rfl) (by rfl) t175) (fun K' hK' => ?_)
      go_simp
      refine (Calls.mono (at_lenR n177.out (same1_t Xi ci i X177 c177 n5 wc (hi.below st.b) h177 (by rw [Xi5.out, ← Vn5.out]; have := Bn5; omega) (by have := Bn5; omega) (by rw [Xi5.out, Vn5.out]))) ?_)
      rintro e W ⟨rfl, kb⟩
      exact hK'.out _ _ ⟨_, rfl, rfl, kb⟩
    refine ⟨?_, ?_⟩
    · intro E ac wc st hdep
      obtain ⟨v175, t175, r175⟩ := st.new 87 175 (by rfl) (dep_of hdep 87 (by rfl))
      have r175' : v175 = .bool true := r175
      clear r175
      subst r175'
      obtain ⟨v178, t178, r178⟩ := st.new 90 178 (by rfl) (dep_of hdep 90 (by rfl))
      have r178' : v178 = .bool true := r178
      clear r178
      subst r178'
      have e175 : ac.tmps.getD 175 undef = _ := getD_of t175
      have e178 : ac.tmps.getD 178 undef = _ := getD_of t178
      refine wpOp_want rfl (by rfl) (fun K' hK' => ?_)
      go_simp
      exact hK'.out _ _ ⟨_, rfl, rfl, Below.refl _ _⟩
    refine ⟨?_, ?_⟩
    · intro E ac wc st hdep
      obtain ⟨v179, t179, r179⟩ := st.new 91 179 (by rfl) (dep_of hdep 91 (by rfl))
      have r179' : v179 = .bool true := r179
      clear r179
      subst r179'
      have e179 : ac.tmps.getD 179 undef = _ := getD_of t179
      refine wpOp_want rfl (by rfl) (fun K' hK' => ?_)
      go_simp
      exact hK'.out _ _ ⟨_, rfl, rfl, Below.refl _ _⟩
    refine ⟨?_, ?_⟩
    · intro E ac wc st hdep
      have t12 : ac.tmps[12]? = some (.int .i64 0) := (st.old 12 (by kernel_rfl)).trans (by rfl)
      obtain ⟨v180, t180, r180⟩ := st.new 92 180 (by rfl) (dep_of hdep 92 (by rfl))
      have r180' : v180 = .bool true := r180
      clear r180
      subst r180'
      have e12 : ac.tmps.getD 12 undef = _ := getD_of t12
      have e180 : ac.tmps.getD 180 undef = _ := getD_of t180
      refine wpOp_want rfl (wanted_of (by rfl) (by rfl) t180) (fun K' hK' => ?_)
      go_simp
      exact hK'.out _ _ ⟨_, rfl, rfl, Below.refl _ _⟩
    refine ⟨?_, ?_⟩
    · intro E ac wc st hdep
      obtain ⟨v181, t181, r181⟩ := st.new 93 181 (by rfl) (dep_of hdep 93 (by rfl))
      have r181' : v181 = .int .i64 0 := r181
      clear r181
      subst r181'
      obtain ⟨v180, t180, r180⟩ := st.new 92 180 (by rfl) (dep_of hdep 92 (by rfl))
      have r180' : v180 = .bool true := r180
      clear r180
      subst r180'
      have e181 : ac.tmps.getD 181 undef = _ := getD_of t181
      have e180 : ac.tmps.getD 180 undef = _ := getD_of t180
      refine wpOp_want rfl (wanted_of (by rfl) (by rfl) t180) (fun K' hK' => ?_)
      go_simp
      exact hK'.out _ _ ⟨_, rfl, rfl, Below.refl _ _⟩
    refine ⟨?_, ?_⟩
    · intro E ac wc st hdep
      obtain ⟨v180, t180, r180⟩ := st.new 92 180 (by rfl) (dep_of hdep 92 (by rfl))
      have r180' : v180 = .bool true := r180
      clear r180
      subst r180'
      obtain ⟨v182, t182, r182⟩ := st.new 94 182 (by rfl) (dep_of hdep 94 (by rfl))
      have r182' : v182 = .bool true := r182
      clear r182
      subst r182'
      have e180 : ac.tmps.getD 180 undef = _ := getD_of t180
      have e182 : ac.tmps.getD 182 undef = _ := getD_of t182
      refine wpOp_want rfl (by rfl) (fun K' hK' => ?_)
      go_simp
      exact hK'.out _ _ ⟨_, rfl, rfl, Below.refl _ _⟩
    refine ⟨?_, ?_⟩
    · intro E ac wc st hdep
      obtain ⟨v183, t183, r183⟩ := st.new 95 183 (by rfl) (dep_of hdep 95 (by rfl))
      have r183' : v183 = .bool true := r183
      clear r183
      subst r183'
      have e183 : ac.tmps.getD 183 undef = _ := getD_of t183
      refine wpOp_want rfl (by rfl) (fun K' hK' => ?_)
      go_simp
      exact hK'.out _ _ ⟨_, rfl, rfl, Below.refl _ _⟩
    refine ⟨?_, ?_⟩
    · intro E ac wc st hdep
      have t14 : ac.tmps[14]? = some (.int .i64 4) := (st.old 14 (by kernel_rfl)).trans (by rfl)
      obtain ⟨v184, t184, r184⟩ := st.new 96 184 (by rfl) (dep_of hdep 96 (by rfl))
      have r184' : v184 = .bool true := r184
      clear r184
      subst r184'
      have e14 : ac.tmps.getD 14 undef = _ := getD_of t14
      have e184 : ac.tmps.getD 184 undef = _ := getD_of t184
      refine wpOp_want rfl (wanted_of (by rfl) (by rfl) t184) (fun K' hK' => ?_)
      go_simp
      exact hK'.out _ _ ⟨_, rfl, rfl, Below.refl _ _⟩
    refine ⟨?_, ?_⟩
    · intro E ac wc st hdep
      obtain ⟨v185, t185, r185⟩ := st.new 97 185 (by rfl) (dep_of hdep 97 (by rfl))
      have r185' : v185 = .int .i64 4 := r185
      clear r185
      subst r185'
      obtain ⟨v184, t184, r184⟩ := st.new 96 184 (by rfl) (dep_of hdep 96 (by rfl))
      have r184' : v184 = .bool true := r184
      clear r184
      subst r184'
      have e185 : ac.tmps.getD 185 undef = _ := getD_of t185
      have e184 : ac.tmps.getD 184 undef = _ := getD_of t184
      refine wpOp_want rfl (wanted_of (by rfl) (by rfl) t184) (fun K' hK' => ?_)
      go_simp
      exact hK'.out _ _ ⟨_, rfl, rfl, Below.refl _ _⟩
    refine ⟨?_, ?_⟩
    · intro E ac wc st hdep
      obtain ⟨v184, t184, r184⟩ := st.new 96 184 (by rfl) (dep_of hdep 96 (by rfl))
      have r184' : v184 = .bool true := r184
      clear r184
      subst r184'
      obtain ⟨v186, t186, r186⟩ := st.new 98 186 (by rfl) (dep_of hdep 98 (by rfl))
      have r186' : v186 = .bool true := r186
      clear r186
      subst r186'
      have e184 : ac.tmps.getD 184 undef = _ := getD_of t184
      have e186 : ac.tmps.getD 186 undef = _ := getD_of t186
      refine wpOp_want rfl (by rfl) (fun K' hK' => ?_)
      go_simp
      exact hK'.out _ _ ⟨_, rfl, rfl, Below.refl _ _⟩
    refine ⟨?_, ?_⟩
    · intro E ac wc st hdep
      obtain ⟨v187, t187, r187⟩ := st.new 99 187 (by rfl) (dep_of hdep 99 (by rfl))
      have r187' : v187 = .bool true := r187
      clear r187
      subst r187'
      have e187 : ac.tmps.getD 187 undef = _ := getD_of t187
      refine wpOp_want rfl (by rfl) (fun K' hK' => ?_)
      go_simp
      exact hK'.out _ _ ⟨_, rfl, rfl, Below.refl _ _⟩
    refine ⟨?_, ?_⟩
    · intro E ac wc st hdep
      have t16 : ac.tmps[16]? = some (.int .i64 4) := (st.old 16 (by kernel_rfl)).trans (by rfl)
      obtain ⟨v188, t188, r188⟩ := st.new 100 188 (by rfl) (dep_of hdep 100 (by rfl))
      have r188' : v188 = .bool true := r188
      clear r188
      subst r188'
      have e16 : ac.tmps.getD 16 undef = _ := getD_of t16
      have e188 : ac.tmps.getD 188 undef = _ := getD_of t188
      refine wpOp_want rfl (wanted_of (by rfl) (by rfl) t188) (fun K' hK' => ?_)
      go_simp
      exact hK'.out _ _ ⟨_, rfl, rfl, Below.refl _ _⟩
    refine ⟨?_, ?_⟩
    · intro E ac wc st hdep
      obtain ⟨v189, t189, r189⟩ := st.new 101 189 (by rfl) (dep_of hdep 101 (by rfl))
      have r189' : v189 = .int .i64 4 := r189
      clear r189
      subst r189'
      obtain ⟨v188, t188, r188⟩ := st.new 100 188 (by rfl) (dep_of hdep 100 (by rfl))
      have r188' : v188 = .bool true := r188
      clear r188
      subst r188'
      have e189 : ac.tmps.getD 189 undef = _ := getD_of t189
      have e188 : ac.tmps.getD 188 undef = _ := getD_of t188
      refine wpOp_want rfl (wanted_of (by rfl) (by rfl) t188) (fun K' hK' => ?_)
      go_simp
      exact hK'.out _ _ ⟨_, rfl, rfl, Below.refl _ _⟩
    refine ⟨?_, ?_⟩
    · intro E ac wc st hdep
      obtain ⟨v188, t188, r188⟩ := st.new 100 188 (by rfl) (dep_of hdep 100 (by rfl))
      have r188' : v188 = .bool true := r188
      clear r188
      subst r188'
      obtain ⟨v190, t190, r190⟩ := st.new 102 190 (by rfl) (dep_of hdep 102 (by rfl))
      have r190' : v190 = .bool true := r190
      clear r190
      subst r190'
      have e188 : ac.tmps.getD 188 undef = _ := getD_of t188
      have e190 : ac.tmps.getD 190 undef = _ := getD_of t190
      refine wpOp_want rfl (by rfl) (fun K' hK' => ?_)
      go_simp
      exact hK'.out _ _ ⟨_, rfl, rfl, Below.refl _ _⟩
    refine ⟨?_, ?_⟩
    · intro E ac wc st hdep
      obtain ⟨v191, t191, r191⟩ := st.new 103 191 (by rfl) (dep_of hdep 103 (by rfl))
      have r191' : v191 = .bool true := r191
      clear r191
      subst r191'
      have e191 : ac.tmps.getD 191 undef = _ := getD_of t191
      refine wpOp_want rfl (by rfl) (fun K' hK' => ?_)
      go_simp
      exact hK'.out _ _ ⟨_, rfl, rfl, Below.refl _ _⟩
    refine ⟨?_, ?_⟩
    · intro E ac wc st hdep
      have t17 : ac.tmps[17]? = some (.slice Xj (nl j) cj) := (st.old 17 (by kernel_rfl)).trans (by rfl)
      obtain ⟨v192, t192, r192⟩ := st.new 104 192 (by rfl) (dep_of hdep 104 (by rfl))
      have r192' : v192 = .bool true := r192
      clear r192
      subst r192'
      have e17 : ac.tmps.getD 17 undef = _ := getD_of t17
      have e192 : ac.tmps.getD 192 undef = _ := getD_of t192
      refine wpOp_want rfl (wanted_of (by rfl) (by rfl) t192) (fun K' hK' => ?_)
      go_simp
      exact hK'.out _ _ ⟨_, rfl, rfl, Below.refl _ _⟩
    refine ⟨?_, ?_⟩
    · intro E ac wc st hdep
      obtain ⟨v193, t193, r193⟩ := st.new 105 193 (by rfl) (dep_of hdep 105 (by rfl))
      have r193' : v193 = .slice Xj (nl j) cj := r193
      clear r193
      subst r193'
      obtain ⟨v192, t192, r192⟩ := st.new 104 192 (by rfl) (dep_of hdep 104 (by rfl))
      have r192' : v192 = .bool true := r192
      clear r192
      subst r192'
      have zz := Xj0.out
      have e193 : ac.tmps.getD 193 undef = _ := getD_of t193
      have e192 : ac.tmps.getD 192 undef = _ := getD_of t192
      refine wpOp_want rfl (wanted_of (by rfl) (by rfl) t192) (fun K' hK' => ?_)
      go_simp
      exact hK'.out _ _ ⟨_, rfl, rfl, Below.refl _ _⟩
    refine ⟨?_, ?_⟩
    · intro E ac wc st hdep
      obtain ⟨v194, t194, r194⟩ := st.new 106 194 (by rfl) (dep_of hdep 106 (by rfl))
      have r194' : v194 = .int .i64 0 := r194
      clear r194
      subst r194'
      obtain ⟨v192, t192, r192⟩ := st.new 104 192 (by rfl) (dep_of hdep 104 (by rfl))
      have r192' : v192 = .bool true := r192
      clear r192
      subst r192'
      have e194 : ac.tmps.getD 194 undef = _ := getD_of t194
      have e192 : ac.tmps.getD 192 undef = _ := getD_of t192
      refine wpOp_want rfl (wanted_of (by rfl) (by rfl) t192) (fun K' hK' => ?_)
      go_simp
      exact hK'.out _ _ ⟨_, rfl, rfl, Below.refl _ _⟩
    refine ⟨?_, ?_⟩
    · intro E ac wc st hdep
      obtain ⟨v192, t192, r192⟩ := st.new 104 192 (by rfl) (dep_of hdep 104 (by rfl))
      have r192' : v192 = .bool true := r192
      clear r192
      subst r192'
      obtain ⟨v195, t195, r195⟩ := st.new 107 195 (by rfl) (dep_of hdep 107 (by rfl))
      have r195' : v195 = .bool true := r195
      clear r195
      subst r195'
      have e192 : ac.tmps.getD 192 undef = _ := getD_of t192
      have e195 : ac.tmps.getD 195 undef = _ := getD_of t195
      refine wpOp_want rfl (by rfl) (fun K' hK' => ?_)
      go_simp
      exact hK'.out _ _ ⟨_, rfl, rfl, Below.refl _ _⟩
    refine ⟨?_, ?_⟩
    · intro E ac wc st hdep
      obtain ⟨v196, t196, r196⟩ := st.new 108 196 (by rfl) (dep_of hdep 108 (by rfl))
      have r196' : v196 = .bool true := r196
      clear r196
      subst r196'
      have e196 : ac.tmps.getD 196 undef = _ := getD_of t196
      refine wpOp_want rfl (by rfl) (fun K' hK' => ?_)
      go_simp
      exact hK'.out _ _ ⟨_, rfl, rfl, Below.refl _ _⟩
    refine ⟨?_, ?_⟩
    · intro E ac wc st hdep
      have t18 : ac.tmps[18]? = some (.int .i64 0) := (st.old 18 (by kernel_rfl)).trans (by rfl)
      obtain ⟨v197, t197, r197⟩ := st.new 109 197 (by rfl) (dep_of hdep 109 (by rfl))
      have r197' : v197 = .bool true := r197
      clear r197
      subst r197'
      have e18 : ac.tmps.getD 18 undef = _ := getD_of t18
      have e197 : ac.tmps.getD 197 undef = _ := getD_of t197
      refine wpOp_want rfl (wanted_of (by rfl) (by rfl) t197) (fun K' hK' => ?_)
      go_simp
      exact hK'.out _ _ ⟨_, rfl, rfl, Below.refl _ _⟩
    refine ⟨?_, ?_⟩
    · intro E ac wc st hdep
      obtain ⟨v198, t198, r198⟩ := st.new 110 198 (by rfl) (dep_of hdep 110 (by rfl))
      have r198' : v198 = .int .i64 0 := r198
      clear r198
      subst r198'
      obtain ⟨v197, t197, r197⟩ := st.new 109 197 (by rfl) (dep_of hdep 109 (by rfl))
      have r197' : v197 = .bool true := r197
      clear r197
      subst r197'
      have e198 : ac.tmps.getD 198 undef = _ := getD_of t198
      have e197 : ac.tmps.getD 197 undef = _ := getD_of t197
      refine wpOp_want rfl (wanted_of (by rfl) (by rfl) t197) (fun K' hK' => ?_)
      go_simp
      exact hK'.out _ _ ⟨_, rfl, rfl, Below.refl _ _⟩
    refine ⟨?_, ?_⟩
    · intro E ac wc st hdep
      obtain ⟨v197, t197, r197⟩ := st.new 109 197 (by rfl) (dep_of hdep 109 (by rfl))
      have r197' : v197 = .bool true := r197
      clear r197
      subst r197'
      obtain ⟨v199, t199, r199⟩ := st.new 111 199 (by rfl) (dep_of hdep 111 (by rfl))
      have r199' : v199 = .bool true := r199
      clear r199
      subst r199'
      have e197 : ac.tmps.getD 197 undef = _ := getD_of t197
      have e199 : ac.tmps.getD 199 undef = _ := getD_of t199
      refine wpOp_want rfl (by rfl) (fun K' hK' => ?_)
      go_simp
      exact hK'.out _ _ ⟨_, rfl, rfl, Below.refl _ _⟩
    refine ⟨?_, ?_⟩
    · intro E ac wc st hdep
      obtain ⟨v200, t200, r200⟩ := st.new 112 200 (by rfl) (dep_of hdep 112 (by rfl))
      have r200' : v200 = .bool true := r200
      clear r200
      subst r200'
      have e200 : ac.tmps.getD 200 undef = _ := getD_of t200
      refine wpOp_want rfl (by rfl) (fun K' hK' => ?_)
      go_simp
      exact hK'.out _ _ ⟨_, rfl, rfl, Below.refl _ _⟩
    refine ⟨?_, ?_⟩
    · intro E ac wc st hdep
      have t19 : ac.tmps[19]? = some (.slice Xp (nl p) cp) := (st.old 19 (by kernel_rfl)).trans (by rfl)
      obtain ⟨v201, t201, r201⟩ := st.new 113 201 (by rfl) (dep_of hdep 113 (by rfl))
      have r201' : v201 = .bool true := r201
      clear r201
      subst r201'
      have e19 : ac.tmps.getD 19 undef = _ := getD_of t19
      have e201 : ac.tmps.getD 201 undef = _ := getD_of t201
      refine wpOp_want rfl (wanted_of (by rfl) (by rfl) t201) (fun K' hK' => ?_)
      go_simp
      exact hK'.out _ _ ⟨_, rfl, rfl, Below.refl _ _⟩
    refine ⟨?_, ?_⟩
    · intro E ac wc st hdep
      obtain ⟨v201, t201, r201⟩ := st.new 113 201 (by rfl) (dep_of hdep 113 (by rfl))
      have r201' : v201 = .bool true := r201
      clear r201
      subst r201'
      have e201 : ac.tmps.getD 201 undef = _ := getD_of t201
      refine wpOp_want rfl (wanted_of (by rfl) (by rfl) t201) (fun K' hK' => ?_)
      go_simp
      exact hK'.out _ _ ⟨_, rfl, ⟨_, _, rfl, by rw [Vn24.out]; exact nlit (l := [24]) _ _ _ (heap_alloc_new wc _) rfl (by decide) (by decide) (by decide), by rw [Vn24.out]; exact nl_lit (l := [24]) (by decide) (by decide)⟩, (Below.refl _ _).alloc (Nat.le_refl _) _⟩
    refine ⟨?_, ?_⟩
    · intro E ac wc st hdep
      obtain ⟨v202, t202, r202⟩ := st.new 114 202 (by rfl) (dep_of hdep 114 (by rfl))
      have r202' : v202 = .slice Xp (nl p) cp := r202
      clear r202
      subst r202'
      obtain ⟨v203, t203, r203⟩ := st.new 115 203 (by rfl) (dep_of hdep 115 (by rfl))
      obtain ⟨X203, c203, rfl, h203, n203⟩ := r203
      replace n203 := Lib.hid n203
      obtain ⟨v201, t201, r201⟩ := st.new 113 201 (by rfl) (dep_of hdep 113 (by rfl))
      have r201' : v201 = .bool true := r201
      clear r201
      subst r201'
      have e202 : ac.tmps.getD 202 undef = _ := getD_of t202
      have e203 : ac.tmps.getD 203 undef = _ := getD_of t203
      have e201 : ac.tmps.getD 201 undef = _ := getD_of t201
      refine wpOp_want rfl (wanted_of (by rfl) (by rfl) t201) (fun K' hK' => ?_)
      go_simp
      refine (Calls.mono (at_lenR n203.out (same1_t Xp cp p X203 c203 n24 wc (hp.below st.b) h203 (by rw [Xp24.out, ← Vn24.out]; have := Bn24; omega) (by have := Bn24; omega) (by rw [Xp24.out, Vn24.out]))) ?_)
      rintro e W ⟨rfl, kb⟩
      exact hK'.out _ _ ⟨_, rfl, rfl, kb⟩
    refine ⟨?_, ?_⟩
    · intro E ac wc st hdep
      obtain ⟨v201, t201, r201⟩ := st.new 113 201 (by rfl) (dep_of hdep 113 (by rfl))
      have r201' : v201 = .bool true := r201
      clear r201
      subst r201'
      obtain ⟨v204, t204, r204⟩ := st.new 116 204 (by rfl) (dep_of hdep 116 (by rfl))
      have r204' : v204 = .bool true := r204
      clear r204
      subst r204'
      have e201 : ac.tmps.getD 201 undef = _ := getD_of t201
      have e204 : ac.tmps.getD 204 undef = _ := getD_of t204
      refine wpOp_want rfl (by rfl) (fun K' hK' => ?_)
      go_simp
      exact hK'.out _ _ ⟨_, rfl, rfl, Below.refl _ _⟩
    refine ⟨?_, ?_⟩
    · intro E ac wc st hdep
      obtain ⟨v205, t205, r205⟩ := st.new 117 205 (by rfl) (dep_of hdep 117 (by rfl))
      have r205' : v205 = .bool true := r205
      clear r205
      subst r205'
      have e205 : ac.tmps.getD 205 undef = _ := getD_of t205
      refine wpOp_want rfl (by rfl) (fun K' hK' => ?_)
      go_simp
      exact hK'.out _ _ ⟨_, rfl, rfl, Below.refl _ _⟩
    refine ⟨?_, ?_⟩
    · intro E ac wc st hdep
      have t20 : ac.tmps[20]? = some (.int .i64 0) := (st.old 20 (by kernel_rfl)).trans (by rfl)
      obtain ⟨v206, t206, r206⟩ := st.new 118 206 (by rfl) (dep_of hdep 118 (by rfl))
      have r206' : v206 = .bool true := r206
      clear r206
      subst r206'
      have e20 : ac.tmps.getD 20 undef = _ := getD_of t20
      have e206 : ac.tmps.getD 206 undef = _ := getD_of t206
      refine wpOp_want rfl (wanted_of (by rfl) (by rfl) t206) (fun K' hK' => ?_)
      go_simp
      exact hK'.out _ _ ⟨_, rfl, rfl, Below.refl _ _⟩
    refine ⟨?_, ?_⟩
    · intro E ac wc st hdep
      obtain ⟨v207, t207, r207⟩ := st.new 119 207 (by rfl) (dep_of hdep 119 (by rfl))
      have r207' : v207 = .int .i64 0 := r207
      clear r207
      subst r207'
      obtain ⟨v206, t206, r206⟩ := st.new 118 206 (by rfl) (dep_of hdep 118 (by rfl))
      have r206' : v206 = .bool true := r206
      clear r206
      subst r206'
      have e207 : ac.tmps.getD 207 undef = _ := getD_of t207
      have e206 : ac.tmps.getD 206 undef = _ := getD_of t206
      refine wpOp_want rfl (wanted_of (by rfl) (by rfl) t206) (fun K' hK' => ?_)
      go_simp
      exact hK'.out _ _ ⟨_, rfl, rfl, Below.refl _ _⟩
    refine ⟨?_, ?_⟩
    · intro E ac wc st hdep
      obtain ⟨v206, t206, r206⟩ := st.new 118 206 (by rfl) (dep_of hdep 118 (by rfl))
      have r206' : v206 = .bool true := r206
      clear r206
      subst r206'
      obtain ⟨v208, t208, r208⟩ := st.new 120 208 (by rfl) (dep_of hdep 120 (by rfl))
      have r208' : v208 = .bool true := r208
      clear r208
      subst r208'
      have e206 : ac.tmps.getD 206 undef = _ := getD_of t206
      have e208 : ac.tmps.getD 208 undef = _ := getD_of t208
      refine wpOp_want rfl (by rfl) (fun K' hK' => ?_)
      go_simp
      exact hK'.out _ _ ⟨_, rfl, rfl, Below.refl _ _⟩
    refine ⟨?_, ?_⟩
    · intro E ac wc st hdep
      obtain ⟨v209, t209, r209⟩ := st.new 121 209 (by rfl) (dep_of hdep 121 (by rfl))
      have r209' : v209 = .bool true := r209
      clear r209
      subst r209'
      have e209 : ac.tmps.getD 209 undef = _ := getD_of t209
      refine wpOp_want rfl (by rfl) (fun K' hK' => ?_)
      go_simp
      exact hK'.out _ _ ⟨_, rfl, rfl, Below.refl _ _⟩
    refine ⟨?_, ?_⟩
    · intro E ac wc st hdep
      have t21 : ac.tmps[21]? = some (.slice Xo1 (nl o1) co1) := (st.old 21 (by kernel_rfl)).trans (by rfl)
      obtain ⟨v210, t210, r210⟩ := st.new 122 210 (by rfl) (dep_of hdep 122 (by rfl))
      have r210' : v210 = .bool true := r210
      clear r210
      subst r210'
      have e21 : ac.tmps.getD 21 undef = _ := getD_of t21
      have e210 : ac.tmps.getD 210 undef = _ := getD_of t210
      refine wpOp_want rfl (wanted_of (by rfl) (by rfl) t210) (fun K' hK' => ?_)
      go_simp
      exact hK'.out _ _ ⟨_, rfl, rfl, Below.refl _ _⟩
    refine ⟨?_, ?_⟩
    · intro E ac wc st hdep
      have t3 : ac.tmps[3]? = some (.slice (some ⟨w.heap.size + 1 + 1, 0, none⟩) 1 1) := (st.old 3 (by kernel_rfl)).trans (by rfl)
      obtain ⟨v210, t210, r210⟩ := st.new 122 210 (by rfl) (dep_of hdep 122 (by rfl))
      have r210' : v210 = .bool true := r210
      clear r210
      subst r210'
      have e3 : ac.tmps.getD 3 undef = _ := getD_of t3
      have e210 : ac.tmps.getD 210 undef = _ := getD_of t210
      refine wpOp_want rfl (wanted_of (by rfl) (by rfl) t210) (fun K' hK' => ?_)
      go_simp
      exact hK'.out _ _ ⟨_, rfl, rfl, Below.refl _ _⟩
    refine ⟨?_, ?_⟩
    · intro E ac wc st hdep
      obtain ⟨v211, t211, r211⟩ := st.new 123 211 (by rfl) (dep_of hdep 123 (by rfl))
      have r211' : v211 = .slice Xo1 (nl o1) co1 := r211
      clear r211
      subst r211'
      obtain ⟨v212, t212, r212⟩ := st.new 124 212 (by rfl) (dep_of hdep 124 (by rfl))
      have r212' : v212 = .slice (some ⟨w.heap.size + 1 + 1, 0, none⟩) 1 1 := r212
      clear r212
      subst r212'
      obtain ⟨v210, t210, r210⟩ := st.new 122 210 (by rfl) (dep_of hdep 122 (by rfl))
      have r210' : v210 = .bool true := r210
      clear r210
      subst r210'
      have e211 : ac.tmps.getD 211 undef = _ := getD_of t211
      have e212 : ac.tmps.getD 212 undef = _ := getD_of t212
      have e210 : ac.tmps.getD 210 undef = _ := getD_of t210
      refine wpOp_want rfl (wanted_of (by rfl) (by rfl) t210) (fun K' hK' => ?_)
      go_simp
      refine (Calls.mono (at_lenR No.out (same1_t Xo1 co1 o1 _ _ o wc (ho1.below st.b) (ho.below st.b) (by rw [Xo11.out]; have := Bo; omega) (by have := Bo; omega) (by exact Xo11.out))) ?_)
      rintro e W ⟨rfl, kb⟩
      exact hK'.out _ _ ⟨_, rfl, rfl, kb⟩
    refine ⟨?_, ?_⟩
    · intro E ac wc st hdep
      obtain ⟨v210, t210, r210⟩ := st.new 122 210 (by rfl) (dep_of hdep 122 (by rfl))
      have r210' : v210 = .bool true := r210
      clear r210
      subst r210'
      obtain ⟨v213, t213, r213⟩ := st.new 125 213 (by rfl) (dep_of hdep 125 (by rfl))
      have r213' : v213 = .bool true := r213
      clear r213
      subst r213'
      have e210 : ac.tmps.getD 210 undef = _ := getD_of t210
      have e213 : ac.tmps.getD 213 undef = _ := getD_of t213
      refine wpOp_want rfl (by rfl) (fun K' hK' => ?_)
      go_simp
      exact hK'.out _ _ ⟨_, rfl, rfl, Below.refl _ _⟩
    refine ⟨?_, ?_⟩
    · intro E ac wc st hdep
      obtain ⟨v214, t214, r214⟩ := st.new 126 214 (by rfl) (dep_of hdep 126 (by rfl))
      have r214' : v214 = .bool true := r214
      clear r214
      subst r214'
      have e214 : ac.tmps.getD 214 undef = _ := getD_of t214
      refine wpOp_want rfl (by rfl) (fun K' hK' => ?_)
      go_simp
      exact hK'.out _ _ ⟨_, rfl, rfl, Below.refl _ _⟩
    refine ⟨?_, ?_⟩
    · intro E ac wc st hdep
      have t22 : ac.tmps[22]? = some (.int .i64 0) := (st.old 22 (by kernel_rfl)).trans (by rfl)
      obtain ⟨v215, t215, r215⟩ := st.new 127 215 (by rfl) (dep_of hdep 127 (by rfl))
      have r215' : v215 = .bool true := r215
      clear r215
      subst r215'
      have e22 : ac.tmps.getD 22 undef = _ := getD_of t22
      have e215 : ac.tmps.getD 215 undef = _ := getD_of t215
      refine wpOp_want rfl (wanted_of (by rfl) (by rfl) t215) (fun K' hK' => ?_)
      go_simp
      exact hK'.out _ _ ⟨_, rfl, rfl, Below.refl _ _⟩
    refine ⟨?_, ?_⟩
    · intro E ac wc st hdep
      obtain ⟨v216, t216, r216⟩ := st.new 128 216 (by rfl) (dep_of hdep 128 (by rfl))
      have r216' : v216 = .int .i64 0 := r216
      clear r216
      subst r216'
      obtain ⟨v215, t215, r215⟩ := st.new 127 215 (by rfl) (dep_of hdep 127 (by rfl))
      have r215' : v215 = .bool true := r215
      clear r215
      subst r215'
      have e216 : ac.tmps.getD 216 undef = _ := getD_of t216
      have e215 : ac.tmps.getD 215 undef = _ := getD_of t215
      refine wpOp_want rfl (wanted_of (by rfl) (by rfl) t215) (fun K' hK' => ?_)
      go_simp
      exact hK'.out _ _ ⟨_, rfl, rfl, Below.refl _ _⟩
    refine ⟨?_, ?_⟩
    · intro E ac wc st hdep
      obtain ⟨v215, t215, r215⟩ := st.new 127 215 (by rfl) (dep_of hdep 127 (by rfl))
      have r215' : v215 = .bool true := r215
      clear r215
      subst r215'
      obtain ⟨v217, t217, r217⟩ := st.new 129 217 (by rfl) (dep_of hdep 129 (by rfl))
      have r217' : v217 = .bool true := r217
      clear r217
      subst r217'
      have e215 : ac.tmps.getD 215 undef = _ := getD_of t215
      have e217 : ac.tmps.getD 217 undef = _ := getD_of t217
      refine wpOp_want rfl (by rfl) (fun K' hK' => ?_)
      go_simp
      exact hK'.out _ _ ⟨_, rfl, rfl, Below.refl _ _⟩
    refine ⟨?_, ?_⟩
    · intro E ac wc st hdep
      obtain ⟨v218, t218, r218⟩ := st.new 130 218 (by rfl) (dep_of hdep 130 (by rfl))
      have r218' : v218 = .bool true := r218
      clear r218
      subst r218'
      have e218 : ac.tmps.getD 218 undef = _ := getD_of t218
      refine wpOp_want rfl (by rfl) (fun K' hK' => ?_)
      go_simp
      exact hK'.out _ _ ⟨_, rfl, rfl, Below.refl _ _⟩
    refine ⟨?_, ?_⟩
    · intro E ac wc st hdep
      have t24 : ac.tmps[24]? = some (.int .i64 3) := (st.old 24 (by kernel_rfl)).trans (by rfl)
      obtain ⟨v219, t219, r219⟩ := st.new 131 219 (by rfl) (dep_of hdep 131 (by rfl))
      have r219' : v219 = .bool true := r219
      clear r219
      subst r219'
      have e24 : ac.tmps.getD 24 undef = _ := getD_of t24
      have e219 : ac.tmps.getD 219 undef = _ := getD_of t219
      refine wpOp_want rfl (wanted_of (by rfl) (by rfl) t219) (fun K' hK' => ?_)
      go_simp
      exact hK'.out _ _ ⟨_, rfl, rfl, Below.refl _ _⟩
    refine ⟨?_, ?_⟩
    · intro E ac wc st hdep
      obtain ⟨v220, t220, r220⟩ := st.new 132 220 (by rfl) (dep_of hdep 132 (by rfl))
      have r220' : v220 = .int .i64 3 := r220
      clear r220
      subst r220'
      obtain ⟨v219, t219, r219⟩ := st.new 131 219 (by rfl) (dep_of hdep 131 (by rfl))
      have r219' : v219 = .bool true := r219
      clear r219
      subst r219'
      have e220 : ac.tmps.getD 220 undef = _ := getD_of t220
      have e219 : ac.tmps.getD 219 undef = _ := getD_of t219
      refine wpOp_want rfl (wanted_of (by rfl) (by rfl) t219) (fun K' hK' => ?_)
      go_simp
      exact hK'.out _ _ ⟨_, rfl, rfl, Below.refl _ _⟩
    refine ⟨?_, ?_⟩
    · intro E ac wc st hdep
      obtain ⟨v219, t219, r219⟩ := st.new 131 219 (by rfl) (dep_of hdep 131 (by rfl))
      have r219' : v219 = .bool true := r219
      clear r219
      subst r219'
      obtain ⟨v221, t221, r221⟩ := st.new 133 221 (by rfl) (dep_of hdep 133 (by rfl))
      have r221' : v221 = .bool true := r221
      clear r221
      subst r221'
      have e219 : ac.tmps.getD 219 undef = _ := getD_of t219
      have e221 : ac.tmps.getD 221 undef = _ := getD_of t221
      refine wpOp_want rfl (by rfl) (fun K' hK' => ?_)
      go_simp
      exact hK'.out _ _ ⟨_, rfl, rfl, Below.refl _ _⟩
    refine ⟨?_, ?_⟩
    · intro E ac wc st hdep
      obtain ⟨v222, t222, r222⟩ := st.new 134 222 (by rfl) (dep_of hdep 134 (by rfl))
      have r222' : v222 = .bool true := r222
      clear r222
      subst r222'
      have e222 : ac.tmps.getD 222 undef = _ := getD_of t222
      refine wpOp_want rfl (by rfl) (fun K' hK' => ?_)
      go_simp
      exact hK'.out _ _ ⟨_, rfl, rfl, Below.refl _ _⟩
    exact trivial
  · intro a' w' st
    obtain ⟨v0, t0, r0⟩ := st.new 135 0 (by rfl) rfl
    have r0' : v0 = .bool true := r0
    subst r0'
    have HF := Below.cons HBT st.b
    have e0 := getD_of t0
    have hd : a'.defers = [] := st.d
    clear st
    go_wp2_with (fail)
    refine bodyPost_ret (v := .bool true) ?_ hd ⟨rfl, HF⟩
    simp [results, Tryz.results31, go_sem, t0, e0]
end Go.Proofs.YthcmoimlnhghcaaGreatDoor

/- What an input gives a walk: rows of limbs out of slices; the package's variable as it was laid. -/
set_option linter.unusedVariables false
set_option linter.unusedSimpArgs false
namespace Go.Proofs.YthcmoimlnhghcaaGreatDoor
open Go.RowKit Go.ChangeShapes Go.WideShapes Go.ChangeAt

theorem row_own : ownKnob Tryz.prog.godebug = none := by kernel_rfl
theorem row_out : laidOutB Tryz.prog = true := by kernel_rfl
theorem row_glob : Tryz.prog.globalNamed "ziggurat/ntt.fields" = some 2 := by kernel_rfl
theorem row_globT : (Tryz.prog.globals[2]?).map (·.type) = some 168 := by kernel_rfl
theorem row_cells32 : Tryz.prog.cellsOf 65 = 1 := by kernel_rfl

section
variable {H : Type} {enc : TypeId × Value → H} {W : World} {base : Nat} {sp : Nat → Bool} {held : Bool}

/-- What the laws' walks ask of a slice of limbs. -/
def IsL (W : World) (A : Option Addr) (c : Nat) (l : List Nat) : Prop := Rd W A l ∧ Lim l ∧ l.length ≤ maxLen ∧ l.length ≤ c ∧ (A = none → c = 0)
theorem open_nat {fuel : Nat} {cs : List Value} {x : DataW H × List MemPlace} (h : DataW.trod enc Tryz.prog W base sp held fuel 22 cs = some x) :
    ∃ A c l, cs = [.slice A l.length c] ∧ IsL W A c l := by
  rcases open_ints Tryz.underlying22 Tryz.underlying65 row_cells32 h with ⟨rfl, _⟩ | ⟨a, len, cap, zs, rfl, _, hl, hm, hz, _, hcell, hwf⟩
  · exact ⟨none, 0, [], rfl, Rd.nil, Lim.nil, by decide, Nat.le_refl _, fun _ => rfl⟩
  · have hlz : len ≤ zs.length := by rw [hz]; split <;> omega
    have hlen : ((zs.take len).map Int.toNat).length = len := by rw [List.length_map, List.length_take]; omega
    refine ⟨some a, cap, (zs.take len).map Int.toNat, by rw [hlen], ?_, ?_, by rw [hlen]; omega, by rw [hlen]; exact hl, fun e => by cases e⟩
    · refine .inr ⟨a, rfl, fun i u hu => ?_⟩
      have hi : i < len := by
        have := (List.getElem?_eq_some_iff.1 hu).1
        rw [vals_length, hlen] at this; exact this
      have hi2 : i < zs.length := by omega
      rw [hcell i hi2]
      have h0 := bounds_u32 (hwf _ (List.getElem_mem hi2))
      simp only [vals, List.map_map, List.getElem?_map, List.getElem?_take_of_lt hi, List.getElem?_eq_getElem hi2, Option.map_some] at hu
      rw [← Option.some.inj hu]
      simp only [Function.comp, List.getD_eq_getElem?_getD, List.getElem?_eq_getElem hi2, Option.getD_some]
      rw [Int.toNat_of_nonneg h0.1]
    · intro y hy
      obtain ⟨z, hz2, rfl⟩ := List.mem_map.1 hy
      have := bounds_u32 (hwf _ (List.mem_of_mem_take hz2))
      omega

theorem open_natv {r : Reach} {b0 : Nat} {v : Value} {d : DataW H} {ps : List MemPlace} (hv : Value.okWide Tryz.prog W r b0 22 v) (h : DataW.Trod enc Tryz.prog W base sp held 22 v d ps) :
    ∃ A c l, v = .slice A l.length c ∧ IsL W A c l := by
  obtain ⟨a, len, cap, rfl⟩ := okWide_slice Tryz.underlying22 hv
  obtain ⟨fuel, hf⟩ := h
  obtain ⟨A, c, l, e, i⟩ := open_nat hf
  simp only [Value.cells, List.cons.injEq, and_true] at e
  exact ⟨A, c, l, e, i⟩

end

/-- The package's variable, as it was laid, gives the cells that the walks read. -/
theorem flds_of_laid {W : World} (h : laidMetH Tryz.prog [("ziggurat/ntt.fields", Rows.laid_ziggurat_ntt_fields)] W) : Flds W := by
  rw [MakeChecks.laidMetH_plain _ _ _ (by kernel_rfl)] at h
  obtain ⟨ps, ⟨g0, t0, cs0, f0, p0, q0, hg0, ht0, hv0, hd0, _, _⟩, _, _⟩ := h
  obtain rfl := Option.some.inj (row_glob.symm.trans hg0)
  obtain rfl := Option.some.inj (row_globT.symm.trans ht0)
  obtain ⟨xs, n, _, hx, hl, hxs, he⟩ := DataW.trod_array Tryz.underlying168 hd0
  have h3 : Tryz.prog.cellsOf 168 = 3 := by kernel_rfl
  have h1 : Tryz.prog.cellsOf 167 = 1 := by kernel_rfl
  have h0 : Tryz.prog.cellsOf 106 = 1 := by kernel_rfl
  have cell := fun i => World.var?_cell hg0 hv0 i
  obtain ⟨cl⟩ := cs0
  have hl' : cl.length = 3 := by rw [← h3]; exact hl
  match cl, hl' with
  | [c0, c1, c2], _ =>
    match xs, hxs with
    | [x0, x1, x2], _ =>
      have e0 := he 0 (by decide)
      have e1 := he 1 (by decide)
      have e2 := he 2 (by decide)
      rw [h1] at e0 e1 e2
      have one : ∀ (c : Value) (x : DataW Unit × List MemPlace) (z : Int), DataW.trod (fun _ => ()) Tryz.prog W 0 (fun _ => true) false n 167 [c] = some x → x.1 = .agg [.lit (.int .u64 z)] → c = .int .u64 z := by
        intro c x z hc hz
        obtain ⟨ys, n2, _, hy, _, hys, hey⟩ := DataW.trod_struct Tryz.underlying167 hc
        have e : DataW.trod (fun _ => ()) Tryz.prog W 0 (fun _ => true) false n2 106 (([c].drop 0).take (Tryz.prog.cellsOf 106)) = ys[0]? := hey 0 _ rfl
        rw [h0] at e
        match ys, hys with
        | [y], _ =>
          obtain ⟨z', hz1, hz2, _⟩ := DataW.trod_int Tryz.underlying106 (show DataW.trod (fun _ => ()) Tryz.prog W 0 (fun _ => true) false n2 106 [c] = some y from e)
          simp only [List.cons.injEq, and_true] at hz1
          rw [hy, hz2] at hz
          simp at hz
          rw [hz1, hz]
      simp only [Rows.laid_ziggurat_ntt_fields, Prod.mk.injEq, DataW.agg.injEq, List.map_cons, List.map_nil, List.cons.injEq, and_true] at hx
      obtain ⟨⟨hx0, hx1, hx2⟩, _⟩ := hx
      have k0 := one c0 x0 _ e0 hx0.symm
      have k1 := one c1 x1 _ e1 hx1.symm
      have k2 := one c2 x2 _ e2 hx2.symm
      subst k0 k1 k2
      exact ⟨cell 0, cell 1, cell 2⟩
/-- The door's own heap meets the condition: closed facts. -/
theorem door_met (os : Os) (args : Array Value) : laidMetH Tryz.prog [("ziggurat/ntt.fields", Rows.laid_ziggurat_ntt_fields)] ((World.doorLaid Tryz.prog 400 os).forCall (fun _ _ => 0) ⟨#[], args, []⟩).memory :=
  laidMetH_of_parts3 (fuel := 8) (laidMet_of_run' 8 (by kernel_rfl) (by kernel_rfl)) (by kernel_rfl) (by kernel_rfl)
end Go.Proofs.YthcmoimlnhghcaaGreatDoor

/- Laws of greatest common divisors: what is used in all of them. -/
set_option linter.unusedVariables false
set_option linter.unusedSimpArgs false
namespace Go.Proofs.YthcmoimlnhghcaaGreatDoor
open Go.RowKit Go.Shelf
attribute [local go_sem] max2_i min2_i max_two min_two

end Go.Proofs.YthcmoimlnhghcaaGreatDoor

/- The document's powers modulo a natural. -/
set_option linter.unusedVariables false
set_option linter.unusedSimpArgs false
namespace Go.Proofs.YthcmoimlnhghcaaGreatDoor
open Go.RowKit Go.Shelf
attribute [local go_sem] max2_i min2_i max_two min_two

theorem pm_by {a k m : Nat} : a ^ (2 * k) % m * a % m = a ^ (2 * k + 1) % m := by
  rw [Nat.mul_mod, Nat.mod_mod, ← Nat.mul_mod, ← Nat.pow_succ]
theorem rpowmodZ_c (A : Option Addr) (la c : Nat) (E : Option Addr) (le ce : Nat) (M : Option Addr) (cm : Nat) (w : World) :
    Calls Tryz.prog 46 #[.slice A la c, .slice E le ce, .slice M 0 cm] w fun e w' => e = .returned (.tuple #[.slice none 0 0, .int .i64 3]) ∧ Below w.heap.size w w' := by
  go_enter Tryz.func46, Tryz.ntmps46
  go_wp2_with (fail)
  exact bodyPost_ret (v := .tuple #[.slice none 0 0, .int .i64 3]) (by simp [results, Tryz.results46, go_sem]) rfl ⟨rfl, Below.refl _ _⟩
theorem rpowmod_c (A : Option Addr) (c a : Nat) (E : Option Addr) (ce e : Nat) (M : Option Addr) (cm m : Nat) (w : World) (hA : NatV w A c a) (hE : NatV w E ce e) (hM : NatV w M cm m) (la : nl a ≤ 8192) (le : nl e ≤ 8192) (lm : nl m ≤ 8192) (h0 : 0 < m) :
    Calls Tryz.prog 46 #[.slice A (nl a) c, .slice E (nl e) ce, .slice M (nl m) cm] w (RetNE w (a ^ e % m)) := by
  have hb : Below w.heap.size w (w.alloc (.cells #[.int .u32 1] 65)) := (Below.refl _ _).alloc (Nat.le_refl _) _
  have t0 : ((nl m : Int) == 0) = false := ieqF (by have := nl_pos.2 (show m ≠ 0 by omega); omega)
  have t0' : (nl m == 0) = false := by have := nl_pos.2 (show m ≠ 0 by omega); simp; omega
  have A0 := hA.below hb
  have E0 := hE.below hb
  have M0 := hM.below hb
  have CD := at_len1 nl_one (rdiv_c (some ⟨w.heap.size, 0, none⟩) 1 1 M cm m _ (nat_one _ _ (heap_alloc_new w (.cells #[.int .u32 1] 65))) M0 (by rw [nl_one]; decide) (by omega) h0)
  replace CD := Lib.hid CD
  go_enter Tryz.func46, Tryz.ntmps46
  go_wp2_with (fail)
  refine CD.out.mono ?_
  rintro ee w3 ⟨Q0, cq0, X2, c2, rfl, hQ0, X3, hb3⟩
  have A3 := A0.below hb3
  have E3 := E0.below hb3
  have M3 := M0.below hb3
  have HB3 := hb.cons hb3
  clear A0 E0 M0 CD hb3 hb hQ0
  go_wp2_with (fail)
  refine (rbits_c E ce e w3 E3 (by omega)).mono ?_
  rintro ee w4 ⟨rfl, hb4⟩
  replace A3 := A3.below hb4
  replace E3 := E3.below hb4
  replace M3 := M3.below hb4
  replace X3 := X3.below hb4
  replace HB3 := HB3.cons hb4
  clear hb4
  have hbl := bl_le e
  obtain ⟨B, EB⟩ : ∃ B, B = bl e := ⟨_, rfl⟩
  rw [← EB] at hbl
  have st0 : 1 % m = a ^ (e / 2 ^ B) % m := by
    have h1 : e / 2 ^ B = 0 := by rw [EB]; exact Nat.div_eq_of_lt (bl_lt e)
    rw [h1, Nat.pow_zero]
  rw [← EB]
  obtain ⟨o0, Eo0⟩ : ∃ z, z = 1 % m := ⟨_, rfl⟩
  rw [← Eo0] at X3 st0 ⊢
  replace Eo0 := Lib.hid Eo0
  have HB0 := Lib.hid HB3
  have HK : ∀ W, Below w4.heap.size w4 W → NatV W A c a ∧ NatV W E ce e ∧ NatV W M cm m := fun W h => ⟨A3.below h, E3.below h, M3.below h⟩
  replace HK := Lib.hid HK
  replace st0 := Lib.hid st0
  replace EB := Lib.hid EB
  have WB : IntKind.i64.wrap ((B : Int) - 1) = (B : Int) - 1 := IntWalk.i64_in _ (by omega)
  clear A3 E3 M3 HB3
  go_wp2_with (fail)
  go_loopw [9, 11] (fun v9 v10 wr => ∃ (j o : Nat) (O : Option Addr) (co : Nat), v9 = .slice O (nl o) co ∧ v10 = .int .i64 ((j : Int) - 1) ∧ j ≤ B ∧ NatV wr O co o ∧ Hid (o = a ^ (e / 2 ^ j) % m) ∧ Below w4.heap.size w4 wr ∧ nl o ≤ 8192) (fun v9 v10 wr => (intOf v10 + 1).toNat)
  case atStart => exact ⟨B, o0, X2, c2, rfl, rfl, Nat.le_refl _, X3, st0, Below.refl _ _, by rw [Eo0.out]; exact Nat.le_trans (nl_mod_lt 1 (by omega)) lm⟩
  case round =>
    obtain ⟨j, o, O, co, rfl, rfl, hj, hO, ho, hbr, lo⟩ := hrel
    clear X3
    cases j with
    | zero =>
      have hoe : o = a ^ e % m := by rw [ho.out, Nat.pow_zero, Nat.div_one]
      have t1 : decide (0 ≤ ((0 : Nat) : Int) - 1) = false := by decide
      replace hoe := Lib.hid hoe
      go_wp2_with (fail)
      refine bodyPost_ret (v := .tuple #[.slice O (nl o) co, .int .i64 0]) (by simp [results, Tryz.results46, go_sem]) rfl ?_
      rw [← hoe.out]
      exact ⟨O, co, rfl, hO, HB0.out.cons hbr⟩
    | succ j =>
      rw [show (((j + 1 : Nat) : Int) - 1) = (j : Int) by omega]
      have t1 : decide (0 ≤ (j : Int)) = true := by simp
      have Wj : IntKind.i64.wrap ((j : Int) - 1) = (j : Int) - 1 := IntWalk.i64_in _ (by omega)
      obtain ⟨KA, KE, KM⟩ := HK.out wr hbr
      have CM := rmul_c O co o O co o wr hO hO (by omega) (by omega)
      obtain ⟨p, Ep⟩ : ∃ p, p = o * o := ⟨_, rfl⟩
      have lp : nl p ≤ 16384 := by rw [Ep]; have := nl_mul o o; omega
      rw [← Ep] at CM
      have hs1 : p % m = a ^ (2 * (e / 2 ^ (j + 1))) % m := by rw [Ep, ho.out]; exact pm_sq
      have hbit := pm_bit e j
      have hbv : e / 2 ^ j % 2 = 0 ∨ e / 2 ^ j % 2 = 1 := by omega
      replace CM := Lib.hid CM
      replace Ep := Lib.hid Ep
      clear KE KA
      go_wp2_with (fail)
      refine CM.out.mono ?_
      rintro ee w5 ⟨P, cp, rfl, hP, hb5⟩
      have CR := rdiv_c P cp p M cm m w5 hP (KM.below hb5) (by omega) (by omega) h0
      obtain ⟨d, Ed⟩ : ∃ d, d = p / m := ⟨_, rfl⟩
      obtain ⟨q, Eq⟩ : ∃ q, q = p % m := ⟨_, rfl⟩
      rw [← Eq, ← Ed] at CR
      rw [← Eq] at hs1
      have lq : nl q ≤ 8192 := by rw [Eq]; exact Nat.le_trans (nl_mod_lt p (by omega)) lm
      replace CR := Lib.hid CR
      replace Eq := Lib.hid Eq
      replace hs1 := Lib.hid hs1
      replace hbit := Lib.hid hbit
      clear KM CM
      go_wp2_with (fail)
      refine CR.out.mono ?_
      rintro ee w6 ⟨D0, d0, Q, cq, rfl, hD0, hQ, hb6⟩
      clear hD0 Ed
      have hbr6 := (hbr.cons hb5).cons hb6
      obtain ⟨KA, KE, KM⟩ := HK.out w6 hbr6
      have CB := rbit_c E ce e j w6 KE (by omega) (by omega)
      rcases hbv with hbv | hbv
      · rw [hbv] at CB
        have hfin : q = a ^ (e / 2 ^ j) % m := by rw [hs1.out]; congr 2; have h := hbit.out; rw [hbv] at h; omega
        replace hfin := Lib.hid hfin
        replace CB := Lib.hid CB
        replace hbv := Lib.hid hbv
        clear KE KM KA CR
        go_wp2_with (fail)
        refine CB.out.mono ?_
        rintro ee w7 ⟨rfl, hw⟩
        subst hw
        go_wp2_with (fail)
        go_roundw
        case rel => exact ⟨j, q, Q, cq, rfl, rfl, by omega, hQ, hfin, hbr6, lq⟩
        case measure => simp only [intOf]; omega
      · rw [hbv] at CB
        have CM := rmul_c Q cq q A c a w6 hQ KA (by omega) (by omega)
        obtain ⟨u, Eu⟩ : ∃ u, u = q * a := ⟨_, rfl⟩
        have lu : nl u ≤ 16384 := by rw [Eu]; have := nl_mul q a; omega
        have hfin : u % m = a ^ (e / 2 ^ j) % m := by rw [Eu, hs1.out, pm_by]; congr 2; rw [hbit.out, hbv]
        rw [← Eu] at CM
        replace hfin := Lib.hid hfin
        replace CB := Lib.hid CB
        replace CM := Lib.hid CM
        replace hbv := Lib.hid hbv
        replace Eu := Lib.hid Eu
        clear KE KA CR
        go_wp2_with (fail)
        refine CB.out.mono ?_
        rintro ee w7 ⟨rfl, hw⟩
        subst hw
        go_wp2_with (fail)
        refine CM.out.mono ?_
        rintro ee w8 ⟨U, cu, rfl, hU, hb8⟩
        have CR := rdiv_c U cu u M cm m w8 hU (KM.below hb8) (by omega) (by omega) h0
        obtain ⟨f, Ef⟩ : ∃ f, f = u / m := ⟨_, rfl⟩
        obtain ⟨v, Ev⟩ : ∃ v, v = u % m := ⟨_, rfl⟩
        rw [← Ev, ← Ef] at CR
        rw [← Ev] at hfin
        have lv : nl v ≤ 8192 := by rw [Ev]; exact Nat.le_trans (nl_mod_lt u (by omega)) lm
        replace CR := Lib.hid CR
        replace Ev := Lib.hid Ev
        replace Ef := Lib.hid Ef
        clear KM CM CB
        go_wp2_with (fail)
        refine CR.out.mono ?_
        rintro ee w9 ⟨F, cf, V, cv, rfl, hF, hV, hb9⟩
        have hbr9 := (hbr6.cons hb8).cons hb9
        go_wp2_with (fail)
        go_roundw
        case rel => exact ⟨j, v, V, cv, rfl, rfl, by omega, hV, hfin, hbr9, lv⟩
        case measure => simp only [intOf]; omega
end Go.Proofs.YthcmoimlnhghcaaGreatDoor

/- The document's rows of Euclid: what they are in memory. -/
set_option linter.unusedVariables false
set_option linter.unusedSimpArgs false
namespace Go.Proofs.YthcmoimlnhghcaaGreatDoor
open Go.RowKit Go.Shelf
attribute [local go_sem] max2_i min2_i max_two min_two

theorem notU5 {u0 u1 u2 u3 u4 : Value} (h0 : NotU u0) (h1 : NotU u1) (h2 : NotU u2) (h3 : NotU u3) (h4 : NotU u4) : ∀ x ∈ (#[u0, u1, u2, u3, u4] : Array Value).toList, NotU x := by
  intro x hx; simp at hx; rcases hx with rfl | rfl | rfl | rfl | rfl <;> assumption
section
variable {W W' : World} {k : Nat} {t : TypeId} {n0 : Nat} {u u0 u1 u2 u3 u4 v0 v1 v2 v3 v4 : Value} {vs : Array Value}
theorem set5_far (j : Nat) (hj : j ≠ k) : (((((W.setCell ⟨k, 0, none⟩ v0).setCell ⟨k, 1, none⟩ v1).setCell ⟨k, 2, none⟩ v2).setCell ⟨k, 3, none⟩ v3).setCell ⟨k, 4, none⟩ v4).heap[j]? = W.heap[j]? := by
  rw [Below.heap_setCell _ _ _ _ (by simpa using hj), Below.heap_setCell _ _ _ _ (by simpa using hj), Below.heap_setCell _ _ _ _ (by simpa using hj), Below.heap_setCell _ _ _ _ (by simpa using hj), Below.heap_setCell _ _ _ _ (by simpa using hj)]
theorem BoxA.store5 (h : BoxA W k t #[u0, u1, u2, u3, u4]) (v0 v1 v2 v3 v4 : Value) : BoxA (((((W.setCell ⟨k, 0, none⟩ v0).setCell ⟨k, 1, none⟩ v1).setCell ⟨k, 2, none⟩ v2).setCell ⟨k, 3, none⟩ v3).setCell ⟨k, 4, none⟩ v4) k t #[v0, v1, v2, v3, v4] := by
  have h0 := heap_setCell_same W k 0 _ _ v0 h.at_
  have h1 := heap_setCell_same _ k 1 _ _ v1 h0
  have h2 := heap_setCell_same _ k 2 _ _ v2 h1
  have h3 := heap_setCell_same _ k 3 _ _ v3 h2
  have h4 := heap_setCell_same _ k 4 _ _ v4 h3
  exact ⟨by simpa using h4⟩
theorem BoxA.keep5 (h : BoxA W k t #[u0, u1, u2, u3, u4]) (hu : ∀ u ∈ (#[u0, u1, u2, u3, u4] : Array Value).toList, NotU u) {A : Option Addr} {c n : Nat} (hN : NatV W A c n) : NatV (((((W.setCell ⟨k, 0, none⟩ v0).setCell ⟨k, 1, none⟩ v1).setCell ⟨k, 2, none⟩ v2).setCell ⟨k, 3, none⟩ v3).setCell ⟨k, 4, none⟩ v4) A c n := h.keep hu (fun j hj => set5_far j hj) hN
theorem BoxA.put5 (h : BoxA W k t #[u0, u1, u2, u3, u4]) (hu : ∀ x ∈ (#[u0, u1, u2, u3, u4] : Array Value).toList, NotU x) (v0 v1 v2 v3 v4 : Value) : Put W (((((W.setCell ⟨k, 0, none⟩ v0).setCell ⟨k, 1, none⟩ v1).setCell ⟨k, 2, none⟩ v2).setCell ⟨k, 3, none⟩ v3).setCell ⟨k, 4, none⟩ v4) k := ⟨fun hN => h.keep5 hu hN, fun j hj => set5_far j hj⟩
theorem Below.store5 {w : World} (h : Below w.heap.size w W) (hk : w.heap.size ≤ k) : Below w.heap.size w (((((W.setCell ⟨k, 0, none⟩ v0).setCell ⟨k, 1, none⟩ v1).setCell ⟨k, 2, none⟩ v2).setCell ⟨k, 3, none⟩ v3).setCell ⟨k, 4, none⟩ v4) := (((((h.setCell (p := ⟨k, 0, none⟩) hk _).setCell (p := ⟨k, 1, none⟩) hk _).setCell (p := ⟨k, 2, none⟩) hk _).setCell (p := ⟨k, 3, none⟩) hk _).setCell (p := ⟨k, 4, none⟩) hk _)
/-- A variable of five cells that the region has made; one that it has written. -/
def PB5 (t : TypeId) (n0 : Nat) (u : Value) (W : World) : Prop := ∃ nb u0 u1 u2 u3 u4, u = .pointer (some ⟨nb, 0, none⟩) ∧ n0 ≤ nb ∧ BoxA W nb t #[u0, u1, u2, u3, u4] ∧ NotU u0 ∧ NotU u1 ∧ NotU u2 ∧ NotU u3 ∧ NotU u4
def PBV (t : TypeId) (n0 : Nat) (u : Value) (vs : Array Value) (W : World) : Prop := ∃ nb, u = .pointer (some ⟨nb, 0, none⟩) ∧ n0 ≤ nb ∧ BoxA W nb t vs
theorem PB5.below (h : PB5 t n0 u W) (hb : Below W.heap.size W W') : PB5 t n0 u W' := by
  obtain ⟨nb, u0, u1, u2, u3, u4, h1, h2, h3, h4⟩ := h; exact ⟨nb, u0, u1, u2, u3, u4, h1, h2, h3.below hb, h4⟩
theorem PB5.lt (h : PB5 t n0 u W) : ∃ nb, u = .pointer (some ⟨nb, 0, none⟩) ∧ nb < W.heap.size := by
  obtain ⟨nb, u0, u1, u2, u3, u4, h1, h2, h3, h4⟩ := h; exact ⟨nb, h1, h3.lt⟩
theorem PB5.put {k : Nat} (h : PB5 t n0 u W) (hp : Put W W' k) (hne : u ≠ .pointer (some ⟨k, 0, none⟩)) : PB5 t n0 u W' := by
  obtain ⟨nb, u0, u1, u2, u3, u4, h1, h2, h3, h4⟩ := h
  exact ⟨nb, u0, u1, u2, u3, u4, h1, h2, ⟨(hp.far nb (fun e => hne (by rw [h1, e]))).trans h3.at_⟩, h4⟩
theorem PBV.below (h : PBV t n0 u vs W) (hb : Below W.heap.size W W') : PBV t n0 u vs W' := by
  obtain ⟨nb, h1, h2, h3⟩ := h; exact ⟨nb, h1, h2, h3.below hb⟩
theorem PBV.put {k : Nat} (h : PBV t n0 u vs W) (hp : Put W W' k) (hne : u ≠ .pointer (some ⟨k, 0, none⟩)) : PBV t n0 u vs W' := by
  obtain ⟨nb, h1, h2, h3⟩ := h
  exact ⟨nb, h1, h2, ⟨(hp.far nb (fun e => hne (by rw [h1, e]))).trans h3.at_⟩⟩
end
theorem info_row : (Tryz.prog.info? 98).map (fun i => (i.zero, i.size, i.bytes)) = some (some (.agg #[.slice none 0 0, .bool false, .slice none 0 0, .bool false, .slice none 0 0]), 5, 88) := by kernel_rfl
/-- A row of Euclid's: a natural and two whole numbers. -/
def Row5 (W : World) (n : Nat) (x y : Int) (vs : List Value) : Prop := ∃ N cn X cx Y cy, vs = [.slice N (nl n) cn, .bool (sg x), .slice X (nl (mg x)) cx, .bool (sg y), .slice Y (nl (mg y)) cy] ∧ NatV W N cn n ∧ NatV W X cx (mg x) ∧ NatV W Y cy (mg y)
theorem Row5.map {W W' : World} {n : Nat} {x y : Int} {vs : List Value} (h : Row5 W n x y vs) (hN : ∀ (A : Option Addr) (c n : Nat), NatV W A c n → NatV W' A c n) : Row5 W' n x y vs := by
  obtain ⟨N, cn, X, cx, Y, cy, h0, h1, h2, h3⟩ := h
  exact ⟨N, cn, X, cx, Y, cy, h0, hN _ _ _ h1, hN _ _ _ h2, hN _ _ _ h3⟩
/-- The last two rows of those that are told so far. -/
def RowsI (W : World) (base a b k : Nat) (v : Value) : Prop := ∃ xs ys r1 r2, W.ownsRow base 98 5 v (k + 2) xs ∧ NU W v ∧ xs = ys ++ (r1 ++ r2) ∧ ys.length = 5 * k ∧ Row5 W (euc a b k).1 (eum a b k).a (eum a b k).b r1 ∧ Row5 W (euc a b k).2 (eum a b k).c (eum a b k).d r2
/-- The quotients that are told so far. -/
def QuosI (W : World) (base a b k : Nat) (v : Value) : Prop := ∃ qs, W.ownsRow base 22 1 v k qs ∧ NU W v ∧ QR (quo a b) W qs
theorem own_ne {W : World} {base base' n n' m m' : Nat} {t t' : TypeId} {v v' : Value} {xs xs' : List Value} (h : W.ownsRow base t m v n xs) (h' : W.ownsRow base' t' m' v' n' xs') (ht : t ≠ t') {g : Nat} (hg : v.ownBlock = some g) : v'.ownBlock ≠ some g := by
  intro hg'
  rcases h.2 with ⟨rfl, _⟩ | ⟨g1, cap, cur, rfl, _, h1, _⟩
  · cases hg
  · rcases h'.2 with ⟨rfl, _⟩ | ⟨g2, cap', cur', rfl, _, h2, _⟩
    · cases hg'
    · simp only [Value.ownBlock, Option.some.injEq] at hg hg'
      subst hg; subst hg'
      rw [h1] at h2; cases h2; exact ht rfl
theorem row_at (g n : Nat) : (⟨g, n, none⟩ : Addr) = (⟨g, 0, none⟩ : Addr).add n := by
  unfold Addr.add
  by_cases h : n = 0 <;> simp [h]
/-- What the cells of the last two rows hold. -/
theorem RowsI.cells {W : World} {base a b k : Nat} {v : Value} (h : RowsI W base a b k v) : ∃ g cap N cn X cx Y cy M cm U cu V cv, v = .slice (some ⟨g, 0, none⟩) (k + 2) cap ∧ base ≤ g ∧ k + 2 ≤ maxLen ∧ (∃ cur, W.heap[g]? = some (.cells cur 98 (0, 0)) ∧ ∀ u ∈ cur.toList, NotU u) ∧
    NatV W N cn (euc a b k).1 ∧ NatV W X cx (mg (eum a b k).a) ∧ NatV W Y cy (mg (eum a b k).b) ∧ NatV W M cm (euc a b k).2 ∧ NatV W U cu (mg (eum a b k).c) ∧ NatV W V cv (mg (eum a b k).d) ∧
    (∀ j u, ([.slice N (nl (euc a b k).1) cn, .bool (sg (eum a b k).a), .slice X (nl (mg (eum a b k).a)) cx, .bool (sg (eum a b k).b), .slice Y (nl (mg (eum a b k).b)) cy] : List Value)[j]? = some u → W.cell? ⟨g, k * 5 + j, none⟩ = some u) ∧
    (∀ j u, ([.slice M (nl (euc a b k).2) cm, .bool (sg (eum a b k).c), .slice U (nl (mg (eum a b k).c)) cu, .bool (sg (eum a b k).d), .slice V (nl (mg (eum a b k).d)) cv] : List Value)[j]? = some u → W.cell? ⟨g, (k + 1) * 5 + j, none⟩ = some u) := by
  obtain ⟨xs, ys, r1, r2, hown, hnu, hxs, hys, ⟨N, cn, X, cx, Y, cy, h1, hN, hX, hY⟩, ⟨M, cm, U, cu, V, cv, h2, hM, hU, hV⟩⟩ := h
  rcases hown.2 with ⟨_, h0⟩ | ⟨g, cap, cur, rfl, hg1, hg2, hg3, hg4, _⟩
  · omega
  · have hc := hown.cells (g := g) rfl
    obtain ⟨cur', t', hn1, hn2⟩ := hnu g rfl
    have hn1' := hn1
    rw [hg2] at hn1; cases hn1
    refine ⟨g, cap, N, cn, X, cx, Y, cy, M, cm, U, cu, V, cv, rfl, hg1, by omega, ⟨cur, hg2, hn2⟩, hN, hX, hY, hM, hU, hV, ?_, ?_⟩
    · intro j u hj
      rw [← h1] at hj
      have hl : j < r1.length := (List.getElem?_eq_some_iff.1 hj).1
      refine (row_at g _).symm ▸ hc _ _ ?_
      rw [hxs, List.getElem?_append_right (by omega), hys, show k * 5 + j - 5 * k = j by omega, List.getElem?_append_left hl]; exact hj
    · intro j u hj
      have hr1 : r1.length = 5 := by rw [h1]; rfl
      refine (row_at g _).symm ▸ hc _ _ ?_
      rw [hxs, List.getElem?_append_right (by omega), hys, List.getElem?_append_right (by omega), hr1, show (k + 1) * 5 + j - 5 * k - 5 = j by omega, h2]; exact hj
theorem RowsI.below {W W' : World} {base a b k : Nat} {v : Value} (h : RowsI W base a b k v) (hb : Below W.heap.size W W') : RowsI W' base a b k v := by
  obtain ⟨xs, ys, r1, r2, h1, h2, h3, h4, h5, h6⟩ := h
  exact ⟨xs, ys, r1, r2, own_same h1 (fun g o _ ho _ => heap_below hb ho), h2.below hb, h3, h4, h5.map (fun A c n hN => hN.below hb), h6.map (fun A c n hN => hN.below hb)⟩
theorem QuosI.below {W W' : World} {base a b k : Nat} {v : Value} (h : QuosI W base a b k v) (hb : Below W.heap.size W W') : QuosI W' base a b k v := by
  obtain ⟨qs, h1, h2, h3⟩ := h
  exact ⟨qs, own_same h1 (fun g o _ ho _ => heap_below hb ho), h2.below hb, h3.map (fun A c n hN => hN.below hb)⟩
theorem QuosI.shape {W : World} {base a b k : Nat} {v : Value} (h : QuosI W base a b k v) : ∃ V c, v = .slice V k c := by
  obtain ⟨qs, h1, _⟩ := h; exact own_shape h1
theorem RowsI.shape {W : World} {base a b k : Nat} {v : Value} (h : RowsI W base a b k v) : ∃ V c, v = .slice V (k + 2) c := by
  obtain ⟨_, _, _, _, h1, _⟩ := h; exact own_shape h1
theorem QuosI.grown {W W' : World} {base a b k : Nat} {v : Value} (h : QuosI W base a b k v) {base' n : Nat} {vr : Value} {xs : List Value} (ho : W.ownsRow base' 98 5 vr n xs) (hn : NU W vr) (hg : W.grownBy W' vr.ownBlock) : QuosI W' base a b k v := by
  obtain ⟨qs, h1, h2, h3⟩ := h
  have key : ∀ (g : Nat) (o : Obj), v.ownBlock = some g → W.heap[g]? = some o → o.isCells = true → W'.heap[g]? = some o := fun g o hgo h4 _ => (hg.block g (Array.getElem?_eq_some_iff.1 h4).1 (fun e => own_ne h1 ho (by decide) hgo e.symm)).trans h4
  exact ⟨qs, own_same h1 key, h2.same key, h3.map (fun A c n hN => hN.grown hn hg)⟩
theorem RowsI.grown {W W' : World} {base a b k : Nat} {v : Value} (h : RowsI W base a b k v) {base' n : Nat} {vq : Value} {qs : List Value} (ho : W.ownsRow base' 22 1 vq n qs) (hn : NU W vq) (hg : W.grownBy W' vq.ownBlock) : RowsI W' base a b k v := by
  obtain ⟨xs, ys, r1, r2, h1, h2, h3, h4, h5, h6⟩ := h
  have key : ∀ (g : Nat) (o : Obj), v.ownBlock = some g → W.heap[g]? = some o → o.isCells = true → W'.heap[g]? = some o := fun g o hgo h4 _ => (hg.block g (Array.getElem?_eq_some_iff.1 h4).1 (fun e => own_ne h1 ho (by decide) hgo e.symm)).trans h4
  exact ⟨xs, ys, r1, r2, own_same h1 key, h2.same key, h3, h4, h5.map (fun A c n hN => hN.grown hn hg), h6.map (fun A c n hN => hN.grown hn hg)⟩
theorem rows_next {W W' : World} {base a b k : Nat} {v v' : Value} {xs ys r1 r2 news : List Value} (hnu : NU W v) (hx : xs = ys ++ (r1 ++ r2)) (hy : ys.length = 5 * k) (h1 : Row5 W (euc a b k).1 (eum a b k).a (eum a b k).b r1) (h2 : Row5 W (euc a b k).2 (eum a b k).c (eum a b k).d r2)
    (hnews : Row5 W (euc a b (k + 1)).2 (eum a b (k + 1)).c (eum a b (k + 1)).d news) (ho' : W'.ownsRow base 98 5 v' (k + 2 + 1) (xs ++ news)) (hg : W.grownBy W' v.ownBlock) (hn' : NU W' v') : RowsI W' base a b (k + 1) v' := by
  obtain ⟨N, cn, X, cx, Y, cy, e1, _⟩ := id h1
  refine ⟨xs ++ news, ys ++ r1, r2, news, by rw [show k + 1 + 2 = k + 2 + 1 by omega]; exact ho', hn', by rw [hx, List.append_assoc, List.append_assoc, List.append_assoc], by rw [List.length_append, hy, e1]; simp; omega, ?_, hnews.map (fun A c n hN => hN.grown hnu hg)⟩
  exact h2.map (fun A c n hN => hN.grown hnu hg)
theorem quos_next {W W' : World} {base a b k : Nat} {v v' : Value} {qs : List Value} {Q : Option Addr} {cq : Nat} (hown : W.ownsRow base 22 1 v k qs) (hnu : NU W v) (hqr : QR (quo a b) W qs) (hQ : NatV W Q cq (quo a b k)) (ho' : W'.ownsRow base 22 1 v' (k + 1) (qs ++ [.slice Q (nl (quo a b k)) cq])) (hg : W.grownBy W' v.ownBlock) (hn' : NU W' v') : QuosI W' base a b (k + 1) v' := by
  refine ⟨_, ho', hn', fun j hj => ?_⟩
  have hl : qs.length = k := by have := hown.1; omega
  simp only [List.length_append, List.length_cons, List.length_nil] at hj
  by_cases e : j = k
  · subst e
    exact ⟨Q, cq, by rw [List.getElem?_append_right (by omega), hl, Nat.sub_self]; rfl, hQ.grown hnu hg⟩
  · obtain ⟨X, cx, e1, e2⟩ := hqr j (by omega)
    exact ⟨X, cx, by rw [List.getElem?_append_left (by omega)]; exact e1, e2.grown hnu hg⟩
theorem grown_cell {W W' : World} {g : Nat} {v : Value} (hv : ∀ g', v.ownBlock = some g' → g' = g) (hg : W.grownBy W' v.ownBlock) {k i : Nat} {u : Value} (h : W.cell? ⟨k, i, none⟩ = some u) (hne : k ≠ g) : W'.cell? ⟨k, i, none⟩ = some u := by
  rw [World.cell?_of_block (w := W) (a := ⟨k, i, none⟩) (hg.block k (World.block_lt_of_cell? W _ h) (fun e => hne (hv k e.symm)))]; exact h
/-- What the rows and quotients come to. -/
def RetRows (w : World) (a b : Nat) (e : Ending) (w' : World) : Prop := ∃ v q, e = .returned (.tuple #[v, q]) ∧ RowsI w' w.heap.size a b (eun a b) v ∧ QuosI w' w.heap.size a b (eun a b) q ∧ Below w.heap.size w w'
theorem zsub_c (aA : Option Addr) (ac : Nat) (a : Int) (bA : Option Addr) (bc : Nat) (b : Int) (w : World) (ha : NatV w aA ac (mg a)) (hb : NatV w bA bc (mg b)) (la : nl (mg a) ≤ 1048576) (lb : nl (mg b) ≤ 1048576) :
    Calls Tryz.prog 140 #[.agg #[.bool (sg a), .slice aA (nl (mg a)) ac], .agg #[.bool (sg b), .slice bA (nl (mg b)) bc]] w (RetI w (a - b)) := by
  obtain ⟨hb1, Ra, Rb, Rr⟩ := bx3 w #[.bool (sg a), .slice aA (nl (mg a)) ac] 24 #[.bool (sg b), .slice bA (nl (mg b)) bc] 24 #[.bool false, .slice none 0 0] 24
  replace ha := ha.below hb1
  replace hb := hb.below hb1
  have HBT := hb1
  clear hb1
  have qa0 := Ra.c (i := 0) rfl
  have qa1 := Ra.c (i := 1) rfl
  have qb0 := Rb.c (i := 0) rfl
  have qb1 := Rb.c (i := 1) rfl
  have qr0 := Rr.c (i := 0) rfl
  have qr1 := Rr.c (i := 1) rfl
  go_enter Tryz.func140, Tryz.ntmps140
  go_wp2_with (fail)
  have hd2 := drb ((((w.alloc (.cells #[.bool (sg a), .slice aA (nl (mg a)) ac] 24)).alloc (.cells #[.bool (sg b), .slice bA (nl (mg b)) bc] 24)).alloc (.cells #[.bool false, .slice none 0 0] 24)))
  replace ha := ha.below hd2
  replace hb := hb.below hd2
  replace Ra := Ra.below hd2
  replace qa0 := cbl hd2 qa0
  replace qa1 := cbl hd2 qa1
  replace Rb := Rb.below hd2
  replace qb0 := cbl hd2 qb0
  replace qb1 := cbl hd2 qb1
  replace Rr := Rr.below hd2
  replace qr0 := cbl hd2 qr0
  replace qr1 := cbl hd2 qr1
  replace HBT := Below.cons HBT hd2
  clear hd2
  obtain ⟨n, En⟩ : ∃ zq : Int, zq = -b := ⟨_, rfl⟩
  have Nn : nl (mg n) ≤ 1048576 := by rw [En, mg_neg]; exact lb
  have C2_0 := fun (W : World) (h1 : NatV W bA bc (mg b)) => zneg_c bA bc b W h1 (by omega)
  simp only [← En] at C2_0
  replace En := Lib.hid En
  replace C2_0 := Lib.hid C2_0
  obtain ⟨z, Ez⟩ : ∃ zq : Int, zq = a + n := ⟨_, rfl⟩
  have C2_1 := fun (W : World) (A : Option Addr) (c : Nat) (h1 : NatV W aA ac (mg a)) (h2 : NatV W A c (mg n)) => zadd_c aA ac a A c n W h1 h2 (by omega) (by omega)
  simp only [← Ez] at C2_1
  replace Ez := Lib.hid Ez
  replace C2_1 := Lib.hid C2_1
  go_region_held3 (fun W => W.cell? ⟨w.heap.size, 0, none⟩ = some (.bool (sg a)) ∧ W.cell? ⟨w.heap.size, 1, none⟩ = some (.slice aA (nl (mg a)) ac) ∧ W.cell? ⟨(w.heap.size + 1), 0, none⟩ = some (.bool (sg b)) ∧ W.cell? ⟨(w.heap.size + 1), 1, none⟩ = some (.slice bA (nl (mg b)) bc))
    (first
      | exact ⟨qa0, qa1, qb0, qb1⟩
      | exact ⟨qa0_3, qa1_3, qb0_3, qb1_3⟩
      | exact ⟨qa0_4, qa1_4, qb0_4, qb1_4⟩
      | exact ⟨((Ra_4.other2 (by simp <;> omega)).c (i := 0) rfl), ((Ra_4.other2 (by simp <;> omega)).c (i := 1) rfl), ((Rb_4.other2 (by simp <;> omega)).c (i := 0) rfl), ((Rb_4.other2 (by simp <;> omega)).c (i := 1) rfl)⟩
      | go_keep)
    (first
      | (go_at_call 69; (with_reducible refine (C2_0.out _ hb).mono ?_); rintro e W3 ⟨Xn, cn, rfl, hn, hb3⟩; have ha_3 := ha.below hb3; have hb_3 := hb.below hb3; have Ra_3 := Ra.below hb3; have qa0_3 := cbl hb3 qa0; have qa1_3 := cbl hb3 qa1; have Rb_3 := Rb.below hb3; have qb0_3 := cbl hb3 qb0; have qb1_3 := cbl hb3 qb1; have Rr_3 := Rr.below hb3; have qr0_3 := cbl hb3 qr0; have qr1_3 := cbl hb3 qr1; have HBT_3 := Below.cons HBT hb3)
      | (go_at_call 125; (with_reducible refine (C2_1.out _ _ _ ha_3 hn).mono ?_); rintro e W4 ⟨Xz, cz, rfl, hz, hb4⟩; have ha_4 := ha_3.below hb4; have hb_4 := hb_3.below hb4; have Ra_4 := Ra_3.below hb4; have qa0_4 := cbl hb4 qa0_3; have qa1_4 := cbl hb4 qa1_3; have Rb_4 := Rb_3.below hb4; have qb0_4 := cbl hb4 qb0_3; have qb1_4 := cbl hb4 qb1_3; have Rr_4 := Rr_3.below hb4; have qr0_4 := cbl hb4 qr0_3; have qr1_4 := cbl hb4 qr1_3; have hn_4 := hn.below hb4; have HBT_4 := Below.cons HBT_3 hb4; have fz0 := Rr_4.f (i := 0); have fz1 := Rr_4.f (i := 1)))
  all_goals (try go_wp2_with (fail))
  have hzz : z = a - b := by rw [Ez.out, En.out]; omega
  subst hzz
  have RS := Rr_4.store2 (.bool (sg ((a - b)))) (.slice Xz (nl (mg ((a - b)))) cz)
  have e0 := RS.c (i := 0) rfl
  have e1 := RS.c (i := 1) rfl
  refine bodyPost_ret (v := .agg #[.bool (sg ((a - b))), .slice Xz (nl (mg ((a - b)))) cz]) (by simp [results, Tryz.results140, go_sem, e0, e1]) rfl ?_
  exact ⟨Xz, cz, rfl, (Rr_4.keep2 (nuB rfl) hz), (Below.store2 HBT_4 (by first | exact Nat.le_refl _ | omega))⟩
end Go.Proofs.YthcmoimlnhghcaaGreatDoor
