/- For all inputs both over their greatest common divisor have nothing in common, and an inverse of each modulo the other one is there: GcdApart returns true and leaves its arguments as they were. Conditions: Each package-level variable that the row lists (ntt.fields) holds at the call what the program's text lays; the tie is given and covers the pruned copy of the repository. -/
import Derived.Test.YtpaffggdeedopaaGreatDoorG05
import Derived.Test.YtpaffggdeedopaaGreatDoorCards
import Derived.Test.YtpaffggdeedopaaGreatDoorTie
import Derived.SevenTiedAt
set_option maxRecDepth 100000
set_option maxHeartbeats 4000000
/- Laws of greatest common divisors: GcdApart. -/
set_option linter.unusedVariables false
set_option linter.unusedSimpArgs false
namespace Go.Proofs.YtpaffggdeedopaaGreatDoor
open Go.RowKit Go.Shelf
attribute [local go_sem] max2_i min2_i max_two min_two

theorem gcdApart_c (A : Option Addr) (c : Nat) (l : List Nat) (B : Option Addr) (d : Nat) (m : List Nat)  (w : World) (hG : Flds w) (hl : Rd w A l) (Ll : Lim l) (Ql : l.length ≤ maxLen) (Cl : l.length ≤ c) (Zl : A = none → c = 0) (hm : Rd w B m) (Lm : Lim m) (Qm : m.length ≤ maxLen) (Cm : m.length ≤ d) (Zm : B = none → d = 0)  :
    Calls Tryz.prog 12 #[.slice A l.length c, .slice B m.length d] w fun e w' => e = .returned (.bool true) ∧ Below w.heap.size w w' := by
  replace Zl := Lib.hid Zl
  replace Zm := Lib.hid Zm
  go_enter Tryz.func12, Tryz.ntmps12
  go_wp2_with (fail)
  refine (Calls.mono (ghead_c _ hG) ?_)
  rintro e W1 ⟨rfl, hb1⟩
  replace hG := hG.below hb1
  replace hl := hl.below hb1
  replace hm := hm.below hb1
  have HBT := hb1
  clear hb1
  go_wp2_with (fail)
  obtain ⟨a, Ea⟩ : ∃ zq : Nat, zq = val (l.take 20) := ⟨_, rfl⟩
  have Ba : nl a ≤ 20 := by rw [Ea]; exact made_nl l Ll 20
  refine (Calls.mono (R := RetN W1 a) (by rw [Ea]; exact (made_n_c A c 20 l _ hl Ll Ql Cl Zl.out (by decide))) ?_)
  replace Ea := Lib.hid Ea
  rintro e W2 ⟨X2, c2, rfl, ha, hb2⟩
  replace hG := hG.below hb2
  replace hl := hl.below hb2
  replace hm := hm.below hb2
  replace HBT := Below.cons HBT hb2
  clear hb2
  go_wp2_with (fail)
  obtain ⟨b, Eb⟩ : ∃ zq : Nat, zq = val (m.take 20) := ⟨_, rfl⟩
  have Bb : nl b ≤ 20 := by rw [Eb]; exact made_nl m Lm 20
  refine (Calls.mono (R := RetN W2 b) (by rw [Eb]; exact (made_n_c B d 20 m _ hm Lm Qm Cm Zm.out (by decide))) ?_)
  replace Eb := Lib.hid Eb
  rintro e W3 ⟨X3, c3, rfl, hb, hb3⟩
  replace hG := hG.below hb3
  replace hl := hl.below hb3
  replace hm := hm.below hb3
  replace ha := ha.below hb3
  replace HBT := Below.cons HBT hb3
  clear hb3
  go_wp2_with (fail)
  obtain ⟨g, Eg⟩ : ∃ zq : Nat, zq = Nat.gcd a b := ⟨_, rfl⟩
  have Bg : nl g ≤ 20 := by rw [Eg]; exact nl_gcd (by omega) (by omega)
  refine (Calls.mono (R := RetN W3 g) (by rw [Eg]; exact (half_c X2 c2 a X3 c3 b _ ha hb hG (by omega) (by omega))) ?_)
  replace Eg := Lib.hid Eg
  rintro e W4 ⟨X4, c4, rfl, hg, hb4⟩
  replace hG := hG.below hb4
  replace hl := hl.below hb4
  replace hm := hm.below hb4
  replace ha := ha.below hb4
  replace hb := hb.below hb4
  replace HBT := Below.cons HBT hb4
  clear hb4
  by_cases hg0 : g = 0
  · have hab := gcd_z (a := a) (b := b) (by rw [← Eg.out]; exact hg0)
    obtain ⟨ha0, hb0⟩ := hab
    have t1 : ((nl g : Int) == 0) = true := ieqT (by rw [hg0, nl_zero]; rfl)
    have t1' : (nl g == 0) = true := by rw [hg0, nl_zero]; rfl
    have t2 : ((nl a : Int) == 0) = true := ieqT (by rw [ha0, nl_zero]; rfl)
    have t2' : (nl a == 0) = true := by rw [ha0, nl_zero]; rfl
    have t3 : ((nl b : Int) == 0) = true := ieqT (by rw [hb0, nl_zero]; rfl)
    have t3' : (nl b == 0) = true := by rw [hb0, nl_zero]; rfl
    replace hg0 := Lib.hid hg0
    replace ha0 := Lib.hid ha0
    replace hb0 := Lib.hid hb0
    go_wp2_with (fail)
    go_ret
    exact ⟨rfl, HBT⟩
  · have hg1 : 0 < g := by omega
    have t1 : ((nl g : Int) == 0) = false := ieqF (by have := nl_pos.2 (show g ≠ 0 by exact hg0); omega)
    have t1' : (nl g == 0) = false := by have := nl_pos.2 (show g ≠ 0 by exact hg0); simp; omega
    have hco := gcd_nz (a := a) (b := b) (by rw [← Eg.out]; exact hg0)
    rw [← Eg.out] at hco
    replace hg0 := Lib.hid hg0
    replace hco := Lib.hid hco
    go_wp2_with (fail)
    obtain ⟨x, Ex⟩ : ∃ zq : Nat, zq = a / g := ⟨_, rfl⟩
    have Bx : nl x ≤ 20 := by rw [Ex]; have := nl_div a g; omega
    obtain ⟨rx, Erx⟩ : ∃ zq : Nat, zq = a % g := ⟨_, rfl⟩
    have Brx : nl rx ≤ 20 := by rw [Erx]; have := nl_mod_le a g; omega
    have CT5 := (rdiv_c X2 c2 a X4 c4 g _ ha hg (by omega) (by omega) hg1)
    rw [← Ex, ← Erx] at CT5
    replace Ex := Lib.hid Ex
    replace Erx := Lib.hid Erx
    refine (Calls.mono CT5 ?_)
    clear CT5
    rintro e W5 ⟨Xx, cx, Xrx, crx, rfl, hx, hrx, hb5⟩
    replace hG := hG.below hb5
    replace hl := hl.below hb5
    replace hm := hm.below hb5
    replace ha := ha.below hb5
    replace hb := hb.below hb5
    replace hg := hg.below hb5
    replace HBT := Below.cons HBT hb5
    clear hb5
    go_wp2_with (fail)
    obtain ⟨y, Ey⟩ : ∃ zq : Nat, zq = b / g := ⟨_, rfl⟩
    have By : nl y ≤ 20 := by rw [Ey]; have := nl_div b g; omega
    obtain ⟨ry, Ery⟩ : ∃ zq : Nat, zq = b % g := ⟨_, rfl⟩
    have Bry : nl ry ≤ 20 := by rw [Ery]; have := nl_mod_le b g; omega
    have CT6 := (rdiv_c X3 c3 b X4 c4 g _ hb hg (by omega) (by omega) hg1)
    rw [← Ey, ← Ery] at CT6
    replace Ey := Lib.hid Ey
    replace Ery := Lib.hid Ery
    refine (Calls.mono CT6 ?_)
    clear CT6
    rintro e W6 ⟨Xy, cy, Xry, cry, rfl, hy, hry, hb6⟩
    replace hG := hG.below hb6
    replace hl := hl.below hb6
    replace hm := hm.below hb6
    replace ha := ha.below hb6
    replace hb := hb.below hb6
    replace hg := hg.below hb6
    replace hx := hx.below hb6
    replace hrx := hrx.below hb6
    replace HBT := Below.cons HBT hb6
    clear hb6
    clear ha
    clear hb
    clear hg
    clear hrx
    clear hry
    have hxy : Nat.gcd x y = 1 := by rw [Ex.out, Ey.out]; exact hco.out
    have hyx : Nat.gcd y x = 1 := by rw [Nat.gcd_comm]; exact hxy
    replace hxy := Lib.hid hxy
    replace hyx := Lib.hid hyx
    by_cases hy0 : y = 0
    · have hx1 : x = 1 := by have := hxy.out; rw [hy0, Nat.gcd_zero_right] at this; exact this
      have hx0 : 0 < x := by omega
      have t5 : decide (0 < (nl y : Int)) = false := by rw [hy0, nl_zero]; rfl
      have t5' : decide (0 < nl y) = false := by rw [hy0, nl_zero]; rfl
      have t6 : decide (0 < (nl x : Int)) = true := by have := nl_pos.2 (show x ≠ 0 by omega); simp; omega
      have t6' : decide (0 < nl x) = true := by have := nl_pos.2 (show x ≠ 0 by omega); simp; omega
      have hyo := hy0
      replace hy0 := Lib.hid hy0
      replace hx1 := Lib.hid hx1
      replace hyo := Lib.hid hyo
      go_wp2_with (fail)
      refine (Calls.mono (inverseNot_c Xx cx x Xy cy y _ hx hy hG (by omega) (by omega) (Or.inl hyo.out)) ?_)
      rintro e W7 ⟨rfl, hb7⟩
      replace hG := hG.below hb7
      replace hl := hl.below hb7
      replace hm := hm.below hb7
      replace hx := hx.below hb7
      replace hy := hy.below hb7
      replace HBT := Below.cons HBT hb7
      clear hb7
      go_wp2_with (fail)
      have CI := (inverse_c Xy cy y Xx cx x _ hy hx hG (by omega) (by omega) (hx0) (hyx.out))
      obtain ⟨i2, Ei2⟩ : ∃ z : Nat, z = inv y x := ⟨_, rfl⟩
      have Bi2 : nl i2 ≤ 20 := by rw [Ei2]; exact inv_sz (by omega) (hx0)
      rw [← Ei2] at CI
      replace CI := Lib.hid CI
      replace Ei2 := Lib.hid Ei2
      refine (Calls.mono CI.out ?_)
      rintro e W8 ⟨Xi2, ci2, rfl, hi2, hb8⟩
      clear CI
      replace hG := hG.below hb8
      replace hl := hl.below hb8
      replace hm := hm.below hb8
      replace hx := hx.below hb8
      replace hy := hy.below hb8
      replace HBT := Below.cons HBT hb8
      clear hb8
      go_wp2_with (fail)
      obtain ⟨u, Eu⟩ : ∃ zq : Nat, zq = Nat.gcd x y := ⟨_, rfl⟩
      have Bu : nl u ≤ 20 := by rw [Eu]; exact nl_gcd (by omega) (by omega)
      refine (Calls.mono (R := RetN W8 u) (by rw [Eu]; exact (gcd_c Xx cx x Xy cy y _ hx hy (by omega) (by omega))) ?_)
      replace Eu := Lib.hid Eu
      rintro e W9 ⟨X9, c9, rfl, hu, hb9⟩
      replace hG := hG.below hb9
      replace hl := hl.below hb9
      replace hm := hm.below hb9
      replace hx := hx.below hb9
      replace hy := hy.below hb9
      replace hi2 := hi2.below hb9
      replace HBT := Below.cons HBT hb9
      clear hb9
      have hb10 : Below (W9).heap.size (W9) ((W9).alloc (.cells #[.int .u32 1] 72)) := (Below.refl _ _).alloc (Nat.le_refl _) _
      have ho := nlit (l := [1]) _ _ _ (heap_alloc_new (W9) (.cells #[.int .u32 1] 72)) rfl (by decide) (by decide) (by decide)
      obtain ⟨o, Eo⟩ : ∃ zq : Nat, zq = val [1] := ⟨_, rfl⟩
      rw [← Eo] at ho
      have No : nl o = 1 := by rw [Eo]; exact nl_lit (by decide) (by decide)
      have Vo : o = 1 := by rw [Eo]; decide
      have Bo : nl o ≤ 1 := Nat.le_of_eq No
      replace No := Lib.hid No
      replace Eo := Lib.hid Eo
      replace Vo := Lib.hid Vo
      replace hG := hG.below hb10
      replace hl := hl.below hb10
      replace hm := hm.below hb10
      replace hx := hx.below hb10
      replace hy := hy.below hb10
      replace hi2 := hi2.below hb10
      replace hu := hu.below hb10
      replace HBT := Below.cons HBT hb10
      clear hb10
      go_wp2_with (fail)
      refine (Calls.mono (at_lenR No.out (same1_t X9 c9 u _ _ o _ hu ho (by omega) (by omega) (by rw [Eu.out, hxy.out, Vo.out]))) ?_)
      rintro e W11 ⟨rfl, hb11⟩
      replace hG := hG.below hb11
      replace hl := hl.below hb11
      replace hm := hm.below hb11
      replace hx := hx.below hb11
      replace hy := hy.below hb11
      replace hi2 := hi2.below hb11
      replace hu := hu.below hb11
      replace ho := ho.below hb11
      replace HBT := Below.cons HBT hb11
      clear hb11
      go_wp2_with (fail)
      obtain ⟨v, Ev⟩ : ∃ zq : Nat, zq = Nat.gcd x y := ⟨_, rfl⟩
      have Bv : nl v ≤ 20 := by rw [Ev]; exact nl_gcd (by omega) (by omega)
      refine (Calls.mono (R := RetN W11 v) (by rw [Ev]; exact (lehmer_c Xx cx x Xy cy y _ hx hy hG (by omega) (by omega))) ?_)
      replace Ev := Lib.hid Ev
      rintro e W12 ⟨X12, c12, rfl, hv, hb12⟩
      replace hG := hG.below hb12
      replace hl := hl.below hb12
      replace hm := hm.below hb12
      replace hx := hx.below hb12
      replace hy := hy.below hb12
      replace hi2 := hi2.below hb12
      replace hu := hu.below hb12
      replace ho := ho.below hb12
      replace HBT := Below.cons HBT hb12
      clear hb12
      have hb13 : Below (W12).heap.size (W12) ((W12).alloc (.cells #[.int .u32 1] 72)) := (Below.refl _ _).alloc (Nat.le_refl _) _
      have ho2 := nlit (l := [1]) _ _ _ (heap_alloc_new (W12) (.cells #[.int .u32 1] 72)) rfl (by decide) (by decide) (by decide)
      obtain ⟨o2, Eo2⟩ : ∃ zq : Nat, zq = val [1] := ⟨_, rfl⟩
      rw [← Eo2] at ho2
      have No2 : nl o2 = 1 := by rw [Eo2]; exact nl_lit (by decide) (by decide)
      have Vo2 : o2 = 1 := by rw [Eo2]; decide
      have Bo2 : nl o2 ≤ 1 := Nat.le_of_eq No2
      replace No2 := Lib.hid No2
      replace Eo2 := Lib.hid Eo2
      replace Vo2 := Lib.hid Vo2
      replace hG := hG.below hb13
      replace hl := hl.below hb13
      replace hm := hm.below hb13
      replace hx := hx.below hb13
      replace hy := hy.below hb13
      replace hi2 := hi2.below hb13
      replace hu := hu.below hb13
      replace ho := ho.below hb13
      replace hv := hv.below hb13
      replace HBT := Below.cons HBT hb13
      clear hb13
      go_wp2_with (fail)
      refine (Calls.mono (at_lenR No2.out (same1_t X12 c12 v _ _ o2 _ hv ho2 (by omega) (by omega) (by rw [Ev.out, hxy.out, Vo2.out]))) ?_)
      rintro e W14 ⟨rfl, hb14⟩
      replace hG := hG.below hb14
      replace hl := hl.below hb14
      replace hm := hm.below hb14
      replace hx := hx.below hb14
      replace hy := hy.below hb14
      replace hi2 := hi2.below hb14
      replace hu := hu.below hb14
      replace ho := ho.below hb14
      replace hv := hv.below hb14
      replace ho2 := ho2.below hb14
      replace HBT := Below.cons HBT hb14
      clear hb14
      go_wp2_with (fail)
      go_ret
      exact ⟨rfl, HBT⟩
    · have hy1 : 0 < y := by omega
      have t5 : decide (0 < (nl y : Int)) = true := by have := nl_pos.2 (show y ≠ 0 by omega); simp; omega
      have t5' : decide (0 < nl y) = true := by have := nl_pos.2 (show y ≠ 0 by omega); simp; omega
      by_cases hx0 : x = 0
      · have hxo := Lib.hid hx0
        have t6 : decide (0 < (nl x : Int)) = false := by rw [hx0, nl_zero]; rfl
        have t6' : decide (0 < nl x) = false := by rw [hx0, nl_zero]; rfl
        replace hx0 := Lib.hid hx0
        replace hy0 := Lib.hid hy0
        go_wp2_with (fail)
        have CI := (inverse_c Xx cx x Xy cy y _ hx hy hG (by omega) (by omega) (hy1) (hxy.out))
        obtain ⟨i1, Ei1⟩ : ∃ z : Nat, z = inv x y := ⟨_, rfl⟩
        have Bi1 : nl i1 ≤ 20 := by rw [Ei1]; exact inv_sz (by omega) (hy1)
        rw [← Ei1] at CI
        replace CI := Lib.hid CI
        replace Ei1 := Lib.hid Ei1
        refine (Calls.mono CI.out ?_)
        rintro e W7 ⟨Xi1, ci1, rfl, hi1, hb7⟩
        clear CI
        replace hG := hG.below hb7
        replace hl := hl.below hb7
        replace hm := hm.below hb7
        replace hx := hx.below hb7
        replace hy := hy.below hb7
        replace HBT := Below.cons HBT hb7
        clear hb7
        go_wp2_with (fail)
        refine (Calls.mono (inverseNot_c Xy cy y Xx cx x _ hy hx hG (by omega) (by omega) (Or.inl hxo.out)) ?_)
        rintro e W8 ⟨rfl, hb8⟩
        replace hG := hG.below hb8
        replace hl := hl.below hb8
        replace hm := hm.below hb8
        replace hx := hx.below hb8
        replace hy := hy.below hb8
        replace hi1 := hi1.below hb8
        replace HBT := Below.cons HBT hb8
        clear hb8
        go_wp2_with (fail)
        obtain ⟨u, Eu⟩ : ∃ zq : Nat, zq = Nat.gcd x y := ⟨_, rfl⟩
        have Bu : nl u ≤ 20 := by rw [Eu]; exact nl_gcd (by omega) (by omega)
        refine (Calls.mono (R := RetN W8 u) (by rw [Eu]; exact (gcd_c Xx cx x Xy cy y _ hx hy (by omega) (by omega))) ?_)
        replace Eu := Lib.hid Eu
        rintro e W9 ⟨X9, c9, rfl, hu, hb9⟩
        replace hG := hG.below hb9
        replace hl := hl.below hb9
        replace hm := hm.below hb9
        replace hx := hx.below hb9
        replace hy := hy.below hb9
        replace hi1 := hi1.below hb9
        replace HBT := Below.cons HBT hb9
        clear hb9
        have hb10 : Below (W9).heap.size (W9) ((W9).alloc (.cells #[.int .u32 1] 72)) := (Below.refl _ _).alloc (Nat.le_refl _) _
        have ho := nlit (l := [1]) _ _ _ (heap_alloc_new (W9) (.cells #[.int .u32 1] 72)) rfl (by decide) (by decide) (by decide)
        obtain ⟨o, Eo⟩ : ∃ zq : Nat, zq = val [1] := ⟨_, rfl⟩
        rw [← Eo] at ho
        have No : nl o = 1 := by rw [Eo]; exact nl_lit (by decide) (by decide)
        have Vo : o = 1 := by rw [Eo]; decide
        have Bo : nl o ≤ 1 := Nat.le_of_eq No
        replace No := Lib.hid No
        replace Eo := Lib.hid Eo
        replace Vo := Lib.hid Vo
        replace hG := hG.below hb10
        replace hl := hl.below hb10
        replace hm := hm.below hb10
        replace hx := hx.below hb10
        replace hy := hy.below hb10
        replace hi1 := hi1.below hb10
        replace hu := hu.below hb10
        replace HBT := Below.cons HBT hb10
        clear hb10
        go_wp2_with (fail)
        refine (Calls.mono (at_lenR No.out (same1_t X9 c9 u _ _ o _ hu ho (by omega) (by omega) (by rw [Eu.out, hxy.out, Vo.out]))) ?_)
        rintro e W11 ⟨rfl, hb11⟩
        replace hG := hG.below hb11
        replace hl := hl.below hb11
        replace hm := hm.below hb11
        replace hx := hx.below hb11
        replace hy := hy.below hb11
        replace hi1 := hi1.below hb11
        replace hu := hu.below hb11
        replace ho := ho.below hb11
        replace HBT := Below.cons HBT hb11
        clear hb11
        go_wp2_with (fail)
        obtain ⟨v, Ev⟩ : ∃ zq : Nat, zq = Nat.gcd x y := ⟨_, rfl⟩
        have Bv : nl v ≤ 20 := by rw [Ev]; exact nl_gcd (by omega) (by omega)
        refine (Calls.mono (R := RetN W11 v) (by rw [Ev]; exact (lehmer_c Xx cx x Xy cy y _ hx hy hG (by omega) (by omega))) ?_)
        replace Ev := Lib.hid Ev
        rintro e W12 ⟨X12, c12, rfl, hv, hb12⟩
        replace hG := hG.below hb12
        replace hl := hl.below hb12
        replace hm := hm.below hb12
        replace hx := hx.below hb12
        replace hy := hy.below hb12
        replace hi1 := hi1.below hb12
        replace hu := hu.below hb12
        replace ho := ho.below hb12
        replace HBT := Below.cons HBT hb12
        clear hb12
        have hb13 : Below (W12).heap.size (W12) ((W12).alloc (.cells #[.int .u32 1] 72)) := (Below.refl _ _).alloc (Nat.le_refl _) _
        have ho2 := nlit (l := [1]) _ _ _ (heap_alloc_new (W12) (.cells #[.int .u32 1] 72)) rfl (by decide) (by decide) (by decide)
        obtain ⟨o2, Eo2⟩ : ∃ zq : Nat, zq = val [1] := ⟨_, rfl⟩
        rw [← Eo2] at ho2
        have No2 : nl o2 = 1 := by rw [Eo2]; exact nl_lit (by decide) (by decide)
        have Vo2 : o2 = 1 := by rw [Eo2]; decide
        have Bo2 : nl o2 ≤ 1 := Nat.le_of_eq No2
        replace No2 := Lib.hid No2
        replace Eo2 := Lib.hid Eo2
        replace Vo2 := Lib.hid Vo2
        replace hG := hG.below hb13
        replace hl := hl.below hb13
        replace hm := hm.below hb13
        replace hx := hx.below hb13
        replace hy := hy.below hb13
        replace hi1 := hi1.below hb13
        replace hu := hu.below hb13
        replace ho := ho.below hb13
        replace hv := hv.below hb13
        replace HBT := Below.cons HBT hb13
        clear hb13
        go_wp2_with (fail)
        refine (Calls.mono (at_lenR No2.out (same1_t X12 c12 v _ _ o2 _ hv ho2 (by omega) (by omega) (by rw [Ev.out, hxy.out, Vo2.out]))) ?_)
        rintro e W14 ⟨rfl, hb14⟩
        replace hG := hG.below hb14
        replace hl := hl.below hb14
        replace hm := hm.below hb14
        replace hx := hx.below hb14
        replace hy := hy.below hb14
        replace hi1 := hi1.below hb14
        replace hu := hu.below hb14
        replace ho := ho.below hb14
        replace hv := hv.below hb14
        replace ho2 := ho2.below hb14
        replace HBT := Below.cons HBT hb14
        clear hb14
        go_wp2_with (fail)
        go_ret
        exact ⟨rfl, HBT⟩
      · have hx1 : 0 < x := by omega
        have t6 : decide (0 < (nl x : Int)) = true := by have := nl_pos.2 (show x ≠ 0 by omega); simp; omega
        have t6' : decide (0 < nl x) = true := by have := nl_pos.2 (show x ≠ 0 by omega); simp; omega
        replace hx0 := Lib.hid hx0
        replace hy0 := Lib.hid hy0
        go_wp2_with (fail)
        have CI := (inverse_c Xx cx x Xy cy y _ hx hy hG (by omega) (by omega) (hy1) (hxy.out))
        obtain ⟨i1, Ei1⟩ : ∃ z : Nat, z = inv x y := ⟨_, rfl⟩
        have Bi1 : nl i1 ≤ 20 := by rw [Ei1]; exact inv_sz (by omega) (hy1)
        rw [← Ei1] at CI
        replace CI := Lib.hid CI
        replace Ei1 := Lib.hid Ei1
        refine (Calls.mono CI.out ?_)
        rintro e W7 ⟨Xi1, ci1, rfl, hi1, hb7⟩
        clear CI
        replace hG := hG.below hb7
        replace hl := hl.below hb7
        replace hm := hm.below hb7
        replace hx := hx.below hb7
        replace hy := hy.below hb7
        replace HBT := Below.cons HBT hb7
        clear hb7
        go_wp2_with (fail)
        have CI := (inverse_c Xy cy y Xx cx x _ hy hx hG (by omega) (by omega) (hx1) (hyx.out))
        obtain ⟨i2, Ei2⟩ : ∃ z : Nat, z = inv y x := ⟨_, rfl⟩
        have Bi2 : nl i2 ≤ 20 := by rw [Ei2]; exact inv_sz (by omega) (hx1)
        rw [← Ei2] at CI
        replace CI := Lib.hid CI
        replace Ei2 := Lib.hid Ei2
        refine (Calls.mono CI.out ?_)
        rintro e W8 ⟨Xi2, ci2, rfl, hi2, hb8⟩
        clear CI
        replace hG := hG.below hb8
        replace hl := hl.below hb8
        replace hm := hm.below hb8
        replace hx := hx.below hb8
        replace hy := hy.below hb8
        replace hi1 := hi1.below hb8
        replace HBT := Below.cons HBT hb8
        clear hb8
        go_wp2_with (fail)
        obtain ⟨u, Eu⟩ : ∃ zq : Nat, zq = Nat.gcd x y := ⟨_, rfl⟩
        have Bu : nl u ≤ 20 := by rw [Eu]; exact nl_gcd (by omega) (by omega)
        refine (Calls.mono (R := RetN W8 u) (by rw [Eu]; exact (gcd_c Xx cx x Xy cy y _ hx hy (by omega) (by omega))) ?_)
        replace Eu := Lib.hid Eu
        rintro e W9 ⟨X9, c9, rfl, hu, hb9⟩
        replace hG := hG.below hb9
        replace hl := hl.below hb9
        replace hm := hm.below hb9
        replace hx := hx.below hb9
        replace hy := hy.below hb9
        replace hi1 := hi1.below hb9
        replace hi2 := hi2.below hb9
        replace HBT := Below.cons HBT hb9
        clear hb9
        have hb10 : Below (W9).heap.size (W9) ((W9).alloc (.cells #[.int .u32 1] 72)) := (Below.refl _ _).alloc (Nat.le_refl _) _
        have ho := nlit (l := [1]) _ _ _ (heap_alloc_new (W9) (.cells #[.int .u32 1] 72)) rfl (by decide) (by decide) (by decide)
        obtain ⟨o, Eo⟩ : ∃ zq : Nat, zq = val [1] := ⟨_, rfl⟩
        rw [← Eo] at ho
        have No : nl o = 1 := by rw [Eo]; exact nl_lit (by decide) (by decide)
        have Vo : o = 1 := by rw [Eo]; decide
        have Bo : nl o ≤ 1 := Nat.le_of_eq No
        replace No := Lib.hid No
        replace Eo := Lib.hid Eo
        replace Vo := Lib.hid Vo
        replace hG := hG.below hb10
        replace hl := hl.below hb10
        replace hm := hm.below hb10
        replace hx := hx.below hb10
        replace hy := hy.below hb10
        replace hi1 := hi1.below hb10
        replace hi2 := hi2.below hb10
        replace hu := hu.below hb10
        replace HBT := Below.cons HBT hb10
        clear hb10
        go_wp2_with (fail)
        refine (Calls.mono (at_lenR No.out (same1_t X9 c9 u _ _ o _ hu ho (by omega) (by omega) (by rw [Eu.out, hxy.out, Vo.out]))) ?_)
        rintro e W11 ⟨rfl, hb11⟩
        replace hG := hG.below hb11
        replace hl := hl.below hb11
        replace hm := hm.below hb11
        replace hx := hx.below hb11
        replace hy := hy.below hb11
        replace hi1 := hi1.below hb11
        replace hi2 := hi2.below hb11
        replace hu := hu.below hb11
        replace ho := ho.below hb11
        replace HBT := Below.cons HBT hb11
        clear hb11
        go_wp2_with (fail)
        obtain ⟨v, Ev⟩ : ∃ zq : Nat, zq = Nat.gcd x y := ⟨_, rfl⟩
        have Bv : nl v ≤ 20 := by rw [Ev]; exact nl_gcd (by omega) (by omega)
        refine (Calls.mono (R := RetN W11 v) (by rw [Ev]; exact (lehmer_c Xx cx x Xy cy y _ hx hy hG (by omega) (by omega))) ?_)
        replace Ev := Lib.hid Ev
        rintro e W12 ⟨X12, c12, rfl, hv, hb12⟩
        replace hG := hG.below hb12
        replace hl := hl.below hb12
        replace hm := hm.below hb12
        replace hx := hx.below hb12
        replace hy := hy.below hb12
        replace hi1 := hi1.below hb12
        replace hi2 := hi2.below hb12
        replace hu := hu.below hb12
        replace ho := ho.below hb12
        replace HBT := Below.cons HBT hb12
        clear hb12
        have hb13 : Below (W12).heap.size (W12) ((W12).alloc (.cells #[.int .u32 1] 72)) := (Below.refl _ _).alloc (Nat.le_refl _) _
        have ho2 := nlit (l := [1]) _ _ _ (heap_alloc_new (W12) (.cells #[.int .u32 1] 72)) rfl (by decide) (by decide) (by decide)
        obtain ⟨o2, Eo2⟩ : ∃ zq : Nat, zq = val [1] := ⟨_, rfl⟩
        rw [← Eo2] at ho2
        have No2 : nl o2 = 1 := by rw [Eo2]; exact nl_lit (by decide) (by decide)
        have Vo2 : o2 = 1 := by rw [Eo2]; decide
        have Bo2 : nl o2 ≤ 1 := Nat.le_of_eq No2
        replace No2 := Lib.hid No2
        replace Eo2 := Lib.hid Eo2
        replace Vo2 := Lib.hid Vo2
        replace hG := hG.below hb13
        replace hl := hl.below hb13
        replace hm := hm.below hb13
        replace hx := hx.below hb13
        replace hy := hy.below hb13
        replace hi1 := hi1.below hb13
        replace hi2 := hi2.below hb13
        replace hu := hu.below hb13
        replace ho := ho.below hb13
        replace hv := hv.below hb13
        replace HBT := Below.cons HBT hb13
        clear hb13
        go_wp2_with (fail)
        refine (Calls.mono (at_lenR No2.out (same1_t X12 c12 v _ _ o2 _ hv ho2 (by omega) (by omega) (by rw [Ev.out, hxy.out, Vo2.out]))) ?_)
        rintro e W14 ⟨rfl, hb14⟩
        replace hG := hG.below hb14
        replace hl := hl.below hb14
        replace hm := hm.below hb14
        replace hx := hx.below hb14
        replace hy := hy.below hb14
        replace hi1 := hi1.below hb14
        replace hi2 := hi2.below hb14
        replace hu := hu.below hb14
        replace ho := ho.below hb14
        replace hv := hv.below hb14
        replace ho2 := ho2.below hb14
        replace HBT := Below.cons HBT hb14
        clear hb14
        go_wp2_with (fail)
        go_ret
        exact ⟨rfl, HBT⟩

end Go.Proofs.YtpaffggdeedopaaGreatDoor

set_option linter.unusedVariables false
set_option linter.unusedSimpArgs false
namespace Go.Proofs.YtpaffggdeedopaaGreatDoor
open Go.RowKit Go.ChangeShapes Go.WideShapes Go.ChangeAt

theorem gcdApart_lifted (os : Os) (started : os.Started) (H : Type) (enc : TypeId × Value → H) :
    ReturnsInHanded {} Tryz.checked os 12 .any (fun w args => (Rows.gcdApartSpec.pre enc Tryz.prog Tryz.f12 [] false w args ∧ laidMetH Tryz.prog [("ziggurat/ntt.fields", Rows.laid_ziggurat_ntt_fields)] w) ∧ sizedMet enc Tryz.prog Tryz.f12 (OpenSpec.ofChange Rows.gcdApartSpec) false w args)
      (Rows.gcdApartSpec.post enc Tryz.prog Tryz.f12 false true false false) := by
  refine returnsInHanded_of_change_and (C := Tryz.checked) (X := fun w _ => laidMetH Tryz.prog [("ziggurat/ntt.fields", Rows.laid_ziggurat_ntt_fields)] w) (fun _ _ _ hh h => h.of_heap hh) row_own started (by kernel_rfl) Tryz.func12
    (ChangeSpec.witness_shaped (enc := enc) (C := Tryz.checked) (os := os) (X := fun w _ => laidMetH Tryz.prog [("ziggurat/ntt.fields", Rows.laid_ziggurat_ntt_fields)] w) false (World.doorLaid Tryz.prog 400 os) #[.slice none 0 0, .slice none 0 0] 8 rfl (World.shaped_of_RefB (by kernel_rfl) (by kernel_rfl)) (by kernel_rfl) (by kernel_rfl) (by kernel_rfl) (door_met os _)) ?_
  intro W base args ds gs before hval0 hW _ _ hL _
  have hval : ∀ (j : Nat) t v, Tryz.f12.params[j]? = some t → args[j]? = some v → Value.okWide Tryz.prog W .any base t v := hval0
  have hW' := hW
  obtain ⟨p, q, hA0, hV, rfl, hfz, hnd⟩ := hW
  have hA : DataW.TrodAll enc Tryz.prog W 0 (fun _ => true) true Tryz.f12.params.toList args.toList ds p := hA0
  rw [Tryz.params12] at hA hval
  obtain ⟨v0, vs0, d0, ds0, p0, q0, hargs, rfl, rfl, h0, r0⟩ := trodAll_cons hA
  obtain ⟨v1, vs1, d1, ds1, p1, q1, rfl, rfl, rfl, h1, r1⟩ := trodAll_cons r0
  obtain ⟨rfl, rfl, rfl⟩ := trodAll_nil r1
  obtain rfl : args = #[v0, v1] := by cases args; simp_all
  obtain ⟨rfl, rfl⟩ := trodVars_none hV
  have hG := flds_of_laid hL
  have k0 := h0
  have lt0 : ∀ x ∈ p0, x.block < W.heap.size := by obtain ⟨m, hm⟩ := k0; exact DataW.trod_lt m _ _ _ hm
  obtain ⟨A0, c0, l0, rfl, i0⟩ := open_natv (hval 0 22 v0 rfl rfl) h0
  have k1 := h1
  have lt1 : ∀ x ∈ p1, x.block < W.heap.size := by obtain ⟨m, hm⟩ := k1; exact DataW.trod_lt m _ _ _ hm
  obtain ⟨A1, c1, l1, rfl, i1⟩ := open_natv (hval 1 22 v1 rfl rfl) h1
  clear hA0 hval0 hval hL
  have hcall := gcdApart_c A0 c0 l0 A1 c1 l1 W hG i0.1 i0.2.1 i0.2.2.1 i0.2.2.2.1 i0.2.2.2.2 i1.1 i1.2.1 i1.2.2.1 i1.2.2.2.1 i1.2.2.2.2
  refine hcall.mono fun e W' ⟨he, bel⟩ => ?_
  subst he
  exact ⟨_, rfl, _, _, _, [], _, [], hW', trodAll_mk1 (shut_bool Tryz.underlying4 _), (trodAll_cons_mk (Below.trod row_out (by kernel_rfl) (of_decide_eq_true (by kernel_rfl)) k0 bel lt0) (trodAll_cons_mk (Below.trod row_out (by kernel_rfl) (of_decide_eq_true (by kernel_rfl)) k1 bel lt1) trodAll_mk0)), rfl, bel.frame _, fun h => by cases h⟩
theorem gcdApart_holds : Rows.GcdApartSaid :=
  OpenClaim.holds_of_wide 12 Tryz.f12 rfl rfl rfl rfl rfl rfl rfl ⟨rfl, rfl, rfl, rfl, rfl⟩ rfl rfl rfl rfl rfl (by kernel_rfl) Tryz.func12 (by kernel_rfl)
    (of_decide_eq_true (by kernel_rfl)) (by unfold Func.isWrapper; first | (rw [if_pos (by decide +kernel)]; kernel_rfl) | (rw [if_neg (by decide +kernel)]; exact ⟨rfl, rfl⟩))
    (fun os started H enc _ => gcdApart_lifted os started H enc)

/-- The card, tied to the program's text. -/
theorem gcdApart_card : Rows.GcdApartCardSaid :=
  Claim7.holds_tied_plain_at .later [] [.data] true (true, "656b37b7ccc5af8af5a85e438c408380abd1ad709ff303cf5fc9993104b47efd") false
    gcdApart_holds (fun _ h => by cases h) (by kernel_rfl) (fun _ h => by cases h) gcdApart_row_tie rfl ⟨rfl, rfl⟩ (by kernel_rfl) rfl
    (fun f fn hf hfn => by
      obtain rfl : f = 12 := Option.some.inj ((show Tryz.prog.funcNamed "ziggurat/zigguratlaw07.GcdApart" = some 12 by kernel_rfl).symm.trans hf) |>.symm
      obtain rfl : fn = Tryz.f12 := (Option.some.inj (Tryz.func12.symm.trans hfn)).symm
      exact ⟨by kernel_rfl, fun j t ht => by
        rw [Tryz.params12] at ht
        have hm : t ∈ [22, 22] := by simpa using Array.mem_of_getElem? ht
        have hall : ([22, 22].all fun u => !Tryz.prog.wantsStandIn u) = true := by kernel_rfl
        exact (show Tryz.prog.wantsStandIn t = false by simpa using List.all_eq_true.1 hall t hm)⟩)
    (by kernel_rfl)
#print axioms gcdApart_card
end Go.Proofs.YtpaffggdeedopaaGreatDoor
