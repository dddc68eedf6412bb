/- For all inputs there is an inverse just if there is nothing in common, it is below the modulus, its product with the number has the rest 1, and its own inverse is the number's rest: GcdInverse returns true and leaves its arguments as they were. Conditions: Each package-level variable that the row lists (ntt.fields) holds at the call what the program's text lays; the tie is given and covers the pruned copy of the repository. -/
import Derived.Test.YtpaffggdeedopaaGreatDoorG05
import Derived.Test.YtpaffggdeedopaaGreatDoorCards
import Derived.Test.YtpaffggdeedopaaGreatDoorTie
import Derived.SevenTiedAt
set_option maxRecDepth 100000
set_option maxHeartbeats 4000000
/- Laws of greatest common divisors: GcdInverse. -/
set_option linter.unusedVariables false
set_option linter.unusedSimpArgs false
namespace Go.Proofs.YtpaffggdeedopaaGreatDoor
open Go.RowKit Go.Shelf
attribute [local go_sem] max2_i min2_i max_two min_two

theorem gcdInverse_c (A : Option Addr) (c : Nat) (l : List Nat) (B : Option Addr) (d : Nat) (k : List Nat)  (w : World) (hG : Flds w) (hl : Rd w A l) (Ll : Lim l) (Ql : l.length ≤ maxLen) (Cl : l.length ≤ c) (Zl : A = none → c = 0) (hk : Rd w B k) (Lk : Lim k) (Qk : k.length ≤ maxLen) (Ck : k.length ≤ d) (Zk : B = none → d = 0)  :
    Calls Tryz.prog 9 #[.slice A l.length c, .slice B k.length d] w fun e w' => e = .returned (.bool true) ∧ Below w.heap.size w w' := by
  replace Zl := Lib.hid Zl
  replace Zk := Lib.hid Zk
  go_enter Tryz.func9, Tryz.ntmps9
  go_wp2_with (fail)
  refine (Calls.mono (ghead_c _ hG) ?_)
  rintro e W1 ⟨rfl, hb1⟩
  replace hG := hG.below hb1
  replace hl := hl.below hb1
  replace hk := hk.below hb1
  have HBT := hb1
  clear hb1
  go_wp2_with (fail)
  obtain ⟨a, Ea⟩ : ∃ zq : Nat, zq = val (l.take 20) := ⟨_, rfl⟩
  have Ba : nl a ≤ 20 := by rw [Ea]; exact made_nl l Ll 20
  refine (Calls.mono (R := RetN W1 a) (by rw [Ea]; exact (made_n_c A c 20 l _ hl Ll Ql Cl Zl.out (by decide))) ?_)
  replace Ea := Lib.hid Ea
  rintro e W2 ⟨X2, c2, rfl, ha, hb2⟩
  replace hG := hG.below hb2
  replace hl := hl.below hb2
  replace hk := hk.below hb2
  replace HBT := Below.cons HBT hb2
  clear hb2
  go_wp2_with (fail)
  obtain ⟨m, Em⟩ : ∃ zq : Nat, zq = val (k.take 20) := ⟨_, rfl⟩
  have Bm : nl m ≤ 20 := by rw [Em]; exact made_nl k Lk 20
  refine (Calls.mono (R := RetN W2 m) (by rw [Em]; exact (made_n_c B d 20 k _ hk Lk Qk Ck Zk.out (by decide))) ?_)
  replace Em := Lib.hid Em
  rintro e W3 ⟨X3, c3, rfl, hm, hb3⟩
  replace hG := hG.below hb3
  replace hl := hl.below hb3
  replace hk := hk.below hb3
  replace ha := ha.below hb3
  replace HBT := Below.cons HBT hb3
  clear hb3
  by_cases hm0 : m = 0
  · have hmo := Lib.hid hm0
    have t1 : ((nl m : Int) == 0) = true := ieqT (by rw [hm0, nl_zero]; rfl)
    have t1' : (nl m == 0) = true := by rw [hm0, nl_zero]; rfl
    replace hm0 := Lib.hid hm0
    go_wp2_with (fail)
    refine (Calls.mono (inverseNot_c X2 c2 a X3 c3 m _ ha hm hG (by omega) (by omega) (Or.inl hmo.out)) ?_)
    rintro e W4 ⟨rfl, hb4⟩
    replace hG := hG.below hb4
    replace hl := hl.below hb4
    replace hk := hk.below hb4
    replace ha := ha.below hb4
    replace hm := hm.below hb4
    replace HBT := Below.cons HBT hb4
    clear hb4
    go_wp2_with (fail)
    go_ret
    exact ⟨rfl, HBT⟩
  · have hm1 : 0 < m := by omega
    have t1 : ((nl m : Int) == 0) = false := ieqF (by have := nl_pos.2 (show m ≠ 0 by exact hm0); omega)
    have t1' : (nl m == 0) = false := by have := nl_pos.2 (show m ≠ 0 by exact hm0); simp; omega
    replace hm0 := Lib.hid hm0
    by_cases hgm : Nat.gcd a m = 1
    · replace hgm := Lib.hid hgm
      go_wp2_with (fail)
      have CI := (inverse_c X2 c2 a X3 c3 m _ ha hm hG (by omega) (by omega) (hm1) (hgm.out))
      obtain ⟨x, Ex⟩ : ∃ z : Nat, z = inv a m := ⟨_, rfl⟩
      have Bx : nl x ≤ 20 := by rw [Ex]; exact inv_sz (by omega) (hm1)
      rw [← Ex] at CI
      replace CI := Lib.hid CI
      replace Ex := Lib.hid Ex
      refine (Calls.mono CI.out ?_)
      rintro e W4 ⟨Xx, cx, rfl, hx, hb4⟩
      clear CI
      replace hG := hG.below hb4
      replace hl := hl.below hb4
      replace hk := hk.below hb4
      replace ha := ha.below hb4
      replace hm := hm.below hb4
      replace HBT := Below.cons HBT hb4
      clear hb4
      go_wp2_with (fail)
      obtain ⟨g, Eg⟩ : ∃ zq : Nat, zq = Nat.gcd a m := ⟨_, rfl⟩
      have Bg : nl g ≤ 20 := by rw [Eg]; exact nl_gcd (by omega) (by omega)
      refine (Calls.mono (R := RetN W4 g) (by rw [Eg]; exact (gcd_c X2 c2 a X3 c3 m _ ha hm (by omega) (by omega))) ?_)
      replace Eg := Lib.hid Eg
      rintro e W5 ⟨X5, c5, rfl, hg, hb5⟩
      replace hG := hG.below hb5
      replace hl := hl.below hb5
      replace hk := hk.below hb5
      replace ha := ha.below hb5
      replace hm := hm.below hb5
      replace hx := hx.below hb5
      replace HBT := Below.cons HBT hb5
      clear hb5
      have hb6 : Below (W5).heap.size (W5) ((W5).alloc (.cells #[.int .u32 1] 72)) := (Below.refl _ _).alloc (Nat.le_refl _) _
      have ho := nlit (l := [1]) _ _ _ (heap_alloc_new (W5) (.cells #[.int .u32 1] 72)) rfl (by decide) (by decide) (by decide)
      obtain ⟨o, Eo⟩ : ∃ zq : Nat, zq = val [1] := ⟨_, rfl⟩
      rw [← Eo] at ho
      have No : nl o = 1 := by rw [Eo]; exact nl_lit (by decide) (by decide)
      have Vo : o = 1 := by rw [Eo]; decide
      have Bo : nl o ≤ 1 := Nat.le_of_eq No
      replace No := Lib.hid No
      replace Eo := Lib.hid Eo
      replace Vo := Lib.hid Vo
      replace hG := hG.below hb6
      replace hl := hl.below hb6
      replace hk := hk.below hb6
      replace ha := ha.below hb6
      replace hm := hm.below hb6
      replace hx := hx.below hb6
      replace hg := hg.below hb6
      replace HBT := Below.cons HBT hb6
      clear hb6
      go_wp2_with (fail)
      refine (Calls.mono (at_lenR No.out (same1_t X5 c5 g _ _ o _ hg ho (by omega) (by omega) (by rw [Eg.out, hgm.out, Vo.out]))) ?_)
      rintro e W7 ⟨rfl, hb7⟩
      replace hG := hG.below hb7
      replace hl := hl.below hb7
      replace hk := hk.below hb7
      replace ha := ha.below hb7
      replace hm := hm.below hb7
      replace hx := hx.below hb7
      replace hg := hg.below hb7
      replace ho := ho.below hb7
      replace HBT := Below.cons HBT hb7
      clear hb7
      have hb8 : Below (W7).heap.size (W7) ((W7).alloc (.cells #[.int .u32 1] 72)) := (Below.refl _ _).alloc (Nat.le_refl _) _
      have ho2 := nlit (l := [1]) _ _ _ (heap_alloc_new (W7) (.cells #[.int .u32 1] 72)) rfl (by decide) (by decide) (by decide)
      obtain ⟨o2, Eo2⟩ : ∃ zq : Nat, zq = val [1] := ⟨_, rfl⟩
      rw [← Eo2] at ho2
      have No2 : nl o2 = 1 := by rw [Eo2]; exact nl_lit (by decide) (by decide)
      have Vo2 : o2 = 1 := by rw [Eo2]; decide
      have Bo2 : nl o2 ≤ 1 := Nat.le_of_eq No2
      replace No2 := Lib.hid No2
      replace Eo2 := Lib.hid Eo2
      replace Vo2 := Lib.hid Vo2
      replace hG := hG.below hb8
      replace hl := hl.below hb8
      replace hk := hk.below hb8
      replace ha := ha.below hb8
      replace hm := hm.below hb8
      replace hx := hx.below hb8
      replace hg := hg.below hb8
      replace ho := ho.below hb8
      replace HBT := Below.cons HBT hb8
      clear hb8
      by_cases hm2 : m = 1
      · have hx0 : x = 0 := by have h := inv_lt (a := a) hm1; rw [← Ex.out] at h; omega
        have hm2' := Lib.hid hm2
        have t2 : ((nl x : Int) == 0) = true := ieqT (by rw [hx0, nl_zero]; rfl)
        have t2' : (nl x == 0) = true := by rw [hx0, nl_zero]; rfl
        replace hm2 := Lib.hid hm2
        replace hx0 := Lib.hid hx0
        go_wp2_with (fail)
        refine (Calls.mono (at_lenR No2.out (same1_t X3 c3 m _ _ o2 _ hm ho2 (by omega) (by omega) (by rw [hm2'.out, Vo2.out]))) ?_)
        rintro e W9 ⟨rfl, hb9⟩
        replace hG := hG.below hb9
        replace hl := hl.below hb9
        replace hk := hk.below hb9
        replace ha := ha.below hb9
        replace hm := hm.below hb9
        replace hx := hx.below hb9
        replace hg := hg.below hb9
        replace ho := ho.below hb9
        replace ho2 := ho2.below hb9
        replace HBT := Below.cons HBT hb9
        clear hb9
        go_wp2_with (fail)
        go_ret
        exact ⟨rfl, HBT⟩
      · have hm3 : 1 < m := by omega
        replace hm2 := Lib.hid hm2
        have hmn : m ≠ o2 := by rw [Vo2.out]; omega
        replace hmn := Lib.hid hmn
        go_wp2_with (fail)
        refine (Calls.mono (at_lenR No2.out ((show Calls Tryz.prog 53 _ _ (fun e w' => e = .returned (.bool false) ∧ Below _ _ w') from by have hh := same1_c X3 c3 m _ _ o2 _ hm ho2 (by omega) (by omega); rw [decide_eq_false hmn.out] at hh; exact hh))) ?_)
        rintro e W9 ⟨rfl, hb9⟩
        replace hG := hG.below hb9
        replace hl := hl.below hb9
        replace hk := hk.below hb9
        replace ha := ha.below hb9
        replace hm := hm.below hb9
        replace hx := hx.below hb9
        replace hg := hg.below hb9
        replace ho := ho.below hb9
        replace ho2 := ho2.below hb9
        replace HBT := Below.cons HBT hb9
        clear hb9
        go_wp2_with (fail)
        obtain ⟨p, Ep⟩ : ∃ zq : Nat, zq = a * x := ⟨_, rfl⟩
        have Bp : nl p ≤ 40 := by rw [Ep]; have := nl_mul a x; omega
        refine (Calls.mono (R := RetN W9 p) (by rw [Ep]; exact (rmul_c X2 c2 a Xx cx x _ ha hx (by omega) (by omega))) ?_)
        replace Ep := Lib.hid Ep
        rintro e W10 ⟨X10, c10, rfl, hp, hb10⟩
        replace hG := hG.below hb10
        replace hl := hl.below hb10
        replace hk := hk.below hb10
        replace ha := ha.below hb10
        replace hm := hm.below hb10
        replace hx := hx.below hb10
        replace hg := hg.below hb10
        replace ho := ho.below hb10
        replace ho2 := ho2.below hb10
        replace HBT := Below.cons HBT hb10
        clear hb10
        go_wp2_with (fail)
        obtain ⟨q1, Eq1⟩ : ∃ zq : Nat, zq = p / m := ⟨_, rfl⟩
        have Bq1 : nl q1 ≤ 40 := by rw [Eq1]; have := nl_div p m; omega
        obtain ⟨r, Er⟩ : ∃ zq : Nat, zq = p % m := ⟨_, rfl⟩
        have Br : nl r ≤ 40 := by rw [Er]; have := nl_mod_le p m; omega
        have CT11 := (rdiv_c X10 c10 p X3 c3 m _ hp hm (by omega) (by omega) hm1)
        rw [← Eq1, ← Er] at CT11
        replace Eq1 := Lib.hid Eq1
        replace Er := Lib.hid Er
        refine (Calls.mono CT11 ?_)
        clear CT11
        rintro e W11 ⟨Xq1, cq1, Xr, cr, rfl, hq1, hr, hb11⟩
        replace hG := hG.below hb11
        replace hl := hl.below hb11
        replace hk := hk.below hb11
        replace ha := ha.below hb11
        replace hm := hm.below hb11
        replace hx := hx.below hb11
        replace hg := hg.below hb11
        replace ho := ho.below hb11
        replace ho2 := ho2.below hb11
        replace hp := hp.below hb11
        replace HBT := Below.cons HBT hb11
        clear hb11
        go_wp2_with (fail)
        obtain ⟨q2, Eq2⟩ : ∃ zq : Nat, zq = a / m := ⟨_, rfl⟩
        have Bq2 : nl q2 ≤ 20 := by rw [Eq2]; have := nl_div a m; omega
        obtain ⟨s, Es⟩ : ∃ zq : Nat, zq = a % m := ⟨_, rfl⟩
        have Bs : nl s ≤ 20 := by rw [Es]; have := nl_mod_le a m; omega
        have CT12 := (rdiv_c X2 c2 a X3 c3 m _ ha hm (by omega) (by omega) hm1)
        rw [← Eq2, ← Es] at CT12
        replace Eq2 := Lib.hid Eq2
        replace Es := Lib.hid Es
        refine (Calls.mono CT12 ?_)
        clear CT12
        rintro e W12 ⟨Xq2, cq2, Xs, cs, rfl, hq2, hs, hb12⟩
        replace hG := hG.below hb12
        replace hl := hl.below hb12
        replace hk := hk.below hb12
        replace ha := ha.below hb12
        replace hm := hm.below hb12
        replace hx := hx.below hb12
        replace hg := hg.below hb12
        replace ho := ho.below hb12
        replace ho2 := ho2.below hb12
        replace hp := hp.below hb12
        replace hq1 := hq1.below hb12
        replace hr := hr.below hb12
        replace HBT := Below.cons HBT hb12
        clear hb12
        go_wp2_with (fail)
        have CI := (inverse_c Xx cx x X3 c3 m _ hx hm hG (by omega) (by omega) (hm1) (by rw [Ex.out]; exact inv_gcd hm3 hgm.out))
        obtain ⟨y, Ey⟩ : ∃ z : Nat, z = inv x m := ⟨_, rfl⟩
        have By : nl y ≤ 20 := by rw [Ey]; exact inv_sz (by omega) (hm1)
        rw [← Ey] at CI
        replace CI := Lib.hid CI
        replace Ey := Lib.hid Ey
        refine (Calls.mono CI.out ?_)
        rintro e W13 ⟨Xy, cy, rfl, hy, hb13⟩
        clear CI
        replace hG := hG.below hb13
        replace hl := hl.below hb13
        replace hk := hk.below hb13
        replace ha := ha.below hb13
        replace hm := hm.below hb13
        replace hx := hx.below hb13
        replace hg := hg.below hb13
        replace ho := ho.below hb13
        replace ho2 := ho2.below hb13
        replace hp := hp.below hb13
        replace hq1 := hq1.below hb13
        replace hr := hr.below hb13
        replace hq2 := hq2.below hb13
        replace hs := hs.below hb13
        replace HBT := Below.cons HBT hb13
        clear hb13
        have hlt : x < m := by rw [Ex.out]; exact inv_lt hm1
        have t7 : decide (cmpN x m < 0) = true := decide_eq_true (cmpN_neg.2 hlt)
        replace hlt := Lib.hid hlt
        go_wp2_with (fail)
        refine (Calls.mono (rcmp_c Xx cx x X3 c3 m _ hx hm (by omega) (by omega)) ?_)
        rintro e w' ⟨rfl, hw⟩
        first | subst hw | (replace hw := hw.symm; subst hw)
        have hb14 : Below (W13).heap.size (W13) ((W13).alloc (.cells #[.int .u32 1] 72)) := (Below.refl _ _).alloc (Nat.le_refl _) _
        have ho3 := nlit (l := [1]) _ _ _ (heap_alloc_new (W13) (.cells #[.int .u32 1] 72)) rfl (by decide) (by decide) (by decide)
        obtain ⟨o3, Eo3⟩ : ∃ zq : Nat, zq = val [1] := ⟨_, rfl⟩
        rw [← Eo3] at ho3
        have No3 : nl o3 = 1 := by rw [Eo3]; exact nl_lit (by decide) (by decide)
        have Vo3 : o3 = 1 := by rw [Eo3]; decide
        have Bo3 : nl o3 ≤ 1 := Nat.le_of_eq No3
        replace No3 := Lib.hid No3
        replace Eo3 := Lib.hid Eo3
        replace Vo3 := Lib.hid Vo3
        replace hG := hG.below hb14
        replace hl := hl.below hb14
        replace hk := hk.below hb14
        replace ha := ha.below hb14
        replace hm := hm.below hb14
        replace hx := hx.below hb14
        replace hg := hg.below hb14
        replace ho := ho.below hb14
        replace ho2 := ho2.below hb14
        replace hp := hp.below hb14
        replace hq1 := hq1.below hb14
        replace hr := hr.below hb14
        replace hq2 := hq2.below hb14
        replace hs := hs.below hb14
        replace hy := hy.below hb14
        replace HBT := Below.cons HBT hb14
        clear hb14
        go_wp2_with (fail)
        refine (Calls.mono (at_lenR No3.out (same1_t Xr cr r _ _ o3 _ hr ho3 (by omega) (by omega) (by rw [Er.out, Ep.out, Ex.out, inv_mul hm1 hgm.out, Vo3.out, Nat.mod_eq_of_lt hm3]))) ?_)
        rintro e W15 ⟨rfl, hb15⟩
        replace hG := hG.below hb15
        replace hl := hl.below hb15
        replace hk := hk.below hb15
        replace ha := ha.below hb15
        replace hm := hm.below hb15
        replace hx := hx.below hb15
        replace hg := hg.below hb15
        replace ho := ho.below hb15
        replace ho2 := ho2.below hb15
        replace hp := hp.below hb15
        replace hq1 := hq1.below hb15
        replace hr := hr.below hb15
        replace hq2 := hq2.below hb15
        replace hs := hs.below hb15
        replace hy := hy.below hb15
        replace ho3 := ho3.below hb15
        replace HBT := Below.cons HBT hb15
        clear hb15
        go_wp2_with (fail)
        refine (Calls.mono (same1_t Xy cy y Xs cs s _ hy hs (by omega) (by omega) (by rw [Ey.out, Ex.out, Es.out]; exact inv_inv hm3 hgm.out)) ?_)
        rintro e W16 ⟨rfl, hb16⟩
        replace hG := hG.below hb16
        replace hl := hl.below hb16
        replace hk := hk.below hb16
        replace ha := ha.below hb16
        replace hm := hm.below hb16
        replace hx := hx.below hb16
        replace hg := hg.below hb16
        replace ho := ho.below hb16
        replace ho2 := ho2.below hb16
        replace hp := hp.below hb16
        replace hq1 := hq1.below hb16
        replace hr := hr.below hb16
        replace hq2 := hq2.below hb16
        replace hs := hs.below hb16
        replace hy := hy.below hb16
        replace ho3 := ho3.below hb16
        replace HBT := Below.cons HBT hb16
        clear hb16
        go_wp2_with (fail)
        go_ret
        exact ⟨rfl, HBT⟩
    · have hgn := Lib.hid hgm
      replace hgm := Lib.hid hgm
      go_wp2_with (fail)
      refine (Calls.mono (inverseNot_c X2 c2 a X3 c3 m _ ha hm hG (by omega) (by omega) (Or.inr hgn.out)) ?_)
      rintro e W4 ⟨rfl, hb4⟩
      replace hG := hG.below hb4
      replace hl := hl.below hb4
      replace hk := hk.below hb4
      replace ha := ha.below hb4
      replace hm := hm.below hb4
      replace HBT := Below.cons HBT hb4
      clear hb4
      go_wp2_with (fail)
      obtain ⟨g, Eg⟩ : ∃ zq : Nat, zq = Nat.gcd a m := ⟨_, rfl⟩
      have Bg : nl g ≤ 20 := by rw [Eg]; exact nl_gcd (by omega) (by omega)
      refine (Calls.mono (R := RetN W4 g) (by rw [Eg]; exact (gcd_c X2 c2 a X3 c3 m _ ha hm (by omega) (by omega))) ?_)
      replace Eg := Lib.hid Eg
      rintro e W5 ⟨X5, c5, rfl, hg, hb5⟩
      replace hG := hG.below hb5
      replace hl := hl.below hb5
      replace hk := hk.below hb5
      replace ha := ha.below hb5
      replace hm := hm.below hb5
      replace HBT := Below.cons HBT hb5
      clear hb5
      have hb6 : Below (W5).heap.size (W5) ((W5).alloc (.cells #[.int .u32 1] 72)) := (Below.refl _ _).alloc (Nat.le_refl _) _
      have ho := nlit (l := [1]) _ _ _ (heap_alloc_new (W5) (.cells #[.int .u32 1] 72)) rfl (by decide) (by decide) (by decide)
      obtain ⟨o, Eo⟩ : ∃ zq : Nat, zq = val [1] := ⟨_, rfl⟩
      rw [← Eo] at ho
      have No : nl o = 1 := by rw [Eo]; exact nl_lit (by decide) (by decide)
      have Vo : o = 1 := by rw [Eo]; decide
      have Bo : nl o ≤ 1 := Nat.le_of_eq No
      replace No := Lib.hid No
      replace Eo := Lib.hid Eo
      replace Vo := Lib.hid Vo
      replace hG := hG.below hb6
      replace hl := hl.below hb6
      replace hk := hk.below hb6
      replace ha := ha.below hb6
      replace hm := hm.below hb6
      replace hg := hg.below hb6
      replace HBT := Below.cons HBT hb6
      clear hb6
      go_wp2_with (fail)
      have hgo : g ≠ o := by rw [Eg.out, Vo.out]; exact hgn.out
      replace hgo := Lib.hid hgo
      refine (Calls.mono (at_lenR No.out ((show Calls Tryz.prog 53 _ _ (fun e w' => e = .returned (.bool false) ∧ Below _ _ w') from by have hh := same1_c X5 c5 g _ _ o _ hg ho (by omega) (by omega); rw [decide_eq_false hgo.out] at hh; exact hh))) ?_)
      rintro e W7 ⟨rfl, hb7⟩
      replace hG := hG.below hb7
      replace hl := hl.below hb7
      replace hk := hk.below hb7
      replace ha := ha.below hb7
      replace hm := hm.below hb7
      replace hg := hg.below hb7
      replace ho := ho.below hb7
      replace HBT := Below.cons HBT hb7
      clear hb7
      go_wp2_with (fail)
      go_ret
      exact ⟨rfl, HBT⟩

end Go.Proofs.YtpaffggdeedopaaGreatDoor

set_option linter.unusedVariables false
set_option linter.unusedSimpArgs false
namespace Go.Proofs.YtpaffggdeedopaaGreatDoor
open Go.RowKit Go.ChangeShapes Go.WideShapes Go.ChangeAt

theorem gcdInverse_lifted (os : Os) (started : os.Started) (H : Type) (enc : TypeId × Value → H) :
    ReturnsInHanded {} Tryz.checked os 9 .any (fun w args => (Rows.gcdInverseSpec.pre enc Tryz.prog Tryz.f9 [] false w args ∧ laidMetH Tryz.prog [("ziggurat/ntt.fields", Rows.laid_ziggurat_ntt_fields)] w) ∧ sizedMet enc Tryz.prog Tryz.f9 (OpenSpec.ofChange Rows.gcdInverseSpec) false w args)
      (Rows.gcdInverseSpec.post enc Tryz.prog Tryz.f9 false true false false) := by
  refine returnsInHanded_of_change_and (C := Tryz.checked) (X := fun w _ => laidMetH Tryz.prog [("ziggurat/ntt.fields", Rows.laid_ziggurat_ntt_fields)] w) (fun _ _ _ hh h => h.of_heap hh) row_own started (by kernel_rfl) Tryz.func9
    (ChangeSpec.witness_shaped (enc := enc) (C := Tryz.checked) (os := os) (X := fun w _ => laidMetH Tryz.prog [("ziggurat/ntt.fields", Rows.laid_ziggurat_ntt_fields)] w) false (World.doorLaid Tryz.prog 400 os) #[.slice none 0 0, .slice none 0 0] 8 rfl (World.shaped_of_RefB (by kernel_rfl) (by kernel_rfl)) (by kernel_rfl) (by kernel_rfl) (by kernel_rfl) (door_met os _)) ?_
  intro W base args ds gs before hval0 hW _ _ hL _
  have hval : ∀ (j : Nat) t v, Tryz.f9.params[j]? = some t → args[j]? = some v → Value.okWide Tryz.prog W .any base t v := hval0
  have hW' := hW
  obtain ⟨p, q, hA0, hV, rfl, hfz, hnd⟩ := hW
  have hA : DataW.TrodAll enc Tryz.prog W 0 (fun _ => true) true Tryz.f9.params.toList args.toList ds p := hA0
  rw [Tryz.params9] at hA hval
  obtain ⟨v0, vs0, d0, ds0, p0, q0, hargs, rfl, rfl, h0, r0⟩ := trodAll_cons hA
  obtain ⟨v1, vs1, d1, ds1, p1, q1, rfl, rfl, rfl, h1, r1⟩ := trodAll_cons r0
  obtain ⟨rfl, rfl, rfl⟩ := trodAll_nil r1
  obtain rfl : args = #[v0, v1] := by cases args; simp_all
  obtain ⟨rfl, rfl⟩ := trodVars_none hV
  have hG := flds_of_laid hL
  have k0 := h0
  have lt0 : ∀ x ∈ p0, x.block < W.heap.size := by obtain ⟨m, hm⟩ := k0; exact DataW.trod_lt m _ _ _ hm
  obtain ⟨A0, c0, l0, rfl, i0⟩ := open_natv (hval 0 22 v0 rfl rfl) h0
  have k1 := h1
  have lt1 : ∀ x ∈ p1, x.block < W.heap.size := by obtain ⟨m, hm⟩ := k1; exact DataW.trod_lt m _ _ _ hm
  obtain ⟨A1, c1, l1, rfl, i1⟩ := open_natv (hval 1 22 v1 rfl rfl) h1
  clear hA0 hval0 hval hL
  have hcall := gcdInverse_c A0 c0 l0 A1 c1 l1 W hG i0.1 i0.2.1 i0.2.2.1 i0.2.2.2.1 i0.2.2.2.2 i1.1 i1.2.1 i1.2.2.1 i1.2.2.2.1 i1.2.2.2.2
  refine hcall.mono fun e W' ⟨he, bel⟩ => ?_
  subst he
  exact ⟨_, rfl, _, _, _, [], _, [], hW', trodAll_mk1 (shut_bool Tryz.underlying4 _), (trodAll_cons_mk (Below.trod row_out (by kernel_rfl) (of_decide_eq_true (by kernel_rfl)) k0 bel lt0) (trodAll_cons_mk (Below.trod row_out (by kernel_rfl) (of_decide_eq_true (by kernel_rfl)) k1 bel lt1) trodAll_mk0)), rfl, bel.frame _, fun h => by cases h⟩
theorem gcdInverse_holds : Rows.GcdInverseSaid :=
  OpenClaim.holds_of_wide 9 Tryz.f9 rfl rfl rfl rfl rfl rfl rfl ⟨rfl, rfl, rfl, rfl, rfl⟩ rfl rfl rfl rfl rfl (by kernel_rfl) Tryz.func9 (by kernel_rfl)
    (of_decide_eq_true (by kernel_rfl)) (by unfold Func.isWrapper; first | (rw [if_pos (by decide +kernel)]; kernel_rfl) | (rw [if_neg (by decide +kernel)]; exact ⟨rfl, rfl⟩))
    (fun os started H enc _ => gcdInverse_lifted os started H enc)

/-- The card, tied to the program's text. -/
theorem gcdInverse_card : Rows.GcdInverseCardSaid :=
  Claim7.holds_tied_plain_at .later [] [.data] true (true, "656b37b7ccc5af8af5a85e438c408380abd1ad709ff303cf5fc9993104b47efd") false
    gcdInverse_holds (fun _ h => by cases h) (by kernel_rfl) (fun _ h => by cases h) gcdInverse_row_tie rfl ⟨rfl, rfl⟩ (by kernel_rfl) rfl
    (fun f fn hf hfn => by
      obtain rfl : f = 9 := Option.some.inj ((show Tryz.prog.funcNamed "ziggurat/zigguratlaw07.GcdInverse" = some 9 by kernel_rfl).symm.trans hf) |>.symm
      obtain rfl : fn = Tryz.f9 := (Option.some.inj (Tryz.func9.symm.trans hfn)).symm
      exact ⟨by kernel_rfl, fun j t ht => by
        rw [Tryz.params9] at ht
        have hm : t ∈ [22, 22] := by simpa using Array.mem_of_getElem? ht
        have hall : ([22, 22].all fun u => !Tryz.prog.wantsStandIn u) = true := by kernel_rfl
        exact (show Tryz.prog.wantsStandIn t = false by simpa using List.all_eq_true.1 hall t hm)⟩)
    (by kernel_rfl)
#print axioms gcdInverse_card
end Go.Proofs.YtpaffggdeedopaaGreatDoor
