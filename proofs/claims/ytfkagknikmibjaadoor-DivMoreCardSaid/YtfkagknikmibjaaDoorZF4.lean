/- Laws of division: DivRecip, DivProducts, DivTwice, DivMore. -/
import Derived.Test.YtfkagknikmibjaaDoorZF1
set_option linter.unusedVariables false
set_option linter.unusedSimpArgs false
namespace Go.Proofs.YtfkagknikmibjaaDoor
open Go.RowKit Go.Shelf
attribute [local go_sem] max2_i min2_i max_two min_two

set_option maxRecDepth 100000 in
set_option maxHeartbeats 4000000 in
theorem divRecip_c (A : Option Addr) (c : Nat) (l : List Nat) (x : Nat) (w : World) (hG : Flds w) (hl : Rd w A l) (Ll : Lim l) (Ql : l.length ≤ maxLen) (Cl : l.length ≤ c) (Zl : A = none → c = 0) (hx16 : x < 65536) :
    Calls Tryd.prog 7 #[.slice A l.length c, .int .u16 (x : Nat)] w fun e w' => e = .returned (.bool true) ∧ Below w.heap.size w w' := by
  replace Zl := Lib.hid Zl
  obtain ⟨n, En⟩ : ∃ y, y = x % 2501 := ⟨_, rfl⟩
  have In : (x : Int) % 2501 = (n : Int) := by omega
  have Jn : (x : Int).tmod 2501 = (n : Int) := by rw [Int.tmod_eq_emod_of_nonneg (by omega)]; exact In
  have Bn : n < 2501 := by omega
  replace En := Lib.hid En
  go_enter Tryd.func7, Tryd.ntmps7
  go_wp2_with (fail)
  refine (Calls.mono (head_c _ hG) ?_)
  rintro e W1 ⟨rfl, hb1⟩
  replace hG := hG.below hb1
  replace hl := hl.below hb1
  have HBT := hb1
  clear hb1
  go_wp2_with (fail)
  obtain ⟨b, Eb⟩ : ∃ zq : Nat, zq = val (l.take 40) := ⟨_, rfl⟩
  have Bb : nl b ≤ 40 := by rw [Eb]; exact made_nl l Ll 40
  refine (Calls.mono (R := RetN W1 b) (by rw [Eb]; exact (made_n_c A c 40 l _ hl Ll Ql Cl Zl.out (by decide))) ?_)
  replace Eb := Lib.hid Eb
  rintro e W2 ⟨X2, c2, rfl, hb, hb2⟩
  replace hG := hG.below hb2
  replace hl := hl.below hb2
  replace HBT := Below.cons HBT hb2
  clear hb2
  go_wp2_with (fail)
  by_cases hb0 : b = 0
  · replace hb0 := Lib.hid hb0
    have z1 : ((nl b : Int) == 0) = true := ieqT (by rw [hb0.out, nl_zero]; rfl)
    refine (Calls.mono (drecipZ_c X2 c2 b n _ hb hb0.out (by omega)) ?_)
    rintro e W3 ⟨rfl, hb3⟩
    replace hG := hG.below hb3
    replace hl := hl.below hb3
    replace hb := hb.below hb3
    replace HBT := Below.cons HBT hb3
    clear hb3
    go_wp2_with (fail)
    go_ret
    exact ⟨rfl, HBT⟩
  · have pb1 : 0 < b := by omega
    have z1 : ((nl b : Int) == 0) = false := ieqF (by have := nl_pos.2 (show b ≠ 0 by omega); omega)
    obtain ⟨q, Eq⟩ : ∃ zq : Nat, zq = 2 ^ n / b := ⟨_, rfl⟩
    have Bq : nl q ≤ 80 := by rw [Eq]; exact Nat.le_trans (nl_two (Nat.div_le_self _ _)) (by omega)
    have CT3 := (drecip_c (n - bl b) X2 c2 b n _ hb pb1 (by omega) (by omega) hG (Nat.le_refl _))
    rw [← Eq] at CT3
    replace Eq := Lib.hid Eq
    refine (Calls.mono CT3 ?_)
    clear CT3
    rintro e W3 ⟨Xq, cq, rfl, hq, hb3⟩
    replace hG := hG.below hb3
    replace hl := hl.below hb3
    replace hb := hb.below hb3
    replace HBT := Below.cons HBT hb3
    clear hb3
    have hb4 : Below (W3).heap.size (W3) ((W3).alloc (.cells #[.int .u32 1] 23)) := (Below.refl _ _).alloc (Nat.le_refl _) _
    have ho := nlit (l := [1]) _ _ _ (heap_alloc_new (W3) (.cells #[.int .u32 1] 23)) rfl (by decide) (by decide) (by decide)
    obtain ⟨o, Eo⟩ : ∃ zq : Nat, zq = val [1] := ⟨_, rfl⟩
    rw [← Eo] at ho
    have No : nl o = 1 := by rw [Eo]; exact nl_lit (by decide) (by decide)
    have Vo : o = 1 := by rw [Eo]; decide
    have Bo : nl o ≤ 1 := Nat.le_of_eq No
    replace No := Lib.hid No
    replace Eo := Lib.hid Eo
    replace Vo := Lib.hid Vo
    replace hG := hG.below hb4
    replace hl := hl.below hb4
    replace hb := hb.below hb4
    replace hq := hq.below hb4
    replace HBT := Below.cons HBT hb4
    clear hb4
    go_wp2_with (fail)
    obtain ⟨p, Ep⟩ : ∃ zq : Nat, zq = o * 2 ^ n := ⟨_, rfl⟩
    have Bp : nl p ≤ 90 := by rw [Ep]; have := nl_shl o n; omega
    refine (Calls.mono (R := RetN ((W3).alloc (.cells #[.int .u32 1] 23)) p) (by rw [Ep]; exact (at_len1 No.out (rshl_c _ _ o (n) _ ho (by omega) (by omega)))) ?_)
    replace Ep := Lib.hid Ep
    rintro e W5 ⟨X5, c5, rfl, hp, hb5⟩
    replace hG := hG.below hb5
    replace hl := hl.below hb5
    replace hb := hb.below hb5
    replace hq := hq.below hb5
    replace ho := ho.below hb5
    replace HBT := Below.cons HBT hb5
    clear hb5
    go_wp2_with (fail)
    obtain ⟨h, Eh⟩ : ∃ zq : Nat, zq = q * b := ⟨_, rfl⟩
    have Bh : nl h ≤ 130 := by rw [Eh]; have := nl_mul q b; omega
    refine (Calls.mono (R := RetN W5 h) (by rw [Eh]; exact (rmul_c Xq cq q X2 c2 b _ hq hb (by omega) (by omega))) ?_)
    replace Eh := Lib.hid Eh
    rintro e W6 ⟨X6, c6, rfl, hh, hb6⟩
    replace hG := hG.below hb6
    replace hl := hl.below hb6
    replace hb := hb.below hb6
    replace hq := hq.below hb6
    replace ho := ho.below hb6
    replace hp := hp.below hb6
    replace HBT := Below.cons HBT hb6
    clear hb6
    go_wp2_with (fail)
    have k1 : h ≤ p := by rw [Eh.out, Ep.out, Eq.out, Vo.out, Nat.one_mul]; exact Nat.div_mul_le_self _ _
    have k2 : p < h + b := by rw [Eh.out, Ep.out, Eq.out, Vo.out, Nat.one_mul]; have := Nat.lt_div_mul_add (a := 2 ^ n) pb1; omega
    have t1 : decide (cmpN h p ≤ 0) = true := by rw [decide_eq_true_eq]; exact cmpN_le k1
    replace k1 := Lib.hid k1
    refine (Calls.mono (rcmp_c X6 c6 h X5 c5 p _ hh hp (by omega) (by omega)) ?_)
    rintro e w' ⟨rfl, hw⟩
    first | subst hw | (replace hw := hw.symm; subst hw)
    go_wp2_with (fail)
    obtain ⟨s, Es⟩ : ∃ zq : Nat, zq = h + b := ⟨_, rfl⟩
    have Bs : nl s ≤ 131 := by rw [Es]; have := nl_add h b; omega
    refine (Calls.mono (R := RetN W6 s) (by rw [Es]; exact (radd_c X6 c6 h X2 c2 b _ hh hb (by omega) (by omega))) ?_)
    replace Es := Lib.hid Es
    rintro e W7 ⟨X7, c7, rfl, hs, hb7⟩
    replace hG := hG.below hb7
    replace hl := hl.below hb7
    replace hb := hb.below hb7
    replace hq := hq.below hb7
    replace ho := ho.below hb7
    replace hp := hp.below hb7
    replace hh := hh.below hb7
    replace HBT := Below.cons HBT hb7
    clear hb7
    have t2 : decide (0 < cmpN s p) = true := by rw [decide_eq_true_eq, cmpN_pos, Es.out]; exact k2
    replace k2 := Lib.hid k2
    go_wp2_with (fail)
    refine (Calls.mono (rcmp_c X7 c7 s X5 c5 p _ hs hp (by omega) (by omega)) ?_)
    rintro e w' ⟨rfl, hw⟩
    first | subst hw | (replace hw := hw.symm; subst hw)
    go_wp2_with (fail)
    refine (Calls.mono (rright_c Xq cq q _ hq (by omega)) ?_)
    rintro e w' ⟨rfl, hw⟩
    first | subst hw | (replace hw := hw.symm; subst hw)
    go_wp2_with (fail)
    go_ret
    exact ⟨rfl, HBT⟩

set_option maxRecDepth 100000 in
set_option maxHeartbeats 4000000 in
theorem divProducts_c (A : Option Addr) (c : Nat) (l : List Nat) (B : Option Addr) (d : Nat) (m : List Nat) (D : Option Addr) (f : Nat) (k : List Nat)  (w : World) (hG : Flds w) (hl : Rd w A l) (Ll : Lim l) (Ql : l.length ≤ maxLen) (Cl : l.length ≤ c) (Zl : A = none → c = 0) (hm : Rd w B m) (Lm : Lim m) (Qm : m.length ≤ maxLen) (Cm : m.length ≤ d) (Zm : B = none → d = 0) (hk : Rd w D k) (Lk : Lim k) (Qk : k.length ≤ maxLen) (Ck : k.length ≤ f) (Zk : D = none → f = 0)  :
    Calls Tryd.prog 8 #[.slice A l.length c, .slice B m.length d, .slice D k.length f] w fun e w' => e = .returned (.bool true) ∧ Below w.heap.size w w' := by
  replace Zl := Lib.hid Zl
  replace Zm := Lib.hid Zm
  replace Zk := Lib.hid Zk
  go_enter Tryd.func8, Tryd.ntmps8
  go_wp2_with (fail)
  refine (Calls.mono (head_c _ hG) ?_)
  rintro e W1 ⟨rfl, hb1⟩
  replace hG := hG.below hb1
  replace hl := hl.below hb1
  replace hm := hm.below hb1
  replace hk := hk.below hb1
  have HBT := hb1
  clear hb1
  go_wp2_with (fail)
  obtain ⟨a, Ea⟩ : ∃ zq : Nat, zq = val (l.take 30) := ⟨_, rfl⟩
  have Ba : nl a ≤ 30 := by rw [Ea]; exact made_nl l Ll 30
  refine (Calls.mono (R := RetN W1 a) (by rw [Ea]; exact (made_n_c A c 30 l _ hl Ll Ql Cl Zl.out (by decide))) ?_)
  replace Ea := Lib.hid Ea
  rintro e W2 ⟨X2, c2, rfl, ha, hb2⟩
  replace hG := hG.below hb2
  replace hl := hl.below hb2
  replace hm := hm.below hb2
  replace hk := hk.below hb2
  replace HBT := Below.cons HBT hb2
  clear hb2
  go_wp2_with (fail)
  obtain ⟨b, Eb⟩ : ∃ zq : Nat, zq = val (m.take 30) := ⟨_, rfl⟩
  have Bb : nl b ≤ 30 := by rw [Eb]; exact made_nl m Lm 30
  refine (Calls.mono (R := RetN W2 b) (by rw [Eb]; exact (made_n_c B d 30 m _ hm Lm Qm Cm Zm.out (by decide))) ?_)
  replace Eb := Lib.hid Eb
  rintro e W3 ⟨X3, c3, rfl, hb, hb3⟩
  replace hG := hG.below hb3
  replace hl := hl.below hb3
  replace hm := hm.below hb3
  replace hk := hk.below hb3
  replace ha := ha.below hb3
  replace HBT := Below.cons HBT hb3
  clear hb3
  by_cases hb0 : b = 0
  · replace hb0 := Lib.hid hb0
    have z1 : ((nl b : Int) == 0) = true := ieqT (by rw [hb0.out, nl_zero]; rfl)
    go_wp2_with (fail)
    go_ret
    exact ⟨rfl, HBT⟩
  · have pb1 : 0 < b := by omega
    have z1 : ((nl b : Int) == 0) = false := ieqF (by have := nl_pos.2 (show b ≠ 0 by omega); omega)
    go_wp2_with (fail)
    obtain ⟨g, Eg⟩ : ∃ zq : Nat, zq = val (k.take 30) := ⟨_, rfl⟩
    have Bg : nl g ≤ 30 := by rw [Eg]; exact made_nl k Lk 30
    refine (Calls.mono (R := RetN W3 g) (by rw [Eg]; exact (made_n_c D f 30 k _ hk Lk Qk Ck Zk.out (by decide))) ?_)
    replace Eg := Lib.hid Eg
    rintro e W4 ⟨X4, c4, rfl, hg, hb4⟩
    replace hG := hG.below hb4
    replace hl := hl.below hb4
    replace hm := hm.below hb4
    replace hk := hk.below hb4
    replace ha := ha.below hb4
    replace hb := hb.below hb4
    replace HBT := Below.cons HBT hb4
    clear hb4
    go_wp2_with (fail)
    obtain ⟨g1, Eg1⟩ : ∃ zq : Nat, zq = g / b := ⟨_, rfl⟩
    have Bg1 : nl g1 ≤ 30 := by rw [Eg1]; have := nl_div g b; omega
    obtain ⟨r, Er⟩ : ∃ zq : Nat, zq = g % b := ⟨_, rfl⟩
    have Br : nl r ≤ 30 := by rw [Er]; have := nl_mod_lt g (show b ≠ 0 from Nat.pos_iff_ne_zero.1 (pb1)); omega
    have CT5 := (rdiv_c X4 c4 g X3 c3 b _ hg hb  (by omega) (by omega) (pb1))
    rw [← Eg1, ← Er] at CT5
    replace Eg1 := Lib.hid Eg1
    replace Er := Lib.hid Er
    refine (Calls.mono CT5 ?_)
    clear CT5
    rintro e W5 ⟨Xg1, cg1, Xr, cr, rfl, hg1, hr, hb5⟩
    replace hG := hG.below hb5
    replace hl := hl.below hb5
    replace hm := hm.below hb5
    replace hk := hk.below hb5
    replace ha := ha.below hb5
    replace hb := hb.below hb5
    replace hg := hg.below hb5
    replace HBT := Below.cons HBT hb5
    clear hb5
    go_wp2_with (fail)
    obtain ⟨ab, Eab⟩ : ∃ zq : Nat, zq = a * b := ⟨_, rfl⟩
    have Bab : nl ab ≤ 60 := by rw [Eab]; have := nl_mul a b; omega
    refine (Calls.mono (R := RetN W5 ab) (by rw [Eab]; exact (rmul_c X2 c2 a X3 c3 b _ ha hb (by omega) (by omega))) ?_)
    replace Eab := Lib.hid Eab
    rintro e W6 ⟨X6, c6, rfl, hab, hb6⟩
    replace hG := hG.below hb6
    replace hl := hl.below hb6
    replace hm := hm.below hb6
    replace hk := hk.below hb6
    replace ha := ha.below hb6
    replace hb := hb.below hb6
    replace hg := hg.below hb6
    replace hg1 := hg1.below hb6
    replace hr := hr.below hb6
    replace HBT := Below.cons HBT hb6
    clear hb6
    go_wp2_with (fail)
    obtain ⟨p, Ep⟩ : ∃ zq : Nat, zq = ab + r := ⟨_, rfl⟩
    have Bp : nl p ≤ 61 := by rw [Ep]; have := nl_add ab r; omega
    refine (Calls.mono (R := RetN W6 p) (by rw [Ep]; exact (radd_c X6 c6 ab Xr cr r _ hab hr (by omega) (by omega))) ?_)
    replace Ep := Lib.hid Ep
    rintro e W7 ⟨X7, c7, rfl, hp, hb7⟩
    replace hG := hG.below hb7
    replace hl := hl.below hb7
    replace hm := hm.below hb7
    replace hk := hk.below hb7
    replace ha := ha.below hb7
    replace hb := hb.below hb7
    replace hg := hg.below hb7
    replace hg1 := hg1.below hb7
    replace hr := hr.below hb7
    replace hab := hab.below hb7
    replace HBT := Below.cons HBT hb7
    clear hb7
    go_wp2_with (fail)
    have hp1 : p / b = a ∧ p % b = r := by
      have hrb : r < b := by rw [Er.out]; exact Nat.mod_lt _ pb1
      rw [Ep.out, Eab.out, Nat.mul_comm a b]
      exact ⟨by rw [Nat.mul_add_div pb1, Nat.div_eq_of_lt hrb]; rfl, by rw [Nat.mul_add_mod, Nat.mod_eq_of_lt hrb]⟩
    replace hp1 := Lib.hid hp1
    obtain ⟨q0, Eq0⟩ : ∃ zq : Nat, zq = p / b := ⟨_, rfl⟩
    have Bq0 : nl q0 ≤ 61 := by rw [Eq0]; have := nl_div p b; omega
    obtain ⟨s0, Es0⟩ : ∃ zq : Nat, zq = p % b := ⟨_, rfl⟩
    have Bs0 : nl s0 ≤ 30 := by rw [Es0]; have := nl_mod_lt p (show b ≠ 0 from Nat.pos_iff_ne_zero.1 (pb1)); omega
    have CT8 := (ddivmod_c X7 c7 p X3 c3 b _ hp hb  (by omega) (by omega) (pb1))
    rw [← Eq0, ← Es0] at CT8
    replace Eq0 := Lib.hid Eq0
    replace Es0 := Lib.hid Es0
    refine (Calls.mono CT8 ?_)
    clear CT8
    rintro e W8 ⟨Xq0, cq0, Xs0, cs0, rfl, hq0, hs0, hb8⟩
    replace hG := hG.below hb8
    replace hl := hl.below hb8
    replace hm := hm.below hb8
    replace hk := hk.below hb8
    replace ha := ha.below hb8
    replace hb := hb.below hb8
    replace hg := hg.below hb8
    replace hg1 := hg1.below hb8
    replace hr := hr.below hb8
    replace hab := hab.below hb8
    replace hp := hp.below hb8
    replace HBT := Below.cons HBT hb8
    clear hb8
    go_wp2_with (fail)
    obtain ⟨q1, Eq1⟩ : ∃ zq : Nat, zq = p / b := ⟨_, rfl⟩
    have Bq1 : nl q1 ≤ 61 := by rw [Eq1]; have := nl_div p b; omega
    obtain ⟨s1, Es1⟩ : ∃ zq : Nat, zq = p % b := ⟨_, rfl⟩
    have Bs1 : nl s1 ≤ 30 := by rw [Es1]; have := nl_mod_lt p (show b ≠ 0 from Nat.pos_iff_ne_zero.1 (pb1)); omega
    have CT9 := (dnewton_c X7 c7 p X3 c3 b _ hp hb hG  (by omega) (by omega) (pb1))
    rw [← Eq1, ← Es1] at CT9
    replace Eq1 := Lib.hid Eq1
    replace Es1 := Lib.hid Es1
    refine (Calls.mono CT9 ?_)
    clear CT9
    rintro e W9 ⟨Xq1, cq1, Xs1, cs1, rfl, hq1, hs1, hb9⟩
    replace hG := hG.below hb9
    replace hl := hl.below hb9
    replace hm := hm.below hb9
    replace hk := hk.below hb9
    replace ha := ha.below hb9
    replace hb := hb.below hb9
    replace hg := hg.below hb9
    replace hg1 := hg1.below hb9
    replace hr := hr.below hb9
    replace hab := hab.below hb9
    replace hp := hp.below hb9
    replace hq0 := hq0.below hb9
    replace hs0 := hs0.below hb9
    replace HBT := Below.cons HBT hb9
    clear hb9
    go_wp2_with (fail)
    obtain ⟨q2, Eq2⟩ : ∃ zq : Nat, zq = p / b := ⟨_, rfl⟩
    have Bq2 : nl q2 ≤ 61 := by rw [Eq2]; have := nl_div p b; omega
    obtain ⟨s2, Es2⟩ : ∃ zq : Nat, zq = p % b := ⟨_, rfl⟩
    have Bs2 : nl s2 ≤ 30 := by rw [Es2]; have := nl_mod_lt p (show b ≠ 0 from Nat.pos_iff_ne_zero.1 (pb1)); omega
    have CT10 := (dziegler_c X7 c7 p X3 c3 b _ hp hb hG  (by omega) (by omega) (pb1))
    rw [← Eq2, ← Es2] at CT10
    replace Eq2 := Lib.hid Eq2
    replace Es2 := Lib.hid Es2
    refine (Calls.mono CT10 ?_)
    clear CT10
    rintro e W10 ⟨Xq2, cq2, Xs2, cs2, rfl, hq2, hs2, hb10⟩
    replace hG := hG.below hb10
    replace hl := hl.below hb10
    replace hm := hm.below hb10
    replace hk := hk.below hb10
    replace ha := ha.below hb10
    replace hb := hb.below hb10
    replace hg := hg.below hb10
    replace hg1 := hg1.below hb10
    replace hr := hr.below hb10
    replace hab := hab.below hb10
    replace hp := hp.below hb10
    replace hq0 := hq0.below hb10
    replace hs0 := hs0.below hb10
    replace hq1 := hq1.below hb10
    replace hs1 := hs1.below hb10
    replace HBT := Below.cons HBT hb10
    clear hb10
    go_wp2_with (fail)
    refine (Calls.mono (same1_t Xq0 cq0 q0 X2 c2 a _ hq0 ha (by omega) (by omega) (by rw [Eq0.out]; exact hp1.out.1)) ?_)
    rintro e W11 ⟨rfl, hb11⟩
    replace hG := hG.below hb11
    replace hl := hl.below hb11
    replace hm := hm.below hb11
    replace hk := hk.below hb11
    replace ha := ha.below hb11
    replace hb := hb.below hb11
    replace hg := hg.below hb11
    replace hg1 := hg1.below hb11
    replace hr := hr.below hb11
    replace hab := hab.below hb11
    replace hp := hp.below hb11
    replace hq0 := hq0.below hb11
    replace hs0 := hs0.below hb11
    replace hq1 := hq1.below hb11
    replace hs1 := hs1.below hb11
    replace hq2 := hq2.below hb11
    replace hs2 := hs2.below hb11
    replace HBT := Below.cons HBT hb11
    clear hb11
    go_wp2_with (fail)
    refine (Calls.mono (same1_t Xq1 cq1 q1 X2 c2 a _ hq1 ha (by omega) (by omega) (by rw [Eq1.out]; exact hp1.out.1)) ?_)
    rintro e W12 ⟨rfl, hb12⟩
    replace hG := hG.below hb12
    replace hl := hl.below hb12
    replace hm := hm.below hb12
    replace hk := hk.below hb12
    replace ha := ha.below hb12
    replace hb := hb.below hb12
    replace hg := hg.below hb12
    replace hg1 := hg1.below hb12
    replace hr := hr.below hb12
    replace hab := hab.below hb12
    replace hp := hp.below hb12
    replace hq0 := hq0.below hb12
    replace hs0 := hs0.below hb12
    replace hq1 := hq1.below hb12
    replace hs1 := hs1.below hb12
    replace hq2 := hq2.below hb12
    replace hs2 := hs2.below hb12
    replace HBT := Below.cons HBT hb12
    clear hb12
    go_wp2_with (fail)
    refine (Calls.mono (same1_t Xq2 cq2 q2 X2 c2 a _ hq2 ha (by omega) (by omega) (by rw [Eq2.out]; exact hp1.out.1)) ?_)
    rintro e W13 ⟨rfl, hb13⟩
    replace hG := hG.below hb13
    replace hl := hl.below hb13
    replace hm := hm.below hb13
    replace hk := hk.below hb13
    replace ha := ha.below hb13
    replace hb := hb.below hb13
    replace hg := hg.below hb13
    replace hg1 := hg1.below hb13
    replace hr := hr.below hb13
    replace hab := hab.below hb13
    replace hp := hp.below hb13
    replace hq0 := hq0.below hb13
    replace hs0 := hs0.below hb13
    replace hq1 := hq1.below hb13
    replace hs1 := hs1.below hb13
    replace hq2 := hq2.below hb13
    replace hs2 := hs2.below hb13
    replace HBT := Below.cons HBT hb13
    clear hb13
    go_wp2_with (fail)
    refine (Calls.mono (same1_t Xs0 cs0 s0 Xr cr r _ hs0 hr (by omega) (by omega) (by rw [Es0.out]; exact hp1.out.2)) ?_)
    rintro e W14 ⟨rfl, hb14⟩
    replace hG := hG.below hb14
    replace hl := hl.below hb14
    replace hm := hm.below hb14
    replace hk := hk.below hb14
    replace ha := ha.below hb14
    replace hb := hb.below hb14
    replace hg := hg.below hb14
    replace hg1 := hg1.below hb14
    replace hr := hr.below hb14
    replace hab := hab.below hb14
    replace hp := hp.below hb14
    replace hq0 := hq0.below hb14
    replace hs0 := hs0.below hb14
    replace hq1 := hq1.below hb14
    replace hs1 := hs1.below hb14
    replace hq2 := hq2.below hb14
    replace hs2 := hs2.below hb14
    replace HBT := Below.cons HBT hb14
    clear hb14
    go_wp2_with (fail)
    refine (Calls.mono (same1_t Xs1 cs1 s1 Xr cr r _ hs1 hr (by omega) (by omega) (by rw [Es1.out]; exact hp1.out.2)) ?_)
    rintro e W15 ⟨rfl, hb15⟩
    replace hG := hG.below hb15
    replace hl := hl.below hb15
    replace hm := hm.below hb15
    replace hk := hk.below hb15
    replace ha := ha.below hb15
    replace hb := hb.below hb15
    replace hg := hg.below hb15
    replace hg1 := hg1.below hb15
    replace hr := hr.below hb15
    replace hab := hab.below hb15
    replace hp := hp.below hb15
    replace hq0 := hq0.below hb15
    replace hs0 := hs0.below hb15
    replace hq1 := hq1.below hb15
    replace hs1 := hs1.below hb15
    replace hq2 := hq2.below hb15
    replace hs2 := hs2.below hb15
    replace HBT := Below.cons HBT hb15
    clear hb15
    go_wp2_with (fail)
    refine (Calls.mono (same1_t Xs2 cs2 s2 Xr cr r _ hs2 hr (by omega) (by omega) (by rw [Es2.out]; exact hp1.out.2)) ?_)
    rintro e W16 ⟨rfl, hb16⟩
    replace hG := hG.below hb16
    replace hl := hl.below hb16
    replace hm := hm.below hb16
    replace hk := hk.below hb16
    replace ha := ha.below hb16
    replace hb := hb.below hb16
    replace hg := hg.below hb16
    replace hg1 := hg1.below hb16
    replace hr := hr.below hb16
    replace hab := hab.below hb16
    replace hp := hp.below hb16
    replace hq0 := hq0.below hb16
    replace hs0 := hs0.below hb16
    replace hq1 := hq1.below hb16
    replace hs1 := hs1.below hb16
    replace hq2 := hq2.below hb16
    replace hs2 := hs2.below hb16
    replace HBT := Below.cons HBT hb16
    clear hb16
    go_wp2_with (fail)
    go_ret
    exact ⟨rfl, HBT⟩

set_option maxRecDepth 100000 in
set_option maxHeartbeats 4000000 in
theorem divTwice_c (A : Option Addr) (c : Nat) (l : List Nat) (B : Option Addr) (d : Nat) (m : List Nat) (D : Option Addr) (f : Nat) (k : List Nat)  (w : World) (hG : Flds w) (hl : Rd w A l) (Ll : Lim l) (Ql : l.length ≤ maxLen) (Cl : l.length ≤ c) (Zl : A = none → c = 0) (hm : Rd w B m) (Lm : Lim m) (Qm : m.length ≤ maxLen) (Cm : m.length ≤ d) (Zm : B = none → d = 0) (hk : Rd w D k) (Lk : Lim k) (Qk : k.length ≤ maxLen) (Ck : k.length ≤ f) (Zk : D = none → f = 0)  :
    Calls Tryd.prog 9 #[.slice A l.length c, .slice B m.length d, .slice D k.length f] w fun e w' => e = .returned (.bool true) ∧ Below w.heap.size w w' := by
  replace Zl := Lib.hid Zl
  replace Zm := Lib.hid Zm
  replace Zk := Lib.hid Zk
  go_enter Tryd.func9, Tryd.ntmps9
  go_wp2_with (fail)
  refine (Calls.mono (head_c _ hG) ?_)
  rintro e W1 ⟨rfl, hb1⟩
  replace hG := hG.below hb1
  replace hl := hl.below hb1
  replace hm := hm.below hb1
  replace hk := hk.below hb1
  have HBT := hb1
  clear hb1
  go_wp2_with (fail)
  obtain ⟨a, Ea⟩ : ∃ zq : Nat, zq = val (l.take 40) := ⟨_, rfl⟩
  have Ba : nl a ≤ 40 := by rw [Ea]; exact made_nl l Ll 40
  refine (Calls.mono (R := RetN W1 a) (by rw [Ea]; exact (made_n_c A c 40 l _ hl Ll Ql Cl Zl.out (by decide))) ?_)
  replace Ea := Lib.hid Ea
  rintro e W2 ⟨X2, c2, rfl, ha, hb2⟩
  replace hG := hG.below hb2
  replace hl := hl.below hb2
  replace hm := hm.below hb2
  replace hk := hk.below hb2
  replace HBT := Below.cons HBT hb2
  clear hb2
  go_wp2_with (fail)
  obtain ⟨b, Eb⟩ : ∃ zq : Nat, zq = val (m.take 15) := ⟨_, rfl⟩
  have Bb : nl b ≤ 15 := by rw [Eb]; exact made_nl m Lm 15
  refine (Calls.mono (R := RetN W2 b) (by rw [Eb]; exact (made_n_c B d 15 m _ hm Lm Qm Cm Zm.out (by decide))) ?_)
  replace Eb := Lib.hid Eb
  rintro e W3 ⟨X3, c3, rfl, hb, hb3⟩
  replace hG := hG.below hb3
  replace hl := hl.below hb3
  replace hm := hm.below hb3
  replace hk := hk.below hb3
  replace ha := ha.below hb3
  replace HBT := Below.cons HBT hb3
  clear hb3
  go_wp2_with (fail)
  obtain ⟨g, Eg⟩ : ∃ zq : Nat, zq = val (k.take 15) := ⟨_, rfl⟩
  have Bg : nl g ≤ 15 := by rw [Eg]; exact made_nl k Lk 15
  refine (Calls.mono (R := RetN W3 g) (by rw [Eg]; exact (made_n_c D f 15 k _ hk Lk Qk Ck Zk.out (by decide))) ?_)
  replace Eg := Lib.hid Eg
  rintro e W4 ⟨X4, c4, rfl, hg, hb4⟩
  replace hG := hG.below hb4
  replace hl := hl.below hb4
  replace hm := hm.below hb4
  replace hk := hk.below hb4
  replace ha := ha.below hb4
  replace hb := hb.below hb4
  replace HBT := Below.cons HBT hb4
  clear hb4
  by_cases hb0 : b = 0
  · replace hb0 := Lib.hid hb0
    have z1 : ((nl b : Int) == 0) = true := ieqT (by rw [hb0.out, nl_zero]; rfl)
    go_wp2_with (fail)
    go_ret
    exact ⟨rfl, HBT⟩
  by_cases hg0 : g = 0
  · replace hg0 := Lib.hid hg0
    have z1 : ((nl b : Int) == 0) = false := ieqF (by have := nl_pos.2 (show b ≠ 0 by omega); omega)
    have z2 : ((nl g : Int) == 0) = true := ieqT (by rw [hg0.out, nl_zero]; rfl)
    go_wp2_with (fail)
    go_ret
    exact ⟨rfl, HBT⟩
  · have pb1 : 0 < b := by omega
    have pg1 : 0 < g := by omega
    have z1 : ((nl b : Int) == 0) = false := ieqF (by have := nl_pos.2 (show b ≠ 0 by omega); omega)
    have z2 : ((nl g : Int) == 0) = false := ieqF (by have := nl_pos.2 (show g ≠ 0 by omega); omega)
    go_wp2_with (fail)
    obtain ⟨q, Eq⟩ : ∃ zq : Nat, zq = a / b := ⟨_, rfl⟩
    have Bq : nl q ≤ 40 := by rw [Eq]; have := nl_div a b; omega
    obtain ⟨r, Er⟩ : ∃ zq : Nat, zq = a % b := ⟨_, rfl⟩
    have Br : nl r ≤ 15 := by rw [Er]; have := nl_mod_lt a (show b ≠ 0 from Nat.pos_iff_ne_zero.1 (pb1)); omega
    have CT5 := (ddivmod_c X2 c2 a X3 c3 b _ ha hb  (by omega) (by omega) (pb1))
    rw [← Eq, ← Er] at CT5
    replace Eq := Lib.hid Eq
    replace Er := Lib.hid Er
    refine (Calls.mono CT5 ?_)
    clear CT5
    rintro e W5 ⟨Xq, cq, Xr, cr, rfl, hq, hr, hb5⟩
    replace hG := hG.below hb5
    replace hl := hl.below hb5
    replace hm := hm.below hb5
    replace hk := hk.below hb5
    replace ha := ha.below hb5
    replace hb := hb.below hb5
    replace hg := hg.below hb5
    replace HBT := Below.cons HBT hb5
    clear hb5
    go_wp2_with (fail)
    obtain ⟨s, Es⟩ : ∃ zq : Nat, zq = q / g := ⟨_, rfl⟩
    have Bs : nl s ≤ 40 := by rw [Es]; have := nl_div q g; omega
    obtain ⟨t, Et⟩ : ∃ zq : Nat, zq = q % g := ⟨_, rfl⟩
    have Bt : nl t ≤ 15 := by rw [Et]; have := nl_mod_lt q (show g ≠ 0 from Nat.pos_iff_ne_zero.1 (pg1)); omega
    have CT6 := (dnewton_c Xq cq q X4 c4 g _ hq hg hG  (by omega) (by omega) (pg1))
    rw [← Es, ← Et] at CT6
    replace Es := Lib.hid Es
    replace Et := Lib.hid Et
    refine (Calls.mono CT6 ?_)
    clear CT6
    rintro e W6 ⟨Xs, cs, Xt, ct, rfl, hs, ht, hb6⟩
    replace hG := hG.below hb6
    replace hl := hl.below hb6
    replace hm := hm.below hb6
    replace hk := hk.below hb6
    replace ha := ha.below hb6
    replace hb := hb.below hb6
    replace hg := hg.below hb6
    replace hq := hq.below hb6
    replace hr := hr.below hb6
    replace HBT := Below.cons HBT hb6
    clear hb6
    go_wp2_with (fail)
    obtain ⟨bg, Ebg⟩ : ∃ zq : Nat, zq = b * g := ⟨_, rfl⟩
    have Bbg : nl bg ≤ 30 := by rw [Ebg]; have := nl_mul b g; omega
    refine (Calls.mono (R := RetN W6 bg) (by rw [Ebg]; exact (rmul_c X3 c3 b X4 c4 g _ hb hg (by omega) (by omega))) ?_)
    replace Ebg := Lib.hid Ebg
    rintro e W7 ⟨X7, c7, rfl, hbg, hb7⟩
    replace hG := hG.below hb7
    replace hl := hl.below hb7
    replace hm := hm.below hb7
    replace hk := hk.below hb7
    replace ha := ha.below hb7
    replace hb := hb.below hb7
    replace hg := hg.below hb7
    replace hq := hq.below hb7
    replace hr := hr.below hb7
    replace hs := hs.below hb7
    replace ht := ht.below hb7
    replace HBT := Below.cons HBT hb7
    clear hb7
    have pbg : 0 < bg := by rw [Ebg.out]; exact Nat.mul_pos pb1 pg1
    go_wp2_with (fail)
    obtain ⟨u, Eu⟩ : ∃ zq : Nat, zq = a / bg := ⟨_, rfl⟩
    have Bu : nl u ≤ 40 := by rw [Eu]; have := nl_div a bg; omega
    obtain ⟨v, Ev⟩ : ∃ zq : Nat, zq = a % bg := ⟨_, rfl⟩
    have Bv : nl v ≤ 30 := by rw [Ev]; have := nl_mod_lt a (show bg ≠ 0 from Nat.pos_iff_ne_zero.1 (pbg)); omega
    have CT8 := (dziegler_c X2 c2 a X7 c7 bg _ ha hbg hG  (by omega) (by omega) (pbg))
    rw [← Eu, ← Ev] at CT8
    replace Eu := Lib.hid Eu
    replace Ev := Lib.hid Ev
    refine (Calls.mono CT8 ?_)
    clear CT8
    rintro e W8 ⟨Xu, cu, Xv, cv, rfl, hu, hv, hb8⟩
    replace hG := hG.below hb8
    replace hl := hl.below hb8
    replace hm := hm.below hb8
    replace hk := hk.below hb8
    replace ha := ha.below hb8
    replace hb := hb.below hb8
    replace hg := hg.below hb8
    replace hq := hq.below hb8
    replace hr := hr.below hb8
    replace hs := hs.below hb8
    replace ht := ht.below hb8
    replace hbg := hbg.below hb8
    replace HBT := Below.cons HBT hb8
    clear hb8
    go_wp2_with (fail)
    refine (Calls.mono (same1_t Xs cs s Xu cu u _ hs hu (by omega) (by omega) (by rw [Es.out, Eu.out, Eq.out, Ebg.out, Nat.div_div_eq_div_mul])) ?_)
    rintro e W9 ⟨rfl, hb9⟩
    replace hG := hG.below hb9
    replace hl := hl.below hb9
    replace hm := hm.below hb9
    replace hk := hk.below hb9
    replace ha := ha.below hb9
    replace hb := hb.below hb9
    replace hg := hg.below hb9
    replace hq := hq.below hb9
    replace hr := hr.below hb9
    replace hs := hs.below hb9
    replace ht := ht.below hb9
    replace hbg := hbg.below hb9
    replace hu := hu.below hb9
    replace hv := hv.below hb9
    replace HBT := Below.cons HBT hb9
    clear hb9
    go_wp2_with (fail)
    obtain ⟨tb, Etb⟩ : ∃ zq : Nat, zq = t * b := ⟨_, rfl⟩
    have Btb : nl tb ≤ 30 := by rw [Etb]; have := nl_mul t b; omega
    refine (Calls.mono (R := RetN W9 tb) (by rw [Etb]; exact (rmul_c Xt ct t X3 c3 b _ ht hb (by omega) (by omega))) ?_)
    replace Etb := Lib.hid Etb
    rintro e W10 ⟨X10, c10, rfl, htb, hb10⟩
    replace hG := hG.below hb10
    replace hl := hl.below hb10
    replace hm := hm.below hb10
    replace hk := hk.below hb10
    replace ha := ha.below hb10
    replace hb := hb.below hb10
    replace hg := hg.below hb10
    replace hq := hq.below hb10
    replace hr := hr.below hb10
    replace hs := hs.below hb10
    replace ht := ht.below hb10
    replace hbg := hbg.below hb10
    replace hu := hu.below hb10
    replace hv := hv.below hb10
    replace HBT := Below.cons HBT hb10
    clear hb10
    go_wp2_with (fail)
    obtain ⟨z, Ez⟩ : ∃ zq : Nat, zq = tb + r := ⟨_, rfl⟩
    have Bz : nl z ≤ 31 := by rw [Ez]; have := nl_add tb r; omega
    refine (Calls.mono (R := RetN W10 z) (by rw [Ez]; exact (radd_c X10 c10 tb Xr cr r _ htb hr (by omega) (by omega))) ?_)
    replace Ez := Lib.hid Ez
    rintro e W11 ⟨X11, c11, rfl, hz, hb11⟩
    replace hG := hG.below hb11
    replace hl := hl.below hb11
    replace hm := hm.below hb11
    replace hk := hk.below hb11
    replace ha := ha.below hb11
    replace hb := hb.below hb11
    replace hg := hg.below hb11
    replace hq := hq.below hb11
    replace hr := hr.below hb11
    replace hs := hs.below hb11
    replace ht := ht.below hb11
    replace hbg := hbg.below hb11
    replace hu := hu.below hb11
    replace hv := hv.below hb11
    replace htb := htb.below hb11
    replace HBT := Below.cons HBT hb11
    clear hb11
    go_wp2_with (fail)
    refine (Calls.mono (same1_t X11 c11 z Xv cv v _ hz hv (by omega) (by omega) (by rw [Ez.out, Etb.out, Et.out, Er.out, Ev.out, Ebg.out, Eq.out, Nat.mod_mul]; rw [Nat.mul_comm (a / b % g) b, Nat.add_comm])) ?_)
    rintro e W12 ⟨rfl, hb12⟩
    replace hG := hG.below hb12
    replace hl := hl.below hb12
    replace hm := hm.below hb12
    replace hk := hk.below hb12
    replace ha := ha.below hb12
    replace hb := hb.below hb12
    replace hg := hg.below hb12
    replace hq := hq.below hb12
    replace hr := hr.below hb12
    replace hs := hs.below hb12
    replace ht := ht.below hb12
    replace hbg := hbg.below hb12
    replace hu := hu.below hb12
    replace hv := hv.below hb12
    replace htb := htb.below hb12
    replace hz := hz.below hb12
    replace HBT := Below.cons HBT hb12
    clear hb12
    go_wp2_with (fail)
    go_ret
    exact ⟨rfl, HBT⟩

set_option maxRecDepth 100000 in
set_option maxHeartbeats 4000000 in
theorem divMore_c (A : Option Addr) (c : Nat) (l : List Nat) (B : Option Addr) (d : Nat) (m : List Nat) (D : Option Addr) (f : Nat) (k : List Nat)  (w : World) (hG : Flds w) (hl : Rd w A l) (Ll : Lim l) (Ql : l.length ≤ maxLen) (Cl : l.length ≤ c) (Zl : A = none → c = 0) (hm : Rd w B m) (Lm : Lim m) (Qm : m.length ≤ maxLen) (Cm : m.length ≤ d) (Zm : B = none → d = 0) (hk : Rd w D k) (Lk : Lim k) (Qk : k.length ≤ maxLen) (Ck : k.length ≤ f) (Zk : D = none → f = 0)  :
    Calls Tryd.prog 10 #[.slice A l.length c, .slice B m.length d, .slice D k.length f] w fun e w' => e = .returned (.bool true) ∧ Below w.heap.size w w' := by
  replace Zl := Lib.hid Zl
  replace Zm := Lib.hid Zm
  replace Zk := Lib.hid Zk
  go_enter Tryd.func10, Tryd.ntmps10
  go_wp2_with (fail)
  refine (Calls.mono (head_c _ hG) ?_)
  rintro e W1 ⟨rfl, hb1⟩
  replace hG := hG.below hb1
  replace hl := hl.below hb1
  replace hm := hm.below hb1
  replace hk := hk.below hb1
  have HBT := hb1
  clear hb1
  go_wp2_with (fail)
  obtain ⟨a, Ea⟩ : ∃ zq : Nat, zq = val (l.take 30) := ⟨_, rfl⟩
  have Ba : nl a ≤ 30 := by rw [Ea]; exact made_nl l Ll 30
  refine (Calls.mono (R := RetN W1 a) (by rw [Ea]; exact (made_n_c A c 30 l _ hl Ll Ql Cl Zl.out (by decide))) ?_)
  replace Ea := Lib.hid Ea
  rintro e W2 ⟨X2, c2, rfl, ha, hb2⟩
  replace hG := hG.below hb2
  replace hl := hl.below hb2
  replace hm := hm.below hb2
  replace hk := hk.below hb2
  replace HBT := Below.cons HBT hb2
  clear hb2
  go_wp2_with (fail)
  obtain ⟨b, Eb⟩ : ∃ zq : Nat, zq = val (m.take 30) := ⟨_, rfl⟩
  have Bb : nl b ≤ 30 := by rw [Eb]; exact made_nl m Lm 30
  refine (Calls.mono (R := RetN W2 b) (by rw [Eb]; exact (made_n_c B d 30 m _ hm Lm Qm Cm Zm.out (by decide))) ?_)
  replace Eb := Lib.hid Eb
  rintro e W3 ⟨X3, c3, rfl, hb, hb3⟩
  replace hG := hG.below hb3
  replace hl := hl.below hb3
  replace hm := hm.below hb3
  replace hk := hk.below hb3
  replace ha := ha.below hb3
  replace HBT := Below.cons HBT hb3
  clear hb3
  go_wp2_with (fail)
  obtain ⟨g, Eg⟩ : ∃ zq : Nat, zq = val (k.take 20) := ⟨_, rfl⟩
  have Bg : nl g ≤ 20 := by rw [Eg]; exact made_nl k Lk 20
  refine (Calls.mono (R := RetN W3 g) (by rw [Eg]; exact (made_n_c D f 20 k _ hk Lk Qk Ck Zk.out (by decide))) ?_)
  replace Eg := Lib.hid Eg
  rintro e W4 ⟨X4, c4, rfl, hg, hb4⟩
  replace hG := hG.below hb4
  replace hl := hl.below hb4
  replace hm := hm.below hb4
  replace hk := hk.below hb4
  replace ha := ha.below hb4
  replace hb := hb.below hb4
  replace HBT := Below.cons HBT hb4
  clear hb4
  by_cases hb0 : b = 0
  · replace hb0 := Lib.hid hb0
    have z1 : ((nl b : Int) == 0) = true := ieqT (by rw [hb0.out, nl_zero]; rfl)
    go_wp2_with (fail)
    go_ret
    exact ⟨rfl, HBT⟩
  · have pb1 : 0 < b := by omega
    have z1 : ((nl b : Int) == 0) = false := ieqF (by have := nl_pos.2 (show b ≠ 0 by omega); omega)
    go_wp2_with (fail)
    obtain ⟨q, Eq⟩ : ∃ zq : Nat, zq = a / b := ⟨_, rfl⟩
    have Bq : nl q ≤ 30 := by rw [Eq]; have := nl_div a b; omega
    obtain ⟨r, Er⟩ : ∃ zq : Nat, zq = a % b := ⟨_, rfl⟩
    have Br : nl r ≤ 30 := by rw [Er]; have := nl_mod_lt a (show b ≠ 0 from Nat.pos_iff_ne_zero.1 (pb1)); omega
    have CT5 := (dziegler_c X2 c2 a X3 c3 b _ ha hb hG  (by omega) (by omega) (pb1))
    rw [← Eq, ← Er] at CT5
    replace Eq := Lib.hid Eq
    replace Er := Lib.hid Er
    refine (Calls.mono CT5 ?_)
    clear CT5
    rintro e W5 ⟨Xq, cq, Xr, cr, rfl, hq, hr, hb5⟩
    replace hG := hG.below hb5
    replace hl := hl.below hb5
    replace hm := hm.below hb5
    replace hk := hk.below hb5
    replace ha := ha.below hb5
    replace hb := hb.below hb5
    replace hg := hg.below hb5
    replace HBT := Below.cons HBT hb5
    clear hb5
    go_wp2_with (fail)
    obtain ⟨bg, Ebg⟩ : ∃ zq : Nat, zq = b * g := ⟨_, rfl⟩
    have Bbg : nl bg ≤ 50 := by rw [Ebg]; have := nl_mul b g; omega
    refine (Calls.mono (R := RetN W5 bg) (by rw [Ebg]; exact (rmul_c X3 c3 b X4 c4 g _ hb hg (by omega) (by omega))) ?_)
    replace Ebg := Lib.hid Ebg
    rintro e W6 ⟨X6, c6, rfl, hbg, hb6⟩
    replace hG := hG.below hb6
    replace hl := hl.below hb6
    replace hm := hm.below hb6
    replace hk := hk.below hb6
    replace ha := ha.below hb6
    replace hb := hb.below hb6
    replace hg := hg.below hb6
    replace hq := hq.below hb6
    replace hr := hr.below hb6
    replace HBT := Below.cons HBT hb6
    clear hb6
    go_wp2_with (fail)
    obtain ⟨p, Ep⟩ : ∃ zq : Nat, zq = a + bg := ⟨_, rfl⟩
    have Bp : nl p ≤ 51 := by rw [Ep]; have := nl_add a bg; omega
    refine (Calls.mono (R := RetN W6 p) (by rw [Ep]; exact (radd_c X2 c2 a X6 c6 bg _ ha hbg (by omega) (by omega))) ?_)
    replace Ep := Lib.hid Ep
    rintro e W7 ⟨X7, c7, rfl, hp, hb7⟩
    replace hG := hG.below hb7
    replace hl := hl.below hb7
    replace hm := hm.below hb7
    replace hk := hk.below hb7
    replace ha := ha.below hb7
    replace hb := hb.below hb7
    replace hg := hg.below hb7
    replace hq := hq.below hb7
    replace hr := hr.below hb7
    replace hbg := hbg.below hb7
    replace HBT := Below.cons HBT hb7
    clear hb7
    go_wp2_with (fail)
    obtain ⟨s, Es⟩ : ∃ zq : Nat, zq = p / b := ⟨_, rfl⟩
    have Bs : nl s ≤ 51 := by rw [Es]; have := nl_div p b; omega
    obtain ⟨t, Et⟩ : ∃ zq : Nat, zq = p % b := ⟨_, rfl⟩
    have Bt : nl t ≤ 30 := by rw [Et]; have := nl_mod_lt p (show b ≠ 0 from Nat.pos_iff_ne_zero.1 (pb1)); omega
    have CT8 := (ddivmod_c X7 c7 p X3 c3 b _ hp hb  (by omega) (by omega) (pb1))
    rw [← Es, ← Et] at CT8
    replace Es := Lib.hid Es
    replace Et := Lib.hid Et
    refine (Calls.mono CT8 ?_)
    clear CT8
    rintro e W8 ⟨Xs, cs, Xt, ct, rfl, hs, ht, hb8⟩
    replace hG := hG.below hb8
    replace hl := hl.below hb8
    replace hm := hm.below hb8
    replace hk := hk.below hb8
    replace ha := ha.below hb8
    replace hb := hb.below hb8
    replace hg := hg.below hb8
    replace hq := hq.below hb8
    replace hr := hr.below hb8
    replace hbg := hbg.below hb8
    replace hp := hp.below hb8
    replace HBT := Below.cons HBT hb8
    clear hb8
    go_wp2_with (fail)
    obtain ⟨z, Ez⟩ : ∃ zq : Nat, zq = q + g := ⟨_, rfl⟩
    have Bz : nl z ≤ 31 := by rw [Ez]; have := nl_add q g; omega
    refine (Calls.mono (R := RetN W8 z) (by rw [Ez]; exact (radd_c Xq cq q X4 c4 g _ hq hg (by omega) (by omega))) ?_)
    replace Ez := Lib.hid Ez
    rintro e W9 ⟨X9, c9, rfl, hz, hb9⟩
    replace hG := hG.below hb9
    replace hl := hl.below hb9
    replace hm := hm.below hb9
    replace hk := hk.below hb9
    replace ha := ha.below hb9
    replace hb := hb.below hb9
    replace hg := hg.below hb9
    replace hq := hq.below hb9
    replace hr := hr.below hb9
    replace hbg := hbg.below hb9
    replace hp := hp.below hb9
    replace hs := hs.below hb9
    replace ht := ht.below hb9
    replace HBT := Below.cons HBT hb9
    clear hb9
    go_wp2_with (fail)
    refine (Calls.mono (same1_t Xs cs s X9 c9 z _ hs hz (by omega) (by omega) (by rw [Es.out, Ez.out, Ep.out, Eq.out, Ebg.out, Nat.add_mul_div_left _ _ pb1])) ?_)
    rintro e W10 ⟨rfl, hb10⟩
    replace hG := hG.below hb10
    replace hl := hl.below hb10
    replace hm := hm.below hb10
    replace hk := hk.below hb10
    replace ha := ha.below hb10
    replace hb := hb.below hb10
    replace hg := hg.below hb10
    replace hq := hq.below hb10
    replace hr := hr.below hb10
    replace hbg := hbg.below hb10
    replace hp := hp.below hb10
    replace hs := hs.below hb10
    replace ht := ht.below hb10
    replace hz := hz.below hb10
    replace HBT := Below.cons HBT hb10
    clear hb10
    go_wp2_with (fail)
    refine (Calls.mono (same1_t Xt ct t Xr cr r _ ht hr (by omega) (by omega) (by rw [Et.out, Er.out, Ep.out, Ebg.out, Nat.add_mul_mod_self_left])) ?_)
    rintro e W11 ⟨rfl, hb11⟩
    replace hG := hG.below hb11
    replace hl := hl.below hb11
    replace hm := hm.below hb11
    replace hk := hk.below hb11
    replace ha := ha.below hb11
    replace hb := hb.below hb11
    replace hg := hg.below hb11
    replace hq := hq.below hb11
    replace hr := hr.below hb11
    replace hbg := hbg.below hb11
    replace hp := hp.below hb11
    replace hs := hs.below hb11
    replace ht := ht.below hb11
    replace hz := hz.below hb11
    replace HBT := Below.cons HBT hb11
    clear hb11
    go_wp2_with (fail)
    go_ret
    exact ⟨rfl, HBT⟩

end Go.Proofs.YtfkagknikmibjaaDoor
