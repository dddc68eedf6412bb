/- Laws of division: DivShift. -/
import Derived.Test.YtfkagknikmibjaaDoorZF1
set_option linter.unusedVariables false
set_option linter.unusedSimpArgs false
namespace Go.Proofs.YtfkagknikmibjaaDoor
open Go.RowKit Go.Shelf
attribute [local go_sem] max2_i min2_i max_two min_two

theorem shift_div {a b n : Nat} : (a * 2 ^ n) / (b * 2 ^ n) = a / b := Nat.mul_div_mul_right _ _ (Nat.two_pow_pos n)
theorem shift_mod {a b n : Nat} : (a * 2 ^ n) % (b * 2 ^ n) = a % b * 2 ^ n := Nat.mul_mod_mul_right _ _ _
theorem bl_le_of {a n : Nat} (h : a < 2 ^ n) (h0 : 0 < a) : bl a ≤ n := by
  have h1 := bl_ge (show a ≠ 0 by omega)
  have h2 := bl_pos (show a ≠ 0 by omega)
  have := (Nat.pow_lt_pow_iff_right (by decide : 1 < 2)).1 (Nat.lt_of_le_of_lt h1 h)
  omega
set_option maxRecDepth 100000 in
set_option maxHeartbeats 4000000 in
theorem divShift_c (A : Option Addr) (c : Nat) (l : List Nat) (B : Option Addr) (d : Nat) (m : List Nat) (x : Nat) (w : World) (hG : Flds w) (hl : Rd w A l) (Ll : Lim l) (Ql : l.length ≤ maxLen) (Cl : l.length ≤ c) (Zl : A = none → c = 0) (hm : Rd w B m) (Lm : Lim m) (Qm : m.length ≤ maxLen) (Cm : m.length ≤ d) (Zm : B = none → d = 0) (hx16 : x < 65536) :
    Calls Tryd.prog 11 #[.slice A l.length c, .slice B m.length d, .int .u16 (x : Nat)] w fun e w' => e = .returned (.bool true) ∧ Below w.heap.size w w' := by
  replace Zl := Lib.hid Zl
  replace Zm := Lib.hid Zm
  obtain ⟨n, En⟩ : ∃ y, y = x % 301 := ⟨_, rfl⟩
  have In : (x : Int) % 301 = (n : Int) := by omega
  have Jn : (x : Int).tmod 301 = (n : Int) := by rw [Int.tmod_eq_emod_of_nonneg (by omega)]; exact In
  have Bn : n < 301 := by omega
  replace En := Lib.hid En
  go_enter Tryd.func11, Tryd.ntmps11
  go_wp2_with (fail)
  refine (Calls.mono (head_c _ hG) ?_)
  rintro e W1 ⟨rfl, hb1⟩
  replace hG := hG.below hb1
  replace hl := hl.below hb1
  replace hm := hm.below hb1
  have HBT := hb1
  clear hb1
  go_wp2_with (fail)
  obtain ⟨a, Ea⟩ : ∃ zq : Nat, zq = val (l.take 30) := ⟨_, rfl⟩
  have Ba : nl a ≤ 30 := by rw [Ea]; exact made_nl l Ll 30
  refine (Calls.mono (R := RetN W1 a) (by rw [Ea]; exact (made_n_c A c 30 l _ hl Ll Ql Cl Zl.out (by decide))) ?_)
  replace Ea := Lib.hid Ea
  rintro e W2 ⟨X2, c2, rfl, ha, hb2⟩
  replace hG := hG.below hb2
  replace hl := hl.below hb2
  replace hm := hm.below hb2
  replace HBT := Below.cons HBT hb2
  clear hb2
  go_wp2_with (fail)
  obtain ⟨b, Eb⟩ : ∃ zq : Nat, zq = val (m.take 30) := ⟨_, rfl⟩
  have Bb : nl b ≤ 30 := by rw [Eb]; exact made_nl m Lm 30
  refine (Calls.mono (R := RetN W2 b) (by rw [Eb]; exact (made_n_c B d 30 m _ hm Lm Qm Cm Zm.out (by decide))) ?_)
  replace Eb := Lib.hid Eb
  rintro e W3 ⟨X3, c3, rfl, hb, hb3⟩
  replace hG := hG.below hb3
  replace hl := hl.below hb3
  replace hm := hm.below hb3
  replace ha := ha.below hb3
  replace HBT := Below.cons HBT hb3
  clear hb3
  go_wp2_with (fail)
  by_cases hb0 : b = 0
  · replace hb0 := Lib.hid hb0
    have hnil := nat_nil (W3)
    have Nnil : Hid (nl 0 = 0) := Lib.hid nl_zero
    have Bnil : nl 0 ≤ 0 := Nat.le_of_eq nl_zero
    refine (Calls.mono (ddivZ_e X2 c2 a X3 c3 b _ (hb0.out)) ?_)
    rintro e W4 ⟨rfl, hb4⟩
    replace hG := hG.below hb4
    replace hl := hl.below hb4
    replace hm := hm.below hb4
    replace ha := ha.below hb4
    replace hb := hb.below hb4
    replace hnil := hnil.below hb4
    replace HBT := Below.cons HBT hb4
    clear hb4
    go_wp2_with (fail)
    obtain ⟨sa, Esa⟩ : ∃ zq : Nat, zq = a * 2 ^ n := ⟨_, rfl⟩
    have Bsa : nl sa ≤ 41 := by rw [Esa]; have := nl_shl a n; omega
    refine (Calls.mono (R := RetN W4 sa) (by rw [Esa]; exact (rshl_c X2 c2 a (n) _ ha (by omega) (by omega))) ?_)
    replace Esa := Lib.hid Esa
    rintro e W5 ⟨X5, c5, rfl, hsa, hb5⟩
    replace hG := hG.below hb5
    replace hl := hl.below hb5
    replace hm := hm.below hb5
    replace ha := ha.below hb5
    replace hb := hb.below hb5
    replace hnil := hnil.below hb5
    replace HBT := Below.cons HBT hb5
    clear hb5
    go_wp2_with (fail)
    obtain ⟨sb, Esb⟩ : ∃ zq : Nat, zq = b * 2 ^ n := ⟨_, rfl⟩
    have Bsb : nl sb ≤ 41 := by rw [Esb]; have := nl_shl b n; omega
    refine (Calls.mono (R := RetN W5 sb) (by rw [Esb]; exact (rshl_c X3 c3 b (n) _ hb (by omega) (by omega))) ?_)
    replace Esb := Lib.hid Esb
    rintro e W6 ⟨X6, c6, rfl, hsb, hb6⟩
    replace hG := hG.below hb6
    replace hl := hl.below hb6
    replace hm := hm.below hb6
    replace ha := ha.below hb6
    replace hb := hb.below hb6
    replace hnil := hnil.below hb6
    replace hsa := hsa.below hb6
    replace HBT := Below.cons HBT hb6
    clear hb6
    go_wp2_with (fail)
    refine (Calls.mono (dnewtonZ_c X5 c5 sa X6 c6 sb _ hsa hsb (by omega) (by rw [Esb.out, hb0.out, Nat.zero_mul])) ?_)
    rintro e W7 ⟨rfl, hb7⟩
    replace hG := hG.below hb7
    replace hl := hl.below hb7
    replace hm := hm.below hb7
    replace ha := ha.below hb7
    replace hb := hb.below hb7
    replace hnil := hnil.below hb7
    replace hsa := hsa.below hb7
    replace hsb := hsb.below hb7
    replace HBT := Below.cons HBT hb7
    clear hb7
    have hb8 : Below (W7).heap.size (W7) ((W7).alloc (.cells #[.int .u32 1] 23)) := (Below.refl _ _).alloc (Nat.le_refl _) _
    have ho := nlit (l := [1]) _ _ _ (heap_alloc_new (W7) (.cells #[.int .u32 1] 23)) rfl (by decide) (by decide) (by decide)
    obtain ⟨o, Eo⟩ : ∃ zq : Nat, zq = val [1] := ⟨_, rfl⟩
    rw [← Eo] at ho
    have No : nl o = 1 := by rw [Eo]; exact nl_lit (by decide) (by decide)
    have Vo : o = 1 := by rw [Eo]; decide
    have Bo : nl o ≤ 1 := Nat.le_of_eq No
    replace No := Lib.hid No
    replace Eo := Lib.hid Eo
    replace Vo := Lib.hid Vo
    replace hG := hG.below hb8
    replace hl := hl.below hb8
    replace hm := hm.below hb8
    replace ha := ha.below hb8
    replace hb := hb.below hb8
    replace hnil := hnil.below hb8
    replace hsa := hsa.below hb8
    replace hsb := hsb.below hb8
    replace HBT := Below.cons HBT hb8
    clear hb8
    go_wp2_with (fail)
    obtain ⟨on, Eon⟩ : ∃ zq : Nat, zq = o * 2 ^ n := ⟨_, rfl⟩
    have Bon : nl on ≤ 12 := by rw [Eon]; have := nl_shl o n; omega
    refine (Calls.mono (R := RetN ((W7).alloc (.cells #[.int .u32 1] 23)) on) (by rw [Eon]; exact (at_len1 No.out (rshl_c _ _ o (n) _ ho (by omega) (by omega)))) ?_)
    replace Eon := Lib.hid Eon
    rintro e W9 ⟨X9, c9, rfl, hon, hb9⟩
    replace hG := hG.below hb9
    replace hl := hl.below hb9
    replace hm := hm.below hb9
    replace ha := ha.below hb9
    replace hb := hb.below hb9
    replace hnil := hnil.below hb9
    replace hsa := hsa.below hb9
    replace hsb := hsb.below hb9
    replace ho := ho.below hb9
    replace HBT := Below.cons HBT hb9
    clear hb9
    have eon : on = 2 ^ n := by rw [Eon.out, Vo.out, Nat.one_mul]
    have pon : 0 < on := by rw [eon]; exact Nat.two_pow_pos n
    replace eon := Lib.hid eon
    go_wp2_with (fail)
    obtain ⟨u, Eu⟩ : ∃ zq : Nat, zq = a / on := ⟨_, rfl⟩
    have Bu : nl u ≤ 30 := by rw [Eu]; have := nl_div a on; omega
    obtain ⟨v, Ev⟩ : ∃ zq : Nat, zq = a % on := ⟨_, rfl⟩
    have Bv : nl v ≤ 12 := by rw [Ev]; have := nl_mod_lt a (show on ≠ 0 from Nat.pos_iff_ne_zero.1 (pon)); omega
    have CT10 := (dziegler_c X2 c2 a X9 c9 on _ ha hon hG  (by omega) (by omega) (pon))
    rw [← Eu, ← Ev] at CT10
    replace Eu := Lib.hid Eu
    replace Ev := Lib.hid Ev
    refine (Calls.mono CT10 ?_)
    clear CT10
    rintro e W10 ⟨Xu, cu, Xv, cv, rfl, hu, hv, hb10⟩
    replace hG := hG.below hb10
    replace hl := hl.below hb10
    replace hm := hm.below hb10
    replace ha := ha.below hb10
    replace hb := hb.below hb10
    replace hnil := hnil.below hb10
    replace hsa := hsa.below hb10
    replace hsb := hsb.below hb10
    replace ho := ho.below hb10
    replace hon := hon.below hb10
    replace HBT := Below.cons HBT hb10
    clear hb10
    go_wp2_with (fail)
    refine (Calls.mono (at_len2 Nnil.out Nnil.out (same1_t none 0 0 none 0 0 _ hnil hnil (by omega) (by omega) (by rfl))) ?_)
    rintro e W11 ⟨rfl, hb11⟩
    replace hG := hG.below hb11
    replace hl := hl.below hb11
    replace hm := hm.below hb11
    replace ha := ha.below hb11
    replace hb := hb.below hb11
    replace hnil := hnil.below hb11
    replace hsa := hsa.below hb11
    replace hsb := hsb.below hb11
    replace ho := ho.below hb11
    replace hon := hon.below hb11
    replace hu := hu.below hb11
    replace hv := hv.below hb11
    replace HBT := Below.cons HBT hb11
    clear hb11
    go_wp2_with (fail)
    obtain ⟨z0, Ez0⟩ : ∃ zq : Nat, zq = 0 * 2 ^ n := ⟨_, rfl⟩
    have Bz0 : nl z0 ≤ 12 := by rw [Ez0]; have := nl_shl 0 n; omega
    refine (Calls.mono (R := RetN W11 z0) (by rw [Ez0]; exact (at_len1 Nnil.out (rshl_c none 0 0 (n) _ hnil (by omega) (by omega)))) ?_)
    replace Ez0 := Lib.hid Ez0
    rintro e W12 ⟨X12, c12, rfl, hz0, hb12⟩
    replace hG := hG.below hb12
    replace hl := hl.below hb12
    replace hm := hm.below hb12
    replace ha := ha.below hb12
    replace hb := hb.below hb12
    replace hnil := hnil.below hb12
    replace hsa := hsa.below hb12
    replace hsb := hsb.below hb12
    replace ho := ho.below hb12
    replace hon := hon.below hb12
    replace hu := hu.below hb12
    replace hv := hv.below hb12
    replace HBT := Below.cons HBT hb12
    clear hb12
    go_wp2_with (fail)
    refine (Calls.mono (at_lenR Nnil.out (same1_t X12 c12 z0 none 0 0 _ hz0 hnil (by omega) (by omega) (by rw [Ez0.out, Nat.zero_mul]))) ?_)
    rintro e W13 ⟨rfl, hb13⟩
    replace hG := hG.below hb13
    replace hl := hl.below hb13
    replace hm := hm.below hb13
    replace ha := ha.below hb13
    replace hb := hb.below hb13
    replace hnil := hnil.below hb13
    replace hsa := hsa.below hb13
    replace hsb := hsb.below hb13
    replace ho := ho.below hb13
    replace hon := hon.below hb13
    replace hu := hu.below hb13
    replace hv := hv.below hb13
    replace hz0 := hz0.below hb13
    replace HBT := Below.cons HBT hb13
    clear hb13
    go_wp2_with (fail)
    obtain ⟨ar, Ear⟩ : ∃ zq : Nat, zq = a / 2 ^ n := ⟨_, rfl⟩
    have Bar : nl ar ≤ 30 := by rw [Ear]; have := nl_div a (2 ^ n); omega
    refine (Calls.mono (R := RetN W13 ar) (by rw [Ear]; exact (rshr_c X2 c2 a (n) _ ha (by omega) (by omega))) ?_)
    replace Ear := Lib.hid Ear
    rintro e W14 ⟨X14, c14, rfl, har, hb14⟩
    replace hG := hG.below hb14
    replace hl := hl.below hb14
    replace hm := hm.below hb14
    replace ha := ha.below hb14
    replace hb := hb.below hb14
    replace hnil := hnil.below hb14
    replace hsa := hsa.below hb14
    replace hsb := hsb.below hb14
    replace ho := ho.below hb14
    replace hon := hon.below hb14
    replace hu := hu.below hb14
    replace hv := hv.below hb14
    replace hz0 := hz0.below hb14
    replace HBT := Below.cons HBT hb14
    clear hb14
    go_wp2_with (fail)
    refine (Calls.mono (same1_t Xu cu u X14 c14 ar _ hu har (by omega) (by omega) (by rw [Eu.out, Ear.out, eon.out])) ?_)
    rintro e W15 ⟨rfl, hb15⟩
    replace hG := hG.below hb15
    replace hl := hl.below hb15
    replace hm := hm.below hb15
    replace ha := ha.below hb15
    replace hb := hb.below hb15
    replace hnil := hnil.below hb15
    replace hsa := hsa.below hb15
    replace hsb := hsb.below hb15
    replace ho := ho.below hb15
    replace hon := hon.below hb15
    replace hu := hu.below hb15
    replace hv := hv.below hb15
    replace hz0 := hz0.below hb15
    replace har := har.below hb15
    replace HBT := Below.cons HBT hb15
    clear hb15
    go_wp2_with (fail)
    obtain ⟨us, Eus⟩ : ∃ zq : Nat, zq = u * 2 ^ n := ⟨_, rfl⟩
    have Bus : nl us ≤ 41 := by rw [Eus]; have := nl_shl u n; omega
    refine (Calls.mono (R := RetN W15 us) (by rw [Eus]; exact (rshl_c Xu cu u (n) _ hu (by omega) (by omega))) ?_)
    replace Eus := Lib.hid Eus
    rintro e W16 ⟨X16, c16, rfl, hus, hb16⟩
    replace hG := hG.below hb16
    replace hl := hl.below hb16
    replace hm := hm.below hb16
    replace ha := ha.below hb16
    replace hb := hb.below hb16
    replace hnil := hnil.below hb16
    replace hsa := hsa.below hb16
    replace hsb := hsb.below hb16
    replace ho := ho.below hb16
    replace hon := hon.below hb16
    replace hu := hu.below hb16
    replace hv := hv.below hb16
    replace hz0 := hz0.below hb16
    replace har := har.below hb16
    replace HBT := Below.cons HBT hb16
    clear hb16
    go_wp2_with (fail)
    obtain ⟨usv, Eusv⟩ : ∃ zq : Nat, zq = us + v := ⟨_, rfl⟩
    have Busv : nl usv ≤ 42 := by rw [Eusv]; have := nl_add us v; omega
    refine (Calls.mono (R := RetN W16 usv) (by rw [Eusv]; exact (radd_c X16 c16 us Xv cv v _ hus hv (by omega) (by omega))) ?_)
    replace Eusv := Lib.hid Eusv
    rintro e W17 ⟨X17, c17, rfl, husv, hb17⟩
    replace hG := hG.below hb17
    replace hl := hl.below hb17
    replace hm := hm.below hb17
    replace ha := ha.below hb17
    replace hb := hb.below hb17
    replace hnil := hnil.below hb17
    replace hsa := hsa.below hb17
    replace hsb := hsb.below hb17
    replace ho := ho.below hb17
    replace hon := hon.below hb17
    replace hu := hu.below hb17
    replace hv := hv.below hb17
    replace hz0 := hz0.below hb17
    replace har := har.below hb17
    replace hus := hus.below hb17
    replace HBT := Below.cons HBT hb17
    clear hb17
    go_wp2_with (fail)
    refine (Calls.mono (same1_t X17 c17 usv X2 c2 a _ husv ha (by omega) (by omega) (by rw [Eusv.out, Eus.out, Eu.out, Ev.out, eon.out, Nat.mul_comm]; exact Nat.div_add_mod a (2 ^ n))) ?_)
    rintro e W18 ⟨rfl, hb18⟩
    replace hG := hG.below hb18
    replace hl := hl.below hb18
    replace hm := hm.below hb18
    replace ha := ha.below hb18
    replace hb := hb.below hb18
    replace hnil := hnil.below hb18
    replace hsa := hsa.below hb18
    replace hsb := hsb.below hb18
    replace ho := ho.below hb18
    replace hon := hon.below hb18
    replace hu := hu.below hb18
    replace hv := hv.below hb18
    replace hz0 := hz0.below hb18
    replace har := har.below hb18
    replace hus := hus.below hb18
    replace husv := husv.below hb18
    replace HBT := Below.cons HBT hb18
    clear hb18
    have hbl : bl v ≤ n := by
      rcases Nat.eq_zero_or_pos v with e | e
      · rw [e]; unfold bl; simp
      · exact bl_le_of (by rw [Ev.out, eon.out]; exact Nat.mod_lt _ (Nat.two_pow_pos n)) e
    obtain ⟨zv, Ezv⟩ : ∃ z, z = bl v := ⟨_, rfl⟩
    rw [← Ezv] at hbl
    have t3 : decide ((zv : Int) ≤ (n : Int)) = true := by simp; omega
    have CB := rbits_c Xv cv v _ hv (by omega)
    go_wp2_with (fail)
    rw [← Ezv] at CB
    replace Ezv := Lib.hid Ezv
    replace hbl := Lib.hid hbl
    refine (Calls.mono (CB) ?_)
    rintro e W19 ⟨rfl, hb19⟩
    replace hG := hG.below hb19
    replace hl := hl.below hb19
    replace hm := hm.below hb19
    replace ha := ha.below hb19
    replace hb := hb.below hb19
    replace hnil := hnil.below hb19
    replace hsa := hsa.below hb19
    replace hsb := hsb.below hb19
    replace ho := ho.below hb19
    replace hon := hon.below hb19
    replace hu := hu.below hb19
    replace hv := hv.below hb19
    replace hz0 := hz0.below hb19
    replace har := har.below hb19
    replace hus := hus.below hb19
    replace husv := husv.below hb19
    replace HBT := Below.cons HBT hb19
    clear hb19
    go_wp2_with (fail)
    go_ret
    exact ⟨rfl, HBT⟩
  · have pb1 : 0 < b := by omega
    obtain ⟨q, Eq⟩ : ∃ zq : Nat, zq = a / b := ⟨_, rfl⟩
    have Bq : nl q ≤ 30 := by rw [Eq]; have := nl_div a b; omega
    obtain ⟨r, Er⟩ : ∃ zq : Nat, zq = a % b := ⟨_, rfl⟩
    have Br : nl r ≤ 30 := by rw [Er]; have := nl_mod_lt a (show b ≠ 0 from Nat.pos_iff_ne_zero.1 (pb1)); omega
    have CT4 := (ddivmod_c X2 c2 a X3 c3 b _ ha hb  (by omega) (by omega) (pb1))
    rw [← Eq, ← Er] at CT4
    replace Eq := Lib.hid Eq
    replace Er := Lib.hid Er
    refine (Calls.mono CT4 ?_)
    clear CT4
    rintro e W4 ⟨Xq, cq, Xr, cr, rfl, hq, hr, hb4⟩
    replace hG := hG.below hb4
    replace hl := hl.below hb4
    replace hm := hm.below hb4
    replace ha := ha.below hb4
    replace hb := hb.below hb4
    replace HBT := Below.cons HBT hb4
    clear hb4
    go_wp2_with (fail)
    obtain ⟨sa, Esa⟩ : ∃ zq : Nat, zq = a * 2 ^ n := ⟨_, rfl⟩
    have Bsa : nl sa ≤ 41 := by rw [Esa]; have := nl_shl a n; omega
    refine (Calls.mono (R := RetN W4 sa) (by rw [Esa]; exact (rshl_c X2 c2 a (n) _ ha (by omega) (by omega))) ?_)
    replace Esa := Lib.hid Esa
    rintro e W5 ⟨X5, c5, rfl, hsa, hb5⟩
    replace hG := hG.below hb5
    replace hl := hl.below hb5
    replace hm := hm.below hb5
    replace ha := ha.below hb5
    replace hb := hb.below hb5
    replace hq := hq.below hb5
    replace hr := hr.below hb5
    replace HBT := Below.cons HBT hb5
    clear hb5
    go_wp2_with (fail)
    obtain ⟨sb, Esb⟩ : ∃ zq : Nat, zq = b * 2 ^ n := ⟨_, rfl⟩
    have Bsb : nl sb ≤ 41 := by rw [Esb]; have := nl_shl b n; omega
    refine (Calls.mono (R := RetN W5 sb) (by rw [Esb]; exact (rshl_c X3 c3 b (n) _ hb (by omega) (by omega))) ?_)
    replace Esb := Lib.hid Esb
    rintro e W6 ⟨X6, c6, rfl, hsb, hb6⟩
    replace hG := hG.below hb6
    replace hl := hl.below hb6
    replace hm := hm.below hb6
    replace ha := ha.below hb6
    replace hb := hb.below hb6
    replace hq := hq.below hb6
    replace hr := hr.below hb6
    replace hsa := hsa.below hb6
    replace HBT := Below.cons HBT hb6
    clear hb6
    go_wp2_with (fail)
    have pbs : 0 < sb := by rw [Esb.out]; exact Nat.mul_pos pb1 (Nat.two_pow_pos n)
    obtain ⟨s, Es⟩ : ∃ zq : Nat, zq = sa / sb := ⟨_, rfl⟩
    have Bs : nl s ≤ 41 := by rw [Es]; have := nl_div sa sb; omega
    obtain ⟨t, Et⟩ : ∃ zq : Nat, zq = sa % sb := ⟨_, rfl⟩
    have Bt : nl t ≤ 41 := by rw [Et]; have := nl_mod_lt sa (show sb ≠ 0 from Nat.pos_iff_ne_zero.1 (pbs)); omega
    have CT7 := (dnewton_c X5 c5 sa X6 c6 sb _ hsa hsb hG  (by omega) (by omega) (pbs))
    rw [← Es, ← Et] at CT7
    replace Es := Lib.hid Es
    replace Et := Lib.hid Et
    refine (Calls.mono CT7 ?_)
    clear CT7
    rintro e W7 ⟨Xs, cs, Xt, ct, rfl, hs, ht, hb7⟩
    replace hG := hG.below hb7
    replace hl := hl.below hb7
    replace hm := hm.below hb7
    replace ha := ha.below hb7
    replace hb := hb.below hb7
    replace hq := hq.below hb7
    replace hr := hr.below hb7
    replace hsa := hsa.below hb7
    replace hsb := hsb.below hb7
    replace HBT := Below.cons HBT hb7
    clear hb7
    have hb8 : Below (W7).heap.size (W7) ((W7).alloc (.cells #[.int .u32 1] 23)) := (Below.refl _ _).alloc (Nat.le_refl _) _
    have ho := nlit (l := [1]) _ _ _ (heap_alloc_new (W7) (.cells #[.int .u32 1] 23)) rfl (by decide) (by decide) (by decide)
    obtain ⟨o, Eo⟩ : ∃ zq : Nat, zq = val [1] := ⟨_, rfl⟩
    rw [← Eo] at ho
    have No : nl o = 1 := by rw [Eo]; exact nl_lit (by decide) (by decide)
    have Vo : o = 1 := by rw [Eo]; decide
    have Bo : nl o ≤ 1 := Nat.le_of_eq No
    replace No := Lib.hid No
    replace Eo := Lib.hid Eo
    replace Vo := Lib.hid Vo
    replace hG := hG.below hb8
    replace hl := hl.below hb8
    replace hm := hm.below hb8
    replace ha := ha.below hb8
    replace hb := hb.below hb8
    replace hq := hq.below hb8
    replace hr := hr.below hb8
    replace hsa := hsa.below hb8
    replace hsb := hsb.below hb8
    replace hs := hs.below hb8
    replace ht := ht.below hb8
    replace HBT := Below.cons HBT hb8
    clear hb8
    go_wp2_with (fail)
    obtain ⟨on, Eon⟩ : ∃ zq : Nat, zq = o * 2 ^ n := ⟨_, rfl⟩
    have Bon : nl on ≤ 12 := by rw [Eon]; have := nl_shl o n; omega
    refine (Calls.mono (R := RetN ((W7).alloc (.cells #[.int .u32 1] 23)) on) (by rw [Eon]; exact (at_len1 No.out (rshl_c _ _ o (n) _ ho (by omega) (by omega)))) ?_)
    replace Eon := Lib.hid Eon
    rintro e W9 ⟨X9, c9, rfl, hon, hb9⟩
    replace hG := hG.below hb9
    replace hl := hl.below hb9
    replace hm := hm.below hb9
    replace ha := ha.below hb9
    replace hb := hb.below hb9
    replace hq := hq.below hb9
    replace hr := hr.below hb9
    replace hsa := hsa.below hb9
    replace hsb := hsb.below hb9
    replace hs := hs.below hb9
    replace ht := ht.below hb9
    replace ho := ho.below hb9
    replace HBT := Below.cons HBT hb9
    clear hb9
    have eon : on = 2 ^ n := by rw [Eon.out, Vo.out, Nat.one_mul]
    have pon : 0 < on := by rw [eon]; exact Nat.two_pow_pos n
    replace eon := Lib.hid eon
    go_wp2_with (fail)
    obtain ⟨u, Eu⟩ : ∃ zq : Nat, zq = a / on := ⟨_, rfl⟩
    have Bu : nl u ≤ 30 := by rw [Eu]; have := nl_div a on; omega
    obtain ⟨v, Ev⟩ : ∃ zq : Nat, zq = a % on := ⟨_, rfl⟩
    have Bv : nl v ≤ 12 := by rw [Ev]; have := nl_mod_lt a (show on ≠ 0 from Nat.pos_iff_ne_zero.1 (pon)); omega
    have CT10 := (dziegler_c X2 c2 a X9 c9 on _ ha hon hG  (by omega) (by omega) (pon))
    rw [← Eu, ← Ev] at CT10
    replace Eu := Lib.hid Eu
    replace Ev := Lib.hid Ev
    refine (Calls.mono CT10 ?_)
    clear CT10
    rintro e W10 ⟨Xu, cu, Xv, cv, rfl, hu, hv, hb10⟩
    replace hG := hG.below hb10
    replace hl := hl.below hb10
    replace hm := hm.below hb10
    replace ha := ha.below hb10
    replace hb := hb.below hb10
    replace hq := hq.below hb10
    replace hr := hr.below hb10
    replace hsa := hsa.below hb10
    replace hsb := hsb.below hb10
    replace hs := hs.below hb10
    replace ht := ht.below hb10
    replace ho := ho.below hb10
    replace hon := hon.below hb10
    replace HBT := Below.cons HBT hb10
    clear hb10
    go_wp2_with (fail)
    refine (Calls.mono (same1_t Xq cq q Xs cs s _ hq hs (by omega) (by omega) (by rw [Eq.out, Es.out, Esa.out, Esb.out]; exact shift_div.symm)) ?_)
    rintro e W11 ⟨rfl, hb11⟩
    replace hG := hG.below hb11
    replace hl := hl.below hb11
    replace hm := hm.below hb11
    replace ha := ha.below hb11
    replace hb := hb.below hb11
    replace hq := hq.below hb11
    replace hr := hr.below hb11
    replace hsa := hsa.below hb11
    replace hsb := hsb.below hb11
    replace hs := hs.below hb11
    replace ht := ht.below hb11
    replace ho := ho.below hb11
    replace hon := hon.below hb11
    replace hu := hu.below hb11
    replace hv := hv.below hb11
    replace HBT := Below.cons HBT hb11
    clear hb11
    go_wp2_with (fail)
    obtain ⟨rs, Ers⟩ : ∃ zq : Nat, zq = r * 2 ^ n := ⟨_, rfl⟩
    have Brs : nl rs ≤ 41 := by rw [Ers]; have := nl_shl r n; omega
    refine (Calls.mono (R := RetN W11 rs) (by rw [Ers]; exact (rshl_c Xr cr r (n) _ hr (by omega) (by omega))) ?_)
    replace Ers := Lib.hid Ers
    rintro e W12 ⟨X12, c12, rfl, hrs, hb12⟩
    replace hG := hG.below hb12
    replace hl := hl.below hb12
    replace hm := hm.below hb12
    replace ha := ha.below hb12
    replace hb := hb.below hb12
    replace hq := hq.below hb12
    replace hr := hr.below hb12
    replace hsa := hsa.below hb12
    replace hsb := hsb.below hb12
    replace hs := hs.below hb12
    replace ht := ht.below hb12
    replace ho := ho.below hb12
    replace hon := hon.below hb12
    replace hu := hu.below hb12
    replace hv := hv.below hb12
    replace HBT := Below.cons HBT hb12
    clear hb12
    go_wp2_with (fail)
    refine (Calls.mono (same1_t X12 c12 rs Xt ct t _ hrs ht (by omega) (by omega) (by rw [Ers.out, Et.out, Er.out, Esa.out, Esb.out]; exact shift_mod.symm)) ?_)
    rintro e W13 ⟨rfl, hb13⟩
    replace hG := hG.below hb13
    replace hl := hl.below hb13
    replace hm := hm.below hb13
    replace ha := ha.below hb13
    replace hb := hb.below hb13
    replace hq := hq.below hb13
    replace hr := hr.below hb13
    replace hsa := hsa.below hb13
    replace hsb := hsb.below hb13
    replace hs := hs.below hb13
    replace ht := ht.below hb13
    replace ho := ho.below hb13
    replace hon := hon.below hb13
    replace hu := hu.below hb13
    replace hv := hv.below hb13
    replace hrs := hrs.below hb13
    replace HBT := Below.cons HBT hb13
    clear hb13
    go_wp2_with (fail)
    obtain ⟨ar, Ear⟩ : ∃ zq : Nat, zq = a / 2 ^ n := ⟨_, rfl⟩
    have Bar : nl ar ≤ 30 := by rw [Ear]; have := nl_div a (2 ^ n); omega
    refine (Calls.mono (R := RetN W13 ar) (by rw [Ear]; exact (rshr_c X2 c2 a (n) _ ha (by omega) (by omega))) ?_)
    replace Ear := Lib.hid Ear
    rintro e W14 ⟨X14, c14, rfl, har, hb14⟩
    replace hG := hG.below hb14
    replace hl := hl.below hb14
    replace hm := hm.below hb14
    replace ha := ha.below hb14
    replace hb := hb.below hb14
    replace hq := hq.below hb14
    replace hr := hr.below hb14
    replace hsa := hsa.below hb14
    replace hsb := hsb.below hb14
    replace hs := hs.below hb14
    replace ht := ht.below hb14
    replace ho := ho.below hb14
    replace hon := hon.below hb14
    replace hu := hu.below hb14
    replace hv := hv.below hb14
    replace hrs := hrs.below hb14
    replace HBT := Below.cons HBT hb14
    clear hb14
    go_wp2_with (fail)
    refine (Calls.mono (same1_t Xu cu u X14 c14 ar _ hu har (by omega) (by omega) (by rw [Eu.out, Ear.out, eon.out])) ?_)
    rintro e W15 ⟨rfl, hb15⟩
    replace hG := hG.below hb15
    replace hl := hl.below hb15
    replace hm := hm.below hb15
    replace ha := ha.below hb15
    replace hb := hb.below hb15
    replace hq := hq.below hb15
    replace hr := hr.below hb15
    replace hsa := hsa.below hb15
    replace hsb := hsb.below hb15
    replace hs := hs.below hb15
    replace ht := ht.below hb15
    replace ho := ho.below hb15
    replace hon := hon.below hb15
    replace hu := hu.below hb15
    replace hv := hv.below hb15
    replace hrs := hrs.below hb15
    replace har := har.below hb15
    replace HBT := Below.cons HBT hb15
    clear hb15
    go_wp2_with (fail)
    obtain ⟨us, Eus⟩ : ∃ zq : Nat, zq = u * 2 ^ n := ⟨_, rfl⟩
    have Bus : nl us ≤ 41 := by rw [Eus]; have := nl_shl u n; omega
    refine (Calls.mono (R := RetN W15 us) (by rw [Eus]; exact (rshl_c Xu cu u (n) _ hu (by omega) (by omega))) ?_)
    replace Eus := Lib.hid Eus
    rintro e W16 ⟨X16, c16, rfl, hus, hb16⟩
    replace hG := hG.below hb16
    replace hl := hl.below hb16
    replace hm := hm.below hb16
    replace ha := ha.below hb16
    replace hb := hb.below hb16
    replace hq := hq.below hb16
    replace hr := hr.below hb16
    replace hsa := hsa.below hb16
    replace hsb := hsb.below hb16
    replace hs := hs.below hb16
    replace ht := ht.below hb16
    replace ho := ho.below hb16
    replace hon := hon.below hb16
    replace hu := hu.below hb16
    replace hv := hv.below hb16
    replace hrs := hrs.below hb16
    replace har := har.below hb16
    replace HBT := Below.cons HBT hb16
    clear hb16
    go_wp2_with (fail)
    obtain ⟨usv, Eusv⟩ : ∃ zq : Nat, zq = us + v := ⟨_, rfl⟩
    have Busv : nl usv ≤ 42 := by rw [Eusv]; have := nl_add us v; omega
    refine (Calls.mono (R := RetN W16 usv) (by rw [Eusv]; exact (radd_c X16 c16 us Xv cv v _ hus hv (by omega) (by omega))) ?_)
    replace Eusv := Lib.hid Eusv
    rintro e W17 ⟨X17, c17, rfl, husv, hb17⟩
    replace hG := hG.below hb17
    replace hl := hl.below hb17
    replace hm := hm.below hb17
    replace ha := ha.below hb17
    replace hb := hb.below hb17
    replace hq := hq.below hb17
    replace hr := hr.below hb17
    replace hsa := hsa.below hb17
    replace hsb := hsb.below hb17
    replace hs := hs.below hb17
    replace ht := ht.below hb17
    replace ho := ho.below hb17
    replace hon := hon.below hb17
    replace hu := hu.below hb17
    replace hv := hv.below hb17
    replace hrs := hrs.below hb17
    replace har := har.below hb17
    replace hus := hus.below hb17
    replace HBT := Below.cons HBT hb17
    clear hb17
    go_wp2_with (fail)
    refine (Calls.mono (same1_t X17 c17 usv X2 c2 a _ husv ha (by omega) (by omega) (by rw [Eusv.out, Eus.out, Eu.out, Ev.out, eon.out, Nat.mul_comm]; exact Nat.div_add_mod a (2 ^ n))) ?_)
    rintro e W18 ⟨rfl, hb18⟩
    replace hG := hG.below hb18
    replace hl := hl.below hb18
    replace hm := hm.below hb18
    replace ha := ha.below hb18
    replace hb := hb.below hb18
    replace hq := hq.below hb18
    replace hr := hr.below hb18
    replace hsa := hsa.below hb18
    replace hsb := hsb.below hb18
    replace hs := hs.below hb18
    replace ht := ht.below hb18
    replace ho := ho.below hb18
    replace hon := hon.below hb18
    replace hu := hu.below hb18
    replace hv := hv.below hb18
    replace hrs := hrs.below hb18
    replace har := har.below hb18
    replace hus := hus.below hb18
    replace husv := husv.below hb18
    replace HBT := Below.cons HBT hb18
    clear hb18
    have hbl : bl v ≤ n := by
      rcases Nat.eq_zero_or_pos v with e | e
      · rw [e]; unfold bl; simp
      · exact bl_le_of (by rw [Ev.out, eon.out]; exact Nat.mod_lt _ (Nat.two_pow_pos n)) e
    obtain ⟨zv, Ezv⟩ : ∃ z, z = bl v := ⟨_, rfl⟩
    rw [← Ezv] at hbl
    have t3 : decide ((zv : Int) ≤ (n : Int)) = true := by simp; omega
    have CB := rbits_c Xv cv v _ hv (by omega)
    go_wp2_with (fail)
    rw [← Ezv] at CB
    replace Ezv := Lib.hid Ezv
    replace hbl := Lib.hid hbl
    refine (Calls.mono (CB) ?_)
    rintro e W19 ⟨rfl, hb19⟩
    replace hG := hG.below hb19
    replace hl := hl.below hb19
    replace hm := hm.below hb19
    replace ha := ha.below hb19
    replace hb := hb.below hb19
    replace hq := hq.below hb19
    replace hr := hr.below hb19
    replace hsa := hsa.below hb19
    replace hsb := hsb.below hb19
    replace hs := hs.below hb19
    replace ht := ht.below hb19
    replace ho := ho.below hb19
    replace hon := hon.below hb19
    replace hu := hu.below hb19
    replace hv := hv.below hb19
    replace hrs := hrs.below hb19
    replace har := har.below hb19
    replace hus := hus.below hb19
    replace husv := husv.below hb19
    replace HBT := Below.cons HBT hb19
    clear hb19
    go_wp2_with (fail)
    go_ret
    exact ⟨rfl, HBT⟩

end Go.Proofs.YtfkagknikmibjaaDoor
