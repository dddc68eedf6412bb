/- Laws of division: DivTells. -/
import Derived.Test.YtfkagknikmibjaaDoorZF1
set_option linter.unusedVariables false
set_option linter.unusedSimpArgs false
namespace Go.Proofs.YtfkagknikmibjaaDoor
open Go.RowKit Go.Shelf
attribute [local go_sem] max2_i min2_i max_two min_two

theorem at_two {W : World} {b : Nat} {u0 u1 : Value} {t : TypeId} (h : W.heap[b]? = some (.cells #[u0, u1] t (0, 0))) :
    (W.cell? ⟨b, 0, none⟩ = some u0 ∧ W.cell? ⟨b, 1, none⟩ = some u1) ∧ W.frozen? ⟨b, 0, none⟩ = false ∧ W.frozen? ⟨b, 1, none⟩ = false := by
  simp [World.cell?, World.frozen?, h]
set_option maxRecDepth 100000 in
set_option maxHeartbeats 4000000 in
theorem divTells_c (A : Option Addr) (c : Nat) (l : List Nat) (B : Option Addr) (d : Nat) (m : List Nat) (x0 x1 : Nat) (w : World) (hG : Flds w) (hl : Rd w A l) (Ll : Lim l) (Ql : l.length ≤ maxLen) (Cl : l.length ≤ c) (Zl : A = none → c = 0) (hm : Rd w B m) (Lm : Lim m) (Qm : m.length ≤ maxLen) (Cm : m.length ≤ d) (Zm : B = none → d = 0) (hx0 : x0 < 4294967296) (hx1 : x1 < 4294967296) :
    Calls Tryd.prog 3 #[.slice A l.length c, .slice B m.length d, .agg #[.int .u32 (x0 : Nat), .int .u32 (x1 : Nat)]] w fun e w' => e = .returned (.bool true) ∧ Below w.heap.size w w' := by
  replace Zl := Lib.hid Zl
  replace Zm := Lib.hid Zm
  obtain ⟨n, En⟩ : ∃ y, y = x0 % 1501 := ⟨_, rfl⟩
  have In : (x0 : Int) % 1501 = (n : Int) := by omega
  have Jn : (x0 : Int).tmod 1501 = (n : Int) := by rw [Int.tmod_eq_emod_of_nonneg (by omega)]; exact In
  have Bn : n < 1501 := by omega
  replace En := Lib.hid En
  have hb0 : Below w.heap.size w (w.alloc (.cells #[.int .u32 (x0 : Nat), .int .u32 (x1 : Nat)] 24)) := (Below.refl _ _).alloc (Nat.le_refl _) _
  obtain ⟨⟨y0, y1⟩, _⟩ := at_two (heap_alloc_new w (.cells #[.int .u32 (x0 : Nat), .int .u32 (x1 : Nat)] 24))
  have hu := Tryd.underlying24
  replace hG := hG.below hb0
  replace hl := hl.below hb0
  replace hm := hm.below hb0
  have HBT := hb0
  clear hb0
  go_enter Tryd.func3, Tryd.ntmps3
  go_wp2_with (fail)
  refine (Calls.mono (head_c _ hG) ?_)
  rintro e W1 ⟨rfl, hb1⟩
  replace hG := hG.below hb1
  replace hl := hl.below hb1
  replace hm := hm.below hb1
  replace y0 := cell_below hb1 y0
  replace y1 := cell_below hb1 y1
  replace HBT := Below.cons HBT hb1
  clear hb1
  go_wp2_with (fail)
  obtain ⟨a, Ea⟩ : ∃ zq : Nat, zq = val (l.take 40) := ⟨_, rfl⟩
  have Ba : nl a ≤ 40 := by rw [Ea]; exact made_nl l Ll 40
  refine (Calls.mono (R := RetN W1 a) (by rw [Ea]; exact (made_n_c A c 40 l _ hl Ll Ql Cl Zl.out (by decide))) ?_)
  replace Ea := Lib.hid Ea
  rintro e W2 ⟨X2, c2, rfl, ha, hb2⟩
  replace hG := hG.below hb2
  replace hl := hl.below hb2
  replace hm := hm.below hb2
  replace y0 := cell_below hb2 y0
  replace y1 := cell_below hb2 y1
  replace HBT := Below.cons HBT hb2
  clear hb2
  go_wp2_with (fail)
  obtain ⟨b, Eb⟩ : ∃ zq : Nat, zq = val (m.take 40) := ⟨_, rfl⟩
  have Bb : nl b ≤ 40 := by rw [Eb]; exact made_nl m Lm 40
  refine (Calls.mono (R := RetN W2 b) (by rw [Eb]; exact (made_n_c B d 40 m _ hm Lm Qm Cm Zm.out (by decide))) ?_)
  replace Eb := Lib.hid Eb
  rintro e W3 ⟨X3, c3, rfl, hb, hb3⟩
  replace hG := hG.below hb3
  replace hl := hl.below hb3
  replace hm := hm.below hb3
  replace y0 := cell_below hb3 y0
  replace y1 := cell_below hb3 y1
  replace ha := ha.below hb3
  replace HBT := Below.cons HBT hb3
  clear hb3
  by_cases hb0 : b = 0
  · replace hb0 := Lib.hid hb0
    go_wp2_with (fail)
    refine (Calls.mono (rdivZ_c X2 c2 a X3 c3 b _ ha hb (hb0.out)) ?_)
    rintro e W4 ⟨rfl, hb4⟩
    replace hG := hG.below hb4
    replace hl := hl.below hb4
    replace hm := hm.below hb4
    replace y0 := cell_below hb4 y0
    replace y1 := cell_below hb4 y1
    replace ha := ha.below hb4
    replace hb := hb.below hb4
    replace HBT := Below.cons HBT hb4
    clear hb4
    go_wp2_with (fail)
    refine (Calls.mono (ddivZ_e X2 c2 a X3 c3 b _ (hb0.out)) ?_)
    rintro e W5 ⟨rfl, hb5⟩
    replace hG := hG.below hb5
    replace hl := hl.below hb5
    replace hm := hm.below hb5
    replace y0 := cell_below hb5 y0
    replace y1 := cell_below hb5 y1
    replace ha := ha.below hb5
    replace hb := hb.below hb5
    replace HBT := Below.cons HBT hb5
    clear hb5
    go_wp2_with (fail)
    refine (Calls.mono (dnewtonZ_c X2 c2 a X3 c3 b _ ha hb (by omega) (hb0.out)) ?_)
    rintro e W6 ⟨rfl, hb6⟩
    replace hG := hG.below hb6
    replace hl := hl.below hb6
    replace hm := hm.below hb6
    replace y0 := cell_below hb6 y0
    replace y1 := cell_below hb6 y1
    replace ha := ha.below hb6
    replace hb := hb.below hb6
    replace HBT := Below.cons HBT hb6
    clear hb6
    go_wp2_with (fail)
    refine (Calls.mono (dzieglerZ_e X2 c2 a X3 c3 b _ (hb0.out)) ?_)
    rintro e W7 ⟨rfl, hb7⟩
    replace hG := hG.below hb7
    replace hl := hl.below hb7
    replace hm := hm.below hb7
    replace y0 := cell_below hb7 y0
    replace y1 := cell_below hb7 y1
    replace ha := ha.below hb7
    replace hb := hb.below hb7
    replace HBT := Below.cons HBT hb7
    clear hb7
    go_wp2_with (fail)
    have hnil := nat_nil (W7)
    have Nnil : Hid (nl 0 = 0) := Lib.hid nl_zero
    have Bnil : nl 0 ≤ 0 := Nat.le_of_eq nl_zero
    refine (Calls.mono (at_len2 Nnil.out Nnil.out (same1_t none 0 0 none 0 0 _ hnil hnil (by omega) (by omega) (by rfl))) ?_)
    rintro e W8 ⟨rfl, hb8⟩
    replace hG := hG.below hb8
    replace hl := hl.below hb8
    replace hm := hm.below hb8
    replace y0 := cell_below hb8 y0
    replace y1 := cell_below hb8 y1
    replace ha := ha.below hb8
    replace hb := hb.below hb8
    replace hnil := hnil.below hb8
    replace HBT := Below.cons HBT hb8
    clear hb8
    go_wp2_with (fail)
    refine (Calls.mono (at_len2 Nnil.out Nnil.out (same1_t none 0 0 none 0 0 _ hnil hnil (by omega) (by omega) (by rfl))) ?_)
    rintro e W9 ⟨rfl, hb9⟩
    replace hG := hG.below hb9
    replace hl := hl.below hb9
    replace hm := hm.below hb9
    replace y0 := cell_below hb9 y0
    replace y1 := cell_below hb9 y1
    replace ha := ha.below hb9
    replace hb := hb.below hb9
    replace hnil := hnil.below hb9
    replace HBT := Below.cons HBT hb9
    clear hb9
    go_wp2_with (fail)
    refine (Calls.mono (at_len2 Nnil.out Nnil.out (same1_t none 0 0 none 0 0 _ hnil hnil (by omega) (by omega) (by rfl))) ?_)
    rintro e W10 ⟨rfl, hb10⟩
    replace hG := hG.below hb10
    replace hl := hl.below hb10
    replace hm := hm.below hb10
    replace y0 := cell_below hb10 y0
    replace y1 := cell_below hb10 y1
    replace ha := ha.below hb10
    replace hb := hb.below hb10
    replace hnil := hnil.below hb10
    replace HBT := Below.cons HBT hb10
    clear hb10
    go_wp2_with (fail)
    refine (Calls.mono (at_len2 Nnil.out Nnil.out (same1_t none 0 0 none 0 0 _ hnil hnil (by omega) (by omega) (by rfl))) ?_)
    rintro e W11 ⟨rfl, hb11⟩
    replace hG := hG.below hb11
    replace hl := hl.below hb11
    replace hm := hm.below hb11
    replace y0 := cell_below hb11 y0
    replace y1 := cell_below hb11 y1
    replace ha := ha.below hb11
    replace hb := hb.below hb11
    replace hnil := hnil.below hb11
    replace HBT := Below.cons HBT hb11
    clear hb11
    go_wp2_with (fail)
    refine (Calls.mono (at_len2 Nnil.out Nnil.out (same1_t none 0 0 none 0 0 _ hnil hnil (by omega) (by omega) (by rfl))) ?_)
    rintro e W12 ⟨rfl, hb12⟩
    replace hG := hG.below hb12
    replace hl := hl.below hb12
    replace hm := hm.below hb12
    replace y0 := cell_below hb12 y0
    replace y1 := cell_below hb12 y1
    replace ha := ha.below hb12
    replace hb := hb.below hb12
    replace hnil := hnil.below hb12
    replace HBT := Below.cons HBT hb12
    clear hb12
    go_wp2_with (fail)
    refine (Calls.mono (at_len2 Nnil.out Nnil.out (same1_t none 0 0 none 0 0 _ hnil hnil (by omega) (by omega) (by rfl))) ?_)
    rintro e W13 ⟨rfl, hb13⟩
    replace hG := hG.below hb13
    replace hl := hl.below hb13
    replace hm := hm.below hb13
    replace y0 := cell_below hb13 y0
    replace y1 := cell_below hb13 y1
    replace ha := ha.below hb13
    replace hb := hb.below hb13
    replace hnil := hnil.below hb13
    replace HBT := Below.cons HBT hb13
    clear hb13
    go_wp2_with (fail)
    refine (Calls.mono (drecipZ_c X3 c3 b n _ hb hb0.out (by omega)) ?_)
    rintro e W14 ⟨rfl, hb14⟩
    replace hG := hG.below hb14
    replace hl := hl.below hb14
    replace hm := hm.below hb14
    replace y0 := cell_below hb14 y0
    replace y1 := cell_below hb14 y1
    replace ha := ha.below hb14
    replace hb := hb.below hb14
    replace hnil := hnil.below hb14
    replace HBT := Below.cons HBT hb14
    clear hb14
    go_wp2_with (fail)
    refine (Calls.mono (rrecipZ_c X3 c3 b n _ hb (by omega) (by omega) hb0.out) ?_)
    rintro e W15 ⟨rfl, hb15⟩
    replace hG := hG.below hb15
    replace hl := hl.below hb15
    replace hm := hm.below hb15
    replace y0 := cell_below hb15 y0
    replace y1 := cell_below hb15 y1
    replace ha := ha.below hb15
    replace hb := hb.below hb15
    replace hnil := hnil.below hb15
    replace HBT := Below.cons HBT hb15
    clear hb15
    go_wp2_with (fail)
    by_cases hm0 : x1 = 0
    · subst hm0
      refine (Calls.mono (dsmallZ_c X2 c2 (nl a) _) ?_)
      rintro e W16 ⟨rfl, hb16⟩
      replace hG := hG.below hb16
      replace hl := hl.below hb16
      replace hm := hm.below hb16
      replace y0 := cell_below hb16 y0
      replace y1 := cell_below hb16 y1
      replace ha := ha.below hb16
      replace hb := hb.below hb16
      replace hnil := hnil.below hb16
      replace HBT := Below.cons HBT hb16
      clear hb16
      go_wp2_with (fail)
      refine (Calls.mono (rsmallZ_c X2 c2 a 0 _ ha (by omega) rfl) ?_)
      rintro e W17 ⟨rfl, hb17⟩
      replace hG := hG.below hb17
      replace hl := hl.below hb17
      replace hm := hm.below hb17
      replace y0 := cell_below hb17 y0
      replace y1 := cell_below hb17 y1
      replace ha := ha.below hb17
      replace hb := hb.below hb17
      replace hnil := hnil.below hb17
      replace HBT := Below.cons HBT hb17
      clear hb17
      go_wp2_with (fail)
      refine (Calls.mono (at_len2 Nnil.out Nnil.out (same1_t none 0 0 none 0 0 _ hnil hnil (by omega) (by omega) (by rfl))) ?_)
      rintro e W18 ⟨rfl, hb18⟩
      replace hG := hG.below hb18
      replace hl := hl.below hb18
      replace hm := hm.below hb18
      replace y0 := cell_below hb18 y0
      replace y1 := cell_below hb18 y1
      replace ha := ha.below hb18
      replace hb := hb.below hb18
      replace hnil := hnil.below hb18
      replace HBT := Below.cons HBT hb18
      clear hb18
      go_wp2_with (fail)
      refine (Calls.mono (at_len2 Nnil.out Nnil.out (same1_t none 0 0 none 0 0 _ hnil hnil (by omega) (by omega) (by rfl))) ?_)
      rintro e W19 ⟨rfl, hb19⟩
      replace hG := hG.below hb19
      replace hl := hl.below hb19
      replace hm := hm.below hb19
      replace y0 := cell_below hb19 y0
      replace y1 := cell_below hb19 y1
      replace ha := ha.below hb19
      replace hb := hb.below hb19
      replace hnil := hnil.below hb19
      replace HBT := Below.cons HBT hb19
      clear hb19
      go_wp2_with (fail)
      go_ret
      exact ⟨rfl, HBT⟩
    · have hm1 : 0 < x1 := by omega
      obtain ⟨rx, Erx⟩ : ∃ zq : Nat, zq = a % x1 := ⟨_, rfl⟩
      have Brx : rx < 4294967296 := by rw [Erx]; exact Nat.lt_trans (Nat.mod_lt _ hm1) hx1
      replace Erx := Lib.hid Erx
      have CS := dsmall_c X2 c2 a x1 _ ha (by omega) hx1 hm1
      obtain ⟨mq, Emq⟩ : ∃ zq : Nat, zq = a / x1 := ⟨_, rfl⟩
      have Bmq : nl mq ≤ 40 := by rw [Emq]; have := nl_div a x1; omega
      rw [← Emq, ← Erx.out] at CS
      replace Emq := Lib.hid Emq
      replace CS := Lib.hid CS
      refine (Calls.mono CS.out ?_)
      clear CS
      rintro e W16 ⟨Xmq, cmq, rfl, hmq, hb16⟩
      replace hG := hG.below hb16
      replace hl := hl.below hb16
      replace hm := hm.below hb16
      replace y0 := cell_below hb16 y0
      replace y1 := cell_below hb16 y1
      replace ha := ha.below hb16
      replace hb := hb.below hb16
      replace hnil := hnil.below hb16
      replace HBT := Below.cons HBT hb16
      clear hb16
      go_wp2_with (fail)
      have CS := rsmall_c X2 c2 a x1 _ ha (by omega) hx1 hm1
      obtain ⟨mc, Emc⟩ : ∃ zq : Nat, zq = a / x1 := ⟨_, rfl⟩
      have Bmc : nl mc ≤ 40 := by rw [Emc]; have := nl_div a x1; omega
      rw [← Emc, ← Erx.out] at CS
      replace Emc := Lib.hid Emc
      replace CS := Lib.hid CS
      refine (Calls.mono CS.out ?_)
      clear CS
      rintro e W17 ⟨Xmc, cmc, rfl, hmc, hb17⟩
      replace hG := hG.below hb17
      replace hl := hl.below hb17
      replace hm := hm.below hb17
      replace y0 := cell_below hb17 y0
      replace y1 := cell_below hb17 y1
      replace ha := ha.below hb17
      replace hb := hb.below hb17
      replace hnil := hnil.below hb17
      replace hmq := hmq.below hb17
      replace HBT := Below.cons HBT hb17
      clear hb17
      go_wp2_with (fail)
      refine (Calls.mono (at_len2 Nnil.out Nnil.out (same1_t none 0 0 none 0 0 _ hnil hnil (by omega) (by omega) (by rfl))) ?_)
      rintro e W18 ⟨rfl, hb18⟩
      replace hG := hG.below hb18
      replace hl := hl.below hb18
      replace hm := hm.below hb18
      replace y0 := cell_below hb18 y0
      replace y1 := cell_below hb18 y1
      replace ha := ha.below hb18
      replace hb := hb.below hb18
      replace hnil := hnil.below hb18
      replace hmq := hmq.below hb18
      replace hmc := hmc.below hb18
      replace HBT := Below.cons HBT hb18
      clear hb18
      go_wp2_with (fail)
      refine (Calls.mono (same1_t Xmq cmq mq Xmc cmc mc _ hmq hmc (by omega) (by omega) (by rw [Emq.out, Emc.out])) ?_)
      rintro e W19 ⟨rfl, hb19⟩
      replace hG := hG.below hb19
      replace hl := hl.below hb19
      replace hm := hm.below hb19
      replace y0 := cell_below hb19 y0
      replace y1 := cell_below hb19 y1
      replace ha := ha.below hb19
      replace hb := hb.below hb19
      replace hnil := hnil.below hb19
      replace hmq := hmq.below hb19
      replace hmc := hmc.below hb19
      replace HBT := Below.cons HBT hb19
      clear hb19
      go_wp2_with (fail)
      go_ret
      exact ⟨rfl, HBT⟩
  · have pb1 : 0 < b := by omega
    go_wp2_with (fail)
    obtain ⟨q0, Eq0⟩ : ∃ zq : Nat, zq = a / b := ⟨_, rfl⟩
    have Bq0 : nl q0 ≤ 40 := by rw [Eq0]; have := nl_div a b; omega
    obtain ⟨r0, Er0⟩ : ∃ zq : Nat, zq = a % b := ⟨_, rfl⟩
    have Br0 : nl r0 ≤ 40 := by rw [Er0]; have := nl_mod_lt a (show b ≠ 0 from Nat.pos_iff_ne_zero.1 (pb1)); omega
    have CT4 := (rdiv_c X2 c2 a X3 c3 b _ ha hb  (by omega) (by omega) (pb1))
    rw [← Eq0, ← Er0] at CT4
    replace Eq0 := Lib.hid Eq0
    replace Er0 := Lib.hid Er0
    refine (Calls.mono CT4 ?_)
    clear CT4
    rintro e W4 ⟨Xq0, cq0, Xr0, cr0, rfl, hq0, hr0, hb4⟩
    replace hG := hG.below hb4
    replace hl := hl.below hb4
    replace hm := hm.below hb4
    replace y0 := cell_below hb4 y0
    replace y1 := cell_below hb4 y1
    replace ha := ha.below hb4
    replace hb := hb.below hb4
    replace HBT := Below.cons HBT hb4
    clear hb4
    go_wp2_with (fail)
    obtain ⟨q1, Eq1⟩ : ∃ zq : Nat, zq = a / b := ⟨_, rfl⟩
    have Bq1 : nl q1 ≤ 40 := by rw [Eq1]; have := nl_div a b; omega
    obtain ⟨r1, Er1⟩ : ∃ zq : Nat, zq = a % b := ⟨_, rfl⟩
    have Br1 : nl r1 ≤ 40 := by rw [Er1]; have := nl_mod_lt a (show b ≠ 0 from Nat.pos_iff_ne_zero.1 (pb1)); omega
    have CT5 := (ddivmod_c X2 c2 a X3 c3 b _ ha hb  (by omega) (by omega) (pb1))
    rw [← Eq1, ← Er1] at CT5
    replace Eq1 := Lib.hid Eq1
    replace Er1 := Lib.hid Er1
    refine (Calls.mono CT5 ?_)
    clear CT5
    rintro e W5 ⟨Xq1, cq1, Xr1, cr1, rfl, hq1, hr1, hb5⟩
    replace hG := hG.below hb5
    replace hl := hl.below hb5
    replace hm := hm.below hb5
    replace y0 := cell_below hb5 y0
    replace y1 := cell_below hb5 y1
    replace ha := ha.below hb5
    replace hb := hb.below hb5
    replace hq0 := hq0.below hb5
    replace hr0 := hr0.below hb5
    replace HBT := Below.cons HBT hb5
    clear hb5
    go_wp2_with (fail)
    obtain ⟨q2, Eq2⟩ : ∃ zq : Nat, zq = a / b := ⟨_, rfl⟩
    have Bq2 : nl q2 ≤ 40 := by rw [Eq2]; have := nl_div a b; omega
    obtain ⟨r2, Er2⟩ : ∃ zq : Nat, zq = a % b := ⟨_, rfl⟩
    have Br2 : nl r2 ≤ 40 := by rw [Er2]; have := nl_mod_lt a (show b ≠ 0 from Nat.pos_iff_ne_zero.1 (pb1)); omega
    have CT6 := (dnewton_c X2 c2 a X3 c3 b _ ha hb hG  (by omega) (by omega) (pb1))
    rw [← Eq2, ← Er2] at CT6
    replace Eq2 := Lib.hid Eq2
    replace Er2 := Lib.hid Er2
    refine (Calls.mono CT6 ?_)
    clear CT6
    rintro e W6 ⟨Xq2, cq2, Xr2, cr2, rfl, hq2, hr2, hb6⟩
    replace hG := hG.below hb6
    replace hl := hl.below hb6
    replace hm := hm.below hb6
    replace y0 := cell_below hb6 y0
    replace y1 := cell_below hb6 y1
    replace ha := ha.below hb6
    replace hb := hb.below hb6
    replace hq0 := hq0.below hb6
    replace hr0 := hr0.below hb6
    replace hq1 := hq1.below hb6
    replace hr1 := hr1.below hb6
    replace HBT := Below.cons HBT hb6
    clear hb6
    go_wp2_with (fail)
    obtain ⟨q3, Eq3⟩ : ∃ zq : Nat, zq = a / b := ⟨_, rfl⟩
    have Bq3 : nl q3 ≤ 40 := by rw [Eq3]; have := nl_div a b; omega
    obtain ⟨r3, Er3⟩ : ∃ zq : Nat, zq = a % b := ⟨_, rfl⟩
    have Br3 : nl r3 ≤ 40 := by rw [Er3]; have := nl_mod_lt a (show b ≠ 0 from Nat.pos_iff_ne_zero.1 (pb1)); omega
    have CT7 := (dziegler_c X2 c2 a X3 c3 b _ ha hb hG  (by omega) (by omega) (pb1))
    rw [← Eq3, ← Er3] at CT7
    replace Eq3 := Lib.hid Eq3
    replace Er3 := Lib.hid Er3
    refine (Calls.mono CT7 ?_)
    clear CT7
    rintro e W7 ⟨Xq3, cq3, Xr3, cr3, rfl, hq3, hr3, hb7⟩
    replace hG := hG.below hb7
    replace hl := hl.below hb7
    replace hm := hm.below hb7
    replace y0 := cell_below hb7 y0
    replace y1 := cell_below hb7 y1
    replace ha := ha.below hb7
    replace hb := hb.below hb7
    replace hq0 := hq0.below hb7
    replace hr0 := hr0.below hb7
    replace hq1 := hq1.below hb7
    replace hr1 := hr1.below hb7
    replace hq2 := hq2.below hb7
    replace hr2 := hr2.below hb7
    replace HBT := Below.cons HBT hb7
    clear hb7
    go_wp2_with (fail)
    refine (Calls.mono (same1_t Xq0 cq0 q0 Xq1 cq1 q1 _ hq0 hq1 (by omega) (by omega) (by rw [Eq0.out, Eq1.out])) ?_)
    rintro e W8 ⟨rfl, hb8⟩
    replace hG := hG.below hb8
    replace hl := hl.below hb8
    replace hm := hm.below hb8
    replace y0 := cell_below hb8 y0
    replace y1 := cell_below hb8 y1
    replace ha := ha.below hb8
    replace hb := hb.below hb8
    replace hq0 := hq0.below hb8
    replace hr0 := hr0.below hb8
    replace hq1 := hq1.below hb8
    replace hr1 := hr1.below hb8
    replace hq2 := hq2.below hb8
    replace hr2 := hr2.below hb8
    replace hq3 := hq3.below hb8
    replace hr3 := hr3.below hb8
    replace HBT := Below.cons HBT hb8
    clear hb8
    go_wp2_with (fail)
    refine (Calls.mono (same1_t Xq0 cq0 q0 Xq2 cq2 q2 _ hq0 hq2 (by omega) (by omega) (by rw [Eq0.out, Eq2.out])) ?_)
    rintro e W9 ⟨rfl, hb9⟩
    replace hG := hG.below hb9
    replace hl := hl.below hb9
    replace hm := hm.below hb9
    replace y0 := cell_below hb9 y0
    replace y1 := cell_below hb9 y1
    replace ha := ha.below hb9
    replace hb := hb.below hb9
    replace hq0 := hq0.below hb9
    replace hr0 := hr0.below hb9
    replace hq1 := hq1.below hb9
    replace hr1 := hr1.below hb9
    replace hq2 := hq2.below hb9
    replace hr2 := hr2.below hb9
    replace hq3 := hq3.below hb9
    replace hr3 := hr3.below hb9
    replace HBT := Below.cons HBT hb9
    clear hb9
    go_wp2_with (fail)
    refine (Calls.mono (same1_t Xq0 cq0 q0 Xq3 cq3 q3 _ hq0 hq3 (by omega) (by omega) (by rw [Eq0.out, Eq3.out])) ?_)
    rintro e W10 ⟨rfl, hb10⟩
    replace hG := hG.below hb10
    replace hl := hl.below hb10
    replace hm := hm.below hb10
    replace y0 := cell_below hb10 y0
    replace y1 := cell_below hb10 y1
    replace ha := ha.below hb10
    replace hb := hb.below hb10
    replace hq0 := hq0.below hb10
    replace hr0 := hr0.below hb10
    replace hq1 := hq1.below hb10
    replace hr1 := hr1.below hb10
    replace hq2 := hq2.below hb10
    replace hr2 := hr2.below hb10
    replace hq3 := hq3.below hb10
    replace hr3 := hr3.below hb10
    replace HBT := Below.cons HBT hb10
    clear hb10
    go_wp2_with (fail)
    refine (Calls.mono (same1_t Xr0 cr0 r0 Xr1 cr1 r1 _ hr0 hr1 (by omega) (by omega) (by rw [Er0.out, Er1.out])) ?_)
    rintro e W11 ⟨rfl, hb11⟩
    replace hG := hG.below hb11
    replace hl := hl.below hb11
    replace hm := hm.below hb11
    replace y0 := cell_below hb11 y0
    replace y1 := cell_below hb11 y1
    replace ha := ha.below hb11
    replace hb := hb.below hb11
    replace hq0 := hq0.below hb11
    replace hr0 := hr0.below hb11
    replace hq1 := hq1.below hb11
    replace hr1 := hr1.below hb11
    replace hq2 := hq2.below hb11
    replace hr2 := hr2.below hb11
    replace hq3 := hq3.below hb11
    replace hr3 := hr3.below hb11
    replace HBT := Below.cons HBT hb11
    clear hb11
    go_wp2_with (fail)
    refine (Calls.mono (same1_t Xr0 cr0 r0 Xr2 cr2 r2 _ hr0 hr2 (by omega) (by omega) (by rw [Er0.out, Er2.out])) ?_)
    rintro e W12 ⟨rfl, hb12⟩
    replace hG := hG.below hb12
    replace hl := hl.below hb12
    replace hm := hm.below hb12
    replace y0 := cell_below hb12 y0
    replace y1 := cell_below hb12 y1
    replace ha := ha.below hb12
    replace hb := hb.below hb12
    replace hq0 := hq0.below hb12
    replace hr0 := hr0.below hb12
    replace hq1 := hq1.below hb12
    replace hr1 := hr1.below hb12
    replace hq2 := hq2.below hb12
    replace hr2 := hr2.below hb12
    replace hq3 := hq3.below hb12
    replace hr3 := hr3.below hb12
    replace HBT := Below.cons HBT hb12
    clear hb12
    go_wp2_with (fail)
    refine (Calls.mono (same1_t Xr0 cr0 r0 Xr3 cr3 r3 _ hr0 hr3 (by omega) (by omega) (by rw [Er0.out, Er3.out])) ?_)
    rintro e W13 ⟨rfl, hb13⟩
    replace hG := hG.below hb13
    replace hl := hl.below hb13
    replace hm := hm.below hb13
    replace y0 := cell_below hb13 y0
    replace y1 := cell_below hb13 y1
    replace ha := ha.below hb13
    replace hb := hb.below hb13
    replace hq0 := hq0.below hb13
    replace hr0 := hr0.below hb13
    replace hq1 := hq1.below hb13
    replace hr1 := hr1.below hb13
    replace hq2 := hq2.below hb13
    replace hr2 := hr2.below hb13
    replace hq3 := hq3.below hb13
    replace hr3 := hr3.below hb13
    replace HBT := Below.cons HBT hb13
    clear hb13
    go_wp2_with (fail)
    obtain ⟨i, Ei⟩ : ∃ zq : Nat, zq = 2 ^ n / b := ⟨_, rfl⟩
    have Bi : nl i ≤ 60 := by rw [Ei]; exact Nat.le_trans (nl_two (Nat.div_le_self _ _)) (by omega)
    have CT14 := (drecip_c (n - bl b) X3 c3 b n _ hb pb1 (by omega) (by omega) hG (Nat.le_refl _))
    rw [← Ei] at CT14
    replace Ei := Lib.hid Ei
    refine (Calls.mono CT14 ?_)
    clear CT14
    rintro e W14 ⟨Xi, ci, rfl, hi, hb14⟩
    replace hG := hG.below hb14
    replace hl := hl.below hb14
    replace hm := hm.below hb14
    replace y0 := cell_below hb14 y0
    replace y1 := cell_below hb14 y1
    replace ha := ha.below hb14
    replace hb := hb.below hb14
    replace hq0 := hq0.below hb14
    replace hr0 := hr0.below hb14
    replace hq1 := hq1.below hb14
    replace hr1 := hr1.below hb14
    replace hq2 := hq2.below hb14
    replace hr2 := hr2.below hb14
    replace hq3 := hq3.below hb14
    replace hr3 := hr3.below hb14
    replace HBT := Below.cons HBT hb14
    clear hb14
    go_wp2_with (fail)
    obtain ⟨k2, Ek2⟩ : ∃ zq : Nat, zq = 2 ^ n / b := ⟨_, rfl⟩
    have Bk2 : nl k2 ≤ 60 := by rw [Ek2]; exact Nat.le_trans (nl_two (Nat.div_le_self _ _)) (by omega)
    have CT15 := (rrecip_c X3 c3 b n _ hb (by omega) (by omega) pb1)
    rw [← Ek2] at CT15
    replace Ek2 := Lib.hid Ek2
    refine (Calls.mono CT15 ?_)
    clear CT15
    rintro e W15 ⟨Xk2, ck2, rfl, hk2, hb15⟩
    replace hG := hG.below hb15
    replace hl := hl.below hb15
    replace hm := hm.below hb15
    replace y0 := cell_below hb15 y0
    replace y1 := cell_below hb15 y1
    replace ha := ha.below hb15
    replace hb := hb.below hb15
    replace hq0 := hq0.below hb15
    replace hr0 := hr0.below hb15
    replace hq1 := hq1.below hb15
    replace hr1 := hr1.below hb15
    replace hq2 := hq2.below hb15
    replace hr2 := hr2.below hb15
    replace hq3 := hq3.below hb15
    replace hr3 := hr3.below hb15
    replace hi := hi.below hb15
    replace HBT := Below.cons HBT hb15
    clear hb15
    go_wp2_with (fail)
    by_cases hm0 : x1 = 0
    · subst hm0
      have hnil := nat_nil (W15)
      have Nnil : Hid (nl 0 = 0) := Lib.hid nl_zero
      have Bnil : nl 0 ≤ 0 := Nat.le_of_eq nl_zero
      refine (Calls.mono (dsmallZ_c X2 c2 (nl a) _) ?_)
      rintro e W16 ⟨rfl, hb16⟩
      replace hG := hG.below hb16
      replace hl := hl.below hb16
      replace hm := hm.below hb16
      replace y0 := cell_below hb16 y0
      replace y1 := cell_below hb16 y1
      replace ha := ha.below hb16
      replace hb := hb.below hb16
      replace hq0 := hq0.below hb16
      replace hr0 := hr0.below hb16
      replace hq1 := hq1.below hb16
      replace hr1 := hr1.below hb16
      replace hq2 := hq2.below hb16
      replace hr2 := hr2.below hb16
      replace hq3 := hq3.below hb16
      replace hr3 := hr3.below hb16
      replace hi := hi.below hb16
      replace hk2 := hk2.below hb16
      replace hnil := hnil.below hb16
      replace HBT := Below.cons HBT hb16
      clear hb16
      go_wp2_with (fail)
      refine (Calls.mono (rsmallZ_c X2 c2 a 0 _ ha (by omega) rfl) ?_)
      rintro e W17 ⟨rfl, hb17⟩
      replace hG := hG.below hb17
      replace hl := hl.below hb17
      replace hm := hm.below hb17
      replace y0 := cell_below hb17 y0
      replace y1 := cell_below hb17 y1
      replace ha := ha.below hb17
      replace hb := hb.below hb17
      replace hq0 := hq0.below hb17
      replace hr0 := hr0.below hb17
      replace hq1 := hq1.below hb17
      replace hr1 := hr1.below hb17
      replace hq2 := hq2.below hb17
      replace hr2 := hr2.below hb17
      replace hq3 := hq3.below hb17
      replace hr3 := hr3.below hb17
      replace hi := hi.below hb17
      replace hk2 := hk2.below hb17
      replace hnil := hnil.below hb17
      replace HBT := Below.cons HBT hb17
      clear hb17
      go_wp2_with (fail)
      refine (Calls.mono (same1_t Xi ci i Xk2 ck2 k2 _ hi hk2 (by omega) (by omega) (by rw [Ei.out, Ek2.out])) ?_)
      rintro e W18 ⟨rfl, hb18⟩
      replace hG := hG.below hb18
      replace hl := hl.below hb18
      replace hm := hm.below hb18
      replace y0 := cell_below hb18 y0
      replace y1 := cell_below hb18 y1
      replace ha := ha.below hb18
      replace hb := hb.below hb18
      replace hq0 := hq0.below hb18
      replace hr0 := hr0.below hb18
      replace hq1 := hq1.below hb18
      replace hr1 := hr1.below hb18
      replace hq2 := hq2.below hb18
      replace hr2 := hr2.below hb18
      replace hq3 := hq3.below hb18
      replace hr3 := hr3.below hb18
      replace hi := hi.below hb18
      replace hk2 := hk2.below hb18
      replace hnil := hnil.below hb18
      replace HBT := Below.cons HBT hb18
      clear hb18
      go_wp2_with (fail)
      refine (Calls.mono (at_len2 Nnil.out Nnil.out (same1_t none 0 0 none 0 0 _ hnil hnil (by omega) (by omega) (by rfl))) ?_)
      rintro e W19 ⟨rfl, hb19⟩
      replace hG := hG.below hb19
      replace hl := hl.below hb19
      replace hm := hm.below hb19
      replace y0 := cell_below hb19 y0
      replace y1 := cell_below hb19 y1
      replace ha := ha.below hb19
      replace hb := hb.below hb19
      replace hq0 := hq0.below hb19
      replace hr0 := hr0.below hb19
      replace hq1 := hq1.below hb19
      replace hr1 := hr1.below hb19
      replace hq2 := hq2.below hb19
      replace hr2 := hr2.below hb19
      replace hq3 := hq3.below hb19
      replace hr3 := hr3.below hb19
      replace hi := hi.below hb19
      replace hk2 := hk2.below hb19
      replace hnil := hnil.below hb19
      replace HBT := Below.cons HBT hb19
      clear hb19
      go_wp2_with (fail)
      go_ret
      exact ⟨rfl, HBT⟩
    · have hm1 : 0 < x1 := by omega
      obtain ⟨rx, Erx⟩ : ∃ zq : Nat, zq = a % x1 := ⟨_, rfl⟩
      have Brx : rx < 4294967296 := by rw [Erx]; exact Nat.lt_trans (Nat.mod_lt _ hm1) hx1
      replace Erx := Lib.hid Erx
      have CS := dsmall_c X2 c2 a x1 _ ha (by omega) hx1 hm1
      obtain ⟨mq, Emq⟩ : ∃ zq : Nat, zq = a / x1 := ⟨_, rfl⟩
      have Bmq : nl mq ≤ 40 := by rw [Emq]; have := nl_div a x1; omega
      rw [← Emq, ← Erx.out] at CS
      replace Emq := Lib.hid Emq
      replace CS := Lib.hid CS
      refine (Calls.mono CS.out ?_)
      clear CS
      rintro e W16 ⟨Xmq, cmq, rfl, hmq, hb16⟩
      replace hG := hG.below hb16
      replace hl := hl.below hb16
      replace hm := hm.below hb16
      replace y0 := cell_below hb16 y0
      replace y1 := cell_below hb16 y1
      replace ha := ha.below hb16
      replace hb := hb.below hb16
      replace hq0 := hq0.below hb16
      replace hr0 := hr0.below hb16
      replace hq1 := hq1.below hb16
      replace hr1 := hr1.below hb16
      replace hq2 := hq2.below hb16
      replace hr2 := hr2.below hb16
      replace hq3 := hq3.below hb16
      replace hr3 := hr3.below hb16
      replace hi := hi.below hb16
      replace hk2 := hk2.below hb16
      replace HBT := Below.cons HBT hb16
      clear hb16
      go_wp2_with (fail)
      have CS := rsmall_c X2 c2 a x1 _ ha (by omega) hx1 hm1
      obtain ⟨mc, Emc⟩ : ∃ zq : Nat, zq = a / x1 := ⟨_, rfl⟩
      have Bmc : nl mc ≤ 40 := by rw [Emc]; have := nl_div a x1; omega
      rw [← Emc, ← Erx.out] at CS
      replace Emc := Lib.hid Emc
      replace CS := Lib.hid CS
      refine (Calls.mono CS.out ?_)
      clear CS
      rintro e W17 ⟨Xmc, cmc, rfl, hmc, hb17⟩
      replace hG := hG.below hb17
      replace hl := hl.below hb17
      replace hm := hm.below hb17
      replace y0 := cell_below hb17 y0
      replace y1 := cell_below hb17 y1
      replace ha := ha.below hb17
      replace hb := hb.below hb17
      replace hq0 := hq0.below hb17
      replace hr0 := hr0.below hb17
      replace hq1 := hq1.below hb17
      replace hr1 := hr1.below hb17
      replace hq2 := hq2.below hb17
      replace hr2 := hr2.below hb17
      replace hq3 := hq3.below hb17
      replace hr3 := hr3.below hb17
      replace hi := hi.below hb17
      replace hk2 := hk2.below hb17
      replace hmq := hmq.below hb17
      replace HBT := Below.cons HBT hb17
      clear hb17
      go_wp2_with (fail)
      refine (Calls.mono (same1_t Xi ci i Xk2 ck2 k2 _ hi hk2 (by omega) (by omega) (by rw [Ei.out, Ek2.out])) ?_)
      rintro e W18 ⟨rfl, hb18⟩
      replace hG := hG.below hb18
      replace hl := hl.below hb18
      replace hm := hm.below hb18
      replace y0 := cell_below hb18 y0
      replace y1 := cell_below hb18 y1
      replace ha := ha.below hb18
      replace hb := hb.below hb18
      replace hq0 := hq0.below hb18
      replace hr0 := hr0.below hb18
      replace hq1 := hq1.below hb18
      replace hr1 := hr1.below hb18
      replace hq2 := hq2.below hb18
      replace hr2 := hr2.below hb18
      replace hq3 := hq3.below hb18
      replace hr3 := hr3.below hb18
      replace hi := hi.below hb18
      replace hk2 := hk2.below hb18
      replace hmq := hmq.below hb18
      replace hmc := hmc.below hb18
      replace HBT := Below.cons HBT hb18
      clear hb18
      go_wp2_with (fail)
      refine (Calls.mono (same1_t Xmq cmq mq Xmc cmc mc _ hmq hmc (by omega) (by omega) (by rw [Emq.out, Emc.out])) ?_)
      rintro e W19 ⟨rfl, hb19⟩
      replace hG := hG.below hb19
      replace hl := hl.below hb19
      replace hm := hm.below hb19
      replace y0 := cell_below hb19 y0
      replace y1 := cell_below hb19 y1
      replace ha := ha.below hb19
      replace hb := hb.below hb19
      replace hq0 := hq0.below hb19
      replace hr0 := hr0.below hb19
      replace hq1 := hq1.below hb19
      replace hr1 := hr1.below hb19
      replace hq2 := hq2.below hb19
      replace hr2 := hr2.below hb19
      replace hq3 := hq3.below hb19
      replace hr3 := hr3.below hb19
      replace hi := hi.below hb19
      replace hk2 := hk2.below hb19
      replace hmq := hmq.below hb19
      replace hmc := hmc.below hb19
      replace HBT := Below.cons HBT hb19
      clear hb19
      go_wp2_with (fail)
      go_ret
      exact ⟨rfl, HBT⟩

end Go.Proofs.YtfkagknikmibjaaDoor
