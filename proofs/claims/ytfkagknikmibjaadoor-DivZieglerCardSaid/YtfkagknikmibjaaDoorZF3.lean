/- Laws of division: DivBack, DivNewton, DivZiegler. -/
import Derived.Test.YtfkagknikmibjaaDoorZF1
set_option linter.unusedVariables false
set_option linter.unusedSimpArgs false
namespace Go.Proofs.YtfkagknikmibjaaDoor
open Go.RowKit Go.Shelf
attribute [local go_sem] max2_i min2_i max_two min_two

set_option maxRecDepth 100000 in
set_option maxHeartbeats 4000000 in
theorem divBack_c (A : Option Addr) (c : Nat) (l : List Nat) (B : Option Addr) (d : Nat) (m : List Nat)  (w : World) (hG : Flds w) (hl : Rd w A l) (Ll : Lim l) (Ql : l.length ≤ maxLen) (Cl : l.length ≤ c) (Zl : A = none → c = 0) (hm : Rd w B m) (Lm : Lim m) (Qm : m.length ≤ maxLen) (Cm : m.length ≤ d) (Zm : B = none → d = 0)  :
    Calls Tryd.prog 4 #[.slice A l.length c, .slice B m.length d] w fun e w' => e = .returned (.bool true) ∧ Below w.heap.size w w' := by
  replace Zl := Lib.hid Zl
  replace Zm := Lib.hid Zm
  go_enter Tryd.func4, Tryd.ntmps4
  go_wp2_with (fail)
  refine (Calls.mono (head_c _ hG) ?_)
  rintro e W1 ⟨rfl, hb1⟩
  replace hG := hG.below hb1
  replace hl := hl.below hb1
  replace hm := hm.below hb1
  have HBT := hb1
  clear hb1
  go_wp2_with (fail)
  obtain ⟨a, Ea⟩ : ∃ zq : Nat, zq = val (l.take 60) := ⟨_, rfl⟩
  have Ba : nl a ≤ 60 := by rw [Ea]; exact made_nl l Ll 60
  refine (Calls.mono (R := RetN W1 a) (by rw [Ea]; exact (made_n_c A c 60 l _ hl Ll Ql Cl Zl.out (by decide))) ?_)
  replace Ea := Lib.hid Ea
  rintro e W2 ⟨X2, c2, rfl, ha, hb2⟩
  replace hG := hG.below hb2
  replace hl := hl.below hb2
  replace hm := hm.below hb2
  replace HBT := Below.cons HBT hb2
  clear hb2
  go_wp2_with (fail)
  obtain ⟨b, Eb⟩ : ∃ zq : Nat, zq = val (m.take 60) := ⟨_, rfl⟩
  have Bb : nl b ≤ 60 := by rw [Eb]; exact made_nl m Lm 60
  refine (Calls.mono (R := RetN W2 b) (by rw [Eb]; exact (made_n_c B d 60 m _ hm Lm Qm Cm Zm.out (by decide))) ?_)
  replace Eb := Lib.hid Eb
  rintro e W3 ⟨X3, c3, rfl, hb, hb3⟩
  replace hG := hG.below hb3
  replace hl := hl.below hb3
  replace hm := hm.below hb3
  replace ha := ha.below hb3
  replace HBT := Below.cons HBT hb3
  clear hb3
  go_wp2_with (fail)
  by_cases hb0 : b = 0
  · replace hb0 := Lib.hid hb0
    have z1 : ((nl b : Int) == 0) = true := ieqT (by rw [hb0.out, nl_zero]; rfl)
    refine (Calls.mono (ddivZ_e X2 c2 a X3 c3 b _ (hb0.out)) ?_)
    rintro e W4 ⟨rfl, hb4⟩
    replace hG := hG.below hb4
    replace hl := hl.below hb4
    replace hm := hm.below hb4
    replace ha := ha.below hb4
    replace hb := hb.below hb4
    replace HBT := Below.cons HBT hb4
    clear hb4
    go_wp2_with (fail)
    go_ret
    exact ⟨rfl, HBT⟩
  · have pb1 : 0 < b := by omega
    have z1 : ((nl b : Int) == 0) = false := ieqF (by have := nl_pos.2 (show b ≠ 0 by omega); omega)
    obtain ⟨q, Eq⟩ : ∃ zq : Nat, zq = a / b := ⟨_, rfl⟩
    have Bq : nl q ≤ 60 := by rw [Eq]; have := nl_div a b; omega
    obtain ⟨r, Er⟩ : ∃ zq : Nat, zq = a % b := ⟨_, rfl⟩
    have Br : nl r ≤ 60 := by rw [Er]; have := nl_mod_lt a (show b ≠ 0 from Nat.pos_iff_ne_zero.1 (pb1)); omega
    have CT4 := (ddivmod_c X2 c2 a X3 c3 b _ ha hb  (by omega) (by omega) (pb1))
    rw [← Eq, ← Er] at CT4
    replace Eq := Lib.hid Eq
    replace Er := Lib.hid Er
    refine (Calls.mono CT4 ?_)
    clear CT4
    rintro e W4 ⟨Xq, cq, Xr, cr, rfl, hq, hr, hb4⟩
    replace hG := hG.below hb4
    replace hl := hl.below hb4
    replace hm := hm.below hb4
    replace ha := ha.below hb4
    replace hb := hb.below hb4
    replace HBT := Below.cons HBT hb4
    clear hb4
    go_wp2_with (fail)
    refine (Calls.mono (fits_c X2 c2 a X3 c3 b Xq cq q Xr cr r _ ha hb hq hr (by omega) (by omega) (by omega) (by omega) (by rw [Eq.out, Er.out, Nat.mul_comm]; exact (Nat.div_add_mod a b).symm) (by rw [Er.out]; exact Nat.mod_lt _ pb1)) ?_)
    rintro e W5 ⟨rfl, hb5⟩
    replace hG := hG.below hb5
    replace hl := hl.below hb5
    replace hm := hm.below hb5
    replace ha := ha.below hb5
    replace hb := hb.below hb5
    replace hq := hq.below hb5
    replace hr := hr.below hb5
    replace HBT := Below.cons HBT hb5
    clear hb5
    go_wp2_with (fail)
    go_ret
    exact ⟨rfl, HBT⟩

set_option maxRecDepth 100000 in
set_option maxHeartbeats 4000000 in
theorem divNewton_c (A : Option Addr) (c : Nat) (l : List Nat) (B : Option Addr) (d : Nat) (m : List Nat)  (w : World) (hG : Flds w) (hl : Rd w A l) (Ll : Lim l) (Ql : l.length ≤ maxLen) (Cl : l.length ≤ c) (Zl : A = none → c = 0) (hm : Rd w B m) (Lm : Lim m) (Qm : m.length ≤ maxLen) (Cm : m.length ≤ d) (Zm : B = none → d = 0)  :
    Calls Tryd.prog 5 #[.slice A l.length c, .slice B m.length d] w fun e w' => e = .returned (.bool true) ∧ Below w.heap.size w w' := by
  replace Zl := Lib.hid Zl
  replace Zm := Lib.hid Zm
  go_enter Tryd.func5, Tryd.ntmps5
  go_wp2_with (fail)
  refine (Calls.mono (head_c _ hG) ?_)
  rintro e W1 ⟨rfl, hb1⟩
  replace hG := hG.below hb1
  replace hl := hl.below hb1
  replace hm := hm.below hb1
  have HBT := hb1
  clear hb1
  go_wp2_with (fail)
  obtain ⟨a, Ea⟩ : ∃ zq : Nat, zq = val (l.take 60) := ⟨_, rfl⟩
  have Ba : nl a ≤ 60 := by rw [Ea]; exact made_nl l Ll 60
  refine (Calls.mono (R := RetN W1 a) (by rw [Ea]; exact (made_n_c A c 60 l _ hl Ll Ql Cl Zl.out (by decide))) ?_)
  replace Ea := Lib.hid Ea
  rintro e W2 ⟨X2, c2, rfl, ha, hb2⟩
  replace hG := hG.below hb2
  replace hl := hl.below hb2
  replace hm := hm.below hb2
  replace HBT := Below.cons HBT hb2
  clear hb2
  go_wp2_with (fail)
  obtain ⟨b, Eb⟩ : ∃ zq : Nat, zq = val (m.take 60) := ⟨_, rfl⟩
  have Bb : nl b ≤ 60 := by rw [Eb]; exact made_nl m Lm 60
  refine (Calls.mono (R := RetN W2 b) (by rw [Eb]; exact (made_n_c B d 60 m _ hm Lm Qm Cm Zm.out (by decide))) ?_)
  replace Eb := Lib.hid Eb
  rintro e W3 ⟨X3, c3, rfl, hb, hb3⟩
  replace hG := hG.below hb3
  replace hl := hl.below hb3
  replace hm := hm.below hb3
  replace ha := ha.below hb3
  replace HBT := Below.cons HBT hb3
  clear hb3
  go_wp2_with (fail)
  by_cases hb0 : b = 0
  · replace hb0 := Lib.hid hb0
    have z1 : ((nl b : Int) == 0) = true := ieqT (by rw [hb0.out, nl_zero]; rfl)
    refine (Calls.mono (dnewtonZ_c X2 c2 a X3 c3 b _ ha hb (by omega) (hb0.out)) ?_)
    rintro e W4 ⟨rfl, hb4⟩
    replace hG := hG.below hb4
    replace hl := hl.below hb4
    replace hm := hm.below hb4
    replace ha := ha.below hb4
    replace hb := hb.below hb4
    replace HBT := Below.cons HBT hb4
    clear hb4
    go_wp2_with (fail)
    go_ret
    exact ⟨rfl, HBT⟩
  · have pb1 : 0 < b := by omega
    have z1 : ((nl b : Int) == 0) = false := ieqF (by have := nl_pos.2 (show b ≠ 0 by omega); omega)
    obtain ⟨q, Eq⟩ : ∃ zq : Nat, zq = a / b := ⟨_, rfl⟩
    have Bq : nl q ≤ 60 := by rw [Eq]; have := nl_div a b; omega
    obtain ⟨r, Er⟩ : ∃ zq : Nat, zq = a % b := ⟨_, rfl⟩
    have Br : nl r ≤ 60 := by rw [Er]; have := nl_mod_lt a (show b ≠ 0 from Nat.pos_iff_ne_zero.1 (pb1)); omega
    have CT4 := (dnewton_c X2 c2 a X3 c3 b _ ha hb hG  (by omega) (by omega) (pb1))
    rw [← Eq, ← Er] at CT4
    replace Eq := Lib.hid Eq
    replace Er := Lib.hid Er
    refine (Calls.mono CT4 ?_)
    clear CT4
    rintro e W4 ⟨Xq, cq, Xr, cr, rfl, hq, hr, hb4⟩
    replace hG := hG.below hb4
    replace hl := hl.below hb4
    replace hm := hm.below hb4
    replace ha := ha.below hb4
    replace hb := hb.below hb4
    replace HBT := Below.cons HBT hb4
    clear hb4
    go_wp2_with (fail)
    refine (Calls.mono (fits_c X2 c2 a X3 c3 b Xq cq q Xr cr r _ ha hb hq hr (by omega) (by omega) (by omega) (by omega) (by rw [Eq.out, Er.out, Nat.mul_comm]; exact (Nat.div_add_mod a b).symm) (by rw [Er.out]; exact Nat.mod_lt _ pb1)) ?_)
    rintro e W5 ⟨rfl, hb5⟩
    replace hG := hG.below hb5
    replace hl := hl.below hb5
    replace hm := hm.below hb5
    replace ha := ha.below hb5
    replace hb := hb.below hb5
    replace hq := hq.below hb5
    replace hr := hr.below hb5
    replace HBT := Below.cons HBT hb5
    clear hb5
    go_wp2_with (fail)
    go_ret
    exact ⟨rfl, HBT⟩

set_option maxRecDepth 100000 in
set_option maxHeartbeats 4000000 in
theorem divZiegler_c (A : Option Addr) (c : Nat) (l : List Nat) (B : Option Addr) (d : Nat) (m : List Nat)  (w : World) (hG : Flds w) (hl : Rd w A l) (Ll : Lim l) (Ql : l.length ≤ maxLen) (Cl : l.length ≤ c) (Zl : A = none → c = 0) (hm : Rd w B m) (Lm : Lim m) (Qm : m.length ≤ maxLen) (Cm : m.length ≤ d) (Zm : B = none → d = 0)  :
    Calls Tryd.prog 6 #[.slice A l.length c, .slice B m.length d] w fun e w' => e = .returned (.bool true) ∧ Below w.heap.size w w' := by
  replace Zl := Lib.hid Zl
  replace Zm := Lib.hid Zm
  go_enter Tryd.func6, Tryd.ntmps6
  go_wp2_with (fail)
  refine (Calls.mono (head_c _ hG) ?_)
  rintro e W1 ⟨rfl, hb1⟩
  replace hG := hG.below hb1
  replace hl := hl.below hb1
  replace hm := hm.below hb1
  have HBT := hb1
  clear hb1
  go_wp2_with (fail)
  obtain ⟨a, Ea⟩ : ∃ zq : Nat, zq = val (l.take 60) := ⟨_, rfl⟩
  have Ba : nl a ≤ 60 := by rw [Ea]; exact made_nl l Ll 60
  refine (Calls.mono (R := RetN W1 a) (by rw [Ea]; exact (made_n_c A c 60 l _ hl Ll Ql Cl Zl.out (by decide))) ?_)
  replace Ea := Lib.hid Ea
  rintro e W2 ⟨X2, c2, rfl, ha, hb2⟩
  replace hG := hG.below hb2
  replace hl := hl.below hb2
  replace hm := hm.below hb2
  replace HBT := Below.cons HBT hb2
  clear hb2
  go_wp2_with (fail)
  obtain ⟨b, Eb⟩ : ∃ zq : Nat, zq = val (m.take 60) := ⟨_, rfl⟩
  have Bb : nl b ≤ 60 := by rw [Eb]; exact made_nl m Lm 60
  refine (Calls.mono (R := RetN W2 b) (by rw [Eb]; exact (made_n_c B d 60 m _ hm Lm Qm Cm Zm.out (by decide))) ?_)
  replace Eb := Lib.hid Eb
  rintro e W3 ⟨X3, c3, rfl, hb, hb3⟩
  replace hG := hG.below hb3
  replace hl := hl.below hb3
  replace hm := hm.below hb3
  replace ha := ha.below hb3
  replace HBT := Below.cons HBT hb3
  clear hb3
  go_wp2_with (fail)
  by_cases hb0 : b = 0
  · replace hb0 := Lib.hid hb0
    have z1 : ((nl b : Int) == 0) = true := ieqT (by rw [hb0.out, nl_zero]; rfl)
    refine (Calls.mono (dzieglerZ_e X2 c2 a X3 c3 b _ (hb0.out)) ?_)
    rintro e W4 ⟨rfl, hb4⟩
    replace hG := hG.below hb4
    replace hl := hl.below hb4
    replace hm := hm.below hb4
    replace ha := ha.below hb4
    replace hb := hb.below hb4
    replace HBT := Below.cons HBT hb4
    clear hb4
    go_wp2_with (fail)
    go_ret
    exact ⟨rfl, HBT⟩
  · have pb1 : 0 < b := by omega
    have z1 : ((nl b : Int) == 0) = false := ieqF (by have := nl_pos.2 (show b ≠ 0 by omega); omega)
    obtain ⟨q, Eq⟩ : ∃ zq : Nat, zq = a / b := ⟨_, rfl⟩
    have Bq : nl q ≤ 60 := by rw [Eq]; have := nl_div a b; omega
    obtain ⟨r, Er⟩ : ∃ zq : Nat, zq = a % b := ⟨_, rfl⟩
    have Br : nl r ≤ 60 := by rw [Er]; have := nl_mod_lt a (show b ≠ 0 from Nat.pos_iff_ne_zero.1 (pb1)); omega
    have CT4 := (dziegler_c X2 c2 a X3 c3 b _ ha hb hG  (by omega) (by omega) (pb1))
    rw [← Eq, ← Er] at CT4
    replace Eq := Lib.hid Eq
    replace Er := Lib.hid Er
    refine (Calls.mono CT4 ?_)
    clear CT4
    rintro e W4 ⟨Xq, cq, Xr, cr, rfl, hq, hr, hb4⟩
    replace hG := hG.below hb4
    replace hl := hl.below hb4
    replace hm := hm.below hb4
    replace ha := ha.below hb4
    replace hb := hb.below hb4
    replace HBT := Below.cons HBT hb4
    clear hb4
    go_wp2_with (fail)
    refine (Calls.mono (fits_c X2 c2 a X3 c3 b Xq cq q Xr cr r _ ha hb hq hr (by omega) (by omega) (by omega) (by omega) (by rw [Eq.out, Er.out, Nat.mul_comm]; exact (Nat.div_add_mod a b).symm) (by rw [Er.out]; exact Nat.mod_lt _ pb1)) ?_)
    rintro e W5 ⟨rfl, hb5⟩
    replace hG := hG.below hb5
    replace hl := hl.below hb5
    replace hm := hm.below hb5
    replace ha := ha.below hb5
    replace hb := hb.below hb5
    replace hq := hq.below hb5
    replace hr := hr.below hb5
    replace HBT := Below.cons HBT hb5
    clear hb5
    go_wp2_with (fail)
    go_ret
    exact ⟨rfl, HBT⟩

end Go.Proofs.YtfkagknikmibjaaDoor
