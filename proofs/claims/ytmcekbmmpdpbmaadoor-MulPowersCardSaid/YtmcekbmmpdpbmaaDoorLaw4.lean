/- Laws of products: MulRing, MulRests, MulPowers. -/
import Derived.Test.YtmcekbmmpdpbmaaDoorLaw3
set_option linter.unusedVariables false
set_option linter.unusedSimpArgs false
namespace Go.Proofs.YtmcekbmmpdpbmaaDoor
open Go.RowKit Go.Shelf
attribute [local go_sem] max2_i min2_i max_two min_two

set_option maxHeartbeats 4000000 in
theorem mulRing_c (A : Option Addr) (c : Nat) (l : List Nat) (B : Option Addr) (d : Nat) (m : List Nat) (D : Option Addr) (f : Nat) (k : List Nat) (x y : Nat) (w : World) (hG : Flds w) (hl : Rd w A l) (Ll : Lim l) (Ql : l.length ≤ maxLen) (Cl : l.length ≤ c) (Zl : A = none → c = 0) (hm : Rd w B m) (Lm : Lim m) (Qm : m.length ≤ maxLen) (Cm : m.length ≤ d) (Zm : B = none → d = 0) (hk : Rd w D k) (Lk : Lim k) (Qk : k.length ≤ maxLen) (Ck : k.length ≤ f) (Zk : D = none → f = 0) (hx8 : x < 256) (hy8 : y < 256) :
    Calls Tryd.prog 5 #[.agg #[.slice A l.length c, .slice B m.length d, .slice D k.length f], .int .u8 (x : Nat), .int .u8 (y : Nat)] w fun e w' => e = .returned (.bool true) ∧ Below w.heap.size w w' := by
  replace Zl := Lib.hid Zl
  replace Zm := Lib.hid Zm
  replace Zk := Lib.hid Zk
  have hb0 : Below w.heap.size w (w.alloc (.cells #[.slice A l.length c, .slice B m.length d, .slice D k.length f] 31)) := (Below.refl _ _).alloc (Nat.le_refl _) _
  obtain ⟨⟨q0, q1, q2⟩, _⟩ := at_cells (heap_alloc_new w (.cells #[.slice A l.length c, .slice B m.length d, .slice D k.length f] 31))
  have hu := Tryd.underlying31
  replace hG := hG.below hb0
  replace hl := hl.below hb0
  replace hm := hm.below hb0
  replace hk := hk.below hb0
  have HBT := hb0
  clear hb0
  go_enter Tryd.func5, Tryd.ntmps5
  go_wp2_with (fail)
  refine (Calls.mono (head_c _ hG) ?_)
  rintro e W1 ⟨rfl, hb1⟩
  replace hG := hG.below hb1
  replace hl := hl.below hb1
  replace hm := hm.below hb1
  replace hk := hk.below hb1
  replace q0 := cell_below hb1 q0
  replace q1 := cell_below hb1 q1
  replace q2 := cell_below hb1 q2
  replace HBT := Below.cons HBT hb1
  clear hb1
  go_wp2_with (fail)
  obtain ⟨a, Ea⟩ : ∃ zq : Nat, zq = val (l.take 120) := ⟨_, rfl⟩
  have Ba : nl a ≤ 120 := by rw [Ea]; exact made_nl l Ll 120
  refine (Calls.mono (R := RetN W1 a) (by rw [Ea]; exact (made_c A c l _ hl Ll Ql Cl Zl.out)) ?_)
  replace Ea := Lib.hid Ea
  rintro e W2 ⟨X2, c2, rfl, ha, hb2⟩
  replace hG := hG.below hb2
  replace hl := hl.below hb2
  replace hm := hm.below hb2
  replace hk := hk.below hb2
  replace q0 := cell_below hb2 q0
  replace q1 := cell_below hb2 q1
  replace q2 := cell_below hb2 q2
  replace HBT := Below.cons HBT hb2
  clear hb2
  go_wp2_with (fail)
  obtain ⟨b, Eb⟩ : ∃ zq : Nat, zq = val (m.take 120) := ⟨_, rfl⟩
  have Bb : nl b ≤ 120 := by rw [Eb]; exact made_nl m Lm 120
  refine (Calls.mono (R := RetN W2 b) (by rw [Eb]; exact (made_c B d m _ hm Lm Qm Cm Zm.out)) ?_)
  replace Eb := Lib.hid Eb
  rintro e W3 ⟨X3, c3, rfl, hb, hb3⟩
  replace hG := hG.below hb3
  replace hl := hl.below hb3
  replace hm := hm.below hb3
  replace hk := hk.below hb3
  replace q0 := cell_below hb3 q0
  replace q1 := cell_below hb3 q1
  replace q2 := cell_below hb3 q2
  replace ha := ha.below hb3
  replace HBT := Below.cons HBT hb3
  clear hb3
  go_wp2_with (fail)
  obtain ⟨g, Eg⟩ : ∃ zq : Nat, zq = val (k.take 120) := ⟨_, rfl⟩
  have Bg : nl g ≤ 120 := by rw [Eg]; exact made_nl k Lk 120
  refine (Calls.mono (R := RetN W3 g) (by rw [Eg]; exact (made_c D f k _ hk Lk Qk Ck Zk.out)) ?_)
  replace Eg := Lib.hid Eg
  rintro e W4 ⟨X4, c4, rfl, hg, hb4⟩
  replace hG := hG.below hb4
  replace hl := hl.below hb4
  replace hm := hm.below hb4
  replace hk := hk.below hb4
  replace q0 := cell_below hb4 q0
  replace q1 := cell_below hb4 q1
  replace q2 := cell_below hb4 q2
  replace ha := ha.below hb4
  replace hb := hb.below hb4
  replace HBT := Below.cons HBT hb4
  clear hb4
  go_wp2_with (fail)
  obtain ⟨p1, Ep1⟩ : ∃ zq : Nat, zq = a * b := ⟨_, rfl⟩
  have Bp1 : nl p1 ≤ 240 := by rw [Ep1]; have := nl_mul a b; omega
  refine (Calls.mono (R := RetN W4 p1) (by rw [Ep1]; exact (by_c x X2 c2 a X3 c3 b _ hx8 ha hb hG (by omega) (by omega))) ?_)
  replace Ep1 := Lib.hid Ep1
  rintro e W5 ⟨X5, c5, rfl, hp1, hb5⟩
  replace hG := hG.below hb5
  replace hl := hl.below hb5
  replace hm := hm.below hb5
  replace hk := hk.below hb5
  replace q0 := cell_below hb5 q0
  replace q1 := cell_below hb5 q1
  replace q2 := cell_below hb5 q2
  replace ha := ha.below hb5
  replace hb := hb.below hb5
  replace hg := hg.below hb5
  replace HBT := Below.cons HBT hb5
  clear hb5
  go_wp2_with (fail)
  obtain ⟨p2, Ep2⟩ : ∃ zq : Nat, zq = b * a := ⟨_, rfl⟩
  have Bp2 : nl p2 ≤ 240 := by rw [Ep2]; have := nl_mul b a; omega
  refine (Calls.mono (R := RetN W5 p2) (by rw [Ep2]; exact (by_c y X3 c3 b X2 c2 a _ hy8 hb ha hG (by omega) (by omega))) ?_)
  replace Ep2 := Lib.hid Ep2
  rintro e W6 ⟨X6, c6, rfl, hp2, hb6⟩
  replace hG := hG.below hb6
  replace hl := hl.below hb6
  replace hm := hm.below hb6
  replace hk := hk.below hb6
  replace q0 := cell_below hb6 q0
  replace q1 := cell_below hb6 q1
  replace q2 := cell_below hb6 q2
  replace ha := ha.below hb6
  replace hb := hb.below hb6
  replace hg := hg.below hb6
  replace hp1 := hp1.below hb6
  replace HBT := Below.cons HBT hb6
  clear hb6
  go_wp2_with (fail)
  refine (Calls.mono (same_t X5 c5 p1 X6 c6 p2 _ hp1 hp2 (by omega) (by omega) (by rw [Ep1.out, Ep2.out, Nat.mul_comm])) ?_)
  rintro e W7 ⟨rfl, hb7⟩
  replace hG := hG.below hb7
  replace hl := hl.below hb7
  replace hm := hm.below hb7
  replace hk := hk.below hb7
  replace q0 := cell_below hb7 q0
  replace q1 := cell_below hb7 q1
  replace q2 := cell_below hb7 q2
  replace ha := ha.below hb7
  replace hb := hb.below hb7
  replace hg := hg.below hb7
  replace hp1 := hp1.below hb7
  replace hp2 := hp2.below hb7
  replace HBT := Below.cons HBT hb7
  clear hb7
  go_wp2_with (fail)
  clear hp1
  clear hp2
  obtain ⟨p3, Ep3⟩ : ∃ zq : Nat, zq = a * b := ⟨_, rfl⟩
  have Bp3 : nl p3 ≤ 240 := by rw [Ep3]; have := nl_mul a b; omega
  refine (Calls.mono (R := RetN W7 p3) (by rw [Ep3]; exact (by_c y X2 c2 a X3 c3 b _ hy8 ha hb hG (by omega) (by omega))) ?_)
  replace Ep3 := Lib.hid Ep3
  rintro e W8 ⟨X8, c8, rfl, hp3, hb8⟩
  replace hG := hG.below hb8
  replace hl := hl.below hb8
  replace hm := hm.below hb8
  replace hk := hk.below hb8
  replace q0 := cell_below hb8 q0
  replace q1 := cell_below hb8 q1
  replace q2 := cell_below hb8 q2
  replace ha := ha.below hb8
  replace hb := hb.below hb8
  replace hg := hg.below hb8
  replace HBT := Below.cons HBT hb8
  clear hb8
  go_wp2_with (fail)
  obtain ⟨p4, Ep4⟩ : ∃ zq : Nat, zq = p3 * g := ⟨_, rfl⟩
  have Bp4 : nl p4 ≤ 360 := by rw [Ep4]; have := nl_mul p3 g; omega
  refine (Calls.mono (R := RetN W8 p4) (by rw [Ep4]; exact (by_c x X8 c8 p3 X4 c4 g _ hx8 hp3 hg hG (by omega) (by omega))) ?_)
  replace Ep4 := Lib.hid Ep4
  rintro e W9 ⟨X9, c9, rfl, hp4, hb9⟩
  replace hG := hG.below hb9
  replace hl := hl.below hb9
  replace hm := hm.below hb9
  replace hk := hk.below hb9
  replace q0 := cell_below hb9 q0
  replace q1 := cell_below hb9 q1
  replace q2 := cell_below hb9 q2
  replace ha := ha.below hb9
  replace hb := hb.below hb9
  replace hg := hg.below hb9
  replace hp3 := hp3.below hb9
  replace HBT := Below.cons HBT hb9
  clear hb9
  go_wp2_with (fail)
  obtain ⟨p5, Ep5⟩ : ∃ zq : Nat, zq = b * g := ⟨_, rfl⟩
  have Bp5 : nl p5 ≤ 240 := by rw [Ep5]; have := nl_mul b g; omega
  refine (Calls.mono (R := RetN W9 p5) (by rw [Ep5]; exact (by_c x X3 c3 b X4 c4 g _ hx8 hb hg hG (by omega) (by omega))) ?_)
  replace Ep5 := Lib.hid Ep5
  rintro e W10 ⟨X10, c10, rfl, hp5, hb10⟩
  replace hG := hG.below hb10
  replace hl := hl.below hb10
  replace hm := hm.below hb10
  replace hk := hk.below hb10
  replace q0 := cell_below hb10 q0
  replace q1 := cell_below hb10 q1
  replace q2 := cell_below hb10 q2
  replace ha := ha.below hb10
  replace hb := hb.below hb10
  replace hg := hg.below hb10
  replace hp3 := hp3.below hb10
  replace hp4 := hp4.below hb10
  replace HBT := Below.cons HBT hb10
  clear hb10
  go_wp2_with (fail)
  obtain ⟨p6, Ep6⟩ : ∃ zq : Nat, zq = a * p5 := ⟨_, rfl⟩
  have Bp6 : nl p6 ≤ 360 := by rw [Ep6]; have := nl_mul a p5; omega
  refine (Calls.mono (R := RetN W10 p6) (by rw [Ep6]; exact (by_c y X2 c2 a X10 c10 p5 _ hy8 ha hp5 hG (by omega) (by omega))) ?_)
  replace Ep6 := Lib.hid Ep6
  rintro e W11 ⟨X11, c11, rfl, hp6, hb11⟩
  replace hG := hG.below hb11
  replace hl := hl.below hb11
  replace hm := hm.below hb11
  replace hk := hk.below hb11
  replace q0 := cell_below hb11 q0
  replace q1 := cell_below hb11 q1
  replace q2 := cell_below hb11 q2
  replace ha := ha.below hb11
  replace hb := hb.below hb11
  replace hg := hg.below hb11
  replace hp3 := hp3.below hb11
  replace hp4 := hp4.below hb11
  replace hp5 := hp5.below hb11
  replace HBT := Below.cons HBT hb11
  clear hb11
  go_wp2_with (fail)
  refine (Calls.mono (same_t X9 c9 p4 X11 c11 p6 _ hp4 hp6 (by omega) (by omega) (by rw [Ep4.out, Ep6.out, Ep3.out, Ep5.out, Nat.mul_assoc])) ?_)
  rintro e W12 ⟨rfl, hb12⟩
  replace hG := hG.below hb12
  replace hl := hl.below hb12
  replace hm := hm.below hb12
  replace hk := hk.below hb12
  replace q0 := cell_below hb12 q0
  replace q1 := cell_below hb12 q1
  replace q2 := cell_below hb12 q2
  replace ha := ha.below hb12
  replace hb := hb.below hb12
  replace hg := hg.below hb12
  replace hp3 := hp3.below hb12
  replace hp4 := hp4.below hb12
  replace hp5 := hp5.below hb12
  replace hp6 := hp6.below hb12
  replace HBT := Below.cons HBT hb12
  clear hb12
  go_wp2_with (fail)
  clear hp3
  clear hp4
  clear hp5
  clear hp6
  obtain ⟨s, Es⟩ : ∃ zq : Nat, zq = b + g := ⟨_, rfl⟩
  have Bs : nl s ≤ 121 := by rw [Es]; have := nl_add b g; omega
  refine (Calls.mono (R := RetN W12 s) (by rw [Es]; exact (add_c  X3 c3 b X4 c4 g _ hb hg (by omega) (by omega))) ?_)
  replace Es := Lib.hid Es
  rintro e W13 ⟨X13, c13, rfl, hs, hb13⟩
  replace hG := hG.below hb13
  replace hl := hl.below hb13
  replace hm := hm.below hb13
  replace hk := hk.below hb13
  replace q0 := cell_below hb13 q0
  replace q1 := cell_below hb13 q1
  replace q2 := cell_below hb13 q2
  replace ha := ha.below hb13
  replace hb := hb.below hb13
  replace hg := hg.below hb13
  replace HBT := Below.cons HBT hb13
  clear hb13
  go_wp2_with (fail)
  obtain ⟨t, Et⟩ : ∃ zq : Nat, zq = a * s := ⟨_, rfl⟩
  have Bt : nl t ≤ 241 := by rw [Et]; have := nl_mul a s; omega
  refine (Calls.mono (R := RetN W13 t) (by rw [Et]; exact (by_c x X2 c2 a X13 c13 s _ hx8 ha hs hG (by omega) (by omega))) ?_)
  replace Et := Lib.hid Et
  rintro e W14 ⟨X14, c14, rfl, ht, hb14⟩
  replace hG := hG.below hb14
  replace hl := hl.below hb14
  replace hm := hm.below hb14
  replace hk := hk.below hb14
  replace q0 := cell_below hb14 q0
  replace q1 := cell_below hb14 q1
  replace q2 := cell_below hb14 q2
  replace ha := ha.below hb14
  replace hb := hb.below hb14
  replace hg := hg.below hb14
  replace hs := hs.below hb14
  replace HBT := Below.cons HBT hb14
  clear hb14
  go_wp2_with (fail)
  obtain ⟨u, Eu⟩ : ∃ zq : Nat, zq = a * b := ⟨_, rfl⟩
  have Bu : nl u ≤ 240 := by rw [Eu]; have := nl_mul a b; omega
  refine (Calls.mono (R := RetN W14 u) (by rw [Eu]; exact (by_c y X2 c2 a X3 c3 b _ hy8 ha hb hG (by omega) (by omega))) ?_)
  replace Eu := Lib.hid Eu
  rintro e W15 ⟨X15, c15, rfl, hu, hb15⟩
  replace hG := hG.below hb15
  replace hl := hl.below hb15
  replace hm := hm.below hb15
  replace hk := hk.below hb15
  replace q0 := cell_below hb15 q0
  replace q1 := cell_below hb15 q1
  replace q2 := cell_below hb15 q2
  replace ha := ha.below hb15
  replace hb := hb.below hb15
  replace hg := hg.below hb15
  replace hs := hs.below hb15
  replace ht := ht.below hb15
  replace HBT := Below.cons HBT hb15
  clear hb15
  go_wp2_with (fail)
  obtain ⟨v, Ev⟩ : ∃ zq : Nat, zq = a * g := ⟨_, rfl⟩
  have Bv : nl v ≤ 240 := by rw [Ev]; have := nl_mul a g; omega
  refine (Calls.mono (R := RetN W15 v) (by rw [Ev]; exact (by_c y X2 c2 a X4 c4 g _ hy8 ha hg hG (by omega) (by omega))) ?_)
  replace Ev := Lib.hid Ev
  rintro e W16 ⟨X16, c16, rfl, hv, hb16⟩
  replace hG := hG.below hb16
  replace hl := hl.below hb16
  replace hm := hm.below hb16
  replace hk := hk.below hb16
  replace q0 := cell_below hb16 q0
  replace q1 := cell_below hb16 q1
  replace q2 := cell_below hb16 q2
  replace ha := ha.below hb16
  replace hb := hb.below hb16
  replace hg := hg.below hb16
  replace hs := hs.below hb16
  replace ht := ht.below hb16
  replace hu := hu.below hb16
  replace HBT := Below.cons HBT hb16
  clear hb16
  go_wp2_with (fail)
  obtain ⟨z, Ez⟩ : ∃ zq : Nat, zq = u + v := ⟨_, rfl⟩
  have Bz : nl z ≤ 241 := by rw [Ez]; have := nl_add u v; omega
  refine (Calls.mono (R := RetN W16 z) (by rw [Ez]; exact (add_c  X15 c15 u X16 c16 v _ hu hv (by omega) (by omega))) ?_)
  replace Ez := Lib.hid Ez
  rintro e W17 ⟨X17, c17, rfl, hz, hb17⟩
  replace hG := hG.below hb17
  replace hl := hl.below hb17
  replace hm := hm.below hb17
  replace hk := hk.below hb17
  replace q0 := cell_below hb17 q0
  replace q1 := cell_below hb17 q1
  replace q2 := cell_below hb17 q2
  replace ha := ha.below hb17
  replace hb := hb.below hb17
  replace hg := hg.below hb17
  replace hs := hs.below hb17
  replace ht := ht.below hb17
  replace hu := hu.below hb17
  replace hv := hv.below hb17
  replace HBT := Below.cons HBT hb17
  clear hb17
  go_wp2_with (fail)
  refine (Calls.mono (same_t X14 c14 t X17 c17 z _ ht hz (by omega) (by omega) (by rw [Et.out, Ez.out, Es.out, Eu.out, Ev.out, Nat.mul_add])) ?_)
  rintro e W18 ⟨rfl, hb18⟩
  replace hG := hG.below hb18
  replace hl := hl.below hb18
  replace hm := hm.below hb18
  replace hk := hk.below hb18
  replace q0 := cell_below hb18 q0
  replace q1 := cell_below hb18 q1
  replace q2 := cell_below hb18 q2
  replace ha := ha.below hb18
  replace hb := hb.below hb18
  replace hg := hg.below hb18
  replace hs := hs.below hb18
  replace ht := ht.below hb18
  replace hu := hu.below hb18
  replace hv := hv.below hb18
  replace hz := hz.below hb18
  replace HBT := Below.cons HBT hb18
  clear hb18
  go_wp2_with (fail)
  go_ret
  exact ⟨rfl, HBT⟩

set_option maxHeartbeats 4000000 in
theorem mulRests_c0 (A : Option Addr) (c : Nat) (l : List Nat) (B : Option Addr) (d : Nat) (m : List Nat) (q x : Nat) (w : World) (hG : Flds w) (hl : Rd w A l) (Ll : Lim l) (Ql : l.length ≤ maxLen) (Cl : l.length ≤ c) (Zl : A = none → c = 0) (hm : Rd w B m) (Lm : Lim m) (Qm : m.length ≤ maxLen) (Cm : m.length ≤ d) (Zm : B = none → d = 0) (hx8 : x < 256) (hq : q < 4294967296) (hq0 : 0 < q) :
    Calls Tryd.prog 6 #[.agg #[.slice A l.length c, .slice B m.length d], .int .u32 (q : Nat), .int .u8 (x : Nat)] w fun e w' => e = .returned (.bool true) ∧ Below w.heap.size w w' := by
  replace Zl := Lib.hid Zl
  replace Zm := Lib.hid Zm
  have hb0 : Below w.heap.size w (w.alloc (.cells #[.slice A l.length c, .slice B m.length d] 34)) := (Below.refl _ _).alloc (Nat.le_refl _) _
  obtain ⟨⟨q0, q1⟩, _⟩ := at_cells2 (heap_alloc_new w (.cells #[.slice A l.length c, .slice B m.length d] 34))
  have hu := Tryd.underlying34
  replace hG := hG.below hb0
  replace hl := hl.below hb0
  replace hm := hm.below hb0
  have HBT := hb0
  clear hb0
  have hz : ((q : Int) == 0) = false := ieqF (by omega)
  go_enter Tryd.func6, Tryd.ntmps6
  go_wp2_with (fail)
  refine (Calls.mono (head_c _ hG) ?_)
  rintro e W1 ⟨rfl, hb1⟩
  replace hG := hG.below hb1
  replace hl := hl.below hb1
  replace hm := hm.below hb1
  replace q0 := cell_below hb1 q0
  replace q1 := cell_below hb1 q1
  replace HBT := Below.cons HBT hb1
  clear hb1
  go_wp2_with (fail)
  obtain ⟨a, Ea⟩ : ∃ zq : Nat, zq = val (l.take 120) := ⟨_, rfl⟩
  have Ba : nl a ≤ 120 := by rw [Ea]; exact made_nl l Ll 120
  refine (Calls.mono (R := RetN W1 a) (by rw [Ea]; exact (made_c A c l _ hl Ll Ql Cl Zl.out)) ?_)
  replace Ea := Lib.hid Ea
  rintro e W2 ⟨X2, c2, rfl, ha, hb2⟩
  replace hG := hG.below hb2
  replace hl := hl.below hb2
  replace hm := hm.below hb2
  replace q0 := cell_below hb2 q0
  replace q1 := cell_below hb2 q1
  replace HBT := Below.cons HBT hb2
  clear hb2
  go_wp2_with (fail)
  obtain ⟨b, Eb⟩ : ∃ zq : Nat, zq = val (m.take 120) := ⟨_, rfl⟩
  have Bb : nl b ≤ 120 := by rw [Eb]; exact made_nl m Lm 120
  refine (Calls.mono (R := RetN W2 b) (by rw [Eb]; exact (made_c B d m _ hm Lm Qm Cm Zm.out)) ?_)
  replace Eb := Lib.hid Eb
  rintro e W3 ⟨X3, c3, rfl, hb, hb3⟩
  replace hG := hG.below hb3
  replace hl := hl.below hb3
  replace hm := hm.below hb3
  replace q0 := cell_below hb3 q0
  replace q1 := cell_below hb3 q1
  replace ha := ha.below hb3
  replace HBT := Below.cons HBT hb3
  clear hb3
  go_wp2_with (fail)
  obtain ⟨r, Er⟩ : ∃ zq : Nat, zq = a % q := ⟨_, rfl⟩
  have Br : r < q := by rw [Er]; exact Nat.mod_lt _ hq0
  have C4 := rest_c X2 c2 a q _ ha (by omega) hq0 (by omega)
  rw [← Er] at C4
  replace Er := Lib.hid Er
  refine (Calls.mono C4 ?_)
  rintro e w' ⟨rfl, hw⟩
  replace hw := hw.symm
  subst hw
  clear C4
  go_wp2_with (fail)
  obtain ⟨s, Es⟩ : ∃ zq : Nat, zq = b % q := ⟨_, rfl⟩
  have Bs : s < q := by rw [Es]; exact Nat.mod_lt _ hq0
  have C5 := rest_c X3 c3 b q _ hb (by omega) hq0 (by omega)
  rw [← Es] at C5
  replace Es := Lib.hid Es
  refine (Calls.mono C5 ?_)
  rintro e w' ⟨rfl, hw⟩
  replace hw := hw.symm
  subst hw
  clear C5
  obtain ⟨pr, Epr⟩ : ∃ zq : Nat, zq = r * s := ⟨_, rfl⟩
  have hprB : pr < 18446744073709551616 := by rw [Epr]; exact Nat.lt_of_lt_of_le (Nat.mul_lt_mul'' (Nat.lt_trans Br hq) (Nat.lt_trans Bs hq)) (by decide)
  have hpI : (r : Int) * (s : Int) = (pr : Int) := by rw [Epr]; exact (Int.natCast_mul r s).symm
  obtain ⟨u, Eu⟩ : ∃ zq : Nat, zq = pr % q := ⟨_, rfl⟩
  have huB : u < q := by rw [Eu]; exact Nat.mod_lt _ hq0
  have huI : (pr : Int) % (q : Int) = (u : Int) := by rw [Eu]; exact (Int.natCast_emod pr q).symm
  have huT : (pr : Int).tmod (q : Int) = (u : Int) := by rw [Int.tmod_eq_emod_of_nonneg (by omega)]; exact huI
  replace Epr := Lib.hid Epr
  replace Eu := Lib.hid Eu
  go_wp2_with (fail)
  obtain ⟨p, Ep⟩ : ∃ zq : Nat, zq = a * b := ⟨_, rfl⟩
  have Bp : nl p ≤ 240 := by rw [Ep]; have := nl_mul a b; omega
  refine (Calls.mono (R := RetN W3 p) (by rw [Ep]; exact (by_c x X2 c2 a X3 c3 b _ hx8 ha hb hG (by omega) (by omega))) ?_)
  replace Ep := Lib.hid Ep
  rintro e W6 ⟨X6, c6, rfl, hp, hb6⟩
  replace hG := hG.below hb6
  replace hl := hl.below hb6
  replace hm := hm.below hb6
  replace q0 := cell_below hb6 q0
  replace q1 := cell_below hb6 q1
  replace ha := ha.below hb6
  replace hb := hb.below hb6
  replace HBT := Below.cons HBT hb6
  clear hb6
  go_wp2_with (fail)
  obtain ⟨t, Et⟩ : ∃ zq : Nat, zq = p % q := ⟨_, rfl⟩
  have Bt : t < q := by rw [Et]; exact Nat.mod_lt _ hq0
  have C7 := rest_c X6 c6 p q _ hp (by omega) hq0 (by omega)
  rw [← Et] at C7
  replace Et := Lib.hid Et
  refine (Calls.mono C7 ?_)
  rintro e w' ⟨rfl, hw⟩
  replace hw := hw.symm
  subst hw
  clear C7
  have htu : t = u := by rw [Et.out, Eu.out, Epr.out, Ep.out, Er.out, Es.out]; exact Nat.mul_mod a b q
  have htuI : ((t : Int) == (u : Int)) = true := ieqT (by omega)
  replace htu := Lib.hid htu
  go_wp2_with (fail)
  go_ret
  exact ⟨rfl, HBT⟩

set_option maxHeartbeats 4000000 in
theorem mulRests_c1 (A : Option Addr) (c : Nat) (l : List Nat) (B : Option Addr) (d : Nat) (m : List Nat) (q x : Nat) (w : World) (hG : Flds w) (hl : Rd w A l) (Ll : Lim l) (Ql : l.length ≤ maxLen) (Cl : l.length ≤ c) (Zl : A = none → c = 0) (hm : Rd w B m) (Lm : Lim m) (Qm : m.length ≤ maxLen) (Cm : m.length ≤ d) (Zm : B = none → d = 0) (hx8 : x < 256) (hq : q < 4294967296) (hq0 : q = 0) :
    Calls Tryd.prog 6 #[.agg #[.slice A l.length c, .slice B m.length d], .int .u32 (q : Nat), .int .u8 (x : Nat)] w fun e w' => e = .returned (.bool true) ∧ Below w.heap.size w w' := by
  replace Zl := Lib.hid Zl
  replace Zm := Lib.hid Zm
  have hb0 : Below w.heap.size w (w.alloc (.cells #[.slice A l.length c, .slice B m.length d] 34)) := (Below.refl _ _).alloc (Nat.le_refl _) _
  obtain ⟨⟨q0, q1⟩, _⟩ := at_cells2 (heap_alloc_new w (.cells #[.slice A l.length c, .slice B m.length d] 34))
  have hu := Tryd.underlying34
  replace hG := hG.below hb0
  replace hl := hl.below hb0
  replace hm := hm.below hb0
  have HBT := hb0
  clear hb0
  have hz : ((q : Int) == 0) = true := ieqT (by omega)
  replace hq0 := Lib.hid hq0
  go_enter Tryd.func6, Tryd.ntmps6
  go_wp2_with (fail)
  refine (Calls.mono (head_c _ hG) ?_)
  rintro e W1 ⟨rfl, hb1⟩
  replace hG := hG.below hb1
  replace hl := hl.below hb1
  replace hm := hm.below hb1
  replace q0 := cell_below hb1 q0
  replace q1 := cell_below hb1 q1
  replace HBT := Below.cons HBT hb1
  clear hb1
  go_wp2_with (fail)
  obtain ⟨a, Ea⟩ : ∃ zq : Nat, zq = val (l.take 120) := ⟨_, rfl⟩
  have Ba : nl a ≤ 120 := by rw [Ea]; exact made_nl l Ll 120
  refine (Calls.mono (R := RetN W1 a) (by rw [Ea]; exact (made_c A c l _ hl Ll Ql Cl Zl.out)) ?_)
  replace Ea := Lib.hid Ea
  rintro e W2 ⟨X2, c2, rfl, ha, hb2⟩
  replace hG := hG.below hb2
  replace hl := hl.below hb2
  replace hm := hm.below hb2
  replace q0 := cell_below hb2 q0
  replace q1 := cell_below hb2 q1
  replace HBT := Below.cons HBT hb2
  clear hb2
  go_wp2_with (fail)
  obtain ⟨b, Eb⟩ : ∃ zq : Nat, zq = val (m.take 120) := ⟨_, rfl⟩
  have Bb : nl b ≤ 120 := by rw [Eb]; exact made_nl m Lm 120
  refine (Calls.mono (R := RetN W2 b) (by rw [Eb]; exact (made_c B d m _ hm Lm Qm Cm Zm.out)) ?_)
  replace Eb := Lib.hid Eb
  rintro e W3 ⟨X3, c3, rfl, hb, hb3⟩
  replace hG := hG.below hb3
  replace hl := hl.below hb3
  replace hm := hm.below hb3
  replace q0 := cell_below hb3 q0
  replace q1 := cell_below hb3 q1
  replace ha := ha.below hb3
  replace HBT := Below.cons HBT hb3
  clear hb3
  go_wp2_with (fail)
  go_ret
  exact ⟨rfl, HBT⟩

set_option maxHeartbeats 4000000 in
theorem mulPowers_c (A : Option Addr) (c : Nat) (l : List Nat) (B : Option Addr) (d : Nat) (m : List Nat) (n x : Nat) (w : World) (hG : Flds w) (hl : Rd w A l) (Ll : Lim l) (Ql : l.length ≤ maxLen) (Cl : l.length ≤ c) (Zl : A = none → c = 0) (hm : Rd w B m) (Lm : Lim m) (Qm : m.length ≤ maxLen) (Cm : m.length ≤ d) (Zm : B = none → d = 0) (hn8 : n < 256) (hx8 : x < 256) :
    Calls Tryd.prog 9 #[.agg #[.slice A l.length c, .slice B m.length d], .int .u8 (n : Nat), .int .u8 (x : Nat)] w fun e w' => e = .returned (.bool true) ∧ Below w.heap.size w w' := by
  replace Zl := Lib.hid Zl
  replace Zm := Lib.hid Zm
  have hb0 : Below w.heap.size w (w.alloc (.cells #[.slice A l.length c, .slice B m.length d] 34)) := (Below.refl _ _).alloc (Nat.le_refl _) _
  obtain ⟨⟨q0, q1⟩, _⟩ := at_cells2 (heap_alloc_new w (.cells #[.slice A l.length c, .slice B m.length d] 34))
  have hu := Tryd.underlying34
  replace hG := hG.below hb0
  replace hl := hl.below hb0
  replace hm := hm.below hb0
  have HBT := hb0
  clear hb0
  obtain ⟨i, Ei⟩ : ∃ y, y = n % 12 := ⟨_, rfl⟩
  have Ii : (n : Int) % 12 = (i : Int) := by omega
  have Ji : (n : Int).tmod 12 = (i : Int) := by rw [Int.tmod_eq_emod_of_nonneg (by omega)]; exact Ii
  have Bi : i < 12 := by omega
  replace Ei := Lib.hid Ei
  obtain ⟨j, Ej⟩ : ∃ y, y = x % 12 := ⟨_, rfl⟩
  have Ij : (x : Int) % 12 = (j : Int) := by omega
  have Jj : (x : Int).tmod 12 = (j : Int) := by rw [Int.tmod_eq_emod_of_nonneg (by omega)]; exact Ij
  have Bj : j < 12 := by omega
  replace Ej := Lib.hid Ej
  obtain ⟨ij, Eij⟩ : ∃ y : Nat, y = i + j := ⟨_, rfl⟩
  have Iij : (i : Int) + (j : Int) = (ij : Int) := by omega
  have Bij : ij < 24 := by omega
  obtain ⟨v, Ev⟩ : ∃ y, y = j % 5 := ⟨_, rfl⟩
  have Iv : (j : Int) % 5 = (v : Int) := by omega
  have Jv : (j : Int).tmod 5 = (v : Int) := by rw [Int.tmod_eq_emod_of_nonneg (by omega)]; exact Iv
  have Bv : v < 5 := by omega
  replace Ev := Lib.hid Ev
  have Bv2 : v < 5 := by omega
  obtain ⟨iv, Eiv⟩ : ∃ y : Nat, y = i * v := ⟨_, rfl⟩
  have Iiv : (i : Int) * (v : Int) = (iv : Int) := by rw [Eiv]; exact (Int.natCast_mul i v).symm
  have Biv : iv ≤ 44 := by rw [Eiv]; exact Nat.le_trans (Nat.mul_le_mul (show i ≤ 11 by omega) (show v ≤ 4 by omega)) (by decide)
  replace Eij := Lib.hid Eij
  replace Eiv := Lib.hid Eiv
  go_enter Tryd.func9, Tryd.ntmps9
  go_wp2_with (fail)
  refine (Calls.mono (head_c _ hG) ?_)
  rintro e W1 ⟨rfl, hb1⟩
  replace hG := hG.below hb1
  replace hl := hl.below hb1
  replace hm := hm.below hb1
  replace q0 := cell_below hb1 q0
  replace q1 := cell_below hb1 q1
  replace HBT := Below.cons HBT hb1
  clear hb1
  go_wp2_with (fail)
  obtain ⟨a, Ea⟩ : ∃ zq : Nat, zq = val (l.take 3) := ⟨_, rfl⟩
  have Ba : nl a ≤ 3 := by rw [Ea]; exact made_nl l Ll 3
  refine (Calls.mono (R := RetN W1 a) (by rw [Ea]; exact (made_n_c A c 3 l _ hl Ll Ql Cl Zl.out (by decide))) ?_)
  replace Ea := Lib.hid Ea
  rintro e W2 ⟨X2, c2, rfl, ha, hb2⟩
  replace hG := hG.below hb2
  replace hl := hl.below hb2
  replace hm := hm.below hb2
  replace q0 := cell_below hb2 q0
  replace q1 := cell_below hb2 q1
  replace HBT := Below.cons HBT hb2
  clear hb2
  go_wp2_with (fail)
  obtain ⟨b, Eb⟩ : ∃ zq : Nat, zq = val (m.take 3) := ⟨_, rfl⟩
  have Bb : nl b ≤ 3 := by rw [Eb]; exact made_nl m Lm 3
  refine (Calls.mono (R := RetN W2 b) (by rw [Eb]; exact (made_n_c B d 3 m _ hm Lm Qm Cm Zm.out (by decide))) ?_)
  replace Eb := Lib.hid Eb
  rintro e W3 ⟨X3, c3, rfl, hb, hb3⟩
  replace hG := hG.below hb3
  replace hl := hl.below hb3
  replace hm := hm.below hb3
  replace q0 := cell_below hb3 q0
  replace q1 := cell_below hb3 q1
  replace ha := ha.below hb3
  replace HBT := Below.cons HBT hb3
  clear hb3
  go_wp2_with (fail)
  have hqp1 : nl a * ij ≤ 69 := Nat.le_trans (Nat.mul_le_mul Ba (show ij ≤ 23 by omega)) (by decide)
  obtain ⟨p1, Ep1⟩ : ∃ zq : Nat, zq = a ^ ij := ⟨_, rfl⟩
  have Bp1 : nl p1 ≤ 69 := by rw [Ep1]; refine Nat.le_trans (nl_pow a ij) ?_; omega
  refine (Calls.mono (R := RetN W3 p1) (by rw [Ep1]; exact (pow_c X2 c2 a ij _ ha hG (Nat.le_trans hqp1 (by decide)) (by omega) (by omega))) ?_)
  replace Ep1 := Lib.hid Ep1
  rintro e W4 ⟨X4, c4, rfl, hp1, hb4⟩
  replace hG := hG.below hb4
  replace hl := hl.below hb4
  replace hm := hm.below hb4
  replace q0 := cell_below hb4 q0
  replace q1 := cell_below hb4 q1
  replace ha := ha.below hb4
  replace hb := hb.below hb4
  replace HBT := Below.cons HBT hb4
  clear hb4
  go_wp2_with (fail)
  have hqp2 : nl a * i ≤ 33 := Nat.le_trans (Nat.mul_le_mul Ba (show i ≤ 11 by omega)) (by decide)
  obtain ⟨p2, Ep2⟩ : ∃ zq : Nat, zq = a ^ i := ⟨_, rfl⟩
  have Bp2 : nl p2 ≤ 33 := by rw [Ep2]; refine Nat.le_trans (nl_pow a i) ?_; omega
  refine (Calls.mono (R := RetN W4 p2) (by rw [Ep2]; exact (pow_c X2 c2 a i _ ha hG (Nat.le_trans hqp2 (by decide)) (by omega) (by omega))) ?_)
  replace Ep2 := Lib.hid Ep2
  rintro e W5 ⟨X5, c5, rfl, hp2, hb5⟩
  replace hG := hG.below hb5
  replace hl := hl.below hb5
  replace hm := hm.below hb5
  replace q0 := cell_below hb5 q0
  replace q1 := cell_below hb5 q1
  replace ha := ha.below hb5
  replace hb := hb.below hb5
  replace hp1 := hp1.below hb5
  replace HBT := Below.cons HBT hb5
  clear hb5
  go_wp2_with (fail)
  have hqp3 : nl a * j ≤ 33 := Nat.le_trans (Nat.mul_le_mul Ba (show j ≤ 11 by omega)) (by decide)
  obtain ⟨p3, Ep3⟩ : ∃ zq : Nat, zq = a ^ j := ⟨_, rfl⟩
  have Bp3 : nl p3 ≤ 33 := by rw [Ep3]; refine Nat.le_trans (nl_pow a j) ?_; omega
  refine (Calls.mono (R := RetN W5 p3) (by rw [Ep3]; exact (pow_c X2 c2 a j _ ha hG (Nat.le_trans hqp3 (by decide)) (by omega) (by omega))) ?_)
  replace Ep3 := Lib.hid Ep3
  rintro e W6 ⟨X6, c6, rfl, hp3, hb6⟩
  replace hG := hG.below hb6
  replace hl := hl.below hb6
  replace hm := hm.below hb6
  replace q0 := cell_below hb6 q0
  replace q1 := cell_below hb6 q1
  replace ha := ha.below hb6
  replace hb := hb.below hb6
  replace hp1 := hp1.below hb6
  replace hp2 := hp2.below hb6
  replace HBT := Below.cons HBT hb6
  clear hb6
  go_wp2_with (fail)
  obtain ⟨p4, Ep4⟩ : ∃ zq : Nat, zq = p2 * p3 := ⟨_, rfl⟩
  have Bp4 : nl p4 ≤ 66 := by rw [Ep4]; have := nl_mul p2 p3; omega
  refine (Calls.mono (R := RetN W6 p4) (by rw [Ep4]; exact (mul_c  X5 c5 p2 X6 c6 p3 _ hp2 hp3 hG (by omega) (by omega))) ?_)
  replace Ep4 := Lib.hid Ep4
  rintro e W7 ⟨X7, c7, rfl, hp4, hb7⟩
  replace hG := hG.below hb7
  replace hl := hl.below hb7
  replace hm := hm.below hb7
  replace q0 := cell_below hb7 q0
  replace q1 := cell_below hb7 q1
  replace ha := ha.below hb7
  replace hb := hb.below hb7
  replace hp1 := hp1.below hb7
  replace hp2 := hp2.below hb7
  replace hp3 := hp3.below hb7
  replace HBT := Below.cons HBT hb7
  clear hb7
  go_wp2_with (fail)
  refine (Calls.mono (same_t X4 c4 p1 X7 c7 p4 _ hp1 hp4 (by omega) (by omega) (by rw [Ep1.out, Ep4.out, Ep2.out, Ep3.out, Eij.out, Nat.pow_add])) ?_)
  rintro e W8 ⟨rfl, hb8⟩
  replace hG := hG.below hb8
  replace hl := hl.below hb8
  replace hm := hm.below hb8
  replace q0 := cell_below hb8 q0
  replace q1 := cell_below hb8 q1
  replace ha := ha.below hb8
  replace hb := hb.below hb8
  replace hp1 := hp1.below hb8
  replace hp2 := hp2.below hb8
  replace hp3 := hp3.below hb8
  replace hp4 := hp4.below hb8
  replace HBT := Below.cons HBT hb8
  clear hb8
  go_wp2_with (fail)
  clear hp1
  clear hp2
  clear hp3
  clear hp4
  have hqp5 : nl a * i ≤ 33 := Nat.le_trans (Nat.mul_le_mul Ba (show i ≤ 11 by omega)) (by decide)
  obtain ⟨p5, Ep5⟩ : ∃ zq : Nat, zq = a ^ i := ⟨_, rfl⟩
  have Bp5 : nl p5 ≤ 33 := by rw [Ep5]; refine Nat.le_trans (nl_pow a i) ?_; omega
  refine (Calls.mono (R := RetN W8 p5) (by rw [Ep5]; exact (pow_c X2 c2 a i _ ha hG (Nat.le_trans hqp5 (by decide)) (by omega) (by omega))) ?_)
  replace Ep5 := Lib.hid Ep5
  rintro e W9 ⟨X9, c9, rfl, hp5, hb9⟩
  replace hG := hG.below hb9
  replace hl := hl.below hb9
  replace hm := hm.below hb9
  replace q0 := cell_below hb9 q0
  replace q1 := cell_below hb9 q1
  replace ha := ha.below hb9
  replace hb := hb.below hb9
  replace HBT := Below.cons HBT hb9
  clear hb9
  go_wp2_with (fail)
  have hqp6 : nl p5 * v ≤ 132 := Nat.le_trans (Nat.mul_le_mul Bp5 (show v ≤ 4 by omega)) (by decide)
  obtain ⟨p6, Ep6⟩ : ∃ zq : Nat, zq = p5 ^ v := ⟨_, rfl⟩
  have Bp6 : nl p6 ≤ 132 := by rw [Ep6]; refine Nat.le_trans (nl_pow p5 v) ?_; omega
  refine (Calls.mono (R := RetN W9 p6) (by rw [Ep6]; exact (pow_c X9 c9 p5 v _ hp5 hG (Nat.le_trans hqp6 (by decide)) (by omega) (by omega))) ?_)
  replace Ep6 := Lib.hid Ep6
  rintro e W10 ⟨X10, c10, rfl, hp6, hb10⟩
  replace hG := hG.below hb10
  replace hl := hl.below hb10
  replace hm := hm.below hb10
  replace q0 := cell_below hb10 q0
  replace q1 := cell_below hb10 q1
  replace ha := ha.below hb10
  replace hb := hb.below hb10
  replace hp5 := hp5.below hb10
  replace HBT := Below.cons HBT hb10
  clear hb10
  go_wp2_with (fail)
  have hqp7 : nl a * iv ≤ 132 := Nat.le_trans (Nat.mul_le_mul Ba (show iv ≤ 44 by omega)) (by decide)
  obtain ⟨p7, Ep7⟩ : ∃ zq : Nat, zq = a ^ iv := ⟨_, rfl⟩
  have Bp7 : nl p7 ≤ 132 := by rw [Ep7]; refine Nat.le_trans (nl_pow a iv) ?_; omega
  refine (Calls.mono (R := RetN W10 p7) (by rw [Ep7]; exact (pow_c X2 c2 a iv _ ha hG (Nat.le_trans hqp7 (by decide)) (by omega) (by omega))) ?_)
  replace Ep7 := Lib.hid Ep7
  rintro e W11 ⟨X11, c11, rfl, hp7, hb11⟩
  replace hG := hG.below hb11
  replace hl := hl.below hb11
  replace hm := hm.below hb11
  replace q0 := cell_below hb11 q0
  replace q1 := cell_below hb11 q1
  replace ha := ha.below hb11
  replace hb := hb.below hb11
  replace hp5 := hp5.below hb11
  replace hp6 := hp6.below hb11
  replace HBT := Below.cons HBT hb11
  clear hb11
  go_wp2_with (fail)
  refine (Calls.mono (same_t X10 c10 p6 X11 c11 p7 _ hp6 hp7 (by omega) (by omega) (by rw [Ep6.out, Ep7.out, Ep5.out, Eiv.out, Nat.pow_mul])) ?_)
  rintro e W12 ⟨rfl, hb12⟩
  replace hG := hG.below hb12
  replace hl := hl.below hb12
  replace hm := hm.below hb12
  replace q0 := cell_below hb12 q0
  replace q1 := cell_below hb12 q1
  replace ha := ha.below hb12
  replace hb := hb.below hb12
  replace hp5 := hp5.below hb12
  replace hp6 := hp6.below hb12
  replace hp7 := hp7.below hb12
  replace HBT := Below.cons HBT hb12
  clear hb12
  go_wp2_with (fail)
  clear hp5
  clear hp6
  clear hp7
  obtain ⟨g, Eg⟩ : ∃ zq : Nat, zq = a * b := ⟨_, rfl⟩
  have Bg : nl g ≤ 6 := by rw [Eg]; have := nl_mul a b; omega
  refine (Calls.mono (R := RetN W12 g) (by rw [Eg]; exact (mul_c  X2 c2 a X3 c3 b _ ha hb hG (by omega) (by omega))) ?_)
  replace Eg := Lib.hid Eg
  rintro e W13 ⟨X13, c13, rfl, hg, hb13⟩
  replace hG := hG.below hb13
  replace hl := hl.below hb13
  replace hm := hm.below hb13
  replace q0 := cell_below hb13 q0
  replace q1 := cell_below hb13 q1
  replace ha := ha.below hb13
  replace hb := hb.below hb13
  replace HBT := Below.cons HBT hb13
  clear hb13
  go_wp2_with (fail)
  have hqr1 : nl g * j ≤ 66 := Nat.le_trans (Nat.mul_le_mul Bg (show j ≤ 11 by omega)) (by decide)
  obtain ⟨r1, Er1⟩ : ∃ zq : Nat, zq = g ^ j := ⟨_, rfl⟩
  have Br1 : nl r1 ≤ 66 := by rw [Er1]; refine Nat.le_trans (nl_pow g j) ?_; omega
  refine (Calls.mono (R := RetN W13 r1) (by rw [Er1]; exact (pow_c X13 c13 g j _ hg hG (Nat.le_trans hqr1 (by decide)) (by omega) (by omega))) ?_)
  replace Er1 := Lib.hid Er1
  rintro e W14 ⟨X14, c14, rfl, hr1, hb14⟩
  replace hG := hG.below hb14
  replace hl := hl.below hb14
  replace hm := hm.below hb14
  replace q0 := cell_below hb14 q0
  replace q1 := cell_below hb14 q1
  replace ha := ha.below hb14
  replace hb := hb.below hb14
  replace hg := hg.below hb14
  replace HBT := Below.cons HBT hb14
  clear hb14
  go_wp2_with (fail)
  have hqr2 : nl a * j ≤ 33 := Nat.le_trans (Nat.mul_le_mul Ba (show j ≤ 11 by omega)) (by decide)
  obtain ⟨r2, Er2⟩ : ∃ zq : Nat, zq = a ^ j := ⟨_, rfl⟩
  have Br2 : nl r2 ≤ 33 := by rw [Er2]; refine Nat.le_trans (nl_pow a j) ?_; omega
  refine (Calls.mono (R := RetN W14 r2) (by rw [Er2]; exact (pow_c X2 c2 a j _ ha hG (Nat.le_trans hqr2 (by decide)) (by omega) (by omega))) ?_)
  replace Er2 := Lib.hid Er2
  rintro e W15 ⟨X15, c15, rfl, hr2, hb15⟩
  replace hG := hG.below hb15
  replace hl := hl.below hb15
  replace hm := hm.below hb15
  replace q0 := cell_below hb15 q0
  replace q1 := cell_below hb15 q1
  replace ha := ha.below hb15
  replace hb := hb.below hb15
  replace hg := hg.below hb15
  replace hr1 := hr1.below hb15
  replace HBT := Below.cons HBT hb15
  clear hb15
  go_wp2_with (fail)
  have hqr3 : nl b * j ≤ 33 := Nat.le_trans (Nat.mul_le_mul Bb (show j ≤ 11 by omega)) (by decide)
  obtain ⟨r3, Er3⟩ : ∃ zq : Nat, zq = b ^ j := ⟨_, rfl⟩
  have Br3 : nl r3 ≤ 33 := by rw [Er3]; refine Nat.le_trans (nl_pow b j) ?_; omega
  refine (Calls.mono (R := RetN W15 r3) (by rw [Er3]; exact (pow_c X3 c3 b j _ hb hG (Nat.le_trans hqr3 (by decide)) (by omega) (by omega))) ?_)
  replace Er3 := Lib.hid Er3
  rintro e W16 ⟨X16, c16, rfl, hr3, hb16⟩
  replace hG := hG.below hb16
  replace hl := hl.below hb16
  replace hm := hm.below hb16
  replace q0 := cell_below hb16 q0
  replace q1 := cell_below hb16 q1
  replace ha := ha.below hb16
  replace hb := hb.below hb16
  replace hg := hg.below hb16
  replace hr1 := hr1.below hb16
  replace hr2 := hr2.below hb16
  replace HBT := Below.cons HBT hb16
  clear hb16
  go_wp2_with (fail)
  obtain ⟨r4, Er4⟩ : ∃ zq : Nat, zq = r2 * r3 := ⟨_, rfl⟩
  have Br4 : nl r4 ≤ 66 := by rw [Er4]; have := nl_mul r2 r3; omega
  refine (Calls.mono (R := RetN W16 r4) (by rw [Er4]; exact (mul_c  X15 c15 r2 X16 c16 r3 _ hr2 hr3 hG (by omega) (by omega))) ?_)
  replace Er4 := Lib.hid Er4
  rintro e W17 ⟨X17, c17, rfl, hr4, hb17⟩
  replace hG := hG.below hb17
  replace hl := hl.below hb17
  replace hm := hm.below hb17
  replace q0 := cell_below hb17 q0
  replace q1 := cell_below hb17 q1
  replace ha := ha.below hb17
  replace hb := hb.below hb17
  replace hg := hg.below hb17
  replace hr1 := hr1.below hb17
  replace hr2 := hr2.below hb17
  replace hr3 := hr3.below hb17
  replace HBT := Below.cons HBT hb17
  clear hb17
  go_wp2_with (fail)
  refine (Calls.mono (same_t X14 c14 r1 X17 c17 r4 _ hr1 hr4 (by omega) (by omega) (by rw [Er1.out, Er4.out, Er2.out, Er3.out, Eg.out, Nat.mul_pow])) ?_)
  rintro e W18 ⟨rfl, hb18⟩
  replace hG := hG.below hb18
  replace hl := hl.below hb18
  replace hm := hm.below hb18
  replace q0 := cell_below hb18 q0
  replace q1 := cell_below hb18 q1
  replace ha := ha.below hb18
  replace hb := hb.below hb18
  replace hg := hg.below hb18
  replace hr1 := hr1.below hb18
  replace hr2 := hr2.below hb18
  replace hr3 := hr3.below hb18
  replace hr4 := hr4.below hb18
  replace HBT := Below.cons HBT hb18
  clear hb18
  go_wp2_with (fail)
  go_ret
  exact ⟨rfl, HBT⟩

end Go.Proofs.YtmcekbmmpdpbmaaDoor
