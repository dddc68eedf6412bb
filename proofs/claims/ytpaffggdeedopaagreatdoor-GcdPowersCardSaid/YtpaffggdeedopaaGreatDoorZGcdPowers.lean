/- For all inputs exponents are added, and multiplied, bases are multiplied, and a power of 1 is the rest: GcdPowers returns true and leaves its arguments as they were. Conditions: Each package-level variable that the row lists (ntt.fields) holds at the call what the program's text lays; the tie is given and covers the pruned copy of the repository. -/
import Derived.Test.YtpaffggdeedopaaGreatDoorG01
import Derived.Test.YtpaffggdeedopaaGreatDoorG02
import Derived.Test.YtpaffggdeedopaaGreatDoorG03
import Derived.Test.YtpaffggdeedopaaGreatDoorG04
import Derived.Test.YtpaffggdeedopaaGreatDoorG05
import Derived.Test.YtpaffggdeedopaaGreatDoorK01
import Derived.Deep.CutRange
import Derived.Test.YtpaffggdeedopaaGreatDoorCards
import Derived.Test.YtpaffggdeedopaaGreatDoorTie
import Derived.SevenTiedAt
set_option maxRecDepth 100000
set_option maxHeartbeats 4000000
set_option linter.unusedVariables false
set_option linter.unusedSimpArgs false
namespace Go.Proofs.YtpaffggdeedopaaGreatDoor
open Go.RowKit Go.Shelf
attribute [local go_sem] max2_i min2_i max_two min_two

theorem gcdPowers_c (A1 : Option Addr) (c1 : Nat) (l1 : List Nat) (A2 : Option Addr) (c2 : Nat) (l2 : List Nat) (A3 : Option Addr) (c3 : Nat) (l3 : List Nat) (A4 : Option Addr) (c4 : Nat) (l4 : List Nat) (A5 : Option Addr) (c5 : Nat) (l5 : List Nat) (w : World) (hG : Flds w) (hl1 : Rd w A1 l1) (Ll1 : Lim l1) (Ql1 : l1.length ≤ maxLen) (Cl1 : l1.length ≤ c1) (Zl1 : A1 = none → c1 = 0) (hl2 : Rd w A2 l2) (Ll2 : Lim l2) (Ql2 : l2.length ≤ maxLen) (Cl2 : l2.length ≤ c2) (Zl2 : A2 = none → c2 = 0) (hl3 : Rd w A3 l3) (Ll3 : Lim l3) (Ql3 : l3.length ≤ maxLen) (Cl3 : l3.length ≤ c3) (Zl3 : A3 = none → c3 = 0) (hl4 : Rd w A4 l4) (Ll4 : Lim l4) (Ql4 : l4.length ≤ maxLen) (Cl4 : l4.length ≤ c4) (Zl4 : A4 = none → c4 = 0) (hl5 : Rd w A5 l5) (Ll5 : Lim l5) (Ql5 : l5.length ≤ maxLen) (Cl5 : l5.length ≤ c5) (Zl5 : A5 = none → c5 = 0) :
    Calls Tryz.prog 10 #[.agg #[.slice A1 l1.length c1, .slice A2 l2.length c2], .agg #[.slice A3 l3.length c3, .slice A4 l4.length c4], .slice A5 l5.length c5] w fun e w' => e = .returned (.bool true) ∧ Below w.heap.size w w' := by
  replace Zl1 := Lib.hid Zl1
  replace Zl2 := Lib.hid Zl2
  replace Zl3 := Lib.hid Zl3
  replace Zl4 := Lib.hid Zl4
  replace Zl5 := Lib.hid Zl5
  have hu := Tryz.underlying75
  obtain ⟨hb1, Rab, Ref⟩ := bx2 w #[.slice A1 l1.length c1, .slice A2 l2.length c2] 75 #[.slice A3 l3.length c3, .slice A4 l4.length c4] 75
  replace hG := hG.below hb1
  replace hl1 := hl1.below hb1
  replace hl2 := hl2.below hb1
  replace hl3 := hl3.below hb1
  replace hl4 := hl4.below hb1
  replace hl5 := hl5.below hb1
  have HBT := hb1
  clear hb1
  go_enter Tryz.func10, Tryz.ntmps10
  go_wp2_with (fail)
  refine (Calls.mono (ghead_c _ hG) ?_)
  rintro e W2 ⟨rfl, hb2⟩
  replace hG := hG.below hb2
  replace hl1 := hl1.below hb2
  replace hl2 := hl2.below hb2
  replace hl3 := hl3.below hb2
  replace hl4 := hl4.below hb2
  replace hl5 := hl5.below hb2
  replace Rab := Rab.below hb2
  replace Ref := Ref.below hb2
  replace HBT := Below.cons HBT hb2
  clear hb2
  go_wp2_with (fail)
  have hd3 := drb (W2)
  replace hG := hG.below hd3
  replace hl1 := hl1.below hd3
  replace hl2 := hl2.below hd3
  replace hl3 := hl3.below hd3
  replace hl4 := hl4.below hd3
  replace hl5 := hl5.below hd3
  replace Rab := Rab.below hd3
  replace Ref := Ref.below hd3
  replace HBT := Below.cons HBT hd3
  clear hd3
  obtain ⟨a, Ea⟩ : ∃ zq : Nat, zq = val (l1.take 10) := ⟨_, rfl⟩
  have Ba : nl a ≤ 10 := by rw [Ea]; exact made_nl l1 Ll1 10
  have C3_0 := fun (W : World) (h : Rd W A1 l1) => (show Calls Tryz.prog 47 #[.slice A1 l1.length c1, .int .i64 10] W (RetN W (val (l1.take 10))) from made_n_c A1 c1 10 l1 W h Ll1 Ql1 Cl1 Zl1.out (by decide))
  simp only [← Ea] at C3_0
  replace Ea := Lib.hid Ea
  replace C3_0 := Lib.hid C3_0
  obtain ⟨b, Eb⟩ : ∃ zq : Nat, zq = val (l2.take 10) := ⟨_, rfl⟩
  have Bb : nl b ≤ 10 := by rw [Eb]; exact made_nl l2 Ll2 10
  have C3_1 := fun (W : World) (h : Rd W A2 l2) => (show Calls Tryz.prog 47 #[.slice A2 l2.length c2, .int .i64 10] W (RetN W (val (l2.take 10))) from made_n_c A2 c2 10 l2 W h Ll2 Ql2 Cl2 Zl2.out (by decide))
  simp only [← Eb] at C3_1
  replace Eb := Lib.hid Eb
  replace C3_1 := Lib.hid C3_1
  obtain ⟨x, Ex⟩ : ∃ zq : Nat, zq = val (l3.take 2) := ⟨_, rfl⟩
  have Bx : nl x ≤ 2 := by rw [Ex]; exact made_nl l3 Ll3 2
  have C3_2 := fun (W : World) (h : Rd W A3 l3) => (show Calls Tryz.prog 47 #[.slice A3 l3.length c3, .int .i64 2] W (RetN W (val (l3.take 2))) from made_n_c A3 c3 2 l3 W h Ll3 Ql3 Cl3 Zl3.out (by decide))
  simp only [← Ex] at C3_2
  replace Ex := Lib.hid Ex
  replace C3_2 := Lib.hid C3_2
  obtain ⟨y, Ey⟩ : ∃ zq : Nat, zq = val (l4.take 2) := ⟨_, rfl⟩
  have By : nl y ≤ 2 := by rw [Ey]; exact made_nl l4 Ll4 2
  have C3_3 := fun (W : World) (h : Rd W A4 l4) => (show Calls Tryz.prog 47 #[.slice A4 l4.length c4, .int .i64 2] W (RetN W (val (l4.take 2))) from made_n_c A4 c4 2 l4 W h Ll4 Ql4 Cl4 Zl4.out (by decide))
  simp only [← Ey] at C3_3
  replace Ey := Lib.hid Ey
  replace C3_3 := Lib.hid C3_3
  obtain ⟨S, hS⟩ : ∃ S : World → Prop, S = fun W => W.cell? ⟨w.heap.size, 0, none⟩ = some (.slice A1 l1.length c1) ∧ W.cell? ⟨w.heap.size, 1, none⟩ = some (.slice A2 l2.length c2) ∧ W.cell? ⟨(w.heap.size + 1), 0, none⟩ = some (.slice A3 l3.length c3) ∧ W.cell? ⟨(w.heap.size + 1), 1, none⟩ = some (.slice A4 l4.length c4) := ⟨_, rfl⟩
  have HSq : S (W2).drew := by rw [hS]; exact ⟨(Rab.c (i := 0) rfl), (Rab.c (i := 1) rfl), (Ref.c (i := 0) rfl), (Ref.c (i := 1) rfl)⟩
  have hSb : ∀ W W' : World, Below W.heap.size W W' → S W → S W' := by rw [hS]; exact fun W W' hb h => ⟨cell_below hb h.1, cell_below hb h.2.1, cell_below hb h.2.2.1, cell_below hb h.2.2.2⟩
  replace hSb := Lib.hid hSb
  replace hS := Lib.hid hS
  refine wp_region_seq S [(0, true), (1, true), (3, true), (4, true), (6, true), (7, true), (9, true), (10, true), (2, false), (5, false), (8, false), (11, false), (12, true), (13, true), (14, true), (15, true)] (by kernel_rfl) (by kernel_rfl) (by kernel_rfl) HSq (fun hSq => ?_)
  clear hSq
  replace HSq := Lib.hid HSq
  clear Rab Ref
  refine SeqP.take (v := ?_) rfl (fun _ _ _ h => h) (Or.inl ⟨by rfl, ?_⟩) ?_
  rotate_left 1
  · intro wq hSw; rw [hS.out] at hSw; (try dsimp only at hSw); go_simp; try with_reducible rfl
  try simp only [Act.put, List.setIfInBounds_toArray, List.set_cons_zero, List.set_cons_succ]
  refine SeqP.take (v := ?_) rfl (fun _ _ _ h => h) (Or.inl ⟨by rfl, ?_⟩) ?_
  rotate_left 1
  · intro wq hSw; rw [hS.out] at hSw; (try dsimp only at hSw); go_simp; try with_reducible rfl
  try simp only [Act.put, List.setIfInBounds_toArray, List.set_cons_zero, List.set_cons_succ]
  refine SeqP.take (v := ?_) rfl (fun _ _ _ h => h) (Or.inl ⟨by rfl, ?_⟩) ?_
  rotate_left 1
  · intro wq hSw; rw [hS.out] at hSw; (try dsimp only at hSw); go_simp; try with_reducible rfl
  try simp only [Act.put, List.setIfInBounds_toArray, List.set_cons_zero, List.set_cons_succ]
  refine SeqP.take (v := ?_) rfl (fun _ _ _ h => h) (Or.inl ⟨by rfl, ?_⟩) ?_
  rotate_left 1
  · intro wq hSw; rw [hS.out] at hSw; (try dsimp only at hSw); go_simp; try with_reducible rfl
  try simp only [Act.put, List.setIfInBounds_toArray, List.set_cons_zero, List.set_cons_succ]
  refine SeqP.take (v := ?_) rfl (fun _ _ _ h => h) (Or.inl ⟨by rfl, ?_⟩) ?_
  rotate_left 1
  · intro wq hSw; rw [hS.out] at hSw; (try dsimp only at hSw); go_simp; try with_reducible rfl
  try simp only [Act.put, List.setIfInBounds_toArray, List.set_cons_zero, List.set_cons_succ]
  refine SeqP.take (v := ?_) rfl (fun _ _ _ h => h) (Or.inl ⟨by rfl, ?_⟩) ?_
  rotate_left 1
  · intro wq hSw; rw [hS.out] at hSw; (try dsimp only at hSw); go_simp; try with_reducible rfl
  try simp only [Act.put, List.setIfInBounds_toArray, List.set_cons_zero, List.set_cons_succ]
  refine SeqP.take (v := ?_) rfl (fun _ _ _ h => h) (Or.inl ⟨by rfl, ?_⟩) ?_
  rotate_left 1
  · intro wq hSw; rw [hS.out] at hSw; (try dsimp only at hSw); go_simp; try with_reducible rfl
  try simp only [Act.put, List.setIfInBounds_toArray, List.set_cons_zero, List.set_cons_succ]
  refine SeqP.take (v := ?_) rfl (fun _ _ _ h => h) (Or.inl ⟨by rfl, ?_⟩) ?_
  rotate_left 1
  · intro wq hSw; rw [hS.out] at hSw; (try dsimp only at hSw); go_simp; try with_reducible rfl
  try simp only [Act.put, List.setIfInBounds_toArray, List.set_cons_zero, List.set_cons_succ]
  refine SeqP.call rfl (by rfl) (fun Kq hKq => ?_)
  go_simp
  go_at_call 47
  with_reducible refine (C3_0.out _ hl1).mono ?_
  rintro e W4 ⟨Xa, ca, rfl, ha, hb4⟩
  replace hG := hG.below hb4
  replace hl2 := hl2.below hb4
  replace hl3 := hl3.below hb4
  replace hl4 := hl4.below hb4
  replace hl5 := hl5.below hb4
  replace HBT := Below.cons HBT hb4
  replace HSq := Lib.hid (hSb.out _ _ hb4 HSq.out)
  clear hb4
  refine hKq.out _ _ HSq.out (fun hSq => ?_)
  clear hSq hKq Kq
  try simp only [Act.put, List.setIfInBounds_toArray, List.set_cons_zero, List.set_cons_succ]
  refine SeqP.call rfl (by rfl) (fun Kq hKq => ?_)
  go_simp
  go_at_call 47
  with_reducible refine (C3_1.out _ hl2).mono ?_
  rintro e W5 ⟨Xb, cb, rfl, hb, hb5⟩
  replace hG := hG.below hb5
  replace hl3 := hl3.below hb5
  replace hl4 := hl4.below hb5
  replace hl5 := hl5.below hb5
  replace ha := ha.below hb5
  replace HBT := Below.cons HBT hb5
  replace HSq := Lib.hid (hSb.out _ _ hb5 HSq.out)
  clear hb5
  refine hKq.out _ _ HSq.out (fun hSq => ?_)
  clear hSq hKq Kq
  try simp only [Act.put, List.setIfInBounds_toArray, List.set_cons_zero, List.set_cons_succ]
  refine SeqP.call rfl (by rfl) (fun Kq hKq => ?_)
  go_simp
  go_at_call 47
  with_reducible refine (C3_2.out _ hl3).mono ?_
  rintro e W6 ⟨Xx, cx, rfl, hx, hb6⟩
  replace hG := hG.below hb6
  replace hl4 := hl4.below hb6
  replace hl5 := hl5.below hb6
  replace ha := ha.below hb6
  replace hb := hb.below hb6
  replace HBT := Below.cons HBT hb6
  replace HSq := Lib.hid (hSb.out _ _ hb6 HSq.out)
  clear hb6
  refine hKq.out _ _ HSq.out (fun hSq => ?_)
  clear hSq hKq Kq
  try simp only [Act.put, List.setIfInBounds_toArray, List.set_cons_zero, List.set_cons_succ]
  refine SeqP.call rfl (by rfl) (fun Kq hKq => ?_)
  go_simp
  go_at_call 47
  with_reducible refine (C3_3.out _ hl4).mono ?_
  rintro e W7 ⟨Xy, cy, rfl, hy, hb7⟩
  replace hG := hG.below hb7
  replace hl5 := hl5.below hb7
  replace ha := ha.below hb7
  replace hb := hb.below hb7
  replace hx := hx.below hb7
  replace HBT := Below.cons HBT hb7
  replace HSq := Lib.hid (hSb.out _ _ hb7 HSq.out)
  clear hb7
  refine hKq.out _ _ HSq.out (fun hSq => ?_)
  clear hSq hKq Kq
  try simp only [Act.put, List.setIfInBounds_toArray, List.set_cons_zero, List.set_cons_succ]
  refine SeqP.take (v := ?_) rfl (fun _ _ _ h => h) (Or.inl ⟨by rfl, ?_⟩) ?_
  rotate_left 1
  · intro wq hSw; rw [hS.out] at hSw; (try dsimp only at hSw); go_simp; try with_reducible rfl
  try simp only [Act.put, List.setIfInBounds_toArray, List.set_cons_zero, List.set_cons_succ]
  refine SeqP.take (v := ?_) rfl (fun _ _ _ h => h) (Or.inl ⟨by rfl, ?_⟩) ?_
  rotate_left 1
  · intro wq hSw; rw [hS.out] at hSw; (try dsimp only at hSw); go_simp; try with_reducible rfl
  try simp only [Act.put, List.setIfInBounds_toArray, List.set_cons_zero, List.set_cons_succ]
  refine SeqP.take (v := ?_) rfl (fun _ _ _ h => h) (Or.inl ⟨by rfl, ?_⟩) ?_
  rotate_left 1
  · intro wq hSw; rw [hS.out] at hSw; (try dsimp only at hSw); go_simp; try with_reducible rfl
  try simp only [Act.put, List.setIfInBounds_toArray, List.set_cons_zero, List.set_cons_succ]
  refine SeqP.take (v := ?_) rfl (fun _ _ _ h => h) (Or.inl ⟨by rfl, ?_⟩) ?_
  rotate_left 1
  · intro wq hSw; rw [hS.out] at hSw; (try dsimp only at hSw); go_simp; try with_reducible rfl
  try simp only [Act.put, List.setIfInBounds_toArray, List.set_cons_zero, List.set_cons_succ]
  refine SeqP.done ?_
  clear hSb
  clear HSq
  go_wp2_with (fail)
  obtain ⟨m, Em⟩ : ∃ zq : Nat, zq = val (l5.take 10) := ⟨_, rfl⟩
  have Bm : nl m ≤ 10 := by rw [Em]; exact made_nl l5 Ll5 10
  refine (Calls.mono (R := RetN W7 m) (by rw [Em]; exact (made_n_c A5 c5 10 l5 _ hl5 Ll5 Ql5 Cl5 Zl5.out (by decide))) ?_)
  replace Em := Lib.hid Em
  rintro e W8 ⟨X8, c8, rfl, hm, hb8⟩
  replace hG := hG.below hb8
  replace hl5 := hl5.below hb8
  replace ha := ha.below hb8
  replace hb := hb.below hb8
  replace hx := hx.below hb8
  replace hy := hy.below hb8
  replace HBT := Below.cons HBT hb8
  clear hb8
  by_cases hm0 : m = 0
  · have hmo := Lib.hid hm0
    have t1 : ((nl m : Int) == 0) = true := ieqT (by rw [hm0, nl_zero]; rfl)
    have t1' : (nl m == 0) = true := by rw [hm0, nl_zero]; rfl
    replace hm0 := Lib.hid hm0
    go_wp2_with (fail)
    go_ret
    exact ⟨rfl, HBT⟩
  · have hm1 : 0 < m := by omega
    have t1 : ((nl m : Int) == 0) = false := ieqF (by have := nl_pos.2 (show m ≠ 0 by exact hm0); omega)
    have t1' : (nl m == 0) = false := by have := nl_pos.2 (show m ≠ 0 by exact hm0); simp; omega
    replace hm0 := Lib.hid hm0
    go_wp2_with (fail)
    have CP := (powmod_c Xa ca a Xx cx x X8 c8 m _ ha hx hm hG (by omega) (by omega) (by omega) hm1)
    obtain ⟨px, Epx⟩ : ∃ z : Nat, z = a ^ x % m := ⟨_, rfl⟩
    have Bpx : nl px ≤ 10 := by rw [Epx]; exact Nat.le_trans (nl_mono (Nat.le_of_lt (Nat.mod_lt _ hm1))) Bm
    rw [← Epx] at CP
    replace CP := Lib.hid CP
    replace Epx := Lib.hid Epx
    refine (Calls.mono CP.out ?_)
    rintro e W9 ⟨Xpx, cpx, rfl, hpx, hb9⟩
    clear CP
    replace hG := hG.below hb9
    replace ha := ha.below hb9
    replace hb := hb.below hb9
    replace hx := hx.below hb9
    replace hy := hy.below hb9
    replace hm := hm.below hb9
    replace HBT := Below.cons HBT hb9
    clear hb9
    go_wp2_with (fail)
    have CP := (powmod_c Xa ca a Xy cy y X8 c8 m _ ha hy hm hG (by omega) (by omega) (by omega) hm1)
    obtain ⟨py, Epy⟩ : ∃ z : Nat, z = a ^ y % m := ⟨_, rfl⟩
    have Bpy : nl py ≤ 10 := by rw [Epy]; exact Nat.le_trans (nl_mono (Nat.le_of_lt (Nat.mod_lt _ hm1))) Bm
    rw [← Epy] at CP
    replace CP := Lib.hid CP
    replace Epy := Lib.hid Epy
    refine (Calls.mono CP.out ?_)
    rintro e W10 ⟨Xpy, cpy, rfl, hpy, hb10⟩
    clear CP
    replace hG := hG.below hb10
    replace ha := ha.below hb10
    replace hb := hb.below hb10
    replace hx := hx.below hb10
    replace hy := hy.below hb10
    replace hm := hm.below hb10
    replace hpx := hpx.below hb10
    replace HBT := Below.cons HBT hb10
    clear hb10
    go_wp2_with (fail)
    obtain ⟨sm, Esm⟩ : ∃ zq : Nat, zq = x + y := ⟨_, rfl⟩
    have Bsm : nl sm ≤ 3 := by rw [Esm]; have := nl_add x y; omega
    refine (Calls.mono (R := RetN W10 sm) (by rw [Esm]; exact (radd_c Xx cx x Xy cy y _ hx hy (by omega) (by omega))) ?_)
    replace Esm := Lib.hid Esm
    rintro e W11 ⟨X11, c11, rfl, hsm, hb11⟩
    replace hG := hG.below hb11
    replace ha := ha.below hb11
    replace hb := hb.below hb11
    replace hx := hx.below hb11
    replace hy := hy.below hb11
    replace hm := hm.below hb11
    replace hpx := hpx.below hb11
    replace hpy := hpy.below hb11
    replace HBT := Below.cons HBT hb11
    clear hb11
    go_wp2_with (fail)
    have CP := (powmod_c Xa ca a X11 c11 sm X8 c8 m _ ha hsm hm hG (by omega) (by omega) (by omega) hm1)
    obtain ⟨pz, Epz⟩ : ∃ z : Nat, z = a ^ sm % m := ⟨_, rfl⟩
    have Bpz : nl pz ≤ 10 := by rw [Epz]; exact Nat.le_trans (nl_mono (Nat.le_of_lt (Nat.mod_lt _ hm1))) Bm
    rw [← Epz] at CP
    replace CP := Lib.hid CP
    replace Epz := Lib.hid Epz
    refine (Calls.mono CP.out ?_)
    rintro e W12 ⟨Xpz, cpz, rfl, hpz, hb12⟩
    clear CP
    replace hG := hG.below hb12
    replace ha := ha.below hb12
    replace hb := hb.below hb12
    replace hx := hx.below hb12
    replace hy := hy.below hb12
    replace hm := hm.below hb12
    replace hpx := hpx.below hb12
    replace hpy := hpy.below hb12
    replace hsm := hsm.below hb12
    replace HBT := Below.cons HBT hb12
    clear hb12
    go_wp2_with (fail)
    clear hsm
    have CP := (powmod_c Xpx cpx px Xy cy y X8 c8 m _ hpx hy hm hG (by omega) (by omega) (by omega) hm1)
    obtain ⟨pu, Epu⟩ : ∃ z : Nat, z = px ^ y % m := ⟨_, rfl⟩
    have Bpu : nl pu ≤ 10 := by rw [Epu]; exact Nat.le_trans (nl_mono (Nat.le_of_lt (Nat.mod_lt _ hm1))) Bm
    rw [← Epu] at CP
    replace CP := Lib.hid CP
    replace Epu := Lib.hid Epu
    refine (Calls.mono CP.out ?_)
    rintro e W13 ⟨Xpu, cpu, rfl, hpu, hb13⟩
    clear CP
    replace hG := hG.below hb13
    replace ha := ha.below hb13
    replace hb := hb.below hb13
    replace hx := hx.below hb13
    replace hy := hy.below hb13
    replace hm := hm.below hb13
    replace hpx := hpx.below hb13
    replace hpy := hpy.below hb13
    replace hpz := hpz.below hb13
    replace HBT := Below.cons HBT hb13
    clear hb13
    go_wp2_with (fail)
    obtain ⟨pr, Epr⟩ : ∃ zq : Nat, zq = x * y := ⟨_, rfl⟩
    have Bpr : nl pr ≤ 4 := by rw [Epr]; have := nl_mul x y; omega
    refine (Calls.mono (R := RetN W13 pr) (by rw [Epr]; exact (rmul_c Xx cx x Xy cy y _ hx hy (by omega) (by omega))) ?_)
    replace Epr := Lib.hid Epr
    rintro e W14 ⟨X14, c14, rfl, hpr, hb14⟩
    replace hG := hG.below hb14
    replace ha := ha.below hb14
    replace hb := hb.below hb14
    replace hx := hx.below hb14
    replace hy := hy.below hb14
    replace hm := hm.below hb14
    replace hpx := hpx.below hb14
    replace hpy := hpy.below hb14
    replace hpz := hpz.below hb14
    replace hpu := hpu.below hb14
    replace HBT := Below.cons HBT hb14
    clear hb14
    go_wp2_with (fail)
    have CP := (powmod_c Xa ca a X14 c14 pr X8 c8 m _ ha hpr hm hG (by omega) (by omega) (by omega) hm1)
    obtain ⟨pv, Epv⟩ : ∃ z : Nat, z = a ^ pr % m := ⟨_, rfl⟩
    have Bpv : nl pv ≤ 10 := by rw [Epv]; exact Nat.le_trans (nl_mono (Nat.le_of_lt (Nat.mod_lt _ hm1))) Bm
    rw [← Epv] at CP
    replace CP := Lib.hid CP
    replace Epv := Lib.hid Epv
    refine (Calls.mono CP.out ?_)
    rintro e W15 ⟨Xpv, cpv, rfl, hpv, hb15⟩
    clear CP
    replace hG := hG.below hb15
    replace ha := ha.below hb15
    replace hb := hb.below hb15
    replace hx := hx.below hb15
    replace hy := hy.below hb15
    replace hm := hm.below hb15
    replace hpx := hpx.below hb15
    replace hpy := hpy.below hb15
    replace hpz := hpz.below hb15
    replace hpu := hpu.below hb15
    replace hpr := hpr.below hb15
    replace HBT := Below.cons HBT hb15
    clear hb15
    go_wp2_with (fail)
    clear hpr
    clear hy
    have CP := (powmod_c Xb cb b Xx cx x X8 c8 m _ hb hx hm hG (by omega) (by omega) (by omega) hm1)
    obtain ⟨pg, Epg⟩ : ∃ z : Nat, z = b ^ x % m := ⟨_, rfl⟩
    have Bpg : nl pg ≤ 10 := by rw [Epg]; exact Nat.le_trans (nl_mono (Nat.le_of_lt (Nat.mod_lt _ hm1))) Bm
    rw [← Epg] at CP
    replace CP := Lib.hid CP
    replace Epg := Lib.hid Epg
    refine (Calls.mono CP.out ?_)
    rintro e W16 ⟨Xpg, cpg, rfl, hpg, hb16⟩
    clear CP
    replace hG := hG.below hb16
    replace ha := ha.below hb16
    replace hb := hb.below hb16
    replace hx := hx.below hb16
    replace hm := hm.below hb16
    replace hpx := hpx.below hb16
    replace hpy := hpy.below hb16
    replace hpz := hpz.below hb16
    replace hpu := hpu.below hb16
    replace hpv := hpv.below hb16
    replace HBT := Below.cons HBT hb16
    clear hb16
    go_wp2_with (fail)
    obtain ⟨ab, Eab⟩ : ∃ zq : Nat, zq = a * b := ⟨_, rfl⟩
    have Bab : nl ab ≤ 20 := by rw [Eab]; have := nl_mul a b; omega
    refine (Calls.mono (R := RetN W16 ab) (by rw [Eab]; exact (rmul_c Xa ca a Xb cb b _ ha hb (by omega) (by omega))) ?_)
    replace Eab := Lib.hid Eab
    rintro e W17 ⟨X17, c17, rfl, hab, hb17⟩
    replace hG := hG.below hb17
    replace ha := ha.below hb17
    replace hb := hb.below hb17
    replace hx := hx.below hb17
    replace hm := hm.below hb17
    replace hpx := hpx.below hb17
    replace hpy := hpy.below hb17
    replace hpz := hpz.below hb17
    replace hpu := hpu.below hb17
    replace hpv := hpv.below hb17
    replace hpg := hpg.below hb17
    replace HBT := Below.cons HBT hb17
    clear hb17
    go_wp2_with (fail)
    have CP := (powmod_c X17 c17 ab Xx cx x X8 c8 m _ hab hx hm hG (by omega) (by omega) (by omega) hm1)
    obtain ⟨pd, Epd⟩ : ∃ z : Nat, z = ab ^ x % m := ⟨_, rfl⟩
    have Bpd : nl pd ≤ 10 := by rw [Epd]; exact Nat.le_trans (nl_mono (Nat.le_of_lt (Nat.mod_lt _ hm1))) Bm
    rw [← Epd] at CP
    replace CP := Lib.hid CP
    replace Epd := Lib.hid Epd
    refine (Calls.mono CP.out ?_)
    rintro e W18 ⟨Xpd, cpd, rfl, hpd, hb18⟩
    clear CP
    replace hG := hG.below hb18
    replace ha := ha.below hb18
    replace hb := hb.below hb18
    replace hx := hx.below hb18
    replace hm := hm.below hb18
    replace hpx := hpx.below hb18
    replace hpy := hpy.below hb18
    replace hpz := hpz.below hb18
    replace hpu := hpu.below hb18
    replace hpv := hpv.below hb18
    replace hpg := hpg.below hb18
    replace hab := hab.below hb18
    replace HBT := Below.cons HBT hb18
    clear hb18
    clear hab
    clear hb
    clear hx
    have hb19 : Below (W18).heap.size (W18) ((W18).alloc (.cells #[.int .u32 1] 72)) := (Below.refl _ _).alloc (Nat.le_refl _) _
    have ho := nlit (l := [1]) _ _ _ (heap_alloc_new (W18) (.cells #[.int .u32 1] 72)) rfl (by decide) (by decide) (by decide)
    obtain ⟨o, Eo⟩ : ∃ zq : Nat, zq = val [1] := ⟨_, rfl⟩
    rw [← Eo] at ho
    have No : nl o = 1 := by rw [Eo]; exact nl_lit (by decide) (by decide)
    have Vo : o = 1 := by rw [Eo]; decide
    have Bo : nl o ≤ 1 := Nat.le_of_eq No
    replace No := Lib.hid No
    replace Eo := Lib.hid Eo
    replace Vo := Lib.hid Vo
    replace hG := hG.below hb19
    replace ha := ha.below hb19
    replace hm := hm.below hb19
    replace hpx := hpx.below hb19
    replace hpy := hpy.below hb19
    replace hpz := hpz.below hb19
    replace hpu := hpu.below hb19
    replace hpv := hpv.below hb19
    replace hpg := hpg.below hb19
    replace hpd := hpd.below hb19
    replace HBT := Below.cons HBT hb19
    clear hb19
    go_wp2_with (fail)
    have CP := (at_lenR No.out (powmod_c Xa ca a _ _ o X8 c8 m _ ha ho hm hG (by omega) (by omega) (by omega) hm1))
    obtain ⟨po, Epo⟩ : ∃ z : Nat, z = a ^ o % m := ⟨_, rfl⟩
    have Bpo : nl po ≤ 10 := by rw [Epo]; exact Nat.le_trans (nl_mono (Nat.le_of_lt (Nat.mod_lt _ hm1))) Bm
    rw [← Epo] at CP
    replace CP := Lib.hid CP
    replace Epo := Lib.hid Epo
    refine (Calls.mono CP.out ?_)
    rintro e W20 ⟨Xpo, cpo, rfl, hpo, hb20⟩
    clear CP
    replace hG := hG.below hb20
    replace ha := ha.below hb20
    replace hm := hm.below hb20
    replace hpx := hpx.below hb20
    replace hpy := hpy.below hb20
    replace hpz := hpz.below hb20
    replace hpu := hpu.below hb20
    replace hpv := hpv.below hb20
    replace hpg := hpg.below hb20
    replace hpd := hpd.below hb20
    replace ho := ho.below hb20
    replace HBT := Below.cons HBT hb20
    clear hb20
    go_wp2_with (fail)
    clear ho
    obtain ⟨q1, Eq1⟩ : ∃ zq : Nat, zq = px * py := ⟨_, rfl⟩
    have Bq1 : nl q1 ≤ 20 := by rw [Eq1]; have := nl_mul px py; omega
    refine (Calls.mono (R := RetN W20 q1) (by rw [Eq1]; exact (rmul_c Xpx cpx px Xpy cpy py _ hpx hpy (by omega) (by omega))) ?_)
    replace Eq1 := Lib.hid Eq1
    rintro e W21 ⟨X21, c21, rfl, hq1, hb21⟩
    replace hG := hG.below hb21
    replace ha := ha.below hb21
    replace hm := hm.below hb21
    replace hpx := hpx.below hb21
    replace hpy := hpy.below hb21
    replace hpz := hpz.below hb21
    replace hpu := hpu.below hb21
    replace hpv := hpv.below hb21
    replace hpg := hpg.below hb21
    replace hpd := hpd.below hb21
    replace hpo := hpo.below hb21
    replace HBT := Below.cons HBT hb21
    clear hb21
    go_wp2_with (fail)
    obtain ⟨d1, Ed1⟩ : ∃ zq : Nat, zq = q1 / m := ⟨_, rfl⟩
    have Bd1 : nl d1 ≤ 20 := by rw [Ed1]; have := nl_div q1 m; omega
    obtain ⟨r1, Er1⟩ : ∃ zq : Nat, zq = q1 % m := ⟨_, rfl⟩
    have Br1 : nl r1 ≤ 20 := by rw [Er1]; have := nl_mod_le q1 m; omega
    have CT22 := (rdiv_c X21 c21 q1 X8 c8 m _ hq1 hm (by omega) (by omega) hm1)
    rw [← Ed1, ← Er1] at CT22
    replace Ed1 := Lib.hid Ed1
    replace Er1 := Lib.hid Er1
    refine (Calls.mono CT22 ?_)
    clear CT22
    rintro e W22 ⟨Xd1, cd1, Xr1, cr1, rfl, hd1, hr1, hb22⟩
    replace hG := hG.below hb22
    replace ha := ha.below hb22
    replace hm := hm.below hb22
    replace hpx := hpx.below hb22
    replace hpy := hpy.below hb22
    replace hpz := hpz.below hb22
    replace hpu := hpu.below hb22
    replace hpv := hpv.below hb22
    replace hpg := hpg.below hb22
    replace hpd := hpd.below hb22
    replace hpo := hpo.below hb22
    replace hq1 := hq1.below hb22
    replace HBT := Below.cons HBT hb22
    clear hb22
    go_wp2_with (fail)
    obtain ⟨q2, Eq2⟩ : ∃ zq : Nat, zq = px * pg := ⟨_, rfl⟩
    have Bq2 : nl q2 ≤ 20 := by rw [Eq2]; have := nl_mul px pg; omega
    refine (Calls.mono (R := RetN W22 q2) (by rw [Eq2]; exact (rmul_c Xpx cpx px Xpg cpg pg _ hpx hpg (by omega) (by omega))) ?_)
    replace Eq2 := Lib.hid Eq2
    rintro e W23 ⟨X23, c23, rfl, hq2, hb23⟩
    replace hG := hG.below hb23
    replace ha := ha.below hb23
    replace hm := hm.below hb23
    replace hpx := hpx.below hb23
    replace hpy := hpy.below hb23
    replace hpz := hpz.below hb23
    replace hpu := hpu.below hb23
    replace hpv := hpv.below hb23
    replace hpg := hpg.below hb23
    replace hpd := hpd.below hb23
    replace hpo := hpo.below hb23
    replace hq1 := hq1.below hb23
    replace hd1 := hd1.below hb23
    replace hr1 := hr1.below hb23
    replace HBT := Below.cons HBT hb23
    clear hb23
    go_wp2_with (fail)
    obtain ⟨d2, Ed2⟩ : ∃ zq : Nat, zq = q2 / m := ⟨_, rfl⟩
    have Bd2 : nl d2 ≤ 20 := by rw [Ed2]; have := nl_div q2 m; omega
    obtain ⟨r2, Er2⟩ : ∃ zq : Nat, zq = q2 % m := ⟨_, rfl⟩
    have Br2 : nl r2 ≤ 20 := by rw [Er2]; have := nl_mod_le q2 m; omega
    have CT24 := (rdiv_c X23 c23 q2 X8 c8 m _ hq2 hm (by omega) (by omega) hm1)
    rw [← Ed2, ← Er2] at CT24
    replace Ed2 := Lib.hid Ed2
    replace Er2 := Lib.hid Er2
    refine (Calls.mono CT24 ?_)
    clear CT24
    rintro e W24 ⟨Xd2, cd2, Xr2, cr2, rfl, hd2, hr2, hb24⟩
    replace hG := hG.below hb24
    replace ha := ha.below hb24
    replace hm := hm.below hb24
    replace hpx := hpx.below hb24
    replace hpy := hpy.below hb24
    replace hpz := hpz.below hb24
    replace hpu := hpu.below hb24
    replace hpv := hpv.below hb24
    replace hpg := hpg.below hb24
    replace hpd := hpd.below hb24
    replace hpo := hpo.below hb24
    replace hq1 := hq1.below hb24
    replace hd1 := hd1.below hb24
    replace hr1 := hr1.below hb24
    replace hq2 := hq2.below hb24
    replace HBT := Below.cons HBT hb24
    clear hb24
    go_wp2_with (fail)
    obtain ⟨d3, Ed3⟩ : ∃ zq : Nat, zq = a / m := ⟨_, rfl⟩
    have Bd3 : nl d3 ≤ 10 := by rw [Ed3]; have := nl_div a m; omega
    obtain ⟨r3, Er3⟩ : ∃ zq : Nat, zq = a % m := ⟨_, rfl⟩
    have Br3 : nl r3 ≤ 10 := by rw [Er3]; have := nl_mod_le a m; omega
    have CT25 := (rdiv_c Xa ca a X8 c8 m _ ha hm (by omega) (by omega) hm1)
    rw [← Ed3, ← Er3] at CT25
    replace Ed3 := Lib.hid Ed3
    replace Er3 := Lib.hid Er3
    refine (Calls.mono CT25 ?_)
    clear CT25
    rintro e W25 ⟨Xd3, cd3, Xr3, cr3, rfl, hd3, hr3, hb25⟩
    replace hG := hG.below hb25
    replace ha := ha.below hb25
    replace hm := hm.below hb25
    replace hpx := hpx.below hb25
    replace hpy := hpy.below hb25
    replace hpz := hpz.below hb25
    replace hpu := hpu.below hb25
    replace hpv := hpv.below hb25
    replace hpg := hpg.below hb25
    replace hpd := hpd.below hb25
    replace hpo := hpo.below hb25
    replace hq1 := hq1.below hb25
    replace hd1 := hd1.below hb25
    replace hr1 := hr1.below hb25
    replace hq2 := hq2.below hb25
    replace hd2 := hd2.below hb25
    replace hr2 := hr2.below hb25
    replace HBT := Below.cons HBT hb25
    clear hb25
    go_wp2_with (fail)
    clear hq1
    clear hq2
    clear hd1
    clear hd2
    clear hd3
    clear ha
    clear hm
    clear hpx
    clear hpy
    clear hpg
    refine (Calls.mono (same1_t Xr1 cr1 r1 Xpz cpz pz _ hr1 hpz (by omega) (by omega) (by rw [Er1.out, Eq1.out, Epx.out, Epy.out, Epz.out, Esm.out, Nat.pow_add, ← Nat.mul_mod])) ?_)
    rintro e W26 ⟨rfl, hb26⟩
    replace hG := hG.below hb26
    replace hpz := hpz.below hb26
    replace hpu := hpu.below hb26
    replace hpv := hpv.below hb26
    replace hpd := hpd.below hb26
    replace hpo := hpo.below hb26
    replace hr1 := hr1.below hb26
    replace hr2 := hr2.below hb26
    replace hr3 := hr3.below hb26
    replace HBT := Below.cons HBT hb26
    clear hb26
    go_wp2_with (fail)
    refine (Calls.mono (same1_t Xpu cpu pu Xpv cpv pv _ hpu hpv (by omega) (by omega) (by rw [Epu.out, Epv.out, Epr.out, Epx.out, ← Nat.pow_mod, Nat.pow_mul])) ?_)
    rintro e W27 ⟨rfl, hb27⟩
    replace hG := hG.below hb27
    replace hpz := hpz.below hb27
    replace hpu := hpu.below hb27
    replace hpv := hpv.below hb27
    replace hpd := hpd.below hb27
    replace hpo := hpo.below hb27
    replace hr1 := hr1.below hb27
    replace hr2 := hr2.below hb27
    replace hr3 := hr3.below hb27
    replace HBT := Below.cons HBT hb27
    clear hb27
    go_wp2_with (fail)
    refine (Calls.mono (same1_t Xr2 cr2 r2 Xpd cpd pd _ hr2 hpd (by omega) (by omega) (by rw [Er2.out, Eq2.out, Epx.out, Epg.out, Epd.out, Eab.out, Nat.mul_pow, ← Nat.mul_mod])) ?_)
    rintro e W28 ⟨rfl, hb28⟩
    replace hG := hG.below hb28
    replace hpz := hpz.below hb28
    replace hpu := hpu.below hb28
    replace hpv := hpv.below hb28
    replace hpd := hpd.below hb28
    replace hpo := hpo.below hb28
    replace hr1 := hr1.below hb28
    replace hr2 := hr2.below hb28
    replace hr3 := hr3.below hb28
    replace HBT := Below.cons HBT hb28
    clear hb28
    go_wp2_with (fail)
    refine (Calls.mono (same1_t Xpo cpo po Xr3 cr3 r3 _ hpo hr3 (by omega) (by omega) (by rw [Epo.out, Er3.out, Vo.out, Nat.pow_one])) ?_)
    rintro e W29 ⟨rfl, hb29⟩
    replace hG := hG.below hb29
    replace hpz := hpz.below hb29
    replace hpu := hpu.below hb29
    replace hpv := hpv.below hb29
    replace hpd := hpd.below hb29
    replace hpo := hpo.below hb29
    replace hr1 := hr1.below hb29
    replace hr2 := hr2.below hb29
    replace hr3 := hr3.below hb29
    replace HBT := Below.cons HBT hb29
    clear hb29
    go_wp2_with (fail)
    go_ret
    exact ⟨rfl, HBT⟩
end Go.Proofs.YtpaffggdeedopaaGreatDoor

set_option linter.unusedVariables false
set_option linter.unusedSimpArgs false
namespace Go.Proofs.YtpaffggdeedopaaGreatDoor
open Go.RowKit Go.ChangeShapes Go.WideShapes Go.ChangeAt

theorem gcdPowers_lifted (os : Os) (started : os.Started) (H : Type) (enc : TypeId × Value → H) :
    ReturnsInHanded {} Tryz.checked os 10 .any (fun w args => (Rows.gcdPowersSpec.pre enc Tryz.prog Tryz.f10 [] false w args ∧ laidMetH Tryz.prog [("ziggurat/ntt.fields", Rows.laid_ziggurat_ntt_fields)] w) ∧ sizedMet enc Tryz.prog Tryz.f10 (OpenSpec.ofChange Rows.gcdPowersSpec) false w args)
      (Rows.gcdPowersSpec.post enc Tryz.prog Tryz.f10 false true false false) := by
  refine returnsInHanded_of_change_and (C := Tryz.checked) (X := fun w _ => laidMetH Tryz.prog [("ziggurat/ntt.fields", Rows.laid_ziggurat_ntt_fields)] w) (fun _ _ _ hh h => h.of_heap hh) row_own started (by kernel_rfl) Tryz.func10
    (ChangeSpec.witness_shaped (enc := enc) (C := Tryz.checked) (os := os) (X := fun w _ => laidMetH Tryz.prog [("ziggurat/ntt.fields", Rows.laid_ziggurat_ntt_fields)] w) false (World.doorLaid Tryz.prog 400 os) #[.agg #[.slice none 0 0, .slice none 0 0], .agg #[.slice none 0 0, .slice none 0 0], .slice none 0 0] 8 rfl (World.shaped_of_RefB (by kernel_rfl) (by kernel_rfl)) (by kernel_rfl) (by kernel_rfl) (by kernel_rfl) (door_met os _)) ?_
  intro W base args ds gs before hval0 hW _ _ hL _
  have hval : ∀ (j : Nat) t v, Tryz.f10.params[j]? = some t → args[j]? = some v → Value.okWide Tryz.prog W .any base t v := hval0
  have hW' := hW
  obtain ⟨p, q, hA0, hV, rfl, hfz, hnd⟩ := hW
  have hA : DataW.TrodAll enc Tryz.prog W 0 (fun _ => true) true Tryz.f10.params.toList args.toList ds p := hA0
  rw [Tryz.params10] at hA hval
  obtain ⟨v0, vs0, d0, ds0, p0, q0, hargs, rfl, rfl, h0, r0⟩ := trodAll_cons hA
  obtain ⟨v1, vs1, d1, ds1, p1, q1, rfl, rfl, rfl, h1, r1⟩ := trodAll_cons r0
  obtain ⟨v2, vs2, d2, ds2, p2, q2, rfl, rfl, rfl, h2, r2⟩ := trodAll_cons r1
  obtain ⟨rfl, rfl, rfl⟩ := trodAll_nil r2
  obtain rfl : args = #[v0, v1, v2] := by cases args; simp_all
  obtain ⟨rfl, rfl⟩ := trodVars_none hV
  have hG := flds_of_laid hL
  have k0 := h0
  have lt0 : ∀ x ∈ p0, x.block < W.heap.size := by obtain ⟨m, hm⟩ := k0; exact DataW.trod_lt m _ _ _ hm
  obtain ⟨A0, c0, l0, B0, e0, m0, rfl, i0, j0⟩ := open_two (hval 0 75 v0 rfl rfl) h0
  have k1 := h1
  have lt1 : ∀ x ∈ p1, x.block < W.heap.size := by obtain ⟨m, hm⟩ := k1; exact DataW.trod_lt m _ _ _ hm
  obtain ⟨A1, c1, l1, B1, e1, m1, rfl, i1, j1⟩ := open_two (hval 1 75 v1 rfl rfl) h1
  have k2 := h2
  have lt2 : ∀ x ∈ p2, x.block < W.heap.size := by obtain ⟨m, hm⟩ := k2; exact DataW.trod_lt m _ _ _ hm
  obtain ⟨A2, c2, l2, rfl, i2⟩ := open_natv (hval 2 22 v2 rfl rfl) h2
  clear hA0 hval0 hval hL
  have hcall := gcdPowers_c A0 c0 l0 B0 e0 m0 A1 c1 l1 B1 e1 m1 A2 c2 l2 W hG i0.1 i0.2.1 i0.2.2.1 i0.2.2.2.1 i0.2.2.2.2 j0.1 j0.2.1 j0.2.2.1 j0.2.2.2.1 j0.2.2.2.2 i1.1 i1.2.1 i1.2.2.1 i1.2.2.2.1 i1.2.2.2.2 j1.1 j1.2.1 j1.2.2.1 j1.2.2.2.1 j1.2.2.2.2 i2.1 i2.2.1 i2.2.2.1 i2.2.2.2.1 i2.2.2.2.2
  refine hcall.mono fun e W' ⟨he, bel⟩ => ?_
  subst he
  exact ⟨_, rfl, _, _, _, [], _, [], hW', trodAll_mk1 (shut_bool Tryz.underlying4 _), (trodAll_cons_mk (Below.trod row_out (by kernel_rfl) (of_decide_eq_true (by kernel_rfl)) k0 bel lt0) (trodAll_cons_mk (Below.trod row_out (by kernel_rfl) (of_decide_eq_true (by kernel_rfl)) k1 bel lt1) (trodAll_cons_mk (Below.trod row_out (by kernel_rfl) (of_decide_eq_true (by kernel_rfl)) k2 bel lt2) trodAll_mk0))), rfl, bel.frame _, fun h => by cases h⟩
theorem gcdPowers_holds : Rows.GcdPowersSaid :=
  OpenClaim.holds_of_wide 10 Tryz.f10 rfl rfl rfl rfl rfl rfl rfl ⟨rfl, rfl, rfl, rfl, rfl⟩ rfl rfl rfl rfl rfl (by kernel_rfl) Tryz.func10 (by kernel_rfl)
    (of_decide_eq_true (by kernel_rfl)) (by unfold Func.isWrapper; first | (rw [if_pos (by decide +kernel)]; kernel_rfl) | (rw [if_neg (by decide +kernel)]; exact ⟨rfl, rfl⟩))
    (fun os started H enc _ => gcdPowers_lifted os started H enc)

/-- The card, tied to the program's text. -/
theorem gcdPowers_card : Rows.GcdPowersCardSaid :=
  Claim7.holds_tied_plain_at .later [] [.data] true (true, "656b37b7ccc5af8af5a85e438c408380abd1ad709ff303cf5fc9993104b47efd") false
    gcdPowers_holds (fun _ h => by cases h) (by kernel_rfl) (fun _ h => by cases h) gcdPowers_row_tie rfl ⟨rfl, rfl⟩ (by kernel_rfl) rfl
    (fun f fn hf hfn => by
      obtain rfl : f = 10 := Option.some.inj ((show Tryz.prog.funcNamed "ziggurat/zigguratlaw07.GcdPowers" = some 10 by kernel_rfl).symm.trans hf) |>.symm
      obtain rfl : fn = Tryz.f10 := (Option.some.inj (Tryz.func10.symm.trans hfn)).symm
      exact ⟨by kernel_rfl, fun j t ht => by
        rw [Tryz.params10] at ht
        have hm : t ∈ [75, 75, 22] := by simpa using Array.mem_of_getElem? ht
        have hall : ([75, 75, 22].all fun u => !Tryz.prog.wantsStandIn u) = true := by kernel_rfl
        exact (show Tryz.prog.wantsStandIn t = false by simpa using List.all_eq_true.1 hall t hm)⟩)
    (by kernel_rfl)
#print axioms gcdPowers_card
end Go.Proofs.YtpaffggdeedopaaGreatDoor
