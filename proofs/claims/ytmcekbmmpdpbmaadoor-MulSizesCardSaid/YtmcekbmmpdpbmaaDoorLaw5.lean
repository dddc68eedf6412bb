/- How many bits a product has: MulSizes. -/
import Derived.Test.YtmcekbmmpdpbmaaDoorLaw3
import Derived.Lib.ItoaNum
set_option linter.unusedVariables false
set_option linter.unusedSimpArgs false
namespace Go.Proofs.YtmcekbmmpdpbmaaDoor
open Go.RowKit Go.Shelf
attribute [local go_sem] max2_i min2_i max_two min_two

theorem pow32_top {a : Nat} (h : a ≠ 0) : a / 4294967296 ^ (nl a - 1) = gl (limbs a) (nl a - 1) := by
  rw [limbs_gl, Nat.mod_eq_of_lt]
  rw [Nat.div_lt_iff_lt_mul (Nat.pow_pos (by decide)), Nat.mul_comm, ← Nat.pow_succ]
  have := nl_lt a
  have := nl_pos.2 h
  rwa [show (nl a - 1).succ = nl a by omega]
theorem bl_top {a : Nat} (h : a ≠ 0) : ∃ L, bl a = 32 * (nl a - 1) + L ∧ 1 ≤ L ∧ 2 ^ (L - 1) ≤ a / 4294967296 ^ (nl a - 1) ∧ a / 4294967296 ^ (nl a - 1) < 2 ^ L := by
  have h1 := limbs_last a h
  have h2 := (lim_limbs a).gl (nl a - 1)
  rw [pow32_top h]
  refine ⟨Lib.bitLen (gl (limbs a) (nl a - 1)), by unfold bl; rw [if_neg h], ?_⟩
  exact Lib.bitLenAux_bounds 64 _ (Nat.lt_trans h2 (by decide)) h1
theorem bl_pos {a : Nat} (h : a ≠ 0) : 0 < bl a := by
  obtain ⟨L, e, h1, _⟩ := bl_top h
  omega
theorem bl_lt (a : Nat) : a < 2 ^ bl a := by
  by_cases h : a = 0
  · subst h; exact Nat.two_pow_pos _
  · obtain ⟨L, e, h1, h2, h3⟩ := bl_top h
    rw [e, Nat.pow_add, pow32, Nat.mul_comm]
    exact (Nat.div_lt_iff_lt_mul (Nat.pow_pos (by decide))).1 h3
theorem bl_ge {a : Nat} (h : a ≠ 0) : 2 ^ (bl a - 1) ≤ a := by
  obtain ⟨L, e, h1, h2, h3⟩ := bl_top h
  rw [e, show 32 * (nl a - 1) + L - 1 = 32 * (nl a - 1) + (L - 1) by omega, Nat.pow_add, pow32, Nat.mul_comm]
  exact (Nat.le_div_iff_mul_le (Nat.pow_pos (by decide))).1 h2
theorem bl_le (a : Nat) : bl a ≤ 32 * nl a := by
  by_cases h : a = 0
  · subst h; unfold bl; simp
  · have h1 := bl_ge h
    have h2 := nl_lt a
    rw [← pow32] at h2
    have := (Nat.pow_lt_pow_iff_right (by decide : 1 < 2)).1 (Nat.lt_of_le_of_lt h1 h2)
    omega
theorem bl_uniq {a n : Nat} (h1 : a < 2 ^ n) (h2 : 2 ^ n ≤ 2 * a) : bl a = n := by
  have h0 : a ≠ 0 := fun e => by subst e; have := Nat.two_pow_pos n; omega
  have h3 := bl_lt a
  have h4 := bl_ge h0
  have hp := bl_pos h0
  have h5 : 2 ^ bl a = 2 * 2 ^ (bl a - 1) := by rw [← Nat.pow_succ', show (bl a - 1).succ = bl a by omega]
  have h6 : bl a - 1 < n := (Nat.pow_lt_pow_iff_right (by decide : 1 < 2)).1 (Nat.lt_of_le_of_lt h4 h1)
  have h7 : n < bl a + 1 := (Nat.pow_lt_pow_iff_right (by decide : 1 < 2)).1 (by rw [Nat.pow_succ]; omega)
  omega
theorem bl_mul {a b : Nat} (ha : a ≠ 0) (hb : b ≠ 0) : bl (a * b) = bl a + bl b ∨ bl (a * b) + 1 = bl a + bl b := by
  have a1 := bl_lt a
  have a2 := bl_ge ha
  have a3 := bl_pos ha
  have b1 := bl_lt b
  have b2 := bl_ge hb
  have b3 := bl_pos hb
  have c1 : a * b < 2 ^ (bl a + bl b) := by rw [Nat.pow_add]; exact Nat.mul_lt_mul'' a1 b1
  have c2 : 2 ^ (bl a - 1 + (bl b - 1)) ≤ a * b := by rw [Nat.pow_add]; exact Nat.mul_le_mul a2 b2
  have e1 : 2 ^ (bl a + bl b - 1) = 2 * 2 ^ (bl a - 1 + (bl b - 1)) := by rw [← Nat.pow_succ']; congr 1; omega
  have e2 : 2 ^ (bl a + bl b) = 2 * 2 ^ (bl a + bl b - 1) := by rw [← Nat.pow_succ']; congr 1; omega
  by_cases h : 2 ^ (bl a + bl b - 1) ≤ a * b
  · exact .inl (bl_uniq c1 (by omega))
  · have := bl_uniq (a := a * b) (n := bl a + bl b - 1) (by omega) (by omega)
    exact .inr (by omega)
set_option maxHeartbeats 4000000 in
theorem mulSizes_c (A : Option Addr) (c : Nat) (l : List Nat) (B : Option Addr) (d : Nat) (m : List Nat) (x : Nat) (w : World) (hG : Flds w) (hl : Rd w A l) (Ll : Lim l) (Ql : l.length ≤ maxLen) (Cl : l.length ≤ c) (Zl : A = none → c = 0) (hm : Rd w B m) (Lm : Lim m) (Qm : m.length ≤ maxLen) (Cm : m.length ≤ d) (Zm : B = none → d = 0) (hx8 : x < 256) :
    Calls Tryd.prog 11 #[.agg #[.slice A l.length c, .slice B m.length d], .int .u8 (x : Nat)] w fun e w' => e = .returned (.bool true) ∧ Below w.heap.size w w' := by
  replace Zl := Lib.hid Zl
  replace Zm := Lib.hid Zm
  have hb0 : Below w.heap.size w (w.alloc (.cells #[.slice A l.length c, .slice B m.length d] 34)) := (Below.refl _ _).alloc (Nat.le_refl _) _
  obtain ⟨⟨q0, q1⟩, _⟩ := at_cells2 (heap_alloc_new w (.cells #[.slice A l.length c, .slice B m.length d] 34))
  have hu := Tryd.underlying34
  replace hG := hG.below hb0
  replace hl := hl.below hb0
  replace hm := hm.below hb0
  have HBT := hb0
  clear hb0
  go_enter Tryd.func11, Tryd.ntmps11
  go_wp2_with (fail)
  refine (Calls.mono (head_c _ hG) ?_)
  rintro e W1 ⟨rfl, hb1⟩
  replace hG := hG.below hb1
  replace hl := hl.below hb1
  replace hm := hm.below hb1
  replace q0 := cell_below hb1 q0
  replace q1 := cell_below hb1 q1
  replace HBT := Below.cons HBT hb1
  clear hb1
  go_wp2_with (fail)
  obtain ⟨a, Ea⟩ : ∃ zq : Nat, zq = val (l.take 120) := ⟨_, rfl⟩
  have Ba : nl a ≤ 120 := by rw [Ea]; exact made_nl l Ll 120
  refine (Calls.mono (R := RetN W1 a) (by rw [Ea]; exact (made_c A c l _ hl Ll Ql Cl Zl.out)) ?_)
  replace Ea := Lib.hid Ea
  rintro e W2 ⟨X2, c2, rfl, ha, hb2⟩
  replace hG := hG.below hb2
  replace hl := hl.below hb2
  replace hm := hm.below hb2
  replace q0 := cell_below hb2 q0
  replace q1 := cell_below hb2 q1
  replace HBT := Below.cons HBT hb2
  clear hb2
  go_wp2_with (fail)
  obtain ⟨b, Eb⟩ : ∃ zq : Nat, zq = val (m.take 120) := ⟨_, rfl⟩
  have Bb : nl b ≤ 120 := by rw [Eb]; exact made_nl m Lm 120
  refine (Calls.mono (R := RetN W2 b) (by rw [Eb]; exact (made_c B d m _ hm Lm Qm Cm Zm.out)) ?_)
  replace Eb := Lib.hid Eb
  rintro e W3 ⟨X3, c3, rfl, hb, hb3⟩
  replace hG := hG.below hb3
  replace hl := hl.below hb3
  replace hm := hm.below hb3
  replace q0 := cell_below hb3 q0
  replace q1 := cell_below hb3 q1
  replace ha := ha.below hb3
  replace HBT := Below.cons HBT hb3
  clear hb3
  go_wp2_with (fail)
  obtain ⟨p, Ep⟩ : ∃ zq : Nat, zq = a * b := ⟨_, rfl⟩
  have Bp : nl p ≤ 240 := by rw [Ep]; have := nl_mul a b; omega
  refine (Calls.mono (R := RetN W3 p) (by rw [Ep]; exact (by_c x X2 c2 a X3 c3 b _ hx8 ha hb hG (by omega) (by omega))) ?_)
  replace Ep := Lib.hid Ep
  rintro e W4 ⟨X4, c4, rfl, hp, hb4⟩
  replace hG := hG.below hb4
  replace hl := hl.below hb4
  replace hm := hm.below hb4
  replace q0 := cell_below hb4 q0
  replace q1 := cell_below hb4 q1
  replace ha := ha.below hb4
  replace hb := hb.below hb4
  replace HBT := Below.cons HBT hb4
  clear hb4
  go_wp2_with (fail)
  refine (Calls.mono (right_c X4 c4 p _ hp (by omega)) ?_)
  rintro e w' ⟨rfl, hw⟩
  replace hw := hw.symm
  subst hw
  have hb6 : Below (W4).heap.size (W4) ((W4).alloc (.cells #[.int .u32 1] 35)) := (Below.refl _ _).alloc (Nat.le_refl _) _
  have ho := nlit (l := [1]) _ _ _ (heap_alloc_new (W4) (.cells #[.int .u32 1] 35)) rfl (by decide) (by decide) (by decide)
  obtain ⟨o, Eo⟩ : ∃ zq : Nat, zq = val [1] := ⟨_, rfl⟩
  rw [← Eo] at ho
  have No : nl o = 1 := by rw [Eo]; exact nl_lit (by decide) (by decide)
  have Bo : nl o ≤ 1 := Nat.le_of_eq No
  replace No := Lib.hid No
  replace Eo := Lib.hid Eo
  replace hG := hG.below hb6
  replace hl := hl.below hb6
  replace hm := hm.below hb6
  replace q0 := cell_below hb6 q0
  replace q1 := cell_below hb6 q1
  replace ha := ha.below hb6
  replace hb := hb.below hb6
  replace hp := hp.below hb6
  replace HBT := Below.cons HBT hb6
  clear hb6
  go_wp2_with (fail)
  obtain ⟨s, Es⟩ : ∃ zq : Nat, zq = a * o := ⟨_, rfl⟩
  have Bs : nl s ≤ 121 := by rw [Es]; have := nl_mul a o; omega
  refine (Calls.mono (R := RetN ((W4).alloc (.cells #[.int .u32 1] 35)) s) (by rw [Es]; exact (at_lenWR No.out (by_c x X2 c2 a _ _ o _ hx8 ha ho hG (by omega) (by omega)))) ?_)
  replace Es := Lib.hid Es
  rintro e W7 ⟨X7, c7, rfl, hs, hb7⟩
  replace hG := hG.below hb7
  replace hl := hl.below hb7
  replace hm := hm.below hb7
  replace q0 := cell_below hb7 q0
  replace q1 := cell_below hb7 q1
  replace ha := ha.below hb7
  replace hb := hb.below hb7
  replace hp := hp.below hb7
  replace ho := ho.below hb7
  replace HBT := Below.cons HBT hb7
  clear hb7
  go_wp2_with (fail)
  refine (Calls.mono (same_t X7 c7 s X2 c2 a _ hs ha (by omega) (by omega) (by rw [Es.out, Eo.out]; exact Nat.mul_one a)) ?_)
  rintro e W8 ⟨rfl, hb8⟩
  replace hG := hG.below hb8
  replace hl := hl.below hb8
  replace hm := hm.below hb8
  replace q0 := cell_below hb8 q0
  replace q1 := cell_below hb8 q1
  replace ha := ha.below hb8
  replace hb := hb.below hb8
  replace hp := hp.below hb8
  replace ho := ho.below hb8
  replace hs := hs.below hb8
  replace HBT := Below.cons HBT hb8
  clear hb8
  have hnil := nat_nil (W8)
  have Nnil : Hid (nl 0 = 0) := Lib.hid nl_zero
  have Bnil : nl 0 ≤ 0 := Nat.le_of_eq nl_zero
  go_wp2_with (fail)
  obtain ⟨z0, Ez0⟩ : ∃ zq : Nat, zq = 0 * b := ⟨_, rfl⟩
  have Bz0 : nl z0 ≤ 1 := by rw [Ez0]; rw [Nat.zero_mul, nl_zero]; decide
  refine (Calls.mono (R := RetN W8 z0) (by rw [Ez0]; exact (at_lenW1 Nnil.out (by_c x none 0 0 X3 c3 b _ hx8 hnil hb hG (by omega) (by omega)))) ?_)
  replace Ez0 := Lib.hid Ez0
  rintro e W9 ⟨X9, c9, rfl, hz0, hb9⟩
  replace hG := hG.below hb9
  replace hl := hl.below hb9
  replace hm := hm.below hb9
  replace q0 := cell_below hb9 q0
  replace q1 := cell_below hb9 q1
  replace ha := ha.below hb9
  replace hb := hb.below hb9
  replace hp := hp.below hb9
  replace ho := ho.below hb9
  replace hs := hs.below hb9
  replace hnil := hnil.below hb9
  replace HBT := Below.cons HBT hb9
  clear hb9
  have e0 : nl z0 = 0 := by rw [Ez0.out, Nat.zero_mul, nl_zero]
  have e0b : ((nl z0 : Int) != 0) = false := ineF (by omega)
  replace e0 := Lib.hid e0
  clear hs
  clear ho
  clear hz0
  by_cases ha0 : a = 0
  · have e1 : ((nl a : Int) == 0) = true := ieqT (by rw [ha0, nl_zero]; rfl)
    have e2 : ((nl p : Int) == 0) = true := ieqT (by rw [Ep.out, ha0, Nat.zero_mul, nl_zero]; rfl)
    replace ha0 := Lib.hid ha0
    go_wp2_with (fail)
    go_ret
    exact ⟨rfl, HBT⟩
  have e1 : ((nl a : Int) == 0) = false := ieqF (by have := nl_pos.2 ha0; omega)
  by_cases hb0 : b = 0
  · have e3 : ((nl b : Int) == 0) = true := ieqT (by rw [hb0, nl_zero]; rfl)
    have e2 : ((nl p : Int) == 0) = true := ieqT (by rw [Ep.out, hb0, Nat.mul_zero, nl_zero]; rfl)
    replace ha0 := Lib.hid ha0
    replace hb0 := Lib.hid hb0
    go_wp2_with (fail)
    go_ret
    exact ⟨rfl, HBT⟩
  have e3 : ((nl b : Int) == 0) = false := ieqF (by have := nl_pos.2 hb0; omega)
  have hbl := bl_mul ha0 hb0
  rw [← Ep.out] at hbl
  replace hbl := Lib.hid hbl
  replace ha0 := Lib.hid ha0
  replace hb0 := Lib.hid hb0
  go_wp2_with (fail)
  obtain ⟨za, Eza⟩ : ∃ zq : Nat, zq = bl a := ⟨_, rfl⟩
  have CB := bits_c X2 c2 a _ ha (by omega)
  rw [← Eza] at CB
  have Bza : za ≤ 10000 := by rw [Eza]; have := bl_le a; omega
  replace Eza := Lib.hid Eza
  replace CB := Lib.hid CB
  refine (Calls.mono CB.out ?_)
  rintro e w' ⟨rfl, hw⟩
  replace hw := hw.symm
  subst hw
  clear CB
  go_wp2_with (fail)
  obtain ⟨zb, Ezb⟩ : ∃ zq : Nat, zq = bl b := ⟨_, rfl⟩
  have CB := bits_c X3 c3 b _ hb (by omega)
  rw [← Ezb] at CB
  have Bzb : zb ≤ 10000 := by rw [Ezb]; have := bl_le b; omega
  replace Ezb := Lib.hid Ezb
  replace CB := Lib.hid CB
  refine (Calls.mono CB.out ?_)
  rintro e w' ⟨rfl, hw⟩
  replace hw := hw.symm
  subst hw
  clear CB
  go_wp2_with (fail)
  obtain ⟨zp, Ezp⟩ : ∃ zq : Nat, zq = bl p := ⟨_, rfl⟩
  have Bzp : zp ≤ 10000 := by rw [Ezp]; have := bl_le p; omega
  have hbl2 : zp = za + zb ∨ zp + 1 = za + zb := by rw [Ezp, Eza.out, Ezb.out]; exact hbl.out
  replace Ezp := Lib.hid Ezp
  rcases hbl2 with hbl2 | hbl2
  · have e4 : ((zp : Int) == (za : Int) + (zb : Int)) = true := ieqT (by omega)
    replace hbl2 := Lib.hid hbl2
    have CB := bits_c X4 c4 p _ hp (by omega)
    rw [← Ezp.out] at CB
    replace CB := Lib.hid CB
    refine (Calls.mono CB.out ?_)
    rintro e w' ⟨rfl, hw⟩
    replace hw := hw.symm
    subst hw
    clear CB
    go_wp2_with (fail)
    go_ret
    exact ⟨rfl, HBT⟩
  · have e4 : ((zp : Int) == (za : Int) + (zb : Int)) = false := ieqF (by omega)
    have e5 : ((zp : Int) == (za : Int) + (zb : Int) - 1) = true := ieqT (by omega)
    replace hbl2 := Lib.hid hbl2
    have CB := bits_c X4 c4 p _ hp (by omega)
    rw [← Ezp.out] at CB
    replace CB := Lib.hid CB
    refine (Calls.mono CB.out ?_)
    rintro e w' ⟨rfl, hw⟩
    replace hw := hw.symm
    subst hw
    clear CB
    go_wp2_with (fail)
    have CB := bits_c X4 c4 p _ hp (by omega)
    rw [← Ezp.out] at CB
    replace CB := Lib.hid CB
    refine (Calls.mono CB.out ?_)
    rintro e w' ⟨rfl, hw⟩
    replace hw := hw.symm
    subst hw
    clear CB
    go_wp2_with (fail)
    go_ret
    exact ⟨rfl, HBT⟩

end Go.Proofs.YtmcekbmmpdpbmaaDoor
