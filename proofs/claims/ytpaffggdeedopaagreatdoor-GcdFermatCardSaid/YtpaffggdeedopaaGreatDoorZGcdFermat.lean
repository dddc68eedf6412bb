/- For all inputs modulo a known prime each number to the power of it is itself, and what it does not divide has its power less two as its inverse: GcdFermat returns true and leaves its arguments as they were. Conditions: Each package-level variable that the row lists (ntt.fields) holds at the call what the program's text lays; the tie is given and covers the pruned copy of the repository. -/
import Derived.Test.YtpaffggdeedopaaGreatDoorG01
import Derived.Test.YtpaffggdeedopaaGreatDoorG02
import Derived.Test.YtpaffggdeedopaaGreatDoorG03
import Derived.Test.YtpaffggdeedopaaGreatDoorG04
import Derived.Test.YtpaffggdeedopaaGreatDoorG05
import Derived.Test.YtpaffggdeedopaaGreatDoorK01
import Derived.Test.YtpaffggdeedopaaGreatDoorCards
import Derived.Test.YtpaffggdeedopaaGreatDoorTie
import Derived.SevenTiedAt
set_option maxRecDepth 100000
set_option maxHeartbeats 4000000
set_option linter.unusedVariables false
set_option linter.unusedSimpArgs false
namespace Go.Proofs.YtpaffggdeedopaaGreatDoor
open Go.RowKit Go.Shelf
attribute [local go_sem] max2_i min2_i max_two min_two

def FP (p : Nat) : Prop := IsP p ∧ ∀ a, a % p ≠ 0 → a ^ (p - 1) % p = 1
theorem fer_two : FP 2 := ⟨isP_2, fun a h => by show a ^ 1 % 2 = 1; rw [Nat.pow_one]; omega⟩
theorem fer_pow {p a : Nat} (h : FP p) : a ^ p % p = a % p := by
  have hp := h.1.1
  by_cases ha : a % p = 0
  · rw [Nat.pow_mod, ha, Nat.zero_pow (by omega), Nat.zero_mod]
  · have h1 := h.2 a ha
    have e : a ^ p = a ^ (p - 1) * a := by rw [← Nat.pow_succ]; congr 1; omega
    rw [e, Nat.mul_mod, h1, Nat.one_mul, Nat.mod_mod]
theorem fer_gcd {p a : Nat} (h : FP p) (ha : a % p ≠ 0) : Nat.gcd a p = 1 := by
  rcases h.1.2 _ (Nat.gcd_dvd_right a p) with e | e
  · exact e
  · have h2 := Nat.gcd_dvd_left a p
    rw [e] at h2
    exact absurd (Nat.mod_eq_zero_of_dvd h2) ha
theorem fer_inv {p a : Nat} (h : FP p) (ha : a % p ≠ 0) : inv a p = a ^ (p - 2) % p := by
  have hp := h.1.1
  have h1 := inv_mul (a := a) (m := p) (by omega) (fer_gcd h ha)
  have e : a * a ^ (p - 2) = a ^ (p - 1) := by rw [Nat.mul_comm, ← Nat.pow_succ]; congr 1; omega
  have h2 : a * a ^ (p - 2) % p = 1 % p := by rw [e, h.2 a ha, Nat.mod_eq_of_lt hp]
  have h3 := inv_uniq h1 h2
  rw [Nat.mod_eq_of_lt (inv_lt (by omega))] at h3; exact h3
theorem gcdFermat0_c (A : Option Addr) (c : Nat) (l : List Nat) (n : Nat) (w : World) (hG : Flds w) (hl : Rd w A l) (Ll : Lim l) (Ql : l.length ≤ maxLen) (Cl : l.length ≤ c) (Zl : A = none → c = 0) (hn : n < 256) (hi : n % 6 = 0) :
    Calls Tryz.prog 11 #[.slice A l.length c, .int .u8 (n : Nat)] w fun e w' => e = .returned (.bool true) ∧ Below w.heap.size w w' := by
  replace Zl := Lib.hid Zl
  have Jn : (n : Int).tmod 6 = 0 := by rw [Int.tmod_eq_emod_of_nonneg (by omega)]; omega
  replace hi := Lib.hid hi
  have hu := Tryz.underlying77
  go_enter Tryz.func11, Tryz.ntmps11
  go_wp2_with (fail)
  refine (Calls.mono (ghead_c _ hG) ?_)
  rintro e W1 ⟨rfl, hb1⟩
  replace hG := hG.below hb1
  replace hl := hl.below hb1
  have HBT := hb1
  clear hb1
  go_wp2_with (fail)
  obtain ⟨a, Ea⟩ : ∃ zq : Nat, zq = val (l.take 8) := ⟨_, rfl⟩
  have Ba : nl a ≤ 8 := by rw [Ea]; exact made_nl l Ll 8
  refine (Calls.mono (R := RetN W1 a) (by rw [Ea]; exact (made_n_c A c 8 l _ hl Ll Ql Cl Zl.out (by decide))) ?_)
  replace Ea := Lib.hid Ea
  rintro e W2 ⟨X2, c2, rfl, ha, hb2⟩
  replace hG := hG.below hb2
  replace hl := hl.below hb2
  replace HBT := Below.cons HBT hb2
  clear hb2
  clear hl
  obtain ⟨hb3, Rps, Rpr⟩ := bx2 W2 #[.int .u32 1, .int .u32 2, .int .u32 16, .int .u32 65537, .int .u32 31, .int .u32 0, .int .u32 61, .int .u32 0, .int .u32 89, .int .u32 0, .int .u32 127, .int .u32 0] 77 #[.int .u32 1, .int .u32 2] 77
  replace hG := hG.below hb3
  replace ha := ha.below hb3
  replace HBT := Below.cons HBT hb3
  clear hb3
  clear Rps
  have qp0 := Rpr.c (i := 0) rfl
  have qp1 := Rpr.c (i := 1) rfl
  clear Rpr
  have hb4 : Below (((W2.alloc (.cells #[.int .u32 1, .int .u32 2, .int .u32 16, .int .u32 65537, .int .u32 31, .int .u32 0, .int .u32 61, .int .u32 0, .int .u32 89, .int .u32 0, .int .u32 127, .int .u32 0] 77)).alloc (.cells #[.int .u32 1, .int .u32 2] 77))).heap.size (((W2.alloc (.cells #[.int .u32 1, .int .u32 2, .int .u32 16, .int .u32 65537, .int .u32 31, .int .u32 0, .int .u32 61, .int .u32 0, .int .u32 89, .int .u32 0, .int .u32 127, .int .u32 0] 77)).alloc (.cells #[.int .u32 1, .int .u32 2] 77))) ((((W2.alloc (.cells #[.int .u32 1, .int .u32 2, .int .u32 16, .int .u32 65537, .int .u32 31, .int .u32 0, .int .u32 61, .int .u32 0, .int .u32 89, .int .u32 0, .int .u32 127, .int .u32 0] 77)).alloc (.cells #[.int .u32 1, .int .u32 2] 77))).alloc (.cells #[.int .u32 2] 72)) := (Below.refl _ _).alloc (Nat.le_refl _) _
  have CM := rmake1_c _ _ 2 (heap_alloc_new (((W2.alloc (.cells #[.int .u32 1, .int .u32 2, .int .u32 16, .int .u32 65537, .int .u32 31, .int .u32 0, .int .u32 61, .int .u32 0, .int .u32 89, .int .u32 0, .int .u32 127, .int .u32 0] 77)).alloc (.cells #[.int .u32 1, .int .u32 2] 77))) (.cells #[.int .u32 2] 72)) (by decide)
  simp only [alloc_sz] at CM
  replace CM := Lib.hid CM
  replace hG := hG.below hb4
  replace ha := ha.below hb4
  replace qp0 := cbl hb4 qp0
  replace qp1 := cbl hb4 qp1
  replace HBT := Below.cons HBT hb4
  clear hb4
  go_wp2_with (fail)
  obtain ⟨p, Ep⟩ : ∃ z : Nat, z = 2 := ⟨_, rfl⟩
  refine (Calls.mono (R := RetN _ p) (by rw [Ep]; exact CM.out) ?_)
  clear CM
  replace Ep := Lib.hid Ep
  rintro e W5 ⟨Xp, cp, rfl, hp, hb5⟩
  replace hG := hG.below hb5
  replace ha := ha.below hb5
  replace qp0 := cbl hb5 qp0
  replace qp1 := cbl hb5 qp1
  replace HBT := Below.cons HBT hb5
  clear hb5
  have Vp : p = 2 := Ep.out
  have Bp : nl p ≤ 4 := by rw [Vp]; exact nl_le.2 (by decide)
  have Fp : FP p := by rw [Vp]; exact fer_two
  have hp1 : 0 < p := by have := Fp.1.1; omega
  have hp2 : 2 ≤ p := Fp.1.1
  replace Vp := Lib.hid Vp
  replace Fp := Lib.hid Fp
  go_wp2_with (fail)
  have CP := (powmod_c X2 c2 a Xp cp p Xp cp p _ ha hp hp hG (by omega) (by omega) (by omega) hp1)
  obtain ⟨pf, Epf⟩ : ∃ z : Nat, z = a ^ p % p := ⟨_, rfl⟩
  have Bpf : nl pf ≤ 4 := by rw [Epf]; exact Nat.le_trans (nl_mono (Nat.le_of_lt (Nat.mod_lt _ hp1))) Bp
  rw [← Epf] at CP
  replace CP := Lib.hid CP
  replace Epf := Lib.hid Epf
  refine (Calls.mono CP.out ?_)
  rintro e W6 ⟨Xpf, cpf, rfl, hpf, hb6⟩
  clear CP
  replace hG := hG.below hb6
  replace ha := ha.below hb6
  replace qp0 := cbl hb6 qp0
  replace qp1 := cbl hb6 qp1
  replace hp := hp.below hb6
  replace HBT := Below.cons HBT hb6
  clear hb6
  go_wp2_with (fail)
  obtain ⟨d, Ed⟩ : ∃ zq : Nat, zq = a / p := ⟨_, rfl⟩
  have Bd : nl d ≤ 8 := by rw [Ed]; have := nl_div a p; omega
  obtain ⟨r, Er⟩ : ∃ zq : Nat, zq = a % p := ⟨_, rfl⟩
  have Br : nl r ≤ 8 := by rw [Er]; have := nl_mod_le a p; omega
  have CT7 := (rdiv_c X2 c2 a Xp cp p _ ha hp (by omega) (by omega) hp1)
  rw [← Ed, ← Er] at CT7
  replace Ed := Lib.hid Ed
  replace Er := Lib.hid Er
  refine (Calls.mono CT7 ?_)
  clear CT7
  rintro e W7 ⟨Xd, cd, Xr, cr, rfl, hd, hr, hb7⟩
  replace hG := hG.below hb7
  replace ha := ha.below hb7
  replace qp0 := cbl hb7 qp0
  replace qp1 := cbl hb7 qp1
  replace hp := hp.below hb7
  replace hpf := hpf.below hb7
  replace HBT := Below.cons HBT hb7
  clear hb7
  go_wp2_with (fail)
  clear hd
  refine (Calls.mono (same1_t Xpf cpf pf Xr cr r _ hpf hr (by omega) (by omega) (by rw [Epf.out, Er.out]; exact fer_pow Fp.out)) ?_)
  rintro e W8 ⟨rfl, hb8⟩
  replace hG := hG.below hb8
  replace ha := ha.below hb8
  replace qp0 := cbl hb8 qp0
  replace qp1 := cbl hb8 qp1
  replace hp := hp.below hb8
  replace hpf := hpf.below hb8
  replace hr := hr.below hb8
  replace HBT := Below.cons HBT hb8
  clear hb8
  clear hpf
  by_cases hr0 : r = 0
  · skip
    have t1 : ((nl r : Int) == 0) = true := ieqT (by rw [hr0, nl_zero]; rfl)
    have t1' : (nl r == 0) = true := by rw [hr0, nl_zero]; rfl
    replace hr0 := Lib.hid hr0
    go_wp2_with (fail)
    go_ret
    exact ⟨rfl, HBT⟩
  · have hra : a % p ≠ 0 := by rw [← Er.out]; exact hr0
    have t1 : ((nl r : Int) == 0) = false := ieqF (by have := nl_pos.2 (show r ≠ 0 by exact hr0); omega)
    have t1' : (nl r == 0) = false := by have := nl_pos.2 (show r ≠ 0 by exact hr0); simp; omega
    replace hr0 := Lib.hid hr0
    replace hra := Lib.hid hra
    clear hr
    have hb9 : Below (W8).heap.size (W8) ((W8).alloc (.cells #[.int .u32 2] 72)) := (Below.refl _ _).alloc (Nat.le_refl _) _
    have htw := nlit (l := [2]) _ _ _ (heap_alloc_new (W8) (.cells #[.int .u32 2] 72)) rfl (by decide) (by decide) (by decide)
    obtain ⟨tw, Etw⟩ : ∃ zq : Nat, zq = val [2] := ⟨_, rfl⟩
    rw [← Etw] at htw
    have Ntw : nl tw = 1 := by rw [Etw]; exact nl_lit (by decide) (by decide)
    have Vtw : tw = 2 := by rw [Etw]; decide
    have Btw : nl tw ≤ 1 := Nat.le_of_eq Ntw
    replace Ntw := Lib.hid Ntw
    replace Etw := Lib.hid Etw
    replace Vtw := Lib.hid Vtw
    replace hG := hG.below hb9
    replace ha := ha.below hb9
    replace qp0 := cbl hb9 qp0
    replace qp1 := cbl hb9 qp1
    replace hp := hp.below hb9
    replace HBT := Below.cons HBT hb9
    clear hb9
    go_wp2_with (fail)
    obtain ⟨k, Ek⟩ : ∃ zq : Nat, zq = p - tw := ⟨_, rfl⟩
    have CT10 := (at_lenR Ntw.out (rsub_c Xp cp p _ _ tw _ hp htw (by omega) (by omega) (by rw [Vtw.out]; exact hp2)))
    rw [← Ek] at CT10
    replace Ek := Lib.hid Ek
    refine (Calls.mono CT10 ?_)
    clear CT10
    rintro e W10 ⟨Xk, ck, rfl, hk, hb10⟩
    replace hG := hG.below hb10
    replace ha := ha.below hb10
    replace qp0 := cbl hb10 qp0
    replace qp1 := cbl hb10 qp1
    replace hp := hp.below hb10
    replace htw := htw.below hb10
    replace HBT := Below.cons HBT hb10
    clear hb10
    clear htw
    have Bk : nl k ≤ 4 := by rw [Ek.out]; exact Nat.le_trans (nl_mono (Nat.sub_le _ _)) Bp
    go_wp2_with (fail)
    have CI := (inverse_c X2 c2 a Xp cp p _ ha hp hG (by omega) (by omega) (hp1) (fer_gcd Fp.out hra.out))
    obtain ⟨v, Ev⟩ : ∃ z : Nat, z = inv a p := ⟨_, rfl⟩
    have Bv : nl v ≤ 8 := by rw [Ev]; exact inv_sz (by omega) (hp1)
    rw [← Ev] at CI
    replace CI := Lib.hid CI
    replace Ev := Lib.hid Ev
    refine (Calls.mono CI.out ?_)
    rintro e W11 ⟨Xv, cv, rfl, hv, hb11⟩
    clear CI
    replace hG := hG.below hb11
    replace ha := ha.below hb11
    replace qp0 := cbl hb11 qp0
    replace qp1 := cbl hb11 qp1
    replace hp := hp.below hb11
    replace hk := hk.below hb11
    replace HBT := Below.cons HBT hb11
    clear hb11
    go_wp2_with (fail)
    have CP := (powmod_c X2 c2 a Xk ck k Xp cp p _ ha hk hp hG (by omega) (by omega) (by omega) hp1)
    obtain ⟨u, Eu⟩ : ∃ z : Nat, z = a ^ k % p := ⟨_, rfl⟩
    have Bu : nl u ≤ 4 := by rw [Eu]; exact Nat.le_trans (nl_mono (Nat.le_of_lt (Nat.mod_lt _ hp1))) Bp
    rw [← Eu] at CP
    replace CP := Lib.hid CP
    replace Eu := Lib.hid Eu
    refine (Calls.mono CP.out ?_)
    rintro e W12 ⟨Xu, cu, rfl, hu, hb12⟩
    clear CP
    replace hG := hG.below hb12
    replace ha := ha.below hb12
    replace qp0 := cbl hb12 qp0
    replace qp1 := cbl hb12 qp1
    replace hp := hp.below hb12
    replace hk := hk.below hb12
    replace hv := hv.below hb12
    replace HBT := Below.cons HBT hb12
    clear hb12
    go_wp2_with (fail)
    refine (Calls.mono (same1_t Xv cv v Xu cu u _ hv hu (by omega) (by omega) (by rw [Ev.out, Eu.out, Ek.out, Vtw.out]; exact fer_inv Fp.out hra.out)) ?_)
    rintro e W13 ⟨rfl, hb13⟩
    replace hG := hG.below hb13
    replace ha := ha.below hb13
    replace qp0 := cbl hb13 qp0
    replace qp1 := cbl hb13 qp1
    replace hp := hp.below hb13
    replace hk := hk.below hb13
    replace hv := hv.below hb13
    replace hu := hu.below hb13
    replace HBT := Below.cons HBT hb13
    clear hb13
    go_wp2_with (fail)
    go_ret
    exact ⟨rfl, HBT⟩

theorem gcdFermat1_c (A : Option Addr) (c : Nat) (l : List Nat) (n : Nat) (w : World) (hG : Flds w) (hl : Rd w A l) (Ll : Lim l) (Ql : l.length ≤ maxLen) (Cl : l.length ≤ c) (Zl : A = none → c = 0) (hn : n < 256) (hi : n % 6 = 1) :
    Calls Tryz.prog 11 #[.slice A l.length c, .int .u8 (n : Nat)] w fun e w' => e = .returned (.bool true) ∧ Below w.heap.size w w' := by
  replace Zl := Lib.hid Zl
  have Jn : (n : Int).tmod 6 = 1 := by rw [Int.tmod_eq_emod_of_nonneg (by omega)]; omega
  replace hi := Lib.hid hi
  have hu := Tryz.underlying77
  go_enter Tryz.func11, Tryz.ntmps11
  go_wp2_with (fail)
  refine (Calls.mono (ghead_c _ hG) ?_)
  rintro e W1 ⟨rfl, hb1⟩
  replace hG := hG.below hb1
  replace hl := hl.below hb1
  have HBT := hb1
  clear hb1
  go_wp2_with (fail)
  obtain ⟨a, Ea⟩ : ∃ zq : Nat, zq = val (l.take 8) := ⟨_, rfl⟩
  have Ba : nl a ≤ 8 := by rw [Ea]; exact made_nl l Ll 8
  refine (Calls.mono (R := RetN W1 a) (by rw [Ea]; exact (made_n_c A c 8 l _ hl Ll Ql Cl Zl.out (by decide))) ?_)
  replace Ea := Lib.hid Ea
  rintro e W2 ⟨X2, c2, rfl, ha, hb2⟩
  replace hG := hG.below hb2
  replace hl := hl.below hb2
  replace HBT := Below.cons HBT hb2
  clear hb2
  clear hl
  obtain ⟨hb3, Rps, Rpr⟩ := bx2 W2 #[.int .u32 1, .int .u32 2, .int .u32 16, .int .u32 65537, .int .u32 31, .int .u32 0, .int .u32 61, .int .u32 0, .int .u32 89, .int .u32 0, .int .u32 127, .int .u32 0] 77 #[.int .u32 16, .int .u32 65537] 77
  replace hG := hG.below hb3
  replace ha := ha.below hb3
  replace HBT := Below.cons HBT hb3
  clear hb3
  clear Rps
  have qp0 := Rpr.c (i := 0) rfl
  have qp1 := Rpr.c (i := 1) rfl
  clear Rpr
  have hb4 : Below (((W2.alloc (.cells #[.int .u32 1, .int .u32 2, .int .u32 16, .int .u32 65537, .int .u32 31, .int .u32 0, .int .u32 61, .int .u32 0, .int .u32 89, .int .u32 0, .int .u32 127, .int .u32 0] 77)).alloc (.cells #[.int .u32 16, .int .u32 65537] 77))).heap.size (((W2.alloc (.cells #[.int .u32 1, .int .u32 2, .int .u32 16, .int .u32 65537, .int .u32 31, .int .u32 0, .int .u32 61, .int .u32 0, .int .u32 89, .int .u32 0, .int .u32 127, .int .u32 0] 77)).alloc (.cells #[.int .u32 16, .int .u32 65537] 77))) ((((W2.alloc (.cells #[.int .u32 1, .int .u32 2, .int .u32 16, .int .u32 65537, .int .u32 31, .int .u32 0, .int .u32 61, .int .u32 0, .int .u32 89, .int .u32 0, .int .u32 127, .int .u32 0] 77)).alloc (.cells #[.int .u32 16, .int .u32 65537] 77))).alloc (.cells #[.int .u32 65537] 72)) := (Below.refl _ _).alloc (Nat.le_refl _) _
  have CM := rmake1_c _ _ 65537 (heap_alloc_new (((W2.alloc (.cells #[.int .u32 1, .int .u32 2, .int .u32 16, .int .u32 65537, .int .u32 31, .int .u32 0, .int .u32 61, .int .u32 0, .int .u32 89, .int .u32 0, .int .u32 127, .int .u32 0] 77)).alloc (.cells #[.int .u32 16, .int .u32 65537] 77))) (.cells #[.int .u32 65537] 72)) (by decide)
  simp only [alloc_sz] at CM
  replace CM := Lib.hid CM
  replace hG := hG.below hb4
  replace ha := ha.below hb4
  replace qp0 := cbl hb4 qp0
  replace qp1 := cbl hb4 qp1
  replace HBT := Below.cons HBT hb4
  clear hb4
  go_wp2_with (fail)
  obtain ⟨p, Ep⟩ : ∃ z : Nat, z = 65537 := ⟨_, rfl⟩
  refine (Calls.mono (R := RetN _ p) (by rw [Ep]; exact CM.out) ?_)
  clear CM
  replace Ep := Lib.hid Ep
  rintro e W5 ⟨Xp, cp, rfl, hp, hb5⟩
  replace hG := hG.below hb5
  replace ha := ha.below hb5
  replace qp0 := cbl hb5 qp0
  replace qp1 := cbl hb5 qp1
  replace HBT := Below.cons HBT hb5
  clear hb5
  have Vp : p = 65537 := Ep.out
  have Bp : nl p ≤ 4 := by rw [Vp]; exact nl_le.2 (by decide)
  have Fp : FP p := by rw [Vp]; exact fer_65537
  have hp1 : 0 < p := by have := Fp.1.1; omega
  have hp2 : 2 ≤ p := Fp.1.1
  replace Vp := Lib.hid Vp
  replace Fp := Lib.hid Fp
  go_wp2_with (fail)
  have CP := (powmod_c X2 c2 a Xp cp p Xp cp p _ ha hp hp hG (by omega) (by omega) (by omega) hp1)
  obtain ⟨pf, Epf⟩ : ∃ z : Nat, z = a ^ p % p := ⟨_, rfl⟩
  have Bpf : nl pf ≤ 4 := by rw [Epf]; exact Nat.le_trans (nl_mono (Nat.le_of_lt (Nat.mod_lt _ hp1))) Bp
  rw [← Epf] at CP
  replace CP := Lib.hid CP
  replace Epf := Lib.hid Epf
  refine (Calls.mono CP.out ?_)
  rintro e W6 ⟨Xpf, cpf, rfl, hpf, hb6⟩
  clear CP
  replace hG := hG.below hb6
  replace ha := ha.below hb6
  replace qp0 := cbl hb6 qp0
  replace qp1 := cbl hb6 qp1
  replace hp := hp.below hb6
  replace HBT := Below.cons HBT hb6
  clear hb6
  go_wp2_with (fail)
  obtain ⟨d, Ed⟩ : ∃ zq : Nat, zq = a / p := ⟨_, rfl⟩
  have Bd : nl d ≤ 8 := by rw [Ed]; have := nl_div a p; omega
  obtain ⟨r, Er⟩ : ∃ zq : Nat, zq = a % p := ⟨_, rfl⟩
  have Br : nl r ≤ 8 := by rw [Er]; have := nl_mod_le a p; omega
  have CT7 := (rdiv_c X2 c2 a Xp cp p _ ha hp (by omega) (by omega) hp1)
  rw [← Ed, ← Er] at CT7
  replace Ed := Lib.hid Ed
  replace Er := Lib.hid Er
  refine (Calls.mono CT7 ?_)
  clear CT7
  rintro e W7 ⟨Xd, cd, Xr, cr, rfl, hd, hr, hb7⟩
  replace hG := hG.below hb7
  replace ha := ha.below hb7
  replace qp0 := cbl hb7 qp0
  replace qp1 := cbl hb7 qp1
  replace hp := hp.below hb7
  replace hpf := hpf.below hb7
  replace HBT := Below.cons HBT hb7
  clear hb7
  go_wp2_with (fail)
  clear hd
  refine (Calls.mono (same1_t Xpf cpf pf Xr cr r _ hpf hr (by omega) (by omega) (by rw [Epf.out, Er.out]; exact fer_pow Fp.out)) ?_)
  rintro e W8 ⟨rfl, hb8⟩
  replace hG := hG.below hb8
  replace ha := ha.below hb8
  replace qp0 := cbl hb8 qp0
  replace qp1 := cbl hb8 qp1
  replace hp := hp.below hb8
  replace hpf := hpf.below hb8
  replace hr := hr.below hb8
  replace HBT := Below.cons HBT hb8
  clear hb8
  clear hpf
  by_cases hr0 : r = 0
  · skip
    have t1 : ((nl r : Int) == 0) = true := ieqT (by rw [hr0, nl_zero]; rfl)
    have t1' : (nl r == 0) = true := by rw [hr0, nl_zero]; rfl
    replace hr0 := Lib.hid hr0
    go_wp2_with (fail)
    go_ret
    exact ⟨rfl, HBT⟩
  · have hra : a % p ≠ 0 := by rw [← Er.out]; exact hr0
    have t1 : ((nl r : Int) == 0) = false := ieqF (by have := nl_pos.2 (show r ≠ 0 by exact hr0); omega)
    have t1' : (nl r == 0) = false := by have := nl_pos.2 (show r ≠ 0 by exact hr0); simp; omega
    replace hr0 := Lib.hid hr0
    replace hra := Lib.hid hra
    clear hr
    have hb9 : Below (W8).heap.size (W8) ((W8).alloc (.cells #[.int .u32 2] 72)) := (Below.refl _ _).alloc (Nat.le_refl _) _
    have htw := nlit (l := [2]) _ _ _ (heap_alloc_new (W8) (.cells #[.int .u32 2] 72)) rfl (by decide) (by decide) (by decide)
    obtain ⟨tw, Etw⟩ : ∃ zq : Nat, zq = val [2] := ⟨_, rfl⟩
    rw [← Etw] at htw
    have Ntw : nl tw = 1 := by rw [Etw]; exact nl_lit (by decide) (by decide)
    have Vtw : tw = 2 := by rw [Etw]; decide
    have Btw : nl tw ≤ 1 := Nat.le_of_eq Ntw
    replace Ntw := Lib.hid Ntw
    replace Etw := Lib.hid Etw
    replace Vtw := Lib.hid Vtw
    replace hG := hG.below hb9
    replace ha := ha.below hb9
    replace qp0 := cbl hb9 qp0
    replace qp1 := cbl hb9 qp1
    replace hp := hp.below hb9
    replace HBT := Below.cons HBT hb9
    clear hb9
    go_wp2_with (fail)
    obtain ⟨k, Ek⟩ : ∃ zq : Nat, zq = p - tw := ⟨_, rfl⟩
    have CT10 := (at_lenR Ntw.out (rsub_c Xp cp p _ _ tw _ hp htw (by omega) (by omega) (by rw [Vtw.out]; exact hp2)))
    rw [← Ek] at CT10
    replace Ek := Lib.hid Ek
    refine (Calls.mono CT10 ?_)
    clear CT10
    rintro e W10 ⟨Xk, ck, rfl, hk, hb10⟩
    replace hG := hG.below hb10
    replace ha := ha.below hb10
    replace qp0 := cbl hb10 qp0
    replace qp1 := cbl hb10 qp1
    replace hp := hp.below hb10
    replace htw := htw.below hb10
    replace HBT := Below.cons HBT hb10
    clear hb10
    clear htw
    have Bk : nl k ≤ 4 := by rw [Ek.out]; exact Nat.le_trans (nl_mono (Nat.sub_le _ _)) Bp
    go_wp2_with (fail)
    have CI := (inverse_c X2 c2 a Xp cp p _ ha hp hG (by omega) (by omega) (hp1) (fer_gcd Fp.out hra.out))
    obtain ⟨v, Ev⟩ : ∃ z : Nat, z = inv a p := ⟨_, rfl⟩
    have Bv : nl v ≤ 8 := by rw [Ev]; exact inv_sz (by omega) (hp1)
    rw [← Ev] at CI
    replace CI := Lib.hid CI
    replace Ev := Lib.hid Ev
    refine (Calls.mono CI.out ?_)
    rintro e W11 ⟨Xv, cv, rfl, hv, hb11⟩
    clear CI
    replace hG := hG.below hb11
    replace ha := ha.below hb11
    replace qp0 := cbl hb11 qp0
    replace qp1 := cbl hb11 qp1
    replace hp := hp.below hb11
    replace hk := hk.below hb11
    replace HBT := Below.cons HBT hb11
    clear hb11
    go_wp2_with (fail)
    have CP := (powmod_c X2 c2 a Xk ck k Xp cp p _ ha hk hp hG (by omega) (by omega) (by omega) hp1)
    obtain ⟨u, Eu⟩ : ∃ z : Nat, z = a ^ k % p := ⟨_, rfl⟩
    have Bu : nl u ≤ 4 := by rw [Eu]; exact Nat.le_trans (nl_mono (Nat.le_of_lt (Nat.mod_lt _ hp1))) Bp
    rw [← Eu] at CP
    replace CP := Lib.hid CP
    replace Eu := Lib.hid Eu
    refine (Calls.mono CP.out ?_)
    rintro e W12 ⟨Xu, cu, rfl, hu, hb12⟩
    clear CP
    replace hG := hG.below hb12
    replace ha := ha.below hb12
    replace qp0 := cbl hb12 qp0
    replace qp1 := cbl hb12 qp1
    replace hp := hp.below hb12
    replace hk := hk.below hb12
    replace hv := hv.below hb12
    replace HBT := Below.cons HBT hb12
    clear hb12
    go_wp2_with (fail)
    refine (Calls.mono (same1_t Xv cv v Xu cu u _ hv hu (by omega) (by omega) (by rw [Ev.out, Eu.out, Ek.out, Vtw.out]; exact fer_inv Fp.out hra.out)) ?_)
    rintro e W13 ⟨rfl, hb13⟩
    replace hG := hG.below hb13
    replace ha := ha.below hb13
    replace qp0 := cbl hb13 qp0
    replace qp1 := cbl hb13 qp1
    replace hp := hp.below hb13
    replace hk := hk.below hb13
    replace hv := hv.below hb13
    replace hu := hu.below hb13
    replace HBT := Below.cons HBT hb13
    clear hb13
    go_wp2_with (fail)
    go_ret
    exact ⟨rfl, HBT⟩

theorem gcdFermat2_c (A : Option Addr) (c : Nat) (l : List Nat) (n : Nat) (w : World) (hG : Flds w) (hl : Rd w A l) (Ll : Lim l) (Ql : l.length ≤ maxLen) (Cl : l.length ≤ c) (Zl : A = none → c = 0) (hn : n < 256) (hi : n % 6 = 2) :
    Calls Tryz.prog 11 #[.slice A l.length c, .int .u8 (n : Nat)] w fun e w' => e = .returned (.bool true) ∧ Below w.heap.size w w' := by
  replace Zl := Lib.hid Zl
  have Jn : (n : Int).tmod 6 = 2 := by rw [Int.tmod_eq_emod_of_nonneg (by omega)]; omega
  replace hi := Lib.hid hi
  have hu := Tryz.underlying77
  go_enter Tryz.func11, Tryz.ntmps11
  go_wp2_with (fail)
  refine (Calls.mono (ghead_c _ hG) ?_)
  rintro e W1 ⟨rfl, hb1⟩
  replace hG := hG.below hb1
  replace hl := hl.below hb1
  have HBT := hb1
  clear hb1
  go_wp2_with (fail)
  obtain ⟨a, Ea⟩ : ∃ zq : Nat, zq = val (l.take 8) := ⟨_, rfl⟩
  have Ba : nl a ≤ 8 := by rw [Ea]; exact made_nl l Ll 8
  refine (Calls.mono (R := RetN W1 a) (by rw [Ea]; exact (made_n_c A c 8 l _ hl Ll Ql Cl Zl.out (by decide))) ?_)
  replace Ea := Lib.hid Ea
  rintro e W2 ⟨X2, c2, rfl, ha, hb2⟩
  replace hG := hG.below hb2
  replace hl := hl.below hb2
  replace HBT := Below.cons HBT hb2
  clear hb2
  clear hl
  obtain ⟨hb3, Rps, Rpr⟩ := bx2 W2 #[.int .u32 1, .int .u32 2, .int .u32 16, .int .u32 65537, .int .u32 31, .int .u32 0, .int .u32 61, .int .u32 0, .int .u32 89, .int .u32 0, .int .u32 127, .int .u32 0] 77 #[.int .u32 31, .int .u32 0] 77
  replace hG := hG.below hb3
  replace ha := ha.below hb3
  replace HBT := Below.cons HBT hb3
  clear hb3
  clear Rps
  have qp0 := Rpr.c (i := 0) rfl
  have qp1 := Rpr.c (i := 1) rfl
  clear Rpr
  have hb4 : Below (((W2.alloc (.cells #[.int .u32 1, .int .u32 2, .int .u32 16, .int .u32 65537, .int .u32 31, .int .u32 0, .int .u32 61, .int .u32 0, .int .u32 89, .int .u32 0, .int .u32 127, .int .u32 0] 77)).alloc (.cells #[.int .u32 31, .int .u32 0] 77))).heap.size (((W2.alloc (.cells #[.int .u32 1, .int .u32 2, .int .u32 16, .int .u32 65537, .int .u32 31, .int .u32 0, .int .u32 61, .int .u32 0, .int .u32 89, .int .u32 0, .int .u32 127, .int .u32 0] 77)).alloc (.cells #[.int .u32 31, .int .u32 0] 77))) ((((W2.alloc (.cells #[.int .u32 1, .int .u32 2, .int .u32 16, .int .u32 65537, .int .u32 31, .int .u32 0, .int .u32 61, .int .u32 0, .int .u32 89, .int .u32 0, .int .u32 127, .int .u32 0] 77)).alloc (.cells #[.int .u32 31, .int .u32 0] 77))).alloc (.cells #[.int .u32 0] 72)) := (Below.refl _ _).alloc (Nat.le_refl _) _
  have CM := rmake1_c _ _ 0 (heap_alloc_new (((W2.alloc (.cells #[.int .u32 1, .int .u32 2, .int .u32 16, .int .u32 65537, .int .u32 31, .int .u32 0, .int .u32 61, .int .u32 0, .int .u32 89, .int .u32 0, .int .u32 127, .int .u32 0] 77)).alloc (.cells #[.int .u32 31, .int .u32 0] 77))) (.cells #[.int .u32 0] 72)) (by decide)
  simp only [alloc_sz] at CM
  replace CM := Lib.hid CM
  replace hG := hG.below hb4
  replace ha := ha.below hb4
  replace qp0 := cbl hb4 qp0
  replace qp1 := cbl hb4 qp1
  replace HBT := Below.cons HBT hb4
  clear hb4
  go_wp2_with (fail)
  obtain ⟨z0, Ez0⟩ : ∃ z : Nat, z = 0 := ⟨_, rfl⟩
  refine (Calls.mono (R := RetN _ z0) (by rw [Ez0]; exact CM.out) ?_)
  clear CM
  replace Ez0 := Lib.hid Ez0
  rintro e W5 ⟨Xz0, cz0, rfl, hz0, hb5⟩
  replace hG := hG.below hb5
  replace ha := ha.below hb5
  replace qp0 := cbl hb5 qp0
  replace qp1 := cbl hb5 qp1
  replace HBT := Below.cons HBT hb5
  clear hb5
  have qo0 := qp0
  have qo1 := qp1
  have hb6 : Below (W5).heap.size (W5) ((W5).alloc (.cells #[.int .u32 1] 72)) := (Below.refl _ _).alloc (Nat.le_refl _) _
  have ho := nlit (l := [1]) _ _ _ (heap_alloc_new (W5) (.cells #[.int .u32 1] 72)) rfl (by decide) (by decide) (by decide)
  obtain ⟨o, Eo⟩ : ∃ zq : Nat, zq = val [1] := ⟨_, rfl⟩
  rw [← Eo] at ho
  have No : nl o = 1 := by rw [Eo]; exact nl_lit (by decide) (by decide)
  have Vo : o = 1 := by rw [Eo]; decide
  have Bo : nl o ≤ 1 := Nat.le_of_eq No
  replace No := Lib.hid No
  replace Eo := Lib.hid Eo
  replace Vo := Lib.hid Vo
  replace hG := hG.below hb6
  replace ha := ha.below hb6
  replace qp0 := cbl hb6 qp0
  replace qp1 := cbl hb6 qp1
  replace HBT := Below.cons HBT hb6
  clear hb6
  go_wp2_with (fail)
  clear qo0 qo1
  obtain ⟨h, Eh⟩ : ∃ zq : Nat, zq = o * 2 ^ 31 := ⟨_, rfl⟩
  have Bh : nl h ≤ 2 := by rw [Eh]; have := nl_shl o 31; omega
  refine (Calls.mono (R := RetN ((W5).alloc (.cells #[.int .u32 1] 72)) h) (by rw [Eh]; exact (at_len1 No.out (rshl_c _ _ o (31) _ ho (by omega) (by omega)))) ?_)
  replace Eh := Lib.hid Eh
  rintro e W7 ⟨X7, c7, rfl, hh, hb7⟩
  replace hG := hG.below hb7
  replace ha := ha.below hb7
  replace qp0 := cbl hb7 qp0
  replace qp1 := cbl hb7 qp1
  replace ho := ho.below hb7
  replace HBT := Below.cons HBT hb7
  clear hb7
  clear ho
  clear qp0
  clear qp1
  have hb8 : Below (W7).heap.size (W7) ((W7).alloc (.cells #[.int .u32 1] 72)) := (Below.refl _ _).alloc (Nat.le_refl _) _
  have ho2 := nlit (l := [1]) _ _ _ (heap_alloc_new (W7) (.cells #[.int .u32 1] 72)) rfl (by decide) (by decide) (by decide)
  obtain ⟨o2, Eo2⟩ : ∃ zq : Nat, zq = val [1] := ⟨_, rfl⟩
  rw [← Eo2] at ho2
  have No2 : nl o2 = 1 := by rw [Eo2]; exact nl_lit (by decide) (by decide)
  have Vo2 : o2 = 1 := by rw [Eo2]; decide
  have Bo2 : nl o2 ≤ 1 := Nat.le_of_eq No2
  replace No2 := Lib.hid No2
  replace Eo2 := Lib.hid Eo2
  replace Vo2 := Lib.hid Vo2
  replace hG := hG.below hb8
  replace ha := ha.below hb8
  replace hh := hh.below hb8
  replace HBT := Below.cons HBT hb8
  clear hb8
  go_wp2_with (fail)
  obtain ⟨p, Ep⟩ : ∃ zq : Nat, zq = h - o2 := ⟨_, rfl⟩
  have CT9 := (at_lenR No2.out (rsub_c X7 c7 h _ _ o2 _ hh ho2 (by omega) (by omega) (by rw [Eh.out, Vo.out, Vo2.out]; decide)))
  rw [← Ep] at CT9
  replace Ep := Lib.hid Ep
  refine (Calls.mono CT9 ?_)
  clear CT9
  rintro e W9 ⟨Xp, cp, rfl, hp, hb9⟩
  replace hG := hG.below hb9
  replace ha := ha.below hb9
  replace hh := hh.below hb9
  replace ho2 := ho2.below hb9
  replace HBT := Below.cons HBT hb9
  clear hb9
  clear hh
  clear ho2
  have Vp : p = 2147483647 := by rw [Ep.out, Eh.out, Vo.out, Vo2.out]
  have Bp : nl p ≤ 4 := by rw [Vp]; exact nl_le.2 (by decide)
  have Fp : FP p := by rw [Vp]; exact fer_2147483647
  have hp1 : 0 < p := by have := Fp.1.1; omega
  have hp2 : 2 ≤ p := Fp.1.1
  replace Vp := Lib.hid Vp
  replace Fp := Lib.hid Fp
  go_wp2_with (fail)
  have CP := (powmod_c X2 c2 a Xp cp p Xp cp p _ ha hp hp hG (by omega) (by omega) (by omega) hp1)
  obtain ⟨pf, Epf⟩ : ∃ z : Nat, z = a ^ p % p := ⟨_, rfl⟩
  have Bpf : nl pf ≤ 4 := by rw [Epf]; exact Nat.le_trans (nl_mono (Nat.le_of_lt (Nat.mod_lt _ hp1))) Bp
  rw [← Epf] at CP
  replace CP := Lib.hid CP
  replace Epf := Lib.hid Epf
  refine (Calls.mono CP.out ?_)
  rintro e W10 ⟨Xpf, cpf, rfl, hpf, hb10⟩
  clear CP
  replace hG := hG.below hb10
  replace ha := ha.below hb10
  replace hp := hp.below hb10
  replace HBT := Below.cons HBT hb10
  clear hb10
  go_wp2_with (fail)
  obtain ⟨d, Ed⟩ : ∃ zq : Nat, zq = a / p := ⟨_, rfl⟩
  have Bd : nl d ≤ 8 := by rw [Ed]; have := nl_div a p; omega
  obtain ⟨r, Er⟩ : ∃ zq : Nat, zq = a % p := ⟨_, rfl⟩
  have Br : nl r ≤ 8 := by rw [Er]; have := nl_mod_le a p; omega
  have CT11 := (rdiv_c X2 c2 a Xp cp p _ ha hp (by omega) (by omega) hp1)
  rw [← Ed, ← Er] at CT11
  replace Ed := Lib.hid Ed
  replace Er := Lib.hid Er
  refine (Calls.mono CT11 ?_)
  clear CT11
  rintro e W11 ⟨Xd, cd, Xr, cr, rfl, hd, hr, hb11⟩
  replace hG := hG.below hb11
  replace ha := ha.below hb11
  replace hp := hp.below hb11
  replace hpf := hpf.below hb11
  replace HBT := Below.cons HBT hb11
  clear hb11
  go_wp2_with (fail)
  clear hd
  refine (Calls.mono (same1_t Xpf cpf pf Xr cr r _ hpf hr (by omega) (by omega) (by rw [Epf.out, Er.out]; exact fer_pow Fp.out)) ?_)
  rintro e W12 ⟨rfl, hb12⟩
  replace hG := hG.below hb12
  replace ha := ha.below hb12
  replace hp := hp.below hb12
  replace hpf := hpf.below hb12
  replace hr := hr.below hb12
  replace HBT := Below.cons HBT hb12
  clear hb12
  clear hpf
  by_cases hr0 : r = 0
  · skip
    have t1 : ((nl r : Int) == 0) = true := ieqT (by rw [hr0, nl_zero]; rfl)
    have t1' : (nl r == 0) = true := by rw [hr0, nl_zero]; rfl
    replace hr0 := Lib.hid hr0
    go_wp2_with (fail)
    go_ret
    exact ⟨rfl, HBT⟩
  · have hra : a % p ≠ 0 := by rw [← Er.out]; exact hr0
    have t1 : ((nl r : Int) == 0) = false := ieqF (by have := nl_pos.2 (show r ≠ 0 by exact hr0); omega)
    have t1' : (nl r == 0) = false := by have := nl_pos.2 (show r ≠ 0 by exact hr0); simp; omega
    replace hr0 := Lib.hid hr0
    replace hra := Lib.hid hra
    clear hr
    have hb13 : Below (W12).heap.size (W12) ((W12).alloc (.cells #[.int .u32 2] 72)) := (Below.refl _ _).alloc (Nat.le_refl _) _
    have htw := nlit (l := [2]) _ _ _ (heap_alloc_new (W12) (.cells #[.int .u32 2] 72)) rfl (by decide) (by decide) (by decide)
    obtain ⟨tw, Etw⟩ : ∃ zq : Nat, zq = val [2] := ⟨_, rfl⟩
    rw [← Etw] at htw
    have Ntw : nl tw = 1 := by rw [Etw]; exact nl_lit (by decide) (by decide)
    have Vtw : tw = 2 := by rw [Etw]; decide
    have Btw : nl tw ≤ 1 := Nat.le_of_eq Ntw
    replace Ntw := Lib.hid Ntw
    replace Etw := Lib.hid Etw
    replace Vtw := Lib.hid Vtw
    replace hG := hG.below hb13
    replace ha := ha.below hb13
    replace hp := hp.below hb13
    replace HBT := Below.cons HBT hb13
    clear hb13
    go_wp2_with (fail)
    obtain ⟨k, Ek⟩ : ∃ zq : Nat, zq = p - tw := ⟨_, rfl⟩
    have CT14 := (at_lenR Ntw.out (rsub_c Xp cp p _ _ tw _ hp htw (by omega) (by omega) (by rw [Vtw.out]; exact hp2)))
    rw [← Ek] at CT14
    replace Ek := Lib.hid Ek
    refine (Calls.mono CT14 ?_)
    clear CT14
    rintro e W14 ⟨Xk, ck, rfl, hk, hb14⟩
    replace hG := hG.below hb14
    replace ha := ha.below hb14
    replace hp := hp.below hb14
    replace htw := htw.below hb14
    replace HBT := Below.cons HBT hb14
    clear hb14
    clear htw
    have Bk : nl k ≤ 4 := by rw [Ek.out]; exact Nat.le_trans (nl_mono (Nat.sub_le _ _)) Bp
    go_wp2_with (fail)
    have CI := (inverse_c X2 c2 a Xp cp p _ ha hp hG (by omega) (by omega) (hp1) (fer_gcd Fp.out hra.out))
    obtain ⟨v, Ev⟩ : ∃ z : Nat, z = inv a p := ⟨_, rfl⟩
    have Bv : nl v ≤ 8 := by rw [Ev]; exact inv_sz (by omega) (hp1)
    rw [← Ev] at CI
    replace CI := Lib.hid CI
    replace Ev := Lib.hid Ev
    refine (Calls.mono CI.out ?_)
    rintro e W15 ⟨Xv, cv, rfl, hv, hb15⟩
    clear CI
    replace hG := hG.below hb15
    replace ha := ha.below hb15
    replace hp := hp.below hb15
    replace hk := hk.below hb15
    replace HBT := Below.cons HBT hb15
    clear hb15
    go_wp2_with (fail)
    have CP := (powmod_c X2 c2 a Xk ck k Xp cp p _ ha hk hp hG (by omega) (by omega) (by omega) hp1)
    obtain ⟨u, Eu⟩ : ∃ z : Nat, z = a ^ k % p := ⟨_, rfl⟩
    have Bu : nl u ≤ 4 := by rw [Eu]; exact Nat.le_trans (nl_mono (Nat.le_of_lt (Nat.mod_lt _ hp1))) Bp
    rw [← Eu] at CP
    replace CP := Lib.hid CP
    replace Eu := Lib.hid Eu
    refine (Calls.mono CP.out ?_)
    rintro e W16 ⟨Xu, cu, rfl, hu, hb16⟩
    clear CP
    replace hG := hG.below hb16
    replace ha := ha.below hb16
    replace hp := hp.below hb16
    replace hk := hk.below hb16
    replace hv := hv.below hb16
    replace HBT := Below.cons HBT hb16
    clear hb16
    go_wp2_with (fail)
    refine (Calls.mono (same1_t Xv cv v Xu cu u _ hv hu (by omega) (by omega) (by rw [Ev.out, Eu.out, Ek.out, Vtw.out]; exact fer_inv Fp.out hra.out)) ?_)
    rintro e W17 ⟨rfl, hb17⟩
    replace hG := hG.below hb17
    replace ha := ha.below hb17
    replace hp := hp.below hb17
    replace hk := hk.below hb17
    replace hv := hv.below hb17
    replace hu := hu.below hb17
    replace HBT := Below.cons HBT hb17
    clear hb17
    go_wp2_with (fail)
    go_ret
    exact ⟨rfl, HBT⟩

theorem gcdFermat3_c (A : Option Addr) (c : Nat) (l : List Nat) (n : Nat) (w : World) (hG : Flds w) (hl : Rd w A l) (Ll : Lim l) (Ql : l.length ≤ maxLen) (Cl : l.length ≤ c) (Zl : A = none → c = 0) (hn : n < 256) (hi : n % 6 = 3) :
    Calls Tryz.prog 11 #[.slice A l.length c, .int .u8 (n : Nat)] w fun e w' => e = .returned (.bool true) ∧ Below w.heap.size w w' := by
  replace Zl := Lib.hid Zl
  have Jn : (n : Int).tmod 6 = 3 := by rw [Int.tmod_eq_emod_of_nonneg (by omega)]; omega
  replace hi := Lib.hid hi
  have hu := Tryz.underlying77
  go_enter Tryz.func11, Tryz.ntmps11
  go_wp2_with (fail)
  refine (Calls.mono (ghead_c _ hG) ?_)
  rintro e W1 ⟨rfl, hb1⟩
  replace hG := hG.below hb1
  replace hl := hl.below hb1
  have HBT := hb1
  clear hb1
  go_wp2_with (fail)
  obtain ⟨a, Ea⟩ : ∃ zq : Nat, zq = val (l.take 8) := ⟨_, rfl⟩
  have Ba : nl a ≤ 8 := by rw [Ea]; exact made_nl l Ll 8
  refine (Calls.mono (R := RetN W1 a) (by rw [Ea]; exact (made_n_c A c 8 l _ hl Ll Ql Cl Zl.out (by decide))) ?_)
  replace Ea := Lib.hid Ea
  rintro e W2 ⟨X2, c2, rfl, ha, hb2⟩
  replace hG := hG.below hb2
  replace hl := hl.below hb2
  replace HBT := Below.cons HBT hb2
  clear hb2
  clear hl
  obtain ⟨hb3, Rps, Rpr⟩ := bx2 W2 #[.int .u32 1, .int .u32 2, .int .u32 16, .int .u32 65537, .int .u32 31, .int .u32 0, .int .u32 61, .int .u32 0, .int .u32 89, .int .u32 0, .int .u32 127, .int .u32 0] 77 #[.int .u32 61, .int .u32 0] 77
  replace hG := hG.below hb3
  replace ha := ha.below hb3
  replace HBT := Below.cons HBT hb3
  clear hb3
  clear Rps
  have qp0 := Rpr.c (i := 0) rfl
  have qp1 := Rpr.c (i := 1) rfl
  clear Rpr
  have hb4 : Below (((W2.alloc (.cells #[.int .u32 1, .int .u32 2, .int .u32 16, .int .u32 65537, .int .u32 31, .int .u32 0, .int .u32 61, .int .u32 0, .int .u32 89, .int .u32 0, .int .u32 127, .int .u32 0] 77)).alloc (.cells #[.int .u32 61, .int .u32 0] 77))).heap.size (((W2.alloc (.cells #[.int .u32 1, .int .u32 2, .int .u32 16, .int .u32 65537, .int .u32 31, .int .u32 0, .int .u32 61, .int .u32 0, .int .u32 89, .int .u32 0, .int .u32 127, .int .u32 0] 77)).alloc (.cells #[.int .u32 61, .int .u32 0] 77))) ((((W2.alloc (.cells #[.int .u32 1, .int .u32 2, .int .u32 16, .int .u32 65537, .int .u32 31, .int .u32 0, .int .u32 61, .int .u32 0, .int .u32 89, .int .u32 0, .int .u32 127, .int .u32 0] 77)).alloc (.cells #[.int .u32 61, .int .u32 0] 77))).alloc (.cells #[.int .u32 0] 72)) := (Below.refl _ _).alloc (Nat.le_refl _) _
  have CM := rmake1_c _ _ 0 (heap_alloc_new (((W2.alloc (.cells #[.int .u32 1, .int .u32 2, .int .u32 16, .int .u32 65537, .int .u32 31, .int .u32 0, .int .u32 61, .int .u32 0, .int .u32 89, .int .u32 0, .int .u32 127, .int .u32 0] 77)).alloc (.cells #[.int .u32 61, .int .u32 0] 77))) (.cells #[.int .u32 0] 72)) (by decide)
  simp only [alloc_sz] at CM
  replace CM := Lib.hid CM
  replace hG := hG.below hb4
  replace ha := ha.below hb4
  replace qp0 := cbl hb4 qp0
  replace qp1 := cbl hb4 qp1
  replace HBT := Below.cons HBT hb4
  clear hb4
  go_wp2_with (fail)
  obtain ⟨z0, Ez0⟩ : ∃ z : Nat, z = 0 := ⟨_, rfl⟩
  refine (Calls.mono (R := RetN _ z0) (by rw [Ez0]; exact CM.out) ?_)
  clear CM
  replace Ez0 := Lib.hid Ez0
  rintro e W5 ⟨Xz0, cz0, rfl, hz0, hb5⟩
  replace hG := hG.below hb5
  replace ha := ha.below hb5
  replace qp0 := cbl hb5 qp0
  replace qp1 := cbl hb5 qp1
  replace HBT := Below.cons HBT hb5
  clear hb5
  have qo0 := qp0
  have qo1 := qp1
  have hb6 : Below (W5).heap.size (W5) ((W5).alloc (.cells #[.int .u32 1] 72)) := (Below.refl _ _).alloc (Nat.le_refl _) _
  have ho := nlit (l := [1]) _ _ _ (heap_alloc_new (W5) (.cells #[.int .u32 1] 72)) rfl (by decide) (by decide) (by decide)
  obtain ⟨o, Eo⟩ : ∃ zq : Nat, zq = val [1] := ⟨_, rfl⟩
  rw [← Eo] at ho
  have No : nl o = 1 := by rw [Eo]; exact nl_lit (by decide) (by decide)
  have Vo : o = 1 := by rw [Eo]; decide
  have Bo : nl o ≤ 1 := Nat.le_of_eq No
  replace No := Lib.hid No
  replace Eo := Lib.hid Eo
  replace Vo := Lib.hid Vo
  replace hG := hG.below hb6
  replace ha := ha.below hb6
  replace qp0 := cbl hb6 qp0
  replace qp1 := cbl hb6 qp1
  replace HBT := Below.cons HBT hb6
  clear hb6
  go_wp2_with (fail)
  clear qo0 qo1
  obtain ⟨h, Eh⟩ : ∃ zq : Nat, zq = o * 2 ^ 61 := ⟨_, rfl⟩
  have Bh : nl h ≤ 3 := by rw [Eh]; have := nl_shl o 61; omega
  refine (Calls.mono (R := RetN ((W5).alloc (.cells #[.int .u32 1] 72)) h) (by rw [Eh]; exact (at_len1 No.out (rshl_c _ _ o (61) _ ho (by omega) (by omega)))) ?_)
  replace Eh := Lib.hid Eh
  rintro e W7 ⟨X7, c7, rfl, hh, hb7⟩
  replace hG := hG.below hb7
  replace ha := ha.below hb7
  replace qp0 := cbl hb7 qp0
  replace qp1 := cbl hb7 qp1
  replace ho := ho.below hb7
  replace HBT := Below.cons HBT hb7
  clear hb7
  clear ho
  clear qp0
  clear qp1
  have hb8 : Below (W7).heap.size (W7) ((W7).alloc (.cells #[.int .u32 1] 72)) := (Below.refl _ _).alloc (Nat.le_refl _) _
  have ho2 := nlit (l := [1]) _ _ _ (heap_alloc_new (W7) (.cells #[.int .u32 1] 72)) rfl (by decide) (by decide) (by decide)
  obtain ⟨o2, Eo2⟩ : ∃ zq : Nat, zq = val [1] := ⟨_, rfl⟩
  rw [← Eo2] at ho2
  have No2 : nl o2 = 1 := by rw [Eo2]; exact nl_lit (by decide) (by decide)
  have Vo2 : o2 = 1 := by rw [Eo2]; decide
  have Bo2 : nl o2 ≤ 1 := Nat.le_of_eq No2
  replace No2 := Lib.hid No2
  replace Eo2 := Lib.hid Eo2
  replace Vo2 := Lib.hid Vo2
  replace hG := hG.below hb8
  replace ha := ha.below hb8
  replace hh := hh.below hb8
  replace HBT := Below.cons HBT hb8
  clear hb8
  go_wp2_with (fail)
  obtain ⟨p, Ep⟩ : ∃ zq : Nat, zq = h - o2 := ⟨_, rfl⟩
  have CT9 := (at_lenR No2.out (rsub_c X7 c7 h _ _ o2 _ hh ho2 (by omega) (by omega) (by rw [Eh.out, Vo.out, Vo2.out]; decide)))
  rw [← Ep] at CT9
  replace Ep := Lib.hid Ep
  refine (Calls.mono CT9 ?_)
  clear CT9
  rintro e W9 ⟨Xp, cp, rfl, hp, hb9⟩
  replace hG := hG.below hb9
  replace ha := ha.below hb9
  replace hh := hh.below hb9
  replace ho2 := ho2.below hb9
  replace HBT := Below.cons HBT hb9
  clear hb9
  clear hh
  clear ho2
  have Vp : p = 2305843009213693951 := by rw [Ep.out, Eh.out, Vo.out, Vo2.out]
  have Bp : nl p ≤ 4 := by rw [Vp]; exact nl_le.2 (by decide)
  have Fp : FP p := by rw [Vp]; exact fer_2305843009213693951
  have hp1 : 0 < p := by have := Fp.1.1; omega
  have hp2 : 2 ≤ p := Fp.1.1
  replace Vp := Lib.hid Vp
  replace Fp := Lib.hid Fp
  go_wp2_with (fail)
  have CP := (powmod_c X2 c2 a Xp cp p Xp cp p _ ha hp hp hG (by omega) (by omega) (by omega) hp1)
  obtain ⟨pf, Epf⟩ : ∃ z : Nat, z = a ^ p % p := ⟨_, rfl⟩
  have Bpf : nl pf ≤ 4 := by rw [Epf]; exact Nat.le_trans (nl_mono (Nat.le_of_lt (Nat.mod_lt _ hp1))) Bp
  rw [← Epf] at CP
  replace CP := Lib.hid CP
  replace Epf := Lib.hid Epf
  refine (Calls.mono CP.out ?_)
  rintro e W10 ⟨Xpf, cpf, rfl, hpf, hb10⟩
  clear CP
  replace hG := hG.below hb10
  replace ha := ha.below hb10
  replace hp := hp.below hb10
  replace HBT := Below.cons HBT hb10
  clear hb10
  go_wp2_with (fail)
  obtain ⟨d, Ed⟩ : ∃ zq : Nat, zq = a / p := ⟨_, rfl⟩
  have Bd : nl d ≤ 8 := by rw [Ed]; have := nl_div a p; omega
  obtain ⟨r, Er⟩ : ∃ zq : Nat, zq = a % p := ⟨_, rfl⟩
  have Br : nl r ≤ 8 := by rw [Er]; have := nl_mod_le a p; omega
  have CT11 := (rdiv_c X2 c2 a Xp cp p _ ha hp (by omega) (by omega) hp1)
  rw [← Ed, ← Er] at CT11
  replace Ed := Lib.hid Ed
  replace Er := Lib.hid Er
  refine (Calls.mono CT11 ?_)
  clear CT11
  rintro e W11 ⟨Xd, cd, Xr, cr, rfl, hd, hr, hb11⟩
  replace hG := hG.below hb11
  replace ha := ha.below hb11
  replace hp := hp.below hb11
  replace hpf := hpf.below hb11
  replace HBT := Below.cons HBT hb11
  clear hb11
  go_wp2_with (fail)
  clear hd
  refine (Calls.mono (same1_t Xpf cpf pf Xr cr r _ hpf hr (by omega) (by omega) (by rw [Epf.out, Er.out]; exact fer_pow Fp.out)) ?_)
  rintro e W12 ⟨rfl, hb12⟩
  replace hG := hG.below hb12
  replace ha := ha.below hb12
  replace hp := hp.below hb12
  replace hpf := hpf.below hb12
  replace hr := hr.below hb12
  replace HBT := Below.cons HBT hb12
  clear hb12
  clear hpf
  by_cases hr0 : r = 0
  · skip
    have t1 : ((nl r : Int) == 0) = true := ieqT (by rw [hr0, nl_zero]; rfl)
    have t1' : (nl r == 0) = true := by rw [hr0, nl_zero]; rfl
    replace hr0 := Lib.hid hr0
    go_wp2_with (fail)
    go_ret
    exact ⟨rfl, HBT⟩
  · have hra : a % p ≠ 0 := by rw [← Er.out]; exact hr0
    have t1 : ((nl r : Int) == 0) = false := ieqF (by have := nl_pos.2 (show r ≠ 0 by exact hr0); omega)
    have t1' : (nl r == 0) = false := by have := nl_pos.2 (show r ≠ 0 by exact hr0); simp; omega
    replace hr0 := Lib.hid hr0
    replace hra := Lib.hid hra
    clear hr
    have hb13 : Below (W12).heap.size (W12) ((W12).alloc (.cells #[.int .u32 2] 72)) := (Below.refl _ _).alloc (Nat.le_refl _) _
    have htw := nlit (l := [2]) _ _ _ (heap_alloc_new (W12) (.cells #[.int .u32 2] 72)) rfl (by decide) (by decide) (by decide)
    obtain ⟨tw, Etw⟩ : ∃ zq : Nat, zq = val [2] := ⟨_, rfl⟩
    rw [← Etw] at htw
    have Ntw : nl tw = 1 := by rw [Etw]; exact nl_lit (by decide) (by decide)
    have Vtw : tw = 2 := by rw [Etw]; decide
    have Btw : nl tw ≤ 1 := Nat.le_of_eq Ntw
    replace Ntw := Lib.hid Ntw
    replace Etw := Lib.hid Etw
    replace Vtw := Lib.hid Vtw
    replace hG := hG.below hb13
    replace ha := ha.below hb13
    replace hp := hp.below hb13
    replace HBT := Below.cons HBT hb13
    clear hb13
    go_wp2_with (fail)
    obtain ⟨k, Ek⟩ : ∃ zq : Nat, zq = p - tw := ⟨_, rfl⟩
    have CT14 := (at_lenR Ntw.out (rsub_c Xp cp p _ _ tw _ hp htw (by omega) (by omega) (by rw [Vtw.out]; exact hp2)))
    rw [← Ek] at CT14
    replace Ek := Lib.hid Ek
    refine (Calls.mono CT14 ?_)
    clear CT14
    rintro e W14 ⟨Xk, ck, rfl, hk, hb14⟩
    replace hG := hG.below hb14
    replace ha := ha.below hb14
    replace hp := hp.below hb14
    replace htw := htw.below hb14
    replace HBT := Below.cons HBT hb14
    clear hb14
    clear htw
    have Bk : nl k ≤ 4 := by rw [Ek.out]; exact Nat.le_trans (nl_mono (Nat.sub_le _ _)) Bp
    go_wp2_with (fail)
    have CI := (inverse_c X2 c2 a Xp cp p _ ha hp hG (by omega) (by omega) (hp1) (fer_gcd Fp.out hra.out))
    obtain ⟨v, Ev⟩ : ∃ z : Nat, z = inv a p := ⟨_, rfl⟩
    have Bv : nl v ≤ 8 := by rw [Ev]; exact inv_sz (by omega) (hp1)
    rw [← Ev] at CI
    replace CI := Lib.hid CI
    replace Ev := Lib.hid Ev
    refine (Calls.mono CI.out ?_)
    rintro e W15 ⟨Xv, cv, rfl, hv, hb15⟩
    clear CI
    replace hG := hG.below hb15
    replace ha := ha.below hb15
    replace hp := hp.below hb15
    replace hk := hk.below hb15
    replace HBT := Below.cons HBT hb15
    clear hb15
    go_wp2_with (fail)
    have CP := (powmod_c X2 c2 a Xk ck k Xp cp p _ ha hk hp hG (by omega) (by omega) (by omega) hp1)
    obtain ⟨u, Eu⟩ : ∃ z : Nat, z = a ^ k % p := ⟨_, rfl⟩
    have Bu : nl u ≤ 4 := by rw [Eu]; exact Nat.le_trans (nl_mono (Nat.le_of_lt (Nat.mod_lt _ hp1))) Bp
    rw [← Eu] at CP
    replace CP := Lib.hid CP
    replace Eu := Lib.hid Eu
    refine (Calls.mono CP.out ?_)
    rintro e W16 ⟨Xu, cu, rfl, hu, hb16⟩
    clear CP
    replace hG := hG.below hb16
    replace ha := ha.below hb16
    replace hp := hp.below hb16
    replace hk := hk.below hb16
    replace hv := hv.below hb16
    replace HBT := Below.cons HBT hb16
    clear hb16
    go_wp2_with (fail)
    refine (Calls.mono (same1_t Xv cv v Xu cu u _ hv hu (by omega) (by omega) (by rw [Ev.out, Eu.out, Ek.out, Vtw.out]; exact fer_inv Fp.out hra.out)) ?_)
    rintro e W17 ⟨rfl, hb17⟩
    replace hG := hG.below hb17
    replace ha := ha.below hb17
    replace hp := hp.below hb17
    replace hk := hk.below hb17
    replace hv := hv.below hb17
    replace hu := hu.below hb17
    replace HBT := Below.cons HBT hb17
    clear hb17
    go_wp2_with (fail)
    go_ret
    exact ⟨rfl, HBT⟩

theorem gcdFermat4_c (A : Option Addr) (c : Nat) (l : List Nat) (n : Nat) (w : World) (hG : Flds w) (hl : Rd w A l) (Ll : Lim l) (Ql : l.length ≤ maxLen) (Cl : l.length ≤ c) (Zl : A = none → c = 0) (hn : n < 256) (hi : n % 6 = 4) :
    Calls Tryz.prog 11 #[.slice A l.length c, .int .u8 (n : Nat)] w fun e w' => e = .returned (.bool true) ∧ Below w.heap.size w w' := by
  replace Zl := Lib.hid Zl
  have Jn : (n : Int).tmod 6 = 4 := by rw [Int.tmod_eq_emod_of_nonneg (by omega)]; omega
  replace hi := Lib.hid hi
  have hu := Tryz.underlying77
  go_enter Tryz.func11, Tryz.ntmps11
  go_wp2_with (fail)
  refine (Calls.mono (ghead_c _ hG) ?_)
  rintro e W1 ⟨rfl, hb1⟩
  replace hG := hG.below hb1
  replace hl := hl.below hb1
  have HBT := hb1
  clear hb1
  go_wp2_with (fail)
  obtain ⟨a, Ea⟩ : ∃ zq : Nat, zq = val (l.take 8) := ⟨_, rfl⟩
  have Ba : nl a ≤ 8 := by rw [Ea]; exact made_nl l Ll 8
  refine (Calls.mono (R := RetN W1 a) (by rw [Ea]; exact (made_n_c A c 8 l _ hl Ll Ql Cl Zl.out (by decide))) ?_)
  replace Ea := Lib.hid Ea
  rintro e W2 ⟨X2, c2, rfl, ha, hb2⟩
  replace hG := hG.below hb2
  replace hl := hl.below hb2
  replace HBT := Below.cons HBT hb2
  clear hb2
  clear hl
  obtain ⟨hb3, Rps, Rpr⟩ := bx2 W2 #[.int .u32 1, .int .u32 2, .int .u32 16, .int .u32 65537, .int .u32 31, .int .u32 0, .int .u32 61, .int .u32 0, .int .u32 89, .int .u32 0, .int .u32 127, .int .u32 0] 77 #[.int .u32 89, .int .u32 0] 77
  replace hG := hG.below hb3
  replace ha := ha.below hb3
  replace HBT := Below.cons HBT hb3
  clear hb3
  clear Rps
  have qp0 := Rpr.c (i := 0) rfl
  have qp1 := Rpr.c (i := 1) rfl
  clear Rpr
  have hb4 : Below (((W2.alloc (.cells #[.int .u32 1, .int .u32 2, .int .u32 16, .int .u32 65537, .int .u32 31, .int .u32 0, .int .u32 61, .int .u32 0, .int .u32 89, .int .u32 0, .int .u32 127, .int .u32 0] 77)).alloc (.cells #[.int .u32 89, .int .u32 0] 77))).heap.size (((W2.alloc (.cells #[.int .u32 1, .int .u32 2, .int .u32 16, .int .u32 65537, .int .u32 31, .int .u32 0, .int .u32 61, .int .u32 0, .int .u32 89, .int .u32 0, .int .u32 127, .int .u32 0] 77)).alloc (.cells #[.int .u32 89, .int .u32 0] 77))) ((((W2.alloc (.cells #[.int .u32 1, .int .u32 2, .int .u32 16, .int .u32 65537, .int .u32 31, .int .u32 0, .int .u32 61, .int .u32 0, .int .u32 89, .int .u32 0, .int .u32 127, .int .u32 0] 77)).alloc (.cells #[.int .u32 89, .int .u32 0] 77))).alloc (.cells #[.int .u32 0] 72)) := (Below.refl _ _).alloc (Nat.le_refl _) _
  have CM := rmake1_c _ _ 0 (heap_alloc_new (((W2.alloc (.cells #[.int .u32 1, .int .u32 2, .int .u32 16, .int .u32 65537, .int .u32 31, .int .u32 0, .int .u32 61, .int .u32 0, .int .u32 89, .int .u32 0, .int .u32 127, .int .u32 0] 77)).alloc (.cells #[.int .u32 89, .int .u32 0] 77))) (.cells #[.int .u32 0] 72)) (by decide)
  simp only [alloc_sz] at CM
  replace CM := Lib.hid CM
  replace hG := hG.below hb4
  replace ha := ha.below hb4
  replace qp0 := cbl hb4 qp0
  replace qp1 := cbl hb4 qp1
  replace HBT := Below.cons HBT hb4
  clear hb4
  go_wp2_with (fail)
  obtain ⟨z0, Ez0⟩ : ∃ z : Nat, z = 0 := ⟨_, rfl⟩
  refine (Calls.mono (R := RetN _ z0) (by rw [Ez0]; exact CM.out) ?_)
  clear CM
  replace Ez0 := Lib.hid Ez0
  rintro e W5 ⟨Xz0, cz0, rfl, hz0, hb5⟩
  replace hG := hG.below hb5
  replace ha := ha.below hb5
  replace qp0 := cbl hb5 qp0
  replace qp1 := cbl hb5 qp1
  replace HBT := Below.cons HBT hb5
  clear hb5
  have qo0 := qp0
  have qo1 := qp1
  have hb6 : Below (W5).heap.size (W5) ((W5).alloc (.cells #[.int .u32 1] 72)) := (Below.refl _ _).alloc (Nat.le_refl _) _
  have ho := nlit (l := [1]) _ _ _ (heap_alloc_new (W5) (.cells #[.int .u32 1] 72)) rfl (by decide) (by decide) (by decide)
  obtain ⟨o, Eo⟩ : ∃ zq : Nat, zq = val [1] := ⟨_, rfl⟩
  rw [← Eo] at ho
  have No : nl o = 1 := by rw [Eo]; exact nl_lit (by decide) (by decide)
  have Vo : o = 1 := by rw [Eo]; decide
  have Bo : nl o ≤ 1 := Nat.le_of_eq No
  replace No := Lib.hid No
  replace Eo := Lib.hid Eo
  replace Vo := Lib.hid Vo
  replace hG := hG.below hb6
  replace ha := ha.below hb6
  replace qp0 := cbl hb6 qp0
  replace qp1 := cbl hb6 qp1
  replace HBT := Below.cons HBT hb6
  clear hb6
  go_wp2_with (fail)
  clear qo0 qo1
  obtain ⟨h, Eh⟩ : ∃ zq : Nat, zq = o * 2 ^ 89 := ⟨_, rfl⟩
  have Bh : nl h ≤ 4 := by rw [Eh]; have := nl_shl o 89; omega
  refine (Calls.mono (R := RetN ((W5).alloc (.cells #[.int .u32 1] 72)) h) (by rw [Eh]; exact (at_len1 No.out (rshl_c _ _ o (89) _ ho (by omega) (by omega)))) ?_)
  replace Eh := Lib.hid Eh
  rintro e W7 ⟨X7, c7, rfl, hh, hb7⟩
  replace hG := hG.below hb7
  replace ha := ha.below hb7
  replace qp0 := cbl hb7 qp0
  replace qp1 := cbl hb7 qp1
  replace ho := ho.below hb7
  replace HBT := Below.cons HBT hb7
  clear hb7
  clear ho
  clear qp0
  clear qp1
  have hb8 : Below (W7).heap.size (W7) ((W7).alloc (.cells #[.int .u32 1] 72)) := (Below.refl _ _).alloc (Nat.le_refl _) _
  have ho2 := nlit (l := [1]) _ _ _ (heap_alloc_new (W7) (.cells #[.int .u32 1] 72)) rfl (by decide) (by decide) (by decide)
  obtain ⟨o2, Eo2⟩ : ∃ zq : Nat, zq = val [1] := ⟨_, rfl⟩
  rw [← Eo2] at ho2
  have No2 : nl o2 = 1 := by rw [Eo2]; exact nl_lit (by decide) (by decide)
  have Vo2 : o2 = 1 := by rw [Eo2]; decide
  have Bo2 : nl o2 ≤ 1 := Nat.le_of_eq No2
  replace No2 := Lib.hid No2
  replace Eo2 := Lib.hid Eo2
  replace Vo2 := Lib.hid Vo2
  replace hG := hG.below hb8
  replace ha := ha.below hb8
  replace hh := hh.below hb8
  replace HBT := Below.cons HBT hb8
  clear hb8
  go_wp2_with (fail)
  obtain ⟨p, Ep⟩ : ∃ zq : Nat, zq = h - o2 := ⟨_, rfl⟩
  have CT9 := (at_lenR No2.out (rsub_c X7 c7 h _ _ o2 _ hh ho2 (by omega) (by omega) (by rw [Eh.out, Vo.out, Vo2.out]; decide)))
  rw [← Ep] at CT9
  replace Ep := Lib.hid Ep
  refine (Calls.mono CT9 ?_)
  clear CT9
  rintro e W9 ⟨Xp, cp, rfl, hp, hb9⟩
  replace hG := hG.below hb9
  replace ha := ha.below hb9
  replace hh := hh.below hb9
  replace ho2 := ho2.below hb9
  replace HBT := Below.cons HBT hb9
  clear hb9
  clear hh
  clear ho2
  have Vp : p = 618970019642690137449562111 := by rw [Ep.out, Eh.out, Vo.out, Vo2.out]
  have Bp : nl p ≤ 4 := by rw [Vp]; exact nl_le.2 (by decide)
  have Fp : FP p := by rw [Vp]; exact fer_618970019642690137449562111
  have hp1 : 0 < p := by have := Fp.1.1; omega
  have hp2 : 2 ≤ p := Fp.1.1
  replace Vp := Lib.hid Vp
  replace Fp := Lib.hid Fp
  go_wp2_with (fail)
  have CP := (powmod_c X2 c2 a Xp cp p Xp cp p _ ha hp hp hG (by omega) (by omega) (by omega) hp1)
  obtain ⟨pf, Epf⟩ : ∃ z : Nat, z = a ^ p % p := ⟨_, rfl⟩
  have Bpf : nl pf ≤ 4 := by rw [Epf]; exact Nat.le_trans (nl_mono (Nat.le_of_lt (Nat.mod_lt _ hp1))) Bp
  rw [← Epf] at CP
  replace CP := Lib.hid CP
  replace Epf := Lib.hid Epf
  refine (Calls.mono CP.out ?_)
  rintro e W10 ⟨Xpf, cpf, rfl, hpf, hb10⟩
  clear CP
  replace hG := hG.below hb10
  replace ha := ha.below hb10
  replace hp := hp.below hb10
  replace HBT := Below.cons HBT hb10
  clear hb10
  go_wp2_with (fail)
  obtain ⟨d, Ed⟩ : ∃ zq : Nat, zq = a / p := ⟨_, rfl⟩
  have Bd : nl d ≤ 8 := by rw [Ed]; have := nl_div a p; omega
  obtain ⟨r, Er⟩ : ∃ zq : Nat, zq = a % p := ⟨_, rfl⟩
  have Br : nl r ≤ 8 := by rw [Er]; have := nl_mod_le a p; omega
  have CT11 := (rdiv_c X2 c2 a Xp cp p _ ha hp (by omega) (by omega) hp1)
  rw [← Ed, ← Er] at CT11
  replace Ed := Lib.hid Ed
  replace Er := Lib.hid Er
  refine (Calls.mono CT11 ?_)
  clear CT11
  rintro e W11 ⟨Xd, cd, Xr, cr, rfl, hd, hr, hb11⟩
  replace hG := hG.below hb11
  replace ha := ha.below hb11
  replace hp := hp.below hb11
  replace hpf := hpf.below hb11
  replace HBT := Below.cons HBT hb11
  clear hb11
  go_wp2_with (fail)
  clear hd
  refine (Calls.mono (same1_t Xpf cpf pf Xr cr r _ hpf hr (by omega) (by omega) (by rw [Epf.out, Er.out]; exact fer_pow Fp.out)) ?_)
  rintro e W12 ⟨rfl, hb12⟩
  replace hG := hG.below hb12
  replace ha := ha.below hb12
  replace hp := hp.below hb12
  replace hpf := hpf.below hb12
  replace hr := hr.below hb12
  replace HBT := Below.cons HBT hb12
  clear hb12
  clear hpf
  by_cases hr0 : r = 0
  · skip
    have t1 : ((nl r : Int) == 0) = true := ieqT (by rw [hr0, nl_zero]; rfl)
    have t1' : (nl r == 0) = true := by rw [hr0, nl_zero]; rfl
    replace hr0 := Lib.hid hr0
    go_wp2_with (fail)
    go_ret
    exact ⟨rfl, HBT⟩
  · have hra : a % p ≠ 0 := by rw [← Er.out]; exact hr0
    have t1 : ((nl r : Int) == 0) = false := ieqF (by have := nl_pos.2 (show r ≠ 0 by exact hr0); omega)
    have t1' : (nl r == 0) = false := by have := nl_pos.2 (show r ≠ 0 by exact hr0); simp; omega
    replace hr0 := Lib.hid hr0
    replace hra := Lib.hid hra
    clear hr
    have hb13 : Below (W12).heap.size (W12) ((W12).alloc (.cells #[.int .u32 2] 72)) := (Below.refl _ _).alloc (Nat.le_refl _) _
    have htw := nlit (l := [2]) _ _ _ (heap_alloc_new (W12) (.cells #[.int .u32 2] 72)) rfl (by decide) (by decide) (by decide)
    obtain ⟨tw, Etw⟩ : ∃ zq : Nat, zq = val [2] := ⟨_, rfl⟩
    rw [← Etw] at htw
    have Ntw : nl tw = 1 := by rw [Etw]; exact nl_lit (by decide) (by decide)
    have Vtw : tw = 2 := by rw [Etw]; decide
    have Btw : nl tw ≤ 1 := Nat.le_of_eq Ntw
    replace Ntw := Lib.hid Ntw
    replace Etw := Lib.hid Etw
    replace Vtw := Lib.hid Vtw
    replace hG := hG.below hb13
    replace ha := ha.below hb13
    replace hp := hp.below hb13
    replace HBT := Below.cons HBT hb13
    clear hb13
    go_wp2_with (fail)
    obtain ⟨k, Ek⟩ : ∃ zq : Nat, zq = p - tw := ⟨_, rfl⟩
    have CT14 := (at_lenR Ntw.out (rsub_c Xp cp p _ _ tw _ hp htw (by omega) (by omega) (by rw [Vtw.out]; exact hp2)))
    rw [← Ek] at CT14
    replace Ek := Lib.hid Ek
    refine (Calls.mono CT14 ?_)
    clear CT14
    rintro e W14 ⟨Xk, ck, rfl, hk, hb14⟩
    replace hG := hG.below hb14
    replace ha := ha.below hb14
    replace hp := hp.below hb14
    replace htw := htw.below hb14
    replace HBT := Below.cons HBT hb14
    clear hb14
    clear htw
    have Bk : nl k ≤ 4 := by rw [Ek.out]; exact Nat.le_trans (nl_mono (Nat.sub_le _ _)) Bp
    go_wp2_with (fail)
    have CI := (inverse_c X2 c2 a Xp cp p _ ha hp hG (by omega) (by omega) (hp1) (fer_gcd Fp.out hra.out))
    obtain ⟨v, Ev⟩ : ∃ z : Nat, z = inv a p := ⟨_, rfl⟩
    have Bv : nl v ≤ 8 := by rw [Ev]; exact inv_sz (by omega) (hp1)
    rw [← Ev] at CI
    replace CI := Lib.hid CI
    replace Ev := Lib.hid Ev
    refine (Calls.mono CI.out ?_)
    rintro e W15 ⟨Xv, cv, rfl, hv, hb15⟩
    clear CI
    replace hG := hG.below hb15
    replace ha := ha.below hb15
    replace hp := hp.below hb15
    replace hk := hk.below hb15
    replace HBT := Below.cons HBT hb15
    clear hb15
    go_wp2_with (fail)
    have CP := (powmod_c X2 c2 a Xk ck k Xp cp p _ ha hk hp hG (by omega) (by omega) (by omega) hp1)
    obtain ⟨u, Eu⟩ : ∃ z : Nat, z = a ^ k % p := ⟨_, rfl⟩
    have Bu : nl u ≤ 4 := by rw [Eu]; exact Nat.le_trans (nl_mono (Nat.le_of_lt (Nat.mod_lt _ hp1))) Bp
    rw [← Eu] at CP
    replace CP := Lib.hid CP
    replace Eu := Lib.hid Eu
    refine (Calls.mono CP.out ?_)
    rintro e W16 ⟨Xu, cu, rfl, hu, hb16⟩
    clear CP
    replace hG := hG.below hb16
    replace ha := ha.below hb16
    replace hp := hp.below hb16
    replace hk := hk.below hb16
    replace hv := hv.below hb16
    replace HBT := Below.cons HBT hb16
    clear hb16
    go_wp2_with (fail)
    refine (Calls.mono (same1_t Xv cv v Xu cu u _ hv hu (by omega) (by omega) (by rw [Ev.out, Eu.out, Ek.out, Vtw.out]; exact fer_inv Fp.out hra.out)) ?_)
    rintro e W17 ⟨rfl, hb17⟩
    replace hG := hG.below hb17
    replace ha := ha.below hb17
    replace hp := hp.below hb17
    replace hk := hk.below hb17
    replace hv := hv.below hb17
    replace hu := hu.below hb17
    replace HBT := Below.cons HBT hb17
    clear hb17
    go_wp2_with (fail)
    go_ret
    exact ⟨rfl, HBT⟩

theorem gcdFermat5_c (A : Option Addr) (c : Nat) (l : List Nat) (n : Nat) (w : World) (hG : Flds w) (hl : Rd w A l) (Ll : Lim l) (Ql : l.length ≤ maxLen) (Cl : l.length ≤ c) (Zl : A = none → c = 0) (hn : n < 256) (hi : n % 6 = 5) :
    Calls Tryz.prog 11 #[.slice A l.length c, .int .u8 (n : Nat)] w fun e w' => e = .returned (.bool true) ∧ Below w.heap.size w w' := by
  replace Zl := Lib.hid Zl
  have Jn : (n : Int).tmod 6 = 5 := by rw [Int.tmod_eq_emod_of_nonneg (by omega)]; omega
  replace hi := Lib.hid hi
  have hu := Tryz.underlying77
  go_enter Tryz.func11, Tryz.ntmps11
  go_wp2_with (fail)
  refine (Calls.mono (ghead_c _ hG) ?_)
  rintro e W1 ⟨rfl, hb1⟩
  replace hG := hG.below hb1
  replace hl := hl.below hb1
  have HBT := hb1
  clear hb1
  go_wp2_with (fail)
  obtain ⟨a, Ea⟩ : ∃ zq : Nat, zq = val (l.take 8) := ⟨_, rfl⟩
  have Ba : nl a ≤ 8 := by rw [Ea]; exact made_nl l Ll 8
  refine (Calls.mono (R := RetN W1 a) (by rw [Ea]; exact (made_n_c A c 8 l _ hl Ll Ql Cl Zl.out (by decide))) ?_)
  replace Ea := Lib.hid Ea
  rintro e W2 ⟨X2, c2, rfl, ha, hb2⟩
  replace hG := hG.below hb2
  replace hl := hl.below hb2
  replace HBT := Below.cons HBT hb2
  clear hb2
  clear hl
  obtain ⟨hb3, Rps, Rpr⟩ := bx2 W2 #[.int .u32 1, .int .u32 2, .int .u32 16, .int .u32 65537, .int .u32 31, .int .u32 0, .int .u32 61, .int .u32 0, .int .u32 89, .int .u32 0, .int .u32 127, .int .u32 0] 77 #[.int .u32 127, .int .u32 0] 77
  replace hG := hG.below hb3
  replace ha := ha.below hb3
  replace HBT := Below.cons HBT hb3
  clear hb3
  clear Rps
  have qp0 := Rpr.c (i := 0) rfl
  have qp1 := Rpr.c (i := 1) rfl
  clear Rpr
  have hb4 : Below (((W2.alloc (.cells #[.int .u32 1, .int .u32 2, .int .u32 16, .int .u32 65537, .int .u32 31, .int .u32 0, .int .u32 61, .int .u32 0, .int .u32 89, .int .u32 0, .int .u32 127, .int .u32 0] 77)).alloc (.cells #[.int .u32 127, .int .u32 0] 77))).heap.size (((W2.alloc (.cells #[.int .u32 1, .int .u32 2, .int .u32 16, .int .u32 65537, .int .u32 31, .int .u32 0, .int .u32 61, .int .u32 0, .int .u32 89, .int .u32 0, .int .u32 127, .int .u32 0] 77)).alloc (.cells #[.int .u32 127, .int .u32 0] 77))) ((((W2.alloc (.cells #[.int .u32 1, .int .u32 2, .int .u32 16, .int .u32 65537, .int .u32 31, .int .u32 0, .int .u32 61, .int .u32 0, .int .u32 89, .int .u32 0, .int .u32 127, .int .u32 0] 77)).alloc (.cells #[.int .u32 127, .int .u32 0] 77))).alloc (.cells #[.int .u32 0] 72)) := (Below.refl _ _).alloc (Nat.le_refl _) _
  have CM := rmake1_c _ _ 0 (heap_alloc_new (((W2.alloc (.cells #[.int .u32 1, .int .u32 2, .int .u32 16, .int .u32 65537, .int .u32 31, .int .u32 0, .int .u32 61, .int .u32 0, .int .u32 89, .int .u32 0, .int .u32 127, .int .u32 0] 77)).alloc (.cells #[.int .u32 127, .int .u32 0] 77))) (.cells #[.int .u32 0] 72)) (by decide)
  simp only [alloc_sz] at CM
  replace CM := Lib.hid CM
  replace hG := hG.below hb4
  replace ha := ha.below hb4
  replace qp0 := cbl hb4 qp0
  replace qp1 := cbl hb4 qp1
  replace HBT := Below.cons HBT hb4
  clear hb4
  go_wp2_with (fail)
  obtain ⟨z0, Ez0⟩ : ∃ z : Nat, z = 0 := ⟨_, rfl⟩
  refine (Calls.mono (R := RetN _ z0) (by rw [Ez0]; exact CM.out) ?_)
  clear CM
  replace Ez0 := Lib.hid Ez0
  rintro e W5 ⟨Xz0, cz0, rfl, hz0, hb5⟩
  replace hG := hG.below hb5
  replace ha := ha.below hb5
  replace qp0 := cbl hb5 qp0
  replace qp1 := cbl hb5 qp1
  replace HBT := Below.cons HBT hb5
  clear hb5
  have qo0 := qp0
  have qo1 := qp1
  have hb6 : Below (W5).heap.size (W5) ((W5).alloc (.cells #[.int .u32 1] 72)) := (Below.refl _ _).alloc (Nat.le_refl _) _
  have ho := nlit (l := [1]) _ _ _ (heap_alloc_new (W5) (.cells #[.int .u32 1] 72)) rfl (by decide) (by decide) (by decide)
  obtain ⟨o, Eo⟩ : ∃ zq : Nat, zq = val [1] := ⟨_, rfl⟩
  rw [← Eo] at ho
  have No : nl o = 1 := by rw [Eo]; exact nl_lit (by decide) (by decide)
  have Vo : o = 1 := by rw [Eo]; decide
  have Bo : nl o ≤ 1 := Nat.le_of_eq No
  replace No := Lib.hid No
  replace Eo := Lib.hid Eo
  replace Vo := Lib.hid Vo
  replace hG := hG.below hb6
  replace ha := ha.below hb6
  replace qp0 := cbl hb6 qp0
  replace qp1 := cbl hb6 qp1
  replace HBT := Below.cons HBT hb6
  clear hb6
  go_wp2_with (fail)
  clear qo0 qo1
  obtain ⟨h, Eh⟩ : ∃ zq : Nat, zq = o * 2 ^ 127 := ⟨_, rfl⟩
  have Bh : nl h ≤ 5 := by rw [Eh]; have := nl_shl o 127; omega
  refine (Calls.mono (R := RetN ((W5).alloc (.cells #[.int .u32 1] 72)) h) (by rw [Eh]; exact (at_len1 No.out (rshl_c _ _ o (127) _ ho (by omega) (by omega)))) ?_)
  replace Eh := Lib.hid Eh
  rintro e W7 ⟨X7, c7, rfl, hh, hb7⟩
  replace hG := hG.below hb7
  replace ha := ha.below hb7
  replace qp0 := cbl hb7 qp0
  replace qp1 := cbl hb7 qp1
  replace ho := ho.below hb7
  replace HBT := Below.cons HBT hb7
  clear hb7
  clear ho
  clear qp0
  clear qp1
  have hb8 : Below (W7).heap.size (W7) ((W7).alloc (.cells #[.int .u32 1] 72)) := (Below.refl _ _).alloc (Nat.le_refl _) _
  have ho2 := nlit (l := [1]) _ _ _ (heap_alloc_new (W7) (.cells #[.int .u32 1] 72)) rfl (by decide) (by decide) (by decide)
  obtain ⟨o2, Eo2⟩ : ∃ zq : Nat, zq = val [1] := ⟨_, rfl⟩
  rw [← Eo2] at ho2
  have No2 : nl o2 = 1 := by rw [Eo2]; exact nl_lit (by decide) (by decide)
  have Vo2 : o2 = 1 := by rw [Eo2]; decide
  have Bo2 : nl o2 ≤ 1 := Nat.le_of_eq No2
  replace No2 := Lib.hid No2
  replace Eo2 := Lib.hid Eo2
  replace Vo2 := Lib.hid Vo2
  replace hG := hG.below hb8
  replace ha := ha.below hb8
  replace hh := hh.below hb8
  replace HBT := Below.cons HBT hb8
  clear hb8
  go_wp2_with (fail)
  obtain ⟨p, Ep⟩ : ∃ zq : Nat, zq = h - o2 := ⟨_, rfl⟩
  have CT9 := (at_lenR No2.out (rsub_c X7 c7 h _ _ o2 _ hh ho2 (by omega) (by omega) (by rw [Eh.out, Vo.out, Vo2.out]; decide)))
  rw [← Ep] at CT9
  replace Ep := Lib.hid Ep
  refine (Calls.mono CT9 ?_)
  clear CT9
  rintro e W9 ⟨Xp, cp, rfl, hp, hb9⟩
  replace hG := hG.below hb9
  replace ha := ha.below hb9
  replace hh := hh.below hb9
  replace ho2 := ho2.below hb9
  replace HBT := Below.cons HBT hb9
  clear hb9
  clear hh
  clear ho2
  have Vp : p = 170141183460469231731687303715884105727 := by rw [Ep.out, Eh.out, Vo.out, Vo2.out]
  have Bp : nl p ≤ 4 := by rw [Vp]; exact nl_le.2 (by decide)
  have Fp : FP p := by rw [Vp]; exact fer_170141183460469231731687303715884105727
  have hp1 : 0 < p := by have := Fp.1.1; omega
  have hp2 : 2 ≤ p := Fp.1.1
  replace Vp := Lib.hid Vp
  replace Fp := Lib.hid Fp
  go_wp2_with (fail)
  have CP := (powmod_c X2 c2 a Xp cp p Xp cp p _ ha hp hp hG (by omega) (by omega) (by omega) hp1)
  obtain ⟨pf, Epf⟩ : ∃ z : Nat, z = a ^ p % p := ⟨_, rfl⟩
  have Bpf : nl pf ≤ 4 := by rw [Epf]; exact Nat.le_trans (nl_mono (Nat.le_of_lt (Nat.mod_lt _ hp1))) Bp
  rw [← Epf] at CP
  replace CP := Lib.hid CP
  replace Epf := Lib.hid Epf
  refine (Calls.mono CP.out ?_)
  rintro e W10 ⟨Xpf, cpf, rfl, hpf, hb10⟩
  clear CP
  replace hG := hG.below hb10
  replace ha := ha.below hb10
  replace hp := hp.below hb10
  replace HBT := Below.cons HBT hb10
  clear hb10
  go_wp2_with (fail)
  obtain ⟨d, Ed⟩ : ∃ zq : Nat, zq = a / p := ⟨_, rfl⟩
  have Bd : nl d ≤ 8 := by rw [Ed]; have := nl_div a p; omega
  obtain ⟨r, Er⟩ : ∃ zq : Nat, zq = a % p := ⟨_, rfl⟩
  have Br : nl r ≤ 8 := by rw [Er]; have := nl_mod_le a p; omega
  have CT11 := (rdiv_c X2 c2 a Xp cp p _ ha hp (by omega) (by omega) hp1)
  rw [← Ed, ← Er] at CT11
  replace Ed := Lib.hid Ed
  replace Er := Lib.hid Er
  refine (Calls.mono CT11 ?_)
  clear CT11
  rintro e W11 ⟨Xd, cd, Xr, cr, rfl, hd, hr, hb11⟩
  replace hG := hG.below hb11
  replace ha := ha.below hb11
  replace hp := hp.below hb11
  replace hpf := hpf.below hb11
  replace HBT := Below.cons HBT hb11
  clear hb11
  go_wp2_with (fail)
  clear hd
  refine (Calls.mono (same1_t Xpf cpf pf Xr cr r _ hpf hr (by omega) (by omega) (by rw [Epf.out, Er.out]; exact fer_pow Fp.out)) ?_)
  rintro e W12 ⟨rfl, hb12⟩
  replace hG := hG.below hb12
  replace ha := ha.below hb12
  replace hp := hp.below hb12
  replace hpf := hpf.below hb12
  replace hr := hr.below hb12
  replace HBT := Below.cons HBT hb12
  clear hb12
  clear hpf
  by_cases hr0 : r = 0
  · skip
    have t1 : ((nl r : Int) == 0) = true := ieqT (by rw [hr0, nl_zero]; rfl)
    have t1' : (nl r == 0) = true := by rw [hr0, nl_zero]; rfl
    replace hr0 := Lib.hid hr0
    go_wp2_with (fail)
    go_ret
    exact ⟨rfl, HBT⟩
  · have hra : a % p ≠ 0 := by rw [← Er.out]; exact hr0
    have t1 : ((nl r : Int) == 0) = false := ieqF (by have := nl_pos.2 (show r ≠ 0 by exact hr0); omega)
    have t1' : (nl r == 0) = false := by have := nl_pos.2 (show r ≠ 0 by exact hr0); simp; omega
    replace hr0 := Lib.hid hr0
    replace hra := Lib.hid hra
    clear hr
    have hb13 : Below (W12).heap.size (W12) ((W12).alloc (.cells #[.int .u32 2] 72)) := (Below.refl _ _).alloc (Nat.le_refl _) _
    have htw := nlit (l := [2]) _ _ _ (heap_alloc_new (W12) (.cells #[.int .u32 2] 72)) rfl (by decide) (by decide) (by decide)
    obtain ⟨tw, Etw⟩ : ∃ zq : Nat, zq = val [2] := ⟨_, rfl⟩
    rw [← Etw] at htw
    have Ntw : nl tw = 1 := by rw [Etw]; exact nl_lit (by decide) (by decide)
    have Vtw : tw = 2 := by rw [Etw]; decide
    have Btw : nl tw ≤ 1 := Nat.le_of_eq Ntw
    replace Ntw := Lib.hid Ntw
    replace Etw := Lib.hid Etw
    replace Vtw := Lib.hid Vtw
    replace hG := hG.below hb13
    replace ha := ha.below hb13
    replace hp := hp.below hb13
    replace HBT := Below.cons HBT hb13
    clear hb13
    go_wp2_with (fail)
    obtain ⟨k, Ek⟩ : ∃ zq : Nat, zq = p - tw := ⟨_, rfl⟩
    have CT14 := (at_lenR Ntw.out (rsub_c Xp cp p _ _ tw _ hp htw (by omega) (by omega) (by rw [Vtw.out]; exact hp2)))
    rw [← Ek] at CT14
    replace Ek := Lib.hid Ek
    refine (Calls.mono CT14 ?_)
    clear CT14
    rintro e W14 ⟨Xk, ck, rfl, hk, hb14⟩
    replace hG := hG.below hb14
    replace ha := ha.below hb14
    replace hp := hp.below hb14
    replace htw := htw.below hb14
    replace HBT := Below.cons HBT hb14
    clear hb14
    clear htw
    have Bk : nl k ≤ 4 := by rw [Ek.out]; exact Nat.le_trans (nl_mono (Nat.sub_le _ _)) Bp
    go_wp2_with (fail)
    have CI := (inverse_c X2 c2 a Xp cp p _ ha hp hG (by omega) (by omega) (hp1) (fer_gcd Fp.out hra.out))
    obtain ⟨v, Ev⟩ : ∃ z : Nat, z = inv a p := ⟨_, rfl⟩
    have Bv : nl v ≤ 8 := by rw [Ev]; exact inv_sz (by omega) (hp1)
    rw [← Ev] at CI
    replace CI := Lib.hid CI
    replace Ev := Lib.hid Ev
    refine (Calls.mono CI.out ?_)
    rintro e W15 ⟨Xv, cv, rfl, hv, hb15⟩
    clear CI
    replace hG := hG.below hb15
    replace ha := ha.below hb15
    replace hp := hp.below hb15
    replace hk := hk.below hb15
    replace HBT := Below.cons HBT hb15
    clear hb15
    go_wp2_with (fail)
    have CP := (powmod_c X2 c2 a Xk ck k Xp cp p _ ha hk hp hG (by omega) (by omega) (by omega) hp1)
    obtain ⟨u, Eu⟩ : ∃ z : Nat, z = a ^ k % p := ⟨_, rfl⟩
    have Bu : nl u ≤ 4 := by rw [Eu]; exact Nat.le_trans (nl_mono (Nat.le_of_lt (Nat.mod_lt _ hp1))) Bp
    rw [← Eu] at CP
    replace CP := Lib.hid CP
    replace Eu := Lib.hid Eu
    refine (Calls.mono CP.out ?_)
    rintro e W16 ⟨Xu, cu, rfl, hu, hb16⟩
    clear CP
    replace hG := hG.below hb16
    replace ha := ha.below hb16
    replace hp := hp.below hb16
    replace hk := hk.below hb16
    replace hv := hv.below hb16
    replace HBT := Below.cons HBT hb16
    clear hb16
    go_wp2_with (fail)
    refine (Calls.mono (same1_t Xv cv v Xu cu u _ hv hu (by omega) (by omega) (by rw [Ev.out, Eu.out, Ek.out, Vtw.out]; exact fer_inv Fp.out hra.out)) ?_)
    rintro e W17 ⟨rfl, hb17⟩
    replace hG := hG.below hb17
    replace ha := ha.below hb17
    replace hp := hp.below hb17
    replace hk := hk.below hb17
    replace hv := hv.below hb17
    replace hu := hu.below hb17
    replace HBT := Below.cons HBT hb17
    clear hb17
    go_wp2_with (fail)
    go_ret
    exact ⟨rfl, HBT⟩

theorem gcdFermat_c (A : Option Addr) (c : Nat) (l : List Nat) (n : Nat) (w : World) (hG : Flds w) (hl : Rd w A l) (Ll : Lim l) (Ql : l.length ≤ maxLen) (Cl : l.length ≤ c) (Zl : A = none → c = 0) (hn : n < 256) :
    Calls Tryz.prog 11 #[.slice A l.length c, .int .u8 (n : Nat)] w fun e w' => e = .returned (.bool true) ∧ Below w.heap.size w w' := by
  have h : n % 6 = 0 ∨ n % 6 = 1 ∨ n % 6 = 2 ∨ n % 6 = 3 ∨ n % 6 = 4 ∨ n % 6 = 5 := by omega
  rcases h with h | h | h | h | h | h
  · exact gcdFermat0_c A c l n w hG hl Ll Ql Cl Zl hn h
  · exact gcdFermat1_c A c l n w hG hl Ll Ql Cl Zl hn h
  · exact gcdFermat2_c A c l n w hG hl Ll Ql Cl Zl hn h
  · exact gcdFermat3_c A c l n w hG hl Ll Ql Cl Zl hn h
  · exact gcdFermat4_c A c l n w hG hl Ll Ql Cl Zl hn h
  · exact gcdFermat5_c A c l n w hG hl Ll Ql Cl Zl hn h
end Go.Proofs.YtpaffggdeedopaaGreatDoor

set_option linter.unusedVariables false
set_option linter.unusedSimpArgs false
namespace Go.Proofs.YtpaffggdeedopaaGreatDoor
open Go.RowKit Go.ChangeShapes Go.WideShapes Go.ChangeAt

theorem gcdFermat_lifted (os : Os) (started : os.Started) (H : Type) (enc : TypeId × Value → H) :
    ReturnsInHanded {} Tryz.checked os 11 .any (fun w args => (Rows.gcdFermatSpec.pre enc Tryz.prog Tryz.f11 [] false w args ∧ laidMetH Tryz.prog [("ziggurat/ntt.fields", Rows.laid_ziggurat_ntt_fields)] w) ∧ sizedMet enc Tryz.prog Tryz.f11 (OpenSpec.ofChange Rows.gcdFermatSpec) false w args)
      (Rows.gcdFermatSpec.post enc Tryz.prog Tryz.f11 false true false false) := by
  refine returnsInHanded_of_change_and (C := Tryz.checked) (X := fun w _ => laidMetH Tryz.prog [("ziggurat/ntt.fields", Rows.laid_ziggurat_ntt_fields)] w) (fun _ _ _ hh h => h.of_heap hh) row_own started (by kernel_rfl) Tryz.func11
    (ChangeSpec.witness_shaped (enc := enc) (C := Tryz.checked) (os := os) (X := fun w _ => laidMetH Tryz.prog [("ziggurat/ntt.fields", Rows.laid_ziggurat_ntt_fields)] w) false (World.doorLaid Tryz.prog 400 os) #[.slice none 0 0, .int .u8 0] 8 rfl (World.shaped_of_RefB (by kernel_rfl) (by kernel_rfl)) (by kernel_rfl) (by kernel_rfl) (by kernel_rfl) (door_met os _)) ?_
  intro W base args ds gs before hval0 hW _ _ hL _
  have hval : ∀ (j : Nat) t v, Tryz.f11.params[j]? = some t → args[j]? = some v → Value.okWide Tryz.prog W .any base t v := hval0
  have hW' := hW
  obtain ⟨p, q, hA0, hV, rfl, hfz, hnd⟩ := hW
  have hA : DataW.TrodAll enc Tryz.prog W 0 (fun _ => true) true Tryz.f11.params.toList args.toList ds p := hA0
  rw [Tryz.params11] at hA hval
  obtain ⟨v0, vs0, d0, ds0, p0, q0, hargs, rfl, rfl, h0, r0⟩ := trodAll_cons hA
  obtain ⟨v1, vs1, d1, ds1, p1, q1, rfl, rfl, rfl, h1, r1⟩ := trodAll_cons r0
  obtain ⟨rfl, rfl, rfl⟩ := trodAll_nil r1
  obtain rfl : args = #[v0, v1] := by cases args; simp_all
  obtain ⟨rfl, rfl⟩ := trodVars_none hV
  have hG := flds_of_laid hL
  have k0 := h0
  have lt0 : ∀ x ∈ p0, x.block < W.heap.size := by obtain ⟨m, hm⟩ := k0; exact DataW.trod_lt m _ _ _ hm
  obtain ⟨A0, c0, l0, rfl, i0⟩ := open_natv (hval 0 22 v0 rfl rfl) h0
  obtain ⟨z1, rfl, rfl, rfl, w1⟩ := open_int Tryz.underlying5 (hval 1 5 v1 rfl rfl) h1
  have bz1 := bounds_u8 w1
  obtain ⟨n1, rfl⟩ := Int.eq_ofNat_of_zero_le bz1.1
  have bn1 : n1 < 256 := by omega
  clear hA0 hval0 hval hL
  have hcall := gcdFermat_c A0 c0 l0 n1 W hG i0.1 i0.2.1 i0.2.2.1 i0.2.2.2.1 i0.2.2.2.2 bn1
  refine hcall.mono fun e W' ⟨he, bel⟩ => ?_
  subst he
  exact ⟨_, rfl, _, _, _, [], _, [], hW', trodAll_mk1 (shut_bool Tryz.underlying4 _), (trodAll_cons_mk (Below.trod row_out (by kernel_rfl) (of_decide_eq_true (by kernel_rfl)) k0 bel lt0) (trodAll_cons_mk (shut_int Tryz.underlying5 w1) trodAll_mk0)), rfl, bel.frame _, fun h => by cases h⟩
theorem gcdFermat_holds : Rows.GcdFermatSaid :=
  OpenClaim.holds_of_wide 11 Tryz.f11 rfl rfl rfl rfl rfl rfl rfl ⟨rfl, rfl, rfl, rfl, rfl⟩ rfl rfl rfl rfl rfl (by kernel_rfl) Tryz.func11 (by kernel_rfl)
    (of_decide_eq_true (by kernel_rfl)) (by unfold Func.isWrapper; first | (rw [if_pos (by decide +kernel)]; kernel_rfl) | (rw [if_neg (by decide +kernel)]; exact ⟨rfl, rfl⟩))
    (fun os started H enc _ => gcdFermat_lifted os started H enc)

/-- The card, tied to the program's text. -/
theorem gcdFermat_card : Rows.GcdFermatCardSaid :=
  Claim7.holds_tied_plain_at .later [] [.data] true (true, "656b37b7ccc5af8af5a85e438c408380abd1ad709ff303cf5fc9993104b47efd") false
    gcdFermat_holds (fun _ h => by cases h) (by kernel_rfl) (fun _ h => by cases h) gcdFermat_row_tie rfl ⟨rfl, rfl⟩ (by kernel_rfl) rfl
    (fun f fn hf hfn => by
      obtain rfl : f = 11 := Option.some.inj ((show Tryz.prog.funcNamed "ziggurat/zigguratlaw07.GcdFermat" = some 11 by kernel_rfl).symm.trans hf) |>.symm
      obtain rfl : fn = Tryz.f11 := (Option.some.inj (Tryz.func11.symm.trans hfn)).symm
      exact ⟨by kernel_rfl, fun j t ht => by
        rw [Tryz.params11] at ht
        have hm : t ∈ [22, 5] := by simpa using Array.mem_of_getElem? ht
        have hall : ([22, 5].all fun u => !Tryz.prog.wantsStandIn u) = true := by kernel_rfl
        exact (show Tryz.prog.wantsStandIn t = false by simpa using List.all_eq_true.1 hall t hm)⟩)
    (by kernel_rfl)
#print axioms gcdFermat_card
end Go.Proofs.YtpaffggdeedopaaGreatDoor
