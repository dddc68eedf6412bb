/- Shifts and parts: MulShifts. -/
import Derived.Test.YtmcekbmmpdpbmaaDoorLaw3
set_option linter.unusedVariables false
set_option linter.unusedSimpArgs false
namespace Go.Proofs.YtmcekbmmpdpbmaaDoor
open Go.RowKit Go.Shelf
attribute [local go_sem] max2_i min2_i max_two min_two

theorem cut_mul (a b i : Nat) : a * b = (a % 4294967296 ^ i) * b + (a / 4294967296 ^ i) * b * 2 ^ (32 * i) := by
  rw [pow32]
  have h := Nat.div_add_mod a (4294967296 ^ i)
  generalize 4294967296 ^ i = P at *
  have e : a * b = (P * (a / P) + a % P) * b := by rw [h]
  rw [e, Nat.add_mul, Nat.mul_right_comm (a / P) b P, Nat.mul_comm (a / P) P, Nat.add_comm]
theorem make_at (A : Option Addr) (c a i : Nat) (w : World) (hA : NatV w A c a) (ha : nl a ≤ 1073741824) (hi : i ≤ nl a) :
    Calls Tryd.prog 30 #[.slice A i c] w (RetN w (a % 4294967296 ^ i)) := by
  have h := make_c A i c ((limbs a).take i) w (by rw [List.length_take]; exact Nat.min_eq_left hi) (hA.rd.take i) ((lim_limbs a).take i) (by omega) (Nat.le_trans hi hA.cap)
  rwa [val_take (lim_limbs a), val_limbs] at h
theorem high_c (A : Option Addr) (c a i : Nat) (w : World) (hA : NatV w A c a) (ha : nl a ≤ 1073741824) (hi : i ≤ nl a) :
    Calls Tryd.prog 30 #[.slice (A.map fun x => x.add i) (nl a - i) (c - i)] w (RetN w (a / 4294967296 ^ i)) := by
  have hr := Rd.sub hA.rd i (nl a - i)
  have hc := hA.cap
  rw [List.take_of_length_le (by rw [List.length_drop]; exact Nat.le_refl _)] at hr
  have h := make_c (A.map fun x => x.add i) (nl a - i) (c - i) ((limbs a).drop i) w (by rw [List.length_drop]; rfl) hr ((lim_limbs a).drop i) (by omega) (by omega)
  rwa [val_drop (lim_limbs a), val_limbs] at h
theorem high_0 (A : Option Addr) (a i : Nat) (w : World) (hA : NatV w A i a) (ha : nl a ≤ 1073741824) (hi : i ≤ nl a) :
    Calls Tryd.prog 30 #[.slice A (nl a - i) 0] w (RetN w (a / 4294967296 ^ i)) := by
  have hi2 := hA.cap
  rw [show nl a - i = 0 by omega]
  have h := make_c A 0 0 [] w rfl Rd.nil Lim.nil (by decide) (Nat.le_refl _)
  have e : a / 4294967296 ^ i = 0 := Nat.div_eq_of_lt (nl_le.1 hi2)
  rw [e]; exact h
set_option maxHeartbeats 4000000 in
theorem mulShifts_c (A : Option Addr) (c : Nat) (l : List Nat) (B : Option Addr) (d : Nat) (m : List Nat) (n x : Nat) (w : World) (hG : Flds w) (hl : Rd w A l) (Ll : Lim l) (Ql : l.length ≤ maxLen) (Cl : l.length ≤ c) (Zl : A = none → c = 0) (hm : Rd w B m) (Lm : Lim m) (Qm : m.length ≤ maxLen) (Cm : m.length ≤ d) (Zm : B = none → d = 0) (hn16 : n < 65536) (hx8 : x < 256) :
    Calls Tryd.prog 7 #[.agg #[.slice A l.length c, .slice B m.length d], .int .u16 (n : Nat), .int .u8 (x : Nat)] w fun e w' => e = .returned (.bool true) ∧ Below w.heap.size w w' := by
  replace Zl := Lib.hid Zl
  replace Zm := Lib.hid Zm
  have hb0 : Below w.heap.size w (w.alloc (.cells #[.slice A l.length c, .slice B m.length d] 34)) := (Below.refl _ _).alloc (Nat.le_refl _) _
  obtain ⟨⟨q0, q1⟩, _⟩ := at_cells2 (heap_alloc_new w (.cells #[.slice A l.length c, .slice B m.length d] 34))
  have hu := Tryd.underlying34
  replace hG := hG.below hb0
  replace hl := hl.below hb0
  replace hm := hm.below hb0
  have HBT := hb0
  clear hb0
  obtain ⟨k, Ek⟩ : ∃ y, y = n % 700 := ⟨_, rfl⟩
  have Ik : (n : Int) % 700 = (k : Int) := by omega
  have Jk : (n : Int).tmod 700 = (k : Int) := by rw [Int.tmod_eq_emod_of_nonneg (by omega)]; exact Ik
  have Bk : k < 700 := by omega
  replace Ek := Lib.hid Ek
  obtain ⟨q, Eq⟩ : ∃ y : Nat, y = k / 32 := ⟨_, rfl⟩
  have Iq : (k : Int) / 32 = (q : Int) := by omega
  have Jq : (k : Int).tdiv 32 = (q : Int) := by rw [Int.tdiv_eq_ediv_of_nonneg (by omega)]; exact Iq
  have Bq : q < 22 := by omega
  replace Eq := Lib.hid Eq
  go_enter Tryd.func7, Tryd.ntmps7
  go_wp2_with (fail)
  refine (Calls.mono (head_c _ hG) ?_)
  rintro e W1 ⟨rfl, hb1⟩
  replace hG := hG.below hb1
  replace hl := hl.below hb1
  replace hm := hm.below hb1
  replace q0 := cell_below hb1 q0
  replace q1 := cell_below hb1 q1
  replace HBT := Below.cons HBT hb1
  clear hb1
  go_wp2_with (fail)
  obtain ⟨a, Ea⟩ : ∃ zq : Nat, zq = val (l.take 120) := ⟨_, rfl⟩
  have Ba : nl a ≤ 120 := by rw [Ea]; exact made_nl l Ll 120
  refine (Calls.mono (R := RetN W1 a) (by rw [Ea]; exact (made_c A c l _ hl Ll Ql Cl Zl.out)) ?_)
  replace Ea := Lib.hid Ea
  rintro e W2 ⟨X2, c2, rfl, ha, hb2⟩
  replace hG := hG.below hb2
  replace hl := hl.below hb2
  replace hm := hm.below hb2
  replace q0 := cell_below hb2 q0
  replace q1 := cell_below hb2 q1
  replace HBT := Below.cons HBT hb2
  clear hb2
  go_wp2_with (fail)
  obtain ⟨b, Eb⟩ : ∃ zq : Nat, zq = val (m.take 120) := ⟨_, rfl⟩
  have Bb : nl b ≤ 120 := by rw [Eb]; exact made_nl m Lm 120
  refine (Calls.mono (R := RetN W2 b) (by rw [Eb]; exact (made_c B d m _ hm Lm Qm Cm Zm.out)) ?_)
  replace Eb := Lib.hid Eb
  rintro e W3 ⟨X3, c3, rfl, hb, hb3⟩
  replace hG := hG.below hb3
  replace hl := hl.below hb3
  replace hm := hm.below hb3
  replace q0 := cell_below hb3 q0
  replace q1 := cell_below hb3 q1
  replace ha := ha.below hb3
  replace HBT := Below.cons HBT hb3
  clear hb3
  have hb4 : Below (W3).heap.size (W3) ((W3).alloc (.cells #[.int .u32 1] 35)) := (Below.refl _ _).alloc (Nat.le_refl _) _
  have ho := nlit (l := [1]) _ _ _ (heap_alloc_new (W3) (.cells #[.int .u32 1] 35)) rfl (by decide) (by decide) (by decide)
  obtain ⟨o, Eo⟩ : ∃ zq : Nat, zq = val [1] := ⟨_, rfl⟩
  rw [← Eo] at ho
  have No : nl o = 1 := by rw [Eo]; exact nl_lit (by decide) (by decide)
  have Bo : nl o ≤ 1 := Nat.le_of_eq No
  replace No := Lib.hid No
  replace Eo := Lib.hid Eo
  replace hG := hG.below hb4
  replace hl := hl.below hb4
  replace hm := hm.below hb4
  replace q0 := cell_below hb4 q0
  replace q1 := cell_below hb4 q1
  replace ha := ha.below hb4
  replace hb := hb.below hb4
  replace HBT := Below.cons HBT hb4
  clear hb4
  go_wp2_with (fail)
  obtain ⟨s, Es⟩ : ∃ zq : Nat, zq = o * 2 ^ (k) := ⟨_, rfl⟩
  have Bs : nl s ≤ 24 := by rw [Es]; have := nl_shl o (k); omega
  refine (Calls.mono (R := RetN ((W3).alloc (.cells #[.int .u32 1] 35)) s) (by rw [Es]; exact (at_len1 No.out (shl_e _ _ o (k) (k) _ ho (by omega) (rfl) (by omega)))) ?_)
  replace Es := Lib.hid Es
  rintro e W5 ⟨X5, c5, rfl, hs, hb5⟩
  replace hG := hG.below hb5
  replace hl := hl.below hb5
  replace hm := hm.below hb5
  replace q0 := cell_below hb5 q0
  replace q1 := cell_below hb5 q1
  replace ha := ha.below hb5
  replace hb := hb.below hb5
  replace ho := ho.below hb5
  replace HBT := Below.cons HBT hb5
  clear hb5
  go_wp2_with (fail)
  obtain ⟨t, Et⟩ : ∃ zq : Nat, zq = a * s := ⟨_, rfl⟩
  have Bt : nl t ≤ 144 := by rw [Et]; have := nl_mul a s; omega
  refine (Calls.mono (R := RetN W5 t) (by rw [Et]; exact (by_c x X2 c2 a X5 c5 s _ hx8 ha hs hG (by omega) (by omega))) ?_)
  replace Et := Lib.hid Et
  rintro e W6 ⟨X6, c6, rfl, ht, hb6⟩
  replace hG := hG.below hb6
  replace hl := hl.below hb6
  replace hm := hm.below hb6
  replace q0 := cell_below hb6 q0
  replace q1 := cell_below hb6 q1
  replace ha := ha.below hb6
  replace hb := hb.below hb6
  replace ho := ho.below hb6
  replace hs := hs.below hb6
  replace HBT := Below.cons HBT hb6
  clear hb6
  go_wp2_with (fail)
  obtain ⟨u, Eu⟩ : ∃ zq : Nat, zq = a * 2 ^ (k) := ⟨_, rfl⟩
  have Bu : nl u ≤ 143 := by rw [Eu]; have := nl_shl a (k); omega
  refine (Calls.mono (R := RetN W6 u) (by rw [Eu]; exact (shl_e X2 c2 a (k) (k) _ ha (by omega) (rfl) (by omega))) ?_)
  replace Eu := Lib.hid Eu
  rintro e W7 ⟨X7, c7, rfl, hu, hb7⟩
  replace hG := hG.below hb7
  replace hl := hl.below hb7
  replace hm := hm.below hb7
  replace q0 := cell_below hb7 q0
  replace q1 := cell_below hb7 q1
  replace ha := ha.below hb7
  replace hb := hb.below hb7
  replace ho := ho.below hb7
  replace hs := hs.below hb7
  replace ht := ht.below hb7
  replace HBT := Below.cons HBT hb7
  clear hb7
  go_wp2_with (fail)
  obtain ⟨at', Eat⟩ : ∃ y : Nat, y = min q (nl a) := ⟨_, rfl⟩
  have Iat : min (q : Int) (nl a : Int) = (at' : Int) := by omega
  have Bat : at' ≤ nl a := by omega
  have Bat2 : at' < 22 := by omega
  replace Eat := Lib.hid Eat
  have hca := ha.cap
  have hcat : at' ≤ c2 := Nat.le_trans Bat hca
  refine (Calls.mono (same_t X6 c6 t X7 c7 u _ ht hu (by omega) (by omega) (by rw [Et.out, Eu.out, Es.out, Eo.out]; simp [val])) ?_)
  rintro e W8 ⟨rfl, hb8⟩
  replace hG := hG.below hb8
  replace hl := hl.below hb8
  replace hm := hm.below hb8
  replace q0 := cell_below hb8 q0
  replace q1 := cell_below hb8 q1
  replace ha := ha.below hb8
  replace hb := hb.below hb8
  replace ho := ho.below hb8
  replace hs := hs.below hb8
  replace ht := ht.below hb8
  replace hu := hu.below hb8
  replace HBT := Below.cons HBT hb8
  clear hb8
  go_wp2_with (fail)
  clear hs
  clear ht
  clear hu
  clear ho
  obtain ⟨lo, Elo⟩ : ∃ zq : Nat, zq = a % 4294967296 ^ at' := ⟨_, rfl⟩
  have Blo : nl lo ≤ 120 := by rw [Elo]; have := nl_mod_le a (4294967296 ^ at'); omega
  refine (Calls.mono (R := RetN W8 lo) (by rw [Elo]; exact (make_at X2 c2 a at' _ ha (by omega) Bat)) ?_)
  replace Elo := Lib.hid Elo
  rintro e W9 ⟨X9, c9, rfl, hlo, hb9⟩
  replace hG := hG.below hb9
  replace hl := hl.below hb9
  replace hm := hm.below hb9
  replace q0 := cell_below hb9 q0
  replace q1 := cell_below hb9 q1
  replace ha := ha.below hb9
  replace hb := hb.below hb9
  replace HBT := Below.cons HBT hb9
  clear hb9
  go_wp2_with (fail)
  · obtain rfl : at' = c2 := by first | assumption | (symm; assumption)
    obtain ⟨t32, Et32⟩ : ∃ y : Nat, y = 32 * at' := ⟨_, rfl⟩
    have I32 : (32 : Int) * (at' : Int) = (t32 : Int) := by omega
    have B32 : t32 ≤ 704 := by omega
    replace Et32 := Lib.hid Et32
    obtain ⟨hi, Ehi⟩ : ∃ zq : Nat, zq = a / 4294967296 ^ at' := ⟨_, rfl⟩
    have Bhi : nl hi ≤ 120 := by rw [Ehi]; have := nl_div a (4294967296 ^ at'); omega
    refine (Calls.mono (R := RetN W9 hi) (by rw [Ehi]; exact (high_0 X2 a at' _ ha (by omega) (by omega))) ?_)
    replace Ehi := Lib.hid Ehi
    rintro e W10 ⟨X10, c10, rfl, hhi, hb10⟩
    replace hG := hG.below hb10
    replace hl := hl.below hb10
    replace hm := hm.below hb10
    replace q0 := cell_below hb10 q0
    replace q1 := cell_below hb10 q1
    replace ha := ha.below hb10
    replace hb := hb.below hb10
    replace hlo := hlo.below hb10
    replace HBT := Below.cons HBT hb10
    clear hb10
    go_wp2_with (fail)
    obtain ⟨p, Ep⟩ : ∃ zq : Nat, zq = a * b := ⟨_, rfl⟩
    have Bp : nl p ≤ 240 := by rw [Ep]; have := nl_mul a b; omega
    refine (Calls.mono (R := RetN W10 p) (by rw [Ep]; exact (by_c x X2 at' a X3 c3 b _ hx8 ha hb hG (by omega) (by omega))) ?_)
    replace Ep := Lib.hid Ep
    rintro e W11 ⟨X11, c11, rfl, hp, hb11⟩
    replace hG := hG.below hb11
    replace hl := hl.below hb11
    replace hm := hm.below hb11
    replace q0 := cell_below hb11 q0
    replace q1 := cell_below hb11 q1
    replace ha := ha.below hb11
    replace hb := hb.below hb11
    replace hlo := hlo.below hb11
    replace hhi := hhi.below hb11
    replace HBT := Below.cons HBT hb11
    clear hb11
    go_wp2_with (fail)
    obtain ⟨r, Er⟩ : ∃ zq : Nat, zq = lo * b := ⟨_, rfl⟩
    have Br : nl r ≤ 240 := by rw [Er]; have := nl_mul lo b; omega
    refine (Calls.mono (R := RetN W11 r) (by rw [Er]; exact (by_c x X9 c9 lo X3 c3 b _ hx8 hlo hb hG (by omega) (by omega))) ?_)
    replace Er := Lib.hid Er
    rintro e W12 ⟨X12, c12, rfl, hr, hb12⟩
    replace hG := hG.below hb12
    replace hl := hl.below hb12
    replace hm := hm.below hb12
    replace q0 := cell_below hb12 q0
    replace q1 := cell_below hb12 q1
    replace ha := ha.below hb12
    replace hb := hb.below hb12
    replace hlo := hlo.below hb12
    replace hhi := hhi.below hb12
    replace hp := hp.below hb12
    replace HBT := Below.cons HBT hb12
    clear hb12
    go_wp2_with (fail)
    obtain ⟨v, Ev⟩ : ∃ zq : Nat, zq = hi * b := ⟨_, rfl⟩
    have Bv : nl v ≤ 240 := by rw [Ev]; have := nl_mul hi b; omega
    refine (Calls.mono (R := RetN W12 v) (by rw [Ev]; exact (by_c x X10 c10 hi X3 c3 b _ hx8 hhi hb hG (by omega) (by omega))) ?_)
    replace Ev := Lib.hid Ev
    rintro e W13 ⟨X13, c13, rfl, hv, hb13⟩
    replace hG := hG.below hb13
    replace hl := hl.below hb13
    replace hm := hm.below hb13
    replace q0 := cell_below hb13 q0
    replace q1 := cell_below hb13 q1
    replace ha := ha.below hb13
    replace hb := hb.below hb13
    replace hlo := hlo.below hb13
    replace hhi := hhi.below hb13
    replace hp := hp.below hb13
    replace hr := hr.below hb13
    replace HBT := Below.cons HBT hb13
    clear hb13
    go_wp2_with (fail)
    obtain ⟨y, Ey⟩ : ∃ zq : Nat, zq = v * 2 ^ (t32) := ⟨_, rfl⟩
    have By : nl y ≤ 263 := by rw [Ey]; have := nl_shl v (t32); omega
    refine (Calls.mono (R := RetN W13 y) (by rw [Ey]; exact (shl_e X13 c13 v (t32) (t32) _ hv (by omega) (rfl) (by omega))) ?_)
    replace Ey := Lib.hid Ey
    rintro e W14 ⟨X14, c14, rfl, hy, hb14⟩
    replace hG := hG.below hb14
    replace hl := hl.below hb14
    replace hm := hm.below hb14
    replace q0 := cell_below hb14 q0
    replace q1 := cell_below hb14 q1
    replace ha := ha.below hb14
    replace hb := hb.below hb14
    replace hlo := hlo.below hb14
    replace hhi := hhi.below hb14
    replace hp := hp.below hb14
    replace hr := hr.below hb14
    replace hv := hv.below hb14
    replace HBT := Below.cons HBT hb14
    clear hb14
    go_wp2_with (fail)
    obtain ⟨z, Ez⟩ : ∃ zq : Nat, zq = r + y := ⟨_, rfl⟩
    have Bz : nl z ≤ 264 := by rw [Ez]; have := nl_add r y; omega
    refine (Calls.mono (R := RetN W14 z) (by rw [Ez]; exact (add_c  X12 c12 r X14 c14 y _ hr hy (by omega) (by omega))) ?_)
    replace Ez := Lib.hid Ez
    rintro e W15 ⟨X15, c15, rfl, hz, hb15⟩
    replace hG := hG.below hb15
    replace hl := hl.below hb15
    replace hm := hm.below hb15
    replace q0 := cell_below hb15 q0
    replace q1 := cell_below hb15 q1
    replace ha := ha.below hb15
    replace hb := hb.below hb15
    replace hlo := hlo.below hb15
    replace hhi := hhi.below hb15
    replace hp := hp.below hb15
    replace hr := hr.below hb15
    replace hv := hv.below hb15
    replace hy := hy.below hb15
    replace HBT := Below.cons HBT hb15
    clear hb15
    go_wp2_with (fail)
    refine (Calls.mono (same_t X11 c11 p X15 c15 z _ hp hz (by omega) (by omega) (by rw [Ep.out, Ez.out, Er.out, Ey.out, Ev.out, Elo.out, Ehi.out, Et32.out]; exact cut_mul a b at')) ?_)
    rintro e W16 ⟨rfl, hb16⟩
    replace hG := hG.below hb16
    replace hl := hl.below hb16
    replace hm := hm.below hb16
    replace q0 := cell_below hb16 q0
    replace q1 := cell_below hb16 q1
    replace ha := ha.below hb16
    replace hb := hb.below hb16
    replace hlo := hlo.below hb16
    replace hhi := hhi.below hb16
    replace hp := hp.below hb16
    replace hr := hr.below hb16
    replace hv := hv.below hb16
    replace hy := hy.below hb16
    replace hz := hz.below hb16
    replace HBT := Below.cons HBT hb16
    clear hb16
    go_wp2_with (fail)
    go_ret
    exact ⟨rfl, HBT⟩
  · obtain ⟨t32, Et32⟩ : ∃ y : Nat, y = 32 * at' := ⟨_, rfl⟩
    have I32 : (32 : Int) * (at' : Int) = (t32 : Int) := by omega
    have B32 : t32 ≤ 704 := by omega
    replace Et32 := Lib.hid Et32
    obtain ⟨hi, Ehi⟩ : ∃ zq : Nat, zq = a / 4294967296 ^ at' := ⟨_, rfl⟩
    have Bhi : nl hi ≤ 120 := by rw [Ehi]; have := nl_div a (4294967296 ^ at'); omega
    refine (Calls.mono (R := RetN W9 hi) (by rw [Ehi]; exact (high_c X2 c2 a at' _ ha (by omega) Bat)) ?_)
    replace Ehi := Lib.hid Ehi
    rintro e W10 ⟨X10, c10, rfl, hhi, hb10⟩
    replace hG := hG.below hb10
    replace hl := hl.below hb10
    replace hm := hm.below hb10
    replace q0 := cell_below hb10 q0
    replace q1 := cell_below hb10 q1
    replace ha := ha.below hb10
    replace hb := hb.below hb10
    replace hlo := hlo.below hb10
    replace HBT := Below.cons HBT hb10
    clear hb10
    go_wp2_with (fail)
    obtain ⟨p, Ep⟩ : ∃ zq : Nat, zq = a * b := ⟨_, rfl⟩
    have Bp : nl p ≤ 240 := by rw [Ep]; have := nl_mul a b; omega
    refine (Calls.mono (R := RetN W10 p) (by rw [Ep]; exact (by_c x X2 c2 a X3 c3 b _ hx8 ha hb hG (by omega) (by omega))) ?_)
    replace Ep := Lib.hid Ep
    rintro e W11 ⟨X11, c11, rfl, hp, hb11⟩
    replace hG := hG.below hb11
    replace hl := hl.below hb11
    replace hm := hm.below hb11
    replace q0 := cell_below hb11 q0
    replace q1 := cell_below hb11 q1
    replace ha := ha.below hb11
    replace hb := hb.below hb11
    replace hlo := hlo.below hb11
    replace hhi := hhi.below hb11
    replace HBT := Below.cons HBT hb11
    clear hb11
    go_wp2_with (fail)
    obtain ⟨r, Er⟩ : ∃ zq : Nat, zq = lo * b := ⟨_, rfl⟩
    have Br : nl r ≤ 240 := by rw [Er]; have := nl_mul lo b; omega
    refine (Calls.mono (R := RetN W11 r) (by rw [Er]; exact (by_c x X9 c9 lo X3 c3 b _ hx8 hlo hb hG (by omega) (by omega))) ?_)
    replace Er := Lib.hid Er
    rintro e W12 ⟨X12, c12, rfl, hr, hb12⟩
    replace hG := hG.below hb12
    replace hl := hl.below hb12
    replace hm := hm.below hb12
    replace q0 := cell_below hb12 q0
    replace q1 := cell_below hb12 q1
    replace ha := ha.below hb12
    replace hb := hb.below hb12
    replace hlo := hlo.below hb12
    replace hhi := hhi.below hb12
    replace hp := hp.below hb12
    replace HBT := Below.cons HBT hb12
    clear hb12
    go_wp2_with (fail)
    obtain ⟨v, Ev⟩ : ∃ zq : Nat, zq = hi * b := ⟨_, rfl⟩
    have Bv : nl v ≤ 240 := by rw [Ev]; have := nl_mul hi b; omega
    refine (Calls.mono (R := RetN W12 v) (by rw [Ev]; exact (by_c x X10 c10 hi X3 c3 b _ hx8 hhi hb hG (by omega) (by omega))) ?_)
    replace Ev := Lib.hid Ev
    rintro e W13 ⟨X13, c13, rfl, hv, hb13⟩
    replace hG := hG.below hb13
    replace hl := hl.below hb13
    replace hm := hm.below hb13
    replace q0 := cell_below hb13 q0
    replace q1 := cell_below hb13 q1
    replace ha := ha.below hb13
    replace hb := hb.below hb13
    replace hlo := hlo.below hb13
    replace hhi := hhi.below hb13
    replace hp := hp.below hb13
    replace hr := hr.below hb13
    replace HBT := Below.cons HBT hb13
    clear hb13
    go_wp2_with (fail)
    obtain ⟨y, Ey⟩ : ∃ zq : Nat, zq = v * 2 ^ (t32) := ⟨_, rfl⟩
    have By : nl y ≤ 263 := by rw [Ey]; have := nl_shl v (t32); omega
    refine (Calls.mono (R := RetN W13 y) (by rw [Ey]; exact (shl_e X13 c13 v (t32) (t32) _ hv (by omega) (rfl) (by omega))) ?_)
    replace Ey := Lib.hid Ey
    rintro e W14 ⟨X14, c14, rfl, hy, hb14⟩
    replace hG := hG.below hb14
    replace hl := hl.below hb14
    replace hm := hm.below hb14
    replace q0 := cell_below hb14 q0
    replace q1 := cell_below hb14 q1
    replace ha := ha.below hb14
    replace hb := hb.below hb14
    replace hlo := hlo.below hb14
    replace hhi := hhi.below hb14
    replace hp := hp.below hb14
    replace hr := hr.below hb14
    replace hv := hv.below hb14
    replace HBT := Below.cons HBT hb14
    clear hb14
    go_wp2_with (fail)
    obtain ⟨z, Ez⟩ : ∃ zq : Nat, zq = r + y := ⟨_, rfl⟩
    have Bz : nl z ≤ 264 := by rw [Ez]; have := nl_add r y; omega
    refine (Calls.mono (R := RetN W14 z) (by rw [Ez]; exact (add_c  X12 c12 r X14 c14 y _ hr hy (by omega) (by omega))) ?_)
    replace Ez := Lib.hid Ez
    rintro e W15 ⟨X15, c15, rfl, hz, hb15⟩
    replace hG := hG.below hb15
    replace hl := hl.below hb15
    replace hm := hm.below hb15
    replace q0 := cell_below hb15 q0
    replace q1 := cell_below hb15 q1
    replace ha := ha.below hb15
    replace hb := hb.below hb15
    replace hlo := hlo.below hb15
    replace hhi := hhi.below hb15
    replace hp := hp.below hb15
    replace hr := hr.below hb15
    replace hv := hv.below hb15
    replace hy := hy.below hb15
    replace HBT := Below.cons HBT hb15
    clear hb15
    go_wp2_with (fail)
    refine (Calls.mono (same_t X11 c11 p X15 c15 z _ hp hz (by omega) (by omega) (by rw [Ep.out, Ez.out, Er.out, Ey.out, Ev.out, Elo.out, Ehi.out, Et32.out]; exact cut_mul a b at')) ?_)
    rintro e W16 ⟨rfl, hb16⟩
    replace hG := hG.below hb16
    replace hl := hl.below hb16
    replace hm := hm.below hb16
    replace q0 := cell_below hb16 q0
    replace q1 := cell_below hb16 q1
    replace ha := ha.below hb16
    replace hb := hb.below hb16
    replace hlo := hlo.below hb16
    replace hhi := hhi.below hb16
    replace hp := hp.below hb16
    replace hr := hr.below hb16
    replace hv := hv.below hb16
    replace hy := hy.below hb16
    replace hz := hz.below hb16
    replace HBT := Below.cons HBT hb16
    clear hb16
    go_wp2_with (fail)
    go_ret
    exact ⟨rfl, HBT⟩

end Go.Proofs.YtmcekbmmpdpbmaaDoor
