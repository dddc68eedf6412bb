/- Squares: MulSquares. -/
import Derived.Test.YtmcekbmmpdpbmaaDoorLaw3
set_option linter.unusedVariables false
set_option linter.unusedSimpArgs false
namespace Go.Proofs.YtmcekbmmpdpbmaaDoor
open Go.RowKit Go.Shelf
attribute [local go_sem] max2_i min2_i max_two min_two

theorem sq_law (a b : Nat) (h : b ≤ a) : (a + b) * (a + b) - (a - b) * (a - b) = a * b * 2 ^ 2 := by
  obtain ⟨d, rfl⟩ : ∃ d, a = b + d := ⟨a - b, by omega⟩
  rw [Nat.add_sub_cancel_left]
  have e : (b + d + b) * (b + d + b) = (b + d) * b * 2 ^ 2 + d * d := by grind
  rw [e, Nat.add_sub_cancel]
theorem all_law (i k : Nat) : (val [1] * 2 ^ (32 * i) - val [1]) * (val [1] * 2 ^ (32 * k) - val [1]) + (val [1] * 2 ^ (32 * i) + val [1] * 2 ^ (32 * k)) = val [1] * 2 ^ (32 * (i + k)) + val [1] := by
  have e : val [1] = 1 := rfl
  rw [e, Nat.mul_add, Nat.pow_add]
  have h1 := Nat.two_pow_pos (32 * i)
  have h2 := Nat.two_pow_pos (32 * k)
  obtain ⟨p, hp⟩ : ∃ p, 2 ^ (32 * i) = p + 1 := ⟨2 ^ (32 * i) - 1, by omega⟩
  obtain ⟨q, hq⟩ : ∃ q, 2 ^ (32 * k) = q + 1 := ⟨2 ^ (32 * k) - 1, by omega⟩
  rw [hp, hq, Nat.one_mul, Nat.one_mul, Nat.one_mul, Nat.add_sub_cancel, Nat.add_sub_cancel]
  grind
set_option maxHeartbeats 4000000 in
theorem mulSquares_c (A : Option Addr) (c : Nat) (l : List Nat) (B : Option Addr) (d : Nat) (m : List Nat) (n x : Nat) (w : World) (hG : Flds w) (hl : Rd w A l) (Ll : Lim l) (Ql : l.length ≤ maxLen) (Cl : l.length ≤ c) (Zl : A = none → c = 0) (hm : Rd w B m) (Lm : Lim m) (Qm : m.length ≤ maxLen) (Cm : m.length ≤ d) (Zm : B = none → d = 0) (hn8 : n < 256) (hx8 : x < 256) :
    Calls Tryd.prog 8 #[.agg #[.slice A l.length c, .slice B m.length d], .int .u8 (n : Nat), .int .u8 (x : Nat)] w fun e w' => e = .returned (.bool true) ∧ Below w.heap.size w w' := by
  replace Zl := Lib.hid Zl
  replace Zm := Lib.hid Zm
  have hb0 : Below w.heap.size w (w.alloc (.cells #[.slice A l.length c, .slice B m.length d] 34)) := (Below.refl _ _).alloc (Nat.le_refl _) _
  obtain ⟨⟨q0, q1⟩, _⟩ := at_cells2 (heap_alloc_new w (.cells #[.slice A l.length c, .slice B m.length d] 34))
  have hu := Tryd.underlying34
  replace hG := hG.below hb0
  replace hl := hl.below hb0
  replace hm := hm.below hb0
  have HBT := hb0
  clear hb0
  obtain ⟨i0, Ei0⟩ : ∃ y, y = n % 60 := ⟨_, rfl⟩
  have Ii0 : (n : Int) % 60 = (i0 : Int) := by omega
  have Ji0 : (n : Int).tmod 60 = (i0 : Int) := by rw [Int.tmod_eq_emod_of_nonneg (by omega)]; exact Ii0
  have Bi0 : i0 < 60 := by omega
  replace Ei0 := Lib.hid Ei0
  obtain ⟨i, Ei⟩ : ∃ y : Nat, y = 1 + i0 := ⟨_, rfl⟩
  have Ii : 1 + (i0 : Int) = (i : Int) := by omega
  have Bi : i ≤ 60 := by omega
  obtain ⟨k0, Ek0⟩ : ∃ y, y = x % 50 := ⟨_, rfl⟩
  have Ik0 : (x : Int) % 50 = (k0 : Int) := by omega
  have Jk0 : (x : Int).tmod 50 = (k0 : Int) := by rw [Int.tmod_eq_emod_of_nonneg (by omega)]; exact Ik0
  have Bk0 : k0 < 50 := by omega
  replace Ek0 := Lib.hid Ek0
  obtain ⟨k, Ek⟩ : ∃ y : Nat, y = 1 + k0 := ⟨_, rfl⟩
  have Ik : 1 + (k0 : Int) = (k : Int) := by omega
  have Bk : k ≤ 50 := by omega
  obtain ⟨ik, Eik⟩ : ∃ y : Nat, y = i + k := ⟨_, rfl⟩
  have Iik : (i : Int) + (k : Int) = (ik : Int) := by omega
  have Bik : ik ≤ 110 := by omega
  obtain ⟨is, Eis⟩ : ∃ y : Nat, y = 32 * i := ⟨_, rfl⟩
  have Iis : (32 : Int) * (i : Int) = (is : Int) := by omega
  have Bis : is ≤ 3520 := by omega
  obtain ⟨ks, Eks⟩ : ∃ y : Nat, y = 32 * k := ⟨_, rfl⟩
  have Iks : (32 : Int) * (k : Int) = (ks : Int) := by omega
  have Bks : ks ≤ 3520 := by omega
  obtain ⟨iks, Eiks⟩ : ∃ y : Nat, y = 32 * ik := ⟨_, rfl⟩
  have Iiks : (32 : Int) * (ik : Int) = (iks : Int) := by omega
  have Biks : iks ≤ 3520 := by omega
  replace Ei := Lib.hid Ei
  replace Ek := Lib.hid Ek
  replace Eik := Lib.hid Eik
  replace Eis := Lib.hid Eis
  replace Eks := Lib.hid Eks
  replace Eiks := Lib.hid Eiks
  go_enter Tryd.func8, Tryd.ntmps8
  go_wp2_with (fail)
  refine (Calls.mono (head_c _ hG) ?_)
  rintro e W1 ⟨rfl, hb1⟩
  replace hG := hG.below hb1
  replace hl := hl.below hb1
  replace hm := hm.below hb1
  replace q0 := cell_below hb1 q0
  replace q1 := cell_below hb1 q1
  replace HBT := Below.cons HBT hb1
  clear hb1
  go_wp2_with (fail)
  obtain ⟨a, Ea⟩ : ∃ zq : Nat, zq = val (l.take 120) := ⟨_, rfl⟩
  have Ba : nl a ≤ 120 := by rw [Ea]; exact made_nl l Ll 120
  refine (Calls.mono (R := RetN W1 a) (by rw [Ea]; exact (made_c A c l _ hl Ll Ql Cl Zl.out)) ?_)
  replace Ea := Lib.hid Ea
  rintro e W2 ⟨X2, c2, rfl, ha, hb2⟩
  replace hG := hG.below hb2
  replace hl := hl.below hb2
  replace hm := hm.below hb2
  replace q0 := cell_below hb2 q0
  replace q1 := cell_below hb2 q1
  replace HBT := Below.cons HBT hb2
  clear hb2
  go_wp2_with (fail)
  obtain ⟨b, Eb⟩ : ∃ zq : Nat, zq = val (m.take 120) := ⟨_, rfl⟩
  have Bb : nl b ≤ 120 := by rw [Eb]; exact made_nl m Lm 120
  refine (Calls.mono (R := RetN W2 b) (by rw [Eb]; exact (made_c B d m _ hm Lm Qm Cm Zm.out)) ?_)
  replace Eb := Lib.hid Eb
  rintro e W3 ⟨X3, c3, rfl, hb, hb3⟩
  replace hG := hG.below hb3
  replace hl := hl.below hb3
  replace hm := hm.below hb3
  replace q0 := cell_below hb3 q0
  replace q1 := cell_below hb3 q1
  replace ha := ha.below hb3
  replace HBT := Below.cons HBT hb3
  clear hb3
  go_wp2_with (fail)
  refine (Calls.mono (cmp_c X2 c2 a X3 c3 b _ ha hb (by omega) (by omega)) ?_)
  rintro e WC ⟨rfl, hbC⟩
  replace hG := hG.below hbC
  replace hl := hl.below hbC
  replace hm := hm.below hbC
  replace q0 := cell_below hbC q0
  replace q1 := cell_below hbC q1
  replace ha := ha.below hbC
  replace hb := hb.below hbC
  replace HBT := Below.cons HBT hbC
  clear hbC
  by_cases hab : a < b
  · have hd : decide (cmpN a b < 0) = true := by rw [decide_eq_true_eq, cmpN_neg]; exact hab
    have hle : a ≤ b := Nat.le_of_lt hab
    replace hle := Lib.hid hle
    clear hab
    go_wp2_with (fail)
    obtain ⟨s, Es⟩ : ∃ zq : Nat, zq = b + a := ⟨_, rfl⟩
    have Bs : nl s ≤ 121 := by rw [Es]; have := nl_add b a; omega
    refine (Calls.mono (R := RetN WC s) (by rw [Es]; exact (add_c  X3 c3 b X2 c2 a _ hb ha (by omega) (by omega))) ?_)
    replace Es := Lib.hid Es
    rintro e W4 ⟨X4, c4, rfl, hs, hb4⟩
    replace hG := hG.below hb4
    replace hl := hl.below hb4
    replace hm := hm.below hb4
    replace q0 := cell_below hb4 q0
    replace q1 := cell_below hb4 q1
    replace ha := ha.below hb4
    replace hb := hb.below hb4
    replace HBT := Below.cons HBT hb4
    clear hb4
    go_wp2_with (fail)
    obtain ⟨d, Ed⟩ : ∃ zq : Nat, zq = b - a := ⟨_, rfl⟩
    have Bd : nl d ≤ 120 := by rw [Ed]; have := nl_sub b a; omega
    have CS := sub_c X3 c3 b X2 c2 a _ hb ha (by omega) (by omega) (hle.out)
    rw [← Ed] at CS
    replace Ed := Lib.hid Ed
    refine (Calls.mono (CS) ?_)
    rintro e W5 ⟨X5, c5, rfl, hd, hb5⟩
    clear CS
    replace hG := hG.below hb5
    replace hl := hl.below hb5
    replace hm := hm.below hb5
    replace q0 := cell_below hb5 q0
    replace q1 := cell_below hb5 q1
    replace ha := ha.below hb5
    replace hb := hb.below hb5
    replace hs := hs.below hb5
    replace HBT := Below.cons HBT hb5
    clear hb5
    go_wp2_with (fail)
    obtain ⟨ss, Ess⟩ : ∃ zq : Nat, zq = s * s := ⟨_, rfl⟩
    have Bss : nl ss ≤ 242 := by rw [Ess]; have := nl_mul s s; omega
    refine (Calls.mono (R := RetN W5 ss) (by rw [Ess]; exact (by_c x X4 c4 s X4 c4 s _ hx8 hs hs hG (by omega) (by omega))) ?_)
    replace Ess := Lib.hid Ess
    rintro e W6 ⟨X6, c6, rfl, hss, hb6⟩
    replace hG := hG.below hb6
    replace hl := hl.below hb6
    replace hm := hm.below hb6
    replace q0 := cell_below hb6 q0
    replace q1 := cell_below hb6 q1
    replace ha := ha.below hb6
    replace hb := hb.below hb6
    replace hs := hs.below hb6
    replace hd := hd.below hb6
    replace HBT := Below.cons HBT hb6
    clear hb6
    go_wp2_with (fail)
    obtain ⟨dd, Edd⟩ : ∃ zq : Nat, zq = d * d := ⟨_, rfl⟩
    have Bdd : nl dd ≤ 240 := by rw [Edd]; have := nl_mul d d; omega
    refine (Calls.mono (R := RetN W6 dd) (by rw [Edd]; exact (by_c x X5 c5 d X5 c5 d _ hx8 hd hd hG (by omega) (by omega))) ?_)
    replace Edd := Lib.hid Edd
    rintro e W7 ⟨X7, c7, rfl, hdd, hb7⟩
    replace hG := hG.below hb7
    replace hl := hl.below hb7
    replace hm := hm.below hb7
    replace q0 := cell_below hb7 q0
    replace q1 := cell_below hb7 q1
    replace ha := ha.below hb7
    replace hb := hb.below hb7
    replace hs := hs.below hb7
    replace hd := hd.below hb7
    replace hss := hss.below hb7
    replace HBT := Below.cons HBT hb7
    clear hb7
    go_wp2_with (fail)
    have hsq : dd ≤ ss := by rw [Edd.out, Ess.out, Es.out, Ed.out]; exact Nat.mul_le_mul (Nat.le_trans (Nat.sub_le _ _) (Nat.le_add_right _ _)) (Nat.le_trans (Nat.sub_le _ _) (Nat.le_add_right _ _))
    replace hsq := Lib.hid hsq
    obtain ⟨four, Efour⟩ : ∃ zq : Nat, zq = ss - dd := ⟨_, rfl⟩
    have Bfour : nl four ≤ 242 := by rw [Efour]; have := nl_sub ss dd; omega
    have CS := sub_c X6 c6 ss X7 c7 dd _ hss hdd (by omega) (by omega) (hsq.out)
    rw [← Efour] at CS
    replace Efour := Lib.hid Efour
    refine (Calls.mono (CS) ?_)
    rintro e W8 ⟨X8, c8, rfl, hfour, hb8⟩
    clear CS
    replace hG := hG.below hb8
    replace hl := hl.below hb8
    replace hm := hm.below hb8
    replace q0 := cell_below hb8 q0
    replace q1 := cell_below hb8 q1
    replace ha := ha.below hb8
    replace hb := hb.below hb8
    replace hs := hs.below hb8
    replace hd := hd.below hb8
    replace hss := hss.below hb8
    replace hdd := hdd.below hb8
    replace HBT := Below.cons HBT hb8
    clear hb8
    go_wp2_with (fail)
    obtain ⟨ab, Eab⟩ : ∃ zq : Nat, zq = b * a := ⟨_, rfl⟩
    have Bab : nl ab ≤ 240 := by rw [Eab]; have := nl_mul b a; omega
    refine (Calls.mono (R := RetN W8 ab) (by rw [Eab]; exact (by_c x X3 c3 b X2 c2 a _ hx8 hb ha hG (by omega) (by omega))) ?_)
    replace Eab := Lib.hid Eab
    rintro e W9 ⟨X9, c9, rfl, hab, hb9⟩
    replace hG := hG.below hb9
    replace hl := hl.below hb9
    replace hm := hm.below hb9
    replace q0 := cell_below hb9 q0
    replace q1 := cell_below hb9 q1
    replace ha := ha.below hb9
    replace hb := hb.below hb9
    replace hs := hs.below hb9
    replace hd := hd.below hb9
    replace hss := hss.below hb9
    replace hdd := hdd.below hb9
    replace hfour := hfour.below hb9
    replace HBT := Below.cons HBT hb9
    clear hb9
    go_wp2_with (fail)
    obtain ⟨ab4, Eab4⟩ : ∃ zq : Nat, zq = ab * 2 ^ (2) := ⟨_, rfl⟩
    have Bab4 : nl ab4 ≤ 242 := by rw [Eab4]; have := nl_shl ab (2); omega
    refine (Calls.mono (R := RetN W9 ab4) (by rw [Eab4]; exact (shl_e X9 c9 ab (2) (2) _ hab (by omega) (rfl) (by omega))) ?_)
    replace Eab4 := Lib.hid Eab4
    rintro e W10 ⟨X10, c10, rfl, hab4, hb10⟩
    replace hG := hG.below hb10
    replace hl := hl.below hb10
    replace hm := hm.below hb10
    replace q0 := cell_below hb10 q0
    replace q1 := cell_below hb10 q1
    replace ha := ha.below hb10
    replace hb := hb.below hb10
    replace hs := hs.below hb10
    replace hd := hd.below hb10
    replace hss := hss.below hb10
    replace hdd := hdd.below hb10
    replace hfour := hfour.below hb10
    replace hab := hab.below hb10
    replace HBT := Below.cons HBT hb10
    clear hb10
    go_wp2_with (fail)
    refine (Calls.mono (same_t X8 c8 four X10 c10 ab4 _ hfour hab4 (by omega) (by omega) (by rw [Efour.out, Eab4.out, Edd.out, Ess.out, Es.out, Ed.out, Eab.out]; exact sq_law b a (hle.out))) ?_)
    rintro e W11 ⟨rfl, hb11⟩
    replace hG := hG.below hb11
    replace hl := hl.below hb11
    replace hm := hm.below hb11
    replace q0 := cell_below hb11 q0
    replace q1 := cell_below hb11 q1
    replace ha := ha.below hb11
    replace hb := hb.below hb11
    replace hs := hs.below hb11
    replace hd := hd.below hb11
    replace hss := hss.below hb11
    replace hdd := hdd.below hb11
    replace hfour := hfour.below hb11
    replace hab := hab.below hb11
    replace hab4 := hab4.below hb11
    replace HBT := Below.cons HBT hb11
    clear hb11
    clear hfour
    clear hab4
    clear hab
    clear hss
    clear hdd
    clear hs
    clear hd
    have hb12 : Below (W11).heap.size (W11) ((W11).alloc (.cells #[.int .u32 1] 35)) := (Below.refl _ _).alloc (Nat.le_refl _) _
    have ho := nlit (l := [1]) _ _ _ (heap_alloc_new (W11) (.cells #[.int .u32 1] 35)) rfl (by decide) (by decide) (by decide)
    obtain ⟨o, Eo⟩ : ∃ zq : Nat, zq = val [1] := ⟨_, rfl⟩
    rw [← Eo] at ho
    have No : nl o = 1 := by rw [Eo]; exact nl_lit (by decide) (by decide)
    have Bo : nl o ≤ 1 := Nat.le_of_eq No
    replace No := Lib.hid No
    replace Eo := Lib.hid Eo
    replace hG := hG.below hb12
    replace hl := hl.below hb12
    replace hm := hm.below hb12
    replace q0 := cell_below hb12 q0
    replace q1 := cell_below hb12 q1
    replace ha := ha.below hb12
    replace hb := hb.below hb12
    replace HBT := Below.cons HBT hb12
    clear hb12
    go_wp2_with (fail)
    obtain ⟨P, EP⟩ : ∃ zq : Nat, zq = o * 2 ^ (is) := ⟨_, rfl⟩
    have BP : nl P ≤ 112 := by rw [EP]; have := nl_shl o (is); omega
    refine (Calls.mono (R := RetN ((W11).alloc (.cells #[.int .u32 1] 35)) P) (by rw [EP]; exact (at_len1 No.out (shl_e _ _ o (is) (is) _ ho (by omega) (rfl) (by omega)))) ?_)
    replace EP := Lib.hid EP
    rintro e W13 ⟨X13, c13, rfl, hP, hb13⟩
    replace hG := hG.below hb13
    replace hl := hl.below hb13
    replace hm := hm.below hb13
    replace q0 := cell_below hb13 q0
    replace q1 := cell_below hb13 q1
    replace ha := ha.below hb13
    replace hb := hb.below hb13
    replace ho := ho.below hb13
    replace HBT := Below.cons HBT hb13
    clear hb13
    go_wp2_with (fail)
    have leP : o ≤ P := by rw [EP.out, Eo.out]; simp [val]; exact Nat.two_pow_pos _
    replace leP := Lib.hid leP
    obtain ⟨p, Ep⟩ : ∃ zq : Nat, zq = P - o := ⟨_, rfl⟩
    have Bp : nl p ≤ 112 := by rw [Ep]; have := nl_sub P o; omega
    have CS := sub_c X13 c13 P _ _ o _ hP ho (by omega) (by omega) (leP.out)
    rw [← Ep] at CS
    replace Ep := Lib.hid Ep
    refine (Calls.mono (at_lenR No.out (CS)) ?_)
    rintro e W14 ⟨X14, c14, rfl, hp, hb14⟩
    clear CS
    replace hG := hG.below hb14
    replace hl := hl.below hb14
    replace hm := hm.below hb14
    replace q0 := cell_below hb14 q0
    replace q1 := cell_below hb14 q1
    replace ha := ha.below hb14
    replace hb := hb.below hb14
    replace ho := ho.below hb14
    replace hP := hP.below hb14
    replace HBT := Below.cons HBT hb14
    clear hb14
    go_wp2_with (fail)
    obtain ⟨Q, EQ⟩ : ∃ zq : Nat, zq = o * 2 ^ (ks) := ⟨_, rfl⟩
    have BQ : nl Q ≤ 112 := by rw [EQ]; have := nl_shl o (ks); omega
    refine (Calls.mono (R := RetN W14 Q) (by rw [EQ]; exact (at_len1 No.out (shl_e _ _ o (ks) (ks) _ ho (by omega) (rfl) (by omega)))) ?_)
    replace EQ := Lib.hid EQ
    rintro e W15 ⟨X15, c15, rfl, hQ, hb15⟩
    replace hG := hG.below hb15
    replace hl := hl.below hb15
    replace hm := hm.below hb15
    replace q0 := cell_below hb15 q0
    replace q1 := cell_below hb15 q1
    replace ha := ha.below hb15
    replace hb := hb.below hb15
    replace ho := ho.below hb15
    replace hP := hP.below hb15
    replace hp := hp.below hb15
    replace HBT := Below.cons HBT hb15
    clear hb15
    go_wp2_with (fail)
    have leQ : o ≤ Q := by rw [EQ.out, Eo.out]; simp [val]; exact Nat.two_pow_pos _
    replace leQ := Lib.hid leQ
    obtain ⟨q, Eq⟩ : ∃ zq : Nat, zq = Q - o := ⟨_, rfl⟩
    have Bq : nl q ≤ 112 := by rw [Eq]; have := nl_sub Q o; omega
    have CS := sub_c X15 c15 Q _ _ o _ hQ ho (by omega) (by omega) (leQ.out)
    rw [← Eq] at CS
    replace Eq := Lib.hid Eq
    refine (Calls.mono (at_lenR No.out (CS)) ?_)
    rintro e W16 ⟨X16, c16, rfl, hq, hb16⟩
    clear CS
    replace hG := hG.below hb16
    replace hl := hl.below hb16
    replace hm := hm.below hb16
    replace q0 := cell_below hb16 q0
    replace q1 := cell_below hb16 q1
    replace ha := ha.below hb16
    replace hb := hb.below hb16
    replace ho := ho.below hb16
    replace hP := hP.below hb16
    replace hp := hp.below hb16
    replace hQ := hQ.below hb16
    replace HBT := Below.cons HBT hb16
    clear hb16
    go_wp2_with (fail)
    obtain ⟨pq, Epq⟩ : ∃ zq : Nat, zq = p * q := ⟨_, rfl⟩
    have Bpq : nl pq ≤ 224 := by rw [Epq]; have := nl_mul p q; omega
    refine (Calls.mono (R := RetN W16 pq) (by rw [Epq]; exact (by_c x X14 c14 p X16 c16 q _ hx8 hp hq hG (by omega) (by omega))) ?_)
    replace Epq := Lib.hid Epq
    rintro e W17 ⟨X17, c17, rfl, hpq, hb17⟩
    replace hG := hG.below hb17
    replace hl := hl.below hb17
    replace hm := hm.below hb17
    replace q0 := cell_below hb17 q0
    replace q1 := cell_below hb17 q1
    replace ha := ha.below hb17
    replace hb := hb.below hb17
    replace ho := ho.below hb17
    replace hP := hP.below hb17
    replace hp := hp.below hb17
    replace hQ := hQ.below hb17
    replace hq := hq.below hb17
    replace HBT := Below.cons HBT hb17
    clear hb17
    go_wp2_with (fail)
    obtain ⟨P2, EP2⟩ : ∃ zq : Nat, zq = o * 2 ^ (is) := ⟨_, rfl⟩
    have BP2 : nl P2 ≤ 112 := by rw [EP2]; have := nl_shl o (is); omega
    refine (Calls.mono (R := RetN W17 P2) (by rw [EP2]; exact (at_len1 No.out (shl_e _ _ o (is) (is) _ ho (by omega) (rfl) (by omega)))) ?_)
    replace EP2 := Lib.hid EP2
    rintro e W18 ⟨X18, c18, rfl, hP2, hb18⟩
    replace hG := hG.below hb18
    replace hl := hl.below hb18
    replace hm := hm.below hb18
    replace q0 := cell_below hb18 q0
    replace q1 := cell_below hb18 q1
    replace ha := ha.below hb18
    replace hb := hb.below hb18
    replace ho := ho.below hb18
    replace hP := hP.below hb18
    replace hp := hp.below hb18
    replace hQ := hQ.below hb18
    replace hq := hq.below hb18
    replace hpq := hpq.below hb18
    replace HBT := Below.cons HBT hb18
    clear hb18
    go_wp2_with (fail)
    obtain ⟨Q2, EQ2⟩ : ∃ zq : Nat, zq = o * 2 ^ (ks) := ⟨_, rfl⟩
    have BQ2 : nl Q2 ≤ 112 := by rw [EQ2]; have := nl_shl o (ks); omega
    refine (Calls.mono (R := RetN W18 Q2) (by rw [EQ2]; exact (at_len1 No.out (shl_e _ _ o (ks) (ks) _ ho (by omega) (rfl) (by omega)))) ?_)
    replace EQ2 := Lib.hid EQ2
    rintro e W19 ⟨X19, c19, rfl, hQ2, hb19⟩
    replace hG := hG.below hb19
    replace hl := hl.below hb19
    replace hm := hm.below hb19
    replace q0 := cell_below hb19 q0
    replace q1 := cell_below hb19 q1
    replace ha := ha.below hb19
    replace hb := hb.below hb19
    replace ho := ho.below hb19
    replace hP := hP.below hb19
    replace hp := hp.below hb19
    replace hQ := hQ.below hb19
    replace hq := hq.below hb19
    replace hpq := hpq.below hb19
    replace hP2 := hP2.below hb19
    replace HBT := Below.cons HBT hb19
    clear hb19
    go_wp2_with (fail)
    obtain ⟨PQ, EPQ⟩ : ∃ zq : Nat, zq = P2 + Q2 := ⟨_, rfl⟩
    have BPQ : nl PQ ≤ 113 := by rw [EPQ]; have := nl_add P2 Q2; omega
    refine (Calls.mono (R := RetN W19 PQ) (by rw [EPQ]; exact (add_c  X18 c18 P2 X19 c19 Q2 _ hP2 hQ2 (by omega) (by omega))) ?_)
    replace EPQ := Lib.hid EPQ
    rintro e W20 ⟨X20, c20, rfl, hPQ, hb20⟩
    replace hG := hG.below hb20
    replace hl := hl.below hb20
    replace hm := hm.below hb20
    replace q0 := cell_below hb20 q0
    replace q1 := cell_below hb20 q1
    replace ha := ha.below hb20
    replace hb := hb.below hb20
    replace ho := ho.below hb20
    replace hP := hP.below hb20
    replace hp := hp.below hb20
    replace hQ := hQ.below hb20
    replace hq := hq.below hb20
    replace hpq := hpq.below hb20
    replace hP2 := hP2.below hb20
    replace hQ2 := hQ2.below hb20
    replace HBT := Below.cons HBT hb20
    clear hb20
    go_wp2_with (fail)
    obtain ⟨al, Eal⟩ : ∃ zq : Nat, zq = pq + PQ := ⟨_, rfl⟩
    have Bal : nl al ≤ 225 := by rw [Eal]; have := nl_add pq PQ; omega
    refine (Calls.mono (R := RetN W20 al) (by rw [Eal]; exact (add_c  X17 c17 pq X20 c20 PQ _ hpq hPQ (by omega) (by omega))) ?_)
    replace Eal := Lib.hid Eal
    rintro e W21 ⟨X21, c21, rfl, hal, hb21⟩
    replace hG := hG.below hb21
    replace hl := hl.below hb21
    replace hm := hm.below hb21
    replace q0 := cell_below hb21 q0
    replace q1 := cell_below hb21 q1
    replace ha := ha.below hb21
    replace hb := hb.below hb21
    replace ho := ho.below hb21
    replace hP := hP.below hb21
    replace hp := hp.below hb21
    replace hQ := hQ.below hb21
    replace hq := hq.below hb21
    replace hpq := hpq.below hb21
    replace hP2 := hP2.below hb21
    replace hQ2 := hQ2.below hb21
    replace hPQ := hPQ.below hb21
    replace HBT := Below.cons HBT hb21
    clear hb21
    go_wp2_with (fail)
    obtain ⟨Z, EZ⟩ : ∃ zq : Nat, zq = o * 2 ^ (iks) := ⟨_, rfl⟩
    have BZ : nl Z ≤ 112 := by rw [EZ]; have := nl_shl o (iks); omega
    refine (Calls.mono (R := RetN W21 Z) (by rw [EZ]; exact (at_len1 No.out (shl_e _ _ o (iks) (iks) _ ho (by omega) (rfl) (by omega)))) ?_)
    replace EZ := Lib.hid EZ
    rintro e W22 ⟨X22, c22, rfl, hZ, hb22⟩
    replace hG := hG.below hb22
    replace hl := hl.below hb22
    replace hm := hm.below hb22
    replace q0 := cell_below hb22 q0
    replace q1 := cell_below hb22 q1
    replace ha := ha.below hb22
    replace hb := hb.below hb22
    replace ho := ho.below hb22
    replace hP := hP.below hb22
    replace hp := hp.below hb22
    replace hQ := hQ.below hb22
    replace hq := hq.below hb22
    replace hpq := hpq.below hb22
    replace hP2 := hP2.below hb22
    replace hQ2 := hQ2.below hb22
    replace hPQ := hPQ.below hb22
    replace hal := hal.below hb22
    replace HBT := Below.cons HBT hb22
    clear hb22
    go_wp2_with (fail)
    obtain ⟨z1, Ez1⟩ : ∃ zq : Nat, zq = Z + o := ⟨_, rfl⟩
    have Bz1 : nl z1 ≤ 113 := by rw [Ez1]; have := nl_add Z o; omega
    refine (Calls.mono (R := RetN W22 z1) (by rw [Ez1]; exact (at_lenR No.out (add_c  X22 c22 Z _ _ o _ hZ ho (by omega) (by omega)))) ?_)
    replace Ez1 := Lib.hid Ez1
    rintro e W23 ⟨X23, c23, rfl, hz1, hb23⟩
    replace hG := hG.below hb23
    replace hl := hl.below hb23
    replace hm := hm.below hb23
    replace q0 := cell_below hb23 q0
    replace q1 := cell_below hb23 q1
    replace ha := ha.below hb23
    replace hb := hb.below hb23
    replace ho := ho.below hb23
    replace hP := hP.below hb23
    replace hp := hp.below hb23
    replace hQ := hQ.below hb23
    replace hq := hq.below hb23
    replace hpq := hpq.below hb23
    replace hP2 := hP2.below hb23
    replace hQ2 := hQ2.below hb23
    replace hPQ := hPQ.below hb23
    replace hal := hal.below hb23
    replace hZ := hZ.below hb23
    replace HBT := Below.cons HBT hb23
    clear hb23
    go_wp2_with (fail)
    refine (Calls.mono (same_t X21 c21 al X23 c23 z1 _ hal hz1 (by omega) (by omega) (by rw [Eal.out, Ez1.out, EZ.out, EPQ.out, EP2.out, EQ2.out, Epq.out, Ep.out, Eq.out, EP.out, EQ.out, Eo.out, Eiks.out, Eik.out, Eis.out, Eks.out]; exact all_law i k)) ?_)
    rintro e W24 ⟨rfl, hb24⟩
    replace hG := hG.below hb24
    replace hl := hl.below hb24
    replace hm := hm.below hb24
    replace q0 := cell_below hb24 q0
    replace q1 := cell_below hb24 q1
    replace ha := ha.below hb24
    replace hb := hb.below hb24
    replace ho := ho.below hb24
    replace hP := hP.below hb24
    replace hp := hp.below hb24
    replace hQ := hQ.below hb24
    replace hq := hq.below hb24
    replace hpq := hpq.below hb24
    replace hP2 := hP2.below hb24
    replace hQ2 := hQ2.below hb24
    replace hPQ := hPQ.below hb24
    replace hal := hal.below hb24
    replace hZ := hZ.below hb24
    replace hz1 := hz1.below hb24
    replace HBT := Below.cons HBT hb24
    clear hb24
    go_wp2_with (fail)
    go_ret
    exact ⟨rfl, HBT⟩
  · have hd : decide (cmpN a b < 0) = false := by rw [decide_eq_false_iff_not, cmpN_neg]; exact hab
    have hle : b ≤ a := Nat.le_of_not_lt hab
    replace hle := Lib.hid hle
    clear hab
    go_wp2_with (fail)
    obtain ⟨s, Es⟩ : ∃ zq : Nat, zq = a + b := ⟨_, rfl⟩
    have Bs : nl s ≤ 121 := by rw [Es]; have := nl_add a b; omega
    refine (Calls.mono (R := RetN WC s) (by rw [Es]; exact (add_c  X2 c2 a X3 c3 b _ ha hb (by omega) (by omega))) ?_)
    replace Es := Lib.hid Es
    rintro e W4 ⟨X4, c4, rfl, hs, hb4⟩
    replace hG := hG.below hb4
    replace hl := hl.below hb4
    replace hm := hm.below hb4
    replace q0 := cell_below hb4 q0
    replace q1 := cell_below hb4 q1
    replace ha := ha.below hb4
    replace hb := hb.below hb4
    replace HBT := Below.cons HBT hb4
    clear hb4
    go_wp2_with (fail)
    obtain ⟨d, Ed⟩ : ∃ zq : Nat, zq = a - b := ⟨_, rfl⟩
    have Bd : nl d ≤ 120 := by rw [Ed]; have := nl_sub a b; omega
    have CS := sub_c X2 c2 a X3 c3 b _ ha hb (by omega) (by omega) (hle.out)
    rw [← Ed] at CS
    replace Ed := Lib.hid Ed
    refine (Calls.mono (CS) ?_)
    rintro e W5 ⟨X5, c5, rfl, hd, hb5⟩
    clear CS
    replace hG := hG.below hb5
    replace hl := hl.below hb5
    replace hm := hm.below hb5
    replace q0 := cell_below hb5 q0
    replace q1 := cell_below hb5 q1
    replace ha := ha.below hb5
    replace hb := hb.below hb5
    replace hs := hs.below hb5
    replace HBT := Below.cons HBT hb5
    clear hb5
    go_wp2_with (fail)
    obtain ⟨ss, Ess⟩ : ∃ zq : Nat, zq = s * s := ⟨_, rfl⟩
    have Bss : nl ss ≤ 242 := by rw [Ess]; have := nl_mul s s; omega
    refine (Calls.mono (R := RetN W5 ss) (by rw [Ess]; exact (by_c x X4 c4 s X4 c4 s _ hx8 hs hs hG (by omega) (by omega))) ?_)
    replace Ess := Lib.hid Ess
    rintro e W6 ⟨X6, c6, rfl, hss, hb6⟩
    replace hG := hG.below hb6
    replace hl := hl.below hb6
    replace hm := hm.below hb6
    replace q0 := cell_below hb6 q0
    replace q1 := cell_below hb6 q1
    replace ha := ha.below hb6
    replace hb := hb.below hb6
    replace hs := hs.below hb6
    replace hd := hd.below hb6
    replace HBT := Below.cons HBT hb6
    clear hb6
    go_wp2_with (fail)
    obtain ⟨dd, Edd⟩ : ∃ zq : Nat, zq = d * d := ⟨_, rfl⟩
    have Bdd : nl dd ≤ 240 := by rw [Edd]; have := nl_mul d d; omega
    refine (Calls.mono (R := RetN W6 dd) (by rw [Edd]; exact (by_c x X5 c5 d X5 c5 d _ hx8 hd hd hG (by omega) (by omega))) ?_)
    replace Edd := Lib.hid Edd
    rintro e W7 ⟨X7, c7, rfl, hdd, hb7⟩
    replace hG := hG.below hb7
    replace hl := hl.below hb7
    replace hm := hm.below hb7
    replace q0 := cell_below hb7 q0
    replace q1 := cell_below hb7 q1
    replace ha := ha.below hb7
    replace hb := hb.below hb7
    replace hs := hs.below hb7
    replace hd := hd.below hb7
    replace hss := hss.below hb7
    replace HBT := Below.cons HBT hb7
    clear hb7
    go_wp2_with (fail)
    have hsq : dd ≤ ss := by rw [Edd.out, Ess.out, Es.out, Ed.out]; exact Nat.mul_le_mul (Nat.le_trans (Nat.sub_le _ _) (Nat.le_add_right _ _)) (Nat.le_trans (Nat.sub_le _ _) (Nat.le_add_right _ _))
    replace hsq := Lib.hid hsq
    obtain ⟨four, Efour⟩ : ∃ zq : Nat, zq = ss - dd := ⟨_, rfl⟩
    have Bfour : nl four ≤ 242 := by rw [Efour]; have := nl_sub ss dd; omega
    have CS := sub_c X6 c6 ss X7 c7 dd _ hss hdd (by omega) (by omega) (hsq.out)
    rw [← Efour] at CS
    replace Efour := Lib.hid Efour
    refine (Calls.mono (CS) ?_)
    rintro e W8 ⟨X8, c8, rfl, hfour, hb8⟩
    clear CS
    replace hG := hG.below hb8
    replace hl := hl.below hb8
    replace hm := hm.below hb8
    replace q0 := cell_below hb8 q0
    replace q1 := cell_below hb8 q1
    replace ha := ha.below hb8
    replace hb := hb.below hb8
    replace hs := hs.below hb8
    replace hd := hd.below hb8
    replace hss := hss.below hb8
    replace hdd := hdd.below hb8
    replace HBT := Below.cons HBT hb8
    clear hb8
    go_wp2_with (fail)
    obtain ⟨ab, Eab⟩ : ∃ zq : Nat, zq = a * b := ⟨_, rfl⟩
    have Bab : nl ab ≤ 240 := by rw [Eab]; have := nl_mul a b; omega
    refine (Calls.mono (R := RetN W8 ab) (by rw [Eab]; exact (by_c x X2 c2 a X3 c3 b _ hx8 ha hb hG (by omega) (by omega))) ?_)
    replace Eab := Lib.hid Eab
    rintro e W9 ⟨X9, c9, rfl, hab, hb9⟩
    replace hG := hG.below hb9
    replace hl := hl.below hb9
    replace hm := hm.below hb9
    replace q0 := cell_below hb9 q0
    replace q1 := cell_below hb9 q1
    replace ha := ha.below hb9
    replace hb := hb.below hb9
    replace hs := hs.below hb9
    replace hd := hd.below hb9
    replace hss := hss.below hb9
    replace hdd := hdd.below hb9
    replace hfour := hfour.below hb9
    replace HBT := Below.cons HBT hb9
    clear hb9
    go_wp2_with (fail)
    obtain ⟨ab4, Eab4⟩ : ∃ zq : Nat, zq = ab * 2 ^ (2) := ⟨_, rfl⟩
    have Bab4 : nl ab4 ≤ 242 := by rw [Eab4]; have := nl_shl ab (2); omega
    refine (Calls.mono (R := RetN W9 ab4) (by rw [Eab4]; exact (shl_e X9 c9 ab (2) (2) _ hab (by omega) (rfl) (by omega))) ?_)
    replace Eab4 := Lib.hid Eab4
    rintro e W10 ⟨X10, c10, rfl, hab4, hb10⟩
    replace hG := hG.below hb10
    replace hl := hl.below hb10
    replace hm := hm.below hb10
    replace q0 := cell_below hb10 q0
    replace q1 := cell_below hb10 q1
    replace ha := ha.below hb10
    replace hb := hb.below hb10
    replace hs := hs.below hb10
    replace hd := hd.below hb10
    replace hss := hss.below hb10
    replace hdd := hdd.below hb10
    replace hfour := hfour.below hb10
    replace hab := hab.below hb10
    replace HBT := Below.cons HBT hb10
    clear hb10
    go_wp2_with (fail)
    refine (Calls.mono (same_t X8 c8 four X10 c10 ab4 _ hfour hab4 (by omega) (by omega) (by rw [Efour.out, Eab4.out, Edd.out, Ess.out, Es.out, Ed.out, Eab.out]; exact sq_law a b (hle.out))) ?_)
    rintro e W11 ⟨rfl, hb11⟩
    replace hG := hG.below hb11
    replace hl := hl.below hb11
    replace hm := hm.below hb11
    replace q0 := cell_below hb11 q0
    replace q1 := cell_below hb11 q1
    replace ha := ha.below hb11
    replace hb := hb.below hb11
    replace hs := hs.below hb11
    replace hd := hd.below hb11
    replace hss := hss.below hb11
    replace hdd := hdd.below hb11
    replace hfour := hfour.below hb11
    replace hab := hab.below hb11
    replace hab4 := hab4.below hb11
    replace HBT := Below.cons HBT hb11
    clear hb11
    clear hfour
    clear hab4
    clear hab
    clear hss
    clear hdd
    clear hs
    clear hd
    have hb12 : Below (W11).heap.size (W11) ((W11).alloc (.cells #[.int .u32 1] 35)) := (Below.refl _ _).alloc (Nat.le_refl _) _
    have ho := nlit (l := [1]) _ _ _ (heap_alloc_new (W11) (.cells #[.int .u32 1] 35)) rfl (by decide) (by decide) (by decide)
    obtain ⟨o, Eo⟩ : ∃ zq : Nat, zq = val [1] := ⟨_, rfl⟩
    rw [← Eo] at ho
    have No : nl o = 1 := by rw [Eo]; exact nl_lit (by decide) (by decide)
    have Bo : nl o ≤ 1 := Nat.le_of_eq No
    replace No := Lib.hid No
    replace Eo := Lib.hid Eo
    replace hG := hG.below hb12
    replace hl := hl.below hb12
    replace hm := hm.below hb12
    replace q0 := cell_below hb12 q0
    replace q1 := cell_below hb12 q1
    replace ha := ha.below hb12
    replace hb := hb.below hb12
    replace HBT := Below.cons HBT hb12
    clear hb12
    go_wp2_with (fail)
    obtain ⟨P, EP⟩ : ∃ zq : Nat, zq = o * 2 ^ (is) := ⟨_, rfl⟩
    have BP : nl P ≤ 112 := by rw [EP]; have := nl_shl o (is); omega
    refine (Calls.mono (R := RetN ((W11).alloc (.cells #[.int .u32 1] 35)) P) (by rw [EP]; exact (at_len1 No.out (shl_e _ _ o (is) (is) _ ho (by omega) (rfl) (by omega)))) ?_)
    replace EP := Lib.hid EP
    rintro e W13 ⟨X13, c13, rfl, hP, hb13⟩
    replace hG := hG.below hb13
    replace hl := hl.below hb13
    replace hm := hm.below hb13
    replace q0 := cell_below hb13 q0
    replace q1 := cell_below hb13 q1
    replace ha := ha.below hb13
    replace hb := hb.below hb13
    replace ho := ho.below hb13
    replace HBT := Below.cons HBT hb13
    clear hb13
    go_wp2_with (fail)
    have leP : o ≤ P := by rw [EP.out, Eo.out]; simp [val]; exact Nat.two_pow_pos _
    replace leP := Lib.hid leP
    obtain ⟨p, Ep⟩ : ∃ zq : Nat, zq = P - o := ⟨_, rfl⟩
    have Bp : nl p ≤ 112 := by rw [Ep]; have := nl_sub P o; omega
    have CS := sub_c X13 c13 P _ _ o _ hP ho (by omega) (by omega) (leP.out)
    rw [← Ep] at CS
    replace Ep := Lib.hid Ep
    refine (Calls.mono (at_lenR No.out (CS)) ?_)
    rintro e W14 ⟨X14, c14, rfl, hp, hb14⟩
    clear CS
    replace hG := hG.below hb14
    replace hl := hl.below hb14
    replace hm := hm.below hb14
    replace q0 := cell_below hb14 q0
    replace q1 := cell_below hb14 q1
    replace ha := ha.below hb14
    replace hb := hb.below hb14
    replace ho := ho.below hb14
    replace hP := hP.below hb14
    replace HBT := Below.cons HBT hb14
    clear hb14
    go_wp2_with (fail)
    obtain ⟨Q, EQ⟩ : ∃ zq : Nat, zq = o * 2 ^ (ks) := ⟨_, rfl⟩
    have BQ : nl Q ≤ 112 := by rw [EQ]; have := nl_shl o (ks); omega
    refine (Calls.mono (R := RetN W14 Q) (by rw [EQ]; exact (at_len1 No.out (shl_e _ _ o (ks) (ks) _ ho (by omega) (rfl) (by omega)))) ?_)
    replace EQ := Lib.hid EQ
    rintro e W15 ⟨X15, c15, rfl, hQ, hb15⟩
    replace hG := hG.below hb15
    replace hl := hl.below hb15
    replace hm := hm.below hb15
    replace q0 := cell_below hb15 q0
    replace q1 := cell_below hb15 q1
    replace ha := ha.below hb15
    replace hb := hb.below hb15
    replace ho := ho.below hb15
    replace hP := hP.below hb15
    replace hp := hp.below hb15
    replace HBT := Below.cons HBT hb15
    clear hb15
    go_wp2_with (fail)
    have leQ : o ≤ Q := by rw [EQ.out, Eo.out]; simp [val]; exact Nat.two_pow_pos _
    replace leQ := Lib.hid leQ
    obtain ⟨q, Eq⟩ : ∃ zq : Nat, zq = Q - o := ⟨_, rfl⟩
    have Bq : nl q ≤ 112 := by rw [Eq]; have := nl_sub Q o; omega
    have CS := sub_c X15 c15 Q _ _ o _ hQ ho (by omega) (by omega) (leQ.out)
    rw [← Eq] at CS
    replace Eq := Lib.hid Eq
    refine (Calls.mono (at_lenR No.out (CS)) ?_)
    rintro e W16 ⟨X16, c16, rfl, hq, hb16⟩
    clear CS
    replace hG := hG.below hb16
    replace hl := hl.below hb16
    replace hm := hm.below hb16
    replace q0 := cell_below hb16 q0
    replace q1 := cell_below hb16 q1
    replace ha := ha.below hb16
    replace hb := hb.below hb16
    replace ho := ho.below hb16
    replace hP := hP.below hb16
    replace hp := hp.below hb16
    replace hQ := hQ.below hb16
    replace HBT := Below.cons HBT hb16
    clear hb16
    go_wp2_with (fail)
    obtain ⟨pq, Epq⟩ : ∃ zq : Nat, zq = p * q := ⟨_, rfl⟩
    have Bpq : nl pq ≤ 224 := by rw [Epq]; have := nl_mul p q; omega
    refine (Calls.mono (R := RetN W16 pq) (by rw [Epq]; exact (by_c x X14 c14 p X16 c16 q _ hx8 hp hq hG (by omega) (by omega))) ?_)
    replace Epq := Lib.hid Epq
    rintro e W17 ⟨X17, c17, rfl, hpq, hb17⟩
    replace hG := hG.below hb17
    replace hl := hl.below hb17
    replace hm := hm.below hb17
    replace q0 := cell_below hb17 q0
    replace q1 := cell_below hb17 q1
    replace ha := ha.below hb17
    replace hb := hb.below hb17
    replace ho := ho.below hb17
    replace hP := hP.below hb17
    replace hp := hp.below hb17
    replace hQ := hQ.below hb17
    replace hq := hq.below hb17
    replace HBT := Below.cons HBT hb17
    clear hb17
    go_wp2_with (fail)
    obtain ⟨P2, EP2⟩ : ∃ zq : Nat, zq = o * 2 ^ (is) := ⟨_, rfl⟩
    have BP2 : nl P2 ≤ 112 := by rw [EP2]; have := nl_shl o (is); omega
    refine (Calls.mono (R := RetN W17 P2) (by rw [EP2]; exact (at_len1 No.out (shl_e _ _ o (is) (is) _ ho (by omega) (rfl) (by omega)))) ?_)
    replace EP2 := Lib.hid EP2
    rintro e W18 ⟨X18, c18, rfl, hP2, hb18⟩
    replace hG := hG.below hb18
    replace hl := hl.below hb18
    replace hm := hm.below hb18
    replace q0 := cell_below hb18 q0
    replace q1 := cell_below hb18 q1
    replace ha := ha.below hb18
    replace hb := hb.below hb18
    replace ho := ho.below hb18
    replace hP := hP.below hb18
    replace hp := hp.below hb18
    replace hQ := hQ.below hb18
    replace hq := hq.below hb18
    replace hpq := hpq.below hb18
    replace HBT := Below.cons HBT hb18
    clear hb18
    go_wp2_with (fail)
    obtain ⟨Q2, EQ2⟩ : ∃ zq : Nat, zq = o * 2 ^ (ks) := ⟨_, rfl⟩
    have BQ2 : nl Q2 ≤ 112 := by rw [EQ2]; have := nl_shl o (ks); omega
    refine (Calls.mono (R := RetN W18 Q2) (by rw [EQ2]; exact (at_len1 No.out (shl_e _ _ o (ks) (ks) _ ho (by omega) (rfl) (by omega)))) ?_)
    replace EQ2 := Lib.hid EQ2
    rintro e W19 ⟨X19, c19, rfl, hQ2, hb19⟩
    replace hG := hG.below hb19
    replace hl := hl.below hb19
    replace hm := hm.below hb19
    replace q0 := cell_below hb19 q0
    replace q1 := cell_below hb19 q1
    replace ha := ha.below hb19
    replace hb := hb.below hb19
    replace ho := ho.below hb19
    replace hP := hP.below hb19
    replace hp := hp.below hb19
    replace hQ := hQ.below hb19
    replace hq := hq.below hb19
    replace hpq := hpq.below hb19
    replace hP2 := hP2.below hb19
    replace HBT := Below.cons HBT hb19
    clear hb19
    go_wp2_with (fail)
    obtain ⟨PQ, EPQ⟩ : ∃ zq : Nat, zq = P2 + Q2 := ⟨_, rfl⟩
    have BPQ : nl PQ ≤ 113 := by rw [EPQ]; have := nl_add P2 Q2; omega
    refine (Calls.mono (R := RetN W19 PQ) (by rw [EPQ]; exact (add_c  X18 c18 P2 X19 c19 Q2 _ hP2 hQ2 (by omega) (by omega))) ?_)
    replace EPQ := Lib.hid EPQ
    rintro e W20 ⟨X20, c20, rfl, hPQ, hb20⟩
    replace hG := hG.below hb20
    replace hl := hl.below hb20
    replace hm := hm.below hb20
    replace q0 := cell_below hb20 q0
    replace q1 := cell_below hb20 q1
    replace ha := ha.below hb20
    replace hb := hb.below hb20
    replace ho := ho.below hb20
    replace hP := hP.below hb20
    replace hp := hp.below hb20
    replace hQ := hQ.below hb20
    replace hq := hq.below hb20
    replace hpq := hpq.below hb20
    replace hP2 := hP2.below hb20
    replace hQ2 := hQ2.below hb20
    replace HBT := Below.cons HBT hb20
    clear hb20
    go_wp2_with (fail)
    obtain ⟨al, Eal⟩ : ∃ zq : Nat, zq = pq + PQ := ⟨_, rfl⟩
    have Bal : nl al ≤ 225 := by rw [Eal]; have := nl_add pq PQ; omega
    refine (Calls.mono (R := RetN W20 al) (by rw [Eal]; exact (add_c  X17 c17 pq X20 c20 PQ _ hpq hPQ (by omega) (by omega))) ?_)
    replace Eal := Lib.hid Eal
    rintro e W21 ⟨X21, c21, rfl, hal, hb21⟩
    replace hG := hG.below hb21
    replace hl := hl.below hb21
    replace hm := hm.below hb21
    replace q0 := cell_below hb21 q0
    replace q1 := cell_below hb21 q1
    replace ha := ha.below hb21
    replace hb := hb.below hb21
    replace ho := ho.below hb21
    replace hP := hP.below hb21
    replace hp := hp.below hb21
    replace hQ := hQ.below hb21
    replace hq := hq.below hb21
    replace hpq := hpq.below hb21
    replace hP2 := hP2.below hb21
    replace hQ2 := hQ2.below hb21
    replace hPQ := hPQ.below hb21
    replace HBT := Below.cons HBT hb21
    clear hb21
    go_wp2_with (fail)
    obtain ⟨Z, EZ⟩ : ∃ zq : Nat, zq = o * 2 ^ (iks) := ⟨_, rfl⟩
    have BZ : nl Z ≤ 112 := by rw [EZ]; have := nl_shl o (iks); omega
    refine (Calls.mono (R := RetN W21 Z) (by rw [EZ]; exact (at_len1 No.out (shl_e _ _ o (iks) (iks) _ ho (by omega) (rfl) (by omega)))) ?_)
    replace EZ := Lib.hid EZ
    rintro e W22 ⟨X22, c22, rfl, hZ, hb22⟩
    replace hG := hG.below hb22
    replace hl := hl.below hb22
    replace hm := hm.below hb22
    replace q0 := cell_below hb22 q0
    replace q1 := cell_below hb22 q1
    replace ha := ha.below hb22
    replace hb := hb.below hb22
    replace ho := ho.below hb22
    replace hP := hP.below hb22
    replace hp := hp.below hb22
    replace hQ := hQ.below hb22
    replace hq := hq.below hb22
    replace hpq := hpq.below hb22
    replace hP2 := hP2.below hb22
    replace hQ2 := hQ2.below hb22
    replace hPQ := hPQ.below hb22
    replace hal := hal.below hb22
    replace HBT := Below.cons HBT hb22
    clear hb22
    go_wp2_with (fail)
    obtain ⟨z1, Ez1⟩ : ∃ zq : Nat, zq = Z + o := ⟨_, rfl⟩
    have Bz1 : nl z1 ≤ 113 := by rw [Ez1]; have := nl_add Z o; omega
    refine (Calls.mono (R := RetN W22 z1) (by rw [Ez1]; exact (at_lenR No.out (add_c  X22 c22 Z _ _ o _ hZ ho (by omega) (by omega)))) ?_)
    replace Ez1 := Lib.hid Ez1
    rintro e W23 ⟨X23, c23, rfl, hz1, hb23⟩
    replace hG := hG.below hb23
    replace hl := hl.below hb23
    replace hm := hm.below hb23
    replace q0 := cell_below hb23 q0
    replace q1 := cell_below hb23 q1
    replace ha := ha.below hb23
    replace hb := hb.below hb23
    replace ho := ho.below hb23
    replace hP := hP.below hb23
    replace hp := hp.below hb23
    replace hQ := hQ.below hb23
    replace hq := hq.below hb23
    replace hpq := hpq.below hb23
    replace hP2 := hP2.below hb23
    replace hQ2 := hQ2.below hb23
    replace hPQ := hPQ.below hb23
    replace hal := hal.below hb23
    replace hZ := hZ.below hb23
    replace HBT := Below.cons HBT hb23
    clear hb23
    go_wp2_with (fail)
    refine (Calls.mono (same_t X21 c21 al X23 c23 z1 _ hal hz1 (by omega) (by omega) (by rw [Eal.out, Ez1.out, EZ.out, EPQ.out, EP2.out, EQ2.out, Epq.out, Ep.out, Eq.out, EP.out, EQ.out, Eo.out, Eiks.out, Eik.out, Eis.out, Eks.out]; exact all_law i k)) ?_)
    rintro e W24 ⟨rfl, hb24⟩
    replace hG := hG.below hb24
    replace hl := hl.below hb24
    replace hm := hm.below hb24
    replace q0 := cell_below hb24 q0
    replace q1 := cell_below hb24 q1
    replace ha := ha.below hb24
    replace hb := hb.below hb24
    replace ho := ho.below hb24
    replace hP := hP.below hb24
    replace hp := hp.below hb24
    replace hQ := hQ.below hb24
    replace hq := hq.below hb24
    replace hpq := hpq.below hb24
    replace hP2 := hP2.below hb24
    replace hQ2 := hQ2.below hb24
    replace hPQ := hPQ.below hb24
    replace hal := hal.below hb24
    replace hZ := hZ.below hb24
    replace hz1 := hz1.below hb24
    replace HBT := Below.cons HBT hb24
    clear hb24
    go_wp2_with (fail)
    go_ret
    exact ⟨rfl, HBT⟩

end Go.Proofs.YtmcekbmmpdpbmaaDoor
