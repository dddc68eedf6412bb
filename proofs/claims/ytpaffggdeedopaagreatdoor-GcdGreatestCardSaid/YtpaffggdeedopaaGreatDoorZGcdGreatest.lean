/- For all inputs the greatest common divisor divides both, times a third number it is that of both times it, it may be turned, and with a multiple of the one added it is the same: GcdGreatest returns true and leaves its arguments as they were. Conditions: Each package-level variable that the row lists (ntt.fields) holds at the call what the program's text lays; the tie is given and covers the pruned copy of the repository. -/
import Derived.Test.YtpaffggdeedopaaGreatDoorG05
import Derived.Test.YtpaffggdeedopaaGreatDoorCards
import Derived.Test.YtpaffggdeedopaaGreatDoorTie
import Derived.SevenTiedAt
set_option maxRecDepth 100000
set_option maxHeartbeats 4000000
/- Laws of greatest common divisors: GcdGreatest. -/
set_option linter.unusedVariables false
set_option linter.unusedSimpArgs false
namespace Go.Proofs.YtpaffggdeedopaaGreatDoor
open Go.RowKit Go.Shelf
attribute [local go_sem] max2_i min2_i max_two min_two

theorem gcdGreatest_c (A : Option Addr) (c : Nat) (l : List Nat) (B : Option Addr) (d : Nat) (m : List Nat) (D : Option Addr) (f : Nat) (k : List Nat)  (w : World) (hG : Flds w) (hl : Rd w A l) (Ll : Lim l) (Ql : l.length ≤ maxLen) (Cl : l.length ≤ c) (Zl : A = none → c = 0) (hm : Rd w B m) (Lm : Lim m) (Qm : m.length ≤ maxLen) (Cm : m.length ≤ d) (Zm : B = none → d = 0) (hk : Rd w D k) (Lk : Lim k) (Qk : k.length ≤ maxLen) (Ck : k.length ≤ f) (Zk : D = none → f = 0)  :
    Calls Tryz.prog 7 #[.slice A l.length c, .slice B m.length d, .slice D k.length f] w fun e w' => e = .returned (.bool true) ∧ Below w.heap.size w w' := by
  replace Zl := Lib.hid Zl
  replace Zm := Lib.hid Zm
  replace Zk := Lib.hid Zk
  go_enter Tryz.func7, Tryz.ntmps7
  go_wp2_with (fail)
  refine (Calls.mono (ghead_c _ hG) ?_)
  rintro e W1 ⟨rfl, hb1⟩
  replace hG := hG.below hb1
  replace hl := hl.below hb1
  replace hm := hm.below hb1
  replace hk := hk.below hb1
  have HBT := hb1
  clear hb1
  go_wp2_with (fail)
  obtain ⟨a, Ea⟩ : ∃ zq : Nat, zq = val (l.take 25) := ⟨_, rfl⟩
  have Ba : nl a ≤ 25 := by rw [Ea]; exact made_nl l Ll 25
  refine (Calls.mono (R := RetN W1 a) (by rw [Ea]; exact (made_n_c A c 25 l _ hl Ll Ql Cl Zl.out (by decide))) ?_)
  replace Ea := Lib.hid Ea
  rintro e W2 ⟨X2, c2, rfl, ha, hb2⟩
  replace hG := hG.below hb2
  replace hl := hl.below hb2
  replace hm := hm.below hb2
  replace hk := hk.below hb2
  replace HBT := Below.cons HBT hb2
  clear hb2
  go_wp2_with (fail)
  obtain ⟨b, Eb⟩ : ∃ zq : Nat, zq = val (m.take 25) := ⟨_, rfl⟩
  have Bb : nl b ≤ 25 := by rw [Eb]; exact made_nl m Lm 25
  refine (Calls.mono (R := RetN W2 b) (by rw [Eb]; exact (made_n_c B d 25 m _ hm Lm Qm Cm Zm.out (by decide))) ?_)
  replace Eb := Lib.hid Eb
  rintro e W3 ⟨X3, c3, rfl, hb, hb3⟩
  replace hG := hG.below hb3
  replace hl := hl.below hb3
  replace hm := hm.below hb3
  replace hk := hk.below hb3
  replace ha := ha.below hb3
  replace HBT := Below.cons HBT hb3
  clear hb3
  go_wp2_with (fail)
  obtain ⟨c, Ec⟩ : ∃ zq : Nat, zq = val (k.take 10) := ⟨_, rfl⟩
  have Bc : nl c ≤ 10 := by rw [Ec]; exact made_nl k Lk 10
  refine (Calls.mono (R := RetN W3 c) (by rw [Ec]; exact (made_n_c D f 10 k _ hk Lk Qk Ck Zk.out (by decide))) ?_)
  replace Ec := Lib.hid Ec
  rintro e W4 ⟨X4, c4, rfl, hc, hb4⟩
  replace hG := hG.below hb4
  replace hl := hl.below hb4
  replace hm := hm.below hb4
  replace hk := hk.below hb4
  replace ha := ha.below hb4
  replace hb := hb.below hb4
  replace HBT := Below.cons HBT hb4
  clear hb4
  go_wp2_with (fail)
  obtain ⟨g, Eg⟩ : ∃ zq : Nat, zq = Nat.gcd a b := ⟨_, rfl⟩
  have Bg : nl g ≤ 25 := by rw [Eg]; exact nl_gcd (by omega) (by omega)
  refine (Calls.mono (R := RetN W4 g) (by rw [Eg]; exact (lehmer_c X2 c2 a X3 c3 b _ ha hb hG (by omega) (by omega))) ?_)
  replace Eg := Lib.hid Eg
  rintro e W5 ⟨X5, c5, rfl, hg, hb5⟩
  replace hG := hG.below hb5
  replace hl := hl.below hb5
  replace hm := hm.below hb5
  replace hk := hk.below hb5
  replace ha := ha.below hb5
  replace hb := hb.below hb5
  replace hc := hc.below hb5
  replace HBT := Below.cons HBT hb5
  clear hb5
  go_wp2_with (fail)
  obtain ⟨x, Ex⟩ : ∃ zq : Nat, zq = a * c := ⟨_, rfl⟩
  have Bx : nl x ≤ 35 := by rw [Ex]; have := nl_mul a c; omega
  refine (Calls.mono (R := RetN W5 x) (by rw [Ex]; exact (rmul_c X2 c2 a X4 c4 c _ ha hc (by omega) (by omega))) ?_)
  replace Ex := Lib.hid Ex
  rintro e W6 ⟨X6, c6, rfl, hx, hb6⟩
  replace hG := hG.below hb6
  replace hl := hl.below hb6
  replace hm := hm.below hb6
  replace hk := hk.below hb6
  replace ha := ha.below hb6
  replace hb := hb.below hb6
  replace hc := hc.below hb6
  replace hg := hg.below hb6
  replace HBT := Below.cons HBT hb6
  clear hb6
  go_wp2_with (fail)
  obtain ⟨y, Ey⟩ : ∃ zq : Nat, zq = b * c := ⟨_, rfl⟩
  have By : nl y ≤ 35 := by rw [Ey]; have := nl_mul b c; omega
  refine (Calls.mono (R := RetN W6 y) (by rw [Ey]; exact (rmul_c X3 c3 b X4 c4 c _ hb hc (by omega) (by omega))) ?_)
  replace Ey := Lib.hid Ey
  rintro e W7 ⟨X7, c7, rfl, hy, hb7⟩
  replace hG := hG.below hb7
  replace hl := hl.below hb7
  replace hm := hm.below hb7
  replace hk := hk.below hb7
  replace ha := ha.below hb7
  replace hb := hb.below hb7
  replace hc := hc.below hb7
  replace hg := hg.below hb7
  replace hx := hx.below hb7
  replace HBT := Below.cons HBT hb7
  clear hb7
  go_wp2_with (fail)
  refine (Calls.mono (divides_c X5 c5 g X2 c2 a _ hg ha (by omega) (by omega) (by rw [Eg.out]; exact Nat.gcd_dvd_left _ _)) ?_)
  rintro e W8 ⟨rfl, hb8⟩
  replace hG := hG.below hb8
  replace hl := hl.below hb8
  replace hm := hm.below hb8
  replace hk := hk.below hb8
  replace ha := ha.below hb8
  replace hb := hb.below hb8
  replace hc := hc.below hb8
  replace hg := hg.below hb8
  replace hx := hx.below hb8
  replace hy := hy.below hb8
  replace HBT := Below.cons HBT hb8
  clear hb8
  go_wp2_with (fail)
  refine (Calls.mono (divides_c X5 c5 g X3 c3 b _ hg hb (by omega) (by omega) (by rw [Eg.out]; exact Nat.gcd_dvd_right _ _)) ?_)
  rintro e W9 ⟨rfl, hb9⟩
  replace hG := hG.below hb9
  replace hl := hl.below hb9
  replace hm := hm.below hb9
  replace hk := hk.below hb9
  replace ha := ha.below hb9
  replace hb := hb.below hb9
  replace hc := hc.below hb9
  replace hg := hg.below hb9
  replace hx := hx.below hb9
  replace hy := hy.below hb9
  replace HBT := Below.cons HBT hb9
  clear hb9
  go_wp2_with (fail)
  obtain ⟨h1, Eh1⟩ : ∃ zq : Nat, zq = Nat.gcd b a := ⟨_, rfl⟩
  have Bh1 : nl h1 ≤ 25 := by rw [Eh1]; exact nl_gcd (by omega) (by omega)
  refine (Calls.mono (R := RetN W9 h1) (by rw [Eh1]; exact (half_c X3 c3 b X2 c2 a _ hb ha hG (by omega) (by omega))) ?_)
  replace Eh1 := Lib.hid Eh1
  rintro e W10 ⟨X10, c10, rfl, hh1, hb10⟩
  replace hG := hG.below hb10
  replace hl := hl.below hb10
  replace hm := hm.below hb10
  replace hk := hk.below hb10
  replace ha := ha.below hb10
  replace hb := hb.below hb10
  replace hc := hc.below hb10
  replace hg := hg.below hb10
  replace hx := hx.below hb10
  replace hy := hy.below hb10
  replace HBT := Below.cons HBT hb10
  clear hb10
  go_wp2_with (fail)
  refine (Calls.mono (same1_t X10 c10 h1 X5 c5 g _ hh1 hg (by omega) (by omega) (by rw [Eh1.out, Eg.out, Nat.gcd_comm])) ?_)
  rintro e W11 ⟨rfl, hb11⟩
  replace hG := hG.below hb11
  replace hl := hl.below hb11
  replace hm := hm.below hb11
  replace hk := hk.below hb11
  replace ha := ha.below hb11
  replace hb := hb.below hb11
  replace hc := hc.below hb11
  replace hg := hg.below hb11
  replace hx := hx.below hb11
  replace hy := hy.below hb11
  replace hh1 := hh1.below hb11
  replace HBT := Below.cons HBT hb11
  clear hb11
  go_wp2_with (fail)
  obtain ⟨h2, Eh2⟩ : ∃ zq : Nat, zq = Nat.gcd x y := ⟨_, rfl⟩
  have Bh2 : nl h2 ≤ 35 := by rw [Eh2]; exact nl_gcd (by omega) (by omega)
  refine (Calls.mono (R := RetN W11 h2) (by rw [Eh2]; exact (half_c X6 c6 x X7 c7 y _ hx hy hG (by omega) (by omega))) ?_)
  replace Eh2 := Lib.hid Eh2
  rintro e W12 ⟨X12, c12, rfl, hh2, hb12⟩
  replace hG := hG.below hb12
  replace hl := hl.below hb12
  replace hm := hm.below hb12
  replace hk := hk.below hb12
  replace ha := ha.below hb12
  replace hb := hb.below hb12
  replace hc := hc.below hb12
  replace hg := hg.below hb12
  replace hx := hx.below hb12
  replace hy := hy.below hb12
  replace hh1 := hh1.below hb12
  replace HBT := Below.cons HBT hb12
  clear hb12
  go_wp2_with (fail)
  obtain ⟨p, Ep⟩ : ∃ zq : Nat, zq = g * c := ⟨_, rfl⟩
  have Bp : nl p ≤ 35 := by rw [Ep]; have := nl_mul g c; omega
  refine (Calls.mono (R := RetN W12 p) (by rw [Ep]; exact (rmul_c X5 c5 g X4 c4 c _ hg hc (by omega) (by omega))) ?_)
  replace Ep := Lib.hid Ep
  rintro e W13 ⟨X13, c13, rfl, hp, hb13⟩
  replace hG := hG.below hb13
  replace hl := hl.below hb13
  replace hm := hm.below hb13
  replace hk := hk.below hb13
  replace ha := ha.below hb13
  replace hb := hb.below hb13
  replace hc := hc.below hb13
  replace hg := hg.below hb13
  replace hx := hx.below hb13
  replace hy := hy.below hb13
  replace hh1 := hh1.below hb13
  replace hh2 := hh2.below hb13
  replace HBT := Below.cons HBT hb13
  clear hb13
  go_wp2_with (fail)
  refine (Calls.mono (same1_t X12 c12 h2 X13 c13 p _ hh2 hp (by omega) (by omega) (by rw [Eh2.out, Ep.out, Ex.out, Ey.out, Eg.out, Nat.gcd_mul_right])) ?_)
  rintro e W14 ⟨rfl, hb14⟩
  replace hG := hG.below hb14
  replace hl := hl.below hb14
  replace hm := hm.below hb14
  replace hk := hk.below hb14
  replace ha := ha.below hb14
  replace hb := hb.below hb14
  replace hc := hc.below hb14
  replace hg := hg.below hb14
  replace hx := hx.below hb14
  replace hy := hy.below hb14
  replace hh1 := hh1.below hb14
  replace hh2 := hh2.below hb14
  replace hp := hp.below hb14
  replace HBT := Below.cons HBT hb14
  clear hb14
  go_wp2_with (fail)
  obtain ⟨s, Es⟩ : ∃ zq : Nat, zq = a + y := ⟨_, rfl⟩
  have Bs : nl s ≤ 36 := by rw [Es]; have := nl_add a y; omega
  refine (Calls.mono (R := RetN W14 s) (by rw [Es]; exact (radd_c X2 c2 a X7 c7 y _ ha hy (by omega) (by omega))) ?_)
  replace Es := Lib.hid Es
  rintro e W15 ⟨X15, c15, rfl, hs, hb15⟩
  replace hG := hG.below hb15
  replace hl := hl.below hb15
  replace hm := hm.below hb15
  replace hk := hk.below hb15
  replace ha := ha.below hb15
  replace hb := hb.below hb15
  replace hc := hc.below hb15
  replace hg := hg.below hb15
  replace hx := hx.below hb15
  replace hy := hy.below hb15
  replace hh1 := hh1.below hb15
  replace hh2 := hh2.below hb15
  replace hp := hp.below hb15
  replace HBT := Below.cons HBT hb15
  clear hb15
  go_wp2_with (fail)
  obtain ⟨h3, Eh3⟩ : ∃ zq : Nat, zq = Nat.gcd s b := ⟨_, rfl⟩
  have Bh3 : nl h3 ≤ 36 := by rw [Eh3]; exact nl_gcd (by omega) (by omega)
  refine (Calls.mono (R := RetN W15 h3) (by rw [Eh3]; exact (lehmer_c X15 c15 s X3 c3 b _ hs hb hG (by omega) (by omega))) ?_)
  replace Eh3 := Lib.hid Eh3
  rintro e W16 ⟨X16, c16, rfl, hh3, hb16⟩
  replace hG := hG.below hb16
  replace hl := hl.below hb16
  replace hm := hm.below hb16
  replace hk := hk.below hb16
  replace ha := ha.below hb16
  replace hb := hb.below hb16
  replace hc := hc.below hb16
  replace hg := hg.below hb16
  replace hx := hx.below hb16
  replace hy := hy.below hb16
  replace hh1 := hh1.below hb16
  replace hh2 := hh2.below hb16
  replace hp := hp.below hb16
  replace hs := hs.below hb16
  replace HBT := Below.cons HBT hb16
  clear hb16
  go_wp2_with (fail)
  refine (Calls.mono (same1_t X16 c16 h3 X5 c5 g _ hh3 hg (by omega) (by omega) (by rw [Eh3.out, Es.out, Ey.out, Eg.out, Nat.mul_comm b c, Nat.gcd_comm, Nat.gcd_comm a b]; exact Nat.gcd_add_mul_right_right b a c)) ?_)
  rintro e W17 ⟨rfl, hb17⟩
  replace hG := hG.below hb17
  replace hl := hl.below hb17
  replace hm := hm.below hb17
  replace hk := hk.below hb17
  replace ha := ha.below hb17
  replace hb := hb.below hb17
  replace hc := hc.below hb17
  replace hg := hg.below hb17
  replace hx := hx.below hb17
  replace hy := hy.below hb17
  replace hh1 := hh1.below hb17
  replace hh2 := hh2.below hb17
  replace hp := hp.below hb17
  replace hs := hs.below hb17
  replace hh3 := hh3.below hb17
  replace HBT := Below.cons HBT hb17
  clear hb17
  go_wp2_with (fail)
  obtain ⟨h4, Eh4⟩ : ∃ zq : Nat, zq = Nat.gcd x c := ⟨_, rfl⟩
  have Bh4 : nl h4 ≤ 35 := by rw [Eh4]; exact nl_gcd (by omega) (by omega)
  refine (Calls.mono (R := RetN W17 h4) (by rw [Eh4]; exact (gcd_c X6 c6 x X4 c4 c _ hx hc (by omega) (by omega))) ?_)
  replace Eh4 := Lib.hid Eh4
  rintro e W18 ⟨X18, c18, rfl, hh4, hb18⟩
  replace hG := hG.below hb18
  replace hl := hl.below hb18
  replace hm := hm.below hb18
  replace hk := hk.below hb18
  replace ha := ha.below hb18
  replace hb := hb.below hb18
  replace hc := hc.below hb18
  replace hg := hg.below hb18
  replace hx := hx.below hb18
  replace hy := hy.below hb18
  replace hh1 := hh1.below hb18
  replace hh2 := hh2.below hb18
  replace hp := hp.below hb18
  replace hs := hs.below hb18
  replace hh3 := hh3.below hb18
  replace HBT := Below.cons HBT hb18
  clear hb18
  go_wp2_with (fail)
  refine (Calls.mono (same1_t X18 c18 h4 X4 c4 c _ hh4 hc (by omega) (by omega) (by rw [Eh4.out, Ex.out, Nat.gcd_comm]; exact Nat.gcd_eq_left (Nat.dvd_mul_left _ _))) ?_)
  rintro e W19 ⟨rfl, hb19⟩
  replace hG := hG.below hb19
  replace hl := hl.below hb19
  replace hm := hm.below hb19
  replace hk := hk.below hb19
  replace ha := ha.below hb19
  replace hb := hb.below hb19
  replace hc := hc.below hb19
  replace hg := hg.below hb19
  replace hx := hx.below hb19
  replace hy := hy.below hb19
  replace hh1 := hh1.below hb19
  replace hh2 := hh2.below hb19
  replace hp := hp.below hb19
  replace hs := hs.below hb19
  replace hh3 := hh3.below hb19
  replace hh4 := hh4.below hb19
  replace HBT := Below.cons HBT hb19
  clear hb19
  go_wp2_with (fail)
  go_ret
  exact ⟨rfl, HBT⟩

end Go.Proofs.YtpaffggdeedopaaGreatDoor

set_option linter.unusedVariables false
set_option linter.unusedSimpArgs false
namespace Go.Proofs.YtpaffggdeedopaaGreatDoor
open Go.RowKit Go.ChangeShapes Go.WideShapes Go.ChangeAt

theorem gcdGreatest_lifted (os : Os) (started : os.Started) (H : Type) (enc : TypeId × Value → H) :
    ReturnsInHanded {} Tryz.checked os 7 .any (fun w args => (Rows.gcdGreatestSpec.pre enc Tryz.prog Tryz.f7 [] false w args ∧ laidMetH Tryz.prog [("ziggurat/ntt.fields", Rows.laid_ziggurat_ntt_fields)] w) ∧ sizedMet enc Tryz.prog Tryz.f7 (OpenSpec.ofChange Rows.gcdGreatestSpec) false w args)
      (Rows.gcdGreatestSpec.post enc Tryz.prog Tryz.f7 false true false false) := by
  refine returnsInHanded_of_change_and (C := Tryz.checked) (X := fun w _ => laidMetH Tryz.prog [("ziggurat/ntt.fields", Rows.laid_ziggurat_ntt_fields)] w) (fun _ _ _ hh h => h.of_heap hh) row_own started (by kernel_rfl) Tryz.func7
    (ChangeSpec.witness_shaped (enc := enc) (C := Tryz.checked) (os := os) (X := fun w _ => laidMetH Tryz.prog [("ziggurat/ntt.fields", Rows.laid_ziggurat_ntt_fields)] w) false (World.doorLaid Tryz.prog 400 os) #[.slice none 0 0, .slice none 0 0, .slice none 0 0] 8 rfl (World.shaped_of_RefB (by kernel_rfl) (by kernel_rfl)) (by kernel_rfl) (by kernel_rfl) (by kernel_rfl) (door_met os _)) ?_
  intro W base args ds gs before hval0 hW _ _ hL _
  have hval : ∀ (j : Nat) t v, Tryz.f7.params[j]? = some t → args[j]? = some v → Value.okWide Tryz.prog W .any base t v := hval0
  have hW' := hW
  obtain ⟨p, q, hA0, hV, rfl, hfz, hnd⟩ := hW
  have hA : DataW.TrodAll enc Tryz.prog W 0 (fun _ => true) true Tryz.f7.params.toList args.toList ds p := hA0
  rw [Tryz.params7] at hA hval
  obtain ⟨v0, vs0, d0, ds0, p0, q0, hargs, rfl, rfl, h0, r0⟩ := trodAll_cons hA
  obtain ⟨v1, vs1, d1, ds1, p1, q1, rfl, rfl, rfl, h1, r1⟩ := trodAll_cons r0
  obtain ⟨v2, vs2, d2, ds2, p2, q2, rfl, rfl, rfl, h2, r2⟩ := trodAll_cons r1
  obtain ⟨rfl, rfl, rfl⟩ := trodAll_nil r2
  obtain rfl : args = #[v0, v1, v2] := by cases args; simp_all
  obtain ⟨rfl, rfl⟩ := trodVars_none hV
  have hG := flds_of_laid hL
  have k0 := h0
  have lt0 : ∀ x ∈ p0, x.block < W.heap.size := by obtain ⟨m, hm⟩ := k0; exact DataW.trod_lt m _ _ _ hm
  obtain ⟨A0, c0, l0, rfl, i0⟩ := open_natv (hval 0 22 v0 rfl rfl) h0
  have k1 := h1
  have lt1 : ∀ x ∈ p1, x.block < W.heap.size := by obtain ⟨m, hm⟩ := k1; exact DataW.trod_lt m _ _ _ hm
  obtain ⟨A1, c1, l1, rfl, i1⟩ := open_natv (hval 1 22 v1 rfl rfl) h1
  have k2 := h2
  have lt2 : ∀ x ∈ p2, x.block < W.heap.size := by obtain ⟨m, hm⟩ := k2; exact DataW.trod_lt m _ _ _ hm
  obtain ⟨A2, c2, l2, rfl, i2⟩ := open_natv (hval 2 22 v2 rfl rfl) h2
  clear hA0 hval0 hval hL
  have hcall := gcdGreatest_c A0 c0 l0 A1 c1 l1 A2 c2 l2 W hG i0.1 i0.2.1 i0.2.2.1 i0.2.2.2.1 i0.2.2.2.2 i1.1 i1.2.1 i1.2.2.1 i1.2.2.2.1 i1.2.2.2.2 i2.1 i2.2.1 i2.2.2.1 i2.2.2.2.1 i2.2.2.2.2
  refine hcall.mono fun e W' ⟨he, bel⟩ => ?_
  subst he
  exact ⟨_, rfl, _, _, _, [], _, [], hW', trodAll_mk1 (shut_bool Tryz.underlying4 _), (trodAll_cons_mk (Below.trod row_out (by kernel_rfl) (of_decide_eq_true (by kernel_rfl)) k0 bel lt0) (trodAll_cons_mk (Below.trod row_out (by kernel_rfl) (of_decide_eq_true (by kernel_rfl)) k1 bel lt1) (trodAll_cons_mk (Below.trod row_out (by kernel_rfl) (of_decide_eq_true (by kernel_rfl)) k2 bel lt2) trodAll_mk0))), rfl, bel.frame _, fun h => by cases h⟩
theorem gcdGreatest_holds : Rows.GcdGreatestSaid :=
  OpenClaim.holds_of_wide 7 Tryz.f7 rfl rfl rfl rfl rfl rfl rfl ⟨rfl, rfl, rfl, rfl, rfl⟩ rfl rfl rfl rfl rfl (by kernel_rfl) Tryz.func7 (by kernel_rfl)
    (of_decide_eq_true (by kernel_rfl)) (by unfold Func.isWrapper; first | (rw [if_pos (by decide +kernel)]; kernel_rfl) | (rw [if_neg (by decide +kernel)]; exact ⟨rfl, rfl⟩))
    (fun os started H enc _ => gcdGreatest_lifted os started H enc)

/-- The card, tied to the program's text. -/
theorem gcdGreatest_card : Rows.GcdGreatestCardSaid :=
  Claim7.holds_tied_plain_at .later [] [.data] true (true, "656b37b7ccc5af8af5a85e438c408380abd1ad709ff303cf5fc9993104b47efd") false
    gcdGreatest_holds (fun _ h => by cases h) (by kernel_rfl) (fun _ h => by cases h) gcdGreatest_row_tie rfl ⟨rfl, rfl⟩ (by kernel_rfl) rfl
    (fun f fn hf hfn => by
      obtain rfl : f = 7 := Option.some.inj ((show Tryz.prog.funcNamed "ziggurat/zigguratlaw07.GcdGreatest" = some 7 by kernel_rfl).symm.trans hf) |>.symm
      obtain rfl : fn = Tryz.f7 := (Option.some.inj (Tryz.func7.symm.trans hfn)).symm
      exact ⟨by kernel_rfl, fun j t ht => by
        rw [Tryz.params7] at ht
        have hm : t ∈ [22, 22, 22] := by simpa using Array.mem_of_getElem? ht
        have hall : ([22, 22, 22].all fun u => !Tryz.prog.wantsStandIn u) = true := by kernel_rfl
        exact (show Tryz.prog.wantsStandIn t = false by simpa using List.all_eq_true.1 hall t hm)⟩)
    (by kernel_rfl)
#print axioms gcdGreatest_card
end Go.Proofs.YtpaffggdeedopaaGreatDoor
