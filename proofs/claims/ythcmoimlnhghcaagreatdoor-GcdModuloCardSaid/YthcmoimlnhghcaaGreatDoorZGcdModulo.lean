/- For all inputs inverses and powers modulo any natural are as the document says: GcdModulo returns true and leaves its arguments as they were. Conditions: Each package-level variable that the row lists (ntt.fields) holds at the call what the program's text lays; the tie is given and covers the pruned copy of the repository. -/
import Derived.Test.YthcmoimlnhghcaaGreatDoorM05
import Derived.Test.YthcmoimlnhghcaaGreatDoorM06
import Derived.Test.YthcmoimlnhghcaaGreatDoorCards
import Derived.Test.YthcmoimlnhghcaaGreatDoorTie
import Derived.SevenTiedAt
set_option maxRecDepth 100000
set_option maxHeartbeats 4000000
/- Laws of greatest common divisors: GcdModulo. -/
set_option linter.unusedVariables false
set_option linter.unusedSimpArgs false
namespace Go.Proofs.YthcmoimlnhghcaaGreatDoor
open Go.RowKit Go.Shelf
attribute [local go_sem] max2_i min2_i max_two min_two

theorem pmz_c (A : Option Addr) (la c : Nat) (E : Option Addr) (le ce : Nat) (M : Option Addr) (cm n : Nat) (w : World) (h : nl n = 0) :
    Calls Tryz.prog 45 #[.slice A la c, .slice E le ce, .slice M (nl n) cm] w fun e w' => e = .returned (.tuple #[.slice none 0 0, .int .i64 3]) ∧ Below w.heap.size w w' := by
  rw [h]; exact powmodZ_c A la c E le ce M cm w
theorem rpmz_c (A : Option Addr) (la c : Nat) (E : Option Addr) (le ce : Nat) (M : Option Addr) (cm n : Nat) (w : World) (h : nl n = 0) :
    Calls Tryz.prog 46 #[.slice A la c, .slice E le ce, .slice M (nl n) cm] w fun e w' => e = .returned (.tuple #[.slice none 0 0, .int .i64 3]) ∧ Below w.heap.size w w' := by
  rw [h]; exact rpowmodZ_c A la c E le ce M cm w
theorem gcdModulo_c (A : Option Addr) (c : Nat) (l : List Nat) (B : Option Addr) (d : Nat) (m : List Nat) (D : Option Addr) (f : Nat) (k : List Nat)  (w : World) (hG : Flds w) (hl : Rd w A l) (Ll : Lim l) (Ql : l.length ≤ maxLen) (Cl : l.length ≤ c) (Zl : A = none → c = 0) (hm : Rd w B m) (Lm : Lim m) (Qm : m.length ≤ maxLen) (Cm : m.length ≤ d) (Zm : B = none → d = 0) (hk : Rd w D k) (Lk : Lim k) (Qk : k.length ≤ maxLen) (Ck : k.length ≤ f) (Zk : D = none → f = 0)  :
    Calls Tryz.prog 5 #[.slice A l.length c, .slice B m.length d, .slice D k.length f] w fun e w' => e = .returned (.bool true) ∧ Below w.heap.size w w' := by
  replace Zl := Lib.hid Zl
  replace Zm := Lib.hid Zm
  replace Zk := Lib.hid Zk
  go_enter Tryz.func5, Tryz.ntmps5
  go_wp2_with (fail)
  refine (Calls.mono (ghead_c _ hG) ?_)
  rintro e W1 ⟨rfl, hb1⟩
  replace hG := hG.below hb1
  replace hl := hl.below hb1
  replace hm := hm.below hb1
  replace hk := hk.below hb1
  have HBT := hb1
  clear hb1
  go_wp2_with (fail)
  obtain ⟨a, Ea⟩ : ∃ zq : Nat, zq = val (l.take 12) := ⟨_, rfl⟩
  have Ba : nl a ≤ 12 := by rw [Ea]; exact made_nl l Ll 12
  refine (Calls.mono (R := RetN W1 a) (by rw [Ea]; exact (made_n_c A c 12 l _ hl Ll Ql Cl Zl.out (by decide))) ?_)
  replace Ea := Lib.hid Ea
  rintro e W2 ⟨X2, c2, rfl, ha, hb2⟩
  replace hG := hG.below hb2
  replace hl := hl.below hb2
  replace hm := hm.below hb2
  replace hk := hk.below hb2
  replace HBT := Below.cons HBT hb2
  clear hb2
  go_wp2_with (fail)
  obtain ⟨x, Ex⟩ : ∃ zq : Nat, zq = val (m.take 3) := ⟨_, rfl⟩
  have Bx : nl x ≤ 3 := by rw [Ex]; exact made_nl m Lm 3
  refine (Calls.mono (R := RetN W2 x) (by rw [Ex]; exact (made_n_c B d 3 m _ hm Lm Qm Cm Zm.out (by decide))) ?_)
  replace Ex := Lib.hid Ex
  rintro e W3 ⟨X3, c3, rfl, hx, hb3⟩
  replace hG := hG.below hb3
  replace hl := hl.below hb3
  replace hm := hm.below hb3
  replace hk := hk.below hb3
  replace ha := ha.below hb3
  replace HBT := Below.cons HBT hb3
  clear hb3
  go_wp2_with (fail)
  obtain ⟨n, En⟩ : ∃ zq : Nat, zq = val (k.take 12) := ⟨_, rfl⟩
  have Bn : nl n ≤ 12 := by rw [En]; exact made_nl k Lk 12
  refine (Calls.mono (R := RetN W3 n) (by rw [En]; exact (made_n_c D f 12 k _ hk Lk Qk Ck Zk.out (by decide))) ?_)
  replace En := Lib.hid En
  rintro e W4 ⟨X4, c4, rfl, hn, hb4⟩
  replace hG := hG.below hb4
  replace hl := hl.below hb4
  replace hm := hm.below hb4
  replace hk := hk.below hb4
  replace ha := ha.below hb4
  replace hx := hx.below hb4
  replace HBT := Below.cons HBT hb4
  clear hb4
  clear hl
  clear hm
  clear hk
  by_cases hz : n = 0
  · have hn0 : nl n = 0 := by rw [hz]; exact nl_zero
    have hno : n = 0 ∨ Nat.gcd a n ≠ 1 := Or.inl hz
    replace hn0 := Lib.hid hn0
    replace hno := Lib.hid hno
    replace hz := Lib.hid hz
    go_wp2_with (fail)
    refine (Calls.mono (inverseNot_c X2 c2 a X4 c4 n _ ha hn hG (by omega) (by omega) hno.out) ?_)
    rintro e W5 ⟨rfl, hb5⟩
    replace hG := hG.below hb5
    replace ha := ha.below hb5
    replace hx := hx.below hb5
    replace hn := hn.below hb5
    replace HBT := Below.cons HBT hb5
    clear hb5
    go_wp2_with (fail)
    refine (Calls.mono (rinverseNot_c X2 c2 a X4 c4 n _ ha hn (by omega) (by omega) hno.out) ?_)
    rintro e W6 ⟨rfl, hb6⟩
    replace hG := hG.below hb6
    replace ha := ha.below hb6
    replace hx := hx.below hb6
    replace hn := hn.below hb6
    replace HBT := Below.cons HBT hb6
    clear hb6
    go_wp2_with (fail)
    refine (Calls.mono (pmz_c X2 (nl a) c2 X3 (nl x) c3 X4 c4 n _ hn0.out) ?_)
    rintro e W7 ⟨rfl, hb7⟩
    replace hG := hG.below hb7
    replace ha := ha.below hb7
    replace hx := hx.below hb7
    replace hn := hn.below hb7
    replace HBT := Below.cons HBT hb7
    clear hb7
    go_wp2_with (fail)
    refine (Calls.mono (rpmz_c X2 (nl a) c2 X3 (nl x) c3 X4 c4 n _ hn0.out) ?_)
    rintro e W8 ⟨rfl, hb8⟩
    replace hG := hG.below hb8
    replace ha := ha.below hb8
    replace hx := hx.below hb8
    replace hn := hn.below hb8
    replace HBT := Below.cons HBT hb8
    clear hb8
    have hnil := nat_nil (W8)
    have Nnil : Hid (nl 0 = 0) := Lib.hid nl_zero
    have Bnil : nl 0 ≤ 0 := Nat.le_of_eq nl_zero
    go_wp2_with (fail)
    refine (Calls.mono (at_len2 Nnil.out Nnil.out (same1_t none 0 0 none 0 0 _ hnil hnil (by omega) (by omega) (by rfl))) ?_)
    rintro e W9 ⟨rfl, hb9⟩
    replace hG := hG.below hb9
    replace ha := ha.below hb9
    replace hx := hx.below hb9
    replace hn := hn.below hb9
    replace hnil := hnil.below hb9
    replace HBT := Below.cons HBT hb9
    clear hb9
    go_wp2_with (fail)
    refine (Calls.mono (at_len2 Nnil.out Nnil.out (same1_t none 0 0 none 0 0 _ hnil hnil (by omega) (by omega) (by rfl))) ?_)
    rintro e W10 ⟨rfl, hb10⟩
    replace hG := hG.below hb10
    replace ha := ha.below hb10
    replace hx := hx.below hb10
    replace hn := hn.below hb10
    replace hnil := hnil.below hb10
    replace HBT := Below.cons HBT hb10
    clear hb10
    go_wp2_with (fail)
    go_ret
    exact ⟨rfl, HBT⟩
  · have hn1 : 0 < n := by omega
    replace hz := Lib.hid hz
    by_cases hg1 : Nat.gcd a n = 1
    · replace hg1 := Lib.hid hg1
      go_wp2_with (fail)
      have CI := inverse_c X2 c2 a X4 c4 n _ ha hn hG (by omega) (by omega) hn1 hg1.out
      obtain ⟨i1, Ei1⟩ : ∃ z : Nat, z = inv a n := ⟨_, rfl⟩
      have Bi1 : nl i1 ≤ 12 := by rw [Ei1]; exact inv_sz (by omega) hn1
      rw [← Ei1] at CI
      replace CI := Lib.hid CI
      replace Ei1 := Lib.hid Ei1
      refine (Calls.mono CI.out ?_)
      rintro e W5 ⟨Xi1, ci1, rfl, hi1, hb5⟩
      clear CI
      replace hG := hG.below hb5
      replace ha := ha.below hb5
      replace hx := hx.below hb5
      replace hn := hn.below hb5
      replace HBT := Below.cons HBT hb5
      clear hb5
      go_wp2_with (fail)
      have CI := rinverse_c X2 c2 a X4 c4 n _ ha hn (by omega) (by omega) hn1 hg1.out
      obtain ⟨i2, Ei2⟩ : ∃ z : Nat, z = inv a n := ⟨_, rfl⟩
      have Bi2 : nl i2 ≤ 12 := by rw [Ei2]; exact inv_sz (by omega) hn1
      rw [← Ei2] at CI
      replace CI := Lib.hid CI
      replace Ei2 := Lib.hid Ei2
      refine (Calls.mono CI.out ?_)
      rintro e W6 ⟨Xi2, ci2, rfl, hi2, hb6⟩
      clear CI
      replace hG := hG.below hb6
      replace ha := ha.below hb6
      replace hx := hx.below hb6
      replace hn := hn.below hb6
      replace hi1 := hi1.below hb6
      replace HBT := Below.cons HBT hb6
      clear hb6
      go_wp2_with (fail)
      have CI := powmod_c X2 c2 a X3 c3 x X4 c4 n _ ha hx hn hG (by omega) (by omega) (by omega) hn1
      obtain ⟨p1, Ep1⟩ : ∃ z : Nat, z = a ^ x % n := ⟨_, rfl⟩
      have Bp1 : nl p1 ≤ 12 := by rw [Ep1]; exact Nat.le_trans (nl_mod_lt _ (by omega)) (by omega)
      rw [← Ep1] at CI
      replace CI := Lib.hid CI
      replace Ep1 := Lib.hid Ep1
      refine (Calls.mono CI.out ?_)
      rintro e W7 ⟨Xp1, cp1, rfl, hp1, hb7⟩
      clear CI
      replace hG := hG.below hb7
      replace ha := ha.below hb7
      replace hx := hx.below hb7
      replace hn := hn.below hb7
      replace hi1 := hi1.below hb7
      replace hi2 := hi2.below hb7
      replace HBT := Below.cons HBT hb7
      clear hb7
      go_wp2_with (fail)
      have CI := rpowmod_c X2 c2 a X3 c3 x X4 c4 n _ ha hx hn (by omega) (by omega) (by omega) hn1
      obtain ⟨p2, Ep2⟩ : ∃ z : Nat, z = a ^ x % n := ⟨_, rfl⟩
      have Bp2 : nl p2 ≤ 12 := by rw [Ep2]; exact Nat.le_trans (nl_mod_lt _ (by omega)) (by omega)
      rw [← Ep2] at CI
      replace CI := Lib.hid CI
      replace Ep2 := Lib.hid Ep2
      refine (Calls.mono CI.out ?_)
      rintro e W8 ⟨Xp2, cp2, rfl, hp2, hb8⟩
      clear CI
      replace hG := hG.below hb8
      replace ha := ha.below hb8
      replace hx := hx.below hb8
      replace hn := hn.below hb8
      replace hi1 := hi1.below hb8
      replace hi2 := hi2.below hb8
      replace hp1 := hp1.below hb8
      replace HBT := Below.cons HBT hb8
      clear hb8
      go_wp2_with (fail)
      refine (Calls.mono (same1_t Xi1 ci1 i1 Xi2 ci2 i2 _ hi1 hi2 (by omega) (by omega) (by rw [Ei1.out, Ei2.out])) ?_)
      rintro e W9 ⟨rfl, hb9⟩
      replace hG := hG.below hb9
      replace ha := ha.below hb9
      replace hx := hx.below hb9
      replace hn := hn.below hb9
      replace hi1 := hi1.below hb9
      replace hi2 := hi2.below hb9
      replace hp1 := hp1.below hb9
      replace hp2 := hp2.below hb9
      replace HBT := Below.cons HBT hb9
      clear hb9
      go_wp2_with (fail)
      refine (Calls.mono (same1_t Xp1 cp1 p1 Xp2 cp2 p2 _ hp1 hp2 (by omega) (by omega) (by rw [Ep1.out, Ep2.out])) ?_)
      rintro e W10 ⟨rfl, hb10⟩
      replace hG := hG.below hb10
      replace ha := ha.below hb10
      replace hx := hx.below hb10
      replace hn := hn.below hb10
      replace hi1 := hi1.below hb10
      replace hi2 := hi2.below hb10
      replace hp1 := hp1.below hb10
      replace hp2 := hp2.below hb10
      replace HBT := Below.cons HBT hb10
      clear hb10
      go_wp2_with (fail)
      go_ret
      exact ⟨rfl, HBT⟩
    · have hno : n = 0 ∨ Nat.gcd a n ≠ 1 := Or.inr hg1
      replace hno := Lib.hid hno
      replace hg1 := Lib.hid hg1
      go_wp2_with (fail)
      refine (Calls.mono (inverseNot_c X2 c2 a X4 c4 n _ ha hn hG (by omega) (by omega) hno.out) ?_)
      rintro e W5 ⟨rfl, hb5⟩
      replace hG := hG.below hb5
      replace ha := ha.below hb5
      replace hx := hx.below hb5
      replace hn := hn.below hb5
      replace HBT := Below.cons HBT hb5
      clear hb5
      go_wp2_with (fail)
      refine (Calls.mono (rinverseNot_c X2 c2 a X4 c4 n _ ha hn (by omega) (by omega) hno.out) ?_)
      rintro e W6 ⟨rfl, hb6⟩
      replace hG := hG.below hb6
      replace ha := ha.below hb6
      replace hx := hx.below hb6
      replace hn := hn.below hb6
      replace HBT := Below.cons HBT hb6
      clear hb6
      go_wp2_with (fail)
      have CI := powmod_c X2 c2 a X3 c3 x X4 c4 n _ ha hx hn hG (by omega) (by omega) (by omega) hn1
      obtain ⟨p1, Ep1⟩ : ∃ z : Nat, z = a ^ x % n := ⟨_, rfl⟩
      have Bp1 : nl p1 ≤ 12 := by rw [Ep1]; exact Nat.le_trans (nl_mod_lt _ (by omega)) (by omega)
      rw [← Ep1] at CI
      replace CI := Lib.hid CI
      replace Ep1 := Lib.hid Ep1
      refine (Calls.mono CI.out ?_)
      rintro e W7 ⟨Xp1, cp1, rfl, hp1, hb7⟩
      clear CI
      replace hG := hG.below hb7
      replace ha := ha.below hb7
      replace hx := hx.below hb7
      replace hn := hn.below hb7
      replace HBT := Below.cons HBT hb7
      clear hb7
      go_wp2_with (fail)
      have CI := rpowmod_c X2 c2 a X3 c3 x X4 c4 n _ ha hx hn (by omega) (by omega) (by omega) hn1
      obtain ⟨p2, Ep2⟩ : ∃ z : Nat, z = a ^ x % n := ⟨_, rfl⟩
      have Bp2 : nl p2 ≤ 12 := by rw [Ep2]; exact Nat.le_trans (nl_mod_lt _ (by omega)) (by omega)
      rw [← Ep2] at CI
      replace CI := Lib.hid CI
      replace Ep2 := Lib.hid Ep2
      refine (Calls.mono CI.out ?_)
      rintro e W8 ⟨Xp2, cp2, rfl, hp2, hb8⟩
      clear CI
      replace hG := hG.below hb8
      replace ha := ha.below hb8
      replace hx := hx.below hb8
      replace hn := hn.below hb8
      replace hp1 := hp1.below hb8
      replace HBT := Below.cons HBT hb8
      clear hb8
      have hnil := nat_nil (W8)
      have Nnil : Hid (nl 0 = 0) := Lib.hid nl_zero
      have Bnil : nl 0 ≤ 0 := Nat.le_of_eq nl_zero
      go_wp2_with (fail)
      refine (Calls.mono (at_len2 Nnil.out Nnil.out (same1_t none 0 0 none 0 0 _ hnil hnil (by omega) (by omega) (by rfl))) ?_)
      rintro e W9 ⟨rfl, hb9⟩
      replace hG := hG.below hb9
      replace ha := ha.below hb9
      replace hx := hx.below hb9
      replace hn := hn.below hb9
      replace hp1 := hp1.below hb9
      replace hp2 := hp2.below hb9
      replace hnil := hnil.below hb9
      replace HBT := Below.cons HBT hb9
      clear hb9
      go_wp2_with (fail)
      refine (Calls.mono (same1_t Xp1 cp1 p1 Xp2 cp2 p2 _ hp1 hp2 (by omega) (by omega) (by rw [Ep1.out, Ep2.out])) ?_)
      rintro e W10 ⟨rfl, hb10⟩
      replace hG := hG.below hb10
      replace ha := ha.below hb10
      replace hx := hx.below hb10
      replace hn := hn.below hb10
      replace hp1 := hp1.below hb10
      replace hp2 := hp2.below hb10
      replace hnil := hnil.below hb10
      replace HBT := Below.cons HBT hb10
      clear hb10
      go_wp2_with (fail)
      go_ret
      exact ⟨rfl, HBT⟩

end Go.Proofs.YthcmoimlnhghcaaGreatDoor

set_option linter.unusedVariables false
set_option linter.unusedSimpArgs false
namespace Go.Proofs.YthcmoimlnhghcaaGreatDoor
open Go.RowKit Go.ChangeShapes Go.WideShapes Go.ChangeAt

theorem gcdModulo_lifted (os : Os) (started : os.Started) (H : Type) (enc : TypeId × Value → H) :
    ReturnsInHanded {} Tryz.checked os 5 .any (fun w args => (Rows.gcdModuloSpec.pre enc Tryz.prog Tryz.f5 [] false w args ∧ laidMetH Tryz.prog [("ziggurat/ntt.fields", Rows.laid_ziggurat_ntt_fields)] w) ∧ sizedMet enc Tryz.prog Tryz.f5 (OpenSpec.ofChange Rows.gcdModuloSpec) false w args)
      (Rows.gcdModuloSpec.post enc Tryz.prog Tryz.f5 false true false false) := by
  refine returnsInHanded_of_change_and (C := Tryz.checked) (X := fun w _ => laidMetH Tryz.prog [("ziggurat/ntt.fields", Rows.laid_ziggurat_ntt_fields)] w) (fun _ _ _ hh h => h.of_heap hh) row_own started (by kernel_rfl) Tryz.func5
    (ChangeSpec.witness_shaped (enc := enc) (C := Tryz.checked) (os := os) (X := fun w _ => laidMetH Tryz.prog [("ziggurat/ntt.fields", Rows.laid_ziggurat_ntt_fields)] w) false (World.doorLaid Tryz.prog 400 os) #[.slice none 0 0, .slice none 0 0, .slice none 0 0] 8 rfl (World.shaped_of_RefB (by kernel_rfl) (by kernel_rfl)) (by kernel_rfl) (by kernel_rfl) (by kernel_rfl) (door_met os _)) ?_
  intro W base args ds gs before hval0 hW _ _ hL _
  have hval : ∀ (j : Nat) t v, Tryz.f5.params[j]? = some t → args[j]? = some v → Value.okWide Tryz.prog W .any base t v := hval0
  have hW' := hW
  obtain ⟨p, q, hA0, hV, rfl, hfz, hnd⟩ := hW
  have hA : DataW.TrodAll enc Tryz.prog W 0 (fun _ => true) true Tryz.f5.params.toList args.toList ds p := hA0
  rw [Tryz.params5] at hA hval
  obtain ⟨v0, vs0, d0, ds0, p0, q0, hargs, rfl, rfl, h0, r0⟩ := trodAll_cons hA
  obtain ⟨v1, vs1, d1, ds1, p1, q1, rfl, rfl, rfl, h1, r1⟩ := trodAll_cons r0
  obtain ⟨v2, vs2, d2, ds2, p2, q2, rfl, rfl, rfl, h2, r2⟩ := trodAll_cons r1
  obtain ⟨rfl, rfl, rfl⟩ := trodAll_nil r2
  obtain rfl : args = #[v0, v1, v2] := by cases args; simp_all
  obtain ⟨rfl, rfl⟩ := trodVars_none hV
  have hG := flds_of_laid hL
  have k0 := h0
  have lt0 : ∀ x ∈ p0, x.block < W.heap.size := by obtain ⟨m, hm⟩ := k0; exact DataW.trod_lt m _ _ _ hm
  obtain ⟨A0, c0, l0, rfl, i0⟩ := open_natv (hval 0 22 v0 rfl rfl) h0
  have k1 := h1
  have lt1 : ∀ x ∈ p1, x.block < W.heap.size := by obtain ⟨m, hm⟩ := k1; exact DataW.trod_lt m _ _ _ hm
  obtain ⟨A1, c1, l1, rfl, i1⟩ := open_natv (hval 1 22 v1 rfl rfl) h1
  have k2 := h2
  have lt2 : ∀ x ∈ p2, x.block < W.heap.size := by obtain ⟨m, hm⟩ := k2; exact DataW.trod_lt m _ _ _ hm
  obtain ⟨A2, c2, l2, rfl, i2⟩ := open_natv (hval 2 22 v2 rfl rfl) h2
  clear hA0 hval0 hval hL
  have hcall := gcdModulo_c A0 c0 l0 A1 c1 l1 A2 c2 l2 W hG i0.1 i0.2.1 i0.2.2.1 i0.2.2.2.1 i0.2.2.2.2 i1.1 i1.2.1 i1.2.2.1 i1.2.2.2.1 i1.2.2.2.2 i2.1 i2.2.1 i2.2.2.1 i2.2.2.2.1 i2.2.2.2.2
  refine hcall.mono fun e W' ⟨he, bel⟩ => ?_
  subst he
  exact ⟨_, rfl, _, _, _, [], _, [], hW', trodAll_mk1 (shut_bool Tryz.underlying4 _), (trodAll_cons_mk (Below.trod row_out (by kernel_rfl) (of_decide_eq_true (by kernel_rfl)) k0 bel lt0) (trodAll_cons_mk (Below.trod row_out (by kernel_rfl) (of_decide_eq_true (by kernel_rfl)) k1 bel lt1) (trodAll_cons_mk (Below.trod row_out (by kernel_rfl) (of_decide_eq_true (by kernel_rfl)) k2 bel lt2) trodAll_mk0))), rfl, bel.frame _, fun h => by cases h⟩
theorem gcdModulo_holds : Rows.GcdModuloSaid :=
  OpenClaim.holds_of_wide 5 Tryz.f5 rfl rfl rfl rfl rfl rfl rfl ⟨rfl, rfl, rfl, rfl, rfl⟩ rfl rfl rfl rfl rfl (by kernel_rfl) Tryz.func5 (by kernel_rfl)
    (of_decide_eq_true (by kernel_rfl)) (by unfold Func.isWrapper; first | (rw [if_pos (by decide +kernel)]; kernel_rfl) | (rw [if_neg (by decide +kernel)]; exact ⟨rfl, rfl⟩))
    (fun os started H enc _ => gcdModulo_lifted os started H enc)

/-- The card, tied to the program's text. -/
theorem gcdModulo_card : Rows.GcdModuloCardSaid :=
  Claim7.holds_tied_plain_at .later [] [.data] true (true, "fb26df76aa3e4b053ee34eec7cb38b2742bbed4501183c9c7cde0d6612f9eb47") false
    gcdModulo_holds (fun _ h => by cases h) (by kernel_rfl) (fun _ h => by cases h) gcdModulo_row_tie rfl ⟨rfl, rfl⟩ (by kernel_rfl) rfl
    (fun f fn hf hfn => by
      obtain rfl : f = 5 := Option.some.inj ((show Tryz.prog.funcNamed "ziggurat/zigguratlaw07.GcdModulo" = some 5 by kernel_rfl).symm.trans hf) |>.symm
      obtain rfl : fn = Tryz.f5 := (Option.some.inj (Tryz.func5.symm.trans hfn)).symm
      exact ⟨by kernel_rfl, fun j t ht => by
        rw [Tryz.params5] at ht
        have hm : t ∈ [22, 22, 22] := by simpa using Array.mem_of_getElem? ht
        have hall : ([22, 22, 22].all fun u => !Tryz.prog.wantsStandIn u) = true := by kernel_rfl
        exact (show Tryz.prog.wantsStandIn t = false by simpa using List.all_eq_true.1 hall t hm)⟩)
    (by kernel_rfl)
#print axioms gcdModulo_card
end Go.Proofs.YthcmoimlnhghcaaGreatDoor
