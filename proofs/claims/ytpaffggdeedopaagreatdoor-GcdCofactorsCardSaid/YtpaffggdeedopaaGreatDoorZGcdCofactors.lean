/- For all inputs the divisor is the one number times its cofactor and the other one times its own, so it is the greatest, and of two that are not 0 no cofactor is greater than the other number over it: GcdCofactors returns true and leaves its arguments as they were. Conditions: Each package-level variable that the row lists (ntt.fields) holds at the call what the program's text lays; the tie is given and covers the pruned copy of the repository. -/
import Derived.Test.YtpaffggdeedopaaGreatDoorG01
import Derived.Test.YtpaffggdeedopaaGreatDoorG02
import Derived.Test.YtpaffggdeedopaaGreatDoorG03
import Derived.Test.YtpaffggdeedopaaGreatDoorG04
import Derived.Test.YtpaffggdeedopaaGreatDoorG05
import Derived.Test.YtpaffggdeedopaaGreatDoorK01
import Derived.Deep.CutRange
import Derived.Test.YtpaffggdeedopaaGreatDoorCards
import Derived.Test.YtpaffggdeedopaaGreatDoorTie
import Derived.SevenTiedAt
set_option maxRecDepth 100000
set_option maxHeartbeats 4000000
set_option linter.unusedVariables false
set_option linter.unusedSimpArgs false
namespace Go.Proofs.YtpaffggdeedopaaGreatDoor
open Go.RowKit Go.Shelf
attribute [local go_sem] max2_i min2_i max_two min_two

theorem gcdCofactors_c (A : Option Addr) (c : Nat) (l : List Nat) (B : Option Addr) (d : Nat) (m : List Nat) (w : World) (hG : Flds w) (hl : Rd w A l) (Ll : Lim l) (Ql : l.length ≤ maxLen) (Cl : l.length ≤ c) (Zl : A = none → c = 0) (hm : Rd w B m) (Lm : Lim m) (Qm : m.length ≤ maxLen) (Cm : m.length ≤ d) (Zm : B = none → d = 0) :
    Calls Tryz.prog 8 #[.slice A l.length c, .slice B m.length d] w fun e w' => e = .returned (.bool true) ∧ Below w.heap.size w w' := by
  replace Zl := Lib.hid Zl
  replace Zm := Lib.hid Zm
  go_enter Tryz.func8, Tryz.ntmps8
  go_wp2_with (fail)
  refine (Calls.mono (ghead_c _ hG) ?_)
  rintro e W1 ⟨rfl, hb1⟩
  replace hG := hG.below hb1
  replace hl := hl.below hb1
  replace hm := hm.below hb1
  have HBT := hb1
  clear hb1
  go_wp2_with (fail)
  obtain ⟨a, Ea⟩ : ∃ zq : Nat, zq = val (l.take 30) := ⟨_, rfl⟩
  have Ba : nl a ≤ 30 := by rw [Ea]; exact made_nl l Ll 30
  refine (Calls.mono (R := RetN W1 a) (by rw [Ea]; exact (made_n_c A c 30 l _ hl Ll Ql Cl Zl.out (by decide))) ?_)
  replace Ea := Lib.hid Ea
  rintro e W2 ⟨X2, c2, rfl, ha, hb2⟩
  replace hG := hG.below hb2
  replace hl := hl.below hb2
  replace hm := hm.below hb2
  replace HBT := Below.cons HBT hb2
  clear hb2
  go_wp2_with (fail)
  clear hl
  obtain ⟨b, Eb⟩ : ∃ zq : Nat, zq = val (m.take 30) := ⟨_, rfl⟩
  have Bb : nl b ≤ 30 := by rw [Eb]; exact made_nl m Lm 30
  refine (Calls.mono (R := RetN W2 b) (by rw [Eb]; exact (made_n_c B d 30 m _ hm Lm Qm Cm Zm.out (by decide))) ?_)
  replace Eb := Lib.hid Eb
  rintro e W3 ⟨X3, c3, rfl, hb, hb3⟩
  replace hG := hG.below hb3
  replace hm := hm.below hb3
  replace ha := ha.below hb3
  replace HBT := Below.cons HBT hb3
  clear hb3
  clear hm
  go_wp2_with (fail)
  have SZ := ex_sz (a := a) (b := b) (L := 30) Ba Bb (by decide)
  have SU := ex_sum a b
  have GD : nl (Nat.gcd a b) ≤ 30 := nl_gcd Ba Bb
  have CX := ext_c X2 c2 a X3 c3 b _ ha hb hG (by omega) (by omega)
  obtain ⟨g, Eg⟩ : ∃ z : Nat, z = Nat.gcd a b := ⟨_, rfl⟩
  obtain ⟨u, Eu⟩ : ∃ z : Int, z = exu a b := ⟨_, rfl⟩
  obtain ⟨v, Ev⟩ : ∃ z : Int, z = exv a b := ⟨_, rfl⟩
  rw [← Eg, ← Eu, ← Ev] at CX
  rw [← Eu, ← Ev] at SZ
  rw [← Eg, ← Eu, ← Ev] at SU
  rw [← Eg] at GD
  obtain ⟨Nu, Nv⟩ := SZ
  replace CX := Lib.hid CX
  replace Eg := Lib.hid Eg
  replace Eu := Lib.hid Eu
  replace Ev := Lib.hid Ev
  replace SU := Lib.hid SU
  refine (Calls.mono CX.out ?_)
  rintro e W4 ⟨Xg, cg, Xu, cu, Xv, cv, rfl, hg, hu, hv, hb4⟩
  replace hG := hG.below hb4
  replace ha := ha.below hb4
  replace hb := hb.below hb4
  replace HBT := Below.cons HBT hb4
  clear hb4
  clear CX
  obtain ⟨hb5, Ru, Rv⟩ := bx2 W4 #[.bool (sg u), .slice Xu (nl (mg u)) cu] 24 #[.bool (sg v), .slice Xv (nl (mg v)) cv] 24
  replace hG := hG.below hb5
  replace ha := ha.below hb5
  replace hb := hb.below hb5
  replace hg := hg.below hb5
  replace hu := hu.below hb5
  replace hv := hv.below hb5
  replace HBT := Below.cons HBT hb5
  clear hb5
  have qu0 := Ru.c (i := 0) rfl
  have qu1 := Ru.c (i := 1) rfl
  have qv0 := Rv.c (i := 0) rfl
  have qv1 := Rv.c (i := 1) rfl
  obtain ⟨ia, Eia⟩ : ∃ z : Int, z = (a : Int) := ⟨_, rfl⟩
  obtain ⟨ib, Eib⟩ : ∃ z : Int, z = (b : Int) := ⟨_, rfl⟩
  obtain ⟨p1, Ep1⟩ : ∃ z : Int, z = ia * u := ⟨_, rfl⟩
  obtain ⟨p2, Ep2⟩ : ∃ z : Int, z = ib * v := ⟨_, rfl⟩
  obtain ⟨sm, Esm⟩ : ∃ z : Int, z = p1 + p2 := ⟨_, rfl⟩
  have Via : mg ia = a := by rw [Eia]; exact mg_nat a
  have Vib : mg ib = b := by rw [Eib]; exact mg_nat b
  have Sia : sg ia = false := by rw [Eia]; exact sg_f (Int.natCast_nonneg a)
  have Sib : sg ib = false := by rw [Eib]; exact sg_f (Int.natCast_nonneg b)
  have Nia : nl (mg ia) ≤ 30 := by rw [Via]; exact Ba
  have Nib : nl (mg ib) ≤ 30 := by rw [Vib]; exact Bb
  have Np1 : nl (mg p1) ≤ 60 := by rw [Ep1]; unfold mg; rw [Int.natAbs_mul]; have := nl_mul ia.natAbs u.natAbs; unfold mg at Nia Nu; omega
  have Np2 : nl (mg p2) ≤ 60 := by rw [Ep2]; unfold mg; rw [Int.natAbs_mul]; have := nl_mul ib.natAbs v.natAbs; unfold mg at Nib Nv; omega
  have Vsm : sm = (g : Int) := by rw [Esm, Ep1, Ep2, Eia, Eib, Int.mul_comm (a : Int), Int.mul_comm (b : Int)]; exact SU.out
  have Nsm : nl (mg sm) ≤ 30 := by rw [Vsm, mg_nat]; exact GD
  have Cia := fun (W : World) (h : NatV W X2 c2 a) => rz_f X2 c2 a ia W h (by omega) Via Sia
  have Cib := fun (W : World) (h : NatV W X3 c3 b) => rz_f X3 c3 b ib W h (by omega) Vib Sib
  have Cp1 := fun (W : World) (A : Option Addr) (c : Nat) (h1 : NatV W A c (mg ia)) (h2 : NatV W Xu cu (mg u)) => zmul_c A c ia Xu cu u W h1 h2 (by omega) (by omega)
  rw [← Ep1] at Cp1
  have Cp2 := fun (W : World) (A : Option Addr) (c : Nat) (h1 : NatV W A c (mg ib)) (h2 : NatV W Xv cv (mg v)) => zmul_c A c ib Xv cv v W h1 h2 (by omega) (by omega)
  rw [← Ep2] at Cp2
  have Csm := fun (W : World) (A : Option Addr) (c : Nat) (B : Option Addr) (d : Nat) (h1 : NatV W A c (mg p1)) (h2 : NatV W B d (mg p2)) => zadd_c A c p1 B d p2 W h1 h2 (by omega) (by omega)
  rw [← Esm] at Csm
  replace Eia := Lib.hid Eia
  replace Eib := Lib.hid Eib
  replace Ep1 := Lib.hid Ep1
  replace Ep2 := Lib.hid Ep2
  replace Esm := Lib.hid Esm
  replace Via := Lib.hid Via
  replace Vib := Lib.hid Vib
  replace Sia := Lib.hid Sia
  replace Sib := Lib.hid Sib
  replace Vsm := Lib.hid Vsm
  replace Cia := Lib.hid Cia
  replace Cib := Lib.hid Cib
  replace Cp1 := Lib.hid Cp1
  replace Cp2 := Lib.hid Cp2
  replace Csm := Lib.hid Csm
  go_wp2_with (fail)
  generalize hV0 : ((W4.alloc (.cells #[.bool (sg u), .slice Xu (nl (mg u)) cu] 24)).alloc (.cells #[.bool (sg v), .slice Xv (nl (mg v)) cv] 24)) = V0 at *
  replace hV0 := Lib.hid hV0
  refine wp_region_inv (fun E a' w' => ∃ (u22 u23 u24 u25 u26 u27 u28 u29 u30 u9 : Value),
    a' = { tmps := #[.slice X2 (nl a) c2, .slice X3 (nl b) c3, undef, undef, .bool false, .bool true, .slice Xg (nl g) cg, .pointer (some ⟨W4.heap.size, 0, none⟩), .pointer (some ⟨(W4.heap.size + 1), 0, none⟩), u9, .bool true, .slice A l.length c, .slice X2 (nl a) c2, .slice B m.length d, .slice X3 (nl b) c3, .tuple #[.slice Xg (nl g) cg, .agg #[.bool (sg u), .slice Xu (nl (mg u)) cu], .agg #[.bool (sg v), .slice Xv (nl (mg v)) cv]], .slice X2 (nl a) c2, .slice X3 (nl b) c3, .tuple #[.slice Xg (nl g) cg, .agg #[.bool (sg u), .slice Xu (nl (mg u)) cu], .agg #[.bool (sg v), .slice Xv (nl (mg v)) cv]], .slice Xg (nl g) cg, .agg #[.bool (sg u), .slice Xu (nl (mg u)) cu], .agg #[.bool (sg v), .slice Xv (nl (mg v)) cv], u22, u23, u24, u25, u26, u27, u28, u29, u30, undef, undef, undef, undef, undef, undef, undef, undef, undef, undef, undef, undef, undef, undef, undef, undef, undef, undef, undef, undef, undef, undef, undef, undef, undef, undef, undef, undef, undef, undef, undef, undef, undef, undef, undef, undef, undef, undef, undef, undef, undef, undef, undef, undef, undef, undef, undef, undef, undef, undef, undef, undef, undef, undef, undef, undef, undef, undef, undef, undef, undef, undef], defers := [] } ∧
    (E 0 = true → u22 = .slice X2 (nl a) c2) ∧
    (E 1 = true → PI u23 ia w') ∧
    (E 2 = true → u24 = .agg #[.bool (sg u), .slice Xu (nl (mg u)) cu]) ∧
    (E 3 = true → PI u25 p1 w') ∧
    (E 4 = true → u26 = .slice X3 (nl b) c3) ∧
    (E 5 = true → PI u27 ib w') ∧
    (E 6 = true → u28 = .agg #[.bool (sg v), .slice Xv (nl (mg v)) cv]) ∧
    (E 7 = true → PI u29 p2 w') ∧
    (E 8 = true → PI u30 sm w') ∧
    (E 9 = true → PB2 24 V0.heap.size u9 w') ∧
    (E 10 = true → PBI V0.heap.size u9 sm w') ∧
    (E 10 = true → E 9 = true) ∧
    Below V0.heap.size V0 w') (by kernel_rfl) (by kernel_rfl) ?init ?fin ?step
  case init => exact ⟨_, _, _, _, _, _, _, _, _, _, rfl, by simp, by simp, by simp, by simp, by simp, by simp, by simp, by simp, by simp, by simp, by simp, by simp, (Below.refl _ _).drew⟩
  case step =>
    rintro E a' w' i ⟨u22, u23, u24, u25, u26, u27, u28, u29, u30, u9, rfl, h0, h1, h2, h3, h4, h5, h6, h7, h8, h9, h10, hD10, hB⟩ hi hEi hdep
    have qu0 := cbl hB qu0
    have qu1 := cbl hB qu1
    have qv0 := cbl hB qv0
    have qv1 := cbl hB qv1
    obtain rfl | rfl | rfl | rfl | rfl | rfl | rfl | rfl | rfl | rfl | rfl : i = 0 ∨ i = 1 ∨ i = 2 ∨ i = 3 ∨ i = 4 ∨ i = 5 ∨ i = 6 ∨ i = 7 ∨ i = 8 ∨ i = 9 ∨ i = 10 := by simp at hi; omega
    · skip
      refine wpOp_step rfl (fun K' hK' => ?_)
      go_simp
      refine hK' _ _ ?_
      exact ⟨_, _, _, _, _, _, _, _, _, _, rfl, fun _ => rfl, keepD (by decide) h1, keepD (by decide) h2, keepD (by decide) h3, keepD (by decide) h4, keepD (by decide) h5, keepD (by decide) h6, keepD (by decide) h7, keepD (by decide) h8, keepD (by decide) h9, keepD (by decide) h10, (fun h => by have := hD10 (by simpa using h); simpa using this), hB⟩
    · skip
      have d0 := hdep _ rfl ⟨0, .data⟩ (by simp) rfl
      obtain rfl := h0 d0
      refine wpOp_step rfl (fun K' hK' => ?_)
      go_simp
      refine (Calls.mono (Cia.out w' (ha.below hB)) ?_)
      rintro e W1 ⟨Xr, cr, rfl, kr, kb⟩
      refine hK' _ _ ?_
      exact ⟨_, _, _, _, _, _, _, _, _, _, rfl, keepD (by decide) h0, fun _ => ⟨Xr, cr, rfl, kr⟩, keepD (by decide) h2, keepP (by decide) h3 (fun h => h.below kb), keepD (by decide) h4, keepP (by decide) h5 (fun h => h.below kb), keepD (by decide) h6, keepP (by decide) h7 (fun h => h.below kb), keepP (by decide) h8 (fun h => h.below kb), keepP (by decide) h9 (fun h => h.below kb), keepP (by decide) h10 (fun h => h.below kb), (fun h => by have := hD10 (by simpa using h); simpa using this), Below.cons hB kb⟩
    · skip
      refine wpOp_step rfl (fun K' hK' => ?_)
      go_simp
      refine hK' _ _ ?_
      exact ⟨_, _, _, _, _, _, _, _, _, _, rfl, keepD (by decide) h0, keepD (by decide) h1, fun _ => rfl, keepD (by decide) h3, keepD (by decide) h4, keepD (by decide) h5, keepD (by decide) h6, keepD (by decide) h7, keepD (by decide) h8, keepD (by decide) h9, keepD (by decide) h10, (fun h => by have := hD10 (by simpa using h); simpa using this), hB⟩
    · skip
      have d1 := hdep _ rfl ⟨1, .data⟩ (by simp) rfl
      obtain ⟨X_1, c_1, rfl, k_1⟩ := h1 d1
      have d2 := hdep _ rfl ⟨2, .data⟩ (by simp) rfl
      obtain rfl := h2 d2
      refine wpOp_step rfl (fun K' hK' => ?_)
      go_simp
      refine (Calls.mono (Cp1.out w' _ _ k_1 (hu.below hB)) ?_)
      rintro e W1 ⟨Xr, cr, rfl, kr, kb⟩
      refine hK' _ _ ?_
      exact ⟨_, _, _, _, _, _, _, _, _, _, rfl, keepD (by decide) h0, keepP (by decide) h1 (fun h => h.below kb), keepD (by decide) h2, fun _ => ⟨Xr, cr, rfl, kr⟩, keepD (by decide) h4, keepP (by decide) h5 (fun h => h.below kb), keepD (by decide) h6, keepP (by decide) h7 (fun h => h.below kb), keepP (by decide) h8 (fun h => h.below kb), keepP (by decide) h9 (fun h => h.below kb), keepP (by decide) h10 (fun h => h.below kb), (fun h => by have := hD10 (by simpa using h); simpa using this), Below.cons hB kb⟩
    · skip
      refine wpOp_step rfl (fun K' hK' => ?_)
      go_simp
      refine hK' _ _ ?_
      exact ⟨_, _, _, _, _, _, _, _, _, _, rfl, keepD (by decide) h0, keepD (by decide) h1, keepD (by decide) h2, keepD (by decide) h3, fun _ => rfl, keepD (by decide) h5, keepD (by decide) h6, keepD (by decide) h7, keepD (by decide) h8, keepD (by decide) h9, keepD (by decide) h10, (fun h => by have := hD10 (by simpa using h); simpa using this), hB⟩
    · skip
      have d4 := hdep _ rfl ⟨4, .data⟩ (by simp) rfl
      obtain rfl := h4 d4
      refine wpOp_step rfl (fun K' hK' => ?_)
      go_simp
      refine (Calls.mono (Cib.out w' (hb.below hB)) ?_)
      rintro e W1 ⟨Xr, cr, rfl, kr, kb⟩
      refine hK' _ _ ?_
      exact ⟨_, _, _, _, _, _, _, _, _, _, rfl, keepD (by decide) h0, keepP (by decide) h1 (fun h => h.below kb), keepD (by decide) h2, keepP (by decide) h3 (fun h => h.below kb), keepD (by decide) h4, fun _ => ⟨Xr, cr, rfl, kr⟩, keepD (by decide) h6, keepP (by decide) h7 (fun h => h.below kb), keepP (by decide) h8 (fun h => h.below kb), keepP (by decide) h9 (fun h => h.below kb), keepP (by decide) h10 (fun h => h.below kb), (fun h => by have := hD10 (by simpa using h); simpa using this), Below.cons hB kb⟩
    · skip
      refine wpOp_step rfl (fun K' hK' => ?_)
      go_simp
      refine hK' _ _ ?_
      exact ⟨_, _, _, _, _, _, _, _, _, _, rfl, keepD (by decide) h0, keepD (by decide) h1, keepD (by decide) h2, keepD (by decide) h3, keepD (by decide) h4, keepD (by decide) h5, fun _ => rfl, keepD (by decide) h7, keepD (by decide) h8, keepD (by decide) h9, keepD (by decide) h10, (fun h => by have := hD10 (by simpa using h); simpa using this), hB⟩
    · skip
      have d5 := hdep _ rfl ⟨5, .data⟩ (by simp) rfl
      obtain ⟨X_5, c_5, rfl, k_5⟩ := h5 d5
      have d6 := hdep _ rfl ⟨6, .data⟩ (by simp) rfl
      obtain rfl := h6 d6
      refine wpOp_step rfl (fun K' hK' => ?_)
      go_simp
      refine (Calls.mono (Cp2.out w' _ _ k_5 (hv.below hB)) ?_)
      rintro e W1 ⟨Xr, cr, rfl, kr, kb⟩
      refine hK' _ _ ?_
      exact ⟨_, _, _, _, _, _, _, _, _, _, rfl, keepD (by decide) h0, keepP (by decide) h1 (fun h => h.below kb), keepD (by decide) h2, keepP (by decide) h3 (fun h => h.below kb), keepD (by decide) h4, keepP (by decide) h5 (fun h => h.below kb), keepD (by decide) h6, fun _ => ⟨Xr, cr, rfl, kr⟩, keepP (by decide) h8 (fun h => h.below kb), keepP (by decide) h9 (fun h => h.below kb), keepP (by decide) h10 (fun h => h.below kb), (fun h => by have := hD10 (by simpa using h); simpa using this), Below.cons hB kb⟩
    · skip
      have d3 := hdep _ rfl ⟨3, .data⟩ (by simp) rfl
      obtain ⟨X_3, c_3, rfl, k_3⟩ := h3 d3
      have d7 := hdep _ rfl ⟨7, .data⟩ (by simp) rfl
      obtain ⟨X_7, c_7, rfl, k_7⟩ := h7 d7
      refine wpOp_step rfl (fun K' hK' => ?_)
      go_simp
      refine (Calls.mono (Csm.out w' _ _ _ _ k_3 k_7) ?_)
      rintro e W1 ⟨Xr, cr, rfl, kr, kb⟩
      refine hK' _ _ ?_
      exact ⟨_, _, _, _, _, _, _, _, _, _, rfl, keepD (by decide) h0, keepP (by decide) h1 (fun h => h.below kb), keepD (by decide) h2, keepP (by decide) h3 (fun h => h.below kb), keepD (by decide) h4, keepP (by decide) h5 (fun h => h.below kb), keepD (by decide) h6, keepP (by decide) h7 (fun h => h.below kb), fun _ => ⟨Xr, cr, rfl, kr⟩, keepP (by decide) h9 (fun h => h.below kb), keepP (by decide) h10 (fun h => h.below kb), (fun h => by have := hD10 (by simpa using h); simpa using this), Below.cons hB kb⟩
    · skip
      have kb : Below w'.heap.size w' (w'.alloc (.cells #[.bool false, .slice none 0 0] 24)) := (Below.refl _ _).alloc (Nat.le_refl _) _
      refine wpOp_step rfl (fun K' hK' => ?_)
      go_simp
      refine hK' _ _ ?_
      exact ⟨_, _, _, _, _, _, _, _, _, _, rfl, keepD (by decide) h0, keepP (by decide) h1 (fun h => h.below kb), keepD (by decide) h2, keepP (by decide) h3 (fun h => h.below kb), keepD (by decide) h4, keepP (by decide) h5 (fun h => h.below kb), keepD (by decide) h6, keepP (by decide) h7 (fun h => h.below kb), keepP (by decide) h8 (fun h => h.below kb), fun _ => ⟨_, _, _, rfl, hB.size, ⟨at_new rfl⟩, notU_bool _, notU_slice _ _ _⟩, (fun h => by have h2 := hD10 (by simpa using h); rw [hEi] at h2; cases h2), (fun _ => by simp), Below.cons hB kb⟩
    · skip
      have d9 := hdep _ rfl ⟨9, .data⟩ (by simp) rfl
      obtain ⟨nb, z0, z1, rfl, hn, hb, nz0, nz1⟩ := h9 d9
      have d8 := hdep _ rfl ⟨8, .data⟩ (by simp) rfl
      obtain ⟨X_8, c_8, rfl, k_8⟩ := h8 d8
      have fz0 := hb.f (i := 0)
      have cz0 := hb.c (i := 0) rfl
      have fz1 := hb.f (i := 1)
      have cz1 := hb.c (i := 1) rfl
      have hp := hb.put2 (notU2 nz0 nz1) (.bool (sg sm)) (.slice X_8 (nl (mg sm)) c_8)
      have hs := hb.store2 (.bool (sg sm)) (.slice X_8 (nl (mg sm)) c_8)
      refine wpOp_step rfl (fun K' hK' => ?_)
      go_simp
      refine hK' _ _ ?_
      exact ⟨_, _, _, _, _, _, _, _, _, _, rfl, keepD (by decide) h0, keepP (by decide) h1 (fun h => h.put hp), keepD (by decide) h2, keepP (by decide) h3 (fun h => h.put hp), keepD (by decide) h4, keepP (by decide) h5 (fun h => h.put hp), keepD (by decide) h6, keepP (by decide) h7 (fun h => h.put hp), keepP (by decide) h8 (fun h => h.put hp), (fun _ => ⟨nb, _, _, rfl, hn, hs, notU_bool _, notU_slice _ _ _⟩), fun _ => ⟨nb, X_8, c_8, rfl, hn, hs, hp.nat k_8⟩, (fun _ => by simp [d9]), Below.store2 hB hn⟩
  case fin =>
    rintro E a' w' ⟨u22, u23, u24, u25, u26, u27, u28, u29, u30, u9, rfl, h0, h1, h2, h3, h4, h5, h6, h7, h8, h9, h10, hD10, hB⟩ hall
    obtain ⟨nbsm, Xsm, csm, rfl, hnsm, Rsm, hsm⟩ := h10 (hall 10 (by simp))
    replace hG := hG.below hB
    replace ha := ha.below hB
    replace hb := hb.below hB
    replace hg := hg.below hB
    replace hu := hu.below hB
    replace hv := hv.below hB
    replace Ru := Ru.below hB
    replace qu0 := cbl hB qu0
    replace qu1 := cbl hB qu1
    replace Rv := Rv.below hB
    replace qv0 := cbl hB qv0
    replace qv1 := cbl hB qv1
    replace HBT := Below.cons HBT hB
    have kvsm := hnsm
    have qsm0 := Rsm.c (i := 0) rfl
    have qsm1 := Rsm.c (i := 1) rfl
    clear hall
    generalize hV1 : w' = V1 at *
    clear hV1
    clear Rsm
    go_wp2_with (fail)
    have hd6 := drb (V1)
    replace hG := hG.below hd6
    replace ha := ha.below hd6
    replace hb := hb.below hd6
    replace hg := hg.below hd6
    replace hu := hu.below hd6
    replace hv := hv.below hd6
    replace Ru := Ru.below hd6
    replace qu0 := cbl hd6 qu0
    replace qu1 := cbl hd6 qu1
    replace Rv := Rv.below hd6
    replace qv0 := cbl hd6 qv0
    replace qv1 := cbl hd6 qv1
    replace hsm := hsm.below hd6
    replace qsm0 := cbl hd6 qsm0
    replace qsm1 := cbl hd6 qsm1
    replace HBT := Below.cons HBT hd6
    clear hd6
    replace qu0 : (V1).drew.cell? ⟨W4.heap.size, 0, none⟩ = some (.bool (sg u)) := qu0
    replace qu1 : (V1).drew.cell? ⟨W4.heap.size, 1, none⟩ = some (.slice Xu (nl (mg u)) cu) := qu1
    replace qv0 : (V1).drew.cell? ⟨(W4.heap.size + 1), 0, none⟩ = some (.bool (sg v)) := qv0
    replace qv1 : (V1).drew.cell? ⟨(W4.heap.size + 1), 1, none⟩ = some (.slice Xv (nl (mg v)) cv) := qv1
    replace qsm0 : (V1).drew.cell? ⟨nbsm, 0, none⟩ = some (.bool (sg sm)) := qsm0
    replace qsm1 : (V1).drew.cell? ⟨nbsm, 1, none⟩ = some (.slice Xsm (nl (mg sm)) csm) := qsm1
    obtain ⟨ng, Eng⟩ : ∃ zq : Int, zq = (g : Int) := ⟨_, rfl⟩
    have C6_0 := fun (W : World) (h : NatV W Xg cg g) => (show Calls Tryz.prog 67 #[.bool false, .slice Xg (nl g) cg] W (RetI W ng) by exact rz_f Xg cg g ng W h (by omega) (by rw [Eng]; exact mg_nat g) (by rw [Eng]; exact sg_f (Int.natCast_nonneg g)))
    replace Eng := Lib.hid Eng
    replace C6_0 := Lib.hid C6_0
    have C6_1 := fun (W : World) (A : Option Addr) (c : Nat) (h : NatV W Xsm csm (mg sm)) (h2 : NatV W A c (mg ng)) => (show Calls Tryz.prog 57 #[.agg #[.bool (sg sm), .slice Xsm (nl (mg sm)) csm], .agg #[.bool (sg ng), .slice A (nl (mg ng)) c]] W (fun e w' => e = .returned (.bool true) ∧ Below W.heap.size W w') from zsameT_c Xsm csm sm A c ng W h h2 (by omega) (by rw [Eng.out]; exact Vsm.out))
    replace C6_1 := Lib.hid C6_1
    have C6_2 := fun (W : World) (h : NatV W Xg cg g) (h2 : NatV W X2 c2 a) => (show Calls Tryz.prog 63 #[.slice Xg (nl g) cg, .slice X2 (nl a) c2] W (fun e w' => e = .returned (.bool true) ∧ Below W.heap.size W w') from divides_c Xg cg g X2 c2 a W h h2 (by omega) (by omega) (by rw [Eg.out]; exact Nat.gcd_dvd_left _ _))
    replace C6_2 := Lib.hid C6_2
    have C6_3 := fun (W : World) (h : NatV W Xg cg g) (h2 : NatV W X3 c3 b) => (show Calls Tryz.prog 63 #[.slice Xg (nl g) cg, .slice X3 (nl b) c3] W (fun e w' => e = .returned (.bool true) ∧ Below W.heap.size W w') from divides_c Xg cg g X3 c3 b W h h2 (by omega) (by omega) (by rw [Eg.out]; exact Nat.gcd_dvd_right _ _))
    replace C6_3 := Lib.hid C6_3
    have C6_4 := fun (W : World) (h : NatV W Xu cu (mg u)) => (show Calls Tryz.prog 68 #[.agg #[.bool (sg u), .slice Xu (nl (mg u)) cu]] W (fun e w' => e = .returned (.bool true) ∧ Below W.heap.size W w') from zright_c Xu cu u W h (by omega))
    replace C6_4 := Lib.hid C6_4
    have C6_5 := fun (W : World) (h : NatV W Xv cv (mg v)) => (show Calls Tryz.prog 68 #[.agg #[.bool (sg v), .slice Xv (nl (mg v)) cv]] W (fun e w' => e = .returned (.bool true) ∧ Below W.heap.size W w') from zright_c Xv cv v W h (by omega))
    replace C6_5 := Lib.hid C6_5
    obtain ⟨S, hS⟩ : ∃ S : World → Prop, S = fun W => W.cell? ⟨W4.heap.size, 0, none⟩ = some (.bool (sg u)) ∧ W.cell? ⟨W4.heap.size, 1, none⟩ = some (.slice Xu (nl (mg u)) cu) ∧ W.cell? ⟨(W4.heap.size + 1), 0, none⟩ = some (.bool (sg v)) ∧ W.cell? ⟨(W4.heap.size + 1), 1, none⟩ = some (.slice Xv (nl (mg v)) cv) ∧ W.cell? ⟨nbsm, 0, none⟩ = some (.bool (sg sm)) ∧ W.cell? ⟨nbsm, 1, none⟩ = some (.slice Xsm (nl (mg sm)) csm) := ⟨_, rfl⟩
    have HSq : S (V1).drew := by rw [hS]; exact ⟨qu0, qu1, qv0, qv1, qsm0, qsm1⟩
    have hSb : ∀ W W' : World, Below W.heap.size W W' → S W → S W' := by rw [hS]; exact fun W W' hb h => ⟨cell_below hb h.1, cell_below hb h.2.1, cell_below hb h.2.2.1, cell_below hb h.2.2.2.1, cell_below hb h.2.2.2.2.1, cell_below hb h.2.2.2.2.2⟩
    replace hSb := Lib.hid hSb
    replace hS := Lib.hid hS
    refine wp_region_seq S [(0, true), (1, true), (2, false), (3, false), (4, true), (5, true), (6, true), (7, true), (8, false), (9, true), (10, true), (11, true), (12, true), (13, true), (14, false), (15, true), (16, true), (17, true), (18, true), (19, false), (20, true), (21, true), (22, true), (23, true), (24, false), (25, true), (26, true)] (by kernel_rfl) (by kernel_rfl) (by kernel_rfl) HSq (fun hSq => ?_)
    clear hSq
    replace HSq := Lib.hid HSq
    clear qu0 qu1 qv0 qv1 qsm0 qsm1
    refine SeqP.take (v := ?_) rfl (fun _ _ _ h => h) (Or.inl ⟨by rfl, ?_⟩) ?_
    rotate_left 1
    · intro wq hSw; rw [hS.out] at hSw; (try dsimp only at hSw); go_simp; try with_reducible rfl
    try simp only [Act.put, List.setIfInBounds_toArray, List.set_cons_zero, List.set_cons_succ]
    refine SeqP.take (v := ?_) rfl (fun _ _ _ h => h) (Or.inl ⟨by rfl, ?_⟩) ?_
    rotate_left 1
    · intro wq hSw; rw [hS.out] at hSw; (try dsimp only at hSw); go_simp; try with_reducible rfl
    try simp only [Act.put, List.setIfInBounds_toArray, List.set_cons_zero, List.set_cons_succ]
    refine SeqP.call rfl (by rfl) (fun Kq hKq => ?_)
    go_simp
    go_at_call 67
    with_reducible refine (C6_0.out _ hg).mono ?_
    rintro e W7 ⟨Xng, cng, rfl, hng, hb7⟩
    replace hG := hG.below hb7
    replace ha := ha.below hb7
    replace hb := hb.below hb7
    replace hg := hg.below hb7
    replace hu := hu.below hb7
    replace hv := hv.below hb7
    replace Ru := Ru.below hb7
    replace Rv := Rv.below hb7
    replace hsm := hsm.below hb7
    replace HBT := Below.cons HBT hb7
    replace HSq := Lib.hid (hSb.out _ _ hb7 HSq.out)
    clear hb7
    refine hKq.out _ _ HSq.out (fun hSq => ?_)
    clear hSq hKq Kq
    try simp only [Act.put, List.setIfInBounds_toArray, List.set_cons_zero, List.set_cons_succ]
    refine SeqP.call rfl (by rfl) (fun Kq hKq => ?_)
    go_simp
    go_at_call 57
    with_reducible refine (C6_1.out _ _ _ hsm hng).mono ?_
    rintro e W8 ⟨rfl, hb8⟩
    replace hG := hG.below hb8
    replace ha := ha.below hb8
    replace hb := hb.below hb8
    replace hg := hg.below hb8
    replace hu := hu.below hb8
    replace hv := hv.below hb8
    replace Ru := Ru.below hb8
    replace Rv := Rv.below hb8
    replace HBT := Below.cons HBT hb8
    replace HSq := Lib.hid (hSb.out _ _ hb8 HSq.out)
    clear hb8
    refine hKq.out _ _ HSq.out (fun hSq => ?_)
    clear hSq hKq Kq
    try simp only [Act.put, List.setIfInBounds_toArray, List.set_cons_zero, List.set_cons_succ]
    refine SeqP.take (v := ?_) rfl (fun _ _ _ h => h) (Or.inl ⟨by rfl, ?_⟩) ?_
    rotate_left 1
    · intro wq hSw; rw [hS.out] at hSw; (try dsimp only at hSw); go_simp; try with_reducible rfl
    try simp only [Act.put, List.setIfInBounds_toArray, List.set_cons_zero, List.set_cons_succ]
    refine SeqP.take (v := ?_) rfl (fun _ _ _ h => h) (Or.inl ⟨by rfl, ?_⟩) ?_
    rotate_left 1
    · intro wq hSw; rw [hS.out] at hSw; (try dsimp only at hSw); go_simp; try with_reducible rfl
    try simp only [Act.put, List.setIfInBounds_toArray, List.set_cons_zero, List.set_cons_succ]
    refine SeqP.take (v := ?_) rfl (fun _ _ _ h => h) (Or.inl ⟨by rfl, ?_⟩) ?_
    rotate_left 1
    · intro wq hSw; rw [hS.out] at hSw; (try dsimp only at hSw); go_simp; try with_reducible rfl
    try simp only [Act.put, List.setIfInBounds_toArray, List.set_cons_zero, List.set_cons_succ]
    refine SeqP.take (v := ?_) rfl (fun _ _ _ h => h) (Or.inl ⟨by rfl, ?_⟩) ?_
    rotate_left 1
    · intro wq hSw; rw [hS.out] at hSw; (try dsimp only at hSw); go_simp; try with_reducible rfl
    try simp only [Act.put, List.setIfInBounds_toArray, List.set_cons_zero, List.set_cons_succ]
    refine SeqP.call rfl (by rfl) (fun Kq hKq => ?_)
    go_simp
    go_at_call 63
    with_reducible refine (C6_2.out _ hg ha).mono ?_
    rintro e W9 ⟨rfl, hb9⟩
    replace hG := hG.below hb9
    replace ha := ha.below hb9
    replace hb := hb.below hb9
    replace hg := hg.below hb9
    replace hu := hu.below hb9
    replace hv := hv.below hb9
    replace Ru := Ru.below hb9
    replace Rv := Rv.below hb9
    replace HBT := Below.cons HBT hb9
    replace HSq := Lib.hid (hSb.out _ _ hb9 HSq.out)
    clear hb9
    refine hKq.out _ _ HSq.out (fun hSq => ?_)
    clear hSq hKq Kq
    try simp only [Act.put, List.setIfInBounds_toArray, List.set_cons_zero, List.set_cons_succ]
    refine SeqP.take (v := ?_) rfl (fun _ _ _ h => h) (Or.inl ⟨by rfl, ?_⟩) ?_
    rotate_left 1
    · intro wq hSw; rw [hS.out] at hSw; (try dsimp only at hSw); go_simp; try with_reducible rfl
    try simp only [Act.put, List.setIfInBounds_toArray, List.set_cons_zero, List.set_cons_succ]
    refine SeqP.take (v := ?_) rfl (fun _ _ _ h => h) (Or.inl ⟨by rfl, ?_⟩) ?_
    rotate_left 1
    · intro wq hSw; rw [hS.out] at hSw; (try dsimp only at hSw); go_simp; try with_reducible rfl
    try simp only [Act.put, List.setIfInBounds_toArray, List.set_cons_zero, List.set_cons_succ]
    refine SeqP.take (v := ?_) rfl (fun _ _ _ h => h) (Or.inl ⟨by rfl, ?_⟩) ?_
    rotate_left 1
    · intro wq hSw; rw [hS.out] at hSw; (try dsimp only at hSw); go_simp; try with_reducible rfl
    try simp only [Act.put, List.setIfInBounds_toArray, List.set_cons_zero, List.set_cons_succ]
    refine SeqP.take (v := ?_) rfl (fun _ _ _ h => h) (Or.inl ⟨by rfl, ?_⟩) ?_
    rotate_left 1
    · intro wq hSw; rw [hS.out] at hSw; (try dsimp only at hSw); go_simp; try with_reducible rfl
    try simp only [Act.put, List.setIfInBounds_toArray, List.set_cons_zero, List.set_cons_succ]
    refine SeqP.take (v := ?_) rfl (fun _ _ _ h => h) (Or.inl ⟨by rfl, ?_⟩) ?_
    rotate_left 1
    · intro wq hSw; rw [hS.out] at hSw; (try dsimp only at hSw); go_simp; try with_reducible rfl
    try simp only [Act.put, List.setIfInBounds_toArray, List.set_cons_zero, List.set_cons_succ]
    refine SeqP.call rfl (by rfl) (fun Kq hKq => ?_)
    go_simp
    go_at_call 63
    with_reducible refine (C6_3.out _ hg hb).mono ?_
    rintro e W10 ⟨rfl, hb10⟩
    replace hG := hG.below hb10
    replace ha := ha.below hb10
    replace hb := hb.below hb10
    replace hg := hg.below hb10
    replace hu := hu.below hb10
    replace hv := hv.below hb10
    replace Ru := Ru.below hb10
    replace Rv := Rv.below hb10
    replace HBT := Below.cons HBT hb10
    replace HSq := Lib.hid (hSb.out _ _ hb10 HSq.out)
    clear hb10
    refine hKq.out _ _ HSq.out (fun hSq => ?_)
    clear hSq hKq Kq
    try simp only [Act.put, List.setIfInBounds_toArray, List.set_cons_zero, List.set_cons_succ]
    refine SeqP.take (v := ?_) rfl (fun _ _ _ h => h) (Or.inl ⟨by rfl, ?_⟩) ?_
    rotate_left 1
    · intro wq hSw; rw [hS.out] at hSw; (try dsimp only at hSw); go_simp; try with_reducible rfl
    try simp only [Act.put, List.setIfInBounds_toArray, List.set_cons_zero, List.set_cons_succ]
    refine SeqP.take (v := ?_) rfl (fun _ _ _ h => h) (Or.inl ⟨by rfl, ?_⟩) ?_
    rotate_left 1
    · intro wq hSw; rw [hS.out] at hSw; (try dsimp only at hSw); go_simp; try with_reducible rfl
    try simp only [Act.put, List.setIfInBounds_toArray, List.set_cons_zero, List.set_cons_succ]
    refine SeqP.take (v := ?_) rfl (fun _ _ _ h => h) (Or.inl ⟨by rfl, ?_⟩) ?_
    rotate_left 1
    · intro wq hSw; rw [hS.out] at hSw; (try dsimp only at hSw); go_simp; try with_reducible rfl
    try simp only [Act.put, List.setIfInBounds_toArray, List.set_cons_zero, List.set_cons_succ]
    refine SeqP.take (v := ?_) rfl (fun _ _ _ h => h) (Or.inl ⟨by rfl, ?_⟩) ?_
    rotate_left 1
    · intro wq hSw; rw [hS.out] at hSw; (try dsimp only at hSw); go_simp; try with_reducible rfl
    try simp only [Act.put, List.setIfInBounds_toArray, List.set_cons_zero, List.set_cons_succ]
    refine SeqP.call rfl (by rfl) (fun Kq hKq => ?_)
    go_simp
    go_at_call 68
    with_reducible refine (C6_4.out _ hu).mono ?_
    rintro e W11 ⟨rfl, hb11⟩
    replace hG := hG.below hb11
    replace ha := ha.below hb11
    replace hb := hb.below hb11
    replace hg := hg.below hb11
    replace hu := hu.below hb11
    replace hv := hv.below hb11
    replace Ru := Ru.below hb11
    replace Rv := Rv.below hb11
    replace HBT := Below.cons HBT hb11
    replace HSq := Lib.hid (hSb.out _ _ hb11 HSq.out)
    clear hb11
    refine hKq.out _ _ HSq.out (fun hSq => ?_)
    clear hSq hKq Kq
    try simp only [Act.put, List.setIfInBounds_toArray, List.set_cons_zero, List.set_cons_succ]
    refine SeqP.take (v := ?_) rfl (fun _ _ _ h => h) (Or.inl ⟨by rfl, ?_⟩) ?_
    rotate_left 1
    · intro wq hSw; rw [hS.out] at hSw; (try dsimp only at hSw); go_simp; try with_reducible rfl
    try simp only [Act.put, List.setIfInBounds_toArray, List.set_cons_zero, List.set_cons_succ]
    refine SeqP.take (v := ?_) rfl (fun _ _ _ h => h) (Or.inl ⟨by rfl, ?_⟩) ?_
    rotate_left 1
    · intro wq hSw; rw [hS.out] at hSw; (try dsimp only at hSw); go_simp; try with_reducible rfl
    try simp only [Act.put, List.setIfInBounds_toArray, List.set_cons_zero, List.set_cons_succ]
    refine SeqP.take (v := ?_) rfl (fun _ _ _ h => h) (Or.inl ⟨by rfl, ?_⟩) ?_
    rotate_left 1
    · intro wq hSw; rw [hS.out] at hSw; (try dsimp only at hSw); go_simp; try with_reducible rfl
    try simp only [Act.put, List.setIfInBounds_toArray, List.set_cons_zero, List.set_cons_succ]
    refine SeqP.take (v := ?_) rfl (fun _ _ _ h => h) (Or.inl ⟨by rfl, ?_⟩) ?_
    rotate_left 1
    · intro wq hSw; rw [hS.out] at hSw; (try dsimp only at hSw); go_simp; try with_reducible rfl
    try simp only [Act.put, List.setIfInBounds_toArray, List.set_cons_zero, List.set_cons_succ]
    refine SeqP.call rfl (by rfl) (fun Kq hKq => ?_)
    go_simp
    go_at_call 68
    with_reducible refine (C6_5.out _ hv).mono ?_
    rintro e W12 ⟨rfl, hb12⟩
    replace hG := hG.below hb12
    replace ha := ha.below hb12
    replace hb := hb.below hb12
    replace hg := hg.below hb12
    replace hu := hu.below hb12
    replace hv := hv.below hb12
    replace Ru := Ru.below hb12
    replace Rv := Rv.below hb12
    replace HBT := Below.cons HBT hb12
    replace HSq := Lib.hid (hSb.out _ _ hb12 HSq.out)
    clear hb12
    refine hKq.out _ _ HSq.out (fun hSq => ?_)
    clear hSq hKq Kq
    try simp only [Act.put, List.setIfInBounds_toArray, List.set_cons_zero, List.set_cons_succ]
    refine SeqP.take (v := ?_) rfl (fun _ _ _ h => h) (Or.inl ⟨by rfl, ?_⟩) ?_
    rotate_left 1
    · intro wq hSw; rw [hS.out] at hSw; (try dsimp only at hSw); go_simp; try with_reducible rfl
    try simp only [Act.put, List.setIfInBounds_toArray, List.set_cons_zero, List.set_cons_succ]
    refine SeqP.take (v := ?_) rfl (fun _ _ _ h => h) (Or.inl ⟨by rfl, ?_⟩) ?_
    rotate_left 1
    · intro wq hSw; rw [hS.out] at hSw; (try dsimp only at hSw); go_simp; try with_reducible rfl
    try simp only [Act.put, List.setIfInBounds_toArray, List.set_cons_zero, List.set_cons_succ]
    refine SeqP.done ?_
    clear hSb
    replace HSq := HSq.out
    rw [hS.out] at HSq
    replace HSq := Lib.hid HSq
    obtain ⟨zqu0, zqu1, zqv0, zqv1, zqsm0, zqsm1⟩ := HSq.out
    clear HSq
    clear zqsm0
    clear zqsm1
    by_cases ha0 : a = 0
    · skip
      have t1 : ((nl a : Int) == 0) = true := ieqT (by rw [ha0, nl_zero]; rfl)
      have t1' : (nl a == 0) = true := by rw [ha0, nl_zero]; rfl
      replace ha0 := Lib.hid ha0
      go_wp2_with (fail)
      obtain ⟨ad, Ead⟩ : ∃ zq : Nat, zq = a + b := ⟨_, rfl⟩
      have Bad : nl ad ≤ 31 := by rw [Ead]; have := nl_add a b; omega
      refine (Calls.mono (R := RetN W12 ad) (by rw [Ead]; exact (radd_c X2 c2 a X3 c3 b _ ha hb (by omega) (by omega))) ?_)
      replace Ead := Lib.hid Ead
      rintro e W13 ⟨X13, c13, rfl, had, hb13⟩
      replace hG := hG.below hb13
      replace ha := ha.below hb13
      replace hb := hb.below hb13
      replace hg := hg.below hb13
      replace hu := hu.below hb13
      replace hv := hv.below hb13
      replace Ru := Ru.below hb13
      replace Rv := Rv.below hb13
      replace zqu0 := cbl hb13 zqu0
      replace zqu1 := cbl hb13 zqu1
      replace zqv0 := cbl hb13 zqv0
      replace zqv1 := cbl hb13 zqv1
      replace HBT := Below.cons HBT hb13
      clear hb13
      go_wp2_with (fail)
      have ea : g = ad := by rw [Eg.out, Ead.out, ha0.out, Nat.gcd_zero_left, Nat.zero_add]
      replace ea := Lib.hid ea
      refine (Calls.mono (same1_t Xg cg g X13 c13 ad _ hg had (by omega) (by omega) (by exact ea.out)) ?_)
      rintro e W14 ⟨rfl, hb14⟩
      replace hG := hG.below hb14
      replace ha := ha.below hb14
      replace hb := hb.below hb14
      replace hg := hg.below hb14
      replace hu := hu.below hb14
      replace hv := hv.below hb14
      replace Ru := Ru.below hb14
      replace Rv := Rv.below hb14
      replace zqu0 := cbl hb14 zqu0
      replace zqu1 := cbl hb14 zqu1
      replace zqv0 := cbl hb14 zqv0
      replace zqv1 := cbl hb14 zqv1
      replace had := had.below hb14
      replace HBT := Below.cons HBT hb14
      clear hb14
      go_wp2_with (fail)
      go_ret
      exact ⟨rfl, HBT⟩
    · skip
      have t1 : ((nl a : Int) == 0) = false := ieqF (by have := nl_pos.2 (show a ≠ 0 by exact ha0); omega)
      have t1' : (nl a == 0) = false := by have := nl_pos.2 (show a ≠ 0 by exact ha0); simp; omega
      by_cases hb0 : b = 0
      · skip
        have t2 : ((nl b : Int) == 0) = true := ieqT (by rw [hb0, nl_zero]; rfl)
        have t2' : (nl b == 0) = true := by rw [hb0, nl_zero]; rfl
        replace ha0 := Lib.hid ha0
        replace hb0 := Lib.hid hb0
        go_wp2_with (fail)
        obtain ⟨ad, Ead⟩ : ∃ zq : Nat, zq = a + b := ⟨_, rfl⟩
        have Bad : nl ad ≤ 31 := by rw [Ead]; have := nl_add a b; omega
        refine (Calls.mono (R := RetN W12 ad) (by rw [Ead]; exact (radd_c X2 c2 a X3 c3 b _ ha hb (by omega) (by omega))) ?_)
        replace Ead := Lib.hid Ead
        rintro e W13 ⟨X13, c13, rfl, had, hb13⟩
        replace hG := hG.below hb13
        replace ha := ha.below hb13
        replace hb := hb.below hb13
        replace hg := hg.below hb13
        replace hu := hu.below hb13
        replace hv := hv.below hb13
        replace Ru := Ru.below hb13
        replace Rv := Rv.below hb13
        replace zqu0 := cbl hb13 zqu0
        replace zqu1 := cbl hb13 zqu1
        replace zqv0 := cbl hb13 zqv0
        replace zqv1 := cbl hb13 zqv1
        replace HBT := Below.cons HBT hb13
        clear hb13
        go_wp2_with (fail)
        have ea : g = ad := by rw [Eg.out, Ead.out, hb0.out, Nat.gcd_zero_right, Nat.add_zero]
        replace ea := Lib.hid ea
        refine (Calls.mono (same1_t Xg cg g X13 c13 ad _ hg had (by omega) (by omega) (by exact ea.out)) ?_)
        rintro e W14 ⟨rfl, hb14⟩
        replace hG := hG.below hb14
        replace ha := ha.below hb14
        replace hb := hb.below hb14
        replace hg := hg.below hb14
        replace hu := hu.below hb14
        replace hv := hv.below hb14
        replace Ru := Ru.below hb14
        replace Rv := Rv.below hb14
        replace zqu0 := cbl hb14 zqu0
        replace zqu1 := cbl hb14 zqu1
        replace zqv0 := cbl hb14 zqv0
        replace zqv1 := cbl hb14 zqv1
        replace had := had.below hb14
        replace HBT := Below.cons HBT hb14
        clear hb14
        go_wp2_with (fail)
        go_ret
        exact ⟨rfl, HBT⟩
      · skip
        have t2 : ((nl b : Int) == 0) = false := ieqF (by have := nl_pos.2 (show b ≠ 0 by exact hb0); omega)
        have t2' : (nl b == 0) = false := by have := nl_pos.2 (show b ≠ 0 by exact hb0); simp; omega
        have EL := ex_le ha0 hb0
        rw [← Eg.out, ← Eu.out, ← Ev.out] at EL
        obtain ⟨LU, LV⟩ := EL
        have t3 : decide (cmpN (mg u * g) b ≤ 0) = true := decide_eq_true (by have := cmpN_pos (a := mg u * g) (b := b); omega)
        have t4 : decide (cmpN (mg v * g) a ≤ 0) = true := decide_eq_true (by have := cmpN_pos (a := mg v * g) (b := a); omega)
        replace ha0 := Lib.hid ha0
        replace hb0 := Lib.hid hb0
        replace LU := Lib.hid LU
        replace LV := Lib.hid LV
        go_wp2_with (fail)
        obtain ⟨y1, Ey1⟩ : ∃ zq : Nat, zq = (mg u) * g := ⟨_, rfl⟩
        have By1 : nl y1 ≤ 60 := by rw [Ey1]; have := nl_mul (mg u) g; omega
        refine (Calls.mono (R := RetN W12 y1) (by rw [Ey1]; exact (rmul_c Xu cu (mg u) Xg cg g _ hu hg (by omega) (by omega))) ?_)
        replace Ey1 := Lib.hid Ey1
        rintro e W13 ⟨X13, c13, rfl, hy1, hb13⟩
        replace hG := hG.below hb13
        replace ha := ha.below hb13
        replace hb := hb.below hb13
        replace hg := hg.below hb13
        replace Ru := Ru.below hb13
        replace Rv := Rv.below hb13
        replace zqu0 := cbl hb13 zqu0
        replace zqu1 := cbl hb13 zqu1
        replace zqv0 := cbl hb13 zqv0
        replace zqv1 := cbl hb13 zqv1
        replace hu := hu.below hb13
        replace hv := hv.below hb13
        replace HBT := Below.cons HBT hb13
        clear hb13
        have t3' : decide (cmpN y1 b ≤ 0) = true := by rw [Ey1.out]; exact t3
        go_wp2_with (fail)
        refine (Calls.mono (rcmp_c X13 c13 y1 X3 c3 b _ hy1 hb (by omega) (by omega)) ?_)
        rintro e w' ⟨rfl, hw⟩
        first | subst hw | (replace hw := hw.symm; subst hw)
        go_wp2_with (fail)
        obtain ⟨y2, Ey2⟩ : ∃ zq : Nat, zq = (mg v) * g := ⟨_, rfl⟩
        have By2 : nl y2 ≤ 60 := by rw [Ey2]; have := nl_mul (mg v) g; omega
        refine (Calls.mono (R := RetN W13 y2) (by rw [Ey2]; exact (rmul_c Xv cv (mg v) Xg cg g _ hv hg (by omega) (by omega))) ?_)
        replace Ey2 := Lib.hid Ey2
        rintro e W14 ⟨X14, c14, rfl, hy2, hb14⟩
        replace hG := hG.below hb14
        replace ha := ha.below hb14
        replace hb := hb.below hb14
        replace hg := hg.below hb14
        replace Ru := Ru.below hb14
        replace Rv := Rv.below hb14
        replace zqu0 := cbl hb14 zqu0
        replace zqu1 := cbl hb14 zqu1
        replace zqv0 := cbl hb14 zqv0
        replace zqv1 := cbl hb14 zqv1
        replace hu := hu.below hb14
        replace hv := hv.below hb14
        replace hy1 := hy1.below hb14
        replace HBT := Below.cons HBT hb14
        clear hb14
        have t4' : decide (cmpN y2 a ≤ 0) = true := by rw [Ey2.out]; exact t4
        go_wp2_with (fail)
        refine (Calls.mono (rcmp_c X14 c14 y2 X2 c2 a _ hy2 ha (by omega) (by omega)) ?_)
        rintro e w' ⟨rfl, hw⟩
        first | subst hw | (replace hw := hw.symm; subst hw)
        go_wp2_with (fail)
        go_ret
        exact ⟨rfl, HBT⟩
end Go.Proofs.YtpaffggdeedopaaGreatDoor

set_option linter.unusedVariables false
set_option linter.unusedSimpArgs false
namespace Go.Proofs.YtpaffggdeedopaaGreatDoor
open Go.RowKit Go.ChangeShapes Go.WideShapes Go.ChangeAt

theorem gcdCofactors_lifted (os : Os) (started : os.Started) (H : Type) (enc : TypeId × Value → H) :
    ReturnsInHanded {} Tryz.checked os 8 .any (fun w args => (Rows.gcdCofactorsSpec.pre enc Tryz.prog Tryz.f8 [] false w args ∧ laidMetH Tryz.prog [("ziggurat/ntt.fields", Rows.laid_ziggurat_ntt_fields)] w) ∧ sizedMet enc Tryz.prog Tryz.f8 (OpenSpec.ofChange Rows.gcdCofactorsSpec) false w args)
      (Rows.gcdCofactorsSpec.post enc Tryz.prog Tryz.f8 false true false false) := by
  refine returnsInHanded_of_change_and (C := Tryz.checked) (X := fun w _ => laidMetH Tryz.prog [("ziggurat/ntt.fields", Rows.laid_ziggurat_ntt_fields)] w) (fun _ _ _ hh h => h.of_heap hh) row_own started (by kernel_rfl) Tryz.func8
    (ChangeSpec.witness_shaped (enc := enc) (C := Tryz.checked) (os := os) (X := fun w _ => laidMetH Tryz.prog [("ziggurat/ntt.fields", Rows.laid_ziggurat_ntt_fields)] w) false (World.doorLaid Tryz.prog 400 os) #[.slice none 0 0, .slice none 0 0] 8 rfl (World.shaped_of_RefB (by kernel_rfl) (by kernel_rfl)) (by kernel_rfl) (by kernel_rfl) (by kernel_rfl) (door_met os _)) ?_
  intro W base args ds gs before hval0 hW _ _ hL _
  have hval : ∀ (j : Nat) t v, Tryz.f8.params[j]? = some t → args[j]? = some v → Value.okWide Tryz.prog W .any base t v := hval0
  have hW' := hW
  obtain ⟨p, q, hA0, hV, rfl, hfz, hnd⟩ := hW
  have hA : DataW.TrodAll enc Tryz.prog W 0 (fun _ => true) true Tryz.f8.params.toList args.toList ds p := hA0
  rw [Tryz.params8] at hA hval
  obtain ⟨v0, vs0, d0, ds0, p0, q0, hargs, rfl, rfl, h0, r0⟩ := trodAll_cons hA
  obtain ⟨v1, vs1, d1, ds1, p1, q1, rfl, rfl, rfl, h1, r1⟩ := trodAll_cons r0
  obtain ⟨rfl, rfl, rfl⟩ := trodAll_nil r1
  obtain rfl : args = #[v0, v1] := by cases args; simp_all
  obtain ⟨rfl, rfl⟩ := trodVars_none hV
  have hG := flds_of_laid hL
  have k0 := h0
  have lt0 : ∀ x ∈ p0, x.block < W.heap.size := by obtain ⟨m, hm⟩ := k0; exact DataW.trod_lt m _ _ _ hm
  obtain ⟨A0, c0, l0, rfl, i0⟩ := open_natv (hval 0 22 v0 rfl rfl) h0
  have k1 := h1
  have lt1 : ∀ x ∈ p1, x.block < W.heap.size := by obtain ⟨m, hm⟩ := k1; exact DataW.trod_lt m _ _ _ hm
  obtain ⟨A1, c1, l1, rfl, i1⟩ := open_natv (hval 1 22 v1 rfl rfl) h1
  clear hA0 hval0 hval hL
  have hcall := gcdCofactors_c A0 c0 l0 A1 c1 l1 W hG i0.1 i0.2.1 i0.2.2.1 i0.2.2.2.1 i0.2.2.2.2 i1.1 i1.2.1 i1.2.2.1 i1.2.2.2.1 i1.2.2.2.2
  refine hcall.mono fun e W' ⟨he, bel⟩ => ?_
  subst he
  exact ⟨_, rfl, _, _, _, [], _, [], hW', trodAll_mk1 (shut_bool Tryz.underlying4 _), (trodAll_cons_mk (Below.trod row_out (by kernel_rfl) (of_decide_eq_true (by kernel_rfl)) k0 bel lt0) (trodAll_cons_mk (Below.trod row_out (by kernel_rfl) (of_decide_eq_true (by kernel_rfl)) k1 bel lt1) trodAll_mk0)), rfl, bel.frame _, fun h => by cases h⟩
theorem gcdCofactors_holds : Rows.GcdCofactorsSaid :=
  OpenClaim.holds_of_wide 8 Tryz.f8 rfl rfl rfl rfl rfl rfl rfl ⟨rfl, rfl, rfl, rfl, rfl⟩ rfl rfl rfl rfl rfl (by kernel_rfl) Tryz.func8 (by kernel_rfl)
    (of_decide_eq_true (by kernel_rfl)) (by unfold Func.isWrapper; first | (rw [if_pos (by decide +kernel)]; kernel_rfl) | (rw [if_neg (by decide +kernel)]; exact ⟨rfl, rfl⟩))
    (fun os started H enc _ => gcdCofactors_lifted os started H enc)

/-- The card, tied to the program's text. -/
theorem gcdCofactors_card : Rows.GcdCofactorsCardSaid :=
  Claim7.holds_tied_plain_at .later [] [.data] true (true, "656b37b7ccc5af8af5a85e438c408380abd1ad709ff303cf5fc9993104b47efd") false
    gcdCofactors_holds (fun _ h => by cases h) (by kernel_rfl) (fun _ h => by cases h) gcdCofactors_row_tie rfl ⟨rfl, rfl⟩ (by kernel_rfl) rfl
    (fun f fn hf hfn => by
      obtain rfl : f = 8 := Option.some.inj ((show Tryz.prog.funcNamed "ziggurat/zigguratlaw07.GcdCofactors" = some 8 by kernel_rfl).symm.trans hf) |>.symm
      obtain rfl : fn = Tryz.f8 := (Option.some.inj (Tryz.func8.symm.trans hfn)).symm
      exact ⟨by kernel_rfl, fun j t ht => by
        rw [Tryz.params8] at ht
        have hm : t ∈ [22, 22] := by simpa using Array.mem_of_getElem? ht
        have hall : ([22, 22].all fun u => !Tryz.prog.wantsStandIn u) = true := by kernel_rfl
        exact (show Tryz.prog.wantsStandIn t = false by simpa using List.all_eq_true.1 hall t hm)⟩)
    (by kernel_rfl)
#print axioms gcdCofactors_card
end Go.Proofs.YtpaffggdeedopaaGreatDoor
