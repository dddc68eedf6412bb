/- The head's resultant. -/
import Derived.Test.YtopigejgadnkaaaGreatDoorV04
import Derived.Test.YtopigejgadnkaaaGreatDoorV03
import Derived.ArgAppend
import Derived.Test.YtopigejgadnkaaaGreatDoorV02
import Derived.Test.YtopigejgadnkaaaGreatDoorV01
import Derived.RangeFuncFrom
import Derived.RangeFuncBox
import Derived.RangeFuncLeaves
import Derived.OrdersIn
import Derived.OwnWalkIn
import Derived.Laws.AppendOwn
import Derived.RangeFuncCalls
set_option maxRecDepth 100000
set_option maxHeartbeats 4000000
set_option linter.unusedVariables false
set_option linter.unusedSimpArgs false
namespace Go.Proofs.YtopigejgadnkaaaGreatDoor
open Go.RowKit Go.Shelf
attribute [local go_sem] max2_i min2_i max_two min_two

theorem psd_hd : psd 1 [-3, 1] 1 1 [-2, 0, 1] 2 = ([3, 1], [7]) := by decide +kernel
theorem gi_nl {l : List Int} (h : ∀ x ∈ l, x.natAbs < 4294967296) (j : Nat) : nl (mg (gi l j)) ≤ 7 := by
  refine Nat.le_trans (nl_i ?_) (by decide : 1 ≤ 7)
  unfold gi
  rw [List.getD_eq_getElem?_getD]
  cases hx : l[j]? with
  | none => decide
  | some x => exact h x (List.mem_of_getElem? hx)
theorem psd_lr : ∀ i j, i ≤ 2 → nl (mg (gi (psd 1 [-3, 1] 1 1 [-2, 0, 1] i).2 j)) ≤ 7 ∧ nl (mg (gi (psd 1 [-3, 1] 1 1 [-2, 0, 1] i).1 j)) ≤ 7 := by
  intro i j hi
  obtain rfl | rfl | rfl : i = 0 ∨ i = 1 ∨ i = 2 := by omega
  · exact ⟨gi_nl (by decide +kernel) _, gi_nl (by decide +kernel) _⟩
  · exact ⟨gi_nl (by decide +kernel) _, gi_nl (by decide +kernel) _⟩
  · exact ⟨gi_nl (by decide +kernel) _, gi_nl (by decide +kernel) _⟩
theorem res_c (V : Option Addr) (cp : Nat) (U : Option Addr) (cb : Nat) (w : World) (hP : PolV w V cp [-2, 0, 1]) (hPb : PolV w U cb [-3, 1]) (hG : Flds w) :
    Calls Tryz.prog 30 #[.slice V 3 cp, .slice U 2 cb] w (RetI w 7) := by
  have hG0 := hG
  have hP0 := hP
  have hB0 := hPb
  obtain ⟨p, Ep⟩ : ∃ p : List Int, p = [-2, 0, 1] := ⟨_, rfl⟩
  obtain ⟨b, Eb⟩ : ∃ b : List Int, b = [-3, 1] := ⟨_, rfl⟩
  obtain ⟨r, Er⟩ : ∃ r : List Int, r = [7] := ⟨_, rfl⟩
  rw [← Ep] at hP hP0
  rw [← Eb] at hPb hB0
  have np : p.length = 3 := by rw [Ep]; rfl
  have nb_ : b.length = 2 := by rw [Eb]; rfl
  have nr : r.length = 1 := by rw [Er]; rfl
  have lgp : ∀ j, nl (mg (gi p j)) ≤ 7 := by rw [Ep]; exact gi_nl (by decide +kernel)
  have lgb : ∀ j, nl (mg (gi b j)) ≤ 7 := by rw [Eb]; exact gi_nl (by decide +kernel)
  have lgr : ∀ j, nl (mg (gi r j)) ≤ 7 := by rw [Er]; exact gi_nl (by decide +kernel)
  obtain ⟨one, E1⟩ : ∃ z : Int, z = 1 := ⟨_, rfl⟩
  obtain ⟨on, En1⟩ : ∃ z : Nat, z = 1 := ⟨_, rfl⟩
  obtain ⟨sev, E7⟩ : ∃ z : Int, z = 7 := ⟨_, rfl⟩
  have L1 : nl (mg one) ≤ 1 := by rw [E1]; decide +kernel
  have L7 : nl (mg sev) ≤ 1 := by rw [E7]; decide +kernel
  have Ln : nl on ≤ 1 := by rw [En1]; decide +kernel
  have C1 : ∀ W : World, PolV W V cp p → Calls Tryz.prog 72 #[.slice V 3 cp] W (RetN W on) := fun W h => by have c := content_c V cp p W h (by omega) lgp; rw [np, show cg p 3 = on by rw [Ep, En1]; decide +kernel] at c; exact c
  have C2 : ∀ W : World, PolV W U cb b → Calls Tryz.prog 72 #[.slice U 2 cb] W (RetN W on) := fun W h => by have c := content_c U cb b W h (by omega) lgb; rw [nb_, show cg b 2 = on by rw [Eb, En1]; decide +kernel] at c; exact c
  have C3 : ∀ (W : World) (A : Option Addr) (k : Nat), NatV W A k on → Calls Tryz.prog 71 #[.slice A (nl on) k] W (RetI W one) := fun W A k h => by have c := cwhole_c A k on W h (by omega); rw [show ((on : Nat) : Int) = one by rw [En1, E1]; rfl] at c; exact c
  have CO : ∀ W : World, Calls Tryz.prog 46 #[.int .i64 1] W (RetI W one) := fun W => by rw [E1]; exact iof_c 1 W (by decide)
  have CP1 : ∀ (W : World) (A : Option Addr) (k : Nat), NatV W A k (mg one) → Flds W → Calls Tryz.prog 8 #[.agg #[.bool (sg one), .slice A (nl (mg one)) k], .int .i64 1] W (RetI W one) := fun W A k h hG => by have c := ipow_f A k one 1 W h hG (by omega) (by omega) (by decide) (by omega) (by rw [E1]; decide +kernel); rw [show one ^ 1 = one by rw [E1]; rfl] at c; exact c
  have CP2 : ∀ (W : World) (A : Option Addr) (k : Nat), NatV W A k (mg one) → Flds W → Calls Tryz.prog 8 #[.agg #[.bool (sg one), .slice A (nl (mg one)) k], .int .i64 2] W (RetI W one) := fun W A k h hG => by have c := ipow_f A k one 2 W h hG (by omega) (by omega) (by decide) (by omega) (by rw [E1]; decide +kernel); rw [show one ^ 2 = one by rw [E1]; rfl] at c; exact c
  have CM : ∀ (W : World) (A : Option Addr) (k : Nat) (B : Option Addr) (j : Nat), NatV W A k (mg one) → NatV W B j (mg one) → Flds W → Calls Tryz.prog 22 #[.agg #[.bool (sg one), .slice A (nl (mg one)) k], .agg #[.bool (sg one), .slice B (nl (mg one)) j]] W (RetI W one) := fun W A k B j h1 h2 hG => by have c := imul_c A k one B j one W h1 h2 hG (by omega) (by omega); rw [show one * one = one by rw [E1]; rfl] at c; exact c
  have CM7 : ∀ (W : World) (A : Option Addr) (k : Nat) (B : Option Addr) (j : Nat), NatV W A k (mg one) → NatV W B j (mg sev) → Flds W → Calls Tryz.prog 22 #[.agg #[.bool (sg one), .slice A (nl (mg one)) k], .agg #[.bool (sg sev), .slice B (nl (mg sev)) j]] W (RetI W sev) := fun W A k B j h1 h2 hG => by have c := imul_c A k one B j sev W h1 h2 hG (by omega) (by omega); rw [show one * sev = sev by rw [E1, Int.one_mul]] at c; exact c
  have CVp : ∀ (W : World) (X : Option Addr) (c : Nat) (A : Option Addr) (k : Nat), PolV W X c p → NatV W A k (mg one) → Calls Tryz.prog 73 #[.slice X 3 c, .agg #[.bool (sg one), .slice A (nl (mg one)) k]] W (RetP W p) := fun W X c A k h h1 => by have c := chover_c X c p A k one W h h1 (by omega) (fun j => Nat.le_trans (lgp j) (by decide)) E1; rw [np] at c; exact c.mono (fun e w' h => retC_P h)
  have CVb : ∀ (W : World) (X : Option Addr) (c : Nat) (A : Option Addr) (k : Nat), PolV W X c b → NatV W A k (mg one) → Calls Tryz.prog 73 #[.slice X 2 c, .agg #[.bool (sg one), .slice A (nl (mg one)) k]] W (RetP W b) := fun W X c A k h h1 => by have c := chover_c X c b A k one W h h1 (by omega) (fun j => Nat.le_trans (lgb j) (by decide)) E1; rw [nb_] at c; exact c.mono (fun e w' h => retC_P h)
  have CVr : ∀ (W : World) (X : Option Addr) (c : Nat) (A : Option Addr) (k : Nat), PolV W X c r → NatV W A k (mg one) → Calls Tryz.prog 73 #[.slice X 1 c, .agg #[.bool (sg one), .slice A (nl (mg one)) k]] W (RetC W r) := fun W X c A k h h1 => by have c := chover_c X c r A k one W h h1 (by omega) (fun j => Nat.le_trans (lgr j) (by decide)) E1; rw [nr] at c; exact c
  have CPs : ∀ (W : World) (X : Option Addr) (c : Nat) (Y : Option Addr) (f : Nat), PolV W X c p → PolV W Y f b → Flds W → Calls Tryz.prog 74 #[.slice X 3 c, .slice Y 2 f] W (RetPP W [3, 1] r) := fun W X c Y f h1 h2 hG => by
    have hh := psd_hd
    have c := pseudo_c X c p Y f b 3 2 0 1 1 W h1 h2 hG np nb_ rfl rfl (by decide) (by rw [Eb]; rfl) lgb (by rw [Ep, Eb]; exact fun i j hi => (psd_lr i j hi).1) (by rw [Ep, Eb]; exact fun i j hi => (psd_lr i j hi).2) (by rw [Ep, Eb]; show gi (psd 1 [-3, 1] 1 1 [-2, 0, 1] 2).1 1 ≠ 0; rw [hh]; decide) (by rw [Ep, Eb]; show gi (psd 1 [-3, 1] 1 1 [-2, 0, 1] 2).2 0 ≠ 0; rw [hh]; decide)
    rw [show psd 1 b (0 + 1) 1 p (1 + 1) = ([3, 1], r) by rw [Ep, Eb, Er]; exact hh] at c
    exact c
  have CL : ∀ (W : World) (X : Option Addr) (c : Nat), PolV W X c b → Calls Tryz.prog 75 #[.slice X 2 c] W (RetI W one) := fun W X c h => lead_c X c 2 b 1 one W h nb_ rfl (by decide) (by rw [Eb, E1]; rfl)
  have CW : ∀ (W : World) (A : Option Addr) (k : Nat) (B : Option Addr) (j : Nat), NatV W A k (mg one) → NatV W B j (mg one) → Flds W → Calls Tryz.prog 76 #[.agg #[.bool (sg one), .slice A (nl (mg one)) k], .agg #[.bool (sg one), .slice B (nl (mg one)) j], .int .i64 1] W (RetI W one) := fun W A k B j h1 h2 hG => power_c A k one B j one W h1 h2 hG E1 (by omega) (by omega)
  have CW7 : ∀ (W : World) (A : Option Addr) (k : Nat) (B : Option Addr) (j : Nat), NatV W A k (mg one) → NatV W B j (mg sev) → Flds W → Calls Tryz.prog 76 #[.agg #[.bool (sg one), .slice A (nl (mg one)) k], .agg #[.bool (sg sev), .slice B (nl (mg sev)) j], .int .i64 1] W (RetI W sev) := fun W A k B j h1 h2 hG => power_c A k one B j sev W h1 h2 hG E1 (by omega) (by omega)
  have CD3 : ∀ (W : World) (X : Option Addr) (c : Nat), Calls Tryz.prog 62 #[.slice X 3 c] W (fun e w' => e = .returned (.int .i64 2) ∧ w' = W) := fun W X c => deg_c X c 3 W (by decide)
  have CD2 : ∀ (W : World) (X : Option Addr) (c : Nat), Calls Tryz.prog 62 #[.slice X 2 c] W (fun e w' => e = .returned (.int .i64 1) ∧ w' = W) := fun W X c => deg_c X c 2 W (by decide)
  have CDo : ∀ (W : World) (X : Option Addr) (c : Nat) (Y : Option Addr) (f : Nat), Calls Tryz.prog 70 #[.slice X 3 c, .slice Y 2 f] W (fun e w' => e = .returned (.bool false) ∧ Below W.heap.size W w') := fun W X c Y f => odd_c X c 3 Y f 2 W (by decide) (by decide) rfl
  rw [← E7]
  replace Ep := Lib.hid Ep
  replace Eb := Lib.hid Eb
  replace Er := Lib.hid Er
  replace np := Lib.hid np
  replace nb_ := Lib.hid nb_
  replace nr := Lib.hid nr
  replace lgp := Lib.hid lgp
  replace lgb := Lib.hid lgb
  replace lgr := Lib.hid lgr
  replace E1 := Lib.hid E1
  replace En1 := Lib.hid En1
  replace E7 := Lib.hid E7
  replace L1 := Lib.hid L1
  replace L7 := Lib.hid L7
  replace Ln := Lib.hid Ln
  replace C1 := Lib.hid C1
  replace C2 := Lib.hid C2
  replace C3 := Lib.hid C3
  replace CO := Lib.hid CO
  replace CP1 := Lib.hid CP1
  replace CP2 := Lib.hid CP2
  replace CM := Lib.hid CM
  replace CM7 := Lib.hid CM7
  replace CVp := Lib.hid CVp
  replace CVb := Lib.hid CVb
  replace CVr := Lib.hid CVr
  replace CPs := Lib.hid CPs
  replace CL := Lib.hid CL
  replace CW := Lib.hid CW
  replace CW7 := Lib.hid CW7
  replace CD3 := Lib.hid CD3
  replace CD2 := Lib.hid CD2
  replace CDo := Lib.hid CDo
  obtain ⟨hb1, Ro⟩ := bx1 w #[.bool false, .slice none 0 0] 24
  replace hP := hP.below hb1
  replace hPb := hPb.below hb1
  replace hG := hG.below hb1
  have HBT := hb1
  clear hb1
  have qo0 := Ro.c (i := 0) rfl
  have qo1 := Ro.c (i := 1) rfl
  go_enter Tryz.func30, Tryz.ntmps30
  go_wp2_with (fail)
  refine (Calls.mono (C1.out _ hP) ?_)
  rintro e W2 ⟨Xna, cna, rfl, hna, hb2⟩
  replace hP := hP.below hb2
  replace hPb := hPb.below hb2
  replace hG := hG.below hb2
  replace Ro := Ro.below hb2
  replace qo0 := cbl hb2 qo0
  replace qo1 := cbl hb2 qo1
  replace HBT := Below.cons HBT hb2
  clear hb2
  go_wp2_with (fail)
  refine (Calls.mono (C3.out _ _ _ hna) ?_)
  rintro e W3 ⟨Xx, cx, rfl, hx, hb3⟩
  replace hP := hP.below hb3
  replace hPb := hPb.below hb3
  replace hG := hG.below hb3
  replace Ro := Ro.below hb3
  replace qo0 := cbl hb3 qo0
  replace qo1 := cbl hb3 qo1
  replace hna := hna.below hb3
  replace HBT := Below.cons HBT hb3
  clear hb3
  go_wp2_with (fail)
  clear hna
  refine (Calls.mono (C2.out _ hPb) ?_)
  rintro e W4 ⟨Xnb, cnb, rfl, hnb, hb4⟩
  replace hP := hP.below hb4
  replace hPb := hPb.below hb4
  replace hG := hG.below hb4
  replace Ro := Ro.below hb4
  replace qo0 := cbl hb4 qo0
  replace qo1 := cbl hb4 qo1
  replace hx := hx.below hb4
  replace HBT := Below.cons HBT hb4
  clear hb4
  go_wp2_with (fail)
  refine (Calls.mono (C3.out _ _ _ hnb) ?_)
  rintro e W5 ⟨Xy, cy, rfl, hy, hb5⟩
  replace hP := hP.below hb5
  replace hPb := hPb.below hb5
  replace hG := hG.below hb5
  replace Ro := Ro.below hb5
  replace qo0 := cbl hb5 qo0
  replace qo1 := cbl hb5 qo1
  replace hx := hx.below hb5
  replace hnb := hnb.below hb5
  replace HBT := Below.cons HBT hb5
  clear hb5
  clear hnb
  have hs1 := Lib.hid Ro.lt
  obtain ⟨hb6, Rx, Ry⟩ := bx2 W5 #[.bool (sg one), .slice Xx (nl (mg one)) cx] 24 #[.bool (sg one), .slice Xy (nl (mg one)) cy] 24
  replace hP := hP.below hb6
  replace hPb := hPb.below hb6
  replace hG := hG.below hb6
  replace Ro := Ro.below hb6
  replace qo0 := cbl hb6 qo0
  replace qo1 := cbl hb6 qo1
  replace hx := hx.below hb6
  replace hy := hy.below hb6
  replace HBT := Below.cons HBT hb6
  clear hb6
  have qx0 := Rx.c (i := 0) rfl
  have qx1 := Rx.c (i := 1) rfl
  have qy0 := Ry.c (i := 0) rfl
  have qy1 := Ry.c (i := 1) rfl
  go_wp2_with (fail)
  generalize hW0 : ((W5.alloc (.cells #[.bool (sg one), .slice Xx (nl (mg one)) cx] 24)).alloc (.cells #[.bool (sg one), .slice Xy (nl (mg one)) cy] 24)) = W0 at *
  replace hW0 := Lib.hid hW0
  refine wp_region_fin 10 1 [.val (.agg #[.bool (sg one), .slice Xx (nl (mg one)) cx]), .val (.slice U 2 cb), .val (.int .i64 1), .int one, .val (.agg #[.bool (sg one), .slice Xy (nl (mg one)) cy]), .val (.slice V 3 cp), .val (.int .i64 2), .int one, .int one, .box 24 W0.heap.size #[.bool false, .slice none 0 0]] (by kernel_rfl) (by kernel_rfl) (by kernel_rfl) (by kernel_rfl) (by kernel_rfl) rfl ?_ ?_
  · skip
    refine ⟨?_, ?_⟩
    · intro Ew aw wc st hdep
      have t6 : aw.tmps[6]? = some (.pointer (some ⟨W5.heap.size, 0, none⟩)) := (st.old 6 (by kernel_rfl)).trans (by rfl)
      have qx0 := cbl st.b qx0
      have qx1 := cbl st.b qx1
      have e6 := tmp_of t6
      refine op_want rfl (by rfl) (fun K' hK' => ?_)
      go_simp
      exact hK'.out _ _ ⟨_, rfl, rfl, Below.refl _ _⟩
    refine ⟨?_, ?_⟩
    · intro Ew aw wc st hdep
      have t1 : aw.tmps[1]? = some (.slice U 2 cb) := (st.old 1 (by kernel_rfl)).trans (by rfl)
      have e1 := tmp_of t1
      refine op_want rfl (by rfl) (fun K' hK' => ?_)
      go_simp
      exact hK'.out _ _ ⟨_, rfl, rfl, Below.refl _ _⟩
    refine ⟨?_, ?_⟩
    · intro Ew aw wc st hdep
      obtain ⟨v41, t41, r41⟩ := st.nw hdep 1 41
      obtain rfl : v41 = .slice U 2 cb := r41
      have e41 := tmp_of t41
      refine op_want rfl (by rfl) (fun K' hK' => ?_)
      go_simp
      refine (Calls.mono (CD2.out wc _ _) ?_)
      rintro e W ⟨rfl, hw⟩
      first | subst hw | (replace hw := hw.symm; subst hw)
      exact hK'.out _ _ ⟨_, rfl, rfl, Below.refl _ _⟩
    refine ⟨?_, ?_⟩
    · intro Ew aw wc st hdep
      obtain ⟨v40, t40, r40⟩ := st.nw hdep 0 40
      obtain rfl : v40 = .agg #[.bool (sg one), .slice Xx (nl (mg one)) cx] := r40
      obtain ⟨v42, t42, r42⟩ := st.nw hdep 2 42
      obtain rfl : v42 = .int .i64 1 := r42
      have e40 := tmp_of t40
      have e42 := tmp_of t42
      refine op_want rfl (by rfl) (fun K' hK' => ?_)
      go_simp
      refine (Calls.mono (R := RetI wc one) (CP1.out wc _ _ (hx.below st.b) (hG.below st.b)) ?_)
      rintro e W ⟨X, c, rfl, hX, kb⟩
      exact hK'.out _ _ ⟨_, rfl, ⟨X, c, rfl, hX⟩, kb⟩
    refine ⟨?_, ?_⟩
    · intro Ew aw wc st hdep
      have t7 : aw.tmps[7]? = some (.pointer (some ⟨(W5.heap.size + 1), 0, none⟩)) := (st.old 7 (by kernel_rfl)).trans (by rfl)
      have qy0 := cbl st.b qy0
      have qy1 := cbl st.b qy1
      have e7 := tmp_of t7
      refine op_want rfl (by rfl) (fun K' hK' => ?_)
      go_simp
      exact hK'.out _ _ ⟨_, rfl, rfl, Below.refl _ _⟩
    refine ⟨?_, ?_⟩
    · intro Ew aw wc st hdep
      have t0 : aw.tmps[0]? = some (.slice V 3 cp) := (st.old 0 (by kernel_rfl)).trans (by rfl)
      have e0 := tmp_of t0
      refine op_want rfl (by rfl) (fun K' hK' => ?_)
      go_simp
      exact hK'.out _ _ ⟨_, rfl, rfl, Below.refl _ _⟩
    refine ⟨?_, ?_⟩
    · intro Ew aw wc st hdep
      obtain ⟨v45, t45, r45⟩ := st.nw hdep 5 45
      obtain rfl : v45 = .slice V 3 cp := r45
      have e45 := tmp_of t45
      refine op_want rfl (by rfl) (fun K' hK' => ?_)
      go_simp
      refine (Calls.mono (CD3.out wc _ _) ?_)
      rintro e W ⟨rfl, hw⟩
      first | subst hw | (replace hw := hw.symm; subst hw)
      exact hK'.out _ _ ⟨_, rfl, rfl, Below.refl _ _⟩
    refine ⟨?_, ?_⟩
    · intro Ew aw wc st hdep
      obtain ⟨v44, t44, r44⟩ := st.nw hdep 4 44
      obtain rfl : v44 = .agg #[.bool (sg one), .slice Xy (nl (mg one)) cy] := r44
      obtain ⟨v46, t46, r46⟩ := st.nw hdep 6 46
      obtain rfl : v46 = .int .i64 2 := r46
      have e44 := tmp_of t44
      have e46 := tmp_of t46
      refine op_want rfl (by rfl) (fun K' hK' => ?_)
      go_simp
      refine (Calls.mono (R := RetI wc one) (CP2.out wc _ _ (hy.below st.b) (hG.below st.b)) ?_)
      rintro e W ⟨X, c, rfl, hX, kb⟩
      exact hK'.out _ _ ⟨_, rfl, ⟨X, c, rfl, hX⟩, kb⟩
    refine ⟨?_, ?_⟩
    · intro Ew aw wc st hdep
      obtain ⟨v43, t43, r43⟩ := st.nw hdep 3 43
      obtain ⟨X43, c43, rfl, h43⟩ := r43
      obtain ⟨v47, t47, r47⟩ := st.nw hdep 7 47
      obtain ⟨X47, c47, rfl, h47⟩ := r47
      have e43 := tmp_of t43
      have e47 := tmp_of t47
      refine op_want rfl (by rfl) (fun K' hK' => ?_)
      go_simp
      refine (Calls.mono (R := RetI wc one) (CM.out wc _ _ _ _ h43 h47 (hG.below st.b)) ?_)
      rintro e W ⟨X, c, rfl, hX, kb⟩
      exact hK'.out _ _ ⟨_, rfl, ⟨X, c, rfl, hX⟩, kb⟩
    refine ⟨?_, ?_⟩
    · intro Ew aw wc st hdep
      refine op_want rfl (by rfl) (fun K' hK' => ?_)
      go_simp
      exact hK'.out _ _ ⟨_, rfl, ⟨_, rfl, st.b.size, ⟨at_new rfl⟩⟩, (Below.refl _ _).alloc (Nat.le_refl _) _⟩
    exact trivial
  intro vs wc hr hB
  obtain ⟨u40, r_40, rfl, k40, hr_40⟩ := hr.un
  obtain rfl : u40 = .agg #[.bool (sg one), .slice Xx (nl (mg one)) cx] := k40
  obtain ⟨u41, r_41, rfl, k41, hr_41⟩ := hr_40.un
  obtain rfl : u41 = .slice U 2 cb := k41
  obtain ⟨u42, r_42, rfl, k42, hr_42⟩ := hr_41.un
  obtain rfl : u42 = .int .i64 1 := k42
  obtain ⟨u43, r_43, rfl, k43, hr_43⟩ := hr_42.un
  obtain ⟨X43, c43, rfl, h43⟩ := k43
  obtain ⟨u44, r_44, rfl, k44, hr_44⟩ := hr_43.un
  obtain rfl : u44 = .agg #[.bool (sg one), .slice Xy (nl (mg one)) cy] := k44
  obtain ⟨u45, r_45, rfl, k45, hr_45⟩ := hr_44.un
  obtain rfl : u45 = .slice V 3 cp := k45
  obtain ⟨u46, r_46, rfl, k46, hr_46⟩ := hr_45.un
  obtain rfl : u46 = .int .i64 2 := k46
  obtain ⟨u47, r_47, rfl, k47, hr_47⟩ := hr_46.un
  obtain ⟨X47, c47, rfl, h47⟩ := k47
  obtain ⟨u48, r_48, rfl, k48, hr_48⟩ := hr_47.un
  obtain ⟨X48, c48, rfl, h48⟩ := k48
  obtain ⟨u8, r_8, rfl, k8, hr_8⟩ := hr_48.un
  obtain ⟨nb8, rfl, hn8, h8⟩ := k8
  obtain rfl := hr_8.nil
  clear hr hr_40 hr_41 hr_42 hr_43 hr_44 hr_45 hr_46 hr_47 hr_48 hr_8
  replace hP := hP.below hB
  replace hPb := hPb.below hB
  replace hG := hG.below hB
  replace Ro := Ro.below hB
  replace qo0 := cbl hB qo0
  replace qo1 := cbl hB qo1
  replace hx := hx.below hB
  replace hy := hy.below hB
  replace Rx := Rx.below hB
  replace qx0 := cbl hB qx0
  replace qx1 := cbl hB qx1
  replace Ry := Ry.below hB
  replace qy0 := cbl hB qy0
  replace qy1 := cbl hB qy1
  replace HBT := Below.cons HBT hB
  clear hB
  simp only [upTo, List.take_succ_cons, List.take_zero, putAll, Act.put, seq0, seq1, seq2]
  have Ru := h8
  clear h8
  have qu0 := Ru.c (i := 0) rfl
  have qu1 := Ru.c (i := 1) rfl
  have hz8 : w.heap.size < nb8 ∧ W5.heap.size < nb8 ∧ (W5.heap.size + 1) < nb8 := by have h0 := hs1.out; have h9 : (W5.heap.size + 1) + 1 = W0.heap.size := (by rw [← hW0.out]; simp); omega
  have hz8a := hz8.1
  have hz8b := hz8.2.1
  have hz8c := hz8.2.2
  clear hz8
  have fu0_7 := Ru.f (i := 0)
  have fu1_7 := Ru.f (i := 1)
  have Ro_7 : BoxA ((wc.setCell ⟨nb8, 0, none⟩ (.bool (sg one))).setCell ⟨nb8, 1, none⟩ (.slice X48 (nl (mg one)) c48)) _ _ _ := Ro.other2 (by first | omega | (simp; done) | (simp; omega))
  have Rx_7 : BoxA ((wc.setCell ⟨nb8, 0, none⟩ (.bool (sg one))).setCell ⟨nb8, 1, none⟩ (.slice X48 (nl (mg one)) c48)) _ _ _ := Rx.other2 (by first | omega | (simp; done) | (simp; omega))
  have Ry_7 : BoxA ((wc.setCell ⟨nb8, 0, none⟩ (.bool (sg one))).setCell ⟨nb8, 1, none⟩ (.slice X48 (nl (mg one)) c48)) _ _ _ := Ry.other2 (by first | omega | (simp; done) | (simp; omega))
  have Ru_7 := Ru.store2 (.bool (sg one)) (.slice X48 (nl (mg one)) c48)
  have qo0_7 := Ro_7.c (i := 0) rfl
  have qo1_7 := Ro_7.c (i := 1) rfl
  have hx_7 := Ru.keep2 (v0 := .bool (sg one)) (v1 := .slice X48 (nl (mg one)) c48) (nuB rfl) hx
  have hy_7 := Ru.keep2 (v0 := .bool (sg one)) (v1 := .slice X48 (nl (mg one)) c48) (nuB rfl) hy
  have qx0_7 := Rx_7.c (i := 0) rfl
  have qx1_7 := Rx_7.c (i := 1) rfl
  have qy0_7 := Ry_7.c (i := 0) rfl
  have qy1_7 := Ry_7.c (i := 1) rfl
  have h48_7 := Ru.keep2 (v0 := .bool (sg one)) (v1 := .slice X48 (nl (mg one)) c48) (nuB rfl) h48
  have qu0_7 := Ru_7.c (i := 0) rfl
  have qu1_7 := Ru_7.c (i := 1) rfl
  have HBT_7 := Below.store2 (v0 := .bool (sg one)) (v1 := .slice X48 (nl (mg one)) c48) HBT (k := nb8) (by first | exact Nat.le_refl _ | omega)
  have hP_7 := hP0.below HBT_7
  have hPb_7 := hB0.below HBT_7
  have hG_7 := hG0.below HBT_7
  refine TailP.one rfl (by rfl) (fun K' hK' => ?_)
  go_simp
  refine hK'.out _ _ ?_
  try simp only [Act.put, seq0, seq1, seq2]
  refine TailP.done ?_
  clear fu0_7 fu1_7 Ro Rx Ry Ru hP hPb hG qo0 qo1 hx hy qx0 qx1 qy0 qy1 h48 qu0 qu1 HBT
  generalize hV1 : ((wc.setCell ⟨nb8, 0, none⟩ (.bool (sg one))).setCell ⟨nb8, 1, none⟩ (.slice X48 (nl (mg one)) c48)) = V1 at *
  clear hV1
  go_wp2_with (fail)
  refine wp_region_fin 6 2 [.val (.slice V 3 cp), .val (.agg #[.bool (sg one), .slice Xx (nl (mg one)) cx]), .pol p, .val (.slice U 2 cb), .val (.agg #[.bool (sg one), .slice Xy (nl (mg one)) cy]), .pol b] (by kernel_rfl) (by kernel_rfl) (by kernel_rfl) (by kernel_rfl) (by kernel_rfl) rfl ?_ ?_
  · skip
    refine ⟨?_, ?_⟩
    · intro Ew aw wc st hdep
      have t0 : aw.tmps[0]? = some (.slice V 3 cp) := (st.old 0 (by kernel_rfl)).trans (by rfl)
      have e0 := tmp_of t0
      refine op_want rfl (by rfl) (fun K' hK' => ?_)
      go_simp
      exact hK'.out _ _ ⟨_, rfl, rfl, Below.refl _ _⟩
    refine ⟨?_, ?_⟩
    · intro Ew aw wc st hdep
      have t6 : aw.tmps[6]? = some (.pointer (some ⟨W5.heap.size, 0, none⟩)) := (st.old 6 (by kernel_rfl)).trans (by rfl)
      have qx0_7 := cbl st.b qx0_7
      have qx1_7 := cbl st.b qx1_7
      have e6 := tmp_of t6
      refine op_want rfl (by rfl) (fun K' hK' => ?_)
      go_simp
      exact hK'.out _ _ ⟨_, rfl, rfl, Below.refl _ _⟩
    refine ⟨?_, ?_⟩
    · intro Ew aw wc st hdep
      obtain ⟨v49, t49, r49⟩ := st.nw hdep 0 49
      obtain rfl : v49 = .slice V 3 cp := r49
      obtain ⟨v50, t50, r50⟩ := st.nw hdep 1 50
      obtain rfl : v50 = .agg #[.bool (sg one), .slice Xx (nl (mg one)) cx] := r50
      have e49 := tmp_of t49
      have e50 := tmp_of t50
      refine op_want rfl (by rfl) (fun K' hK' => ?_)
      go_simp
      refine (Calls.mono (R := RetP wc p) (CVp.out wc _ _ _ _ (hP_7.below st.b) (hx_7.below st.b)) ?_)
      rintro e W ⟨X, c, rfl, hX, kb⟩
      exact hK'.out _ _ ⟨_, rfl, ⟨X, c, rfl, hX⟩, kb⟩
    refine ⟨?_, ?_⟩
    · intro Ew aw wc st hdep
      have t1 : aw.tmps[1]? = some (.slice U 2 cb) := (st.old 1 (by kernel_rfl)).trans (by rfl)
      have e1 := tmp_of t1
      refine op_want rfl (by rfl) (fun K' hK' => ?_)
      go_simp
      exact hK'.out _ _ ⟨_, rfl, rfl, Below.refl _ _⟩
    refine ⟨?_, ?_⟩
    · intro Ew aw wc st hdep
      have t7 : aw.tmps[7]? = some (.pointer (some ⟨(W5.heap.size + 1), 0, none⟩)) := (st.old 7 (by kernel_rfl)).trans (by rfl)
      have qy0_7 := cbl st.b qy0_7
      have qy1_7 := cbl st.b qy1_7
      have e7 := tmp_of t7
      refine op_want rfl (by rfl) (fun K' hK' => ?_)
      go_simp
      exact hK'.out _ _ ⟨_, rfl, rfl, Below.refl _ _⟩
    refine ⟨?_, ?_⟩
    · intro Ew aw wc st hdep
      obtain ⟨v52, t52, r52⟩ := st.nw hdep 3 52
      obtain rfl : v52 = .slice U 2 cb := r52
      obtain ⟨v53, t53, r53⟩ := st.nw hdep 4 53
      obtain rfl : v53 = .agg #[.bool (sg one), .slice Xy (nl (mg one)) cy] := r53
      have e52 := tmp_of t52
      have e53 := tmp_of t53
      refine op_want rfl (by rfl) (fun K' hK' => ?_)
      go_simp
      refine (Calls.mono (R := RetP wc b) (CVb.out wc _ _ _ _ (hPb_7.below st.b) (hy_7.below st.b)) ?_)
      rintro e W ⟨X, c, rfl, hX, kb⟩
      exact hK'.out _ _ ⟨_, rfl, ⟨X, c, rfl, hX⟩, kb⟩
    exact trivial
  intro vs wc hr hB
  obtain ⟨u49, r_49, rfl, k49, hr_49⟩ := hr.un
  obtain rfl : u49 = .slice V 3 cp := k49
  obtain ⟨u50, r_50, rfl, k50, hr_50⟩ := hr_49.un
  obtain rfl : u50 = .agg #[.bool (sg one), .slice Xx (nl (mg one)) cx] := k50
  obtain ⟨u51, r_51, rfl, k51, hr_51⟩ := hr_50.un
  obtain ⟨X51, c51, rfl, h51⟩ := k51
  obtain ⟨u52, r_52, rfl, k52, hr_52⟩ := hr_51.un
  obtain rfl : u52 = .slice U 2 cb := k52
  obtain ⟨u53, r_53, rfl, k53, hr_53⟩ := hr_52.un
  obtain rfl : u53 = .agg #[.bool (sg one), .slice Xy (nl (mg one)) cy] := k53
  obtain ⟨u54, r_54, rfl, k54, hr_54⟩ := hr_53.un
  obtain ⟨X54, c54, rfl, h54⟩ := k54
  obtain rfl := hr_54.nil
  clear hr hr_49 hr_50 hr_51 hr_52 hr_53 hr_54
  replace Ro_7 := Ro_7.below hB
  replace Rx_7 := Rx_7.below hB
  replace Ry_7 := Ry_7.below hB
  replace Ru_7 := Ru_7.below hB
  replace hP_7 := hP_7.below hB
  replace hPb_7 := hPb_7.below hB
  replace hG_7 := hG_7.below hB
  replace qo0_7 := cbl hB qo0_7
  replace qo1_7 := cbl hB qo1_7
  replace hx_7 := hx_7.below hB
  replace hy_7 := hy_7.below hB
  replace qx0_7 := cbl hB qx0_7
  replace qx1_7 := cbl hB qx1_7
  replace qy0_7 := cbl hB qy0_7
  replace qy1_7 := cbl hB qy1_7
  replace h48_7 := h48_7.below hB
  replace qu0_7 := cbl hB qu0_7
  replace qu1_7 := cbl hB qu1_7
  have HBT := Below.cons HBT_7 hB
  clear hB
  simp only [upTo, List.take_succ_cons, List.take_zero, putAll, Act.put, seq0, seq1, seq2]
  clear hP_7
  clear hPb_7
  clear hx_7
  clear hy_7
  clear Rx_7
  clear Ry_7
  clear qx0_7
  clear qx1_7
  clear qy0_7
  clear qy1_7
  refine TailP.one rfl (by rfl) (fun K' hK' => ?_)
  go_simp
  refine hK'.out _ _ ?_
  try simp only [Act.put, seq0, seq1, seq2]
  refine TailP.one rfl (by rfl) (fun K' hK' => ?_)
  go_simp
  refine hK'.out _ _ ?_
  try simp only [Act.put, seq0, seq1, seq2]
  refine TailP.done ?_
  rw [np.out, nb_.out]
  go_wp2_with (fail)
  refine (Calls.mono (CO.out _) ?_)
  rintro e W8 ⟨Xg, cg, rfl, hg, hb8⟩
  replace Ro_7 := Ro_7.below hb8
  replace Ru_7 := Ru_7.below hb8
  replace hG_7 := hG_7.below hb8
  replace qo0_7 := cbl hb8 qo0_7
  replace qo1_7 := cbl hb8 qo1_7
  replace h48_7 := h48_7.below hb8
  replace qu0_7 := cbl hb8 qu0_7
  replace qu1_7 := cbl hb8 qu1_7
  replace h51 := h51.below hb8
  replace h54 := h54.below hb8
  replace HBT := Below.cons HBT hb8
  clear hb8
  go_wp2_with (fail)
  refine (Calls.mono (CO.out _) ?_)
  rintro e W9 ⟨Xh, ch, rfl, hh, hb9⟩
  replace Ro_7 := Ro_7.below hb9
  replace Ru_7 := Ru_7.below hb9
  replace hG_7 := hG_7.below hb9
  replace qo0_7 := cbl hb9 qo0_7
  replace qo1_7 := cbl hb9 qo1_7
  replace h48_7 := h48_7.below hb9
  replace qu0_7 := cbl hb9 qu0_7
  replace qu1_7 := cbl hb9 qu1_7
  replace h51 := h51.below hb9
  replace h54 := h54.below hb9
  replace hg := hg.below hb9
  replace HBT := Below.cons HBT hb9
  clear hb9
  have hs2 := Lib.hid Ru_7.lt
  have hP9 := h51
  have hB9 := h54
  obtain ⟨hb10, Rg, Rh⟩ := bx2 W9 #[.bool (sg one), .slice Xg (nl (mg one)) cg] 24 #[.bool (sg one), .slice Xh (nl (mg one)) ch] 24
  replace Ro_7 := Ro_7.below hb10
  replace Ru_7 := Ru_7.below hb10
  replace hG_7 := hG_7.below hb10
  replace qo0_7 := cbl hb10 qo0_7
  replace qo1_7 := cbl hb10 qo1_7
  replace h48_7 := h48_7.below hb10
  replace qu0_7 := cbl hb10 qu0_7
  replace qu1_7 := cbl hb10 qu1_7
  replace h51 := h51.below hb10
  replace h54 := h54.below hb10
  replace hg := hg.below hb10
  replace hh := hh.below hb10
  replace HBT := Below.cons HBT hb10
  clear hb10
  have qg0 := Rg.c (i := 0) rfl
  have qg1 := Rg.c (i := 1) rfl
  have qh0 := Rh.c (i := 0) rfl
  have qh1 := Rh.c (i := 1) rfl
  have S9 : Below W9.heap.size W9 ((W9.alloc (.cells #[.bool (sg one), .slice Xg (nl (mg one)) cg] 24)).alloc (.cells #[.bool (sg one), .slice Xh (nl (mg one)) ch] 24)) := Below.alloc (Below.alloc (Below.refl _ _) (Nat.le_refl _) _) (by simp <;> omega) _
  have S0 : NatV ((W9.alloc (.cells #[.bool (sg one), .slice Xg (nl (mg one)) cg] 24)).alloc (.cells #[.bool (sg one), .slice Xh (nl (mg one)) ch] 24)) Xg cg (mg one) ∧ NatV ((W9.alloc (.cells #[.bool (sg one), .slice Xg (nl (mg one)) cg] 24)).alloc (.cells #[.bool (sg one), .slice Xh (nl (mg one)) ch] 24)) Xh ch (mg one) ∧ BoxA ((W9.alloc (.cells #[.bool (sg one), .slice Xg (nl (mg one)) cg] 24)).alloc (.cells #[.bool (sg one), .slice Xh (nl (mg one)) ch] 24)) W9.heap.size 24 #[.bool (sg one), .slice Xg (nl (mg one)) cg] ∧ BoxA ((W9.alloc (.cells #[.bool (sg one), .slice Xg (nl (mg one)) cg] 24)).alloc (.cells #[.bool (sg one), .slice Xh (nl (mg one)) ch] 24)) (W9.heap.size + 1) 24 #[.bool (sg one), .slice Xh (nl (mg one)) ch] ∧ BoxA ((W9.alloc (.cells #[.bool (sg one), .slice Xg (nl (mg one)) cg] 24)).alloc (.cells #[.bool (sg one), .slice Xh (nl (mg one)) ch] 24)) w.heap.size 24 #[.bool false, .slice none 0 0] ∧ BoxA ((W9.alloc (.cells #[.bool (sg one), .slice Xg (nl (mg one)) cg] 24)).alloc (.cells #[.bool (sg one), .slice Xh (nl (mg one)) ch] 24)) nb8 24 #[.bool (sg one), .slice X48 (nl (mg one)) c48] ∧ NatV ((W9.alloc (.cells #[.bool (sg one), .slice Xg (nl (mg one)) cg] 24)).alloc (.cells #[.bool (sg one), .slice Xh (nl (mg one)) ch] 24)) X48 c48 (mg one) ∧ Below w.heap.size w ((W9.alloc (.cells #[.bool (sg one), .slice Xg (nl (mg one)) cg] 24)).alloc (.cells #[.bool (sg one), .slice Xh (nl (mg one)) ch] 24)) ∧ Below W9.heap.size W9 ((W9.alloc (.cells #[.bool (sg one), .slice Xg (nl (mg one)) cg] 24)).alloc (.cells #[.bool (sg one), .slice Xh (nl (mg one)) ch] 24)) := ⟨hg, hh, Rg, Rh, Ro_7, Ru_7, h48_7, HBT, S9⟩
  replace S0 := Lib.hid S0
  clear S9
  clear h51
  clear h54
  clear hg
  clear hh
  clear Rg
  clear Rh
  clear Ro_7
  clear Ru_7
  clear qg0
  clear qg1
  clear qh0
  clear qh1
  clear qo0_7
  clear qo1_7
  clear qu0_7
  clear qu1_7
  clear h48_7
  clear hG_7
  clear HBT
  go_wp2_with (fail)
  go_loopw [0, 1, 5] (fun v0 v1 v5 wr => ∃ (X1 : Option Addr) (c1 : Nat) (gA : Option Addr) (gc : Nat) (hA : Option Addr) (hc : Nat), ((v0 = .slice X51 3 c51 ∧ v1 = .slice X54 2 c54) ∨ (v0 = .slice X54 2 c54 ∧ v1 = .slice X1 1 c1 ∧ PolV wr X1 c1 r)) ∧ v5 = .bool false ∧ NatV wr gA gc (mg one) ∧ NatV wr hA hc (mg one) ∧ BoxA wr W9.heap.size 24 #[.bool (sg one), .slice gA (nl (mg one)) gc] ∧ BoxA wr (W9.heap.size + 1) 24 #[.bool (sg one), .slice hA (nl (mg one)) hc] ∧ BoxA wr w.heap.size 24 #[.bool false, .slice none 0 0] ∧ BoxA wr nb8 24 #[.bool (sg one), .slice X48 (nl (mg one)) c48] ∧ NatV wr X48 c48 (mg one) ∧ Below w.heap.size w wr ∧ Below W9.heap.size W9 wr) (fun v0 v1 v5 wr => lenV v1)
  case atStart => exact ⟨none, 0, _, _, _, _, Or.inl ⟨rfl, rfl⟩, rfl, S0.out⟩
  case round =>
    clear S0
    obtain ⟨X1, c1, gA, gc, hA, hc, hor, rfl, hg, hh, Rg, Rh, Ro, Ru, hu, HBT, H9⟩ := hrel
    rcases hor with ⟨rfl, rfl⟩ | ⟨rfl, rfl, hr⟩
    · skip
      have qg0 := Rg.c (i := 0) rfl
      have qg1 := Rg.c (i := 1) rfl
      have qh0 := Rh.c (i := 0) rfl
      have qh1 := Rh.c (i := 1) rfl
      have qo0 := Ro.c (i := 0) rfl
      have qo1 := Ro.c (i := 1) rfl
      have qu0 := Ru.c (i := 0) rfl
      have qu1 := Ru.c (i := 1) rfl
      have hG := hG0.below HBT
      have hP := hP9.below H9
      have hPb := hB9.below H9
      go_wp2_with (fail)
      refine (Calls.mono (CD3.out _ _ _) ?_)
      rintro e w' ⟨rfl, hw⟩
      first | subst hw | (replace hw := hw.symm; subst hw)
      go_wp2_with (fail)
      refine (Calls.mono (CD2.out _ _ _) ?_)
      rintro e w' ⟨rfl, hw⟩
      first | subst hw | (replace hw := hw.symm; subst hw)
      go_wp2_with (fail)
      refine (Calls.mono (CDo.out _ _ _ _ _) ?_)
      rintro e W401 ⟨rfl, hb401⟩
      replace hP := hP.below hb401
      replace hPb := hPb.below hb401
      replace hg := hg.below hb401
      replace hh := hh.below hb401
      replace hu := hu.below hb401
      replace hG := hG.below hb401
      replace H9 := Below.cons H9 hb401
      replace Rg := Rg.below hb401
      replace Rh := Rh.below hb401
      replace Ro := Ro.below hb401
      replace Ru := Ru.below hb401
      replace qg0 := cbl hb401 qg0
      replace qg1 := cbl hb401 qg1
      replace qh0 := cbl hb401 qh0
      replace qh1 := cbl hb401 qh1
      replace qo0 := cbl hb401 qo0
      replace qo1 := cbl hb401 qo1
      replace qu0 := cbl hb401 qu0
      replace qu1 := cbl hb401 qu1
      replace HBT := Below.cons HBT hb401
      clear hb401
      go_wp2_with (fail)
      refine (Calls.mono (CPs.out _ _ _ _ _ hP hPb hG) ?_)
      rintro e W402 ⟨Xq, cq, Xr, cr, rfl, hq, hr, hb402⟩
      clear hq
      rw [nr.out]
      replace hP := hP.below hb402
      replace hPb := hPb.below hb402
      replace hg := hg.below hb402
      replace hh := hh.below hb402
      replace hu := hu.below hb402
      replace hG := hG.below hb402
      replace H9 := Below.cons H9 hb402
      replace Rg := Rg.below hb402
      replace Rh := Rh.below hb402
      replace Ro := Ro.below hb402
      replace Ru := Ru.below hb402
      replace qg0 := cbl hb402 qg0
      replace qg1 := cbl hb402 qg1
      replace qh0 := cbl hb402 qh0
      replace qh1 := cbl hb402 qh1
      replace qo0 := cbl hb402 qo0
      replace qo1 := cbl hb402 qo1
      replace qu0 := cbl hb402 qu0
      replace qu1 := cbl hb402 qu1
      replace HBT := Below.cons HBT hb402
      clear hb402
      clear hP
      go_wp2_with (fail)
      have bgl : W9.heap.size + 1 < W402.heap.size := by have := Rh.lt; omega
      replace bgl := Lib.hid bgl
      refine wp_region_fin 8 2 [.val (.slice X54 2 c54), .val (.slice Xr 1 cr), .val (.agg #[.bool (sg one), .slice gA (nl (mg one)) gc]), .val (.agg #[.bool (sg one), .slice hA (nl (mg one)) hc]), .val (.int .i64 1), .int one, .int one, .row W402.heap.size r] (by kernel_rfl) (by kernel_rfl) (by kernel_rfl) (by kernel_rfl) (by kernel_rfl) rfl ?_ ?_
      · skip
        refine ⟨?_, ?_⟩
        · intro Ew aw wc st hdep
          have t1 : aw.tmps[1]? = some (.slice X54 2 c54) := (st.old 1 (by kernel_rfl)).trans (by rfl)
          have e1 := tmp_of t1
          refine op_want rfl (by rfl) (fun K' hK' => ?_)
          go_simp
          exact hK'.out _ _ ⟨_, rfl, rfl, Below.refl _ _⟩
        refine ⟨?_, ?_⟩
        · intro Ew aw wc st hdep
          have t13 : aw.tmps[13]? = some (.slice Xr 1 cr) := (st.old 13 (by kernel_rfl)).trans (by rfl)
          have e13 := tmp_of t13
          refine op_want rfl (by rfl) (fun K' hK' => ?_)
          go_simp
          exact hK'.out _ _ ⟨_, rfl, rfl, Below.refl _ _⟩
        refine ⟨?_, ?_⟩
        · intro Ew aw wc st hdep
          have t9 : aw.tmps[9]? = some (.pointer (some ⟨W9.heap.size, 0, none⟩)) := (st.old 9 (by kernel_rfl)).trans (by rfl)
          have qg0 := cbl st.b qg0
          have qg1 := cbl st.b qg1
          have e9 := tmp_of t9
          refine op_want rfl (by rfl) (fun K' hK' => ?_)
          go_simp
          exact hK'.out _ _ ⟨_, rfl, rfl, Below.refl _ _⟩
        refine ⟨?_, ?_⟩
        · intro Ew aw wc st hdep
          have t10 : aw.tmps[10]? = some (.pointer (some ⟨(W9.heap.size + 1), 0, none⟩)) := (st.old 10 (by kernel_rfl)).trans (by rfl)
          have qh0 := cbl st.b qh0
          have qh1 := cbl st.b qh1
          have e10 := tmp_of t10
          refine op_want rfl (by rfl) (fun K' hK' => ?_)
          go_simp
          exact hK'.out _ _ ⟨_, rfl, rfl, Below.refl _ _⟩
        refine ⟨?_, ?_⟩
        · intro Ew aw wc st hdep
          have t11 : aw.tmps[11]? = some (.int .i64 1) := (st.old 11 (by kernel_rfl)).trans (by rfl)
          have e11 := tmp_of t11
          refine op_want rfl (by rfl) (fun K' hK' => ?_)
          go_simp
          exact hK'.out _ _ ⟨_, rfl, rfl, Below.refl _ _⟩
        refine ⟨?_, ?_⟩
        · intro Ew aw wc st hdep
          obtain ⟨v80, t80, r80⟩ := st.nw hdep 3 80
          obtain rfl : v80 = .agg #[.bool (sg one), .slice hA (nl (mg one)) hc] := r80
          obtain ⟨v81, t81, r81⟩ := st.nw hdep 4 81
          obtain rfl : v81 = .int .i64 1 := r81
          have e80 := tmp_of t80
          have e81 := tmp_of t81
          refine op_want rfl (by rfl) (fun K' hK' => ?_)
          go_simp
          refine (Calls.mono (R := RetI wc one) (CP1.out wc _ _ (hh.below st.b) (hG.below st.b)) ?_)
          rintro e W ⟨X, c, rfl, hX, kb⟩
          exact hK'.out _ _ ⟨_, rfl, ⟨X, c, rfl, hX⟩, kb⟩
        refine ⟨?_, ?_⟩
        · intro Ew aw wc st hdep
          obtain ⟨v79, t79, r79⟩ := st.nw hdep 2 79
          obtain rfl : v79 = .agg #[.bool (sg one), .slice gA (nl (mg one)) gc] := r79
          obtain ⟨v82, t82, r82⟩ := st.nw hdep 5 82
          obtain ⟨X82, c82, rfl, h82⟩ := r82
          have e79 := tmp_of t79
          have e82 := tmp_of t82
          refine op_want rfl (by rfl) (fun K' hK' => ?_)
          go_simp
          refine (Calls.mono (R := RetI wc one) (CM.out wc _ _ _ _ (hg.below st.b) h82 (hG.below st.b)) ?_)
          rintro e W ⟨X, c, rfl, hX, kb⟩
          exact hK'.out _ _ ⟨_, rfl, ⟨X, c, rfl, hX⟩, kb⟩
        refine ⟨?_, ?_⟩
        · intro Ew aw wc st hdep
          obtain ⟨v78, t78, r78⟩ := st.nw hdep 1 78
          obtain rfl : v78 = .slice Xr 1 cr := r78
          obtain ⟨v83, t83, r83⟩ := st.nw hdep 6 83
          obtain ⟨X83, c83, rfl, h83⟩ := r83
          have e78 := tmp_of t78
          have e83 := tmp_of t83
          refine op_want rfl (by rfl) (fun K' hK' => ?_)
          go_simp
          refine (Calls.mono (R := RetC wc r) (CVr.out wc _ _ _ _ (hr.below st.b) h83) ?_)
          rintro e W ⟨X, c, cur, rfl, hgs, hX, hU, hE, hz, hnc, hcm, kb⟩
          exact hK'.out _ _ ⟨_, rfl, ⟨X, c, cur, rfl, Nat.le_trans st.b.size hgs, hX, hU, hE, hz, hnc, hcm⟩, kb⟩
        exact trivial
      intro vs wc hr hB
      obtain ⟨u77, r_77, rfl, k77, hr_77⟩ := hr.un
      obtain rfl : u77 = .slice X54 2 c54 := k77
      obtain ⟨u78, r_78, rfl, k78, hr_78⟩ := hr_77.un
      obtain rfl : u78 = .slice Xr 1 cr := k78
      obtain ⟨u79, r_79, rfl, k79, hr_79⟩ := hr_78.un
      obtain rfl : u79 = .agg #[.bool (sg one), .slice gA (nl (mg one)) gc] := k79
      obtain ⟨u80, r_80, rfl, k80, hr_80⟩ := hr_79.un
      obtain rfl : u80 = .agg #[.bool (sg one), .slice hA (nl (mg one)) hc] := k80
      obtain ⟨u81, r_81, rfl, k81, hr_81⟩ := hr_80.un
      obtain rfl : u81 = .int .i64 1 := k81
      obtain ⟨u82, r_82, rfl, k82, hr_82⟩ := hr_81.un
      obtain ⟨X82, c82, rfl, h82⟩ := k82
      obtain ⟨u83, r_83, rfl, k83, hr_83⟩ := hr_82.un
      obtain ⟨X83, c83, rfl, h83⟩ := k83
      obtain ⟨u84, r_84, rfl, k84, hr_84⟩ := hr_83.un
      obtain ⟨gw84, cap84, cur84, rfl, gn84, B84, U84, h84, z84, n84, m84⟩ := k84
      obtain rfl := hr_84.nil
      clear hr hr_77 hr_78 hr_79 hr_80 hr_81 hr_82 hr_83 hr_84
      replace hPb := hPb.below hB
      replace hg := hg.below hB
      replace hh := hh.below hB
      replace hu := hu.below hB
      replace hG := hG.below hB
      replace H9 := Below.cons H9 hB
      replace Rg := Rg.below hB
      replace Rh := Rh.below hB
      replace Ro := Ro.below hB
      replace Ru := Ru.below hB
      replace qg0 := cbl hB qg0
      replace qg1 := cbl hB qg1
      replace qh0 := cbl hB qh0
      replace qh1 := cbl hB qh1
      replace qo0 := cbl hB qo0
      replace qo1 := cbl hB qo1
      replace qu0 := cbl hB qu0
      replace qu1 := cbl hB qu1
      replace hr := hr.below hB
      replace HBT := Below.cons HBT hB
      clear hB
      simp only [upTo, List.take_succ_cons, List.take_zero, putAll, Act.put, seq0, seq1, seq2]
      clear hr
      refine TailP.one rfl (by rfl) (fun K' hK' => ?_)
      go_simp
      refine hK'.out _ _ ?_
      try simp only [Act.put, seq0, seq1, seq2]
      refine TailP.one rfl (by rfl) (fun K' hK' => ?_)
      go_simp
      refine hK'.out _ _ ?_
      try simp only [Act.put, seq0, seq1, seq2]
      refine TailP.done ?_
      rw [nr.out]
      rw [nr.out] at h84 z84 n84
      go_wp2_with (fail)
      have gne : gw84 ≠ W9.heap.size ∧ gw84 ≠ (W9.heap.size + 1) := by have := bgl.out; omega
      have gne1 := gne.1
      have gne2 := gne.2
      clear gne
      have kb8 := hs2.out
      refine (Calls.mono (CL.out _ _ _ hPb) ?_)
      rintro e W403 ⟨Xg2, cg2, rfl, hg2, hb403⟩
      replace Rg := Rg.below hb403
      replace Rh := Rh.below hb403
      replace Ro := Ro.below hb403
      replace Ru := Ru.below hb403
      replace B84 := B84.below hb403
      replace hPb := hPb.below hb403
      replace hg := hg.below hb403
      replace hh := hh.below hb403
      replace hu := hu.below hb403
      replace hG := hG.below hb403
      replace H9 := Below.cons H9 hb403
      replace qg0 := cbl hb403 qg0
      replace qg1 := cbl hb403 qg1
      replace qh0 := cbl hb403 qh0
      replace qh1 := cbl hb403 qh1
      replace qo0 := cbl hb403 qo0
      replace qo1 := cbl hb403 qo1
      replace qu0 := cbl hb403 qu0
      replace qu1 := cbl hb403 qu1
      replace h84 := h84.below hb403
      replace HBT := Below.cons HBT hb403
      clear hb403
      clear hPb
      have hE_g := h84.map (fun A c n h => Rg.keep2 (v0 := .bool (sg one)) (v1 := .slice Xg2 (nl (mg one)) cg2) (nuB rfl) h)
      have fg0_404 := Rg.f (i := 0)
      have fg1_404 := Rg.f (i := 1)
      have Rg_404 := Rg.store2 (.bool (sg one)) (.slice Xg2 (nl (mg one)) cg2)
      have Rh_404 : BoxA ((W403.setCell ⟨W9.heap.size, 0, none⟩ (.bool (sg one))).setCell ⟨W9.heap.size, 1, none⟩ (.slice Xg2 (nl (mg one)) cg2)) _ _ _ := Rh.other2 (by first | omega | (simp; done) | (simp; omega))
      have Ro_404 : BoxA ((W403.setCell ⟨W9.heap.size, 0, none⟩ (.bool (sg one))).setCell ⟨W9.heap.size, 1, none⟩ (.slice Xg2 (nl (mg one)) cg2)) _ _ _ := Ro.other2 (by first | omega | (simp; done) | (simp; omega))
      have Ru_404 : BoxA ((W403.setCell ⟨W9.heap.size, 0, none⟩ (.bool (sg one))).setCell ⟨W9.heap.size, 1, none⟩ (.slice Xg2 (nl (mg one)) cg2)) _ _ _ := Ru.other2 (by first | omega | (simp; done) | (simp; omega))
      have B84_404 : BoxA ((W403.setCell ⟨W9.heap.size, 0, none⟩ (.bool (sg one))).setCell ⟨W9.heap.size, 1, none⟩ (.slice Xg2 (nl (mg one)) cg2)) _ _ _ := B84.other2 (by first | omega | (simp; done) | (simp; omega))
      have hg_404 := Rg.keep2 (v0 := .bool (sg one)) (v1 := .slice Xg2 (nl (mg one)) cg2) (nuB rfl) hg
      have hh_404 := Rg.keep2 (v0 := .bool (sg one)) (v1 := .slice Xg2 (nl (mg one)) cg2) (nuB rfl) hh
      have hu_404 := Rg.keep2 (v0 := .bool (sg one)) (v1 := .slice Xg2 (nl (mg one)) cg2) (nuB rfl) hu
      have H9_404 := Below.store2 (v0 := .bool (sg one)) (v1 := .slice Xg2 (nl (mg one)) cg2) H9 (k := W9.heap.size) (by first | exact Nat.le_refl _ | omega)
      have qg0_404 := Rg_404.c (i := 0) rfl
      have qg1_404 := Rg_404.c (i := 1) rfl
      have qh0_404 := Rh_404.c (i := 0) rfl
      have qh1_404 := Rh_404.c (i := 1) rfl
      have qo0_404 := Ro_404.c (i := 0) rfl
      have qo1_404 := Ro_404.c (i := 1) rfl
      have qu0_404 := Ru_404.c (i := 0) rfl
      have qu1_404 := Ru_404.c (i := 1) rfl
      have hg2_404 := Rg.keep2 (v0 := .bool (sg one)) (v1 := .slice Xg2 (nl (mg one)) cg2) (nuB rfl) hg2
      have HBT_404 := Below.store2 (v0 := .bool (sg one)) (v1 := .slice Xg2 (nl (mg one)) cg2) HBT (k := W9.heap.size) (by first | exact Nat.le_refl _ | omega)
      have hG_404 := hG0.below HBT_404
      go_wp2_with (fail)
      clear fg0_404 fg1_404 Rg Rh Ro Ru B84 hg hh hu hG H9 qg0 qg1 qh0 qh1 qo0 qo1 qu0 qu1 hg2 HBT h84
      generalize hVg : ((W403.setCell ⟨W9.heap.size, 0, none⟩ (.bool (sg one))).setCell ⟨W9.heap.size, 1, none⟩ (.slice Xg2 (nl (mg one)) cg2)) = Vg at *
      clear hVg
      clear hg_404
      refine (Calls.mono (CW.out _ _ _ _ _ hh_404 hg2_404 hG_404) ?_)
      rintro e W405 ⟨Xh2, ch2, rfl, hh2, hb405⟩
      replace Rg_404 := Rg_404.below hb405
      replace Rh_404 := Rh_404.below hb405
      replace Ro_404 := Ro_404.below hb405
      replace Ru_404 := Ru_404.below hb405
      replace B84_404 := B84_404.below hb405
      replace hh_404 := hh_404.below hb405
      replace hu_404 := hu_404.below hb405
      replace hG_404 := hG_404.below hb405
      replace H9_404 := Below.cons H9_404 hb405
      replace qg0_404 := cbl hb405 qg0_404
      replace qg1_404 := cbl hb405 qg1_404
      replace qh0_404 := cbl hb405 qh0_404
      replace qh1_404 := cbl hb405 qh1_404
      replace qo0_404 := cbl hb405 qo0_404
      replace qo1_404 := cbl hb405 qo1_404
      replace qu0_404 := cbl hb405 qu0_404
      replace qu1_404 := cbl hb405 qu1_404
      replace hg2_404 := hg2_404.below hb405
      replace hE_g := hE_g.below hb405
      have HBT := Below.cons HBT_404 hb405
      clear hb405
      clear hh_404
      clear hG_404
      have hE_h := hE_g.map (fun A c n h => Rh_404.keep2 (v0 := .bool (sg one)) (v1 := .slice Xh2 (nl (mg one)) ch2) (nuB rfl) h)
      have fh0_406 := Rh_404.f (i := 0)
      have fh1_406 := Rh_404.f (i := 1)
      have Rg_406 : BoxA ((W405.setCell ⟨(W9.heap.size + 1), 0, none⟩ (.bool (sg one))).setCell ⟨(W9.heap.size + 1), 1, none⟩ (.slice Xh2 (nl (mg one)) ch2)) _ _ _ := Rg_404.other2 (by first | omega | (simp; done) | (simp; omega))
      have Rh_406 := Rh_404.store2 (.bool (sg one)) (.slice Xh2 (nl (mg one)) ch2)
      have Ro_406 : BoxA ((W405.setCell ⟨(W9.heap.size + 1), 0, none⟩ (.bool (sg one))).setCell ⟨(W9.heap.size + 1), 1, none⟩ (.slice Xh2 (nl (mg one)) ch2)) _ _ _ := Ro_404.other2 (by first | omega | (simp; done) | (simp; omega))
      have Ru_406 : BoxA ((W405.setCell ⟨(W9.heap.size + 1), 0, none⟩ (.bool (sg one))).setCell ⟨(W9.heap.size + 1), 1, none⟩ (.slice Xh2 (nl (mg one)) ch2)) _ _ _ := Ru_404.other2 (by first | omega | (simp; done) | (simp; omega))
      have B84_406 : BoxA ((W405.setCell ⟨(W9.heap.size + 1), 0, none⟩ (.bool (sg one))).setCell ⟨(W9.heap.size + 1), 1, none⟩ (.slice Xh2 (nl (mg one)) ch2)) _ _ _ := B84_404.other2 (by first | omega | (simp; done) | (simp; omega))
      have hu_406 := Rh_404.keep2 (v0 := .bool (sg one)) (v1 := .slice Xh2 (nl (mg one)) ch2) (nuB rfl) hu_404
      have H9_406 := Below.store2 (v0 := .bool (sg one)) (v1 := .slice Xh2 (nl (mg one)) ch2) H9_404 (k := (W9.heap.size + 1)) (by first | exact Nat.le_refl _ | omega)
      have qg0_406 := Rg_406.c (i := 0) rfl
      have qg1_406 := Rg_406.c (i := 1) rfl
      have qh0_406 := Rh_406.c (i := 0) rfl
      have qh1_406 := Rh_406.c (i := 1) rfl
      have qo0_406 := Ro_406.c (i := 0) rfl
      have qo1_406 := Ro_406.c (i := 1) rfl
      have qu0_406 := Ru_406.c (i := 0) rfl
      have qu1_406 := Ru_406.c (i := 1) rfl
      have hg2_406 := Rh_404.keep2 (v0 := .bool (sg one)) (v1 := .slice Xh2 (nl (mg one)) ch2) (nuB rfl) hg2_404
      have hh2_406 := Rh_404.keep2 (v0 := .bool (sg one)) (v1 := .slice Xh2 (nl (mg one)) ch2) (nuB rfl) hh2
      have HBT_406 := Below.store2 (v0 := .bool (sg one)) (v1 := .slice Xh2 (nl (mg one)) ch2) HBT (k := (W9.heap.size + 1)) (by first | exact Nat.le_refl _ | omega)
      have HPr : PolV ((W405.setCell ⟨(W9.heap.size + 1), 0, none⟩ (.bool (sg one))).setCell ⟨(W9.heap.size + 1), 1, none⟩ (.slice Xh2 (nl (mg one)) ch2)) (some ⟨gw84, 0, none⟩) cap84 r := polV_of B84_406 (by rw [nr.out]; exact hE_h) (by rw [nr.out]; exact n84) m84
      have HD := Lib.hid (And.intro HPr (And.intro hg2_406 (And.intro hh2_406 (And.intro Rg_406 (And.intro Rh_406 (And.intro Ro_406 (And.intro Ru_406 (And.intro hu_406 (And.intro HBT_406 H9_406)))))))))
      clear HPr
      go_wp2_with (fail)
      go_roundw
      case rel => exact ⟨some ⟨gw84, 0, none⟩, cap84, _, _, _, _, Or.inr ⟨rfl, rfl, HD.out.1⟩, rfl, HD.out.2⟩
      case measure => simp only [lenV]; omega
    · skip
      have qg0 := Rg.c (i := 0) rfl
      have qg1 := Rg.c (i := 1) rfl
      have qh0 := Rh.c (i := 0) rfl
      have qh1 := Rh.c (i := 1) rfl
      have qo0 := Ro.c (i := 0) rfl
      have qo1 := Ro.c (i := 1) rfl
      have qu0 := Ru.c (i := 0) rfl
      have qu1 := Ru.c (i := 1) rfl
      have hG := hG0.below HBT
      have hP := hP9.below H9
      have hPb := hB9.below H9
      clear hP
      clear hPb
      obtain ⟨ad, X7, d7, rfl, c70, c71, h7⟩ := hr.a 0 (by rw [nr.out]; decide)
      have E70 : gi r 0 = sev := by rw [Er.out, E7.out]; rfl
      rw [E70] at c70 c71 h7
      replace E70 := Lib.hid E70
      clear hr
      have z7 : ad.add (0 * 2) = ad := by unfold Addr.add; simp
      rw [z7] at c70 c71
      clear z7
      go_wp2_with (fail)
      refine wp_region_fin 9 1 [.val (.agg #[.bool (sg one), .slice X48 (nl (mg one)) c48]), .val (.agg #[.bool (sg one), .slice hA (nl (mg one)) hc]), .val (.slice (some ad) 1 c1), .val (.pointer (some ad)), .val (.agg #[.bool (sg sev), .slice X7 (nl (mg sev)) d7]), .val (.slice X54 2 c54), .val (.int .i64 1), .int sev, .int sev] (by kernel_rfl) (by kernel_rfl) (by kernel_rfl) (by kernel_rfl) (by kernel_rfl) rfl ?_ ?_
      · skip
        refine ⟨?_, ?_⟩
        · intro Ew aw wc st hdep
          have t8 : aw.tmps[8]? = some (.pointer (some ⟨nb8, 0, none⟩)) := (st.old 8 (by kernel_rfl)).trans (by rfl)
          have qu0 := cbl st.b qu0
          have qu1 := cbl st.b qu1
          have e8 := tmp_of t8
          refine op_want rfl (by rfl) (fun K' hK' => ?_)
          go_simp
          exact hK'.out _ _ ⟨_, rfl, rfl, Below.refl _ _⟩
        refine ⟨?_, ?_⟩
        · intro Ew aw wc st hdep
          have t10 : aw.tmps[10]? = some (.pointer (some ⟨(W9.heap.size + 1), 0, none⟩)) := (st.old 10 (by kernel_rfl)).trans (by rfl)
          have qh0 := cbl st.b qh0
          have qh1 := cbl st.b qh1
          have e10 := tmp_of t10
          refine op_want rfl (by rfl) (fun K' hK' => ?_)
          go_simp
          exact hK'.out _ _ ⟨_, rfl, rfl, Below.refl _ _⟩
        refine ⟨?_, ?_⟩
        · intro Ew aw wc st hdep
          have t1 : aw.tmps[1]? = some (.slice (some ad) 1 c1) := (st.old 1 (by kernel_rfl)).trans (by rfl)
          have e1 := tmp_of t1
          refine op_want rfl (by rfl) (fun K' hK' => ?_)
          go_simp
          exact hK'.out _ _ ⟨_, rfl, rfl, Below.refl _ _⟩
        refine ⟨?_, ?_⟩
        · intro Ew aw wc st hdep
          obtain ⟨v97, t97, r97⟩ := st.nw hdep 2 97
          obtain rfl : v97 = .slice (some ad) 1 c1 := r97
          have e97 := tmp_of t97
          refine op_want rfl (by rfl) (fun K' hK' => ?_)
          go_simp
          exact hK'.out _ _ ⟨_, rfl, rfl, Below.refl _ _⟩
        refine ⟨?_, ?_⟩
        · intro Ew aw wc st hdep
          obtain ⟨v98, t98, r98⟩ := st.nw hdep 3 98
          obtain rfl : v98 = .pointer (some ad) := r98
          have c70 := cbl st.b c70
          have c71 := cbl st.b c71
          have e98 := tmp_of t98
          refine op_want rfl (by rfl) (fun K' hK' => ?_)
          go_simp
          exact hK'.out _ _ ⟨_, rfl, rfl, Below.refl _ _⟩
        refine ⟨?_, ?_⟩
        · intro Ew aw wc st hdep
          have t0 : aw.tmps[0]? = some (.slice X54 2 c54) := (st.old 0 (by kernel_rfl)).trans (by rfl)
          have e0 := tmp_of t0
          refine op_want rfl (by rfl) (fun K' hK' => ?_)
          go_simp
          exact hK'.out _ _ ⟨_, rfl, rfl, Below.refl _ _⟩
        refine ⟨?_, ?_⟩
        · intro Ew aw wc st hdep
          obtain ⟨v100, t100, r100⟩ := st.nw hdep 5 100
          obtain rfl : v100 = .slice X54 2 c54 := r100
          have e100 := tmp_of t100
          refine op_want rfl (by rfl) (fun K' hK' => ?_)
          go_simp
          refine (Calls.mono (CD2.out wc _ _) ?_)
          rintro e W ⟨rfl, hw⟩
          first | subst hw | (replace hw := hw.symm; subst hw)
          exact hK'.out _ _ ⟨_, rfl, rfl, Below.refl _ _⟩
        refine ⟨?_, ?_⟩
        · intro Ew aw wc st hdep
          obtain ⟨v96, t96, r96⟩ := st.nw hdep 1 96
          obtain rfl : v96 = .agg #[.bool (sg one), .slice hA (nl (mg one)) hc] := r96
          obtain ⟨v99, t99, r99⟩ := st.nw hdep 4 99
          obtain rfl : v99 = .agg #[.bool (sg sev), .slice X7 (nl (mg sev)) d7] := r99
          obtain ⟨v101, t101, r101⟩ := st.nw hdep 6 101
          obtain rfl : v101 = .int .i64 1 := r101
          have e96 := tmp_of t96
          have e99 := tmp_of t99
          have e101 := tmp_of t101
          refine op_want rfl (by rfl) (fun K' hK' => ?_)
          go_simp
          refine (Calls.mono (R := RetI wc sev) (CW7.out wc _ _ _ _ (hh.below st.b) (h7.below st.b) (hG.below st.b)) ?_)
          rintro e W ⟨X, c, rfl, hX, kb⟩
          exact hK'.out _ _ ⟨_, rfl, ⟨X, c, rfl, hX⟩, kb⟩
        refine ⟨?_, ?_⟩
        · intro Ew aw wc st hdep
          obtain ⟨v95, t95, r95⟩ := st.nw hdep 0 95
          obtain rfl : v95 = .agg #[.bool (sg one), .slice X48 (nl (mg one)) c48] := r95
          obtain ⟨v102, t102, r102⟩ := st.nw hdep 7 102
          obtain ⟨X102, c102, rfl, h102⟩ := r102
          have e95 := tmp_of t95
          have e102 := tmp_of t102
          refine op_want rfl (by rfl) (fun K' hK' => ?_)
          go_simp
          refine (Calls.mono (R := RetI wc sev) (CM7.out wc _ _ _ _ (hu.below st.b) h102 (hG.below st.b)) ?_)
          rintro e W ⟨X, c, rfl, hX, kb⟩
          exact hK'.out _ _ ⟨_, rfl, ⟨X, c, rfl, hX⟩, kb⟩
        exact trivial
      intro vs wc hr hB
      obtain ⟨u95, r_95, rfl, k95, hr_95⟩ := hr.un
      obtain rfl : u95 = .agg #[.bool (sg one), .slice X48 (nl (mg one)) c48] := k95
      obtain ⟨u96, r_96, rfl, k96, hr_96⟩ := hr_95.un
      obtain rfl : u96 = .agg #[.bool (sg one), .slice hA (nl (mg one)) hc] := k96
      obtain ⟨u97, r_97, rfl, k97, hr_97⟩ := hr_96.un
      obtain rfl : u97 = .slice (some ad) 1 c1 := k97
      obtain ⟨u98, r_98, rfl, k98, hr_98⟩ := hr_97.un
      obtain rfl : u98 = .pointer (some ad) := k98
      obtain ⟨u99, r_99, rfl, k99, hr_99⟩ := hr_98.un
      obtain rfl : u99 = .agg #[.bool (sg sev), .slice X7 (nl (mg sev)) d7] := k99
      obtain ⟨u100, r_100, rfl, k100, hr_100⟩ := hr_99.un
      obtain rfl : u100 = .slice X54 2 c54 := k100
      obtain ⟨u101, r_101, rfl, k101, hr_101⟩ := hr_100.un
      obtain rfl : u101 = .int .i64 1 := k101
      obtain ⟨u102, r_102, rfl, k102, hr_102⟩ := hr_101.un
      obtain ⟨X102, c102, rfl, h102⟩ := k102
      obtain ⟨u103, r_103, rfl, k103, hr_103⟩ := hr_102.un
      obtain ⟨X103, c103, rfl, h103⟩ := k103
      obtain rfl := hr_103.nil
      clear hr hr_95 hr_96 hr_97 hr_98 hr_99 hr_100 hr_101 hr_102 hr_103
      replace hg := hg.below hB
      replace hh := hh.below hB
      replace hu := hu.below hB
      replace hG := hG.below hB
      replace H9 := Below.cons H9 hB
      replace Rg := Rg.below hB
      replace Rh := Rh.below hB
      replace Ro := Ro.below hB
      replace Ru := Ru.below hB
      replace qg0 := cbl hB qg0
      replace qg1 := cbl hB qg1
      replace qh0 := cbl hB qh0
      replace qh1 := cbl hB qh1
      replace qo0 := cbl hB qo0
      replace qo1 := cbl hB qo1
      replace qu0 := cbl hB qu0
      replace qu1 := cbl hB qu1
      replace h7 := h7.below hB
      replace c70 := cbl hB c70
      replace c71 := cbl hB c71
      replace HBT := Below.cons HBT hB
      clear hB
      simp only [upTo, List.take_succ_cons, List.take_zero, putAll, Act.put, seq0, seq1, seq2]
      clear c70
      clear c71
      clear h7
      clear hh
      clear hg
      clear hu
      clear hG
      clear Rg
      clear Rh
      clear qg0
      clear qg1
      clear qh0
      clear qh1
      clear H9
      have fu0_601 := Ru.f (i := 0)
      have fu1_601 := Ru.f (i := 1)
      have Ro_601 : BoxA ((wc.setCell ⟨nb8, 0, none⟩ (.bool (sg sev))).setCell ⟨nb8, 1, none⟩ (.slice X103 (nl (mg sev)) c103)) _ _ _ := Ro.other2 (by first | omega | (simp; done) | (simp; omega))
      have Ru_601 := Ru.store2 (.bool (sg sev)) (.slice X103 (nl (mg sev)) c103)
      have qo0_601 := Ro_601.c (i := 0) rfl
      have qo1_601 := Ro_601.c (i := 1) rfl
      have qu0_601 := Ru_601.c (i := 0) rfl
      have qu1_601 := Ru_601.c (i := 1) rfl
      have h103_601 := Ru.keep2 (v0 := .bool (sg sev)) (v1 := .slice X103 (nl (mg sev)) c103) (nuB rfl) h103
      have HBT_601 := Below.store2 (v0 := .bool (sg sev)) (v1 := .slice X103 (nl (mg sev)) c103) HBT (k := nb8) (by first | exact Nat.le_refl _ | omega)
      refine TailP.one rfl (by rfl) (fun K' hK' => ?_)
      go_simp
      refine hK'.out _ _ ?_
      try simp only [Act.put, seq0, seq1, seq2]
      refine TailP.done ?_
      clear fu0_601 fu1_601 Ro Ru qo0 qo1 qu0 qu1 h103 HBT
      generalize hVu : ((wc.setCell ⟨nb8, 0, none⟩ (.bool (sg sev))).setCell ⟨nb8, 1, none⟩ (.slice X103 (nl (mg sev)) c103)) = Vu at *
      clear hVu
      have fzo0 := Ro_601.f (i := 0)
      have fzo1 := Ro_601.f (i := 1)
      go_wp2_with (fail)
      have RS := Ro_601.store2 (.bool (sg sev)) (.slice X103 (nl (mg sev)) c103)
      have e0 := RS.c (i := 0) rfl
      have e1 := RS.c (i := 1) rfl
      refine bodyPost_ret (v := .agg #[.bool (sg sev), .slice X103 (nl (mg sev)) c103]) (by simp [results, Tryz.results30, go_sem, e0, e1]) rfl ?_
      exact ⟨X103, c103, rfl, (Ro_601.keep2 (nuB rfl) h103_601), (Below.store2 HBT_601 (by first | exact Nat.le_refl _ | omega))⟩
theorem own_same {w w' : World} {base size n : Nat} {e : TypeId} {v : Value} {xs : List Value} (h : w.ownsRow base e size v n xs) (hk : ∀ g o, v.ownBlock = some g → w.heap[g]? = some o → o.isCells = true → w'.heap[g]? = some o) : w'.ownsRow base e size v n xs := by
  refine ⟨h.1, ?_⟩
  rcases h.2 with h1 | ⟨g, cap, cur, rfl, h2, h3, h4⟩
  · exact .inl h1
  · exact .inr ⟨g, cap, cur, rfl, h2, hk g _ rfl h3 rfl, h4⟩
theorem own_shape {w : World} {base size n : Nat} {e : TypeId} {v : Value} {xs : List Value} (h : w.ownsRow base e size v n xs) : ∃ V c, v = .slice V n c := by
  rcases h.2 with ⟨rfl, rfl⟩ | ⟨g, cap, cur, rfl, _⟩
  · exact ⟨none, 0, rfl⟩
  · exact ⟨_, cap, rfl⟩
theorem own_base {w : World} {base size n : Nat} {e : TypeId} {v : Value} {xs : List Value} (h : w.ownsRow base e size v n xs) {g : Nat} (hg : v.ownBlock = some g) : base ≤ g := (h.lt g hg).1
def GrowP (W : World) (base : Nat) (p : List Int) (v : Value) : Prop := ∃ cs, W.ownsRow base 24 2 v p.length cs ∧ NU W v ∧ EncL W p cs
theorem GrowP.below {W W' : World} {base : Nat} {p : List Int} {v : Value} (h : GrowP W base p v) (hb : Below W.heap.size W W') : GrowP W' base p v := by
  obtain ⟨cs, h1, h2, h3⟩ := h
  exact ⟨cs, own_same h1 (fun g o _ h4 _ => heap_below hb h4), h2.below hb, fun j hj => by obtain ⟨X, d, k1, k2, k3⟩ := h3 j hj; exact ⟨X, d, k1, k2, k3.below hb⟩⟩
theorem growP_empty (W : World) (base : Nat) (hb : base ≤ W.heap.size) : GrowP (W.alloc (.cells #[] 24)) base [] (.slice (some ⟨W.heap.size, 0, none⟩) 0 0) := by
  have hat : (W.alloc (.cells #[] 24)).heap[W.heap.size]? = some (.cells #[] 24 (0, 0)) := at_new rfl
  refine ⟨[], ⟨rfl, .inr ⟨W.heap.size, 0, #[], rfl, hb, hat, Nat.le_refl _, by decide, rfl, rfl⟩⟩, fun g hg => ?_, fun j hj => absurd hj (Nat.not_lt_zero j)⟩
  simp only [Value.ownBlock, Option.some.injEq] at hg; subst hg; exact ⟨#[], _, hat, fun u hu => by simp at hu⟩
theorem growP_next {W W2 : World} {base : Nat} {p : List Int} {v v' : Value} {cs : List Value} {z : Int} {X : Option Addr} {d : Nat} (h1 : W.ownsRow base 24 2 v p.length cs) (h2 : NU W v) (h3 : EncL W p cs) (hz : NatV W X d (mg z)) (ho : W2.ownsRow base 24 2 v' (p.length + 1) (cs ++ [.bool (sg z), .slice X (nl (mg z)) d])) (hg : W.grownBy W2 v.ownBlock) (hn : NU W2 v') : GrowP W2 base (p ++ [z]) v' := by
  refine ⟨_, by rw [List.length_append]; exact ho, hn, fun j hj => ?_⟩
  have hl : cs.length = p.length * 2 := h1.1
  rw [List.length_append] at hj
  have hgi : gi (p ++ [z]) j = if j < p.length then gi p j else z := by
    unfold gi
    rw [List.getD_eq_getElem?_getD]
    split
    · rename_i h; rw [List.getElem?_append_left h, List.getD_eq_getElem?_getD]
    · rename_i h; rw [List.getElem?_append_right (by omega), show j - p.length = 0 by simp at hj; omega]; rfl
  rw [hgi]
  split
  · rename_i h
    obtain ⟨Y, f, k1, k2, k3⟩ := h3 j h
    exact ⟨Y, f, by rw [List.getElem?_append_left (by omega)]; exact k1, by rw [List.getElem?_append_left (by omega)]; exact k2, k3.grown h2 hg⟩
  · rename_i h
    have e : j = p.length := by simp at hj; omega
    subst e
    refine ⟨X, d, ?_, ?_, hz.grown h2 hg⟩
    · rw [List.getElem?_append_right (by omega), show p.length * 2 - cs.length = 0 by omega]; rfl
    · rw [List.getElem?_append_right (by omega), show p.length * 2 + 1 - cs.length = 1 by omega]; rfl
theorem hrow_c (g c n : Nat) (l : List Int) (w : World) (hl : l.length = n) (hn : n ≤ 1000) (h0 : 0 < n) (hA : ∀ j, j < n → w.cell? ⟨g, j, none⟩ = some (.int .i64 (gi l j))) (hb : ∀ j, -1000 ≤ gi l j ∧ gi l j ≤ 1000) :
    Calls Tryz.prog 25 #[.slice (some ⟨g, 0, none⟩) n c] w (RetC w l) := by
  obtain ⟨i0, hi0, hz00, hz01, hz02⟩ := info_parts info_int
  have hfin : ∀ (wr : World) (v : Value), GrowP wr w.heap.size l v → Below w.heap.size w wr → RetC w l (.returned v) wr := fun wr v h1 h2 => by
    obtain ⟨cs, k1, k2, k3⟩ := h1
    obtain ⟨g, cap, cur, rfl, e1, e2, e3, e4, e5, e6, e7⟩ := enc_own k1 rfl (by omega) k2 k3
    exact ⟨g, cap, cur, rfl, e1, e2, e3, e4, e5, e6, e7, h2⟩
  have E0 : Below w.heap.size w (w.alloc (.cells #[] 24)) := (Below.refl _ _).alloc (Nat.le_refl _) _
  have G0 := growP_empty w w.heap.size (Nat.le_refl _)
  replace hl := Lib.hid hl
  replace hfin := Lib.hid hfin
  replace hb := Lib.hid hb
  go_enter Tryz.func25, Tryz.ntmps25
  go_wp2_with (fail)
  go_loopw [3, 4] (fun v3 v4 wr => ∃ (k : Nat) (V : Option Addr) (cv : Nat), v3 = .slice V k cv ∧ v4 = .int .i64 k ∧ k ≤ n ∧ GrowP wr w.heap.size (l.take k) (.slice V k cv) ∧ Below w.heap.size w wr) (fun v3 v4 wr => n - (intOf v4).toNat)
  case atStart => exact ⟨0, _, _, rfl, rfl, Nat.zero_le _, G0, E0⟩
  case round =>
    clear G0 E0
    obtain ⟨k, V, cv, rfl, rfl, hk, hG, hbr⟩ := hrel
    by_cases hkn : k < n
    · have t1 : decide ((k : Int) < (n : Int)) = true := by simp; omega
      have t2 : decide (k < n) = true := by simp; omega
      have c0 := cbl hbr (hA k hkn)
      obtain ⟨z, Ez⟩ : ∃ z, z = gi l k := ⟨_, rfl⟩
      have CZ := zof_c z
      have lz := hb.out k
      rw [← Ez] at c0 lz
      have Wk : IntKind.i64.wrap ((k : Int) + 1) = ((k + 1 : Nat) : Int) := by rw [show (k : Int) + 1 = ((k + 1 : Nat) : Int) by omega]; exact IntWalk.i64_in _ (by omega)
      have g1 : (0 : Int) ≤ (k : Int) := Int.natCast_nonneg k
      have g2 : (k : Int) < (n : Int) := by omega
      replace lz := Lib.hid lz
      replace Ez := Lib.hid Ez
      go_wp2_with (fail)
      refine (CZ _ (by have := lz.out; omega) (by have := lz.out; omega)).mono ?_
      rintro e W2 ⟨X, d, rfl, hz, hb2⟩
      have hbr2 := hbr.cons hb2
      have hG2 := hG.below hb2
      obtain ⟨W3, hW3⟩ : ∃ W3, W3 = W2.alloc (.cells #[.bool (sg z), .slice X (nl (mg z)) d] 24) := ⟨_, rfl⟩
      have hb3 : Below W2.heap.size W2 W3 := by rw [hW3]; exact (Below.refl _ _).alloc (Nat.le_refl _) _
      have hnew : BoxA W3 W2.heap.size 24 #[.bool (sg z), .slice X (nl (mg z)) d] := by rw [hW3]; exact ⟨at_new rfl⟩
      have hbr3 := hbr2.cons hb3
      have hz3 := hz.below hb3
      obtain ⟨cs, k1, k2, k3⟩ := hG2.below hb3
      have htl : (l.take k).length = k := by rw [List.length_take, hl.out]; omega
      have hs3 := hbr3.size
      have hnews : ∀ j u, ([.bool (sg z), .slice X (nl (mg z)) d] : List Value)[j]? = some u → W3.cell? ((⟨W2.heap.size, 0, none⟩ : Addr).add j) = some u := fun j u hu => by rw [addr_at]; exact hnew.c (by simpa using hu)
      have HX : ∀ (v' : Value) (w2 : World), w2.ownsRow w.heap.size 24 2 v' (k + 1) (cs ++ [.bool (sg z), .slice X (nl (mg z)) d]) → W3.grownBy w2 (Value.slice V k cv).ownBlock → NU w2 v' → GrowP w2 w.heap.size (l.take (k + 1)) v' ∧ Below w.heap.size w w2 := by
        intro v' w2 ho hg hn2
        have et : l.take (k + 1) = l.take k ++ [z] := by
          rw [List.take_add_one, List.getElem?_eq_getElem (by rw [hl.out]; exact hkn), Ez.out]
          unfold gi; rw [List.getD_eq_getElem?_getD, List.getElem?_eq_getElem (by rw [hl.out]; exact hkn)]; rfl
        rw [et]
        exact ⟨growP_next k1 k2 k3 hz3 (by rw [htl]; exact ho) hg hn2, hbr3.grown hg hbr3.size (fun j hj => own_base k1 hj)⟩
      rw [htl] at k1
      replace HX := Lib.hid HX
      replace htl := Lib.hid htl
      clear hz3 hnew hb3 hG2 k3 hbr3 hb2
      go_wp2_with (at_builtin; rw [← hW3]; refine wpList_append_nu _ rfl (.tmp 12) (.tmp 18) 46 rfl w.heap.size 24 i0 (.agg #[.bool false, .slice none 0 0]) 2 32 Tryz.underlying46 hi0 hz00 hz01 hz02 rfl (by decide) _ k cs rfl k1 ⟨W2.heap.size, 0, none⟩ 1 1 [.bool (sg z), .slice X (nl (mg z)) d] rfl rfl hnews (by intro u hu; simp at hu; rcases hu with rfl | rfl <;> rfl) (by simp only [maxLen]; omega) (by omega) hs3 (by decide) k2 (by intro u hu; simp [Value.cells] at hu; rcases hu with rfl | rfl <;> first | exact notU_bool _ | exact notU_slice _ _ _) (by intro u hu; simp at hu; rcases hu with rfl | rfl <;> first | exact notU_bool _ | exact notU_slice _ _ _) ?_; intro v' w2 hn1 hn2 hn3; obtain ⟨V8, c8, rfl⟩ := own_shape hn1; have HY := Lib.hid (HX.out _ w2 hn1 hn2 hn3); clear hn1 hn2 hn3)
      go_roundw
      case rel => exact ⟨k + 1, V8, c8, rfl, by go_num, by omega, HY.out.1, HY.out.2⟩
      case measure => simp [intOf]; omega
    · obtain rfl : k = n := by omega
      have t1 : decide ((k : Int) < (k : Int)) = false := by simp
      rw [show l.take k = l from List.take_of_length_le (by rw [hl.out]; exact Nat.le_refl _)] at hG
      have HF := Lib.hid (hfin.out wr _ hG hbr)
      go_wp2_with (fail)
      exact bodyPost_ret (v := .slice V k cv) (by simp [results, Tryz.results25, go_sem]) rfl HF.out
theorem wpList_append0 {P : Program} (w : World) {ops : Array Oper} {rest : List Oper} {o : Oper} {a : Act} {Q : Exit → Act → World → Prop} (hgd : o.guard = none) (s x : Operand) (t : TypeId)
    (ho : o.op = .call { callee := .builtin .append, args := #[s, x], argTypes := #[t, t] }) (e : TypeId) (i : TypeInfo) (ht : P.underlying t = some (.slice e)) (hi : P.info? e = some i)
    (g k : Nat) (hs : a.eval s = .slice (some ⟨g, 0, none⟩) 0 k) (ad : Addr) (c : Nat) (hx : a.eval x = .slice (some ad) 0 c) (h : wpList P ops Q rest (a.put o.dst (.slice (some ⟨g, 0, none⟩) 0 k)) w) : wpList P ops Q (o :: rest) a w := by
  refine wpList_plain hgd fun K hK => ?_
  have hr := run_append_room_cells (P := P) (w := w) t o.type e i ht hi g 0 0 k ad 0 c [] (by simp) (fun j u hu => by simp at hu) (fun u hu => by simp at hu) (Nat.zero_le _) (fun j hj => by simp at hj) (fun j hj => by simp at hj)
  unfold Oper.wp execOp
  simp only [ho, resolve, invoke, builtin, Sem.run_bind, Sem.run_pure, Result.andThen_ok, List.map_toArray, List.map_cons, List.map_nil, hs, hx, hr]
  exact hK _ _ h
theorem polV_nil (W : World) (V : Option Addr) (c : Nat) (hc : c ≤ maxLen) : PolV W V c [] := ⟨fun j hj => absurd hj (Nat.not_lt_zero j), Nat.zero_le _, hc⟩
def RetPs (w : World) (p : List Int) (e : Ending) (w' : World) : Prop := ∃ ad c, e = .returned (.slice (some ad) p.length c) ∧ PolV w' (some ad) c p ∧ Below w.heap.size w w'
theorem lit_own (W : World) : (W.alloc (.cells #[] 24)).ownsRow W.heap.size 24 2 (.slice (some ⟨W.heap.size, 0, none⟩) 0 0) 0 [] ∧ NU (W.alloc (.cells #[] 24)) (.slice (some ⟨W.heap.size, 0, none⟩) 0 0) :=
  ⟨World.ownsRow_lit W #[] 0 (Nat.le_refl _) (by decide) rfl, fun g hg => by
    have : g = W.heap.size := by simpa [Value.ownBlock] using hg.symm
    subst this
    exact ⟨#[], _, heap_alloc_new W _, fun u hu => by simp at hu⟩⟩
theorem copy_fin {w W : World} {ad : Addr} {c : Nat} {q : List Int} (hP : PolV W (some ad) c q) (hbr : Below w.heap.size w W) : ∃ cs : List Value, cs.length = q.length * 2 ∧ (∀ j u, cs[j]? = some u → (W.alloc (.cells #[] 24)).cell? (ad.add j) = some u) ∧ (∀ u ∈ cs, NotU u) ∧ (∀ u ∈ cs, u.oneCell' = true) ∧
    (0 < q.length → ∀ (v' : Value) (w1 : World), w1.ownsRow W.heap.size 24 2 v' q.length cs → (W.alloc (.cells #[] 24)).grownBy w1 (Value.slice (some ⟨W.heap.size, 0, none⟩) 0 0).ownBlock → NU w1 v' → RetPs w q (.returned v') w1) := by
  have hb1 : Below W.heap.size W (W.alloc (.cells #[] 24)) := (Below.refl _ _).alloc (Nat.le_refl _) _
  obtain ⟨cs, k1, k2, k3, k4, k5⟩ := polV_list _ q ad c (hP.below hb1)
  refine ⟨cs, k1, k2, k4, k5, fun h0 v' w1 ho hg hn => ?_⟩
  have he : EncL w1 q cs := fun j hj => by
    obtain ⟨X, d, g1, g2, g3⟩ := k3 j hj
    exact ⟨X, d, g1, g2, g3.grown (lit_own W).2 hg⟩
  obtain ⟨g, cap, cur, rfl, e1, e2, e3, e4, e5, e6, e7⟩ := enc_own ho rfl h0 hn he
  exact ⟨⟨g, 0, none⟩, cap, rfl, polV_of e2 e4 e6 e7, hbr.trans ((hb1.grown hg (by simp) (fun k hk => by simp [Value.ownBlock] at hk; omega)).mono hbr.size)⟩
theorem own_some {w : World} {base size n : Nat} {e : TypeId} {v : Value} {xs : List Value} (h : w.ownsRow base e size v n xs) (hn : 0 < n) : ∃ g c, v = .slice (some ⟨g, 0, none⟩) n c := by
  rcases h.2 with ⟨_, rfl⟩ | ⟨g, cap, cur, rfl, _⟩
  · omega
  · exact ⟨g, cap, rfl⟩
theorem growP_pol {W : World} {base g n c : Nat} {p : List Int} (h : GrowP W base p (.slice (some ⟨g, 0, none⟩) n c)) (hn : p.length = n) : PolV W (some ⟨g, 0, none⟩) c p := by
  obtain ⟨cs, h1, h2, h3⟩ := h
  rcases Nat.eq_zero_or_pos p.length with h0 | h0
  · have : p = [] := List.eq_nil_of_length_eq_zero h0
    subst this
    rcases h1.2 with ⟨e, _⟩ | ⟨g', cap, cur, e, _, _, _, hm, _⟩
    · cases e
    · cases e; exact polV_nil _ _ _ hm
  · obtain ⟨g', cap, cur, e, e1, e2, e3, e4, e5, e6, e7⟩ := enc_own h1 rfl h0 h2 h3
    cases e
    exact polV_of e2 e4 e6 e7
def RawP (W : World) (V : Option Addr) (n : Nat) (sb : Nat → Bool) (ls : Nat → List Nat) : Prop := ∀ j, j < n → ∃ ad A d, V = some ad ∧ W.cell? (ad.add (j * 2)) = some (.bool (sb j)) ∧ W.cell? ⟨(ad.add (j * 2)).block, (ad.add (j * 2)).off + 1, none⟩ = some (.slice A (ls j).length d) ∧ Rd W A (ls j) ∧ Lim (ls j) ∧ (ls j).length ≤ maxLen ∧ (ls j).length ≤ d ∧ (A = none → d = 0)
theorem RawP.below {W W' : World} {V : Option Addr} {n : Nat} {sb : Nat → Bool} {ls : Nat → List Nat} (h : RawP W V n sb ls) (hb : Below W.heap.size W W') : RawP W' V n sb ls := fun j hj => by
  obtain ⟨ad, A, d, h1, h2, h3, h4, h5⟩ := h j hj
  exact ⟨ad, A, d, h1, cell_below hb h2, cell_below hb h3, h4.below hb, h5⟩
theorem pat_c (V : Option Addr) (c n : Nat) (p : List Int) (i : Nat) (z : Int) (w : World) (hP : PolV w V c p) (hn : p.length = n) (hi : i < n) (hl : n ≤ 1048576) (Ez : z = gi p i) :
    Calls Tryz.prog 24 #[.slice V n c, .int .i64 (i : Nat)] w (RetI w z) := by
  obtain ⟨ad, X, d, rfl, pc0, pc1, hz⟩ := hP.a i (by omega)
  rw [← Ez] at pc0 pc1 hz
  clear hP
  have t1 : decide ((i : Int) < 0) = false := by simp
  have t2 : decide ((n : Int) ≤ (i : Int)) = false := by simp; omega
  have t3 : decide (n ≤ i) = false := by simp; omega
  have g1 : (0 : Int) ≤ (i : Int) := Int.natCast_nonneg i
  have g2 : (i : Int) < (n : Int) := by omega
  replace Ez := Lib.hid Ez
  replace hn := Lib.hid hn
  have hz0 := hz
  have hbF : Below w.heap.size w (w.alloc (.cells #[.bool (sg z), .slice X (nl (mg z)) d] 24)) := (Below.refl _ _).alloc (Nat.le_refl _) _
  have RF : BoxA (w.alloc (.cells #[.bool (sg z), .slice X (nl (mg z)) d] 24)) w.heap.size 24 #[.bool (sg z), .slice X (nl (mg z)) d] := ⟨at_new rfl⟩
  have e0 := RF.c (i := 0) rfl
  have e1 := RF.c (i := 1) rfl
  obtain ⟨hb1, Rr⟩ := bx1 w #[.bool false, .slice none 0 0] 24
  replace hz := hz.below hb1
  replace pc0 := cbl hb1 pc0
  replace pc1 := cbl hb1 pc1
  have HBT := hb1
  clear hb1
  have qr0 := Rr.c (i := 0) rfl
  have qr1 := Rr.c (i := 1) rfl
  have fzr0 := Rr.f (i := 0)
  have fzr1 := Rr.f (i := 1)
  replace hbF := Lib.hid hbF
  go_enter Tryz.func24, Tryz.ntmps24
  go_wp2_with (fail)
  refine bodyPost_ret (v := .agg #[.bool (sg z), .slice X (nl (mg z)) d]) (by simp [results, Tryz.results24, go_sem, e0, e1]) rfl ?_
  exact ⟨X, d, rfl, hz0.below hbF.out, hbF.out⟩
theorem clone0_c (ad : Addr) (c : Nat) (w : World) :
    Calls Tryz.prog 56 #[.slice (some ad) 0 c] w (RetP w []) := by
  have hnil := fun (a : Option Addr) (n : Nat) (w : World) => Lib.run_eql_slice_nil (P := Tryz.prog) w 46 24 a n c 0 0 Tryz.underlying46
  obtain ⟨i0, hi0, hz0, hz1, hz2⟩ := info_parts info_int
  have hb1 : Below w.heap.size w (w.alloc (.cells #[] 24)) := (Below.refl _ _).alloc (Nat.le_refl _) _
  replace hb1 := Lib.hid hb1
  go_enter Tryz.func56, Tryz.ntmps56
  go_wp2_with (at_builtin; refine wpList_append0 _ rfl _ _ 46 rfl 24 i0 Tryz.underlying46 hi0 _ _ rfl ad c rfl ?_)
  exact bodyPost_ret (v := .slice (some ⟨w.heap.size, 0, none⟩) 0 0) (by simp [results, Tryz.results56, go_sem]) rfl ⟨_, 0, rfl, polV_nil _ _ _ (by decide), hb1.out⟩
theorem shift0_c (ad : Addr) (cp : Nat) (cA : Option Addr) (cc : Nat) (c : Int) (w : World) :
    Calls Tryz.prog 20 #[.slice (some ad) 0 cp, .agg #[.bool (sg c), .slice cA (nl (mg c)) cc]] w (RetP w []) := by
  have hb1 : Below w.heap.size w (w.alloc (.cells #[.bool (sg c), .slice cA (nl (mg c)) cc] 24)) := (Below.refl _ _).alloc (Nat.le_refl _) _
  have CC := clone0_c ad cp (w.alloc (.cells #[.bool (sg c), .slice cA (nl (mg c)) cc] 24))
  replace CC := Lib.hid CC
  go_enter Tryz.func20, Tryz.ntmps20
  go_wp2_with (fail)
  refine CC.out.mono ?_
  rintro e W1 ⟨V, c1, rfl, hP, hb⟩
  have HF : RetP w [] (.returned (.slice V 0 c1)) W1 := ⟨V, c1, rfl, hP, hb1.cons hb⟩
  replace HF := Lib.hid HF
  clear hb hb1 hP
  go_wp2_with (fail)
  go_loopw [12] (fun v12 wr => v12 = .int .i64 0 ∧ wr = W1) (fun v12 wr => 0)
  case atStart => exact ⟨rfl, rfl⟩
  case round =>
    obtain ⟨rfl, rfl⟩ := hrel
    go_wp2_with (fail)
    exact bodyPost_ret (v := .slice V 0 c1) (by simp [results, Tryz.results20, go_sem]) rfl HF.out
theorem pmk_c (ad : Addr) (c : Nat) (p : List Int) (w : World) (hP : PolV w (some ad) c p) (hl : p.length ≤ 1000) (lp : ∀ j, nl (mg (gi p j)) ≤ 1073741824) :
    Calls Tryz.prog 55 #[.slice (some ad) p.length c] w (fun e w' => ∃ m, m ≤ p.length ∧ RetPs w (p.take m) e w') := by
  obtain ⟨n, En⟩ : ∃ n, n = p.length := ⟨_, rfl⟩
  obtain ⟨i0, hi0, hz0, hz1, hz2⟩ := info_parts info_int
  have hcl := hP.l
  have hcm := hP.m
  have hP0 := Lib.hid hP
  clear hP
  rw [← En] at hl hcl ⊢
  replace lp := Lib.hid lp
  replace En := Lib.hid En
  go_enter Tryz.func55, Tryz.ntmps55
  go_wp2_with (fail)
  go_loopw [3] (fun v3 wr => ∃ m : Nat, v3 = .int .i64 m ∧ m ≤ n ∧ Below w.heap.size w wr) (fun v3 wr => (intOf v3).toNat)
  case atStart => exact ⟨n, rfl, Nat.le_refl _, Below.refl _ _⟩
  case round =>
    obtain ⟨m, rfl, hm, hbr⟩ := hrel
    have fin : ∀ (v' : Value) (w1 : World), RetPs w (p.take m) (.returned v') w1 → (fun e w' => ∃ m, m ≤ n ∧ RetPs w (p.take m) e w') (.returned v') w1 := fun v' w1 h => ⟨m, hm, h⟩
    replace fin := Lib.hid fin
    have PM := (hP0.out.below hbr).take m (by rw [← En.out]; exact hm)
    have lm : (p.take m).length = m := by rw [List.length_take, ← En.out]; omega
    have hsl0 : (0 : Int) ≤ (m : Int) := Int.natCast_nonneg m
    have hsl1 : (m : Int) ≤ (c : Int) := by omega
    have hb1 : Below wr.heap.size wr (wr.alloc (.cells #[] 24)) := (Below.refl _ _).alloc (Nat.le_refl _) _
    have hbt := hbr.cons hb1
    have hfin0 : m = 0 → RetPs w (p.take m) (.returned (.slice (some ⟨wr.heap.size, 0, none⟩) 0 0)) (wr.alloc (.cells #[] 24)) := fun h => by
      subst h; exact ⟨_, 0, rfl, polV_nil _ _ _ (by decide), hbt⟩
    replace hfin0 := Lib.hid hfin0
    replace lm := Lib.hid lm
    clear hbt
    by_cases hm0 : m = 0
    · have hf0 := Lib.hid (fin.out _ _ (hfin0.out hm0))
      subst hm0
      have t1 : decide ((0 : Int) < ((0 : Nat) : Int)) = false := by decide
      go_wp2_with (at_builtin; refine wpList_append0 _ rfl _ _ 46 rfl 24 i0 Tryz.underlying46 hi0 _ _ rfl ad c rfl ?_)
      exact bodyPost_ret (v := .slice (some ⟨wr.heap.size, 0, none⟩) 0 0) (by simp [results, Tryz.results55, go_sem]) rfl hf0.out
    · have t1 : decide ((0 : Int) < (m : Int)) = true := by simp; omega
      have Wq : IntKind.i64.wrap ((m - 1 : Nat) : Int) = ((m - 1 : Nat) : Int) := IntWalk.i64_in _ (by omega)
      obtain ⟨ad', X, d, e', pc0, pc1, hz⟩ := (hP0.out.below hbr).a (m - 1) (by rw [← En.out]; omega)
      cases e'
      obtain ⟨z, Ez⟩ : ∃ z, z = gi p (m - 1) := ⟨_, rfl⟩
      rw [← Ez] at pc0 pc1 hz
      have g1 : (0 : Int) ≤ ((m - 1 : Nat) : Int) := Int.natCast_nonneg _
      have g2 : ((m - 1 : Nat) : Int) < (n : Int) := by omega
      have CS := zsign_c X d z wr hz (by rw [Ez]; exact lp.out _)
      replace CS := Lib.hid CS
      replace Ez := Lib.hid Ez
      clear hz
      by_cases hs : z.sign = 0
      · rw [hs] at CS
        go_wp2_with (fail)
        refine (Calls.mono CS.out ?_)
        rintro e W2 ⟨rfl, hb2⟩
        have hbr2 := hbr.cons hb2
        clear hb2 pc0 pc1
        go_wp2_with (fail)
        go_roundw
        case rel => exact ⟨m - 1, by congr 1; omega, by omega, hbr2⟩
        case measure => simp only [intOf]; omega
      · have t4 : (z.sign == 0) = false := ieqF hs
        have h0m : 0 < m := by omega
        replace hm0 := Lib.hid hm0
        go_wp2_with (fail)
        refine (Calls.mono CS.out ?_)
        rintro e W2 ⟨rfl, hb2⟩
        obtain ⟨cs, k1, k2, k4, k5, hfin⟩ := copy_fin (PM.below hb2) (hbr.cons hb2)
        rw [lm.out] at k1 hfin
        have hfin := hfin h0m
        replace hfin := Lib.hid hfin
        obtain ⟨hown0, hNU0⟩ := lit_own W2
        clear hb2 pc0 pc1 PM
        go_wp2_with (at_builtin; refine wpList_append_nu _ rfl _ _ 46 rfl W2.heap.size 24 i0 (.agg #[.bool false, .slice none 0 0]) 2 32 Tryz.underlying46 hi0 hz0 hz1 hz2 rfl (by decide) _ 0 [] rfl hown0 ad m c cs rfl k1 k2 k5 (by simp only [maxLen]; omega) (by omega) (by simp) h0m hNU0 (by intro u hu; simp [Value.cells] at hu; rcases hu with rfl | rfl <;> first | exact notU_bool _ | exact notU_slice _ _ _) k4 ?_)
        intro v' w1 ho hg hn
        (try simp only [Nat.zero_add, List.nil_append] at ho)
        have HF := Lib.hid (fin.out _ _ (hfin.out v' w1 ho hg hn))
        clear ho hg hn
        go_wp2_with (fail)
        exact bodyPost_ret (v := v') (by simp [results, Tryz.results55, go_sem]) rfl HF.out
theorem pmade_c (V : Option Addr) (c n : Nat) (sb : Nat → Bool) (ls : Nat → List Nat) (w : World) (hR : RawP w V n sb ls) (hn : n ≤ 9223372036854775807) :
    Calls Tryz.prog 18 #[.slice V n c, .int .i64 7, .int .i64 2] w (fun e w' => ∃ f : List Int, f.length ≤ 8 ∧ Wi (2 ^ 64) f ∧ RetPs w f e w') := by
  obtain ⟨i0, hi0, hz00, hz01, hz02⟩ := info_parts info_int
  have E0 : Below w.heap.size w (w.alloc (.cells #[] 24)) := (Below.refl _ _).alloc (Nat.le_refl _) _
  have G0 := growP_empty w w.heap.size (Nat.le_refl _)
  obtain ⟨zs, Ezs⟩ : ∃ zs : Nat → List Int, zs = fun k => (List.range k).map (fun j => ival (sb j) (val ((ls j).take 2))) := ⟨_, rfl⟩
  have hzl : ∀ k, (zs k).length = k := by rw [Ezs]; intro k; simp
  have hz0 : zs 0 = [] := by rw [Ezs]; rfl
  have hzn : ∀ k, zs (k + 1) = zs k ++ [ival (sb k) (val ((ls k).take 2))] := by rw [Ezs]; intro k; simp only [List.range_succ, List.map_append]; rfl
  have hwi : ∀ k, k ≤ n → Wi (2 ^ 64) (zs k) := by
    intro k hk x hx
    rw [Ezs, List.mem_map] at hx
    obtain ⟨j, hj, rfl⟩ := hx
    obtain ⟨ad, A, d, _, _, _, _, hL, _⟩ := hR j (by simp at hj; omega)
    have h1 := made_nl (ls j) hL 2
    have h2 := nl_le.1 h1
    rw [show (ival (sb j) (val ((ls j).take 2))).natAbs = val ((ls j).take 2) from mg_ival _ _]
    exact Nat.le_of_lt h2
  rw [← hz0] at G0
  have hfin : ∀ (wr W2 : World) (k : Nat) (e : Ending), k ≤ n → k ≤ 8 → Below w.heap.size w wr → (∃ m, m ≤ (zs k).length ∧ RetPs wr ((zs k).take m) e W2) → ∃ f : List Int, f.length ≤ 8 ∧ Wi (2 ^ 64) f ∧ RetPs w f e W2 := by
    rintro wr W2 k e hk h8 hb ⟨m, hm, ad, c1, rfl, hP, hb2⟩
    refine ⟨(zs k).take m, by rw [List.length_take, hzl]; omega, fun x hx => hwi k hk x (List.mem_of_mem_take hx), ad, c1, rfl, hP, hb.cons hb2⟩
  have hlp : ∀ k, k ≤ n → ∀ j, nl (mg (gi (zs k) j)) ≤ 1073741824 := by
    intro k hk j
    have h1 := (hwi k hk).gi j
    refine Nat.le_trans (nl_le.2 (?_ : mg (gi (zs k) j) < 4294967296 ^ 3)) (by decide)
    unfold mg; omega
  replace Ezs := Lib.hid Ezs
  replace hz0 := Lib.hid hz0
  replace hzl := Lib.hid hzl
  replace hzn := Lib.hid hzn
  replace hwi := Lib.hid hwi
  replace hfin := Lib.hid hfin
  replace hlp := Lib.hid hlp
  go_enter Tryz.func18, Tryz.ntmps18
  go_wp2_with (fail)
  go_loopw [7, 8] (fun v7 v8 wr => ∃ (k g cv : Nat), v7 = .slice (some ⟨g, 0, none⟩) k cv ∧ v8 = .int .i64 k ∧ k ≤ n ∧ k ≤ 8 ∧ GrowP wr w.heap.size (zs k) (.slice (some ⟨g, 0, none⟩) k cv) ∧ Below w.heap.size w wr) (fun v7 v8 wr => 8 - (intOf v8).toNat)
  case atStart => exact ⟨0, _, _, rfl, rfl, Nat.zero_le _, Nat.zero_le _, G0, E0⟩
  case round =>
    clear G0 E0
    obtain ⟨k, g, cv, rfl, rfl, hk, hk8, hG, hbr⟩ := hrel
    by_cases hc : k < n ∧ k ≤ 7
    · obtain ⟨hkn, hk7⟩ := hc
      have t1 : decide ((k : Int) < (n : Int)) = true := by simp; omega
      have t2 : decide (k < n) = true := by simp; omega
      have t3 : decide ((k : Int) ≤ 7) = true := by simp; omega
      have t4 : decide (k ≤ 7) = true := by simp; omega
      have Wk : IntKind.i64.wrap ((k : Int) + 1) = ((k + 1 : Nat) : Int) := by rw [show (k : Int) + 1 = ((k + 1 : Nat) : Int) by omega]; exact IntWalk.i64_in _ (by omega)
      have g1 : (0 : Int) ≤ (k : Int) := Int.natCast_nonneg k
      have g2 : (k : Int) < (n : Int) := by omega
      obtain ⟨ad, A, d, rfl, pc0, pc1, hA, hL, hq, hd, hZ⟩ := hR.below hbr k hkn
      have CZ := zmadeI_c (sb k) A d (ls k) 2 2 wr hA hL hq hd hZ (by decide) rfl
      obtain ⟨z, Ez⟩ : ∃ z, z = ival (sb k) (val ((ls k).take 2)) := ⟨_, rfl⟩
      rw [← Ez] at CZ
      replace CZ := Lib.hid CZ
      replace Ez := Lib.hid Ez
      replace hZ := Lib.hid hZ
      go_wp2_with (fail)
      refine (Calls.mono CZ.out ?_)
      rintro e W2 ⟨X, d2, rfl, hz, hb2⟩
      have hbr2 := hbr.cons hb2
      have hG2 := hG.below hb2
      obtain ⟨W3, hW3⟩ : ∃ W3, W3 = W2.alloc (.cells #[.bool (sg z), .slice X (nl (mg z)) d2] 24) := ⟨_, rfl⟩
      have hb3 : Below W2.heap.size W2 W3 := by rw [hW3]; exact (Below.refl _ _).alloc (Nat.le_refl _) _
      have hnew : BoxA W3 W2.heap.size 24 #[.bool (sg z), .slice X (nl (mg z)) d2] := by rw [hW3]; exact ⟨at_new rfl⟩
      have hbr3 := hbr2.cons hb3
      have hz3 := hz.below hb3
      obtain ⟨cs, k1, k2, k3⟩ := hG2.below hb3
      have htl : (zs k).length = k := hzl.out k
      have hs3 := hbr3.size
      have hnews : ∀ j u, ([.bool (sg z), .slice X (nl (mg z)) d2] : List Value)[j]? = some u → W3.cell? ((⟨W2.heap.size, 0, none⟩ : Addr).add j) = some u := fun j u hu => by rw [addr_at]; exact hnew.c (by simpa using hu)
      have HX : ∀ (v' : Value) (w2 : World), w2.ownsRow w.heap.size 24 2 v' (k + 1) (cs ++ [.bool (sg z), .slice X (nl (mg z)) d2]) → W3.grownBy w2 (Value.slice (some ⟨g, 0, none⟩) k cv).ownBlock → NU w2 v' → GrowP w2 w.heap.size (zs (k + 1)) v' ∧ Below w.heap.size w w2 := by
        intro v' w2 ho hg hn2
        rw [hzn.out k, ← Ez.out]
        exact ⟨growP_next k1 k2 k3 hz3 (by rw [htl]; exact ho) hg hn2, hbr3.grown hg hbr3.size (fun j hj => own_base k1 hj)⟩
      rw [htl] at k1
      replace HX := Lib.hid HX
      replace htl := Lib.hid htl
      clear hz3 hnew hb3 hG2 k3 hbr3 hb2 pc0 pc1 hA
      go_wp2_with (at_builtin; rw [← hW3]; refine wpList_append_nu _ rfl (.tmp 21) (.tmp 28) 46 rfl w.heap.size 24 i0 (.agg #[.bool false, .slice none 0 0]) 2 32 Tryz.underlying46 hi0 hz00 hz01 hz02 rfl (by decide) _ k cs rfl k1 ⟨W2.heap.size, 0, none⟩ 1 1 [.bool (sg z), .slice X (nl (mg z)) d2] rfl rfl hnews (by intro u hu; simp at hu; rcases hu with rfl | rfl <;> rfl) (by simp only [maxLen]; omega) (by omega) hs3 (by decide) k2 (by intro u hu; simp [Value.cells] at hu; rcases hu with rfl | rfl <;> first | exact notU_bool _ | exact notU_slice _ _ _) (by intro u hu; simp at hu; rcases hu with rfl | rfl <;> first | exact notU_bool _ | exact notU_slice _ _ _) ?_; intro v' w2 hn1 hn2 hn3; obtain ⟨g8, c8, rfl⟩ := own_some hn1 (Nat.succ_pos k); have HY := Lib.hid (HX.out _ w2 hn1 hn2 hn3); clear hn1 hn2 hn3)
      go_roundw
      case rel => exact ⟨k + 1, g8, c8, rfl, by go_num, by omega, by omega, HY.out.1, HY.out.2⟩
      case measure => simp [intOf]; omega
    · have PK := growP_pol hG (hzl.out k)
      have CM := pmk_c ⟨g, 0, none⟩ cv (zs k) wr PK (by rw [hzl.out]; omega) (hlp.out k hk)
      rw [hzl.out] at CM
      have HF : ∀ (e : Ending) (W2 : World), (∃ m, m ≤ k ∧ RetPs wr ((zs k).take m) e W2) → ∃ f : List Int, f.length ≤ 8 ∧ Wi (2 ^ 64) f ∧ RetPs w f e W2 := fun e W2 h => hfin.out wr W2 k e hk hk8 hbr (by rw [hzl.out]; exact h)
      replace HF := Lib.hid HF
      replace CM := Lib.hid CM
      clear PK hG
      by_cases hkn : k < n
      · have t1 : decide ((k : Int) < (n : Int)) = true := by simp; omega
        have t2 : decide (k < n) = true := by simp; omega
        have t3 : decide ((k : Int) ≤ 7) = false := by simp; omega
        have t4 : decide (k ≤ 7) = false := by simp; omega
        go_wp2_with (fail)
        refine (Calls.mono CM.out ?_)
        rintro e W2 ⟨m, hm, ad, c1, rfl, hP, hb2⟩
        have HG := Lib.hid (HF.out _ _ ⟨m, hm, ad, c1, rfl, hP, hb2⟩)
        clear hP hb2
        go_wp2_with (fail)
        exact bodyPost_ret (v := .slice (some ad) ((zs k).take m).length c1) (by simp [results, Tryz.results18, go_sem]) rfl HG.out
      · have t1 : decide ((k : Int) < (n : Int)) = false := by simp; omega
        have t2 : decide (k < n) = false := by simp; omega
        go_wp2_with (fail)
        refine (Calls.mono CM.out ?_)
        rintro e W2 ⟨m, hm, ad, c1, rfl, hP, hb2⟩
        have HG := Lib.hid (HF.out _ _ ⟨m, hm, ad, c1, rfl, hP, hb2⟩)
        clear hP hb2
        go_wp2_with (fail)
        exact bodyPost_ret (v := .slice (some ad) ((zs k).take m).length c1) (by simp [results, Tryz.results18, go_sem]) rfl HG.out
end Go.Proofs.YtopigejgadnkaaaGreatDoor

namespace Go.Proofs.YtopigejgadnkaaaGreatDoor
open Go.RowKit Go.ChangeShapes Go.WideShapes Go.ChangeAt

section
variable {H : Type} {enc : TypeId × Value → H} {W : World} {base : Nat} {sp : Nat → Bool} {held : Bool}
theorem open_pol {fuel : Nat} {cs : List Value} {x : DataW H × List MemPlace} (h : DataW.trod enc Tryz.prog W base sp held fuel 46 cs = some x) :
    ∃ V n c sb ls, cs = [.slice V n c] ∧ RawP W V n sb ls ∧ n ≤ 9223372036854775807 := by
  rcases Go.Deep.open_slice Tryz.underlying46 h with ⟨rfl, _⟩ | ⟨a, len, cap, m, n, D, Pl, rfl, _, hl, hm, hmm, _, he⟩
  · exact ⟨none, 0, 0, fun _ => false, fun _ => [], rfl, fun j hj => absurd hj (Nat.not_lt_zero j), by decide⟩
  · have hlm : len ≤ m := by rw [hmm]; split <;> omega
    have key : ∀ k, k < len → ∃ y : Bool × List Nat, ∃ A d, W.cell? (a.add (k * 2)) = some (.bool y.1) ∧ W.cell? ⟨(a.add (k * 2)).block, (a.add (k * 2)).off + 1, none⟩ = some (.slice A y.2.length d) ∧ IsL W A d y.2 := by
      intro k hk
      obtain ⟨cs', hc, ht⟩ := he k (by omega)
      rw [row_cellsZ] at hc
      obtain ⟨b, A, c, l, rfl, i⟩ := open_mag ht
      obtain ⟨_, hcl, hci⟩ := World.cells?_some hc
      have e0 := hci 0 (by decide)
      have e1 := hci 1 (by decide)
      refine ⟨(b, l), A, c, ?_, ?_, i⟩
      · exact e0
      · exact e1
    obtain ⟨g, hg⟩ := Go.Deep.choose_lt key
    exact ⟨some a, len, cap, fun k => (g k).1, fun k => (g k).2, rfl, fun j hj => by
      obtain ⟨A, d, h1, h2, h3⟩ := hg j hj
      exact ⟨a, A, d, rfl, h1, h2, h3.1, h3.2.1, h3.2.2.1, h3.2.2.2.1, h3.2.2.2.2⟩, by simp only [maxLen] at hm; omega⟩
theorem open_polv {r : Reach} {b0 : Nat} {v : Value} {d : DataW H} {ps : List MemPlace} (hv : Value.okWide Tryz.prog W r b0 46 v) (h : DataW.Trod enc Tryz.prog W base sp held 46 v d ps) :
    ∃ V n c sb ls, v = .slice V n c ∧ RawP W V n sb ls ∧ n ≤ 9223372036854775807 := by
  obtain ⟨a, len, cap, rfl⟩ := okWide_slice Tryz.underlying46 hv
  obtain ⟨fuel, hf⟩ := h
  obtain ⟨V, n, c, sb, ls, e, i, j⟩ := open_pol hf
  simp only [Value.cells, List.cons.injEq, and_true] at e
  exact ⟨V, n, c, sb, ls, e, i, j⟩
end
end Go.Proofs.YtopigejgadnkaaaGreatDoor

namespace Go.Proofs.YtopigejgadnkaaaGreatDoor
open Go.RowKit

structure MvR (lo : Nat) (V : Nat → Prop) (A B : World) : Prop where
  os : B.os = A.os
  tape : B.tape = A.tape
  output : B.output = A.output
  size : A.heap.size ≤ B.heap.size
  block : ∀ k, (k < lo ∨ ¬ V k) → B.heap[k]? = A.heap[k]?
  u : ∀ (p : Addr) (x : Nat), A.cell? p = some (.int .u32 (x : Nat)) → B.cell? p = some (.int .u32 (x : Nat))
def SeqZ {α : Type} (F : Fence) (n : Nat) (P : Program) (g : Nat) (lb : Array Value) (encs : α → Array Value) (H : List α → α → World → Prop) (Kp : (Nat → Prop) → World → World → Prop) (S Sp : List α → World → Prop) (w : World) : Prop :=
  ∀ (l : Nat) (J : (Nat → Prop) → List α → World → Prop) (Jx : List α → World → Prop) (W : World), Below w.heap.size w W → (∀ V, AbidesFrom W.heap.size (J V)) → AbidesFrom W.heap.size Jx → (∀ V V' s A, J V s A → (∀ k, V' k → V k ∨ A.heap.size ≤ k) → J V' s A) → (∀ V s A B, J V s A → MvR W.heap.size V A B → J V s B) →
    (∀ V pre x W1, (∀ k, V k → W.heap.size ≤ k ∧ k < W1.heap.size) → J V pre W1 → H pre x W1 → YieldAt F (n - 1) P l (encs x) W1 fun e W' =>
      (e = .returned (.bool true) ∧ J V (pre ++ [x]) W' ∧ Kp V W1 W') ∨ (e = .returned (.bool false) ∧ Jx (pre ++ [x]) W' ∧ Kp V W1 W')) →
    J (fun _ => False) [] W →
    CallsIn F n P g (#[.func (.yield l) #[] #[]] ++ lb) W fun e W' => (∃ v, e = .returned v) ∧ ((∃ V xs, S xs W' ∧ J V xs W') ∨ (∃ pre, Sp pre W' ∧ Jx pre W'))
theorem wpIn_rangeZ {F : Fence} {n : Nat} {P : Program} {α : Type} {g : Operand} {ps : Array Tmp} {assign body : Code} {Q : Exit → Act → World → Prop} {a : Act} {w : World}
    (hro : F.round = none) (h1 : 1 ≤ n) {gf : Nat} {lb : Array Value} (hg : a.eval g = .func (.func gf) #[] lb) (hFg : F.fn gf) (eg : ∀ args w, (callFunc gf args).run P w = .ok (.enter gf args) w)
    {encs : α → Array Value} {H : List α → α → World → Prop} {Kp : (Nat → Prop) → World → World → Prop} {S Sp : List α → World → Prop} {w0 : World} (hseq : SeqZ F (n - 1) P gf lb encs H Kp S Sp w0)
    (hKt : ∀ {V : Nat → Prop} {A B C : World}, Kp V A B → Kp V B C → Kp V A C) (hKb : ∀ (V : Nat → Prop) (W : World) (l : Nat) (o o' : Obj), w.heap.size ≤ l → W.heap[l]? = some o → o.isCells = false → o.isWalk = false → Kp V W (W.putObj l o')) (hb0 : Below w0.heap.size w0 w) (hps : ∀ x, (encs x).size = ps.size)
    (hH : OwnFrom w.heap.size (fun (p : List α × α) W => H p.1 p.2 W)) (hS : OwnFrom w.heap.size S) (hSp : OwnFrom w.heap.size Sp)
    (I : (Nat → Prop) → List α → World → Prop) (Ix : Code → List α → World → Prop) (hI : ∀ V, OwnFrom w.heap.size (I V)) (hIe : ∀ V V' s A, I V s A → (∀ k, V' k → V k ∨ A.heap.size ≤ k) → I V' s A) (hIx : ∀ c, OwnFrom w.heap.size (Ix c)) (hIM : ∀ V s A B, I V s A → MvR (w.heap.size + 2) V A B → I V s B) (h0 : I (fun _ => False) [] w) (a₁ : α → Nat → Act) (var : α → Obj) (hvc : ∀ x, (var x).isCells = true) (hKa : ∀ (V : Nat → Prop) (W : World) (o : Obj), Kp V W (W.alloc o))
    (hassign : ∀ (l : Nat) (x : α) (W : World) (K : Act → World → Prop), K (a₁ x W.heap.size) (W.alloc (var x)) →
      assign.wpIn (F.inRound l) (n - 1 - 1) P (Exit.then K (fun _ _ _ => False)) { tmps := (ps.zip (encs x)).foldl (fun t (p, v) => t.setIfInBounds p v) a.tmps, defers := [] } W)
    (hbody : ∀ (l : Nat) (V : Nat → Prop) (pre : List α) (x : α) (W : World), (∀ k, V k → w.heap.size + 2 ≤ k ∧ k < W.heap.size) → I V pre W → H pre x W → ∀ b, W.heap[b]? = some (var x) → ¬ V b → w.heap.size + 2 ≤ b → body.wpIn (F.inRound l) (n - 1 - 1) P (postX (Kp V) (I V) Ix (pre ++ [x]) W) (a₁ x b) W)
    (hdone : ∀ (D : Nat) (V : Nat → Prop) (xs : List α) (W : World), w.heap.size ≤ D → S xs W → I V xs W → W.heap[D]? = some (.deferred (some [])) → Q .normal { a with defers := { target := .collected D, args := #[] } :: a.defers } W)
    (hstop : ∀ (D : Nat) (c : Code) (pre : List α) (W : World), w.heap.size ≤ D → Sp pre W → Ix c pre W → W.heap[D]? = some (.deferred (some [])) → c.wpIn F n P Q { a with defers := { target := .collected D, args := #[] } :: a.defers } W) :
    (Code.rangeFunc g ps assign body).wpIn F n P Q a w := by
  refine wpIn_rangeFunc fun fn hfn => ?_
  rw [hro]
  let rec' : LoopState → Option Code → Loop := fun st pe => { state := st, pending := pe, fn, tmps := a.tmps, params := ps, assign, body, defers := w.heap.size }
  obtain ⟨rc, hrc⟩ : ∃ rc : LoopState → Option Code → Loop, rc = rec' := ⟨_, rfl⟩
  obtain ⟨W1, hW1⟩ : ∃ W1, W1 = (w.alloc (.deferred (some []))).alloc (.loop (rc .ready none)) := ⟨_, rfl⟩
  have hz : W1.heap.size = w.heap.size + 2 := by rw [hW1]; simp
  have hL1 : W1.heap[w.heap.size + 1]? = some (.loop (rc .ready none)) := by rw [hW1]; exact at_new (by simp)
  have hK1 : W1.heap[w.heap.size]? = some (.deferred (some [])) := by rw [hW1]; exact at_old (by simp) (at_new rfl)
  have hI1 : I (fun _ => False) [] W1 := by rw [hW1]; exact (hI _).alloc _ ((hI _).alloc _ h0)
  have hb1 : Below w0.heap.size w0 W1 := by
    rw [hW1]; exact hb0.trans ((((Below.refl _ w).alloc (Nat.le_refl _) _).alloc (by simp) _).mono hb0.size)
  refine ⟨w.heap.size + 1, [{ target := .collected w.heap.size, args := #[] }], W1, { target := .fn (.func gf) lb, args := #[.func (.yield (w.heap.size + 1)) #[] #[]] }, W1, gf, #[.func (.yield (w.heap.size + 1)) #[] #[]] ++ lb, W1, ?_, ?_, ?_, ?_, fun _ => h1, ?_⟩
  · rw [hW1, hrc]; exact run_enterLoop_outer _ _ _ _ _
  · simp only [resolve, hg]
    simp [go_sem]
  · intro f' hf'
    simp [Target.leads] at hf'
    subst hf'; exact hFg
  · simp [invoke, go_sem, eg]
  have turn : ∀ {A B : World} {row : Option Nat}, (∀ r, row = some r → W1.heap.size ≤ r ∧ ∃ o : Obj, A.heap[r]? = some o ∧ o.isWalk = true) → (∀ r, row = some r → w.heap.size ≤ r ∧ ∃ o : Obj, A.heap[r]? = some o ∧ o.isCells = false) := fun hr r e => by
    obtain ⟨hB, o, ho, hw⟩ := hr r e
    exact ⟨by omega, o, ho, Obj.not_cells_of_walk hw⟩
  refine (hseq (w.heap.size + 1)
    (fun V pre W => I V pre W ∧ W.heap[w.heap.size + 1]? = some (.loop (rc .ready none)) ∧ W.heap[w.heap.size]? = some (.deferred (some [])))
    (fun pre W => ∃ c, Ix c pre W ∧ W.heap[w.heap.size + 1]? = some (.loop (rc .done (some c))) ∧ W.heap[w.heap.size]? = some (.deferred (some [])))
    W1 hb1 ?ab1 ?ab2 ?ext ?mv ?round ⟨hI1, hL1, hK1⟩).mono ?fin
  case ext =>
    rintro V V' x A ⟨h1, h2, h3⟩ hv
    exact ⟨hIe V V' x A h1 hv, h2, h3⟩
  case mv =>
    rintro V x A B ⟨h1, h2, h3⟩ hm
    rw [hz] at hm
    exact ⟨hIM V x A B h1 hm, (hm.block _ (Or.inl (by omega))).trans h2, (hm.block _ (Or.inl (by omega))).trans h3⟩
  case ab1 =>
    rintro V x A B row ⟨h1, h2, h3⟩ hg' hr
    exact ⟨hI V x A B row h1 hg' (turn (B := B) hr), (grownBy_keeps hg' (fun r e => (hr r e).2) h2 rfl).trans h2, (grownBy_keeps hg' (fun r e => (hr r e).2) h3 rfl).trans h3⟩
  case ab2 =>
    rintro x A B row ⟨c, h1, h2, h3⟩ hg' hr
    exact ⟨c, hIx c x A B row h1 hg' (turn (B := B) hr), (grownBy_keeps hg' (fun r e => (hr r e).2) h2 rfl).trans h2, (grownBy_keeps hg' (fun r e => (hr r e).2) h3 rfl).trans h3⟩
  case round =>
    rintro V pre x W hmz ⟨hi, hl, hk⟩ hx
    rw [hz] at hmz
    have hlt : w.heap.size + 1 < W.heap.size := (Array.getElem?_eq_some_iff.1 hl).1
    have hy := run_yield (P := P) (args := encs x) hl (by rw [hrc]; exact hps x)
    rw [hrc] at hy
    obtain ⟨W0, hW0⟩ : ∃ W0, W0 = W.alloc (var x) := ⟨_, rfl⟩
    have hl0 : W0.heap[w.heap.size + 1]? = some (.loop (rc .ready none)) := by rw [hW0]; exact at_old hlt hl
    have hk0 : W0.heap[w.heap.size]? = some (.deferred (some [])) := by rw [hW0]; exact at_old (by omega) hk
    have hi0 : I V pre W0 := by rw [hW0]; exact (hI V).alloc _ hi
    have hx0 : H pre x W0 := by rw [hW0]; exact hH.alloc (s := (pre, x)) _ hx
    have hvb : W0.heap[W.heap.size]? = some (var x) := by rw [hW0]; exact at_new rfl
    have hs0 : W0.heap.size = W.heap.size + 1 := by rw [hW0]; simp
    have hKW : Kp V W W0 := by rw [hW0]; exact hKa V W _
    have hlt0 : w.heap.size + 1 < W0.heap.size := by omega
    have hmz0 : ∀ k, V k → w.heap.size + 2 ≤ k ∧ k < W0.heap.size := fun k h => by have := hmz k h; omega
    have hnb : ¬ V W.heap.size := fun h => by have := hmz _ h; omega
    refine ⟨fn, _, assign, body, hy, roundIn_of_wpIn hfn (hassign _ x W _ ⟨_, run_beginRound (by rw [← hW0]; exact hl0) (by rw [hrc]), ?_⟩)⟩
    rw [← hW0]
    obtain ⟨bz, hbz⟩ : ∃ bz, bz = Obj.loop { rc .ready none with state := .busy } := ⟨_, rfl⟩
    rw [← hbz]
    have hl2 : (W0.putObj (w.heap.size + 1) bz).heap[w.heap.size + 1]? = some bz := World.putObj_heap_same hlt0
    have hk2 : (W0.putObj (w.heap.size + 1) bz).heap[w.heap.size]? = some (.deferred (some [])) := (World.putObj_heap_other (by omega)).trans hk0
    have hw2 : Kp V W0 (W0.putObj (w.heap.size + 1) bz) := hKb _ _ _ _ _ (by omega) hl0 rfl rfl
    refine wpIn_mono (hbody _ V pre x _ (by simpa [World.putObj] using hmz0) ((hI V).putObj _ hi0 (by omega) hl0 rfl) (hH.putObj (s := (pre, x)) _ hx0 (by omega) hl0 rfl) W.heap.size ((World.putObj_heap_other (by omega)).trans hvb) hnb (by omega)) ?_
    have out : ∀ (jump : Option Code) (W3 : World), KeepsOthers (W0.putObj (w.heap.size + 1) bz) W3 →
        (Instr.endRound (w.heap.size + 1) jump).run P W3 = .ok (.bool jump.isNone) (W3.putObj (w.heap.size + 1) (.loop (rc (if jump.isNone then .ready else .done) jump))) ∧ W3.heap[w.heap.size + 1]? = some bz ∧
        (W3.putObj (w.heap.size + 1) (.loop (rc (if jump.isNone then .ready else .done) jump))).heap[w.heap.size + 1]? = some (.loop (rc (if jump.isNone then .ready else .done) jump)) ∧
        (W3.putObj (w.heap.size + 1) (.loop (rc (if jump.isNone then .ready else .done) jump))).heap[w.heap.size]? = some (.deferred (some [])) := fun jump W3 h3 => by
      have hl3 := h3.same _ _ hl2 (by rw [hbz]; rfl)
      have he := run_endRound (P := P) jump (by rw [hbz] at hl3; exact hl3)
      rw [hrc] at he ⊢
      exact ⟨he, hl3, World.putObj_heap_same (Array.getElem?_eq_some_iff.1 hl3).1, (World.putObj_heap_other (by omega)).trans (h3.same _ _ hk2 rfl)⟩
    have hbc : bz.isCells = false := by rw [hbz]; rfl
    have hbw : bz.isWalk = false := by rw [hbz]; rfl
    have leave : ∀ (c : Code) (W3 : World), KeepsOthers (W0.putObj (w.heap.size + 1) bz) W3 → Kp V (W0.putObj (w.heap.size + 1) bz) W3 → Ix c (pre ++ [x]) W3 → ∃ v w', (Instr.endRound (w.heap.size + 1) (some c)).run P W3 = .ok v w' ∧
        ((Ending.returned v = .returned (.bool true) ∧ (I V (pre ++ [x]) w' ∧ w'.heap[w.heap.size + 1]? = some (.loop (rc .ready none)) ∧ w'.heap[w.heap.size]? = some (.deferred (some []))) ∧ Kp V W w') ∨
          (Ending.returned v = .returned (.bool false) ∧ (∃ c, Ix c (pre ++ [x]) w' ∧ w'.heap[w.heap.size + 1]? = some (.loop (rc .done (some c))) ∧ w'.heap[w.heap.size]? = some (.deferred (some []))) ∧ Kp V W w')) := fun c W3 h3 hk3 hi3 => by
      obtain ⟨hr, hl3, hl4, hk4⟩ := out (some c) W3 h3
      exact ⟨_, _, hr, .inr ⟨rfl, ⟨c, (hIx _).putObj _ hi3 (by omega) hl3 hbc, hl4, hk4⟩, hKt hKW (hKt (hKt hw2 hk3) (hKb _ _ _ _ _ (by omega) hl3 hbc hbw))⟩⟩
    rintro e a3 W3 hp
    cases e with
    | normal =>
      obtain ⟨h3, hk3, hi3⟩ := hp
      obtain ⟨hr, hl3, hl4, hk4⟩ := out none W3 h3
      exact ⟨_, _, hr, .inl ⟨rfl, ⟨(hI V).putObj _ hi3 (by omega) hl3 hbc, hl4, hk4⟩, hKt hKW (hKt (hKt hw2 hk3) (hKb _ _ _ _ _ (by omega) hl3 hbc hbw))⟩⟩
    | ret => exact leave .ret W3 hp.1 hp.2.1 hp.2.2
    | exit id => exact leave (.exit id) W3 hp.1 hp.2.1 hp.2.2
    | goto t => exact leave (.goto t) W3 hp.1 hp.2.1 hp.2.2
    | panic ch => exact hp.elim
    | outgrown => exact hp.elim
  case fin =>
    rintro e W2 ⟨⟨v, rfl⟩, (⟨V, xs, hSx, hi, hl, hk⟩ | ⟨pre, hSx, c, hi, hl, hk⟩)⟩
    · exact ⟨none, _, by have := run_endLoop (P := P) hl (by rw [hrc]; simp [rec']); rw [hrc] at this; exact this,
        hdone _ V xs _ (Nat.le_refl _) (hS.putObj _ hSx (by omega) hl rfl) ((hI V).putObj _ hi (by omega) hl rfl) ((World.putObj_heap_other (by omega)).trans hk)⟩
    · exact ⟨some c, _, by have := run_endLoop (P := P) hl (by rw [hrc]; simp [rec']); rw [hrc] at this; exact this,
        hstop _ c pre _ (Nat.le_refl _) (hSp.putObj _ hSx (by omega) hl rfl) ((hIx c).putObj _ hi (by omega) hl rfl) ((World.putObj_heap_other (by omega)).trans hk)⟩
end Go.Proofs.YtopigejgadnkaaaGreatDoor

namespace Go.Proofs.YtopigejgadnkaaaGreatDoor
open Go.RowKit Go.Shelf

theorem oper_wide {P : Program} {o : Oper} {a : Act} {w : World} {K : Act → World → Prop} {Q : Exit → Act → World → Prop} {nf : Nat} (h : Oper.wp P o a w K Q) : Oper.wpIn Fence.wide nf P o a w K Q := by
  refine ⟨fun _ _ => trivial, ?_⟩
  unfold Oper.wp at h
  show o.uponIn Fence.wide nf P a K Q ((execOp a.eval o).run P w)
  generalize (execOp a.eval o).run P w = r at h ⊢
  cases r with
  | ok x w' =>
    cases x <;> simp only [Oper.upon, Oper.uponIn] at h ⊢ <;>
      first
        | exact h
        | exact ⟨fun h => by simp [Fence.wide] at h, callsIn_wide.2 h⟩
        | exact ⟨fun h => by simp [Fence.wide] at h, fun c cs _ => let ⟨v, w2, r, s⟩ := h c cs; ⟨v, w2, r, stepsIn_wide.2 s⟩⟩
  | halt x w' => cases x <;> simp only [Oper.upon, Oper.uponIn] at h ⊢ <;> exact h
theorem wpAnyZ_inv {nf : Nat} {P : Program} {ops : Array Oper} {Q : Exit → Act → World → Prop} {md : Region.Mode} (Inv : Array Bool → Act → World → Prop)
    (hdone : ∀ L a w, Inv L a w → Region.ready md ops L = [] → Q .normal a w)
    (hstep : ∀ L a w i, Inv L a w → i < ops.size → L.getD i true = false → (∀ o, ops[i]? = some o → ∀ e ∈ o.after, Region.binds md e = true → L.getD e.on false = true) →
      wpOpIn Fence.wide nf P ops Q i (fun a' w' => Inv (L.setIfInBounds i true) a' w') a w) :
    ∀ fuel L a w, Inv L a w → L.size = ops.size → L.toList.count false ≤ fuel → wpAnyIn Fence.wide nf P md ops Q fuel L a w := by
  intro fuel
  induction fuel with
  | zero =>
    intro L a w hI hs hc
    have hr : Region.ready md ops L = [] := by
      rw [List.eq_nil_iff_forall_not_mem]
      intro i hi
      obtain ⟨h0, o, ho, _⟩ := mem_ready.1 hi
      have hlt : i < L.size := by rw [hs]; exact (Array.getElem?_eq_some_iff.1 ho).1
      have h1 : L.toList.count false = 0 := by omega
      rw [List.count_eq_zero] at h1
      refine h1 ?_
      have h2 : L[i] = false := by simpa [Array.getD, hlt] using h0
      exact h2 ▸ Array.getElem_mem_toList hlt
    exact ⟨hr, hdone L a w hI hr⟩
  | succ fuel ih =>
    intro L a w hI hs hc
    refine ⟨fun hr => hdone L a w hI hr, fun i hi => ?_⟩
    obtain ⟨h0, o, ho, hd⟩ := mem_ready.1 hi
    have hlt : i < ops.size := (Array.getElem?_eq_some_iff.1 ho).1
    refine wpOpIn_mono (fun a' w' hI' => ih _ a' w' hI' (by simpa using hs) ?_) (hstep L a w i hI hlt h0 (fun o' ho' e he hb => by
      rw [ho] at ho'; cases ho'; exact hd e he hb))
    have hl : i < L.size := by omega
    have h2 : L[i] = false := by simpa [Array.getD, hl] using h0
    have h3 := count_set (L := L.toList) (i := i) (by rw [Array.getElem?_toList, Array.getElem?_eq_getElem hl, h2])
    rw [Array.toList_setIfInBounds]
    omega

theorem wpZ_region_inv {nf : Nat} {P : Program} {ops : Array Oper} {Q : Exit → Act → World → Prop} {id : Nat} {a : Act} {w : World} (Inv : (Nat → Bool) → Act → World → Prop) (hm : P.follows .mixedOrders = true)
    (hd : edgesDown ops = true)
    (h0 : Inv (fun _ => false) a w.drew)
    (hdone : ∀ D a w, Inv D a w → (∀ i, i < ops.size → D i = true) → Q .normal a w)
    (hstep : ∀ D a w i, Inv D a w → i < ops.size → D i = false → (∀ o, ops[i]? = some o → ∀ e ∈ o.after, Region.binds .any e = true → D e.on = true) →
      wpOpIn Fence.wide nf P ops Q i (fun a' w' => Inv (fun k => if k = i then true else D k) a' w') a w) :
    (Code.region id ops true).wpIn Fence.wide nf P Q a w := by
  refine wpIn_region_any hm (wpAnyZ_inv (fun L a w => L.size = ops.size ∧ Inv (fun k => L.getD k false) a w) ?_ ?_ _ _ _ _ ⟨by simp, ?_⟩ (by simp) (by simp))
  · rintro L a w ⟨hs, hI⟩ hr
    exact hdone _ a w hI (ready_nil hd hs hr)
  · rintro L a w i ⟨hs, hI⟩ hi hL he
    have hl : i < L.size := by omega
    refine wpOpIn_mono (fun a' w' h' => ⟨by simpa using hs, ?_⟩) (hstep (fun k => L.getD k false) a w i hI hi (by simp only [Array.getD, hl, dite_true] at hL ⊢; exact hL) he)
    have : (fun k => (L.setIfInBounds i true).getD k false) = (fun k => if k = i then true else L.getD k false) := funext (bit_set hl)
    rw [this]
    exact h'
  · have : (fun k => (Array.replicate ops.size false).getD k false) = (fun _ : Nat => false) := by
      funext k
      by_cases hk : k < ops.size <;> simp [Array.getD, hk]
    rw [this]
    exact h0
def TailZ (nf : Nat) (P : Program) (ops : Array Oper) (Q : Exit → Act → World → Prop) : List Nat → Act → World → Prop
  | [], a, w => Q .normal a w
  | i :: p, a, w => wpOpIn Fence.wide nf P ops Q i (fun a' w' => TailZ nf P ops Q p a' w') a w
theorem op_wantZ {nf : Nat} {P : Program} {ops : Array Oper} {Q : Exit → Act → World → Prop} {i : Nat} {o : Oper} {a : Act} {w : World} {K : Act → World → Prop} (ho : ops.toList[i]? = some o) (hw : Region.wanted o (yielded ops a.tmps) = true)
    (h : ∀ K' : Act → World → Prop, Shut (∀ a w, K a w → K' a w) → Oper.wp P o a w K' Q) : wpOpIn Fence.wide nf P ops Q i K a w := by
  unfold wpOpIn
  rw [show ops[i]? = some o by rw [← Array.getElem?_toList]; exact ho]
  simp only [hw, if_true]
  exact oper_wide (h _ (fun a w h => h))
theorem TailZ.one {nf : Nat} {P : Program} {ops : Array Oper} {Q : Exit → Act → World → Prop} {i : Nat} {p : List Nat} {o : Oper} {a : Act} {w : World} (ho : ops.toList[i]? = some o) (hw : Region.wanted o (yielded ops a.tmps) = true)
    (h : ∀ K' : Act → World → Prop, Shut (∀ a w, TailZ nf P ops Q p a w → K' a w) → Oper.wp P o a w K' Q) : TailZ nf P ops Q (i :: p) a w := op_wantZ ho hw h
theorem TailZ.done {nf : Nat} {P : Program} {ops : Array Oper} {Q : Exit → Act → World → Prop} {a : Act} {w : World} (h : Q .normal a w) : TailZ nf P ops Q [] a w := h
theorem wpOp_stepZ {nf : Nat} {P : Program} {ops : Array Oper} {Q : Exit → Act → World → Prop} {i : Nat} {o : Oper} {K : Act → World → Prop} {a : Act} {w : World} (ho : ops[i]? = some o) (hg : o.guard = none := by rfl) (h : ∀ K' : Act → World → Prop, (∀ a w, K a w → K' a w) → Oper.wp P o a w K' Q) : wpOpIn Fence.wide nf P ops Q i K a w := by
  unfold wpOpIn
  rw [ho]
  have hw : Region.wanted o (yielded ops a.tmps) = true := by unfold Region.wanted; rw [hg]
  simp only [hw, if_true]
  exact oper_wide (h _ (fun a w h => h))
end Go.Proofs.YtopigejgadnkaaaGreatDoor

namespace Go.Proofs.YtopigejgadnkaaaGreatDoor
open Go.RowKit Go.Shelf
attribute [local go_sem] max2_i min2_i max_two min_two

structure ItI where
  A : Option Addr
  c : Nat
  z : Int
def ItI.enc (x : ItI) : Array Value := #[.agg #[.bool (sg x.z), .slice x.A (nl (mg x.z)) x.c]]
def tmN : Nat → Int
  | 0 => -17
  | 1 => 9
  | _ => 1
def tmD : Nat → Int
  | 0 => 9
  | 1 => 1
  | _ => 0
def tmQ : Nat → Int
  | 0 => -2
  | _ => 9
def TmH (pre : List ItI) (x : ItI) (W : World) : Prop := NatV W x.A x.c (mg x.z) ∧ x.z = tmQ pre.length ∧ pre.length < 2
def TmS (xs : List ItI) (_ : World) : Prop := xs.length = 2
structure KpR (V : Nat → Prop) (W W' : World) : Prop where
  z : W.heap.size ≤ W'.heap.size
  u : ∀ (p : Addr) (x : Nat), W.cell? p = some (.int .u32 (x : Nat)) → W'.cell? p = some (.int .u32 (x : Nat))
  b : ∀ k, V k → ∀ o : Obj, o.isCells = true → W.heap[k]? = some o → W'.heap[k]? = some o
theorem KpR.t {V : Nat → Prop} {A B C : World} (h : KpR V A B) (k : KpR V B C) : KpR V A C := ⟨Nat.le_trans h.z k.z, fun p x e => k.u p x (h.u p x e), fun j h1 o ho e => k.b j h1 o ho (h.b j h1 o ho e)⟩
theorem KpR.bk (V : Nat → Prop) (W : World) (l : Nat) (o o' : Obj) (h : W.heap[l]? = some o) (ho : o.isCells = false) : KpR V W (W.putObj l o') := by
  refine ⟨(grownBy_putObj' W l o').size, fun p x e => cell_kept e (grownBy_putObj' W l o') (fun r e => by cases e; exact ⟨o, h, ho⟩), fun k h1 u hu e => ?_⟩
  have hne : k ≠ l := fun e2 => by subst e2; rw [h] at e; cases e; rw [ho] at hu; cases hu
  exact (World.putObj_heap_other hne).trans e
theorem far2Z {W : World} {k j : Nat} {v0 v1 : Value} (hj : j ≠ k) : ((W.setCell ⟨k, 0, none⟩ v0).setCell ⟨k, 1, none⟩ v1).heap[j]? = W.heap[j]? := (Below.heap_setCell _ _ _ _ (by simpa using hj)).trans (Below.heap_setCell _ _ _ _ (by simpa using hj))
theorem MvR.two {lo : Nat} {V : Nat → Prop} {W : World} {n d : Nat} {t t' : TypeId} {u0 u1 x0 x1 v0 v1 w0 w1 : Value} (Rn : BoxA W n t #[u0, u1]) (Rd : BoxA W d t' #[x0, x1]) (hne : d ≠ n) (hu : ∀ u ∈ (#[u0, u1] : Array Value).toList, NotU u) (hx : ∀ u ∈ (#[x0, x1] : Array Value).toList, NotU u) (vn : V n) (vd : V d) (ln : lo ≤ n) (ld : lo ≤ d) : MvR lo V W ((((W.setCell ⟨n, 0, none⟩ v0).setCell ⟨n, 1, none⟩ v1).setCell ⟨d, 0, none⟩ w0).setCell ⟨d, 1, none⟩ w1) := by
  have Rd2 : BoxA ((W.setCell ⟨n, 0, none⟩ v0).setCell ⟨n, 1, none⟩ v1) d t' #[x0, x1] := Rd.other2 hne
  refine ⟨rfl, rfl, rfl, by simp [World.setCell], fun k hk => ?_, fun p x e => ?_⟩
  · have h1 : k ≠ n := fun e => by subst e; rcases hk with h | h; omega; exact h vn
    have h2 : k ≠ d := fun e => by subst e; rcases hk with h | h; omega; exact h vd
    exact (far2Z h2).trans (far2Z h1)
  · exact (kpu_far (Ba := d + 1) (Bb := d + 1) Rd2 hx (fun j hj => far2Z hj) (by omega) (by omega)).u p x ((kpu_far (Ba := n + 1) (Bb := n + 1) Rn hu (fun j hj => far2Z hj) (by omega) (by omega)).u p x e)
theorem BoxA.kpr {V : Nat → Prop} {W W' : World} {b : Nat} {T : TypeId} {vs : Array Value} (h : BoxA W b T vs) (hk : KpR V W W') (hv : V b) : BoxA W' b T vs := ⟨hk.b b hv _ rfl h.at_⟩
theorem NatV.kpr {V : Nat → Prop} {W W' : World} {A : Option Addr} {c n : Nat} (h : NatV W A c n) (hk : KpR V W W') : NatV W' A c n := by
  refine ⟨?_, h.cap, h.cmax⟩
  rcases h.rd with h1 | ⟨ad, rfl, h1⟩
  · exact .inl h1
  · refine .inr ⟨ad, rfl, fun i u hi => ?_⟩
    have h2 := h1 i u hi
    obtain ⟨hl, he⟩ := List.getElem?_eq_some_iff.1 hi
    have hil : i < (limbs n).length := by simpa [vals] using hl
    rw [vals_get _ i hil] at hi
    cases hi
    exact hk.u _ _ h2
theorem terms1_in (l k : Nat) (aA : Option Addr) (ac : Nat) (aB : Option Addr) (ad : Nat) (a : Rat) (W : World) (J : (Nat → Prop) → List ItI → World → Prop) (Jx : List ItI → World → Prop) (ea : a.num = -17) (eb : a.den = 9) (ha : NatV W aA ac (mg a.num)) (ga : NatV W aB ad a.den) (Ra : BoxA W k 26 #[.bool (sg a.num), .slice aA (nl (mg a.num)) ac, .slice aB (nl a.den) ad])
    (hJd : ∀ V pre W1 W2, J V pre W1 → Below W1.heap.size W1 W2 → J V pre W2) (hJe : ∀ V V' s A, J V s A → (∀ k, V' k → V k ∨ A.heap.size ≤ k) → J V' s A) (hJm : ∀ V s A B, J V s A → MvR W.heap.size V A B → J V s B)
    (hY : ∀ V pre x W1, (∀ k, V k → W.heap.size ≤ k ∧ k < W1.heap.size) → J V pre W1 → TmH pre x W1 → YieldAt Fence.wide 2 Tryz.prog l x.enc W1 fun e W' =>
      (e = .returned (.bool true) ∧ J V (pre ++ [x]) W' ∧ KpR V W1 W') ∨ (e = .returned (.bool false) ∧ Jx (pre ++ [x]) W' ∧ KpR V W1 W'))
    (h0 : J (fun _ => False) [] W) :
    CallsIn Fence.wide 3 Tryz.prog 113 #[.func (.yield l) #[] #[], .pointer (some ⟨k, 0, none⟩)] W fun e W' =>
      (∃ v, e = .returned v) ∧ ((∃ V xs, TmS xs W' ∧ J V xs W') ∨ (∃ pre : List ItI, True ∧ Jx pre W')) := by
  have HY := Lib.hid hY
  have HJm := Lib.hid hJm
  have HJd := Lib.hid hJd
  have HJe := Lib.hid hJe
  have H0 := Lib.hid h0
  clear hY hJm hJd hJe h0
  obtain ⟨n0, En0⟩ : ∃ z : Int, z = a.num := ⟨_, rfl⟩
  rw [← En0] at ha Ra ea
  replace En0 := Lib.hid En0
  obtain ⟨d0, Ed0⟩ : ∃ z : Int, z = (a.den : Int) := ⟨_, rfl⟩
  have CD := fun (W : World) (h : NatV W aB ad a.den) => rwhole0_c aB ad a.den W h
  rw [← Ed0] at CD
  replace CD := Lib.hid CD
  replace Ed0 := Lib.hid Ed0
  replace ea := Lib.hid ea
  replace eb := Lib.hid eb
  have qa0 := Ra.c (i := 0) rfl
  have qa1 := Ra.c (i := 1) rfl
  have qa2 := Ra.c (i := 2) rfl
  refine callsIn_of_wp Tryz.func113 rfl trivial ?_ rfl
  simp only [Tryz.ntmps113, List.size_toArray, List.length_cons, List.length_nil, Nat.reduceAdd, Nat.reduceSub, Array.replicate_succ, Array.replicate_zero, List.push_toArray, List.append_toArray, List.nil_append, List.cons_append]
  gi_wp2_with (fail)
  refine wpZ_region_inv (fun E a' w' => ∃ (u8 u9 u10 u11 u12 u3 u4 : Value),
    a' = { tmps := #[.func (.yield l) #[] #[], .pointer (some ⟨k, 0, none⟩), undef, u3, u4, undef, undef, undef, u8, u9, u10, u11, u12, undef, undef, undef, undef, undef, undef, undef, undef, undef, undef, undef, undef, undef, undef, undef, undef], defers := [] } ∧
    (E 0 = true → u8 = .pointer (some ⟨k, 0, none⟩)) ∧
    (E 1 = true → PI u9 n0 w') ∧
    (E 2 = true → u10 = .pointer (some ⟨k, 2, none⟩)) ∧
    (E 3 = true → u11 = .slice aB (nl a.den) ad) ∧
    (E 4 = true → PI u12 d0 w') ∧
    (E 5 = true → PB2 24 W.heap.size u3 w') ∧
    (E 6 = true → PB2 24 W.heap.size u4 w') ∧
    (E 7 = true → PBI W.heap.size u3 n0 w') ∧
    (E 8 = true → PBI W.heap.size u4 d0 w') ∧
    (E 7 = true → E 5 = true) ∧
    (E 8 = true → E 6 = true) ∧
    (E 5 = true → E 6 = true → u3 ≠ u4) ∧
    Below W.heap.size W w') (by kernel_rfl) (by kernel_rfl) ?init ?fin ?step
  case init => exact ⟨_, _, _, _, _, _, _, rfl, by simp, by simp, by simp, by simp, by simp, by simp, by simp, by simp, by simp, by simp, by simp, by simp, (Below.refl _ _).drew⟩
  case step =>
    rintro E a' w' i ⟨u8, u9, u10, u11, u12, u3, u4, rfl, h0, h1, h2, h3, h4, h5, h6, h7, h8, hD7, hD8, hN5_6, hB⟩ hi hEi hdep
    have qa0 := cbl hB qa0
    have qa1 := cbl hB qa1
    have qa2 := cbl hB qa2
    obtain rfl | rfl | rfl | rfl | rfl | rfl | rfl | rfl | rfl : i = 0 ∨ i = 1 ∨ i = 2 ∨ i = 3 ∨ i = 4 ∨ i = 5 ∨ i = 6 ∨ i = 7 ∨ i = 8 := by simp at hi; omega
    · skip
      refine wpOp_stepZ rfl rfl (fun K' hK' => ?_)
      go_simp
      refine hK' _ _ ?_
      exact ⟨_, _, _, _, _, _, _, rfl, fun _ => rfl, kd h1, kd h2, kd h3, kd h4, kd h5, kd h6, kd h7, kd h8, (fun h => by have := hD7 (by simpa using h); simpa using this), (fun h => by have := hD8 (by simpa using h); simpa using this), (fun h k => hN5_6 (by simpa using h) (by simpa using k)), hB⟩
    · skip
      have d0 := hdep _ rfl ⟨0, .data⟩ (by simp) rfl
      obtain rfl := h0 d0
      refine wpOp_stepZ rfl rfl (fun K' hK' => ?_)
      go_simp
      refine hK' _ _ ?_
      exact ⟨_, _, _, _, _, _, _, rfl, kd h0, fun _ => ⟨aA, ac, rfl, ha.below hB⟩, kd h2, kd h3, kd h4, kd h5, kd h6, kd h7, kd h8, (fun h => by have := hD7 (by simpa using h); simpa using this), (fun h => by have := hD8 (by simpa using h); simpa using this), (fun h k => hN5_6 (by simpa using h) (by simpa using k)), hB⟩
    · skip
      refine wpOp_stepZ rfl rfl (fun K' hK' => ?_)
      go_simp
      refine hK' _ _ ?_
      exact ⟨_, _, _, _, _, _, _, rfl, kd h0, kd h1, fun _ => rfl, kd h3, kd h4, kd h5, kd h6, kd h7, kd h8, (fun h => by have := hD7 (by simpa using h); simpa using this), (fun h => by have := hD8 (by simpa using h); simpa using this), (fun h k => hN5_6 (by simpa using h) (by simpa using k)), hB⟩
    · skip
      have d2 := hdep _ rfl ⟨2, .data⟩ (by simp) rfl
      obtain rfl := h2 d2
      refine wpOp_stepZ rfl rfl (fun K' hK' => ?_)
      go_simp
      refine hK' _ _ ?_
      exact ⟨_, _, _, _, _, _, _, rfl, kd h0, kd h1, kd h2, fun _ => rfl, kd h4, kd h5, kd h6, kd h7, kd h8, (fun h => by have := hD7 (by simpa using h); simpa using this), (fun h => by have := hD8 (by simpa using h); simpa using this), (fun h k => hN5_6 (by simpa using h) (by simpa using k)), hB⟩
    · skip
      have d3 := hdep _ rfl ⟨3, .data⟩ (by simp) rfl
      obtain rfl := h3 d3
      refine wpOp_stepZ rfl rfl (fun K' hK' => ?_)
      go_simp
      refine (Calls.mono (CD.out w' (ga.below hB)) ?_)
      rintro e W1 ⟨Xr, cr, rfl, kr, kb⟩
      refine hK' _ _ ?_
      exact ⟨_, _, _, _, _, _, _, rfl, kd h0, kp h1 (fun h => h.below kb), kd h2, kd h3, fun _ => ⟨Xr, cr, rfl, kr⟩, kp h5 (fun h => h.below kb), kp h6 (fun h => h.below kb), kp h7 (fun h => h.below kb), kp h8 (fun h => h.below kb), (fun h => by have := hD7 (by simpa using h); simpa using this), (fun h => by have := hD8 (by simpa using h); simpa using this), (fun h k => hN5_6 (by simpa using h) (by simpa using k)), Below.cons hB kb⟩
    · skip
      have kb : Below w'.heap.size w' (w'.alloc (.cells #[.bool false, .slice none 0 0] 24)) := (Below.refl _ _).alloc (Nat.le_refl _) _
      refine wpOp_stepZ rfl rfl (fun K' hK' => ?_)
      go_simp
      refine hK' _ _ ?_
      exact ⟨_, _, _, _, _, _, _, rfl, kd h0, kp h1 (fun h => h.below kb), kd h2, kd h3, kp h4 (fun h => h.below kb), fun _ => ⟨_, _, _, rfl, hB.size, ⟨at_new rfl⟩, notU_bool _, notU_slice _ _ _⟩, kp h6 (fun h => h.below kb), (fun h => by have h2 := hD7 (by simpa using h); rw [hEi] at h2; cases h2), kp h8 (fun h => h.below kb), (fun _ => by simp), (fun h => by have := hD8 (by simpa using h); simpa using this), (fun _ h => by obtain ⟨n2, e2, l2⟩ := (h6 (by simpa using h)).lt; rw [e2]; intro e3; simp at e3 <;> omega), Below.cons hB kb⟩
    · skip
      have kb : Below w'.heap.size w' (w'.alloc (.cells #[.bool false, .slice none 0 0] 24)) := (Below.refl _ _).alloc (Nat.le_refl _) _
      refine wpOp_stepZ rfl rfl (fun K' hK' => ?_)
      go_simp
      refine hK' _ _ ?_
      exact ⟨_, _, _, _, _, _, _, rfl, kd h0, kp h1 (fun h => h.below kb), kd h2, kd h3, kp h4 (fun h => h.below kb), kp h5 (fun h => h.below kb), fun _ => ⟨_, _, _, rfl, hB.size, ⟨at_new rfl⟩, notU_bool _, notU_slice _ _ _⟩, kp h7 (fun h => h.below kb), (fun h => by have h2 := hD8 (by simpa using h); rw [hEi] at h2; cases h2), (fun h => by have := hD7 (by simpa using h); simpa using this), (fun _ => by simp), (fun h _ => by obtain ⟨n2, e2, l2⟩ := (h5 (by simpa using h)).lt; rw [e2]; intro e3; simp at e3 <;> omega), Below.cons hB kb⟩
    · skip
      have d5 := hdep _ rfl ⟨5, .data⟩ (by simp) rfl
      obtain ⟨nb, z0, z1, rfl, hn, hb, nz0, nz1⟩ := h5 d5
      have d1 := hdep _ rfl ⟨1, .data⟩ (by simp) rfl
      obtain ⟨X_1, c_1, rfl, k_1⟩ := h1 d1
      have fz0 := hb.f (i := 0)
      have cz0 := hb.c (i := 0) rfl
      have fz1 := hb.f (i := 1)
      have cz1 := hb.c (i := 1) rfl
      have hp := hb.put2 (notU2 nz0 nz1) (.bool (sg n0)) (.slice X_1 (nl (mg n0)) c_1)
      have hs := hb.store2 (.bool (sg n0)) (.slice X_1 (nl (mg n0)) c_1)
      refine wpOp_stepZ rfl rfl (fun K' hK' => ?_)
      go_simp
      refine hK' _ _ ?_
      exact ⟨_, _, _, _, _, _, _, rfl, kd h0, kp h1 (fun h => h.put hp), kd h2, kd h3, kp h4 (fun h => h.put hp), (fun _ => ⟨nb, _, _, rfl, hn, hs, notU_bool _, notU_slice _ _ _⟩), keepP' (by decide) h6 (fun e h => h.put hp (fun e3 => hN5_6 d5 (by simpa using e) e3.symm)), fun _ => ⟨nb, X_1, c_1, rfl, hn, hs, hp.nat k_1⟩, keepP' (by decide) h8 (fun e h => h.put hp (fun e3 => hN5_6 d5 (hD8 (by simpa using e)) e3.symm)), (fun _ => by simp [d5]), (fun h => by have := hD8 (by simpa using h); simpa using this), (fun h k => hN5_6 (by simpa using h) (by simpa using k)), Below.store2 hB hn⟩
    · skip
      have d6 := hdep _ rfl ⟨6, .data⟩ (by simp) rfl
      obtain ⟨nb, z0, z1, rfl, hn, hb, nz0, nz1⟩ := h6 d6
      have d4 := hdep _ rfl ⟨4, .data⟩ (by simp) rfl
      obtain ⟨X_4, c_4, rfl, k_4⟩ := h4 d4
      have fz0 := hb.f (i := 0)
      have cz0 := hb.c (i := 0) rfl
      have fz1 := hb.f (i := 1)
      have cz1 := hb.c (i := 1) rfl
      have hp := hb.put2 (notU2 nz0 nz1) (.bool (sg d0)) (.slice X_4 (nl (mg d0)) c_4)
      have hs := hb.store2 (.bool (sg d0)) (.slice X_4 (nl (mg d0)) c_4)
      refine wpOp_stepZ rfl rfl (fun K' hK' => ?_)
      go_simp
      refine hK' _ _ ?_
      exact ⟨_, _, _, _, _, _, _, rfl, kd h0, kp h1 (fun h => h.put hp), kd h2, kd h3, kp h4 (fun h => h.put hp), keepP' (by decide) h5 (fun e h => h.put hp (hN5_6 (by simpa using e) d6)), (fun _ => ⟨nb, _, _, rfl, hn, hs, notU_bool _, notU_slice _ _ _⟩), keepP' (by decide) h7 (fun e h => h.put hp (hN5_6 (hD7 (by simpa using e)) d6)), fun _ => ⟨nb, X_4, c_4, rfl, hn, hs, hp.nat k_4⟩, (fun h => by have := hD7 (by simpa using h); simpa using this), (fun _ => by simp [d6]), (fun h k => hN5_6 (by simpa using h) (by simpa using k)), Below.store2 hB hn⟩
  case fin =>
    rintro E a' w' ⟨u8, u9, u10, u11, u12, u3, u4, rfl, h0, h1, h2, h3, h4, h5, h6, h7, h8, hD7, hD8, hN5_6, hB⟩ hall
    obtain ⟨nbn0, Xn0, cn0, rfl, hnn0, Rn0, hn0⟩ := h7 (hall 7 (by simp))
    obtain ⟨nbd0, Xd0, cd0, rfl, hnd0, Rd0, hd0⟩ := h8 (hall 8 (by simp))
    replace ha := ha.below hB
    replace ga := ga.below hB
    replace Ra := Ra.below hB
    replace qa0 := cbl hB qa0
    replace qa1 := cbl hB qa1
    replace qa2 := cbl hB qa2
    have HBT := hB
    have kvn0 := hnn0
    have qn00 := Rn0.c (i := 0) rfl
    have qn01 := Rn0.c (i := 1) rfl
    have kvd0 := hnd0
    have qd00 := Rd0.c (i := 0) rfl
    have qd01 := Rd0.c (i := 1) rfl
    have hnd : nbn0 ≠ nbd0 := fun e => hN5_6 (hall 5 (by simp)) (hall 6 (by simp)) (by rw [e])
    clear hall
    generalize hV1 : w' = V1 at *
    clear hV1
    obtain ⟨V0, EV0⟩ : ∃ V0 : Nat → Prop, V0 = fun k => W.heap.size ≤ k ∧ k < V1.heap.size := ⟨_, rfl⟩
    have J0 := HJd.out V0 [] W V1 (HJe.out _ V0 [] W H0.out (fun k h => by rw [EV0] at h; exact .inr h.1)) HBT
    have in0 : ∀ k, V0 k → W.heap.size ≤ k ∧ k < V1.heap.size := fun k h => by rw [EV0] at h; exact h
    have vn : V0 nbn0 := by rw [EV0]; exact ⟨kvn0, Rn0.lt⟩
    have vd : V0 nbd0 := by rw [EV0]; exact ⟨kvd0, Rd0.lt⟩
    have e0 : n0 = tmN 0 := ea.out
    have e1 : d0 = tmD 0 := by rw [Ed0.out, eb.out]; rfl
    rw [e0] at Rn0 hn0
    rw [e1] at Rd0 hd0
    have S0 : J V0 [] V1 ∧ BoxA V1 nbn0 24 #[.bool (sg (tmN 0)), .slice Xn0 (nl (mg (tmN 0))) cn0] ∧ BoxA V1 nbd0 24 #[.bool (sg (tmD 0)), .slice Xd0 (nl (mg (tmD 0))) cd0] ∧ NatV V1 Xn0 cn0 (mg (tmN 0)) ∧ NatV V1 Xd0 cd0 (mg (tmD 0)) ∧ (∀ k, V0 k → W.heap.size ≤ k ∧ k < V1.heap.size) ∧ V0 nbn0 ∧ V0 nbd0 := ⟨J0, Rn0, Rd0, hn0, hd0, in0, vn, vd⟩
    replace S0 := Lib.hid S0
    clear J0 Rn0 Rd0 hn0 hd0 qn00 qn01 qd00 qd01 qa0 qa1 qa2 Ra ha ga HBT e0 e1 EV0 in0 vn vd
    gi_wp2_with (fail)
    gi_loopw [5] (fun v5 wr => ∃ (V : Nat → Prop) (pre : List ItI) (nA : Option Addr) (nc : Nat) (dA : Option Addr) (dc : Nat) (x y : Int), x = tmN pre.length ∧ y = tmD pre.length ∧ pre.length ≤ 2 ∧ J V pre wr ∧ BoxA wr nbn0 24 #[.bool (sg x), .slice nA (nl (mg x)) nc] ∧ BoxA wr nbd0 24 #[.bool (sg y), .slice dA (nl (mg y)) dc] ∧ NatV wr nA nc (mg x) ∧ NatV wr dA dc (mg y) ∧ (∀ k, V k → W.heap.size ≤ k ∧ k < wr.heap.size) ∧ V nbn0 ∧ V nbd0) (fun v5 wr => natAt wr (wr.cell? ⟨nbd0, 1, none⟩))
    case atStart => exact ⟨_, [], _, _, _, _, _, _, rfl, rfl, by decide, S0.out⟩
    case round =>
      clear S0
      obtain ⟨V, pre, nA, nc, dA, dc, x, y, Ex, Ey, hp, hJ, Rn, Rd, hx, hy, hVin, vn, vd⟩ := hrel
      have cn0' := Rn.c (i := 0) rfl
      have cn1 := Rn.c (i := 1) rfl
      have cd0' := Rd.c (i := 0) rfl
      have cd1 := Rd.c (i := 1) rfl
      have cm : natAt wr (wr.cell? ⟨nbd0, 1, none⟩) = mg y := by rw [cd1]; exact hy.at_
      replace cm := Lib.hid cm
      by_cases hy0 : y = 0
      · skip
        have hl2 : pre.length = 2 := by rw [Ey] at hy0; rcases (show pre.length = 0 ∨ pre.length = 1 ∨ pre.length = 2 by omega) with h | h | h <;> rw [h] at hy0 <;> first | exact h | (exact absurd hy0 (by decide))
        have CS := isign_c dA dc y wr
        rw [show y.sign = 0 by rw [hy0]; rfl] at CS
        replace CS := Lib.hid (callsIn_wide.2 CS : CallsIn Fence.wide 2 _ _ _ _ _)
        replace hy0 := Lib.hid hy0
        replace hJ := Lib.hid hJ
        replace Ex := Lib.hid Ex
        replace Ey := Lib.hid Ey
        replace hl2 := Lib.hid hl2
        gi_wp2_with (refine ⟨trivial, ?_⟩; gi_at_call 77; (with_reducible refine (Hid.out CS).mono ?_); rintro e W2 ⟨rfl, hb2⟩)
        refine bodyPost_end (results_none rfl _ _ _) rfl ?_
        exact ⟨⟨_, rfl⟩, .inl ⟨V, pre, hl2.out, HJd.out _ _ _ _ hJ.out hb2⟩⟩
      · skip
        obtain ⟨q, Eq⟩ : ∃ q, q = tmQ pre.length := ⟨_, rfl⟩
        obtain ⟨r, Er⟩ : ∃ r, r = tmD (pre.length + 1) := ⟨_, rfl⟩
        have hl2 : pre.length < 2 := by rcases (show pre.length = 0 ∨ pre.length = 1 ∨ pre.length = 2 by omega) with h | h | h <;> first | omega | (exact absurd (by rw [Ey, h]; rfl) hy0)
        have hfacts : x / y = q ∧ x % y = r ∧ y.sign = 1 ∧ y = tmN (pre.length + 1) ∧ mg r < mg y := by rw [Ex, Ey, Eq, Er]; rcases (show pre.length = 0 ∨ pre.length = 1 by omega) with h | h <;> rw [h] <;> decide
        have lx : nl (mg x) ≤ 1048576 ∧ nl (mg y) ≤ 1048576 := by rw [Ex, Ey]; rcases (show pre.length = 0 ∨ pre.length = 1 by omega) with h | h <;> rw [h] <;> decide +kernel
        have CS := isign_c dA dc y wr
        rw [hfacts.2.2.1] at CS
        replace CS := Lib.hid (callsIn_wide.2 CS : CallsIn Fence.wide 2 _ _ _ _ _)
        have CD := fun (W : World) (h1 : NatV W nA nc (mg x)) (h2 : NatV W dA dc (mg y)) => idiv_c nA nc x dA dc y W h1 h2 lx.1 lx.2 hy0
        rw [hfacts.1, hfacts.2.1] at CD
        replace CD := Lib.hid CD
        replace hy0 := Lib.hid hy0
        replace hJ := Lib.hid hJ
        replace Ex := Lib.hid Ex
        replace Ey := Lib.hid Ey
        replace Eq := Lib.hid Eq
        replace Er := Lib.hid Er
        replace hl2 := Lib.hid hl2
        replace hfacts := Lib.hid hfacts
        clear lx
        gi_wp2_with (refine ⟨trivial, ?_⟩; gi_at_call 77; (with_reducible refine (Hid.out CS).mono ?_); rintro e W2 ⟨rfl, hb2⟩; have hx2 := hx.below hb2; have hy2 := hy.below hb2; have Rn2 := Rn.below hb2; have Rd2 := Rd.below hb2; have n20 := Rn2.c (i := 0) rfl; have n21 := Rn2.c (i := 1) rfl; have d20 := Rd2.c (i := 0) rfl; have d21 := Rd2.c (i := 1) rfl)
        refine ⟨trivial, ?_⟩
        refine (callsIn_wide.2 (CD.out W2 hx2 hy2)).mono ?_
        rintro e W3 ⟨Xq, cq, Xr, cr, rfl, hq, hr, hb3⟩
        have Rn3 := Rn2.below hb3
        have Rd3 := Rd2.below hb3
        have hy3 := hy2.below hb3
        have hb4 : Below W3.heap.size W3 ((W3.alloc (.cells #[.bool (sg q), .slice Xq (nl (mg q)) cq] 24)).alloc (.cells #[.bool (sg r), .slice Xr (nl (mg r)) cr] 24)) := Below.alloc (Below.alloc (Below.refl _ _) (Nat.le_refl _) _) (by simp <;> omega) _
        have Rq : BoxA ((W3.alloc (.cells #[.bool (sg q), .slice Xq (nl (mg q)) cq] 24)).alloc (.cells #[.bool (sg r), .slice Xr (nl (mg r)) cr] 24)) W3.heap.size 24 #[.bool (sg q), .slice Xq (nl (mg q)) cq] := ⟨at_old (by simp) (at_new rfl)⟩
        have Rr : BoxA ((W3.alloc (.cells #[.bool (sg q), .slice Xq (nl (mg q)) cq] 24)).alloc (.cells #[.bool (sg r), .slice Xr (nl (mg r)) cr] 24)) (W3.heap.size + 1) 24 #[.bool (sg r), .slice Xr (nl (mg r)) cr] := ⟨at_new (by simp)⟩
        obtain ⟨W4, EW4⟩ : ∃ W4, W4 = (W3.alloc (.cells #[.bool (sg q), .slice Xq (nl (mg q)) cq] 24)).alloc (.cells #[.bool (sg r), .slice Xr (nl (mg r)) cr] 24) := ⟨_, rfl⟩
        have s4 : W4.heap.size = W3.heap.size + 2 := by rw [EW4]; simp
        rw [← EW4] at hb4 Rq Rr
        obtain ⟨V', EV'⟩ : ∃ V' : Nat → Prop, V' = fun k => V k ∨ (W3.heap.size ≤ k ∧ k < W4.heap.size) := ⟨_, rfl⟩
        have hJ4 : J V' pre W4 := HJd.out V' pre _ _ (HJe.out V V' pre _ (HJd.out V pre _ _ (HJd.out V pre _ _ hJ.out hb2) hb3) (fun k h => by rw [EV'] at h; rcases h with h | h; exact .inl h; exact .inr h.1)) hb4
        have hin4 : ∀ k, V' k → W.heap.size ≤ k ∧ k < W4.heap.size := fun k h => by
          have h1 := hb2.size; have h2 := hb3.size; have h3 := hb4.size
          rw [EV'] at h
          rcases h with h | h
          · have := hVin k h; omega
          · have := hVin _ vn; omega
        have vn' : V' nbn0 := by rw [EV']; exact .inl vn
        have vd' : V' nbd0 := by rw [EV']; exact .inl vd
        have hne1 : nbn0 ≠ W3.heap.size + 1 := by have h1 := hb2.size; have h2 := hb3.size; have := (hVin _ vn).2; omega
        have hne2 : W3.heap.size + 1 ≠ nbn0 := fun e => hne1 e.symm
        have hnd2 : nbd0 ≠ nbn0 := fun e => hnd e.symm
        have vr' : V' (W3.heap.size + 1) := by rw [EV']; exact .inr (by omega)
        have hHx : TmH pre ⟨Xq, cq, q⟩ W4 := ⟨hq.below hb4, Eq.out, hl2.out⟩
        obtain ⟨fn, tmps, assign, body, hy_, hR⟩ := HY.out V' pre ⟨Xq, cq, q⟩ W4 hin4 hJ4 hHx
        simp only [ItI.enc] at hy_
        have q0 := Rq.c (i := 0) rfl
        have q1 := Rq.c (i := 1) rfl
        rw [EW4] at hy_ q0 q1
        have HR := Lib.hid (hR.mono (R' := fun e W' => ∃ t, e = .returned (.bool t) ∧ KpR V' W4 W' ∧ Hid ((t = true ∧ J V' (pre ++ [⟨Xq, cq, q⟩]) W') ∨ (t = false ∧ Jx (pre ++ [⟨Xq, cq, q⟩]) W'))) (by
          rintro e W' (⟨rfl, h1, h2⟩ | ⟨rfl, h1, h2⟩)
          · exact ⟨true, rfl, h2, Lib.hid (.inl ⟨rfl, h1⟩)⟩
          · exact ⟨false, rfl, h2, Lib.hid (.inr ⟨rfl, h1⟩)⟩))
        have Rn4 := Lib.hid (Rn3.below hb4)
        have Rd4 := Lib.hid (Rd3.below hb4)
        have hy4 := Lib.hid (hy3.below hb4)
        have hr4 := Lib.hid (hr.below hb4)
        replace Rr := Lib.hid Rr
        replace EV' := Lib.hid EV'
        replace hin4 := Lib.hid hin4
        replace s4 := Lib.hid s4
        replace hVin := Lib.hid hVin
        replace EW4 := Lib.hid EW4
        clear hR hJ4 hHx hJ n20 n21 d20 d21 cn0' cn1 cd0' cd1
        gi_wp2_with (fail)
        rw [← EW4.out]
        refine (Hid.out HR).mono ?_
        rintro e W5 ⟨t, rfl, K, ht⟩
        have Rn5 := Rn4.out.kpr K vn'
        have Rd5 := Rd4.out.kpr K vd'
        have Rr5 := Rr.out.kpr K vr'
        have hy5 := hy4.out.kpr K
        have hr5 := hr4.out.kpr K
        have n50 := Rn5.c (i := 0) rfl
        have n51 := Rn5.c (i := 1) rfl
        have d50 := Rd5.c (i := 0) rfl
        have d51 := Rd5.c (i := 1) rfl
        have r50 := Rr5.c (i := 0) rfl
        have r51 := Rr5.c (i := 1) rfl
        clear q0 q1
        cases t with
        | false =>
          obtain ⟨h, _⟩ | ⟨_, hx_⟩ := ht.out
          · cases h
          · replace hx_ := Lib.hid hx_
            gi_wp2_with (fail)
            refine bodyPost_ret (results_none rfl _ _ _) rfl ?_
            exact ⟨⟨_, rfl⟩, .inr ⟨_, trivial, hx_.out⟩⟩
        | true =>
          obtain ⟨_, hJ5⟩ | ⟨h, _⟩ := ht.out
          · replace hJ5 := Lib.hid hJ5
            have fn0 := Rn5.f (i := 0)
            have fn1 := Rn5.f (i := 1)
            have fd0 := Rd5.f (i := 0)
            have fd1 := Rd5.f (i := 1)
            gi_wp2_with (fail)
            gi_region
            gi_wp2_with (fail)
            go_roundw
            case rel =>
              have RnB : BoxA ((W5.setCell ⟨nbn0, 0, none⟩ (.bool (sg y))).setCell ⟨nbn0, 1, none⟩ (.slice dA (nl (mg y)) dc)) nbn0 24 #[.bool (sg y), .slice dA (nl (mg y)) dc] := Rn5.store2 _ _
              have RdA : BoxA ((W5.setCell ⟨nbn0, 0, none⟩ (.bool (sg y))).setCell ⟨nbn0, 1, none⟩ (.slice dA (nl (mg y)) dc)) nbd0 24 #[.bool (sg y), .slice dA (nl (mg y)) dc] := Rd5.other2 hnd2
              have RdB := RdA.store2 (.bool (sg r)) (.slice Xr (nl (mg r)) cr)
              have hyB := RdA.keep2 (v0 := .bool (sg r)) (v1 := .slice Xr (nl (mg r)) cr) (by intro u hu; simp at hu; rcases hu with rfl | rfl <;> first | exact notU_bool _ | exact notU_slice _ _ _) (Rn5.keep2 (v0 := .bool (sg y)) (v1 := .slice dA (nl (mg y)) dc) (by intro u hu; simp at hu; rcases hu with rfl | rfl <;> first | exact notU_bool _ | exact notU_slice _ _ _) hy5)
              have hrB := RdA.keep2 (v0 := .bool (sg r)) (v1 := .slice Xr (nl (mg r)) cr) (by intro u hu; simp at hu; rcases hu with rfl | rfl <;> first | exact notU_bool _ | exact notU_slice _ _ _) (Rn5.keep2 (v0 := .bool (sg y)) (v1 := .slice dA (nl (mg y)) dc) (by intro u hu; simp at hu; rcases hu with rfl | rfl <;> first | exact notU_bool _ | exact notU_slice _ _ _) hr5)
              have hJB := HJm.out V' _ _ _ hJ5.out (MvR.two Rn5 Rd5 hnd2 (by intro u hu; simp at hu; rcases hu with rfl | rfl <;> first | exact notU_bool _ | exact notU_slice _ _ _) (by intro u hu; simp at hu; rcases hu with rfl | rfl <;> first | exact notU_bool _ | exact notU_slice _ _ _) vn' vd' (hin4.out _ vn').1 (hin4.out _ vd').1 (v0 := .bool (sg y)) (v1 := .slice dA (nl (mg y)) dc) (w0 := .bool (sg r)) (w1 := .slice Xr (nl (mg r)) cr))
              have hBd : Below ((((W5.setCell ⟨nbn0, 0, none⟩ (.bool (sg y))).setCell ⟨nbn0, 1, none⟩ (.slice dA (nl (mg y)) dc)).setCell ⟨nbd0, 0, none⟩ (.bool (sg r))).setCell ⟨nbd0, 1, none⟩ (.slice Xr (nl (mg r)) cr)).heap.size ((((W5.setCell ⟨nbn0, 0, none⟩ (.bool (sg y))).setCell ⟨nbn0, 1, none⟩ (.slice dA (nl (mg y)) dc)).setCell ⟨nbd0, 0, none⟩ (.bool (sg r))).setCell ⟨nbd0, 1, none⟩ (.slice Xr (nl (mg r)) cr)) ((((W5.setCell ⟨nbn0, 0, none⟩ (.bool (sg y))).setCell ⟨nbn0, 1, none⟩ (.slice dA (nl (mg y)) dc)).setCell ⟨nbd0, 0, none⟩ (.bool (sg r))).setCell ⟨nbd0, 1, none⟩ (.slice Xr (nl (mg r)) cr)).drew := (Below.refl _ _).drew
              have hl := hl2.out
              refine ⟨V', pre ++ [⟨Xq, cq, q⟩], dA, dc, Xr, cr, y, r, ?_, ?_, ?_, HJd.out _ _ _ _ hJB hBd, (RnB.other2 hnd).below hBd, RdB.below hBd, hyB.below hBd, hrB.below hBd, fun k hk => ⟨(hin4.out k hk).1, ?_⟩, vn', vd'⟩
              · rw [List.length_append]; exact hfacts.out.2.2.2.1
              · rw [List.length_append]; exact Er.out
              · rw [List.length_append, List.length_singleton]; omega
              · have h1 := (hin4.out k hk).2
                have h2 := K.z
                have h3 : ((((W5.setCell ⟨nbn0, 0, none⟩ (.bool (sg y))).setCell ⟨nbn0, 1, none⟩ (.slice dA (nl (mg y)) dc)).setCell ⟨nbd0, 0, none⟩ (.bool (sg r))).setCell ⟨nbd0, 1, none⟩ (.slice Xr (nl (mg r)) cr)).drew.heap.size = W5.heap.size := by simp [World.setCell, World.drew]
                omega
            case measure =>
              have RdA : BoxA ((W5.setCell ⟨nbn0, 0, none⟩ (.bool (sg y))).setCell ⟨nbn0, 1, none⟩ (.slice dA (nl (mg y)) dc)) nbd0 24 #[.bool (sg y), .slice dA (nl (mg y)) dc] := Rd5.other2 hnd2
              have RdB := (RdA.store2 (.bool (sg r)) (.slice Xr (nl (mg r)) cr)).below (Below.refl _ _).drew
              have hrB := (RdA.keep2 (v0 := .bool (sg r)) (v1 := .slice Xr (nl (mg r)) cr) (by intro u hu; simp at hu; rcases hu with rfl | rfl <;> first | exact notU_bool _ | exact notU_slice _ _ _) (Rn5.keep2 (v0 := .bool (sg y)) (v1 := .slice dA (nl (mg y)) dc) (by intro u hu; simp at hu; rcases hu with rfl | rfl <;> first | exact notU_bool _ | exact notU_slice _ _ _) hr5)).below (Below.refl _ _).drew
              rw [cm.out, RdB.c (i := 1) rfl]
              exact Nat.lt_of_le_of_lt (Nat.le_of_eq hrB.at_) hfacts.out.2.2.2.2
          · cases h
        
end Go.Proofs.YtopigejgadnkaaaGreatDoor

namespace Go.Proofs.YtopigejgadnkaaaGreatDoor
open Go.RowKit Go.Shelf
attribute [local go_sem] max2_i min2_i max_two min_two

attribute [local go_sem] Oper.semAt_some
theorem below_grownZ {W W' : World} (hb : Below W.heap.size W W') : W.grownBy W' none := ⟨hb.os, hb.tape, hb.output, hb.size, fun k hk _ => hb.block k hk⟩
theorem terms_seq (k : Nat) (aA : Option Addr) (ac : Nat) (aB : Option Addr) (ad : Nat) (a : Rat) (w : World) (ea : a.num = -17) (eb : a.den = 9) (ha : NatV w aA ac (mg a.num)) (ga : NatV w aB ad a.den) (Ra : BoxA w k 26 #[.bool (sg a.num), .slice aA (nl (mg a.num)) ac, .slice aB (nl a.den) ad]) :
    SeqZ Fence.wide 3 Tryz.prog 113 #[.pointer (some ⟨k, 0, none⟩)] ItI.enc TmH KpR TmS (fun _ _ => True) w := by
  intro l J Jx W hW hJ hJx hJe hJm hY h0
  exact terms1_in l k aA ac aB ad a W J Jx ea eb (ha.below hW) (ga.below hW) ⟨heap_below hW Ra.at_⟩ (fun V pre W1 W2 h hb => hJ V pre W1 W2 none h (below_grownZ hb) (fun r e => by cases e)) hJe hJm hY h0
theorem own_tmH (n : Nat) : OwnFrom n (fun (p : List ItI × ItI) W => TmH p.1 p.2 W) := fun s W W' row hs hg hr => ⟨hs.1.kept hg (fun r e => (hr r e).2), hs.2⟩
theorem own_sizeZ (k n : Nat) : OwnFrom n (fun (_ : List ItI) W => k ≤ W.heap.size) := fun s W W' row hs hg _ => Nat.le_trans hs hg.size
theorem set1Z {W : World} {k : Nat} {t : TypeId} {u v : Value} (h : BoxA W k t #[u]) : BoxA (W.setCell ⟨k, 0, none⟩ v) k t #[v] := ⟨by have := heap_setCell_same W k 0 _ _ v h.at_; simpa using this⟩
theorem size1Z {W : World} {k : Nat} {v : Value} : (W.setCell ⟨k, 0, none⟩ v).heap.size = W.heap.size := by simp [World.setCell]
theorem nu1Z {u : Value} (h : NotU u) : ∀ v ∈ (#[u] : Array Value).toList, NotU v := by intro v hv; simp at hv; subst hv; exact h
theorem KpR.ofB {V : Nat → Prop} {W W' : World} (hb : Below W.heap.size W W') : KpR V W W' := ⟨hb.size, fun p x e => cell_below hb e, fun k _ o _ e => heap_below hb e⟩
theorem KpR.far {V : Nat → Prop} {W W' : World} {k : Nat} {t : TypeId} {us : Array Value} (h : BoxA W k t us) (hu : ∀ u ∈ us.toList, NotU u) (hz : W'.heap.size = W.heap.size) (hW : ∀ j, j ≠ k → W'.heap[j]? = W.heap[j]?) (hv : ¬ V k) : KpR V W W' :=
  ⟨Nat.le_of_eq hz.symm, (kpu_far (Ba := k + 1) (Bb := k + 1) h hu hW (by omega) (by omega)).u, fun j hj o _ e => (hW j (fun e2 => hv (e2 ▸ hj))).trans e⟩
theorem NatV.mvr {lo : Nat} {V : Nat → Prop} {W W' : World} {A : Option Addr} {c n : Nat} (h : NatV W A c n) (hm : MvR lo V W W') : NatV W' A c n :=
  NatV.kpr (V := fun _ => False) h ⟨hm.size, hm.u, fun _ hk => hk.elim⟩
def TmI (s : Nat) (V : Nat → Prop) (pre : List ItI) (W : World) : Prop := ∃ v, BoxA W s 46 #[v] ∧ NotU v ∧ GrowP W (s + 1) ((List.range pre.length).map tmQ) v ∧ (∀ g, v.ownBlock = some g → ¬ V g ∧ g < W.heap.size)
theorem TmI.move {s : Nat} {V V' : Nat → Prop} {pre : List ItI} {W W' : World} (h : TmI s V pre W) (hs : ∀ o, o.isCells = true → W.heap[s]? = some o → W'.heap[s]? = some o) (hk : ∀ g o, s + 1 ≤ g → ¬ V g → W.heap[g]? = some o → o.isCells = true → W'.heap[g]? = some o) (hN : ∀ (A : Option Addr) (c n : Nat), NatV W A c n → NatV W' A c n) (hz : W.heap.size ≤ W'.heap.size) (hV : ∀ k, V' k → V k ∨ W.heap.size ≤ k) : TmI s V' pre W' := by
  obtain ⟨v, h1, h2, ⟨cs, h3, h4, h5⟩, h6⟩ := h
  refine ⟨v, ⟨hs _ rfl h1.at_⟩, h2, ⟨cs, own_same h3 (fun g o hg ho hc => hk g o (own_base h3 hg) (h6 g hg).1 ho hc), h4.same (fun g o hg ho hc => hk g o (own_base h3 hg) (h6 g hg).1 ho hc), fun j hj => ?_⟩, fun g hg => ⟨fun hv => ?_, Nat.lt_of_lt_of_le (h6 g hg).2 hz⟩⟩
  · obtain ⟨X, d, k1, k2, k3⟩ := h5 j hj
    exact ⟨X, d, k1, k2, hN _ _ _ k3⟩
  · rcases hV g hv with h | h
    · exact (h6 g hg).1 h
    · have := (h6 g hg).2; omega
theorem run_append_own {P : Program} (w : World) (base : Nat) (t ty e : TypeId) (i : TypeInfo) (z : Value) (size bytes : Nat) (ht : P.underlying t = some (.slice e)) (hi : P.info? e = some i) (hz : i.zero = some z)
    (hsize : i.size = size) (hby : i.bytes = bytes) (hzs : z.cells.size = size) (hsz : 0 < size)
    (v : Value) (n : Nat) (xs : List Value) (hown : w.ownsRow base e size v n xs)
    (a : Addr) (m c : Nat) (news : List Value) (hl : news.length = m * size) (hnews : ∀ j u, news[j]? = some u → w.cell? (a.add j) = some u) (h1 : ∀ u ∈ news, u.oneCell' = true)
    (h63 : n + m ≤ maxLen) (hbytes : (n + m) * bytes ≤ 140737488355328) (hbase : base ≤ w.heap.size) (hm : 0 < m)
    (hv : NU w v) (hzn : ∀ u ∈ z.cells.toList, NotU u) (hnn : ∀ u ∈ news, NotU u) :
    ∃ v' w', (Builtin.append_ #[t, t] ty #[v, .slice (some a) m c]).run P w = .ok v' w' ∧ w'.ownsRow base e size v' (n + m) (xs ++ news) ∧ w.grownBy w' v.ownBlock ∧ NU w' v' ∧ (v'.ownBlock = v.ownBlock ∨ v'.ownBlock = some w.heap.size) := by
  subst hsize
  subst hby
  have hsmall : n + m ≤ 9223372036854775807 := by simp only [maxLen] at h63; omega
  have hlen : (xs ++ news).length = (n + m) * i.size := by rw [List.length_append, hown.1, hl, Nat.add_mul]
  have hxs : ∀ u ∈ xs, NotU u := by
    rcases hown.2 with ⟨_, h2⟩ | ⟨g, cap, cur, rfl, _, hg, _, _, _, htake⟩
    · have hx : xs = [] := List.eq_nil_of_length_eq_zero (by rw [hown.1, h2, Nat.zero_mul])
      rw [hx]; intro u hu; cases hu
    · obtain ⟨cur', e', h1', h2'⟩ := hv g rfl
      rw [hg] at h1'; cases h1'
      intro u hu
      rw [← htake] at hu
      exact h2' u (List.mem_of_mem_take hu)
  have grown : ∀ (old : Nat), old < n + m → ∀ (row : Option Nat),
      (w.drew.alloc (.cells (xs.toArray ++ news.toArray ++ Builtin.zeroCells z.cells (grownCap w (n + m) old e - (n + m))) e)).ownsRow base e i.size
        (.slice (some ⟨w.heap.size, 0, none⟩) (n + m) (grownCap w (n + m) old e)) (n + m) (xs ++ news) ∧
      w.grownBy (w.drew.alloc (.cells (xs.toArray ++ news.toArray ++ Builtin.zeroCells z.cells (grownCap w (n + m) old e - (n + m))) e)) row ∧
      NU (w.drew.alloc (.cells (xs.toArray ++ news.toArray ++ Builtin.zeroCells z.cells (grownCap w (n + m) old e - (n + m))) e)) (.slice (some ⟨w.heap.size, 0, none⟩) (n + m) (grownCap w (n + m) old e)) := by
    intro old ho row
    have hge := grownCap_ge w (n + m) old e
    have hcm : grownCap w (n + m) old e ≤ maxLen := grownCap_le_maxLen w (n + m) old e h63
    refine ⟨⟨hlen, .inr ⟨w.heap.size, _, _, rfl, hbase, heap_alloc_new w.drew _, hge, hcm, ?_, ?_⟩⟩, ⟨rfl, rfl, rfl, by simp, fun k hk _ => at_old (W := w.drew) hk rfl⟩, ?_⟩
    · simp only [Array.size_append, List.size_toArray, size_zeroCells, hzs, hown.1, hl, ← Nat.add_mul]
      congr 1
      omega
    · simp only [Array.toList_append, List.append_assoc]
      rw [← List.append_assoc, ← hlen]
      exact List.take_left
    · intro g hg
      have hgg : g = w.heap.size := by simpa [Value.ownBlock] using hg.symm
      subst hgg
      refine ⟨_, _, heap_alloc_new w.drew _, ?_⟩
      intro u hu
      simp only [Array.toList_append, List.mem_append] at hu
      rcases hu with (hu | hu) | hu
      · exact hxs u (by simpa using hu)
      · exact hnn u (by simpa using hu)
      · exact hzn u (mem_zero (by omega) hu)
  rcases hown.2 with ⟨rfl, rfl⟩ | ⟨g, cap, cur, rfl, hbg, hg, hnc, hcm, hcs, htake⟩
  · have hx : xs = [] := List.eq_nil_of_length_eq_zero (by simpa using hown.1)
    subst hx
    have hr := run_append_nil (P := P) w t ty e i z ht hi hz a m c news hl hnews (by omega) (by omega) (by have hb := hbytes; simp only [Nat.zero_add] at hb; omega)
    have hgr := grown 0 (by omega) (Value.ownBlock (.slice none 0 0))
    simp only [Nat.zero_add, List.nil_append, Array.empty_append] at hgr ⊢
    exact ⟨_, _, hr, hgr.1, hgr.2.1, hgr.2.2, .inr rfl⟩
  · by_cases hroom : n + m ≤ cap
    · have hfit : n * i.size + news.length ≤ cur.size := by rw [hl, hcs, ← Nat.add_mul]; exact Nat.mul_le_mul_right _ hroom
      have hr := run_append_room (P := P) w t ty e i ht hi g n cap cur hg a m c news hl hnews h1 hroom hfit
      refine ⟨_, _, hr, ⟨hlen, .inr ⟨g, cap, _, rfl, hbg, setRow_heap w g cur _ e _ hg, hroom, hcm, ?_, ?_⟩⟩, ⟨rfl, rfl, rfl, by simp, fun k _ hk => setRow_other w g k _ (fun e => hk (by simp [Value.ownBlock, e]))⟩, ?_, .inl rfl⟩
      · simp only [List.size_toArray, List.length_append, List.length_take, List.length_drop, Array.length_toList]
        omega
      · rw [htake, ← hlen]
        exact List.take_left
      · intro g' hg'
        have hgg : g' = g := by simpa [Value.ownBlock] using hg'.symm
        subst hgg
        refine ⟨_, _, setRow_heap w g' cur _ e _ hg, ?_⟩
        obtain ⟨cur', e', h1', h2'⟩ := hv g' rfl
        rw [hg] at h1'; cases h1'
        intro u hu
        simp only [List.mem_append] at hu
        rcases hu with (hu | hu) | hu
        · exact h2' u (List.mem_of_mem_take hu)
        · exact hnn u hu
        · exact h2' u (List.mem_of_mem_drop hu)
    · have holds : ∀ j u, xs[j]? = some u → w.cell? ((⟨g, 0, none⟩ : Addr).add j) = some u := hown.cells (g := g) rfl
      have hr := run_append_grow (P := P) w t ty e i z ht hi hz ⟨g, 0, none⟩ n cap xs hown.1 holds a m c news hl hnews (by omega) (by omega) (growslice_fits (by omega) hbytes)
      have hgr := grown cap (by omega) (Value.ownBlock (.slice (some ⟨g, 0, none⟩) n cap))
      exact ⟨_, _, hr, hgr.1, hgr.2.1, hgr.2.2, .inr rfl⟩
theorem wpListIn_append_own {F : Fence} {n : Nat} {P : Program} (w : World) {ops : Array Oper} {rest : List Oper} {o : Oper} {a : Act} {Q : Exit → Act → World → Prop}
    (hg : o.guard = none) (s x : Operand) (t : TypeId) (hop : o.op = Op.call { callee := Callee.builtin Builtin.append, args := #[s, x], argTypes := #[t, t] })
    (base : Nat) (e : TypeId) (i : TypeInfo) (z : Value) (size bytes : Nat) (h1 : P.underlying t = some (.slice e)) (h2 : P.info? e = some i) (h3 : i.zero = some z) (h4 : i.size = size) (h5 : i.bytes = bytes) (h6 : z.cells.size = size) (h7 : 0 < size)
    (v : Value) (k : Nat) (xs : List Value) (hs : a.eval s = v) (hown : w.ownsRow base e size v k xs) (ad : Addr) (m c : Nat) (news : List Value) (hx : a.eval x = .slice (some ad) m c) (hn : news.length = m * size)
    (hc : ∀ j u, news[j]? = some u → w.cell? (ad.add j) = some u) (h1c : ∀ u ∈ news, u.oneCell' = true) (b1 : k + m ≤ maxLen) (b2 : (k + m) * bytes ≤ 140737488355328) (b3 : base ≤ w.heap.size) (hm : 0 < m)
    (hv : NU w v) (hzn : ∀ u ∈ z.cells.toList, NotU u) (hnn : ∀ u ∈ news, NotU u)
    (hK : ∀ v' w', w'.ownsRow base e size v' (k + m) (xs ++ news) → w.grownBy w' v.ownBlock → NU w' v' → (v'.ownBlock = v.ownBlock ∨ v'.ownBlock = some w.heap.size) → wpListIn F n P ops Q rest (a.put o.dst v') w') :
    wpListIn F n P ops Q (o :: rest) a w := by
  refine wpListIn_plain hg fun K hK' => ?_
  obtain ⟨v', w', hrun, r1, r2, r3, r4⟩ := run_append_own (P := P) w base t o.type e i z size bytes h1 h2 h3 h4 h5 h6 h7 v k xs hown ad m c news hn hc h1c b1 b2 b3 hm hv hzn hnn
  unfold Oper.wpIn
  refine ⟨?_, ?_⟩
  · simp [Oper.about, hop, resolve, Target.leads, Sem.run_pure]
  · rw [Oper.semAt_plain F _ _ (by rw [hop]; intro c hc'; cases hc')]
    simp [execOp, hop, resolve, invoke, builtin, hs, hx, hrun, Result.andThen]
    exact hK' _ _ (hK v' w' r1 r2 r3 r4)
theorem appendSeq_c (kb : Nat) (aA : Option Addr) (ac : Nat) (aB : Option Addr) (ad : Nat) (a : Rat) (w : World) (ea : a.num = -17) (eb : a.den = 9) (ha : NatV w aA ac (mg a.num)) (ga : NatV w aB ad a.den) (Ra : BoxA w kb 26 #[.bool (sg a.num), .slice aA (nl (mg a.num)) ac, .slice aB (nl a.den) ad]) :
    Calls Tryz.prog 112 #[.slice none 0 0, .func (.func 113) #[] #[.pointer (some ⟨kb, 0, none⟩)]] w (RetC w [-2, 9]) := by
  refine (callsIn_wide (n := 4)).1 ?_
  obtain ⟨i0, hi0, hz00, hz01, hz02⟩ := info_parts info_int
  refine callsIn_of_wp_marks Tryz.func112 rfl trivial ?_ rfl
  simp only [Tryz.ntmps112, List.size_toArray, List.length_cons, List.length_nil, Nat.reduceAdd, Nat.reduceSub, Array.replicate_succ, Array.replicate_zero, List.push_toArray, List.append_toArray, List.nil_append, List.cons_append]
  gi_wp2_with (fail)
  obtain ⟨s, hs0⟩ : ∃ s, s = w.heap.size := ⟨_, rfl⟩
  obtain ⟨W8, hW8⟩ : ∃ W8, (w.alloc (.cells #[.slice none 0 0] 46)) = W8 := ⟨_, rfl⟩
  have bO : BoxA W8 s 46 #[.slice none 0 0] := by subst hs0 hW8; exact ⟨at_new rfl⟩
  have hsz : W8.heap.size = s + 1 := by subst hs0 hW8; simp
  have hB0 : Below s w W8 := by subst hs0 hW8; exact (Below.refl _ w).alloc (Nat.le_refl _) _
  have hA8 := ha.below (hs0 ▸ hB0)
  have hG8 := ga.below (hs0 ▸ hB0)
  have hR8 := Ra.below (hs0 ▸ hB0)
  rw [← hs0]
  rw [hW8]
  clear hW8
  have HS := Lib.hid hs0
  clear hs0
  refine wpIn_rangeZ (w0 := W8) rfl (by omega) (gf := 113) (lb := #[.pointer (some ⟨kb, 0, none⟩)]) rfl trivial (enters_of Tryz.func113 (by kernel_rfl) rfl)
    (terms_seq kb aA ac aB ad a W8 ea eb hA8 hG8 hR8) KpR.t (fun V W l o o' h1 h2 h3 h4 => KpR.bk V W l o o' h2 h3) (Below.refl _ _) (fun _ => rfl) (own_tmH _) (fun _ _ _ _ h _ _ => h) (fun _ _ _ _ h _ _ => h)
    (fun V pre W => TmI s V pre W ∧ Below s w W ∧ s + 1 ≤ W.heap.size) (fun _ _ _ => False)
    ?own ?ext (fun _ _ _ _ _ hs _ _ => hs) ?mv ?start
    (fun x b => { tmps := #[.slice none 0 0, .func (.func 113) #[] #[.pointer (some ⟨kb, 0, none⟩)], .pointer (some ⟨s, 0, none⟩), undef, .slice none 0 0, .pointer (some ⟨b, 0, none⟩), .func (.func 113) #[] #[.pointer (some ⟨kb, 0, none⟩)], .agg #[.bool (sg x.z), .slice x.A (nl (mg x.z)) x.c], undef, undef, undef, undef, undef], defers := [] }) (fun x => .cells #[.bool (sg x.z), .slice x.A (nl (mg x.z)) x.c] 24) (fun _ => rfl) (fun V W o => KpR.ofB ((Below.refl _ _).alloc (Nat.le_refl _) _)) ?assign ?body ?done ?stop
  case own =>
    intro V
    refine OwnFrom.and ?_ (OwnFrom.and (ownFrom_below (Nat.le_of_eq HS.out) (by omega)) (own_sizeZ _ _))
    intro xs W W' row h hg hr
    have hr2 : ∀ r, row = some r → ∃ o : Obj, W.heap[r]? = some o ∧ o.isCells = false := fun r e => (hr r e).2
    have key : ∀ (g : Nat) (o : Obj), W.heap[g]? = some o → o.isCells = true → W'.heap[g]? = some o := fun g o ho hc =>
      (hg.block g (Array.getElem?_eq_some_iff.1 ho).1 (fun e => by obtain ⟨o', h2, h3⟩ := hr2 g e.symm; rw [ho] at h2; cases h2; rw [hc] at h3; cases h3)).trans ho
    exact h.move (fun o hc ho => key s o ho hc) (fun g o _ _ ho hc => key g o ho hc) (fun A c n hN => hN.kept hg hr2) hg.size (fun k hk => .inl hk)
  case ext =>
    rintro V V' x A ⟨h1, h2, h3⟩ hv
    exact ⟨h1.move (fun _ _ h => h) (fun _ _ _ _ h _ => h) (fun _ _ _ h => h) (Nat.le_refl _) hv, h2, h3⟩
  case mv =>
    rintro V x Y Z ⟨h1, h2, h3⟩ hm
    exact ⟨h1.move (fun o _ ho => (hm.block s (.inl (by omega))).trans ho) (fun g o hg hv ho _ => (hm.block g (.inr hv)).trans ho) (fun A c n hN => hN.mvr hm) hm.size (fun k hk => .inl hk), h2.trans ⟨hm.os, hm.tape, hm.output, hm.size, fun k hk => hm.block k (.inl (by omega))⟩, Nat.le_trans h3 hm.size⟩
  case start => exact ⟨⟨.slice none 0 0, bO, notU_slice _ _ _, ⟨[], World.ownsRow_nil _ _ _ _, nu_none _ _ _, fun j hj => absurd hj (Nat.not_lt_zero j)⟩, fun g hg => by simp [Value.ownBlock] at hg⟩, hB0, by omega⟩
  case assign =>
    intro l x W K hK
    simp only [ItI.enc]
    gi_wp2
    exact hK
  case stop =>
    rintro D cc pre W hD hP h hK
    exact h.elim
  case done =>
    rintro D V ys W hD hl ⟨⟨v, hO, hnv, hG, _⟩, hB, hs3⟩ hK
    have e2 : (List.range ys.length).map tmQ = [-2, 9] := by rw [show ys.length = 2 from hl]; rfl
    rw [e2] at hG
    obtain ⟨cs, g1, g2, g3⟩ := hG
    obtain ⟨g, cap, cur, rfl, e1, e3, e4, e5, e6, e7, e8⟩ := enc_own g1 rfl (by decide) g2 g3
    have qO := hO.c (i := 0) rfl
    gi_wp2_with (fail)
    have hg := grownBy_putObj' W D (.deferred none)
    have hr : ∀ r, some D = some r → ∃ o : Obj, W.heap[r]? = some o ∧ o.isCells = false := fun r e => by cases e; exact ⟨_, hK, rfl⟩
    have hp : Below s w (W.putObj D (.deferred none)) := hB.trans (belowK_b (w := W8) (by omega) W D _ _ hD hK rfl rfl)
    refine ⟨by simp, .inl ⟨_, _, rfl, run_takeDeferred hK, ?_⟩⟩
    refine ⟨_, results_tmp rfl _ _ _, ?_⟩
    exact ⟨g, cap, cur, rfl, by have := HS.out; omega, e3.kept hg hr, e4, e5.map (fun A c n hN => hN.kept hg hr), e6, e7, e8, hp.mono (Nat.le_of_eq HS.out.symm)⟩
  case body =>
    rintro l V pre ⟨XA, xc, z⟩ W hV ⟨⟨v, hO, hnv, hG, hgV⟩, hB, hs1⟩ ⟨hX, hz, hlt⟩ b hvb hnb_ hbl
    simp only at hX hz hvb
    have Rb : BoxA W b 24 #[.bool (sg z), .slice XA (nl (mg z)) xc] := ⟨hvb⟩
    obtain ⟨W3, hW3⟩ : ∃ W3, W3 = W.alloc (.cells #[.bool (sg z), .slice XA (nl (mg z)) xc] 24) := ⟨_, rfl⟩
    have hb3 : Below W.heap.size W W3 := by rw [hW3]; exact (Below.refl _ _).alloc (Nat.le_refl _) _
    have hnew : BoxA W3 W.heap.size 24 #[.bool (sg z), .slice XA (nl (mg z)) xc] := by rw [hW3]; exact ⟨at_new rfl⟩
    have hz3 : W3.heap.size = W.heap.size + 1 := by rw [hW3]; simp
    have hO3 := hO.below hb3
    have hX3 := hX.below hb3
    have hB3 : Below s w W3 := hB.trans (hb3.mono (by omega))
    obtain ⟨cs, k1, k2, k3⟩ := hG.below hb3
    have hpl : ((List.range pre.length).map tmQ).length = pre.length := by simp
    have hnews : ∀ j u, ([.bool (sg z), .slice XA (nl (mg z)) xc] : List Value)[j]? = some u → W3.cell? ((⟨W.heap.size, 0, none⟩ : Addr).add j) = some u := fun j u hu => by rw [addr_at]; exact hnew.c (by simpa using hu)
    have HX : ∀ (v' : Value) (w' : World), w'.ownsRow (s + 1) 24 2 v' (pre.length + 1) (cs ++ [.bool (sg z), .slice XA (nl (mg z)) xc]) → W3.grownBy w' v.ownBlock → NU w' v' → (v'.ownBlock = v.ownBlock ∨ v'.ownBlock = some W3.heap.size) → BoxA w' s 46 #[v] ∧ KeepsOthers W (w'.setCell ⟨s, 0, none⟩ v') ∧ KpR V W (w'.setCell ⟨s, 0, none⟩ v') ∧ TmI s V (pre ++ [(⟨XA, xc, z⟩ : ItI)]) (w'.setCell ⟨s, 0, none⟩ v') ∧ Below s w (w'.setCell ⟨s, 0, none⟩ v') ∧ s + 1 ≤ (w'.setCell ⟨s, 0, none⟩ v').heap.size := by
      intro v' w' ho hg hn hv'
      have hgs : ∀ g, v.ownBlock = some g → s + 1 ≤ g := fun g h => own_base k1 h
      have hnb : ∀ k, k < s + 1 → some k ≠ v.ownBlock := fun k hk e => by have := hgs k e.symm; omega
      have hOw : BoxA w' s 46 #[v] := ⟨(hg.block s hO3.lt (hnb s (by omega))).trans hO3.at_⟩
      have hnv' : NotU v' := by
        rcases ho.2 with ⟨rfl, _⟩ | ⟨g, cap, cur, rfl, _⟩ <;> exact notU_slice _ _ _
      have hf : ∀ j, j ≠ s → (w'.setCell ⟨s, 0, none⟩ v').heap[j]? = w'.heap[j]? := fun j hj => Below.heap_setCell _ _ _ _ (by simpa using hj)
      have ko1 : KeepsOthers W3 w' := KeepsOthers.of_grownBy hg (fun j o hj ho' => by
        obtain ⟨cur, e, h1, _⟩ := k2 j hj
        rw [ho'] at h1; cases h1; rfl)
      have hsV : ¬ V s := fun h => by have := (hV s h).1; omega
      have kp1 : KpR V W3 w' := ⟨hg.size, u_grown k2 hg, fun k hk o _ e => (hg.block k (Array.getElem?_eq_some_iff.1 e).1 (fun e2 => (hgV k e2.symm).1 hk)).trans e⟩
      have kk : KpR V W (w'.setCell ⟨s, 0, none⟩ v') := (KpR.ofB hb3).t (kp1.t (KpR.far hOw (nu1Z hnv) size1Z hf hsV))
      have hG2 : GrowP w' (s + 1) ((List.range (pre ++ [(⟨XA, xc, z⟩ : ItI)]).length).map tmQ) v' := by
        have e : (List.range (pre ++ [(⟨XA, xc, z⟩ : ItI)]).length).map tmQ = (List.range pre.length).map tmQ ++ [z] := by
          rw [List.length_append, List.length_singleton, List.range_succ, List.map_append, hz]; rfl
        rw [e]
        exact growP_next k1 k2 k3 hX3 (by rw [hpl]; exact ho) hg hn
      have hg' : Below s w w' := hB3.trans ⟨hg.os, hg.tape, hg.output, hg.size, fun k hk => hg.block k (by omega) (hnb k (by omega))⟩
      refine ⟨hOw, (ko_below hb3).trans (ko1.trans (ko_far hOw size1Z hf)), kk, ?_, hg'.setCell (p := ⟨s, 0, none⟩) (Nat.le_refl _) _, by rw [size1Z]; have := hg.size; omega⟩
      obtain ⟨cs2, m1, m2, m3⟩ := hG2
      refine ⟨v', set1Z hOw, hnv', ⟨cs2, own_same m1 (fun g o hgo ho' _ => (hf g (by have := own_base ho hgo; omega)).trans ho'), m2.same (fun g o hgo ho' _ => (hf g (by have := own_base ho hgo; omega)).trans ho'), fun j hj => ?_⟩, fun g hgo => ⟨fun hVg => ?_, ?_⟩⟩
      · obtain ⟨X, d, q1, q2, q3⟩ := m3 j hj
        exact ⟨X, d, q1, q2, q3.kpr (KpR.far (V := fun _ => False) hOw (nu1Z hnv) size1Z hf (fun h => h))⟩
      · rcases hv' with h | h
        · exact (hgV g (h ▸ hgo)).1 hVg
        · rw [h] at hgo; cases hgo; have := (hV _ hVg).2; omega
      · rw [size1Z]; obtain ⟨cur, e, h1, _⟩ := hn g hgo; exact (Array.getElem?_eq_some_iff.1 h1).1
    rw [hpl] at k1
    have hk63 : pre.length + 1 ≤ maxLen := by simp only [maxLen]; omega
    have hkby : (pre.length + 1) * 32 ≤ 140737488355328 := by omega
    have cO := hO.c (i := 0) rfl
    replace HX := Lib.hid HX
    have hW3' : W3.heap.size = W.heap.size + 1 := hz3
    have hs3 : s + 1 ≤ W3.heap.size := by omega
    have hO3' := hO3.c (i := 0) rfl
    have qb0 := Rb.c (i := 0) rfl
    have qb1 := Rb.c (i := 1) rfl
    rw [hW3] at hO3'
    clear hvb hnb_ hbl Rb hO3 hX3 hb3 hO hG hB hB3 hX k3 hgV hnew hz3 hW3'
    replace hV := Lib.hid hV
    replace hz := Lib.hid hz
    replace hs1 := Lib.hid hs1
    gi_wp2_with (gi_at_builtin; rw [← hW3]; refine wpListIn_append_own _ rfl (.tmp 8) (.tmp 10) 46 rfl (s + 1) 24 i0 (.agg #[.bool false, .slice none 0 0]) 2 32 Tryz.underlying46 hi0 hz00 hz01 hz02 rfl (by decide) v pre.length cs rfl k1 ⟨W.heap.size, 0, none⟩ 1 1 [.bool (sg z), .slice XA (nl (mg z)) xc] rfl rfl hnews (by intro u hu; simp at hu; rcases hu with rfl | rfl <;> rfl) hk63 hkby hs3 (by decide) k2 (by intro u hu; simp [Value.cells] at hu; rcases hu with rfl | rfl <;> first | exact notU_bool _ | exact notU_slice _ _ _) (by intro u hu; simp at hu; rcases hu with rfl | rfl <;> first | exact notU_bool _ | exact notU_slice _ _ _) ?_; intro v' w' hn1 hn2 hn3 hn4; obtain ⟨VV, cV, rfl⟩ := own_shape hn1; obtain ⟨x2, x3⟩ := HX.out _ w' hn1 hn2 hn3 hn4; have cz0 := x2.c (i := 0) rfl; have fz0 := x2.f (i := 0))
    exact x3
end Go.Proofs.YtopigejgadnkaaaGreatDoor

namespace Go.Proofs.YtopigejgadnkaaaGreatDoor
open Go.RowKit Go.Shelf
attribute [local go_sem] max2_i min2_i max_two min_two

theorem collect_c (kb : Nat) (aA : Option Addr) (ac : Nat) (aB : Option Addr) (ad : Nat) (a : Rat) (w : World) (ea : a.num = -17) (eb : a.den = 9) (ha : NatV w aA ac (mg a.num)) (ga : NatV w aB ad a.den) (Ra : BoxA w kb 26 #[.bool (sg a.num), .slice aA (nl (mg a.num)) ac, .slice aB (nl a.den) ad]) :
    Calls Tryz.prog 67 #[.func (.func 113) #[] #[.pointer (some ⟨kb, 0, none⟩)]] w (RetC w [-2, 9]) := by
  have CA := Lib.hid (appendSeq_c kb aA ac aB ad a w ea eb ha ga Ra)
  go_enter Tryz.func67, Tryz.ntmps67
  go_wp2_with (fail)
  refine (Calls.mono CA.out ?_)
  rintro e W2 ⟨g, cap, cur, rfl, hr⟩
  go_wp2_with (fail)
  go_ret
  exact ⟨g, cap, cur, rfl, hr⟩
theorem termsF_c (aA : Option Addr) (ac : Nat) (aB : Option Addr) (ad : Nat) (a : Rat) (w : World) :
    Calls Tryz.prog 68 #[.agg #[.bool (sg a.num), .slice aA (nl (mg a.num)) ac, .slice aB (nl a.den) ad]] w (fun e w' => e = .returned (.func (.func 113) #[] #[.pointer (some ⟨w.heap.size, 0, none⟩)]) ∧ w' = w.alloc (.cells #[.bool (sg a.num), .slice aA (nl (mg a.num)) ac, .slice aB (nl a.den) ad] 26)) := by
  go_enter Tryz.func68, Tryz.ntmps68
  go_wp2_with (fail)
  go_ret
  exact ⟨rfl, rfl⟩
theorem terms_c (aA : Option Addr) (ac : Nat) (aB : Option Addr) (ad : Nat) (a : Rat) (w : World) (ha : NatV w aA ac (mg a.num)) (ga : NatV w aB ad a.den) (ea : a.num = -17) (eb : a.den = 9) :
    Calls Tryz.prog 28 #[.agg #[.bool (sg a.num), .slice aA (nl (mg a.num)) ac, .slice aB (nl a.den) ad]] w (RetC w [-2, 9]) := by
  obtain ⟨W1, hW1⟩ : ∃ W1, w.alloc (.cells #[.bool (sg a.num), .slice aA (nl (mg a.num)) ac, .slice aB (nl a.den) ad] 26) = W1 := ⟨_, rfl⟩
  have hb1 : Below w.heap.size w W1 := by rw [← hW1]; exact (Below.refl _ _).alloc (Nat.le_refl _) _
  have R1 : BoxA W1 w.heap.size 26 #[.bool (sg a.num), .slice aA (nl (mg a.num)) ac, .slice aB (nl a.den) ad] := by rw [← hW1]; exact ⟨at_new rfl⟩
  obtain ⟨W2, hW2⟩ : ∃ W2, W1.alloc (.cells #[.bool (sg a.num), .slice aA (nl (mg a.num)) ac, .slice aB (nl a.den) ad] 26) = W2 := ⟨_, rfl⟩
  have hb2 : Below W1.heap.size W1 W2 := by rw [← hW2]; exact (Below.refl _ _).alloc (Nat.le_refl _) _
  have R2 : BoxA W2 W1.heap.size 26 #[.bool (sg a.num), .slice aA (nl (mg a.num)) ac, .slice aB (nl a.den) ad] := by rw [← hW2]; exact ⟨at_new rfl⟩
  have hb12 := hb1.cons hb2
  have CC := collect_c W1.heap.size aA ac aB ad a W2 ea eb (ha.below hb12) (ga.below hb12) R2
  rw [show W1.heap.size = w.heap.size + 1 by rw [← hW1]; simp] at CC
  replace CC := Lib.hid CC
  have CF := termsF_c aA ac aB ad a W1
  rw [hW2, show W1.heap.size = w.heap.size + 1 by rw [← hW1]; simp] at CF
  replace CF := Lib.hid CF
  have q0 := R1.c (i := 0) rfl
  have q1 := R1.c (i := 1) rfl
  have q2 := R1.c (i := 2) rfl
  subst hW2
  subst hW1
  clear ea eb
  go_enter Tryz.func28, Tryz.ntmps28
  go_wp2_with (fail)
  refine (Calls.mono CF.out ?_)
  rintro e W3 ⟨rfl, rfl⟩
  go_wp2_with (fail)
  refine (Calls.mono CC.out ?_)
  rintro e W4 ⟨g, cap, cur, rfl, h0, h1, h2, h3, h4, h5, h6, hb⟩
  go_wp2_with (fail)
  go_ret
  exact ⟨g, cap, cur, rfl, Nat.le_trans hb12.size h0, h1, h2, h3, h4, h5, h6, hb12.cons hb⟩
theorem divInt_sub (a b : Rat) : Rat.divInt (a.num * (b.den : Int) - b.num * (a.den : Int)) ((a.den : Int) * (b.den : Int)) = a - b := by
  have h := divInt_add a (-b)
  rw [Rat.neg_num, Rat.neg_den, Int.neg_mul, ← Int.sub_eq_add_neg, ← Rat.sub_eq_add_neg] at h
  exact h
theorem vsub_c (aA : Option Addr) (ac : Nat) (aB : Option Addr) (ad : Nat) (a : Rat) (bA : Option Addr) (bc : Nat) (bB : Option Addr) (bd : Nat) (b : Rat) (w : World) (ha : NatV w aA ac (mg a.num)) (ga : NatV w aB ad a.den) (hb : NatV w bA bc (mg b.num)) (gb : NatV w bB bd b.den) (hG : Flds w) (la : nl (mg a.num) ≤ 8192) (ma : nl a.den ≤ 8192) (lb : nl (mg b.num) ≤ 8192) (mb : nl b.den ≤ 8192) (hsm : nl (mg a.num) ≤ 7 ∧ nl a.den ≤ 7 ∨ nl (mg b.num) ≤ 7 ∧ nl b.den ≤ 7 := by omega) :
    Calls Tryz.prog 47 #[.agg #[.bool (sg a.num), .slice aA (nl (mg a.num)) ac, .slice aB (nl a.den) ad], .agg #[.bool (sg b.num), .slice bA (nl (mg b.num)) bc, .slice bB (nl b.den) bd]] w (RetR w (a - b)) := by
  obtain ⟨x, Ex⟩ : ∃ zq : Int, zq = a.num * (b.den : Int) := ⟨_, rfl⟩
  have Nx : nl (mg x) ≤ 262144 := by rw [Ex, mg_mul]; have := nl_mul (mg a.num) (mg (b.den : Int)); rw [mg_nat] at this; rw [mg_nat]; omega
  obtain ⟨y, Ey⟩ : ∃ zq : Int, zq = b.num * (a.den : Int) := ⟨_, rfl⟩
  have Ny : nl (mg y) ≤ 262144 := by rw [Ey, mg_mul]; have := nl_mul (mg b.num) (mg (a.den : Int)); rw [mg_nat] at this; rw [mg_nat]; omega
  obtain ⟨z, Ez⟩ : ∃ zq : Int, zq = (a.den : Int) * (b.den : Int) := ⟨_, rfl⟩
  have Nz : nl (mg z) ≤ 262144 := by rw [Ez, mg_mul]; have := nl_mul (mg (a.den : Int)) (mg (b.den : Int)); rw [mg_nat, mg_nat] at this; rw [mg_nat, mg_nat]; omega
  have Z0 : 0 < z := by rw [Ez]; have := a.den_nz; have := b.den_nz; exact Int.mul_pos (by omega) (by omega)
  obtain ⟨n, En⟩ : ∃ zq : Int, zq = x - y := ⟨_, rfl⟩
  have Nn : nl (mg n) ≤ 262144 := by rw [En]; have := nl_isub x y; rw [Ex, Ey] at this; have h1 := nl_mul (mg a.num) (mg (b.den : Int)); have h2 := nl_mul (mg b.num) (mg (a.den : Int)); rw [mg_nat] at h1 h2; rw [mg_mul, mg_mul, mg_nat, mg_nat] at this; rw [Ex, Ey]; omega
  obtain ⟨q, Eq⟩ : ∃ zq : Rat, zq = Rat.divInt n z := ⟨_, rfl⟩
  have Q1 : q = a - b := by rw [Eq, En, Ex, Ey, Ez]; exact divInt_sub a b
  have CN := fun (W : World) (A : Option Addr) (c : Nat) (B : Option Addr) (d : Nat) (h1 : NatV W A c (mg x)) (h2 : NatV W B d (mg y)) => isub_c A c x B d y W h1 h2 (by omega) (by omega)
  rw [← En] at CN
  replace CN := Lib.hid CN
  have CQ := fun (W : World) (A : Option Addr) (c : Nat) (B : Option Addr) (d : Nat) (h1 : NatV W A c (mg n)) (h2 : NatV W B d (mg z)) => vover_c A c n B d z W h1 h2 (by omega) (by omega) Z0
  rw [← Eq] at CQ
  replace CQ := Lib.hid CQ
  replace En := Lib.hid En
  replace Eq := Lib.hid Eq
  replace Q1 := Lib.hid Q1
  replace Z0 := Lib.hid Z0
  obtain ⟨hb1, Ra, Rb, Rr⟩ := bx3 w #[.bool (sg a.num), .slice aA (nl (mg a.num)) ac, .slice aB (nl a.den) ad] 26 #[.bool (sg b.num), .slice bA (nl (mg b.num)) bc, .slice bB (nl b.den) bd] 26 #[.bool false, .slice none 0 0, .slice none 0 0] 26
  replace ha := ha.below hb1
  replace ga := ga.below hb1
  replace hb := hb.below hb1
  replace gb := gb.below hb1
  replace hG := hG.below hb1
  have HBT := hb1
  clear hb1
  have qa0 := Ra.c (i := 0) rfl
  have qa1 := Ra.c (i := 1) rfl
  have qa2 := Ra.c (i := 2) rfl
  have qb0 := Rb.c (i := 0) rfl
  have qb1 := Rb.c (i := 1) rfl
  have qb2 := Rb.c (i := 2) rfl
  have qr0 := Rr.c (i := 0) rfl
  have qr1 := Rr.c (i := 1) rfl
  have qr2 := Rr.c (i := 2) rfl
  go_enter Tryz.func47, Tryz.ntmps47
  go_wp2_with (fail)
  have CC := cross_c aA ac aB ad a bA bc bB bd b _ ha ga hb gb hG (by omega) (by omega) (by omega) (by omega)
  rw [← Ex, ← Ey, ← Ez] at CC
  replace CC := Lib.hid CC
  replace Ex := Lib.hid Ex
  replace Ey := Lib.hid Ey
  replace Ez := Lib.hid Ez
  refine (Calls.mono CC.out ?_)
  rintro e W2 ⟨Xx, cx, Xy, cy, Xz, cz, rfl, hx, hy, hz, hb2⟩
  clear CC
  replace ha := ha.below hb2
  replace ga := ga.below hb2
  replace hb := hb.below hb2
  replace gb := gb.below hb2
  replace hG := hG.below hb2
  replace Ra := Ra.below hb2
  replace qa0 := cbl hb2 qa0
  replace qa1 := cbl hb2 qa1
  replace qa2 := cbl hb2 qa2
  replace Rb := Rb.below hb2
  replace qb0 := cbl hb2 qb0
  replace qb1 := cbl hb2 qb1
  replace qb2 := cbl hb2 qb2
  replace Rr := Rr.below hb2
  replace qr0 := cbl hb2 qr0
  replace qr1 := cbl hb2 qr1
  replace qr2 := cbl hb2 qr2
  replace HBT := Below.cons HBT hb2
  clear hb2
  clear ha ga
  clear hb gb
  clear qa0
  clear qa1
  clear qa2
  clear qb0
  clear qb1
  clear qb2
  clear Ra
  clear Rb
  obtain ⟨hb3, Rx, Ry, Rz⟩ := bx3 W2 #[.bool (sg x), .slice Xx (nl (mg x)) cx] 24 #[.bool (sg y), .slice Xy (nl (mg y)) cy] 24 #[.bool (sg z), .slice Xz (nl (mg z)) cz] 24
  replace hG := hG.below hb3
  replace Rr := Rr.below hb3
  replace qr0 := cbl hb3 qr0
  replace qr1 := cbl hb3 qr1
  replace qr2 := cbl hb3 qr2
  replace hx := hx.below hb3
  replace hy := hy.below hb3
  replace hz := hz.below hb3
  replace HBT := Below.cons HBT hb3
  clear hb3
  have qx0 := Rx.c (i := 0) rfl
  have qx1 := Rx.c (i := 1) rfl
  have qy0 := Ry.c (i := 0) rfl
  have qy1 := Ry.c (i := 1) rfl
  have qz0 := Rz.c (i := 0) rfl
  have qz1 := Rz.c (i := 1) rfl
  go_wp2_with (fail)
  generalize hW0 : (((W2.alloc (.cells #[.bool (sg x), .slice Xx (nl (mg x)) cx] 24)).alloc (.cells #[.bool (sg y), .slice Xy (nl (mg y)) cy] 24)).alloc (.cells #[.bool (sg z), .slice Xz (nl (mg z)) cz] 24)) = W0 at *
  replace hW0 := Lib.hid hW0
  refine wp_region_fin 5 1 [.val (.agg #[.bool (sg x), .slice Xx (nl (mg x)) cx]), .val (.agg #[.bool (sg y), .slice Xy (nl (mg y)) cy]), .int n, .val (.agg #[.bool (sg z), .slice Xz (nl (mg z)) cz]), .rat q] (by kernel_rfl) (by kernel_rfl) (by kernel_rfl) (by kernel_rfl) (by kernel_rfl) rfl ?_ ?_
  · skip
    refine ⟨?_, ?_⟩
    · intro Ew aw wc st hdep
      have t5 : aw.tmps[5]? = some (.pointer (some ⟨W2.heap.size, 0, none⟩)) := (st.old 5 (by kernel_rfl)).trans (by rfl)
      have qx0 := cbl st.b qx0
      have qx1 := cbl st.b qx1
      have e5 := tmp_of t5
      refine op_want rfl (by rfl) (fun K' hK' => ?_)
      go_simp
      exact hK'.out _ _ ⟨_, rfl, rfl, Below.refl _ _⟩
    refine ⟨?_, ?_⟩
    · intro Ew aw wc st hdep
      have t6 : aw.tmps[6]? = some (.pointer (some ⟨(W2.heap.size + 1), 0, none⟩)) := (st.old 6 (by kernel_rfl)).trans (by rfl)
      have qy0 := cbl st.b qy0
      have qy1 := cbl st.b qy1
      have e6 := tmp_of t6
      refine op_want rfl (by rfl) (fun K' hK' => ?_)
      go_simp
      exact hK'.out _ _ ⟨_, rfl, rfl, Below.refl _ _⟩
    refine ⟨?_, ?_⟩
    · intro Ew aw wc st hdep
      obtain ⟨v15, t15, r15⟩ := st.nw hdep 0 15
      obtain rfl : v15 = .agg #[.bool (sg x), .slice Xx (nl (mg x)) cx] := r15
      obtain ⟨v16, t16, r16⟩ := st.nw hdep 1 16
      obtain rfl : v16 = .agg #[.bool (sg y), .slice Xy (nl (mg y)) cy] := r16
      have e15 := tmp_of t15
      have e16 := tmp_of t16
      refine op_want rfl (by rfl) (fun K' hK' => ?_)
      go_simp
      refine (Calls.mono (R := RetI wc n) (CN.out wc _ _ _ _ (hx.below st.b) (hy.below st.b)) ?_)
      rintro e W ⟨X, c, rfl, hX, kb⟩
      exact hK'.out _ _ ⟨_, rfl, ⟨X, c, rfl, hX⟩, kb⟩
    refine ⟨?_, ?_⟩
    · intro Ew aw wc st hdep
      have t7 : aw.tmps[7]? = some (.pointer (some ⟨(W2.heap.size + 1 + 1), 0, none⟩)) := (st.old 7 (by kernel_rfl)).trans (by rfl)
      have qz0 := cbl st.b qz0
      have qz1 := cbl st.b qz1
      have e7 := tmp_of t7
      refine op_want rfl (by rfl) (fun K' hK' => ?_)
      go_simp
      exact hK'.out _ _ ⟨_, rfl, rfl, Below.refl _ _⟩
    refine ⟨?_, ?_⟩
    · intro Ew aw wc st hdep
      obtain ⟨v17, t17, r17⟩ := st.nw hdep 2 17
      obtain ⟨X17, c17, rfl, h17⟩ := r17
      obtain ⟨v18, t18, r18⟩ := st.nw hdep 3 18
      obtain rfl : v18 = .agg #[.bool (sg z), .slice Xz (nl (mg z)) cz] := r18
      have e17 := tmp_of t17
      have e18 := tmp_of t18
      refine op_want rfl (by rfl) (fun K' hK' => ?_)
      go_simp
      refine (Calls.mono (R := RetR wc q) (CQ.out wc _ _ _ _ h17 (hz.below st.b)) ?_)
      rintro e W ⟨X, c, Y, d, rfl, hX, hY, kb⟩
      exact hK'.out _ _ ⟨_, rfl, ⟨X, c, Y, d, rfl, hX, hY⟩, kb⟩
    exact trivial
  intro vs wc hr hB
  obtain ⟨u15, r_15, rfl, k15, hr_15⟩ := hr.un
  obtain rfl : u15 = .agg #[.bool (sg x), .slice Xx (nl (mg x)) cx] := k15
  obtain ⟨u16, r_16, rfl, k16, hr_16⟩ := hr_15.un
  obtain rfl : u16 = .agg #[.bool (sg y), .slice Xy (nl (mg y)) cy] := k16
  obtain ⟨u17, r_17, rfl, k17, hr_17⟩ := hr_16.un
  obtain ⟨X17, c17, rfl, h17⟩ := k17
  obtain ⟨u18, r_18, rfl, k18, hr_18⟩ := hr_17.un
  obtain rfl : u18 = .agg #[.bool (sg z), .slice Xz (nl (mg z)) cz] := k18
  obtain ⟨u19, r_19, rfl, k19, hr_19⟩ := hr_18.un
  obtain ⟨X19, c19, Y19, d19, rfl, h19, g19⟩ := k19
  obtain rfl := hr_19.nil
  clear hr hr_15 hr_16 hr_17 hr_18 hr_19
  replace hG := hG.below hB
  replace Rr := Rr.below hB
  replace qr0 := cbl hB qr0
  replace qr1 := cbl hB qr1
  replace qr2 := cbl hB qr2
  replace hx := hx.below hB
  replace hy := hy.below hB
  replace hz := hz.below hB
  replace Rx := Rx.below hB
  replace qx0 := cbl hB qx0
  replace qx1 := cbl hB qx1
  replace Ry := Ry.below hB
  replace qy0 := cbl hB qy0
  replace qy1 := cbl hB qy1
  replace Rz := Rz.below hB
  replace qz0 := cbl hB qz0
  replace qz1 := cbl hB qz1
  replace HBT := Below.cons HBT hB
  clear hB
  simp only [upTo, List.take_succ_cons, List.take_zero, putAll, Act.put, seq0, seq1, seq2]
  clear hx
  clear hy
  clear hz
  clear hG
  clear qx0
  clear qx1
  clear qy0
  clear qy1
  clear qz0
  clear qz1
  clear Rx
  clear Ry
  clear Rz
  have fzr0 := Rr.f (i := 0)
  have fzr1 := Rr.f (i := 1)
  have fzr2 := Rr.f (i := 2)
  refine TailP.one rfl (by rfl) (fun K' hK' => ?_)
  go_simp
  refine hK'.out _ _ ?_
  try simp only [Act.put, seq0, seq1, seq2]
  refine TailP.done ?_
  go_wp2_with (fail)
  have hzq : q = (a - b) := by exact Q1.out
  subst hzq
  have RS := Rr.store3 (.bool (sg (((a - b))).num)) (.slice X19 (nl (mg (((a - b))).num)) c19) (.slice Y19 (nl (((a - b))).den) d19)
  have e0 := RS.c (i := 0) rfl
  have e1 := RS.c (i := 1) rfl
  have e2 := RS.c (i := 2) rfl
  refine bodyPost_ret (v := .agg #[.bool (sg (((a - b))).num), .slice X19 (nl (mg (((a - b))).num)) c19, .slice Y19 (nl (((a - b))).den) d19]) (by simp [results, Tryz.results47, go_sem, e0, e1, e2]) rfl ?_
  exact ⟨X19, c19, Y19, d19, rfl, (Rr.keep3 (nuB rfl) h19), (Rr.keep3 (nuB rfl) g19), (Below.store3 HBT (by first | exact Nat.le_refl _ | omega))⟩
theorem vcmp_c (aA : Option Addr) (ac : Nat) (aB : Option Addr) (ad : Nat) (a : Rat) (bA : Option Addr) (bc : Nat) (bB : Option Addr) (bd : Nat) (b : Rat) (w : World) (ha : NatV w aA ac (mg a.num)) (ga : NatV w aB ad a.den) (hb : NatV w bA bc (mg b.num)) (gb : NatV w bB bd b.den) (hG : Flds w) (la : nl (mg a.num) ≤ 8192) (ma : nl a.den ≤ 8192) (lb : nl (mg b.num) ≤ 8192) (mb : nl b.den ≤ 8192) (hsm : nl (mg a.num) ≤ 7 ∧ nl a.den ≤ 7 ∨ nl (mg b.num) ≤ 7 ∧ nl b.den ≤ 7 := by omega) :
    Calls Tryz.prog 54 #[.agg #[.bool (sg a.num), .slice aA (nl (mg a.num)) ac, .slice aB (nl a.den) ad], .agg #[.bool (sg b.num), .slice bA (nl (mg b.num)) bc, .slice bB (nl b.den) bd]] w (fun e w' => e = .returned (.int .i64 (rcmp a b)) ∧ Below w.heap.size w w') := by
  obtain ⟨x, Ex⟩ : ∃ zq : Int, zq = a.num * (b.den : Int) := ⟨_, rfl⟩
  have Nx : nl (mg x) ≤ 262144 := by rw [Ex, mg_mul]; have := nl_mul (mg a.num) (mg (b.den : Int)); rw [mg_nat] at this; rw [mg_nat]; omega
  obtain ⟨y, Ey⟩ : ∃ zq : Int, zq = b.num * (a.den : Int) := ⟨_, rfl⟩
  have Ny : nl (mg y) ≤ 262144 := by rw [Ey, mg_mul]; have := nl_mul (mg b.num) (mg (a.den : Int)); rw [mg_nat] at this; rw [mg_nat]; omega
  obtain ⟨z, Ez⟩ : ∃ zq : Int, zq = (a.den : Int) * (b.den : Int) := ⟨_, rfl⟩
  have Nz : nl (mg z) ≤ 262144 := by rw [Ez, mg_mul]; have := nl_mul (mg (a.den : Int)) (mg (b.den : Int)); rw [mg_nat, mg_nat] at this; rw [mg_nat, mg_nat]; omega
  have Z0 : 0 < z := by rw [Ez]; have := a.den_nz; have := b.den_nz; exact Int.mul_pos (by omega) (by omega)
  have hd : icmp x y = rcmp a b := by rw [Ex, Ey]; exact rcmp_icmp a b
  replace hd := Lib.hid hd
  obtain ⟨hb1, Ra, Rb⟩ := bx2 w #[.bool (sg a.num), .slice aA (nl (mg a.num)) ac, .slice aB (nl a.den) ad] 26 #[.bool (sg b.num), .slice bA (nl (mg b.num)) bc, .slice bB (nl b.den) bd] 26
  replace ha := ha.below hb1
  replace ga := ga.below hb1
  replace hb := hb.below hb1
  replace gb := gb.below hb1
  replace hG := hG.below hb1
  have HBT := hb1
  clear hb1
  have qa0 := Ra.c (i := 0) rfl
  have qa1 := Ra.c (i := 1) rfl
  have qa2 := Ra.c (i := 2) rfl
  have qb0 := Rb.c (i := 0) rfl
  have qb1 := Rb.c (i := 1) rfl
  have qb2 := Rb.c (i := 2) rfl
  go_enter Tryz.func54, Tryz.ntmps54
  go_wp2_with (fail)
  have CC := cross_c aA ac aB ad a bA bc bB bd b _ ha ga hb gb hG (by omega) (by omega) (by omega) (by omega)
  rw [← Ex, ← Ey, ← Ez] at CC
  replace CC := Lib.hid CC
  replace Ex := Lib.hid Ex
  replace Ey := Lib.hid Ey
  replace Ez := Lib.hid Ez
  refine (Calls.mono CC.out ?_)
  rintro e W2 ⟨Xx, cx, Xy, cy, Xz, cz, rfl, hx, hy, hz, hb2⟩
  clear CC
  replace ha := ha.below hb2
  replace ga := ga.below hb2
  replace hb := hb.below hb2
  replace gb := gb.below hb2
  replace hG := hG.below hb2
  replace Ra := Ra.below hb2
  replace qa0 := cbl hb2 qa0
  replace qa1 := cbl hb2 qa1
  replace qa2 := cbl hb2 qa2
  replace Rb := Rb.below hb2
  replace qb0 := cbl hb2 qb0
  replace qb1 := cbl hb2 qb1
  replace qb2 := cbl hb2 qb2
  replace HBT := Below.cons HBT hb2
  clear hb2
  clear ha ga
  clear hb gb
  clear qa0
  clear qa1
  clear qa2
  clear qb0
  clear qb1
  clear qb2
  clear Ra
  clear Rb
  obtain ⟨hb3, Rx, Ry, Rz⟩ := bx3 W2 #[.bool (sg x), .slice Xx (nl (mg x)) cx] 24 #[.bool (sg y), .slice Xy (nl (mg y)) cy] 24 #[.bool (sg z), .slice Xz (nl (mg z)) cz] 24
  replace hG := hG.below hb3
  replace hx := hx.below hb3
  replace hy := hy.below hb3
  replace hz := hz.below hb3
  replace HBT := Below.cons HBT hb3
  clear hb3
  have qx0 := Rx.c (i := 0) rfl
  have qx1 := Rx.c (i := 1) rfl
  have qy0 := Ry.c (i := 0) rfl
  have qy1 := Ry.c (i := 1) rfl
  have qz0 := Rz.c (i := 0) rfl
  have qz1 := Rz.c (i := 1) rfl
  go_wp2_with (fail)
  refine (Calls.mono (icmp_c Xx cx x Xy cy y _ hx hy (by omega) (by omega)) ?_)
  rintro e W4 ⟨rfl, hb4⟩
  replace hG := hG.below hb4
  replace hx := hx.below hb4
  replace hy := hy.below hb4
  replace hz := hz.below hb4
  replace Rx := Rx.below hb4
  replace qx0 := cbl hb4 qx0
  replace qx1 := cbl hb4 qx1
  replace Ry := Ry.below hb4
  replace qy0 := cbl hb4 qy0
  replace qy1 := cbl hb4 qy1
  replace Rz := Rz.below hb4
  replace qz0 := cbl hb4 qz0
  replace qz1 := cbl hb4 qz1
  replace HBT := Below.cons HBT hb4
  clear hb4
  go_wp2_with (fail)
  go_ret
  exact ⟨by rw [hd.out]; rfl, HBT⟩
theorem rcmp_dec (x y : Rat) : decide (rcmp x y ≤ 0) = decide (x ≤ y) := by
  unfold rcmp
  by_cases h : x < y
  · rw [if_pos h, decide_eq_true (Rat.le_of_lt h)]; rfl
  · rw [if_neg h]
    by_cases h2 : y < x
    · rw [if_pos h2, decide_eq_false (Rat.not_le.2 h2)]; rfl
    · rw [if_neg h2, decide_eq_true (Rat.not_lt.1 h2)]; rfl
theorem want_of {ops : Array Oper} {o : Oper} {a : Act} {j k : Nat} {b : Bool} (hg : o.guard = some (j, b)) (hd : (ops.toList[j]?).bind (·.dst) = some k) (ht : a.tmps[k]? = some (.bool b)) : Region.wanted o (yielded ops a.tmps) = true := by
  have hd' : (ops[j]?).bind (·.dst) = some k := by rw [← Array.getElem?_toList]; exact hd
  unfold Region.wanted
  rw [hg]
  simp only [yielded, hd', Option.bind_some, ht, beq_self_eq_true]
theorem bhas_c (aA : Option Addr) (ac : Nat) (a : Rat) (bA : Option Addr) (bc : Nat) (b : Rat) (qA : Option Addr) (qc : Nat) (qB : Option Addr) (qd : Nat) (q : Rat) (bb : Bool) (w : World) (ha : NatV w aA ac (mg (dmn a))) (hb : NatV w bA bc (mg (dmn b))) (hq : NatV w qA qc (mg q.num)) (gq : NatV w qB qd q.den) (oa : DOk a) (ob : DOk b) (ox : DOk (a - b)) (oy : DOk (a + b)) (lx : nl (mg (a - b).num) ≤ 8192) (mx : nl (a - b).den ≤ 8192) (ly : nl (mg (a + b).num) ≤ 8192) (my : nl (a + b).den ≤ 8192) (lq : nl (mg q.num) ≤ 7) (ld : nl q.den ≤ 7) (hl : a - b ≤ q) (Ebb : bb = decide (q ≤ a + b)) (hT : Tab w) (hG : Flds w) :
    Calls Tryz.prog 17 #[.agg #[.bool (sg (dmn a)), .slice aA (nl (mg (dmn a))) ac, .int .i64 (dex a), .bool (sg (dmn b)), .slice bA (nl (mg (dmn b))) bc, .int .i64 (dex b)], .agg #[.bool (sg q.num), .slice qA (nl (mg q.num)) qc, .slice qB (nl q.den) qd]] w (fun e w' => e = .returned (.bool bb) ∧ Below w.heap.size w w') := by
  obtain ⟨x, Ex⟩ : ∃ zq : Rat, zq = a - b := ⟨_, rfl⟩
  obtain ⟨y, Ey⟩ : ∃ zq : Rat, zq = a + b := ⟨_, rfl⟩
  obtain ⟨c1, Ec1⟩ : ∃ zq : Int, zq = rcmp x q := ⟨_, rfl⟩
  obtain ⟨c2, Ec2⟩ : ∃ zq : Int, zq = rcmp q y := ⟨_, rfl⟩
  rw [← Ex] at ox lx mx hl
  rw [← Ey] at oy ly my Ebb
  have t1 : decide (c1 ≤ 0) = true := by rw [Ec1, rcmp_dec]; exact decide_eq_true hl
  have t2 : decide (c2 ≤ 0) = bb := by rw [Ebb, Ec2, rcmp_dec]
  have CO := fun (W : World) (h1 : NatV W aA ac (mg (dmn a))) (h2 : NatV W bA bc (mg (dmn b))) (hT : Tab W) => bof_c aA ac a bA bc b W h1 h2 oa ob hT
  rw [← Ex, ← Ey] at CO
  replace CO := Lib.hid CO
  have CX := fun (W : World) (A : Option Addr) (k : Nat) (h1 : NatV W A k (mg (dmn x))) => drat_c A k x W h1 ox
  replace CX := Lib.hid CX
  have CY := fun (W : World) (A : Option Addr) (k : Nat) (h1 : NatV W A k (mg (dmn y))) => drat_c A k y W h1 oy
  replace CY := Lib.hid CY
  have C1 := fun (W : World) (A : Option Addr) (k : Nat) (B : Option Addr) (j : Nat) (h1 : NatV W A k (mg x.num)) (h2 : NatV W B j x.den) (h3 : NatV W qA qc (mg q.num)) (h4 : NatV W qB qd q.den) (hG : Flds W) => vcmp_c A k B j x qA qc qB qd q W h1 h2 h3 h4 hG lx mx (by omega) (by omega)
  rw [← Ec1] at C1
  replace C1 := Lib.hid C1
  have C2 := fun (W : World) (A : Option Addr) (k : Nat) (B : Option Addr) (j : Nat) (h1 : NatV W A k (mg y.num)) (h2 : NatV W B j y.den) (h3 : NatV W qA qc (mg q.num)) (h4 : NatV W qB qd q.den) (hG : Flds W) => vcmp_c qA qc qB qd q A k B j y W h3 h4 h1 h2 hG (by omega) (by omega) ly my
  rw [← Ec2] at C2
  replace C2 := Lib.hid C2
  replace Ex := Lib.hid Ex
  replace Ey := Lib.hid Ey
  replace Ec1 := Lib.hid Ec1
  replace Ec2 := Lib.hid Ec2
  replace Ebb := Lib.hid Ebb
  clear oa ob ox oy lx mx ly my lq ld hl
  obtain ⟨hb1, Rp, Rq⟩ := bx2 w #[.bool (sg (dmn a)), .slice aA (nl (mg (dmn a))) ac, .int .i64 (dex a), .bool (sg (dmn b)), .slice bA (nl (mg (dmn b))) bc, .int .i64 (dex b)] 40 #[.bool (sg q.num), .slice qA (nl (mg q.num)) qc, .slice qB (nl q.den) qd] 26
  replace ha := ha.below hb1
  replace hb := hb.below hb1
  replace hq := hq.below hb1
  replace gq := gq.below hb1
  replace hT := hT.below hb1
  replace hG := hG.below hb1
  have HBT := hb1
  clear hb1
  have qp0 := Rp.c (i := 0) rfl
  have qp1 := Rp.c (i := 1) rfl
  have qp2 := Rp.c (i := 2) rfl
  have qp3 := Rp.c (i := 3) rfl
  have qp4 := Rp.c (i := 4) rfl
  have qp5 := Rp.c (i := 5) rfl
  have qq0 := Rq.c (i := 0) rfl
  have qq1 := Rq.c (i := 1) rfl
  have qq2 := Rq.c (i := 2) rfl
  go_enter Tryz.func17, Tryz.ntmps17
  go_wp2_with (fail)
  refine (Calls.mono (CO.out _ ha hb hT) ?_)
  rintro e W2 ⟨Xx, cx, Xy, cy, rfl, hx, hy, hb2⟩
  replace ha := ha.below hb2
  replace hb := hb.below hb2
  replace hq := hq.below hb2
  replace gq := gq.below hb2
  replace hT := hT.below hb2
  replace hG := hG.below hb2
  replace Rp := Rp.below hb2
  replace qp0 := cbl hb2 qp0
  replace qp1 := cbl hb2 qp1
  replace qp2 := cbl hb2 qp2
  replace qp3 := cbl hb2 qp3
  replace qp4 := cbl hb2 qp4
  replace qp5 := cbl hb2 qp5
  replace Rq := Rq.below hb2
  replace qq0 := cbl hb2 qq0
  replace qq1 := cbl hb2 qq1
  replace qq2 := cbl hb2 qq2
  replace HBT := Below.cons HBT hb2
  clear hb2
  clear ha
  clear hb
  clear hT
  obtain ⟨hb3, Re⟩ := bx1 W2 #[.bool (sg (dmn x)), .slice Xx (nl (mg (dmn x))) cx, .int .i64 (dex x), .bool (sg (dmn y)), .slice Xy (nl (mg (dmn y))) cy, .int .i64 (dex y)] 84
  replace hq := hq.below hb3
  replace gq := gq.below hb3
  replace hG := hG.below hb3
  replace Rp := Rp.below hb3
  replace qp0 := cbl hb3 qp0
  replace qp1 := cbl hb3 qp1
  replace qp2 := cbl hb3 qp2
  replace qp3 := cbl hb3 qp3
  replace qp4 := cbl hb3 qp4
  replace qp5 := cbl hb3 qp5
  replace Rq := Rq.below hb3
  replace qq0 := cbl hb3 qq0
  replace qq1 := cbl hb3 qq1
  replace qq2 := cbl hb3 qq2
  replace hx := hx.below hb3
  replace hy := hy.below hb3
  replace HBT := Below.cons HBT hb3
  clear hb3
  have qe0 := Re.c (i := 0) rfl
  have qe1 := Re.c (i := 1) rfl
  have qe2 := Re.c (i := 2) rfl
  have qe3 := Re.c (i := 3) rfl
  have qe4 := Re.c (i := 4) rfl
  have qe5 := Re.c (i := 5) rfl
  go_wp2_with (fail)
  generalize hW0 : (W2.alloc (.cells #[.bool (sg (dmn x)), .slice Xx (nl (mg (dmn x))) cx, .int .i64 (dex x), .bool (sg (dmn y)), .slice Xy (nl (mg (dmn y))) cy, .int .i64 (dex y)] 84)) = W0 at *
  replace hW0 := Lib.hid hW0
  refine wp_region_fin 14 1 [.val (.pointer (some ⟨W2.heap.size, 0, none⟩)), .val (.agg #[.bool (sg (dmn x)), .slice Xx (nl (mg (dmn x))) cx, .int .i64 (dex x)]), .rat x, .val (.agg #[.bool (sg q.num), .slice qA (nl (mg q.num)) qc, .slice qB (nl q.den) qd]), .val (.int .i64 c1), .val (.bool true), .val (.bool true), .val (.agg #[.bool (sg q.num), .slice qA (nl (mg q.num)) qc, .slice qB (nl q.den) qd]), .val (.pointer (some ⟨W2.heap.size, 3, none⟩)), .val (.agg #[.bool (sg (dmn y)), .slice Xy (nl (mg (dmn y))) cy, .int .i64 (dex y)]), .rat y, .val (.int .i64 c2), .val (.bool bb), .val (.bool bb)] (by kernel_rfl) (by kernel_rfl) (by kernel_rfl) (by kernel_rfl) (by kernel_rfl) rfl ?_ ?_
  · skip
    refine ⟨?_, ?_⟩
    · intro Ew aw wc st hdep
      have t5 : aw.tmps[5]? = some (.pointer (some ⟨W2.heap.size, 0, none⟩)) := (st.old 5 (by kernel_rfl)).trans (by rfl)
      have e5 := tmp_of t5
      refine op_want rfl (by rfl) (fun K' hK' => ?_)
      go_simp
      exact hK'.out _ _ ⟨_, rfl, rfl, Below.refl _ _⟩
    refine ⟨?_, ?_⟩
    · intro Ew aw wc st hdep
      obtain ⟨v8, t8, r8⟩ := st.nw hdep 0 8
      obtain rfl : v8 = .pointer (some ⟨W2.heap.size, 0, none⟩) := r8
      have qe0 := cbl st.b qe0
      have qe1 := cbl st.b qe1
      have qe2 := cbl st.b qe2
      have e8 := tmp_of t8
      refine op_want rfl (by rfl) (fun K' hK' => ?_)
      go_simp
      exact hK'.out _ _ ⟨_, rfl, rfl, Below.refl _ _⟩
    refine ⟨?_, ?_⟩
    · intro Ew aw wc st hdep
      obtain ⟨v9, t9, r9⟩ := st.nw hdep 1 9
      obtain rfl : v9 = .agg #[.bool (sg (dmn x)), .slice Xx (nl (mg (dmn x))) cx, .int .i64 (dex x)] := r9
      have e9 := tmp_of t9
      refine op_want rfl (by rfl) (fun K' hK' => ?_)
      go_simp
      refine (Calls.mono (R := RetR wc x) (CX.out wc _ _ (hx.below st.b)) ?_)
      rintro e W ⟨X, c, Y, d, rfl, hX, hY, kb⟩
      exact hK'.out _ _ ⟨_, rfl, ⟨X, c, Y, d, rfl, hX, hY⟩, kb⟩
    refine ⟨?_, ?_⟩
    · intro Ew aw wc st hdep
      have t3 : aw.tmps[3]? = some (.pointer (some ⟨(w.heap.size + 1), 0, none⟩)) := (st.old 3 (by kernel_rfl)).trans (by rfl)
      have qq0 := cbl st.b qq0
      have qq1 := cbl st.b qq1
      have qq2 := cbl st.b qq2
      have e3 := tmp_of t3
      refine op_want rfl (by rfl) (fun K' hK' => ?_)
      go_simp
      exact hK'.out _ _ ⟨_, rfl, rfl, Below.refl _ _⟩
    refine ⟨?_, ?_⟩
    · intro Ew aw wc st hdep
      obtain ⟨v10, t10, r10⟩ := st.nw hdep 2 10
      obtain ⟨X10, c10, Y10, d10, rfl, h10, g10⟩ := r10
      obtain ⟨v11, t11, r11⟩ := st.nw hdep 3 11
      obtain rfl : v11 = .agg #[.bool (sg q.num), .slice qA (nl (mg q.num)) qc, .slice qB (nl q.den) qd] := r11
      have e10 := tmp_of t10
      have e11 := tmp_of t11
      refine op_want rfl (by rfl) (fun K' hK' => ?_)
      go_simp
      refine (Calls.mono (C1.out wc _ _ _ _ h10 g10 (hq.below st.b) (gq.below st.b) (hG.below st.b)) ?_)
      rintro e W ⟨rfl, kb⟩
      exact hK'.out _ _ ⟨_, rfl, rfl, kb⟩
    refine ⟨?_, ?_⟩
    · intro Ew aw wc st hdep
      obtain ⟨v12, t12, r12⟩ := st.nw hdep 4 12
      obtain rfl : v12 = .int .i64 c1 := r12
      have e12 := tmp_of t12
      refine op_want rfl (by rfl) (fun K' hK' => ?_)
      go_simp
      exact hK'.out _ _ ⟨_, rfl, rfl, Below.refl _ _⟩
    refine ⟨?_, ?_⟩
    · intro Ew aw wc st hdep
      obtain ⟨v13, t13, r13⟩ := st.nw hdep 5 13
      obtain rfl : v13 = .bool true := r13
      have e13 := tmp_of t13
      refine op_want rfl (by rfl) (fun K' hK' => ?_)
      go_simp
      exact hK'.out _ _ ⟨_, rfl, rfl, Below.refl _ _⟩
    refine ⟨?_, ?_⟩
    · intro Ew aw wc st hdep
      have t3 : aw.tmps[3]? = some (.pointer (some ⟨(w.heap.size + 1), 0, none⟩)) := (st.old 3 (by kernel_rfl)).trans (by rfl)
      obtain ⟨v14, t14, r14⟩ := st.nw hdep 6 14
      obtain rfl : v14 = .bool true := r14
      have qq0 := cbl st.b qq0
      have qq1 := cbl st.b qq1
      have qq2 := cbl st.b qq2
      have e3 := tmp_of t3
      refine op_want rfl (want_of (by rfl) (by rfl) t14) (fun K' hK' => ?_)
      go_simp
      exact hK'.out _ _ ⟨_, rfl, rfl, Below.refl _ _⟩
    refine ⟨?_, ?_⟩
    · intro Ew aw wc st hdep
      have t5 : aw.tmps[5]? = some (.pointer (some ⟨W2.heap.size, 0, none⟩)) := (st.old 5 (by kernel_rfl)).trans (by rfl)
      obtain ⟨v14, t14, r14⟩ := st.nw hdep 6 14
      obtain rfl : v14 = .bool true := r14
      have e5 := tmp_of t5
      refine op_want rfl (want_of (by rfl) (by rfl) t14) (fun K' hK' => ?_)
      go_simp
      exact hK'.out _ _ ⟨_, rfl, rfl, Below.refl _ _⟩
    refine ⟨?_, ?_⟩
    · intro Ew aw wc st hdep
      obtain ⟨v16, t16, r16⟩ := st.nw hdep 8 16
      obtain rfl : v16 = .pointer (some ⟨W2.heap.size, 3, none⟩) := r16
      obtain ⟨v14, t14, r14⟩ := st.nw hdep 6 14
      obtain rfl : v14 = .bool true := r14
      have qe3 := cbl st.b qe3
      have qe4 := cbl st.b qe4
      have qe5 := cbl st.b qe5
      have e16 := tmp_of t16
      refine op_want rfl (want_of (by rfl) (by rfl) t14) (fun K' hK' => ?_)
      go_simp
      exact hK'.out _ _ ⟨_, rfl, rfl, Below.refl _ _⟩
    refine ⟨?_, ?_⟩
    · intro Ew aw wc st hdep
      obtain ⟨v17, t17, r17⟩ := st.nw hdep 9 17
      obtain rfl : v17 = .agg #[.bool (sg (dmn y)), .slice Xy (nl (mg (dmn y))) cy, .int .i64 (dex y)] := r17
      obtain ⟨v14, t14, r14⟩ := st.nw hdep 6 14
      obtain rfl : v14 = .bool true := r14
      have e17 := tmp_of t17
      refine op_want rfl (want_of (by rfl) (by rfl) t14) (fun K' hK' => ?_)
      go_simp
      refine (Calls.mono (R := RetR wc y) (CY.out wc _ _ (hy.below st.b)) ?_)
      rintro e W ⟨X, c, Y, d, rfl, hX, hY, kb⟩
      exact hK'.out _ _ ⟨_, rfl, ⟨X, c, Y, d, rfl, hX, hY⟩, kb⟩
    refine ⟨?_, ?_⟩
    · intro Ew aw wc st hdep
      obtain ⟨v15, t15, r15⟩ := st.nw hdep 7 15
      obtain rfl : v15 = .agg #[.bool (sg q.num), .slice qA (nl (mg q.num)) qc, .slice qB (nl q.den) qd] := r15
      obtain ⟨v18, t18, r18⟩ := st.nw hdep 10 18
      obtain ⟨X18, c18, Y18, d18, rfl, h18, g18⟩ := r18
      obtain ⟨v14, t14, r14⟩ := st.nw hdep 6 14
      obtain rfl : v14 = .bool true := r14
      have e15 := tmp_of t15
      have e18 := tmp_of t18
      refine op_want rfl (want_of (by rfl) (by rfl) t14) (fun K' hK' => ?_)
      go_simp
      refine (Calls.mono (C2.out wc _ _ _ _ h18 g18 (hq.below st.b) (gq.below st.b) (hG.below st.b)) ?_)
      rintro e W ⟨rfl, kb⟩
      exact hK'.out _ _ ⟨_, rfl, rfl, kb⟩
    refine ⟨?_, ?_⟩
    · intro Ew aw wc st hdep
      obtain ⟨v19, t19, r19⟩ := st.nw hdep 11 19
      obtain rfl : v19 = .int .i64 c2 := r19
      obtain ⟨v14, t14, r14⟩ := st.nw hdep 6 14
      obtain rfl : v14 = .bool true := r14
      have e19 := tmp_of t19
      refine op_want rfl (want_of (by rfl) (by rfl) t14) (fun K' hK' => ?_)
      go_simp
      exact hK'.out _ _ ⟨_, rfl, rfl, Below.refl _ _⟩
    refine ⟨?_, ?_⟩
    · intro Ew aw wc st hdep
      obtain ⟨v14, t14, r14⟩ := st.nw hdep 6 14
      obtain rfl : v14 = .bool true := r14
      obtain ⟨v20, t20, r20⟩ := st.nw hdep 12 20
      obtain rfl : v20 = .bool bb := r20
      have e14 := tmp_of t14
      have e20 := tmp_of t20
      refine op_want rfl (by rfl) (fun K' hK' => ?_)
      go_simp
      exact hK'.out _ _ ⟨_, rfl, rfl, Below.refl _ _⟩
    exact trivial
  intro vs wc hr hB
  obtain ⟨u8, r_8, rfl, k8, hr_8⟩ := hr.un
  obtain rfl : u8 = .pointer (some ⟨W2.heap.size, 0, none⟩) := k8
  obtain ⟨u9, r_9, rfl, k9, hr_9⟩ := hr_8.un
  obtain rfl : u9 = .agg #[.bool (sg (dmn x)), .slice Xx (nl (mg (dmn x))) cx, .int .i64 (dex x)] := k9
  obtain ⟨u10, r_10, rfl, k10, hr_10⟩ := hr_9.un
  obtain ⟨X10, c10, Y10, d10, rfl, h10, g10⟩ := k10
  obtain ⟨u11, r_11, rfl, k11, hr_11⟩ := hr_10.un
  obtain rfl : u11 = .agg #[.bool (sg q.num), .slice qA (nl (mg q.num)) qc, .slice qB (nl q.den) qd] := k11
  obtain ⟨u12, r_12, rfl, k12, hr_12⟩ := hr_11.un
  obtain rfl : u12 = .int .i64 c1 := k12
  obtain ⟨u13, r_13, rfl, k13, hr_13⟩ := hr_12.un
  obtain rfl : u13 = .bool true := k13
  obtain ⟨u14, r_14, rfl, k14, hr_14⟩ := hr_13.un
  obtain rfl : u14 = .bool true := k14
  obtain ⟨u15, r_15, rfl, k15, hr_15⟩ := hr_14.un
  obtain rfl : u15 = .agg #[.bool (sg q.num), .slice qA (nl (mg q.num)) qc, .slice qB (nl q.den) qd] := k15
  obtain ⟨u16, r_16, rfl, k16, hr_16⟩ := hr_15.un
  obtain rfl : u16 = .pointer (some ⟨W2.heap.size, 3, none⟩) := k16
  obtain ⟨u17, r_17, rfl, k17, hr_17⟩ := hr_16.un
  obtain rfl : u17 = .agg #[.bool (sg (dmn y)), .slice Xy (nl (mg (dmn y))) cy, .int .i64 (dex y)] := k17
  obtain ⟨u18, r_18, rfl, k18, hr_18⟩ := hr_17.un
  obtain ⟨X18, c18, Y18, d18, rfl, h18, g18⟩ := k18
  obtain ⟨u19, r_19, rfl, k19, hr_19⟩ := hr_18.un
  obtain rfl : u19 = .int .i64 c2 := k19
  obtain ⟨u20, r_20, rfl, k20, hr_20⟩ := hr_19.un
  obtain rfl : u20 = .bool bb := k20
  obtain ⟨u21, r_21, rfl, k21, hr_21⟩ := hr_20.un
  obtain rfl : u21 = .bool bb := k21
  obtain rfl := hr_21.nil
  clear hr hr_8 hr_9 hr_10 hr_11 hr_12 hr_13 hr_14 hr_15 hr_16 hr_17 hr_18 hr_19 hr_20 hr_21
  replace hq := hq.below hB
  replace gq := gq.below hB
  replace hG := hG.below hB
  replace Rp := Rp.below hB
  replace qp0 := cbl hB qp0
  replace qp1 := cbl hB qp1
  replace qp2 := cbl hB qp2
  replace qp3 := cbl hB qp3
  replace qp4 := cbl hB qp4
  replace qp5 := cbl hB qp5
  replace Rq := Rq.below hB
  replace qq0 := cbl hB qq0
  replace qq1 := cbl hB qq1
  replace qq2 := cbl hB qq2
  replace hx := hx.below hB
  replace hy := hy.below hB
  replace Re := Re.below hB
  replace qe0 := cbl hB qe0
  replace qe1 := cbl hB qe1
  replace qe2 := cbl hB qe2
  replace qe3 := cbl hB qe3
  replace qe4 := cbl hB qe4
  replace qe5 := cbl hB qe5
  replace HBT := Below.cons HBT hB
  clear hB
  simp only [upTo, List.take_succ_cons, List.take_zero, putAll, Act.put, seq0, seq1, seq2]
  refine TailP.one rfl (by rfl) (fun K' hK' => ?_)
  go_simp
  refine hK'.out _ _ ?_
  try simp only [Act.put, seq0, seq1, seq2]
  refine TailP.done ?_
  go_wp2_with (fail)
  exact bodyPost_ret (v := .bool bb) (by simp [results, Tryz.results17, go_sem]) rfl ⟨rfl, HBT⟩
theorem of1_c (w : World) : Calls Tryz.prog 46 #[.int .i64 1] w (RetI w 1) := iof_c 1 w (by decide)
theorem value_c (V : Option Addr) (c : Nat) (p : List Int) (nA : Option Addr) (nc : Nat) (n : Int) (dA : Option Addr) (dc : Nat) (d : Int) (w : World) (hP : PolV w V c p) (hn : NatV w nA nc (mg n)) (hd : NatV w dA dc (mg d)) (hG : Flds w) (hl : p.length ≤ 1048576) (ln : nl (mg n) ≤ 7) (ld : nl (mg d) ≤ 7) (lp : ∀ j, nl (mg (gi p j)) ≤ 7)
    (lv : ∀ j, nl (mg (vv n d (p.drop j)).1) ≤ 16384 ∧ nl (mg (vv n d (p.drop j)).2) ≤ 16384) :
    Calls Tryz.prog 61 #[.slice V p.length c, .agg #[.bool (sg n), .slice nA (nl (mg n)) nc], .agg #[.bool (sg d), .slice dA (nl (mg d)) dc]] w (RetI w (vv n d p).1) := by
  obtain ⟨ln0, El⟩ : ∃ z, z = p.length := ⟨_, rfl⟩
  have hlz : ln0 ≤ 1048576 := by omega
  rw [← El]
  have Wl : IntKind.i64.wrap ((ln0 : Int) - 1) = (ln0 : Int) - 1 := IntWalk.i64_in _ (by omega)
  replace El := Lib.hid El
  replace lp := Lib.hid lp
  replace lv := Lib.hid lv
  have hP0 := hP
  have hG0 := hG
  have hn0 := hn
  have hd0 := hd
  obtain ⟨hb1, Rn, Rd, Rr, Ro⟩ := bx4 w #[.bool (sg n), .slice nA (nl (mg n)) nc] 24 #[.bool (sg d), .slice dA (nl (mg d)) dc] 24 #[.bool false, .slice none 0 0] 24 #[.bool false, .slice none 0 0] 24
  replace hn := hn.below hb1
  replace hd := hd.below hb1
  replace hG := hG.below hb1
  replace hP := hP.below hb1
  have HBT := hb1
  clear hb1
  have qn0 := Rn.c (i := 0) rfl
  have qn1 := Rn.c (i := 1) rfl
  have qd0 := Rd.c (i := 0) rfl
  have qd1 := Rd.c (i := 1) rfl
  have qr0 := Rr.c (i := 0) rfl
  have qr1 := Rr.c (i := 1) rfl
  have qo0 := Ro.c (i := 0) rfl
  have qo1 := Ro.c (i := 1) rfl
  go_enter Tryz.func61, Tryz.ntmps61
  go_wp2_with (fail)
  obtain ⟨u, Eu⟩ : ∃ zq : Int, zq = (1 : Int) := ⟨_, rfl⟩
  refine (Calls.mono (R := RetI ((((w.alloc (.cells #[.bool (sg n), .slice nA (nl (mg n)) nc] 24)).alloc (.cells #[.bool (sg d), .slice dA (nl (mg d)) dc] 24)).alloc (.cells #[.bool false, .slice none 0 0] 24)).alloc (.cells #[.bool false, .slice none 0 0] 24)) u) (by rw [Eu]; with_reducible exact (of1_c _)) ?_)
  replace Eu := Lib.hid Eu
  rintro e W2 ⟨Xu, cu, rfl, hu, hb2⟩
  replace hn := hn.below hb2
  replace hd := hd.below hb2
  replace hG := hG.below hb2
  replace hP := hP.below hb2
  replace Rn := Rn.below hb2
  replace qn0 := cbl hb2 qn0
  replace qn1 := cbl hb2 qn1
  replace Rd := Rd.below hb2
  replace qd0 := cbl hb2 qd0
  replace qd1 := cbl hb2 qd1
  replace Rr := Rr.below hb2
  replace qr0 := cbl hb2 qr0
  replace qr1 := cbl hb2 qr1
  replace Ro := Ro.below hb2
  replace qo0 := cbl hb2 qo0
  replace qo1 := cbl hb2 qo1
  replace HBT := Below.cons HBT hb2
  clear hb2
  have hsz := Ro.lt
  obtain ⟨bp, Ebp⟩ : ∃ z, z = W2.heap.size := ⟨_, rfl⟩
  obtain ⟨hb3, Rp⟩ := bx1 W2 #[.bool (sg u), .slice Xu (nl (mg u)) cu] 24
  replace hn := hn.below hb3
  replace hd := hd.below hb3
  replace hG := hG.below hb3
  replace hP := hP.below hb3
  replace Rn := Rn.below hb3
  replace qn0 := cbl hb3 qn0
  replace qn1 := cbl hb3 qn1
  replace Rd := Rd.below hb3
  replace qd0 := cbl hb3 qd0
  replace qd1 := cbl hb3 qd1
  replace Rr := Rr.below hb3
  replace qr0 := cbl hb3 qr0
  replace qr1 := cbl hb3 qr1
  replace Ro := Ro.below hb3
  replace qo0 := cbl hb3 qo0
  replace qo1 := cbl hb3 qo1
  replace hu := hu.below hb3
  replace HBT := Below.cons HBT hb3
  clear hb3
  have qp0 := Rp.c (i := 0) rfl
  have qp1 := Rp.c (i := 1) rfl
  have bpl : w.heap.size + 4 ≤ bp := by have := hsz; omega
  clear hsz
  rw [← Ebp] at Rp
  have Rp' := Rp
  replace Ebp := Lib.hid Ebp
  have S0 : BoxA (W2.alloc (.cells #[.bool (sg u), .slice Xu (nl (mg u)) cu] 24)) w.heap.size 24 #[.bool (sg n), .slice nA (nl (mg n)) nc] ∧ BoxA (W2.alloc (.cells #[.bool (sg u), .slice Xu (nl (mg u)) cu] 24)) (w.heap.size + 1) 24 #[.bool (sg d), .slice dA (nl (mg d)) dc] ∧ BoxA (W2.alloc (.cells #[.bool (sg u), .slice Xu (nl (mg u)) cu] 24)) (w.heap.size + 1 + 1) 24 #[.bool false, .slice none 0 0] ∧ BoxA (W2.alloc (.cells #[.bool (sg u), .slice Xu (nl (mg u)) cu] 24)) (w.heap.size + 1 + 1 + 1) 24 #[.bool false, .slice none 0 0] ∧ BoxA (W2.alloc (.cells #[.bool (sg u), .slice Xu (nl (mg u)) cu] 24)) bp 24 #[.bool (sg u), .slice Xu (nl (mg u)) cu] ∧ Below w.heap.size w (W2.alloc (.cells #[.bool (sg u), .slice Xu (nl (mg u)) cu] 24)) := ⟨Rn, Rd, Rr, Ro, Rp, HBT⟩
  have U0 : u = (vv n d (p.drop ln0)).2 := by rw [Eu.out, El.out, List.drop_length]; rfl
  have Z0 : (0 : Int) = (vv n d (p.drop ln0)).1 := by rw [El.out, List.drop_length]; rfl
  have hu1 := hu
  replace S0 := Lib.hid S0
  replace U0 := Lib.hid U0
  replace Z0 := Lib.hid Z0
  have ebp : W2.heap.size = bp := Ebp.out.symm
  go_wp2_with (fail)
  skip
  go_loopw [9] (fun v9 wr => ∃ (j : Nat) (x y : Int) (X : Option Addr) (cx : Nat) (Y : Option Addr) (cy : Nat), v9 = .int .i64 ((j : Int) - 1) ∧ j ≤ ln0 ∧ (BoxA wr w.heap.size 24 #[.bool (sg n), .slice nA (nl (mg n)) nc] ∧ BoxA wr (w.heap.size + 1) 24 #[.bool (sg d), .slice dA (nl (mg d)) dc] ∧ BoxA wr (w.heap.size + 1 + 1) 24 #[.bool false, .slice none 0 0] ∧ BoxA wr (w.heap.size + 1 + 1 + 1) 24 #[.bool (sg x), .slice X (nl (mg x)) cx] ∧ BoxA wr bp 24 #[.bool (sg y), .slice Y (nl (mg y)) cy]) ∧ NatV wr X cx (mg x) ∧ NatV wr Y cy (mg y) ∧ Hid (x = (vv n d (p.drop j)).1 ∧ y = (vv n d (p.drop j)).2) ∧ Below w.heap.size w wr) (fun v9 wr => (intOf v9 + 1).toNat)
  case atStart => exact ⟨ln0, 0, u, none, 0, Xu, cu, rfl, Nat.le_refl _, ⟨S0.out.1, S0.out.2.1, S0.out.2.2.1, by rw [show sg (0 : Int) = false from rfl, mg0, nl_zero]; exact S0.out.2.2.2.1, S0.out.2.2.2.2.1⟩, nat0 _, hu1, Lib.hid ⟨Z0.out, U0.out⟩, S0.out.2.2.2.2.2⟩
  case round =>
    clear hn hd hG hP Rn qn0 qn1 Rd qd0 qd1 Rr qr0 qr1 Ro qo0 qo1 hu Rp qp0 qp1
    clear S0 U0 Z0 hu1 Rp'
    obtain ⟨j, x, y, X, cx, Y, cy, rfl, hj, ⟨Rn, Rd, Rr, Ro, Rp⟩, hx, hy, hxy, HBT⟩ := hrel
    cases j with
    | zero =>
      have t1 : decide (0 ≤ ((0 : Nat) : Int) - 1) = false := by decide
      have hfin : x = (vv n d p).1 := hxy.out.1
      replace hfin := Lib.hid hfin
      have qo0 := Ro.c (i := 0) rfl
      have qo1 := Ro.c (i := 1) rfl
      have qr0 := Rr.c (i := 0) rfl
      have qr1 := Rr.c (i := 1) rfl
      have fr0 := Rr.f (i := 0)
      have fr1 := Rr.f (i := 1)
      go_wp2_with (fail)
      have hzx : x = ((vv n d p).1) := by exact hfin.out
      subst hzx
      have RS := Rr.store2 (.bool (sg ((((vv n d p).1))))) (.slice X (nl (mg ((((vv n d p).1))))) cx)
      have e0 := RS.c (i := 0) rfl
      have e1 := RS.c (i := 1) rfl
      refine bodyPost_ret (v := .agg #[.bool (sg ((((vv n d p).1)))), .slice X (nl (mg ((((vv n d p).1))))) cx]) (by simp [results, Tryz.results61, go_sem, e0, e1]) rfl ?_
      exact ⟨X, cx, rfl, (Rr.keep2 (nuB rfl) hx), (Below.store2 HBT (by first | exact Nat.le_refl _ | omega))⟩
    | succ j =>
      rw [show (((j + 1 : Nat) : Int) - 1) = (j : Int) by omega]
      have t1 : decide (0 ≤ (j : Int)) = true := by simp
      have Wj : IntKind.i64.wrap ((j : Int) - 1) = (j : Int) - 1 := IntWalk.i64_in _ (by omega)
      have L1 : j < ln0 := by omega
      obtain ⟨ad, Z, cz, rfl, pc0, pc1, hz⟩ := (hP0.below HBT).a j (by rw [← El.out]; exact L1)
      have hn := hn0.below HBT
      have hd := hd0.below HBT
      have hG := hG0.below HBT
      obtain ⟨z, Ez⟩ : ∃ z, z = gi p j := ⟨_, rfl⟩
      have lz : nl (mg z) ≤ 7 := by rw [Ez]; exact lp.out j
      rw [← Ez] at pc0 pc1 hz
      have lx : nl (mg x) ≤ 16384 := by rw [hxy.out.1]; exact (lv.out (j + 1)).1
      have ly : nl (mg y) ≤ 16384 := by rw [hxy.out.2]; exact (lv.out (j + 1)).2
      have VV := vv_drop n d p j (by rw [← El.out]; exact L1)
      rw [← hxy.out.1, ← hxy.out.2, ← Ez] at VV
      have bad : (ad.add (j * 2)).block ≠ w.heap.size + 1 + 1 + 1 := by obtain ⟨ad', Z', cz', e, h1, _⟩ := hP0.a j (by rw [← El.out]; exact L1); cases e; have := World.block_lt_of_cell? _ _ h1; omega
      have qn0 := Rn.c (i := 0) rfl
      have qn1 := Rn.c (i := 1) rfl
      have qd0 := Rd.c (i := 0) rfl
      have qd1 := Rd.c (i := 1) rfl
      have qo0 := Ro.c (i := 0) rfl
      have qo1 := Ro.c (i := 1) rfl
      have qp0 := Rp.c (i := 0) rfl
      have qp1 := Rp.c (i := 1) rfl
      replace Ez := Lib.hid Ez
      replace VV := Lib.hid VV
      replace bad := Lib.hid bad
      go_wp2_with (fail)
      obtain ⟨m1, Em1⟩ : ∃ zq : Int, zq = x * n := ⟨_, rfl⟩
      have l1 : nl (mg m1) ≤ 40000 := by rw [Em1]; have := nl_imul x n; omega
      obtain ⟨m2, Em2⟩ : ∃ zq : Int, zq = z * y := ⟨_, rfl⟩
      have l2 : nl (mg m2) ≤ 40000 := by rw [Em2]; have := nl_imul z y; omega
      obtain ⟨o2, Eo2⟩ : ∃ zq : Int, zq = m1 + m2 := ⟨_, rfl⟩
      have C1 := fun (W : World) (h1 : NatV W X cx (mg x)) (h2 : NatV W nA nc (mg n)) (hG : Flds W) => imul_c X cx x nA nc n W h1 h2 hG (by omega) (by omega)
      rw [← Em1] at C1
      replace C1 := Lib.hid C1
      have C2 := fun (W : World) (h1 : NatV W Z cz (mg z)) (h2 : NatV W Y cy (mg y)) (hG : Flds W) => imul_c Z cz z Y cy y W h1 h2 hG (by omega) (by omega)
      rw [← Em2] at C2
      replace C2 := Lib.hid C2
      have C3 := fun (W : World) (A : Option Addr) (c : Nat) (B : Option Addr) (d : Nat) (h1 : NatV W A c (mg m1)) (h2 : NatV W B d (mg m2)) => iadd_c A c m1 B d m2 W h1 h2 (by omega) (by omega)
      rw [← Eo2] at C3
      replace C3 := Lib.hid C3
      have VO : o2 = (vv n d (p.drop j)).1 := by rw [Eo2, Em1, Em2, VV.out]
      have VY : y * d = (vv n d (p.drop j)).2 := by rw [VV.out]
      replace Em1 := Lib.hid Em1
      replace Em2 := Lib.hid Em2
      replace Eo2 := Lib.hid Eo2
      replace VO := Lib.hid VO
      replace VY := Lib.hid VY
      have g1 : (0 : Int) ≤ (j : Int) := Int.natCast_nonneg j
      have g2 : (j : Int) < (ln0 : Int) := by omega
      have g3 : IntKind.i64.wrap (j : Int) = (j : Int) := IntWalk.i64_in _ (by omega)
      clear qd0
      clear qd1
      refine wp_region_fin 10 1 [.val (.agg #[.bool (sg x), .slice X (nl (mg x)) cx]), .val (.agg #[.bool (sg n), .slice nA (nl (mg n)) nc]), .int m1, .val (.slice (some ad) ln0 c), .val (.int .i64 (j : Int)), .val (.pointer (some (ad.add (j * 2)))), .val (.agg #[.bool (sg z), .slice Z (nl (mg z)) cz]), .val (.agg #[.bool (sg y), .slice Y (nl (mg y)) cy]), .int m2, .int o2] (by kernel_rfl) (by kernel_rfl) (by kernel_rfl) (by kernel_rfl) (by kernel_rfl) rfl ?_ ?_
      · skip
        refine ⟨?_, ?_⟩
        · intro Ew aw wc st hdep
          have t7 : aw.tmps[7]? = some (.pointer (some ⟨(w.heap.size + 1 + 1 + 1), 0, none⟩)) := (st.old 7 (by kernel_rfl)).trans (by rfl)
          have qo0 := cbl st.b qo0
          have qo1 := cbl st.b qo1
          have e7 := tmp_of t7
          refine op_want rfl (by rfl) (fun K' hK' => ?_)
          go_simp
          exact hK'.out _ _ ⟨_, rfl, rfl, Below.refl _ _⟩
        refine ⟨?_, ?_⟩
        · intro Ew aw wc st hdep
          have t4 : aw.tmps[4]? = some (.pointer (some ⟨w.heap.size, 0, none⟩)) := (st.old 4 (by kernel_rfl)).trans (by rfl)
          have qn0 := cbl st.b qn0
          have qn1 := cbl st.b qn1
          have e4 := tmp_of t4
          refine op_want rfl (by rfl) (fun K' hK' => ?_)
          go_simp
          exact hK'.out _ _ ⟨_, rfl, rfl, Below.refl _ _⟩
        refine ⟨?_, ?_⟩
        · intro Ew aw wc st hdep
          obtain ⟨v18, t18, r18⟩ := st.nw hdep 0 18
          obtain rfl : v18 = .agg #[.bool (sg x), .slice X (nl (mg x)) cx] := r18
          obtain ⟨v19, t19, r19⟩ := st.nw hdep 1 19
          obtain rfl : v19 = .agg #[.bool (sg n), .slice nA (nl (mg n)) nc] := r19
          have e18 := tmp_of t18
          have e19 := tmp_of t19
          refine op_want rfl (by rfl) (fun K' hK' => ?_)
          go_simp
          refine (Calls.mono (R := RetI wc m1) (C1.out wc (hx.below st.b) (hn.below st.b) (hG.below st.b)) ?_)
          rintro e W ⟨X, c, rfl, hX, kb⟩
          exact hK'.out _ _ ⟨_, rfl, ⟨X, c, rfl, hX⟩, kb⟩
        refine ⟨?_, ?_⟩
        · intro Ew aw wc st hdep
          have t0 : aw.tmps[0]? = some (.slice (some ad) ln0 c) := (st.old 0 (by kernel_rfl)).trans (by rfl)
          have e0 := tmp_of t0
          refine op_want rfl (by rfl) (fun K' hK' => ?_)
          go_simp
          exact hK'.out _ _ ⟨_, rfl, rfl, Below.refl _ _⟩
        refine ⟨?_, ?_⟩
        · intro Ew aw wc st hdep
          have t9 : aw.tmps[9]? = some (.int .i64 (j : Int)) := (st.old 9 (by kernel_rfl)).trans (by rfl)
          have e9 := tmp_of t9
          refine op_want rfl (by rfl) (fun K' hK' => ?_)
          go_simp
          exact hK'.out _ _ ⟨_, rfl, rfl, Below.refl _ _⟩
        refine ⟨?_, ?_⟩
        · intro Ew aw wc st hdep
          obtain ⟨v21, t21, r21⟩ := st.nw hdep 3 21
          obtain rfl : v21 = .slice (some ad) ln0 c := r21
          obtain ⟨v22, t22, r22⟩ := st.nw hdep 4 22
          obtain rfl : v22 = .int .i64 (j : Int) := r22
          have e21 := tmp_of t21
          have e22 := tmp_of t22
          refine op_want rfl (by rfl) (fun K' hK' => ?_)
          go_simp
          exact hK'.out _ _ ⟨_, rfl, rfl, Below.refl _ _⟩
        refine ⟨?_, ?_⟩
        · intro Ew aw wc st hdep
          obtain ⟨v23, t23, r23⟩ := st.nw hdep 5 23
          obtain rfl : v23 = .pointer (some (ad.add (j * 2))) := r23
          have pc0 := cbl st.b pc0
          have pc1 := cbl st.b pc1
          have e23 := tmp_of t23
          refine op_want rfl (by rfl) (fun K' hK' => ?_)
          go_simp
          exact hK'.out _ _ ⟨_, rfl, rfl, Below.refl _ _⟩
        refine ⟨?_, ?_⟩
        · intro Ew aw wc st hdep
          have t8 : aw.tmps[8]? = some (.pointer (some ⟨bp, 0, none⟩)) := (st.old 8 (by kernel_rfl)).trans (by rfl)
          have qp0 := cbl st.b qp0
          have qp1 := cbl st.b qp1
          have e8 := tmp_of t8
          refine op_want rfl (by rfl) (fun K' hK' => ?_)
          go_simp
          exact hK'.out _ _ ⟨_, rfl, rfl, Below.refl _ _⟩
        refine ⟨?_, ?_⟩
        · intro Ew aw wc st hdep
          obtain ⟨v24, t24, r24⟩ := st.nw hdep 6 24
          obtain rfl : v24 = .agg #[.bool (sg z), .slice Z (nl (mg z)) cz] := r24
          obtain ⟨v25, t25, r25⟩ := st.nw hdep 7 25
          obtain rfl : v25 = .agg #[.bool (sg y), .slice Y (nl (mg y)) cy] := r25
          have e24 := tmp_of t24
          have e25 := tmp_of t25
          refine op_want rfl (by rfl) (fun K' hK' => ?_)
          go_simp
          refine (Calls.mono (R := RetI wc m2) (C2.out wc (hz.below st.b) (hy.below st.b) (hG.below st.b)) ?_)
          rintro e W ⟨X, c, rfl, hX, kb⟩
          exact hK'.out _ _ ⟨_, rfl, ⟨X, c, rfl, hX⟩, kb⟩
        refine ⟨?_, ?_⟩
        · intro Ew aw wc st hdep
          obtain ⟨v20, t20, r20⟩ := st.nw hdep 2 20
          obtain ⟨X20, c20, rfl, h20⟩ := r20
          obtain ⟨v26, t26, r26⟩ := st.nw hdep 8 26
          obtain ⟨X26, c26, rfl, h26⟩ := r26
          have e20 := tmp_of t20
          have e26 := tmp_of t26
          refine op_want rfl (by rfl) (fun K' hK' => ?_)
          go_simp
          refine (Calls.mono (R := RetI wc o2) (C3.out wc _ _ _ _ h20 h26) ?_)
          rintro e W ⟨X, c, rfl, hX, kb⟩
          exact hK'.out _ _ ⟨_, rfl, ⟨X, c, rfl, hX⟩, kb⟩
        exact trivial
      intro vs wc hr hB
      obtain ⟨u18, r_18, rfl, k18, hr_18⟩ := hr.un
      obtain rfl : u18 = .agg #[.bool (sg x), .slice X (nl (mg x)) cx] := k18
      obtain ⟨u19, r_19, rfl, k19, hr_19⟩ := hr_18.un
      obtain rfl : u19 = .agg #[.bool (sg n), .slice nA (nl (mg n)) nc] := k19
      obtain ⟨u20, r_20, rfl, k20, hr_20⟩ := hr_19.un
      obtain ⟨X20, c20, rfl, h20⟩ := k20
      obtain ⟨u21, r_21, rfl, k21, hr_21⟩ := hr_20.un
      obtain rfl : u21 = .slice (some ad) ln0 c := k21
      obtain ⟨u22, r_22, rfl, k22, hr_22⟩ := hr_21.un
      obtain rfl : u22 = .int .i64 (j : Int) := k22
      obtain ⟨u23, r_23, rfl, k23, hr_23⟩ := hr_22.un
      obtain rfl : u23 = .pointer (some (ad.add (j * 2))) := k23
      obtain ⟨u24, r_24, rfl, k24, hr_24⟩ := hr_23.un
      obtain rfl : u24 = .agg #[.bool (sg z), .slice Z (nl (mg z)) cz] := k24
      obtain ⟨u25, r_25, rfl, k25, hr_25⟩ := hr_24.un
      obtain rfl : u25 = .agg #[.bool (sg y), .slice Y (nl (mg y)) cy] := k25
      obtain ⟨u26, r_26, rfl, k26, hr_26⟩ := hr_25.un
      obtain ⟨X26, c26, rfl, h26⟩ := k26
      obtain ⟨u27, r_27, rfl, k27, hr_27⟩ := hr_26.un
      obtain ⟨X27, c27, rfl, h27⟩ := k27
      obtain rfl := hr_27.nil
      clear hr hr_18 hr_19 hr_20 hr_21 hr_22 hr_23 hr_24 hr_25 hr_26 hr_27
      replace hn := hn.below hB
      replace hd := hd.below hB
      replace hG := hG.below hB
      replace hx := hx.below hB
      replace hy := hy.below hB
      replace hz := hz.below hB
      replace Rn := Rn.below hB
      replace Rd := Rd.below hB
      replace Rr := Rr.below hB
      replace Ro := Ro.below hB
      replace Rp := Rp.below hB
      replace qn0 := cbl hB qn0
      replace qn1 := cbl hB qn1
      replace qo0 := cbl hB qo0
      replace qo1 := cbl hB qo1
      replace qp0 := cbl hB qp0
      replace qp1 := cbl hB qp1
      replace pc0 := cbl hB pc0
      replace pc1 := cbl hB pc1
      replace HBT := Below.cons HBT hB
      clear hB
      simp only [upTo, List.take_succ_cons, List.take_zero, putAll, Act.put, seq0, seq1, seq2]
      clear hx
      clear hz
      clear pc0
      clear pc1
      clear qo0
      clear qo1
      clear qn0
      clear qn1
      clear qp0
      clear qp1
      have zo0 := Ro.c (i := 0) rfl
      have zo1 := Ro.c (i := 1) rfl
      have fyo0 := Ro.f (i := 0)
      have fyo1 := Ro.f (i := 1)
      have fo0_201 := Ro.f (i := 0)
      have fo1_201 := Ro.f (i := 1)
      have Rn_201 : BoxA ((wc.setCell ⟨(w.heap.size + 1 + 1 + 1), 0, none⟩ (.bool (sg o2))).setCell ⟨(w.heap.size + 1 + 1 + 1), 1, none⟩ (.slice X27 (nl (mg o2)) c27)) _ _ _ := Rn.other2 (by first | omega | (simp; done) | (simp; omega))
      have Rd_201 : BoxA ((wc.setCell ⟨(w.heap.size + 1 + 1 + 1), 0, none⟩ (.bool (sg o2))).setCell ⟨(w.heap.size + 1 + 1 + 1), 1, none⟩ (.slice X27 (nl (mg o2)) c27)) _ _ _ := Rd.other2 (by first | omega | (simp; done) | (simp; omega))
      have Rr_201 : BoxA ((wc.setCell ⟨(w.heap.size + 1 + 1 + 1), 0, none⟩ (.bool (sg o2))).setCell ⟨(w.heap.size + 1 + 1 + 1), 1, none⟩ (.slice X27 (nl (mg o2)) c27)) _ _ _ := Rr.other2 (by first | omega | (simp; done) | (simp; omega))
      have Ro_201 := Ro.store2 (.bool (sg o2)) (.slice X27 (nl (mg o2)) c27)
      have Rp_201 : BoxA ((wc.setCell ⟨(w.heap.size + 1 + 1 + 1), 0, none⟩ (.bool (sg o2))).setCell ⟨(w.heap.size + 1 + 1 + 1), 1, none⟩ (.slice X27 (nl (mg o2)) c27)) _ _ _ := Rp.other2 (by first | omega | (simp; done) | (simp; omega))
      have hn_201 := Ro.keep2 (v0 := .bool (sg o2)) (v1 := .slice X27 (nl (mg o2)) c27) (nuB rfl) hn
      have hd_201 := Ro.keep2 (v0 := .bool (sg o2)) (v1 := .slice X27 (nl (mg o2)) c27) (nuB rfl) hd
      have hy_201 := Ro.keep2 (v0 := .bool (sg o2)) (v1 := .slice X27 (nl (mg o2)) c27) (nuB rfl) hy
      have h27_201 := Ro.keep2 (v0 := .bool (sg o2)) (v1 := .slice X27 (nl (mg o2)) c27) (nuB rfl) h27
      have HBT_201 := Below.store2 (v0 := .bool (sg o2)) (v1 := .slice X27 (nl (mg o2)) c27) HBT (k := (w.heap.size + 1 + 1 + 1)) (by first | exact Nat.le_refl _ | omega)
      have hG_201 := hG0.below HBT_201
      refine TailP.one rfl (by rfl) (fun K' hK' => ?_)
      go_simp
      refine hK'.out _ _ ?_
      try simp only [Act.put, seq0, seq1, seq2]
      refine TailP.done ?_
      clear zo0 zo1
      generalize hV1 : ((wc.setCell ⟨(w.heap.size + 1 + 1 + 1), 0, none⟩ (.bool (sg o2))).setCell ⟨(w.heap.size + 1 + 1 + 1), 1, none⟩ (.slice X27 (nl (mg o2)) c27)) = V1 at *
      clear hV1
      have qd0 := Rd_201.c (i := 0) rfl
      have qd1 := Rd_201.c (i := 1) rfl
      have qp0 := Rp_201.c (i := 0) rfl
      have qp1 := Rp_201.c (i := 1) rfl
      go_wp2_with (fail)
      obtain ⟨y2, Ey2⟩ : ∃ zq : Int, zq = y * d := ⟨_, rfl⟩
      refine (Calls.mono (R := RetI V1 y2) (by rw [Ey2]; with_reducible exact (imul_c Y cy y dA dc d _ hy_201 hd_201 hG_201 (by omega) (by omega))) ?_)
      replace Ey2 := Lib.hid Ey2
      rintro e W202 ⟨Xy2, cy2, rfl, hy2, hb202⟩
      replace Rn_201 := Rn_201.below hb202
      replace Rd_201 := Rd_201.below hb202
      replace Rr_201 := Rr_201.below hb202
      replace Ro_201 := Ro_201.below hb202
      replace Rp_201 := Rp_201.below hb202
      replace hn_201 := hn_201.below hb202
      replace hd_201 := hd_201.below hb202
      replace hG_201 := hG_201.below hb202
      replace hy_201 := hy_201.below hb202
      replace h27_201 := h27_201.below hb202
      replace qd0 := cbl hb202 qd0
      replace qd1 := cbl hb202 qd1
      replace qp0 := cbl hb202 qp0
      replace qp1 := cbl hb202 qp1
      have HBT := Below.cons HBT_201 hb202
      clear hb202
      clear qd0
      clear qd1
      clear qp0
      clear qp1
      clear hy_201
      have zp0 := Rp_201.c (i := 0) rfl
      have zp1 := Rp_201.c (i := 1) rfl
      have fyp0 := Rp_201.f (i := 0)
      have fyp1 := Rp_201.f (i := 1)
      clear hG_201
      have fp0_203 := Rp_201.f (i := 0)
      have fp1_203 := Rp_201.f (i := 1)
      have Rn_203 : BoxA ((W202.setCell ⟨bp, 0, none⟩ (.bool (sg y2))).setCell ⟨bp, 1, none⟩ (.slice Xy2 (nl (mg y2)) cy2)) _ _ _ := Rn_201.other2 (by first | omega | (simp; done) | (simp; omega))
      have Rd_203 : BoxA ((W202.setCell ⟨bp, 0, none⟩ (.bool (sg y2))).setCell ⟨bp, 1, none⟩ (.slice Xy2 (nl (mg y2)) cy2)) _ _ _ := Rd_201.other2 (by first | omega | (simp; done) | (simp; omega))
      have Rr_203 : BoxA ((W202.setCell ⟨bp, 0, none⟩ (.bool (sg y2))).setCell ⟨bp, 1, none⟩ (.slice Xy2 (nl (mg y2)) cy2)) _ _ _ := Rr_201.other2 (by first | omega | (simp; done) | (simp; omega))
      have Ro_203 : BoxA ((W202.setCell ⟨bp, 0, none⟩ (.bool (sg y2))).setCell ⟨bp, 1, none⟩ (.slice Xy2 (nl (mg y2)) cy2)) _ _ _ := Ro_201.other2 (by first | omega | (simp; done) | (simp; omega))
      have Rp_203 := Rp_201.store2 (.bool (sg y2)) (.slice Xy2 (nl (mg y2)) cy2)
      have hn_203 := Rp_201.keep2 (v0 := .bool (sg y2)) (v1 := .slice Xy2 (nl (mg y2)) cy2) (nuB rfl) hn_201
      have hd_203 := Rp_201.keep2 (v0 := .bool (sg y2)) (v1 := .slice Xy2 (nl (mg y2)) cy2) (nuB rfl) hd_201
      have h27_203 := Rp_201.keep2 (v0 := .bool (sg y2)) (v1 := .slice Xy2 (nl (mg y2)) cy2) (nuB rfl) h27_201
      have hy2_203 := Rp_201.keep2 (v0 := .bool (sg y2)) (v1 := .slice Xy2 (nl (mg y2)) cy2) (nuB rfl) hy2
      have HBT_203 := Below.store2 (v0 := .bool (sg y2)) (v1 := .slice Xy2 (nl (mg y2)) cy2) HBT (k := bp) (by first | exact Nat.le_refl _ | omega)
      have HF := Lib.hid (And.intro (And.intro Rn_203 (And.intro Rd_203 (And.intro Rr_203 (And.intro Ro_203 Rp_203)))) (And.intro h27_203 (And.intro hy2_203 HBT_203)))
      go_wp2_with (fail)
      go_roundw
      case rel => exact ⟨j, o2, y2, X27, c27, Xy2, cy2, rfl, by omega, HF.out.1, HF.out.2.1, HF.out.2.2.1, Lib.hid ⟨VO.out, by rw [Ey2.out]; exact VY.out⟩, HF.out.2.2.2⟩
      case measure => simp only [intOf]; omega
theorem eval_c (V : Option Addr) (c : Nat) (p : List Int) (qA : Option Addr) (qc : Nat) (qB : Option Addr) (qd : Nat) (q : Rat) (w : World) (hP : PolV w V c p) (hq : NatV w qA qc (mg q.num)) (gq : NatV w qB qd q.den) (hG : Flds w) (h0 : 0 < p.length) (hl : p.length ≤ 1000) (ln : nl (mg q.num) ≤ 7) (ld : nl q.den * p.length ≤ 15000) (lp : ∀ j, nl (mg (gi p j)) ≤ 7) (ld7 : nl q.den ≤ 7) (lw : nl (q.den ^ (p.length - 1)) ≤ 7)
    (lv : ∀ j, nl (mg (vv q.num (q.den : Int) (p.drop j)).1) ≤ 16384 ∧ nl (mg (vv q.num (q.den : Int) (p.drop j)).2) ≤ 16384) :
    Calls Tryz.prog 23 #[.slice V p.length c, .agg #[.bool (sg q.num), .slice qA (nl (mg q.num)) qc, .slice qB (nl q.den) qd]] w (RetR w (Rat.divInt (vv q.num (q.den : Int) p).1 ((q.den : Int) ^ (p.length - 1)))) := by
  have ld1 : nl q.den ≤ 15000 := by have := Nat.le_mul_of_pos_right (nl q.den) h0; omega
  have dz := q.den_nz
  obtain ⟨d, Ed⟩ : ∃ zq : Int, zq = (q.den : Int) := ⟨_, rfl⟩
  have Vd : mg d = q.den := by rw [Ed]; exact mg_nat _
  have Sd : sg d = false := by rw [Ed]; exact sg_f (Int.natCast_nonneg _)
  have d0 : 0 < d := by rw [Ed]; omega
  rw [← Ed] at lv ⊢
  obtain ⟨v, Ev⟩ : ∃ zq : Int, zq = (vv q.num d p).1 := ⟨_, rfl⟩
  have Nv : nl (mg v) ≤ 16384 := by rw [Ev]; exact (lv 0).1
  obtain ⟨n, En⟩ : ∃ n, n = p.length := ⟨_, rfl⟩
  obtain ⟨m, Em⟩ : ∃ m, m = n - 1 := ⟨_, rfl⟩
  obtain ⟨pw, Epw⟩ : ∃ zq : Int, zq = d ^ m := ⟨_, rfl⟩
  have Npw : nl (mg pw) ≤ 16384 := by rw [Epw]; unfold mg; rw [Int.natAbs_pow]; have h1 := nl_pow_le d.natAbs m; have h2 : nl d.natAbs = nl q.den := (by rw [← Vd]; rfl); rw [h2] at h1; have h3 : nl q.den * m ≤ nl q.den * p.length := Nat.mul_le_mul_left _ (by omega); omega
  have P0 : 0 < pw := by rw [Epw]; exact Int.pow_pos d0
  obtain ⟨z, Ez⟩ : ∃ zq : Rat, zq = Rat.divInt v pw := ⟨_, rfl⟩
  rw [← En] at h0 hl ld lw ⊢
  rw [← Em] at lw
  rw [← Ev, ← Em, ← Epw, ← Ez]
  have CV := fun (W : World) (h1 : PolV W V c p) (h2 : NatV W qA qc (mg q.num)) (h3 : NatV W qB qd (mg d)) (hG : Flds W) => value_c V c p qA qc q.num qB qd d W h1 h2 h3 hG (by omega) (by omega) (by rw [Vd]; omega) lp lv
  rw [← Ev, ← En, Sd, Vd] at CV
  have CD := deg_c V c n (hn := (by omega : n ≤ 1048576))
  have CP := fun (W : World) (h3 : NatV W qB qd (mg d)) (hG : Flds W) => ipow_f qB qd d m W h3 hG (by rw [Vd]; have h3 : nl q.den * m ≤ nl q.den * n := Nat.mul_le_mul_left _ (by omega); omega) (by rw [Vd]; omega) (by omega) (by omega) (by rw [Vd]; exact lw)
  rw [← Epw, Sd, Vd] at CP
  have CM := fun (W : World) (A : Option Addr) (c : Nat) (B : Option Addr) (d : Nat) (h1 : NatV W A c (mg v)) (h2 : NatV W B d (mg pw)) => rmake_q A c v B d pw W h1 h2 (by omega) (by omega) P0
  rw [← Ez] at CM
  have Im : (n : Int) - 1 = (m : Int) := by omega
  have t1 : ((n : Int) == 0) = false := ieqF (by omega)
  have t2 : (n == 0) = false := by simp; omega
  replace Ed := Lib.hid Ed
  replace Ev := Lib.hid Ev
  replace En := Lib.hid En
  replace Em := Lib.hid Em
  replace Epw := Lib.hid Epw
  replace Ez := Lib.hid Ez
  replace CV := Lib.hid CV
  replace CP := Lib.hid CP
  replace CM := Lib.hid CM
  replace CD := Lib.hid CD
  replace lp := Lib.hid lp
  replace lv := Lib.hid lv
  replace P0 := Lib.hid P0
  replace Vd := Lib.hid Vd
  replace Sd := Lib.hid Sd
  replace dz := Lib.hid dz
  obtain ⟨hb1, Rq, Rr, Rd⟩ := bx3 w #[.bool (sg q.num), .slice qA (nl (mg q.num)) qc, .slice qB (nl q.den) qd] 26 #[.bool false, .slice none 0 0, .slice none 0 0] 26 #[.bool false, .slice qB (nl q.den) qd] 24
  replace hq := hq.below hb1
  replace gq := gq.below hb1
  replace hP := hP.below hb1
  replace hG := hG.below hb1
  have HBT := hb1
  clear hb1
  have qq0 := Rq.c (i := 0) rfl
  have qq1 := Rq.c (i := 1) rfl
  have qq2 := Rq.c (i := 2) rfl
  have qr0 := Rr.c (i := 0) rfl
  have qr1 := Rr.c (i := 1) rfl
  have qr2 := Rr.c (i := 2) rfl
  have qd0 := Rd.c (i := 0) rfl
  have qd1 := Rd.c (i := 1) rfl
  go_enter Tryz.func23, Tryz.ntmps23
  go_wp2_with (fail)
  generalize hW0 : (((w.alloc (.cells #[.bool (sg q.num), .slice qA (nl (mg q.num)) qc, .slice qB (nl q.den) qd] 26)).alloc (.cells #[.bool false, .slice none 0 0, .slice none 0 0] 26)).alloc (.cells #[.bool false, .slice qB (nl q.den) qd] 24)) = W0 at *
  replace hW0 := Lib.hid hW0
  have hsz := Rd.lt
  replace hsz := Lib.hid hsz
  refine wp_region_inv (fun E a' w' => ∃ (u17 u18 u19 u20 u21 u22 u23 u24 u25 u26 u16 u27 u28 u6 u7 : Value),
    a' = { tmps := #[.slice V n c, .agg #[.bool (sg q.num), .slice qA (nl (mg q.num)) qc, .slice qB (nl q.den) qd], undef, .pointer (some ⟨w.heap.size, 0, none⟩), .pointer (some ⟨(w.heap.size + 1), 0, none⟩), .pointer (some ⟨(w.heap.size + 1 + 1), 0, none⟩), u6, u7, .slice V n c, .int .i64 n, .bool false, undef, undef, .pointer (some ⟨w.heap.size, 2, none⟩), .slice qB (nl q.den) qd, .agg #[.bool false, .slice qB (nl q.den) qd], u16, u17, u18, u19, u20, u21, u22, u23, u24, u25, u26, u27, u28, undef], defers := [] } ∧
    (E 0 = true → u17 = .slice V n c) ∧
    (E 1 = true → u18 = .pointer (some ⟨w.heap.size, 0, none⟩)) ∧
    (E 2 = true → u19 = .agg #[.bool (sg q.num), .slice qA (nl (mg q.num)) qc]) ∧
    (E 3 = true → u20 = .agg #[.bool false, .slice qB (nl q.den) qd]) ∧
    (E 4 = true → PI u21 v w') ∧
    (E 5 = true → u22 = .agg #[.bool false, .slice qB (nl q.den) qd]) ∧
    (E 6 = true → u23 = .slice V n c) ∧
    (E 7 = true → u24 = .int .i64 (m : Nat)) ∧
    (E 8 = true → PI u25 pw w') ∧
    (E 9 = true → PRt u26 z w') ∧
    (E 10 = true → PRt u16 z w') ∧
    (E 11 = true → PR u27 z w') ∧
    (E 12 = true → u28 = .int .i64 0) ∧
    (E 13 = true → PB3 26 W0.heap.size u6 w') ∧
    (E 14 = true → PBR W0.heap.size u6 z w') ∧
    (E 15 = true → u7 = .int .i64 0) ∧
    (E 14 = true → E 13 = true) ∧
    Below W0.heap.size W0 w') (by kernel_rfl) (by kernel_rfl) ?init ?fin ?step
  case init => exact ⟨_, _, _, _, _, _, _, _, _, _, _, _, _, _, _, rfl, by simp, by simp, by simp, by simp, by simp, by simp, by simp, by simp, by simp, by simp, by simp, by simp, by simp, by simp, by simp, by simp, by simp, (Below.refl _ _).drew⟩
  case step =>
    rintro E a' w' i ⟨u17, u18, u19, u20, u21, u22, u23, u24, u25, u26, u16, u27, u28, u6, u7, rfl, h0, h1, h2, h3, h4, h5, h6, h7, h8, h9, h10, h11, h12, h13, h14, h15, hD14, hB⟩ hi hEi hdep
    have qq0 := cbl hB qq0
    have qq1 := cbl hB qq1
    have qd0 := cbl hB qd0
    have qd1 := cbl hB qd1
    obtain rfl | rfl | rfl | rfl | rfl | rfl | rfl | rfl | rfl | rfl | rfl | rfl | rfl | rfl | rfl | rfl : i = 0 ∨ i = 1 ∨ i = 2 ∨ i = 3 ∨ i = 4 ∨ i = 5 ∨ i = 6 ∨ i = 7 ∨ i = 8 ∨ i = 9 ∨ i = 10 ∨ i = 11 ∨ i = 12 ∨ i = 13 ∨ i = 14 ∨ i = 15 := by simp at hi; omega
    · skip
      refine wpOp_step rfl (fun K' hK' => ?_)
      go_simp
      refine hK' _ _ ?_
      exact ⟨_, _, _, _, _, _, _, _, _, _, _, _, _, _, _, rfl, fun _ => rfl, kd h1, kd h2, kd h3, kd h4, kd h5, kd h6, kd h7, kd h8, kd h9, kd h10, kd h11, kd h12, kd h13, kd h14, kd h15, (fun h => by have := hD14 (by simpa using h); simpa using this), hB⟩
    · skip
      refine wpOp_step rfl (fun K' hK' => ?_)
      go_simp
      refine hK' _ _ ?_
      exact ⟨_, _, _, _, _, _, _, _, _, _, _, _, _, _, _, rfl, kd h0, fun _ => rfl, kd h2, kd h3, kd h4, kd h5, kd h6, kd h7, kd h8, kd h9, kd h10, kd h11, kd h12, kd h13, kd h14, kd h15, (fun h => by have := hD14 (by simpa using h); simpa using this), hB⟩
    · skip
      have d1 := hdep _ rfl ⟨1, .data⟩ (by simp) rfl
      obtain rfl := h1 d1
      refine wpOp_step rfl (fun K' hK' => ?_)
      go_simp
      refine hK' _ _ ?_
      exact ⟨_, _, _, _, _, _, _, _, _, _, _, _, _, _, _, rfl, kd h0, kd h1, fun _ => rfl, kd h3, kd h4, kd h5, kd h6, kd h7, kd h8, kd h9, kd h10, kd h11, kd h12, kd h13, kd h14, kd h15, (fun h => by have := hD14 (by simpa using h); simpa using this), hB⟩
    · skip
      refine wpOp_step rfl (fun K' hK' => ?_)
      go_simp
      refine hK' _ _ ?_
      exact ⟨_, _, _, _, _, _, _, _, _, _, _, _, _, _, _, rfl, kd h0, kd h1, kd h2, fun _ => rfl, kd h4, kd h5, kd h6, kd h7, kd h8, kd h9, kd h10, kd h11, kd h12, kd h13, kd h14, kd h15, (fun h => by have := hD14 (by simpa using h); simpa using this), hB⟩
    · skip
      have d0 := hdep _ rfl ⟨0, .data⟩ (by simp) rfl
      obtain rfl := h0 d0
      have d2 := hdep _ rfl ⟨2, .data⟩ (by simp) rfl
      obtain rfl := h2 d2
      have d3 := hdep _ rfl ⟨3, .data⟩ (by simp) rfl
      obtain rfl := h3 d3
      refine wpOp_step rfl (fun K' hK' => ?_)
      go_simp
      refine (Calls.mono (CV.out w' (hP.below hB) (hq.below hB) (gq.below hB) (hG.below hB)) ?_)
      rintro e W1 ⟨Xr, cr, rfl, kr, kb⟩
      refine hK' _ _ ?_
      exact ⟨_, _, _, _, _, _, _, _, _, _, _, _, _, _, _, rfl, kd h0, kd h1, kd h2, kd h3, fun _ => ⟨Xr, cr, rfl, kr⟩, kd h5, kd h6, kd h7, kp h8 (fun h => h.below kb), kp h9 (fun h => h.below kb), kp h10 (fun h => h.below kb), kp h11 (fun h => h.below kb), kd h12, kp h13 (fun h => h.below kb), kp h14 (fun h => h.below kb), kd h15, (fun h => by have := hD14 (by simpa using h); simpa using this), Below.cons hB kb⟩
    · skip
      refine wpOp_step rfl (fun K' hK' => ?_)
      go_simp
      refine hK' _ _ ?_
      exact ⟨_, _, _, _, _, _, _, _, _, _, _, _, _, _, _, rfl, kd h0, kd h1, kd h2, kd h3, kd h4, fun _ => rfl, kd h6, kd h7, kd h8, kd h9, kd h10, kd h11, kd h12, kd h13, kd h14, kd h15, (fun h => by have := hD14 (by simpa using h); simpa using this), hB⟩
    · skip
      refine wpOp_step rfl (fun K' hK' => ?_)
      go_simp
      refine hK' _ _ ?_
      exact ⟨_, _, _, _, _, _, _, _, _, _, _, _, _, _, _, rfl, kd h0, kd h1, kd h2, kd h3, kd h4, kd h5, fun _ => rfl, kd h7, kd h8, kd h9, kd h10, kd h11, kd h12, kd h13, kd h14, kd h15, (fun h => by have := hD14 (by simpa using h); simpa using this), hB⟩
    · skip
      have d6 := hdep _ rfl ⟨6, .data⟩ (by simp) rfl
      obtain rfl := h6 d6
      refine wpOp_step rfl (fun K' hK' => ?_)
      go_simp
      refine (Calls.mono ((CD.out w').mono (fun e w1 h => (show e = .returned (.int .i64 (m : Nat)) ∧ Below w'.heap.size w' w1 from ⟨by rw [h.1, Im], by rw [h.2]; exact Below.refl _ _⟩))) ?_)
      rintro e W1 ⟨rfl, kb⟩
      refine hK' _ _ ?_
      exact ⟨_, _, _, _, _, _, _, _, _, _, _, _, _, _, _, rfl, kd h0, kd h1, kd h2, kd h3, kp h4 (fun h => h.below kb), kd h5, kd h6, fun _ => rfl, kp h8 (fun h => h.below kb), kp h9 (fun h => h.below kb), kp h10 (fun h => h.below kb), kp h11 (fun h => h.below kb), kd h12, kp h13 (fun h => h.below kb), kp h14 (fun h => h.below kb), kd h15, (fun h => by have := hD14 (by simpa using h); simpa using this), Below.cons hB kb⟩
    · skip
      have d5 := hdep _ rfl ⟨5, .data⟩ (by simp) rfl
      obtain rfl := h5 d5
      have d7 := hdep _ rfl ⟨7, .data⟩ (by simp) rfl
      obtain rfl := h7 d7
      refine wpOp_step rfl (fun K' hK' => ?_)
      go_simp
      refine (Calls.mono (CP.out w' (gq.below hB) (hG.below hB)) ?_)
      rintro e W1 ⟨Xr, cr, rfl, kr, kb⟩
      refine hK' _ _ ?_
      exact ⟨_, _, _, _, _, _, _, _, _, _, _, _, _, _, _, rfl, kd h0, kd h1, kd h2, kd h3, kp h4 (fun h => h.below kb), kd h5, kd h6, kd h7, fun _ => ⟨Xr, cr, rfl, kr⟩, kp h9 (fun h => h.below kb), kp h10 (fun h => h.below kb), kp h11 (fun h => h.below kb), kd h12, kp h13 (fun h => h.below kb), kp h14 (fun h => h.below kb), kd h15, (fun h => by have := hD14 (by simpa using h); simpa using this), Below.cons hB kb⟩
    · skip
      have d4 := hdep _ rfl ⟨4, .data⟩ (by simp) rfl
      obtain ⟨X_4, c_4, rfl, k_4⟩ := h4 d4
      have d8 := hdep _ rfl ⟨8, .data⟩ (by simp) rfl
      obtain ⟨X_8, c_8, rfl, k_8⟩ := h8 d8
      refine wpOp_step rfl (fun K' hK' => ?_)
      go_simp
      refine (Calls.mono (CM.out w' _ _ _ _ k_4 k_8) ?_)
      rintro e W1 ⟨Xr, cr, Yr, dr, rfl, kr, lr, kb⟩
      refine hK' _ _ ?_
      exact ⟨_, _, _, _, _, _, _, _, _, _, _, _, _, _, _, rfl, kd h0, kd h1, kd h2, kd h3, kp h4 (fun h => h.below kb), kd h5, kd h6, kd h7, kp h8 (fun h => h.below kb), fun _ => ⟨Xr, cr, Yr, dr, rfl, kr, lr⟩, kp h10 (fun h => h.below kb), kp h11 (fun h => h.below kb), kd h12, kp h13 (fun h => h.below kb), kp h14 (fun h => h.below kb), kd h15, (fun h => by have := hD14 (by simpa using h); simpa using this), Below.cons hB kb⟩
    · skip
      have d9 := hdep _ rfl ⟨9, .data⟩ (by simp) rfl
      obtain ⟨X_9, c_9, Y_9, d_9, rfl, k_9, l_9⟩ := h9 d9
      refine wpOp_step rfl (fun K' hK' => ?_)
      go_simp
      refine hK' _ _ ?_
      exact ⟨_, _, _, _, _, _, _, _, _, _, _, _, _, _, _, rfl, kd h0, kd h1, kd h2, kd h3, kd h4, kd h5, kd h6, kd h7, kd h8, kd h9, fun _ => ⟨X_9, c_9, Y_9, d_9, rfl, k_9, l_9⟩, kd h11, kd h12, kd h13, kd h14, kd h15, (fun h => by have := hD14 (by simpa using h); simpa using this), hB⟩
    · skip
      have d10 := hdep _ rfl ⟨10, .data⟩ (by simp) rfl
      obtain ⟨X_10, c_10, Y_10, d_10, rfl, k_10, l_10⟩ := h10 d10
      refine wpOp_step rfl (fun K' hK' => ?_)
      go_simp
      refine hK' _ _ ?_
      exact ⟨_, _, _, _, _, _, _, _, _, _, _, _, _, _, _, rfl, kd h0, kd h1, kd h2, kd h3, kd h4, kd h5, kd h6, kd h7, kd h8, kd h9, kd h10, fun _ => ⟨X_10, c_10, Y_10, d_10, rfl, k_10, l_10⟩, kd h12, kd h13, kd h14, kd h15, (fun h => by have := hD14 (by simpa using h); simpa using this), hB⟩
    · skip
      have d10 := hdep _ rfl ⟨10, .data⟩ (by simp) rfl
      obtain ⟨X_10, c_10, Y_10, d_10, rfl, k_10, l_10⟩ := h10 d10
      refine wpOp_step rfl (fun K' hK' => ?_)
      go_simp
      refine hK' _ _ ?_
      exact ⟨_, _, _, _, _, _, _, _, _, _, _, _, _, _, _, rfl, kd h0, kd h1, kd h2, kd h3, kd h4, kd h5, kd h6, kd h7, kd h8, kd h9, kd h10, kd h11, fun _ => rfl, kd h13, kd h14, kd h15, (fun h => by have := hD14 (by simpa using h); simpa using this), hB⟩
    · skip
      have kb : Below w'.heap.size w' (w'.alloc (.cells #[.bool false, .slice none 0 0, .slice none 0 0] 26)) := (Below.refl _ _).alloc (Nat.le_refl _) _
      refine wpOp_step rfl (fun K' hK' => ?_)
      go_simp
      refine hK' _ _ ?_
      exact ⟨_, _, _, _, _, _, _, _, _, _, _, _, _, _, _, rfl, kd h0, kd h1, kd h2, kd h3, kp h4 (fun h => h.below kb), kd h5, kd h6, kd h7, kp h8 (fun h => h.below kb), kp h9 (fun h => h.below kb), kp h10 (fun h => h.below kb), kp h11 (fun h => h.below kb), kd h12, fun _ => ⟨_, _, _, _, rfl, hB.size, ⟨at_new rfl⟩, notU_bool _, notU_slice _ _ _, notU_slice _ _ _⟩, (fun h => by have h2 := hD14 (by simpa using h); rw [hEi] at h2; cases h2), kd h15, (fun _ => by simp), Below.cons hB kb⟩
    · skip
      have d13 := hdep _ rfl ⟨13, .data⟩ (by simp) rfl
      obtain ⟨nb, z0, z1, z2, rfl, hn, hb, nz0, nz1, nz2⟩ := h13 d13
      have d11 := hdep _ rfl ⟨11, .data⟩ (by simp) rfl
      obtain ⟨X_11, c_11, Y_11, d_11, rfl, k_11, l_11⟩ := h11 d11
      have fz0 := hb.f (i := 0)
      have cz0 := hb.c (i := 0) rfl
      have fz1 := hb.f (i := 1)
      have cz1 := hb.c (i := 1) rfl
      have fz2 := hb.f (i := 2)
      have cz2 := hb.c (i := 2) rfl
      have hp := hb.put3 (notU3 nz0 nz1 nz2) (.bool (sg z.num)) (.slice X_11 (nl (mg z.num)) c_11) (.slice Y_11 (nl z.den) d_11)
      have hs := hb.store3 (.bool (sg z.num)) (.slice X_11 (nl (mg z.num)) c_11) (.slice Y_11 (nl z.den) d_11)
      refine wpOp_step rfl (fun K' hK' => ?_)
      go_simp
      refine hK' _ _ ?_
      exact ⟨_, _, _, _, _, _, _, _, _, _, _, _, _, _, _, rfl, kd h0, kd h1, kd h2, kd h3, kp h4 (fun h => h.put hp), kd h5, kd h6, kd h7, kp h8 (fun h => h.put hp), kp h9 (fun h => h.put hp), kp h10 (fun h => h.put hp), kp h11 (fun h => h.put hp), kd h12, (fun _ => ⟨nb, _, _, _, rfl, hn, hs, notU_bool _, notU_slice _ _ _, notU_slice _ _ _⟩), fun _ => ⟨nb, X_11, c_11, Y_11, d_11, rfl, hn, hs, hp.nat k_11, hp.nat l_11⟩, kd h15, (fun _ => by simp [d13]), Below.store3 hB hn⟩
    · skip
      have d12 := hdep _ rfl ⟨12, .data⟩ (by simp) rfl
      obtain rfl := h12 d12
      refine wpOp_step rfl (fun K' hK' => ?_)
      go_simp
      refine hK' _ _ ?_
      exact ⟨_, _, _, _, _, _, _, _, _, _, _, _, _, _, _, rfl, kd h0, kd h1, kd h2, kd h3, kd h4, kd h5, kd h6, kd h7, kd h8, kd h9, kd h10, kd h11, kd h12, kd h13, kd h14, fun _ => rfl, (fun h => by have := hD14 (by simpa using h); simpa using this), hB⟩
  case fin =>
    rintro E a' w' ⟨u17, u18, u19, u20, u21, u22, u23, u24, u25, u26, u16, u27, u28, u6, u7, rfl, h0, h1, h2, h3, h4, h5, h6, h7, h8, h9, h10, h11, h12, h13, h14, h15, hD14, hB⟩ hall
    obtain ⟨nbz, Xz, cz, Yz, dz, rfl, hnz, Rz, hz, gz⟩ := h14 (hall 14 (by simp))
    replace hq := hq.below hB
    replace gq := gq.below hB
    replace hP := hP.below hB
    replace hG := hG.below hB
    replace Rq := Rq.below hB
    replace qq0 := cbl hB qq0
    replace qq1 := cbl hB qq1
    replace qq2 := cbl hB qq2
    replace Rr := Rr.below hB
    replace qr0 := cbl hB qr0
    replace qr1 := cbl hB qr1
    replace qr2 := cbl hB qr2
    replace Rd := Rd.below hB
    replace qd0 := cbl hB qd0
    replace qd1 := cbl hB qd1
    replace HBT := Below.cons HBT hB
    have kvz := hnz
    have qz0 := Rz.c (i := 0) rfl
    have qz1 := Rz.c (i := 1) rfl
    have qz2 := Rz.c (i := 2) rfl
    clear hall
    generalize hV1 : w' = V1 at *
    clear hV1
    clear qq0
    clear qq1
    clear qq2
    clear qd0
    clear qd1
    clear Rq
    clear Rd
    clear hP
    clear hG
    have hw1 : w.heap.size + 1 < nbz := by have := hsz.out; omega
    have fzr0 := Rr.f (i := 0)
    have fzr1 := Rr.f (i := 1)
    have fzr2 := Rr.f (i := 2)
    go_wp2_with (fail)
    have hzz : z = (Rat.divInt v pw) := by exact Ez.out
    subst hzz
    have RS := Rr.store3 (.bool (sg (((Rat.divInt v pw))).num)) (.slice Xz (nl (mg (((Rat.divInt v pw))).num)) cz) (.slice Yz (nl (((Rat.divInt v pw))).den) dz)
    have e0 := RS.c (i := 0) rfl
    have e1 := RS.c (i := 1) rfl
    have e2 := RS.c (i := 2) rfl
    refine bodyPost_ret (v := .agg #[.bool (sg (((Rat.divInt v pw))).num), .slice Xz (nl (mg (((Rat.divInt v pw))).num)) cz, .slice Yz (nl (((Rat.divInt v pw))).den) dz]) (by simp [results, Tryz.results23, go_sem, e0, e1, e2]) rfl ?_
    exact ⟨Xz, cz, Yz, dz, rfl, (Rr.keep3 (nuB rfl) hz), (Rr.keep3 (nuB rfl) gz), (Below.store3 HBT (by first | exact Nat.le_refl _ | omega))⟩
theorem bmul_c (aA : Option Addr) (ac : Nat) (a : Rat) (bA : Option Addr) (bc : Nat) (b : Rat) (cA : Option Addr) (cc : Nat) (c : Rat) (dA : Option Addr) (dc : Nat) (d : Rat) (w : World) (ha : NatV w aA ac (mg (dmn a))) (hb : NatV w bA bc (mg (dmn b))) (hc : NatV w cA cc (mg (dmn c))) (hd : NatV w dA dc (mg (dmn d))) (oa : DOk a) (ob : DOk b) (oc : DOk c) (od : DOk d) (l2 : DOk (dabs a + b)) (lx : nl (mg (dmn (dabs a + b))) ≤ 7) (l3 : DOk ((dabs a + b) * d)) (l4 : DOk (dabs c * b)) (oA : DOk (dabs a)) (oC : DOk (dabs c)) (la : nl (mg (dmn a)) ≤ 7) (lb : nl (mg (dmn b)) ≤ 16384) (lc : nl (mg (dmn c)) ≤ 16384) (ld : nl (mg (dmn d)) ≤ 16384) (lC : nl (mg (dmn (dabs c))) ≤ 7) (hT : Tab w) (hG : Flds w) :
    Calls Tryz.prog 27 #[.agg #[.bool (sg (dmn a)), .slice aA (nl (mg (dmn a))) ac, .int .i64 (dex a), .bool (sg (dmn b)), .slice bA (nl (mg (dmn b))) bc, .int .i64 (dex b)], .agg #[.bool (sg (dmn c)), .slice cA (nl (mg (dmn c))) cc, .int .i64 (dex c), .bool (sg (dmn d)), .slice dA (nl (mg (dmn d))) dc, .int .i64 (dex d)]] w (RetB w (a * c) ((dabs a + b) * d + dabs c * b)) := by
  have hT00 := hT
  have hG00 := hG
  obtain ⟨p, Ep⟩ : ∃ zq : Rat, zq = dabs a := ⟨_, rfl⟩
  obtain ⟨e1, Ee1⟩ : ∃ zq : Rat, zq = p + b := ⟨_, rfl⟩
  obtain ⟨y, Ey⟩ : ∃ zq : Rat, zq = e1 * d := ⟨_, rfl⟩
  obtain ⟨q, Eq⟩ : ∃ zq : Rat, zq = dabs c := ⟨_, rfl⟩
  obtain ⟨z, Ez⟩ : ∃ zq : Rat, zq = q * b := ⟨_, rfl⟩
  obtain ⟨r, Er⟩ : ∃ zq : Rat, zq = y + z := ⟨_, rfl⟩
  obtain ⟨m, Em⟩ : ∃ zq : Rat, zq = a * c := ⟨_, rfl⟩
  rw [← Ep] at l2 lx l3 oA; rw [← Ee1] at l2 lx l3; rw [← Ey] at l3; rw [← Eq] at l4 oC lC; rw [← Ez] at l4
  have CP := fun (W : World) (h1 : NatV W aA ac (mg (dmn a))) => bsize_c aA ac a W h1 oa
  rw [← Ep] at CP
  replace CP := Lib.hid CP
  have CE := fun (W : World) (A : Option Addr) (k : Nat) (h1 : NatV W A k (mg (dmn p))) (h2 : NatV W bA bc (mg (dmn b))) (hT : Tab W) => dadd_c A k p bA bc b W h1 h2 oA ob hT
  rw [← Ee1] at CE
  replace CE := Lib.hid CE
  have CY := fun (W : World) (A : Option Addr) (k : Nat) (h1 : NatV W A k (mg (dmn e1))) (h2 : NatV W dA dc (mg (dmn d))) (hT : Tab W) (hG : Flds W) => dmul_c A k e1 dA dc d W h1 h2 l2 od (by omega) ld hT hG
  rw [← Ey] at CY
  replace CY := Lib.hid CY
  have CQ := fun (W : World) (h1 : NatV W cA cc (mg (dmn c))) => bsize_c cA cc c W h1 oc
  rw [← Eq] at CQ
  replace CQ := Lib.hid CQ
  have CZ := fun (W : World) (A : Option Addr) (k : Nat) (h1 : NatV W A k (mg (dmn q))) (h2 : NatV W bA bc (mg (dmn b))) (hT : Tab W) (hG : Flds W) => dmul_c A k q bA bc b W h1 h2 oC ob (by omega) lb hT hG
  rw [← Ez] at CZ
  replace CZ := Lib.hid CZ
  have CR := fun (W : World) (A : Option Addr) (k : Nat) (B : Option Addr) (j : Nat) (h1 : NatV W A k (mg (dmn y))) (h2 : NatV W B j (mg (dmn z))) (hT : Tab W) => dadd_c A k y B j z W h1 h2 l3 l4 hT
  rw [← Er] at CR
  replace CR := Lib.hid CR
  have CM := fun (W : World) (h1 : NatV W aA ac (mg (dmn a))) (h2 : NatV W cA cc (mg (dmn c))) (hT : Tab W) (hG : Flds W) => dmul_c aA ac a cA cc c W h1 h2 oa oc (by omega) lc hT hG
  rw [← Em] at CM
  replace CM := Lib.hid CM
  rw [← Ep, ← Ee1, ← Ey, ← Eq, ← Ez, ← Er, ← Em]
  replace Ep := Lib.hid Ep
  replace Ee1 := Lib.hid Ee1
  replace Ey := Lib.hid Ey
  replace Eq := Lib.hid Eq
  replace Ez := Lib.hid Ez
  replace Er := Lib.hid Er
  replace Em := Lib.hid Em
  clear oa ob oc od l2 lx l3 l4 oA oC la lb lc ld lC
  obtain ⟨hb1, Rs, Rt, Rr⟩ := bx3 w #[.bool (sg (dmn a)), .slice aA (nl (mg (dmn a))) ac, .int .i64 (dex a), .bool (sg (dmn b)), .slice bA (nl (mg (dmn b))) bc, .int .i64 (dex b)] 40 #[.bool (sg (dmn c)), .slice cA (nl (mg (dmn c))) cc, .int .i64 (dex c), .bool (sg (dmn d)), .slice dA (nl (mg (dmn d))) dc, .int .i64 (dex d)] 40 #[.bool false, .slice none 0 0, .int .i64 0, .bool false, .slice none 0 0, .int .i64 0] 40
  replace ha := ha.below hb1
  replace hb := hb.below hb1
  replace hc := hc.below hb1
  replace hd := hd.below hb1
  replace hT := hT.below hb1
  replace hG := hG.below hb1
  have HBT := hb1
  clear hb1
  have qs0 := Rs.c (i := 0) rfl
  have qs1 := Rs.c (i := 1) rfl
  have qs2 := Rs.c (i := 2) rfl
  have qs3 := Rs.c (i := 3) rfl
  have qs4 := Rs.c (i := 4) rfl
  have qs5 := Rs.c (i := 5) rfl
  have qt0 := Rt.c (i := 0) rfl
  have qt1 := Rt.c (i := 1) rfl
  have qt2 := Rt.c (i := 2) rfl
  have qt3 := Rt.c (i := 3) rfl
  have qt4 := Rt.c (i := 4) rfl
  have qt5 := Rt.c (i := 5) rfl
  have qr0 := Rr.c (i := 0) rfl
  have qr1 := Rr.c (i := 1) rfl
  have qr2 := Rr.c (i := 2) rfl
  have qr3 := Rr.c (i := 3) rfl
  have qr4 := Rr.c (i := 4) rfl
  have qr5 := Rr.c (i := 5) rfl
  go_enter Tryz.func27, Tryz.ntmps27
  go_wp2_with (fail)
  generalize hW0 : (((w.alloc (.cells #[.bool (sg (dmn a)), .slice aA (nl (mg (dmn a))) ac, .int .i64 (dex a), .bool (sg (dmn b)), .slice bA (nl (mg (dmn b))) bc, .int .i64 (dex b)] 40)).alloc (.cells #[.bool (sg (dmn c)), .slice cA (nl (mg (dmn c))) cc, .int .i64 (dex c), .bool (sg (dmn d)), .slice dA (nl (mg (dmn d))) dc, .int .i64 (dex d)] 40)).alloc (.cells #[.bool false, .slice none 0 0, .int .i64 0, .bool false, .slice none 0 0, .int .i64 0] 40)) = W0 at *
  replace hW0 := Lib.hid hW0
  refine wp_region_fin 7 1 [.val (.pointer (some ⟨w.heap.size, 0, none⟩)), .val (.agg #[.bool (sg (dmn a)), .slice aA (nl (mg (dmn a))) ac, .int .i64 (dex a)]), .dyad p, .val (.pointer (some ⟨w.heap.size, 3, none⟩)), .val (.agg #[.bool (sg (dmn b)), .slice bA (nl (mg (dmn b))) bc, .int .i64 (dex b)]), .dyad e1, .box 33 W0.heap.size #[.bool false, .slice none 0 0, .int .i64 0]] (by kernel_rfl) (by kernel_rfl) (by kernel_rfl) (by kernel_rfl) (by kernel_rfl) rfl ?_ ?_
  · skip
    refine ⟨?_, ?_⟩
    · intro Ew aw wc st hdep
      have t2 : aw.tmps[2]? = some (.pointer (some ⟨w.heap.size, 0, none⟩)) := (st.old 2 (by kernel_rfl)).trans (by rfl)
      have e2 := tmp_of t2
      refine op_want rfl (by rfl) (fun K' hK' => ?_)
      go_simp
      exact hK'.out _ _ ⟨_, rfl, rfl, Below.refl _ _⟩
    refine ⟨?_, ?_⟩
    · intro Ew aw wc st hdep
      obtain ⟨v7, t7, r7⟩ := st.nw hdep 0 7
      obtain rfl : v7 = .pointer (some ⟨w.heap.size, 0, none⟩) := r7
      have qs0 := cbl st.b qs0
      have qs1 := cbl st.b qs1
      have qs2 := cbl st.b qs2
      have e7 := tmp_of t7
      refine op_want rfl (by rfl) (fun K' hK' => ?_)
      go_simp
      exact hK'.out _ _ ⟨_, rfl, rfl, Below.refl _ _⟩
    refine ⟨?_, ?_⟩
    · intro Ew aw wc st hdep
      obtain ⟨v8, t8, r8⟩ := st.nw hdep 1 8
      obtain rfl : v8 = .agg #[.bool (sg (dmn a)), .slice aA (nl (mg (dmn a))) ac, .int .i64 (dex a)] := r8
      have e8 := tmp_of t8
      refine op_want rfl (by rfl) (fun K' hK' => ?_)
      go_simp
      refine (Calls.mono (R := RetD wc p) (CP.out wc (ha.below st.b)) ?_)
      rintro e W ⟨X, c, rfl, hX, kb⟩
      exact hK'.out _ _ ⟨_, rfl, ⟨X, c, rfl, hX⟩, kb⟩
    refine ⟨?_, ?_⟩
    · intro Ew aw wc st hdep
      have t2 : aw.tmps[2]? = some (.pointer (some ⟨w.heap.size, 0, none⟩)) := (st.old 2 (by kernel_rfl)).trans (by rfl)
      have e2 := tmp_of t2
      refine op_want rfl (by rfl) (fun K' hK' => ?_)
      go_simp
      exact hK'.out _ _ ⟨_, rfl, rfl, Below.refl _ _⟩
    refine ⟨?_, ?_⟩
    · intro Ew aw wc st hdep
      obtain ⟨v10, t10, r10⟩ := st.nw hdep 3 10
      obtain rfl : v10 = .pointer (some ⟨w.heap.size, 3, none⟩) := r10
      have qs3 := cbl st.b qs3
      have qs4 := cbl st.b qs4
      have qs5 := cbl st.b qs5
      have e10 := tmp_of t10
      refine op_want rfl (by rfl) (fun K' hK' => ?_)
      go_simp
      exact hK'.out _ _ ⟨_, rfl, rfl, Below.refl _ _⟩
    refine ⟨?_, ?_⟩
    · intro Ew aw wc st hdep
      obtain ⟨v9, t9, r9⟩ := st.nw hdep 2 9
      obtain ⟨X9, c9, rfl, h9⟩ := r9
      obtain ⟨v11, t11, r11⟩ := st.nw hdep 4 11
      obtain rfl : v11 = .agg #[.bool (sg (dmn b)), .slice bA (nl (mg (dmn b))) bc, .int .i64 (dex b)] := r11
      have e9 := tmp_of t9
      have e11 := tmp_of t11
      refine op_want rfl (by rfl) (fun K' hK' => ?_)
      go_simp
      refine (Calls.mono (R := RetD wc e1) (CE.out wc _ _ h9 (hb.below st.b) (hT.below st.b)) ?_)
      rintro e W ⟨X, c, rfl, hX, kb⟩
      exact hK'.out _ _ ⟨_, rfl, ⟨X, c, rfl, hX⟩, kb⟩
    refine ⟨?_, ?_⟩
    · intro Ew aw wc st hdep
      refine op_want rfl (by rfl) (fun K' hK' => ?_)
      go_simp
      exact hK'.out _ _ ⟨_, rfl, ⟨_, rfl, st.b.size, ⟨at_new rfl⟩⟩, (Below.refl _ _).alloc (Nat.le_refl _) _⟩
    exact trivial
  intro vs wc hr hB
  obtain ⟨u7, r_7, rfl, k7, hr_7⟩ := hr.un
  obtain rfl : u7 = .pointer (some ⟨w.heap.size, 0, none⟩) := k7
  obtain ⟨u8, r_8, rfl, k8, hr_8⟩ := hr_7.un
  obtain rfl : u8 = .agg #[.bool (sg (dmn a)), .slice aA (nl (mg (dmn a))) ac, .int .i64 (dex a)] := k8
  obtain ⟨u9, r_9, rfl, k9, hr_9⟩ := hr_8.un
  obtain ⟨X9, c9, rfl, h9⟩ := k9
  obtain ⟨u10, r_10, rfl, k10, hr_10⟩ := hr_9.un
  obtain rfl : u10 = .pointer (some ⟨w.heap.size, 3, none⟩) := k10
  obtain ⟨u11, r_11, rfl, k11, hr_11⟩ := hr_10.un
  obtain rfl : u11 = .agg #[.bool (sg (dmn b)), .slice bA (nl (mg (dmn b))) bc, .int .i64 (dex b)] := k11
  obtain ⟨u12, r_12, rfl, k12, hr_12⟩ := hr_11.un
  obtain ⟨X12, c12, rfl, h12⟩ := k12
  obtain ⟨u5, r_5, rfl, k5, hr_5⟩ := hr_12.un
  obtain ⟨nb5, rfl, hn5, h5⟩ := k5
  obtain rfl := hr_5.nil
  clear hr hr_7 hr_8 hr_9 hr_10 hr_11 hr_12 hr_5
  replace ha := ha.below hB
  replace hb := hb.below hB
  replace hc := hc.below hB
  replace hd := hd.below hB
  replace hT := hT.below hB
  replace hG := hG.below hB
  replace Rs := Rs.below hB
  replace qs0 := cbl hB qs0
  replace qs1 := cbl hB qs1
  replace qs2 := cbl hB qs2
  replace qs3 := cbl hB qs3
  replace qs4 := cbl hB qs4
  replace qs5 := cbl hB qs5
  replace Rt := Rt.below hB
  replace qt0 := cbl hB qt0
  replace qt1 := cbl hB qt1
  replace qt2 := cbl hB qt2
  replace qt3 := cbl hB qt3
  replace qt4 := cbl hB qt4
  replace qt5 := cbl hB qt5
  replace Rr := Rr.below hB
  replace qr0 := cbl hB qr0
  replace qr1 := cbl hB qr1
  replace qr2 := cbl hB qr2
  replace qr3 := cbl hB qr3
  replace qr4 := cbl hB qr4
  replace qr5 := cbl hB qr5
  replace HBT := Below.cons HBT hB
  clear hB
  simp only [upTo, List.take_succ_cons, List.take_zero, putAll, Act.put, seq0, seq1, seq2]
  have Ru := h5
  clear h5
  have qu0 := Ru.c (i := 0) rfl
  have qu1 := Ru.c (i := 1) rfl
  have qu2 := Ru.c (i := 2) rfl
  have hz0 : w.heap.size + 1 + 1 < nb5 := by have := hW0.out; have h9 : w.heap.size + 3 = W0.heap.size := (by rw [← this]; simp); omega
  have fu0_2 := Ru.f (i := 0)
  have fu1_2 := Ru.f (i := 1)
  have fu2_2 := Ru.f (i := 2)
  have Rs_2 : BoxA (((wc.setCell ⟨nb5, 0, none⟩ (.bool (sg (dmn e1)))).setCell ⟨nb5, 1, none⟩ (.slice X12 (nl (mg (dmn e1))) c12)).setCell ⟨nb5, 2, none⟩ (.int .i64 (dex e1))) _ _ _ := Rs.other3 (by first | omega | (simp; done) | (simp; omega))
  have Rt_2 : BoxA (((wc.setCell ⟨nb5, 0, none⟩ (.bool (sg (dmn e1)))).setCell ⟨nb5, 1, none⟩ (.slice X12 (nl (mg (dmn e1))) c12)).setCell ⟨nb5, 2, none⟩ (.int .i64 (dex e1))) _ _ _ := Rt.other3 (by first | omega | (simp; done) | (simp; omega))
  have Rr_2 : BoxA (((wc.setCell ⟨nb5, 0, none⟩ (.bool (sg (dmn e1)))).setCell ⟨nb5, 1, none⟩ (.slice X12 (nl (mg (dmn e1))) c12)).setCell ⟨nb5, 2, none⟩ (.int .i64 (dex e1))) _ _ _ := Rr.other3 (by first | omega | (simp; done) | (simp; omega))
  have Ru_2 := Ru.store3 (.bool (sg (dmn e1))) (.slice X12 (nl (mg (dmn e1))) c12) (.int .i64 (dex e1))
  have ha_2 := Ru.keep3 (v0 := .bool (sg (dmn e1))) (v1 := .slice X12 (nl (mg (dmn e1))) c12) (v2 := .int .i64 (dex e1)) (nuB rfl) ha
  have hb_2 := Ru.keep3 (v0 := .bool (sg (dmn e1))) (v1 := .slice X12 (nl (mg (dmn e1))) c12) (v2 := .int .i64 (dex e1)) (nuB rfl) hb
  have hc_2 := Ru.keep3 (v0 := .bool (sg (dmn e1))) (v1 := .slice X12 (nl (mg (dmn e1))) c12) (v2 := .int .i64 (dex e1)) (nuB rfl) hc
  have hd_2 := Ru.keep3 (v0 := .bool (sg (dmn e1))) (v1 := .slice X12 (nl (mg (dmn e1))) c12) (v2 := .int .i64 (dex e1)) (nuB rfl) hd
  have qs0_2 := Rs_2.c (i := 0) rfl
  have qs1_2 := Rs_2.c (i := 1) rfl
  have qs2_2 := Rs_2.c (i := 2) rfl
  have qs3_2 := Rs_2.c (i := 3) rfl
  have qs4_2 := Rs_2.c (i := 4) rfl
  have qs5_2 := Rs_2.c (i := 5) rfl
  have qt0_2 := Rt_2.c (i := 0) rfl
  have qt1_2 := Rt_2.c (i := 1) rfl
  have qt2_2 := Rt_2.c (i := 2) rfl
  have qt3_2 := Rt_2.c (i := 3) rfl
  have qt4_2 := Rt_2.c (i := 4) rfl
  have qt5_2 := Rt_2.c (i := 5) rfl
  have qr0_2 := Rr_2.c (i := 0) rfl
  have qr1_2 := Rr_2.c (i := 1) rfl
  have qr2_2 := Rr_2.c (i := 2) rfl
  have qr3_2 := Rr_2.c (i := 3) rfl
  have qr4_2 := Rr_2.c (i := 4) rfl
  have qr5_2 := Rr_2.c (i := 5) rfl
  have h12_2 := Ru.keep3 (v0 := .bool (sg (dmn e1))) (v1 := .slice X12 (nl (mg (dmn e1))) c12) (v2 := .int .i64 (dex e1)) (nuB rfl) h12
  have qu0_2 := Ru_2.c (i := 0) rfl
  have qu1_2 := Ru_2.c (i := 1) rfl
  have qu2_2 := Ru_2.c (i := 2) rfl
  have HBT_2 := Below.store3 (v0 := .bool (sg (dmn e1))) (v1 := .slice X12 (nl (mg (dmn e1))) c12) (v2 := .int .i64 (dex e1)) HBT (k := nb5) (by first | exact Nat.le_refl _ | omega)
  have hT_2 := hT00.below HBT_2
  have hG_2 := hG00.below HBT_2
  refine TailP.one rfl (by rfl) (fun K' hK' => ?_)
  go_simp
  refine hK'.out _ _ ?_
  try simp only [Act.put, seq0, seq1, seq2]
  refine TailP.done ?_
  clear fu0_2 fu1_2 fu2_2 Rs Rt Rr Ru ha hb hc hd hT hG qs0 qs1 qs2 qs3 qs4 qs5 qt0 qt1 qt2 qt3 qt4 qt5 qr0 qr1 qr2 qr3 qr4 qr5 h12 qu0 qu1 qu2 HBT
  generalize hV1 : (((wc.setCell ⟨nb5, 0, none⟩ (.bool (sg (dmn e1)))).setCell ⟨nb5, 1, none⟩ (.slice X12 (nl (mg (dmn e1))) c12)).setCell ⟨nb5, 2, none⟩ (.int .i64 (dex e1))) = V1 at *
  clear hV1
  have hz1 : nb5 < V1.heap.size := Ru_2.lt
  go_wp2_with (fail)
  refine wp_region_fin 12 1 [.val (.agg #[.bool (sg (dmn e1)), .slice X12 (nl (mg (dmn e1))) c12, .int .i64 (dex e1)]), .val (.pointer (some ⟨(w.heap.size + 1), 3, none⟩)), .val (.agg #[.bool (sg (dmn d)), .slice dA (nl (mg (dmn d))) dc, .int .i64 (dex d)]), .dyad y, .val (.pointer (some ⟨(w.heap.size + 1), 0, none⟩)), .val (.agg #[.bool (sg (dmn c)), .slice cA (nl (mg (dmn c))) cc, .int .i64 (dex c)]), .dyad q, .val (.pointer (some ⟨w.heap.size, 3, none⟩)), .val (.agg #[.bool (sg (dmn b)), .slice bA (nl (mg (dmn b))) bc, .int .i64 (dex b)]), .dyad z, .dyad r, .box 33 V1.heap.size #[.bool false, .slice none 0 0, .int .i64 0]] (by kernel_rfl) (by kernel_rfl) (by kernel_rfl) (by kernel_rfl) (by kernel_rfl) rfl ?_ ?_
  · skip
    refine ⟨?_, ?_⟩
    · intro Ew aw wc st hdep
      have t5 : aw.tmps[5]? = some (.pointer (some ⟨nb5, 0, none⟩)) := (st.old 5 (by kernel_rfl)).trans (by rfl)
      have qu0_2 := cbl st.b qu0_2
      have qu1_2 := cbl st.b qu1_2
      have qu2_2 := cbl st.b qu2_2
      have e5 := tmp_of t5
      refine op_want rfl (by rfl) (fun K' hK' => ?_)
      go_simp
      exact hK'.out _ _ ⟨_, rfl, rfl, Below.refl _ _⟩
    refine ⟨?_, ?_⟩
    · intro Ew aw wc st hdep
      have t3 : aw.tmps[3]? = some (.pointer (some ⟨(w.heap.size + 1), 0, none⟩)) := (st.old 3 (by kernel_rfl)).trans (by rfl)
      have e3 := tmp_of t3
      refine op_want rfl (by rfl) (fun K' hK' => ?_)
      go_simp
      exact hK'.out _ _ ⟨_, rfl, rfl, Below.refl _ _⟩
    refine ⟨?_, ?_⟩
    · intro Ew aw wc st hdep
      obtain ⟨v14, t14, r14⟩ := st.nw hdep 1 14
      obtain rfl : v14 = .pointer (some ⟨(w.heap.size + 1), 3, none⟩) := r14
      have qt3_2 := cbl st.b qt3_2
      have qt4_2 := cbl st.b qt4_2
      have qt5_2 := cbl st.b qt5_2
      have e14 := tmp_of t14
      refine op_want rfl (by rfl) (fun K' hK' => ?_)
      go_simp
      exact hK'.out _ _ ⟨_, rfl, rfl, Below.refl _ _⟩
    refine ⟨?_, ?_⟩
    · intro Ew aw wc st hdep
      obtain ⟨v13, t13, r13⟩ := st.nw hdep 0 13
      obtain rfl : v13 = .agg #[.bool (sg (dmn e1)), .slice X12 (nl (mg (dmn e1))) c12, .int .i64 (dex e1)] := r13
      obtain ⟨v15, t15, r15⟩ := st.nw hdep 2 15
      obtain rfl : v15 = .agg #[.bool (sg (dmn d)), .slice dA (nl (mg (dmn d))) dc, .int .i64 (dex d)] := r15
      have e13 := tmp_of t13
      have e15 := tmp_of t15
      refine op_want rfl (by rfl) (fun K' hK' => ?_)
      go_simp
      refine (Calls.mono (R := RetD wc y) (CY.out wc _ _ (h12_2.below st.b) (hd_2.below st.b) (hT_2.below st.b) (hG_2.below st.b)) ?_)
      rintro e W ⟨X, c, rfl, hX, kb⟩
      exact hK'.out _ _ ⟨_, rfl, ⟨X, c, rfl, hX⟩, kb⟩
    refine ⟨?_, ?_⟩
    · intro Ew aw wc st hdep
      have t3 : aw.tmps[3]? = some (.pointer (some ⟨(w.heap.size + 1), 0, none⟩)) := (st.old 3 (by kernel_rfl)).trans (by rfl)
      have e3 := tmp_of t3
      refine op_want rfl (by rfl) (fun K' hK' => ?_)
      go_simp
      exact hK'.out _ _ ⟨_, rfl, rfl, Below.refl _ _⟩
    refine ⟨?_, ?_⟩
    · intro Ew aw wc st hdep
      obtain ⟨v17, t17, r17⟩ := st.nw hdep 4 17
      obtain rfl : v17 = .pointer (some ⟨(w.heap.size + 1), 0, none⟩) := r17
      have qt0_2 := cbl st.b qt0_2
      have qt1_2 := cbl st.b qt1_2
      have qt2_2 := cbl st.b qt2_2
      have e17 := tmp_of t17
      refine op_want rfl (by rfl) (fun K' hK' => ?_)
      go_simp
      exact hK'.out _ _ ⟨_, rfl, rfl, Below.refl _ _⟩
    refine ⟨?_, ?_⟩
    · intro Ew aw wc st hdep
      obtain ⟨v18, t18, r18⟩ := st.nw hdep 5 18
      obtain rfl : v18 = .agg #[.bool (sg (dmn c)), .slice cA (nl (mg (dmn c))) cc, .int .i64 (dex c)] := r18
      have e18 := tmp_of t18
      refine op_want rfl (by rfl) (fun K' hK' => ?_)
      go_simp
      refine (Calls.mono (R := RetD wc q) (CQ.out wc (hc_2.below st.b)) ?_)
      rintro e W ⟨X, c, rfl, hX, kb⟩
      exact hK'.out _ _ ⟨_, rfl, ⟨X, c, rfl, hX⟩, kb⟩
    refine ⟨?_, ?_⟩
    · intro Ew aw wc st hdep
      have t2 : aw.tmps[2]? = some (.pointer (some ⟨w.heap.size, 0, none⟩)) := (st.old 2 (by kernel_rfl)).trans (by rfl)
      have e2 := tmp_of t2
      refine op_want rfl (by rfl) (fun K' hK' => ?_)
      go_simp
      exact hK'.out _ _ ⟨_, rfl, rfl, Below.refl _ _⟩
    refine ⟨?_, ?_⟩
    · intro Ew aw wc st hdep
      obtain ⟨v20, t20, r20⟩ := st.nw hdep 7 20
      obtain rfl : v20 = .pointer (some ⟨w.heap.size, 3, none⟩) := r20
      have qs3_2 := cbl st.b qs3_2
      have qs4_2 := cbl st.b qs4_2
      have qs5_2 := cbl st.b qs5_2
      have e20 := tmp_of t20
      refine op_want rfl (by rfl) (fun K' hK' => ?_)
      go_simp
      exact hK'.out _ _ ⟨_, rfl, rfl, Below.refl _ _⟩
    refine ⟨?_, ?_⟩
    · intro Ew aw wc st hdep
      obtain ⟨v19, t19, r19⟩ := st.nw hdep 6 19
      obtain ⟨X19, c19, rfl, h19⟩ := r19
      obtain ⟨v21, t21, r21⟩ := st.nw hdep 8 21
      obtain rfl : v21 = .agg #[.bool (sg (dmn b)), .slice bA (nl (mg (dmn b))) bc, .int .i64 (dex b)] := r21
      have e19 := tmp_of t19
      have e21 := tmp_of t21
      refine op_want rfl (by rfl) (fun K' hK' => ?_)
      go_simp
      refine (Calls.mono (R := RetD wc z) (CZ.out wc _ _ h19 (hb_2.below st.b) (hT_2.below st.b) (hG_2.below st.b)) ?_)
      rintro e W ⟨X, c, rfl, hX, kb⟩
      exact hK'.out _ _ ⟨_, rfl, ⟨X, c, rfl, hX⟩, kb⟩
    refine ⟨?_, ?_⟩
    · intro Ew aw wc st hdep
      obtain ⟨v16, t16, r16⟩ := st.nw hdep 3 16
      obtain ⟨X16, c16, rfl, h16⟩ := r16
      obtain ⟨v22, t22, r22⟩ := st.nw hdep 9 22
      obtain ⟨X22, c22, rfl, h22⟩ := r22
      have e16 := tmp_of t16
      have e22 := tmp_of t22
      refine op_want rfl (by rfl) (fun K' hK' => ?_)
      go_simp
      refine (Calls.mono (R := RetD wc r) (CR.out wc _ _ _ _ h16 h22 (hT_2.below st.b)) ?_)
      rintro e W ⟨X, c, rfl, hX, kb⟩
      exact hK'.out _ _ ⟨_, rfl, ⟨X, c, rfl, hX⟩, kb⟩
    refine ⟨?_, ?_⟩
    · intro Ew aw wc st hdep
      refine op_want rfl (by rfl) (fun K' hK' => ?_)
      go_simp
      exact hK'.out _ _ ⟨_, rfl, ⟨_, rfl, st.b.size, ⟨at_new rfl⟩⟩, (Below.refl _ _).alloc (Nat.le_refl _) _⟩
    exact trivial
  intro vs wc hr hB
  obtain ⟨u13, r_13, rfl, k13, hr_13⟩ := hr.un
  obtain rfl : u13 = .agg #[.bool (sg (dmn e1)), .slice X12 (nl (mg (dmn e1))) c12, .int .i64 (dex e1)] := k13
  obtain ⟨u14, r_14, rfl, k14, hr_14⟩ := hr_13.un
  obtain rfl : u14 = .pointer (some ⟨(w.heap.size + 1), 3, none⟩) := k14
  obtain ⟨u15, r_15, rfl, k15, hr_15⟩ := hr_14.un
  obtain rfl : u15 = .agg #[.bool (sg (dmn d)), .slice dA (nl (mg (dmn d))) dc, .int .i64 (dex d)] := k15
  obtain ⟨u16, r_16, rfl, k16, hr_16⟩ := hr_15.un
  obtain ⟨X16, c16, rfl, h16⟩ := k16
  obtain ⟨u17, r_17, rfl, k17, hr_17⟩ := hr_16.un
  obtain rfl : u17 = .pointer (some ⟨(w.heap.size + 1), 0, none⟩) := k17
  obtain ⟨u18, r_18, rfl, k18, hr_18⟩ := hr_17.un
  obtain rfl : u18 = .agg #[.bool (sg (dmn c)), .slice cA (nl (mg (dmn c))) cc, .int .i64 (dex c)] := k18
  obtain ⟨u19, r_19, rfl, k19, hr_19⟩ := hr_18.un
  obtain ⟨X19, c19, rfl, h19⟩ := k19
  obtain ⟨u20, r_20, rfl, k20, hr_20⟩ := hr_19.un
  obtain rfl : u20 = .pointer (some ⟨w.heap.size, 3, none⟩) := k20
  obtain ⟨u21, r_21, rfl, k21, hr_21⟩ := hr_20.un
  obtain rfl : u21 = .agg #[.bool (sg (dmn b)), .slice bA (nl (mg (dmn b))) bc, .int .i64 (dex b)] := k21
  obtain ⟨u22, r_22, rfl, k22, hr_22⟩ := hr_21.un
  obtain ⟨X22, c22, rfl, h22⟩ := k22
  obtain ⟨u23, r_23, rfl, k23, hr_23⟩ := hr_22.un
  obtain ⟨X23, c23, rfl, h23⟩ := k23
  obtain ⟨u6, r_6, rfl, k6, hr_6⟩ := hr_23.un
  obtain ⟨nb6, rfl, hn6, h6⟩ := k6
  obtain rfl := hr_6.nil
  clear hr hr_13 hr_14 hr_15 hr_16 hr_17 hr_18 hr_19 hr_20 hr_21 hr_22 hr_23 hr_6
  replace Rs_2 := Rs_2.below hB
  replace Rt_2 := Rt_2.below hB
  replace Rr_2 := Rr_2.below hB
  replace Ru_2 := Ru_2.below hB
  replace ha_2 := ha_2.below hB
  replace hb_2 := hb_2.below hB
  replace hc_2 := hc_2.below hB
  replace hd_2 := hd_2.below hB
  replace hT_2 := hT_2.below hB
  replace hG_2 := hG_2.below hB
  replace qs0_2 := cbl hB qs0_2
  replace qs1_2 := cbl hB qs1_2
  replace qs2_2 := cbl hB qs2_2
  replace qs3_2 := cbl hB qs3_2
  replace qs4_2 := cbl hB qs4_2
  replace qs5_2 := cbl hB qs5_2
  replace qt0_2 := cbl hB qt0_2
  replace qt1_2 := cbl hB qt1_2
  replace qt2_2 := cbl hB qt2_2
  replace qt3_2 := cbl hB qt3_2
  replace qt4_2 := cbl hB qt4_2
  replace qt5_2 := cbl hB qt5_2
  replace qr0_2 := cbl hB qr0_2
  replace qr1_2 := cbl hB qr1_2
  replace qr2_2 := cbl hB qr2_2
  replace qr3_2 := cbl hB qr3_2
  replace qr4_2 := cbl hB qr4_2
  replace qr5_2 := cbl hB qr5_2
  replace h12_2 := h12_2.below hB
  replace qu0_2 := cbl hB qu0_2
  replace qu1_2 := cbl hB qu1_2
  replace qu2_2 := cbl hB qu2_2
  have HBT := Below.cons HBT_2 hB
  clear hB
  simp only [upTo, List.take_succ_cons, List.take_zero, putAll, Act.put, seq0, seq1, seq2]
  have Rv := h6
  clear h6
  have qv0 := Rv.c (i := 0) rfl
  have qv1 := Rv.c (i := 1) rfl
  have qv2 := Rv.c (i := 2) rfl
  clear hb_2
  clear hd_2
  clear h12_2
  clear Ru_2
  clear qu0_2
  clear qu1_2
  clear qu2_2
  have hz2 : w.heap.size + 1 + 1 < nb6 := by omega
  have fv0_3 := Rv.f (i := 0)
  have fv1_3 := Rv.f (i := 1)
  have fv2_3 := Rv.f (i := 2)
  have Rs_3 : BoxA (((wc.setCell ⟨nb6, 0, none⟩ (.bool (sg (dmn r)))).setCell ⟨nb6, 1, none⟩ (.slice X23 (nl (mg (dmn r))) c23)).setCell ⟨nb6, 2, none⟩ (.int .i64 (dex r))) _ _ _ := Rs_2.other3 (by first | omega | (simp; done) | (simp; omega))
  have Rt_3 : BoxA (((wc.setCell ⟨nb6, 0, none⟩ (.bool (sg (dmn r)))).setCell ⟨nb6, 1, none⟩ (.slice X23 (nl (mg (dmn r))) c23)).setCell ⟨nb6, 2, none⟩ (.int .i64 (dex r))) _ _ _ := Rt_2.other3 (by first | omega | (simp; done) | (simp; omega))
  have Rr_3 : BoxA (((wc.setCell ⟨nb6, 0, none⟩ (.bool (sg (dmn r)))).setCell ⟨nb6, 1, none⟩ (.slice X23 (nl (mg (dmn r))) c23)).setCell ⟨nb6, 2, none⟩ (.int .i64 (dex r))) _ _ _ := Rr_2.other3 (by first | omega | (simp; done) | (simp; omega))
  have Rv_3 := Rv.store3 (.bool (sg (dmn r))) (.slice X23 (nl (mg (dmn r))) c23) (.int .i64 (dex r))
  have ha_3 := Rv.keep3 (v0 := .bool (sg (dmn r))) (v1 := .slice X23 (nl (mg (dmn r))) c23) (v2 := .int .i64 (dex r)) (nuB rfl) ha_2
  have hc_3 := Rv.keep3 (v0 := .bool (sg (dmn r))) (v1 := .slice X23 (nl (mg (dmn r))) c23) (v2 := .int .i64 (dex r)) (nuB rfl) hc_2
  have qs0_3 := Rs_3.c (i := 0) rfl
  have qs1_3 := Rs_3.c (i := 1) rfl
  have qs2_3 := Rs_3.c (i := 2) rfl
  have qs3_3 := Rs_3.c (i := 3) rfl
  have qs4_3 := Rs_3.c (i := 4) rfl
  have qs5_3 := Rs_3.c (i := 5) rfl
  have qt0_3 := Rt_3.c (i := 0) rfl
  have qt1_3 := Rt_3.c (i := 1) rfl
  have qt2_3 := Rt_3.c (i := 2) rfl
  have qt3_3 := Rt_3.c (i := 3) rfl
  have qt4_3 := Rt_3.c (i := 4) rfl
  have qt5_3 := Rt_3.c (i := 5) rfl
  have qr0_3 := Rr_3.c (i := 0) rfl
  have qr1_3 := Rr_3.c (i := 1) rfl
  have qr2_3 := Rr_3.c (i := 2) rfl
  have qr3_3 := Rr_3.c (i := 3) rfl
  have qr4_3 := Rr_3.c (i := 4) rfl
  have qr5_3 := Rr_3.c (i := 5) rfl
  have h23_3 := Rv.keep3 (v0 := .bool (sg (dmn r))) (v1 := .slice X23 (nl (mg (dmn r))) c23) (v2 := .int .i64 (dex r)) (nuB rfl) h23
  have qv0_3 := Rv_3.c (i := 0) rfl
  have qv1_3 := Rv_3.c (i := 1) rfl
  have qv2_3 := Rv_3.c (i := 2) rfl
  have HBT_3 := Below.store3 (v0 := .bool (sg (dmn r))) (v1 := .slice X23 (nl (mg (dmn r))) c23) (v2 := .int .i64 (dex r)) HBT (k := nb6) (by first | exact Nat.le_refl _ | omega)
  have hT_3 := hT00.below HBT_3
  have hG_3 := hG00.below HBT_3
  refine TailP.one rfl (by rfl) (fun K' hK' => ?_)
  go_simp
  refine hK'.out _ _ ?_
  try simp only [Act.put, seq0, seq1, seq2]
  refine TailP.done ?_
  clear fv0_3 fv1_3 fv2_3 Rs_2 Rt_2 Rr_2 Rv ha_2 hc_2 hT_2 hG_2 qs0_2 qs1_2 qs2_2 qs3_2 qs4_2 qs5_2 qt0_2 qt1_2 qt2_2 qt3_2 qt4_2 qt5_2 qr0_2 qr1_2 qr2_2 qr3_2 qr4_2 qr5_2 h23 qv0 qv1 qv2 HBT
  generalize hV2 : (((wc.setCell ⟨nb6, 0, none⟩ (.bool (sg (dmn r)))).setCell ⟨nb6, 1, none⟩ (.slice X23 (nl (mg (dmn r))) c23)).setCell ⟨nb6, 2, none⟩ (.int .i64 (dex r))) = V2 at *
  clear hV2
  go_wp2_with (fail)
  refine wp_region_fin 6 2 [.val (.pointer (some ⟨w.heap.size, 0, none⟩)), .val (.agg #[.bool (sg (dmn a)), .slice aA (nl (mg (dmn a))) ac, .int .i64 (dex a)]), .val (.pointer (some ⟨(w.heap.size + 1), 0, none⟩)), .val (.agg #[.bool (sg (dmn c)), .slice cA (nl (mg (dmn c))) cc, .int .i64 (dex c)]), .dyad m, .val (.agg #[.bool (sg (dmn r)), .slice X23 (nl (mg (dmn r))) c23, .int .i64 (dex r)])] (by kernel_rfl) (by kernel_rfl) (by kernel_rfl) (by kernel_rfl) (by kernel_rfl) rfl ?_ ?_
  · skip
    refine ⟨?_, ?_⟩
    · intro Ew aw wc st hdep
      have t2 : aw.tmps[2]? = some (.pointer (some ⟨w.heap.size, 0, none⟩)) := (st.old 2 (by kernel_rfl)).trans (by rfl)
      have e2 := tmp_of t2
      refine op_want rfl (by rfl) (fun K' hK' => ?_)
      go_simp
      exact hK'.out _ _ ⟨_, rfl, rfl, Below.refl _ _⟩
    refine ⟨?_, ?_⟩
    · intro Ew aw wc st hdep
      obtain ⟨v24, t24, r24⟩ := st.nw hdep 0 24
      obtain rfl : v24 = .pointer (some ⟨w.heap.size, 0, none⟩) := r24
      have qs0_3 := cbl st.b qs0_3
      have qs1_3 := cbl st.b qs1_3
      have qs2_3 := cbl st.b qs2_3
      have e24 := tmp_of t24
      refine op_want rfl (by rfl) (fun K' hK' => ?_)
      go_simp
      exact hK'.out _ _ ⟨_, rfl, rfl, Below.refl _ _⟩
    refine ⟨?_, ?_⟩
    · intro Ew aw wc st hdep
      have t3 : aw.tmps[3]? = some (.pointer (some ⟨(w.heap.size + 1), 0, none⟩)) := (st.old 3 (by kernel_rfl)).trans (by rfl)
      have e3 := tmp_of t3
      refine op_want rfl (by rfl) (fun K' hK' => ?_)
      go_simp
      exact hK'.out _ _ ⟨_, rfl, rfl, Below.refl _ _⟩
    refine ⟨?_, ?_⟩
    · intro Ew aw wc st hdep
      obtain ⟨v26, t26, r26⟩ := st.nw hdep 2 26
      obtain rfl : v26 = .pointer (some ⟨(w.heap.size + 1), 0, none⟩) := r26
      have qt0_3 := cbl st.b qt0_3
      have qt1_3 := cbl st.b qt1_3
      have qt2_3 := cbl st.b qt2_3
      have e26 := tmp_of t26
      refine op_want rfl (by rfl) (fun K' hK' => ?_)
      go_simp
      exact hK'.out _ _ ⟨_, rfl, rfl, Below.refl _ _⟩
    refine ⟨?_, ?_⟩
    · intro Ew aw wc st hdep
      obtain ⟨v25, t25, r25⟩ := st.nw hdep 1 25
      obtain rfl : v25 = .agg #[.bool (sg (dmn a)), .slice aA (nl (mg (dmn a))) ac, .int .i64 (dex a)] := r25
      obtain ⟨v27, t27, r27⟩ := st.nw hdep 3 27
      obtain rfl : v27 = .agg #[.bool (sg (dmn c)), .slice cA (nl (mg (dmn c))) cc, .int .i64 (dex c)] := r27
      have e25 := tmp_of t25
      have e27 := tmp_of t27
      refine op_want rfl (by rfl) (fun K' hK' => ?_)
      go_simp
      refine (Calls.mono (R := RetD wc m) (CM.out wc (ha_3.below st.b) (hc_3.below st.b) (hT_3.below st.b) (hG_3.below st.b)) ?_)
      rintro e W ⟨X, c, rfl, hX, kb⟩
      exact hK'.out _ _ ⟨_, rfl, ⟨X, c, rfl, hX⟩, kb⟩
    refine ⟨?_, ?_⟩
    · intro Ew aw wc st hdep
      have t6 : aw.tmps[6]? = some (.pointer (some ⟨nb6, 0, none⟩)) := (st.old 6 (by kernel_rfl)).trans (by rfl)
      have qv0_3 := cbl st.b qv0_3
      have qv1_3 := cbl st.b qv1_3
      have qv2_3 := cbl st.b qv2_3
      have e6 := tmp_of t6
      refine op_want rfl (by rfl) (fun K' hK' => ?_)
      go_simp
      exact hK'.out _ _ ⟨_, rfl, rfl, Below.refl _ _⟩
    exact trivial
  intro vs wc hr hB
  obtain ⟨u24, r_24, rfl, k24, hr_24⟩ := hr.un
  obtain rfl : u24 = .pointer (some ⟨w.heap.size, 0, none⟩) := k24
  obtain ⟨u25, r_25, rfl, k25, hr_25⟩ := hr_24.un
  obtain rfl : u25 = .agg #[.bool (sg (dmn a)), .slice aA (nl (mg (dmn a))) ac, .int .i64 (dex a)] := k25
  obtain ⟨u26, r_26, rfl, k26, hr_26⟩ := hr_25.un
  obtain rfl : u26 = .pointer (some ⟨(w.heap.size + 1), 0, none⟩) := k26
  obtain ⟨u27, r_27, rfl, k27, hr_27⟩ := hr_26.un
  obtain rfl : u27 = .agg #[.bool (sg (dmn c)), .slice cA (nl (mg (dmn c))) cc, .int .i64 (dex c)] := k27
  obtain ⟨u28, r_28, rfl, k28, hr_28⟩ := hr_27.un
  obtain ⟨X28, c28, rfl, h28⟩ := k28
  obtain ⟨u29, r_29, rfl, k29, hr_29⟩ := hr_28.un
  obtain rfl : u29 = .agg #[.bool (sg (dmn r)), .slice X23 (nl (mg (dmn r))) c23, .int .i64 (dex r)] := k29
  obtain rfl := hr_29.nil
  clear hr hr_24 hr_25 hr_26 hr_27 hr_28 hr_29
  replace Rs_3 := Rs_3.below hB
  replace Rt_3 := Rt_3.below hB
  replace Rr_3 := Rr_3.below hB
  replace Rv_3 := Rv_3.below hB
  replace ha_3 := ha_3.below hB
  replace hc_3 := hc_3.below hB
  replace hT_3 := hT_3.below hB
  replace hG_3 := hG_3.below hB
  replace qs0_3 := cbl hB qs0_3
  replace qs1_3 := cbl hB qs1_3
  replace qs2_3 := cbl hB qs2_3
  replace qs3_3 := cbl hB qs3_3
  replace qs4_3 := cbl hB qs4_3
  replace qs5_3 := cbl hB qs5_3
  replace qt0_3 := cbl hB qt0_3
  replace qt1_3 := cbl hB qt1_3
  replace qt2_3 := cbl hB qt2_3
  replace qt3_3 := cbl hB qt3_3
  replace qt4_3 := cbl hB qt4_3
  replace qt5_3 := cbl hB qt5_3
  replace qr0_3 := cbl hB qr0_3
  replace qr1_3 := cbl hB qr1_3
  replace qr2_3 := cbl hB qr2_3
  replace qr3_3 := cbl hB qr3_3
  replace qr4_3 := cbl hB qr4_3
  replace qr5_3 := cbl hB qr5_3
  replace h23_3 := h23_3.below hB
  replace qv0_3 := cbl hB qv0_3
  replace qv1_3 := cbl hB qv1_3
  replace qv2_3 := cbl hB qv2_3
  have HBT := Below.cons HBT_3 hB
  clear hB
  simp only [upTo, List.take_succ_cons, List.take_zero, putAll, Act.put, seq0, seq1, seq2]
  have fzr0 := Rr_3.f (i := 0)
  have fzr1 := Rr_3.f (i := 1)
  have fzr2 := Rr_3.f (i := 2)
  have fzr3 := Rr_3.f (i := 3)
  have fzr4 := Rr_3.f (i := 4)
  have fzr5 := Rr_3.f (i := 5)
  refine TailP.one rfl (by rfl) (fun K' hK' => ?_)
  go_simp
  refine hK'.out _ _ ?_
  try simp only [Act.put, seq0, seq1, seq2]
  refine TailP.one rfl (by rfl) (fun K' hK' => ?_)
  go_simp
  refine hK'.out _ _ ?_
  try simp only [Act.put, seq0, seq1, seq2]
  refine TailP.done ?_
  go_wp2_with (fail)
  have RS := Rr_3.store6 (.bool (sg (dmn m))) (.slice X28 (nl (mg (dmn m))) c28) (.int .i64 (dex m)) (.bool (sg (dmn r))) (.slice X23 (nl (mg (dmn r))) c23) (.int .i64 (dex r))
  have e0 := RS.c (i := 0) rfl
  have e1 := RS.c (i := 1) rfl
  have e2 := RS.c (i := 2) rfl
  have e3 := RS.c (i := 3) rfl
  have e4 := RS.c (i := 4) rfl
  have e5 := RS.c (i := 5) rfl
  refine bodyPost_ret (v := .agg #[.bool (sg (dmn m)), .slice X28 (nl (mg (dmn m))) c28, .int .i64 (dex m), .bool (sg (dmn r)), .slice X23 (nl (mg (dmn r))) c23, .int .i64 (dex r)]) (by simp [results, Tryz.results27, go_sem, e0, e1, e2, e3, e4, e5]) rfl ?_
  exact ⟨X28, c28, X23, c23, rfl, (Rr_3.keep6 (by intro u hu; simp at hu; rcases hu with rfl | rfl | rfl | rfl | rfl | rfl <;> first | exact notU_bool _ | exact notU_slice _ _ _ | exact notU_i64 _) h28), (Rr_3.keep6 (by intro u hu; simp at hu; rcases hu with rfl | rfl | rfl | rfl | rfl | rfl <;> first | exact notU_bool _ | exact notU_slice _ _ _ | exact notU_i64 _) h23_3), (Below.store6 HBT (by first | exact Nat.le_refl _ | omega))⟩
end Go.Proofs.YtopigejgadnkaaaGreatDoor
