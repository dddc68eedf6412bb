/- The values of a natural, taken as a polynomial of thirds, at three points. -/
import Derived.Test.YtmcekbmmpdpbmaaDoorMul3
set_option linter.unusedVariables false
set_option linter.unusedSimpArgs false
namespace Go.Proofs.YtmcekbmmpdpbmaaDoor
open Go.RowKit Go.Shelf
attribute [local go_sem] max2_i min2_i max_two min_two

set_option maxHeartbeats 4000000 in
theorem points_c (X : Option Addr) (cx x : Nat) (Y : Option Addr) (cy y : Nat) (Z : Option Addr) (cz z : Nat) (w : World) (hX : NatV w X cx x) (hY : NatV w Y cy y) (hZ : NatV w Z cz z) (hx : nl x ≤ 16777216) (hy : nl y ≤ 16777216) (hz : nl z ≤ 16777216) :
    Calls Tryd.prog 40 #[arr3 X cx x Y cy y Z cz z] w fun e w' => ∃ A a1 c1 B b1 c2 D d1 c3, e = .returned (.tuple #[.slice A (nl a1) c1, .slice B (nl b1) c2, .slice D (nl d1) c3, .bool (decide (x + z < y))]) ∧
      NatV w' A c1 a1 ∧ NatV w' B c2 b1 ∧ NatV w' D c3 d1 ∧ a1 = x + z + y ∧ b1 = x + z - y + (y - (x + z)) ∧ d1 = x + (y * 2 + z * 4) ∧ Below w.heap.size w w' := by
  unfold arr3
  have hb0 : Below w.heap.size w (w.alloc (.cells #[.slice X (nl x) cx, .slice Y (nl y) cy, .slice Z (nl z) cz] 31)) := (Below.refl _ _).alloc (Nat.le_refl _) _
  obtain ⟨⟨q0, q1, q2⟩, _, _, _⟩ := at_cells (heap_alloc_new w (.cells #[.slice X (nl x) cx, .slice Y (nl y) cy, .slice Z (nl z) cz] 31))
  replace hX := hX.below hb0
  replace hY := hY.below hb0
  replace hZ := hZ.below hb0
  go_enter Tryd.func40, Tryd.ntmps40
  have HBT := hb0
  clear hb0
  have hu := Tryd.underlying31
  go_wp2_with (fail)
  obtain ⟨en, Een⟩ : ∃ zq : Nat, zq = x + z := ⟨_, rfl⟩
  have Ben : nl en ≤ 16777217 := by rw [Een]; have := nl_add x z; omega
  refine (Calls.mono (R := RetN _ en) (by rw [Een]; exact add_c X cx x Z cz z _ hX hZ (by omega) (by omega)) ?_)
  replace Een := Lib.hid Een
  rintro e W1 ⟨X1, c1, rfl, hen, hb1⟩
  replace hX := hX.below hb1
  replace hY := hY.below hb1
  replace hZ := hZ.below hb1
  replace q0 := cell_below hb1 q0
  replace q1 := cell_below hb1 q1
  replace q2 := cell_below hb1 q2
  replace HBT := Below.cons HBT hb1
  clear hb1
  go_wp2_with (fail)
  obtain ⟨on, Eon⟩ : ∃ zq : Nat, zq = en + y := ⟨_, rfl⟩
  have Bon : nl on ≤ 16777218 := by rw [Eon]; have := nl_add en y; omega
  refine (Calls.mono (R := RetN W1 on) (by rw [Eon]; exact add_c X1 c1 en Y cy y _ hen hY (by omega) (by omega)) ?_)
  replace Eon := Lib.hid Eon
  rintro e W2 ⟨X2, c2, rfl, hon, hb2⟩
  replace hX := hX.below hb2
  replace hY := hY.below hb2
  replace hZ := hZ.below hb2
  replace q0 := cell_below hb2 q0
  replace q1 := cell_below hb2 q1
  replace q2 := cell_below hb2 q2
  replace hen := hen.below hb2
  replace HBT := Below.cons HBT hb2
  clear hb2
  go_wp2_with (fail)
  refine (apart_c _ _ _ _ _ _ _ hen hY (by omega) (by omega)).mono ?_
  obtain ⟨mi, Emi⟩ : ∃ zq : Nat, zq = en - y + (y - en) := ⟨_, rfl⟩
  rw [← Emi]
  replace Emi := Lib.hid Emi
  rintro e W3 ⟨X3, c3, rfl, hmi, hb3⟩
  replace hX := hX.below hb3
  replace hY := hY.below hb3
  replace hZ := hZ.below hb3
  replace q0 := cell_below hb3 q0
  replace q1 := cell_below hb3 q1
  replace q2 := cell_below hb3 q2
  replace hen := hen.below hb3
  replace hon := hon.below hb3
  replace HBT := Below.cons HBT hb3
  clear hb3
  have HEN : decide (en < y) = decide (x + z < y) := by rw [Een.out]
  replace HEN := Lib.hid HEN
  obtain ⟨bb, Ebb⟩ : ∃ b, b = decide (en < y) := ⟨_, rfl⟩
  rw [← Ebb]
  replace Ebb := Lib.hid Ebb
  go_wp2_with (fail)
  have hd3 : Below (W3).heap.size W3 (W3).drew := (Below.refl _ _).drew
  replace hX := hX.below hd3
  replace hY := hY.below hd3
  replace hZ := hZ.below hd3
  replace q0 := cell_below hd3 q0
  replace q1 := cell_below hd3 q1
  replace q2 := cell_below hd3 q2
  replace hen := hen.below hd3
  replace hon := hon.below hd3
  replace hmi := hmi.below hd3
  replace HBT := Below.cons HBT hd3
  clear hd3
  obtain ⟨y2, Ey2⟩ : ∃ zq : Nat, zq = y * 2 ^ 1 := ⟨_, rfl⟩
  have By2 : nl y2 ≤ 16777218 := by rw [Ey2]; have := nl_shl y 1; omega
  have C3_0 := fun (W : World) (h : NatV W Y cy y) => shl_e Y cy y (1 : Int) 1 W h (by omega) rfl (by omega)
  simp only [← Ey2] at C3_0
  replace Ey2 := Lib.hid Ey2
  replace C3_0 := Lib.hid C3_0
  obtain ⟨z4, Ez4⟩ : ∃ zq : Nat, zq = z * 2 ^ 2 := ⟨_, rfl⟩
  have Bz4 : nl z4 ≤ 16777218 := by rw [Ez4]; have := nl_shl z 2; omega
  have C3_1 := fun (W : World) (h : NatV W Z cz z) => shl_e Z cz z (2 : Int) 2 W h (by omega) rfl (by omega)
  simp only [← Ez4] at C3_1
  replace Ez4 := Lib.hid Ez4
  replace C3_1 := Lib.hid C3_1
  obtain ⟨yz, Eyz⟩ : ∃ zq : Nat, zq = y2 + z4 := ⟨_, rfl⟩
  have Byz : nl yz ≤ 16777219 := by rw [Eyz]; have := nl_add y2 z4; omega
  have C3_2 := fun (W : World) (A : Option Addr) (c : Nat) (B : Option Addr) (d : Nat) (h1 : NatV W A c y2) (h2 : NatV W B d z4) => add_c A c y2 B d z4 W h1 h2 (by omega) (by omega)
  simp only [← Eyz] at C3_2
  replace Eyz := Lib.hid Eyz
  replace C3_2 := Lib.hid C3_2
  obtain ⟨tw, Etw⟩ : ∃ zq : Nat, zq = x + yz := ⟨_, rfl⟩
  have Btw : nl tw ≤ 16777220 := by rw [Etw]; have := nl_add x yz; omega
  have C3_3 := fun (W : World) (A : Option Addr) (c : Nat) (B : Option Addr) (d : Nat) (h1 : NatV W A c x) (h2 : NatV W B d yz) => add_c A c x B d yz W h1 h2 (by omega) (by omega)
  simp only [← Etw] at C3_3
  replace Etw := Lib.hid Etw
  replace C3_3 := Lib.hid C3_3
  go_region_held3 (fun W => W.cell? ⟨w.heap.size, 0, none⟩ = some (.slice X (nl x) cx) ∧ W.cell? ⟨w.heap.size, 1, none⟩ = some (.slice Y (nl y) cy) ∧ W.cell? ⟨w.heap.size, 2, none⟩ = some (.slice Z (nl z) cz))
    (first
      | exact ⟨q0, q1, q2⟩
      | exact ⟨q0_4, q1_4, q2_4⟩
      | exact ⟨q0_5, q1_5, q2_5⟩
      | exact ⟨q0_6, q1_6, q2_6⟩
      | exact ⟨q0_7, q1_7, q2_7⟩
      | go_keep)
    (first
      | (go_at_call 29; (with_reducible refine (C3_0.out _ hY).mono ?_); rintro e W4 ⟨X4, c4, rfl, hy2, hb4⟩; have hX_4 := hX.below hb4; have hY_4 := hY.below hb4; have hZ_4 := hZ.below hb4; have q0_4 := cell_below hb4 q0; have q1_4 := cell_below hb4 q1; have q2_4 := cell_below hb4 q2; have hen_4 := hen.below hb4; have hon_4 := hon.below hb4; have hmi_4 := hmi.below hb4; have HBT_4 := Below.cons HBT hb4)
      | (go_at_call 29; (with_reducible refine (C3_1.out _ hZ_4).mono ?_); rintro e W5 ⟨X5, c5, rfl, hz4, hb5⟩; have hX_5 := hX_4.below hb5; have hY_5 := hY_4.below hb5; have hZ_5 := hZ_4.below hb5; have q0_5 := cell_below hb5 q0_4; have q1_5 := cell_below hb5 q1_4; have q2_5 := cell_below hb5 q2_4; have hen_5 := hen_4.below hb5; have hon_5 := hon_4.below hb5; have hmi_5 := hmi_4.below hb5; have hy2_5 := hy2.below hb5; have HBT_5 := Below.cons HBT_4 hb5)
      | (go_at_call 27; (with_reducible refine (C3_2.out _ _ _ _ _ hy2_5 hz4).mono ?_); rintro e W6 ⟨X6, c6, rfl, hyz, hb6⟩; have hX_6 := hX_5.below hb6; have hY_6 := hY_5.below hb6; have hZ_6 := hZ_5.below hb6; have q0_6 := cell_below hb6 q0_5; have q1_6 := cell_below hb6 q1_5; have q2_6 := cell_below hb6 q2_5; have hen_6 := hen_5.below hb6; have hon_6 := hon_5.below hb6; have hmi_6 := hmi_5.below hb6; have hy2_6 := hy2_5.below hb6; have hz4_6 := hz4.below hb6; have HBT_6 := Below.cons HBT_5 hb6)
      | (go_at_call 27; (with_reducible refine (C3_3.out _ _ _ _ _ hX_6 hyz).mono ?_); rintro e W7 ⟨X7, c7, rfl, htw, hb7⟩; have hX_7 := hX_6.below hb7; have hY_7 := hY_6.below hb7; have hZ_7 := hZ_6.below hb7; have q0_7 := cell_below hb7 q0_6; have q1_7 := cell_below hb7 q1_6; have q2_7 := cell_below hb7 q2_6; have hen_7 := hen_6.below hb7; have hon_7 := hon_6.below hb7; have hmi_7 := hmi_6.below hb7; have hy2_7 := hy2_6.below hb7; have hz4_7 := hz4_6.below hb7; have hyz_7 := hyz.below hb7; have HBT_7 := Below.cons HBT_6 hb7))
  go_wp2_with (fail)
  refine bodyPost_ret (v := .tuple #[.slice X2 (nl on) c2, .slice X3 (nl mi) c3, .slice X7 (nl tw) c7, .bool bb]) (by simp [results, Tryd.results40, go_sem]) rfl ?_
  refine ⟨_, on, _, _, mi, _, _, tw, _, ?_, hon_7, hmi_7, htw, ?_, ?_, ?_, HBT_7⟩
  · rw [← HEN.out, ← Ebb.out]
  · rw [Eon.out, Een.out]
  · rw [Emi.out, Een.out]
  · rw [Etw.out, Eyz.out, Ey2.out, Ez4.out]
end Go.Proofs.YtmcekbmmpdpbmaaDoor
