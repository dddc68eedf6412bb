/- The values of a natural, taken as a polynomial of thirds, at three points. -/
import Derived.Test.YtacjfpibilolnaaGreatDoorSB11
set_option maxRecDepth 100000
set_option maxHeartbeats 4000000
set_option linter.unusedVariables false
set_option linter.unusedSimpArgs false
namespace Go.Proofs.YtacjfpibilolnaaGreatDoor
open Go.RowKit Go.Shelf
attribute [local go_sem] max2_i min2_i max_two min_two

theorem points_c (X : Option Addr) (cx x : Nat) (Y : Option Addr) (cy y : Nat) (Z : Option Addr) (cz z : Nat) (w : World) (hX : NatV w X cx x) (hY : NatV w Y cy y) (hZ : NatV w Z cz z) (hx : nl x ≤ 16777216) (hy : nl y ≤ 16777216) (hz : nl z ≤ 16777216) :
    Calls Tryz.prog 150 #[arr3 X cx x Y cy y Z cz z] w fun e w' => ∃ A a1 c1 B b1 c2 D d1 c3, e = .returned (.tuple #[.slice A (nl a1) c1, .slice B (nl b1) c2, .slice D (nl d1) c3, .bool (decide (x + z < y))]) ∧
      NatV w' A c1 a1 ∧ NatV w' B c2 b1 ∧ NatV w' D c3 d1 ∧ a1 = x + z + y ∧ b1 = x + z - y + (y - (x + z)) ∧ d1 = x + (y * 2 + z * 4) ∧ Below w.heap.size w w' := by
  unfold arr3
  have hb0 : Below w.heap.size w (w.alloc (.cells #[.slice X (nl x) cx, .slice Y (nl y) cy, .slice Z (nl z) cz] 139)) := (Below.refl _ _).alloc (Nat.le_refl _) _
  obtain ⟨⟨q0, q1, q2⟩, _, _, _⟩ := at_cells (heap_alloc_new w (.cells #[.slice X (nl x) cx, .slice Y (nl y) cy, .slice Z (nl z) cz] 139))
  replace hX := hX.below hb0
  replace hY := hY.below hb0
  replace hZ := hZ.below hb0
  go_enter Tryz.func150, Tryz.ntmps150
  have HBT := hb0
  clear hb0
  have hu := Tryz.underlying139
  go_wp2_with (fail)
  obtain ⟨en, Een⟩ : ∃ zq : Nat, zq = x + z := ⟨_, rfl⟩
  have Ben : nl en ≤ 16777217 := by rw [Een]; have := nl_add x z; omega
  refine (Calls.mono (R := RetN _ en) (by rw [Een]; exact add_c X cx x Z cz z _ hX hZ (by omega) (by omega)) ?_)
  replace Een := Lib.hid Een
  rintro e W1 ⟨X1, c1, rfl, hen, hb1⟩
  replace hX := hX.below hb1
  replace hY := hY.below hb1
  replace hZ := hZ.below hb1
  replace q0 := cbl hb1 q0
  replace q1 := cbl hb1 q1
  replace q2 := cbl hb1 q2
  replace HBT := Below.cons HBT hb1
  clear hb1
  go_wp2_with (fail)
  obtain ⟨on, Eon⟩ : ∃ zq : Nat, zq = en + y := ⟨_, rfl⟩
  have Bon : nl on ≤ 16777218 := by rw [Eon]; have := nl_add en y; omega
  refine (Calls.mono (R := RetN W1 on) (by rw [Eon]; exact add_c X1 c1 en Y cy y _ hen hY (by omega) (by omega)) ?_)
  replace Eon := Lib.hid Eon
  rintro e W2 ⟨X2, c2, rfl, hon, hb2⟩
  replace hX := hX.below hb2
  replace hY := hY.below hb2
  replace hZ := hZ.below hb2
  replace q0 := cbl hb2 q0
  replace q1 := cbl hb2 q1
  replace q2 := cbl hb2 q2
  replace hen := hen.below hb2
  replace HBT := Below.cons HBT hb2
  clear hb2
  go_wp2_with (fail)
  refine (apart_c _ _ _ _ _ _ _ hen hY (by omega) (by omega)).mono ?_
  obtain ⟨mi, Emi⟩ : ∃ zq : Nat, zq = en - y + (y - en) := ⟨_, rfl⟩
  rw [← Emi]
  replace Emi := Lib.hid Emi
  rintro e W3 ⟨X3, c3, rfl, hmi, hb3⟩
  replace hX := hX.below hb3
  replace hY := hY.below hb3
  replace hZ := hZ.below hb3
  replace q0 := cbl hb3 q0
  replace q1 := cbl hb3 q1
  replace q2 := cbl hb3 q2
  replace hen := hen.below hb3
  replace hon := hon.below hb3
  replace HBT := Below.cons HBT hb3
  clear hb3
  have HEN : decide (en < y) = decide (x + z < y) := by rw [Een.out]
  replace HEN := Lib.hid HEN
  obtain ⟨bb, Ebb⟩ : ∃ b, b = decide (en < y) := ⟨_, rfl⟩
  rw [← Ebb]
  replace Ebb := Lib.hid Ebb
  go_wp2_with (fail)
  have hd3 := drb (W3)
  replace hX := hX.below hd3
  replace hY := hY.below hd3
  replace hZ := hZ.below hd3
  replace q0 := cbl hd3 q0
  replace q1 := cbl hd3 q1
  replace q2 := cbl hd3 q2
  replace hen := hen.below hd3
  replace hon := hon.below hd3
  replace hmi := hmi.below hd3
  replace HBT := Below.cons HBT hd3
  clear hd3
  obtain ⟨y2, Ey2⟩ : ∃ zq : Nat, zq = y * 2 ^ 1 := ⟨_, rfl⟩
  have By2 : nl y2 ≤ 16777218 := by rw [Ey2]; have := nl_shl y 1; omega
  have C3_0 := fun (W : World) (h : NatV W Y cy y) => shl_e Y cy y (1 : Int) 1 W h (by omega) rfl (by omega)
  simp only [← Ey2] at C3_0
  replace Ey2 := Lib.hid Ey2
  replace C3_0 := Lib.hid C3_0
  obtain ⟨z4, Ez4⟩ : ∃ zq : Nat, zq = z * 2 ^ 2 := ⟨_, rfl⟩
  have Bz4 : nl z4 ≤ 16777218 := by rw [Ez4]; have := nl_shl z 2; omega
  have C3_1 := fun (W : World) (h : NatV W Z cz z) => shl_e Z cz z (2 : Int) 2 W h (by omega) rfl (by omega)
  simp only [← Ez4] at C3_1
  replace Ez4 := Lib.hid Ez4
  replace C3_1 := Lib.hid C3_1
  obtain ⟨yz, Eyz⟩ : ∃ zq : Nat, zq = y2 + z4 := ⟨_, rfl⟩
  have Byz : nl yz ≤ 16777219 := by rw [Eyz]; have := nl_add y2 z4; omega
  have C3_2 := fun (W : World) (A : Option Addr) (c : Nat) (B : Option Addr) (d : Nat) (h1 : NatV W A c y2) (h2 : NatV W B d z4) => add_c A c y2 B d z4 W h1 h2 (by omega) (by omega)
  simp only [← Eyz] at C3_2
  replace Eyz := Lib.hid Eyz
  replace C3_2 := Lib.hid C3_2
  obtain ⟨tw, Etw⟩ : ∃ zq : Nat, zq = x + yz := ⟨_, rfl⟩
  have Btw : nl tw ≤ 16777220 := by rw [Etw]; have := nl_add x yz; omega
  have C3_3 := fun (W : World) (A : Option Addr) (c : Nat) (B : Option Addr) (d : Nat) (h1 : NatV W A c x) (h2 : NatV W B d yz) => add_c A c x B d yz W h1 h2 (by omega) (by omega)
  simp only [← Etw] at C3_3
  replace Etw := Lib.hid Etw
  replace C3_3 := Lib.hid C3_3
  go_region_held3 (fun W => W.cell? ⟨w.heap.size, 0, none⟩ = some (.slice X (nl x) cx) ∧ W.cell? ⟨w.heap.size, 1, none⟩ = some (.slice Y (nl y) cy) ∧ W.cell? ⟨w.heap.size, 2, none⟩ = some (.slice Z (nl z) cz))
    (first
      | exact ⟨q0, q1, q2⟩
      | exact ⟨q0_4, q1_4, q2_4⟩
      | exact ⟨q0_5, q1_5, q2_5⟩
      | exact ⟨q0_6, q1_6, q2_6⟩
      | exact ⟨q0_7, q1_7, q2_7⟩
      | go_keep)
    (first
      | (go_at_call 104; (with_reducible refine (C3_0.out _ hY).mono ?_); rintro e W4 ⟨X4, c4, rfl, hy2, hb4⟩; have hX_4 := hX.below hb4; have hY_4 := hY.below hb4; have hZ_4 := hZ.below hb4; have q0_4 := cbl hb4 q0; have q1_4 := cbl hb4 q1; have q2_4 := cbl hb4 q2; have hen_4 := hen.below hb4; have hon_4 := hon.below hb4; have hmi_4 := hmi.below hb4; have HBT_4 := Below.cons HBT hb4)
      | (go_at_call 104; (with_reducible refine (C3_1.out _ hZ_4).mono ?_); rintro e W5 ⟨X5, c5, rfl, hz4, hb5⟩; have hX_5 := hX_4.below hb5; have hY_5 := hY_4.below hb5; have hZ_5 := hZ_4.below hb5; have q0_5 := cbl hb5 q0_4; have q1_5 := cbl hb5 q1_4; have q2_5 := cbl hb5 q2_4; have hen_5 := hen_4.below hb5; have hon_5 := hon_4.below hb5; have hmi_5 := hmi_4.below hb5; have hy2_5 := hy2.below hb5; have HBT_5 := Below.cons HBT_4 hb5)
      | (go_at_call 107; (with_reducible refine (C3_2.out _ _ _ _ _ hy2_5 hz4).mono ?_); rintro e W6 ⟨X6, c6, rfl, hyz, hb6⟩; have hX_6 := hX_5.below hb6; have hY_6 := hY_5.below hb6; have hZ_6 := hZ_5.below hb6; have q0_6 := cbl hb6 q0_5; have q1_6 := cbl hb6 q1_5; have q2_6 := cbl hb6 q2_5; have hen_6 := hen_5.below hb6; have hon_6 := hon_5.below hb6; have hmi_6 := hmi_5.below hb6; have hy2_6 := hy2_5.below hb6; have hz4_6 := hz4.below hb6; have HBT_6 := Below.cons HBT_5 hb6)
      | (go_at_call 107; (with_reducible refine (C3_3.out _ _ _ _ _ hX_6 hyz).mono ?_); rintro e W7 ⟨X7, c7, rfl, htw, hb7⟩; have hX_7 := hX_6.below hb7; have hY_7 := hY_6.below hb7; have hZ_7 := hZ_6.below hb7; have q0_7 := cbl hb7 q0_6; have q1_7 := cbl hb7 q1_6; have q2_7 := cbl hb7 q2_6; have hen_7 := hen_6.below hb7; have hon_7 := hon_6.below hb7; have hmi_7 := hmi_6.below hb7; have hy2_7 := hy2_6.below hb7; have hz4_7 := hz4_6.below hb7; have hyz_7 := hyz.below hb7; have HBT_7 := Below.cons HBT_6 hb7))
  go_wp2_with (fail)
  refine bodyPost_ret (v := .tuple #[.slice X2 (nl on) c2, .slice X3 (nl mi) c3, .slice X7 (nl tw) c7, .bool bb]) (by simp [results, Tryz.results150, go_sem]) rfl ?_
  refine ⟨_, on, _, _, mi, _, _, tw, _, ?_, hon_7, hmi_7, htw, ?_, ?_, ?_, HBT_7⟩
  · rw [← HEN.out, ← Ebb.out]
  · rw [Eon.out, Een.out]
  · rw [Emi.out, Een.out]
  · rw [Etw.out, Eyz.out, Ey2.out, Ez4.out]
end Go.Proofs.YtacjfpibilolnaaGreatDoor

/- Toom's product. -/
set_option linter.unusedVariables false
set_option linter.unusedSimpArgs false
namespace Go.Proofs.YtacjfpibilolnaaGreatDoor
open Go.RowKit Go.Shelf
attribute [local go_sem] max2_i min2_i max_two min_two

/-- What the five points tell of a product of two polynomials of degree 2 (rm: the size of the value at -1, s: its sign is the other one). -/
theorem toom_points (x0 x1 x2 y0 y1 y2 am bm r1 rm r2 : Nat) (ha : am = x0 + x2 - x1 + (x1 - (x0 + x2))) (hb : bm = y0 + y2 - y1 + (y1 - (y0 + y2)))
    (h1 : r1 = (x0 + x2 + x1) * (y0 + y2 + y1)) (hm : rm = am * bm) (h2 : r2 = (x0 + (x1 * 2 + x2 * 4)) * (y0 + (y1 * 2 + y2 * 4))) :
    rm ≤ r1 ∧
    (decide (x0 + x2 < x1) = decide (y0 + y2 < y1) → r1 + rm = 2 * (x0 * y0 + (x0 * y2 + x1 * y1 + x2 * y0) + x2 * y2) ∧ r1 - rm = 2 * ((x0 * y1 + x1 * y0) + (x1 * y2 + x2 * y1))) ∧
    (decide (x0 + x2 < x1) ≠ decide (y0 + y2 < y1) → r1 - rm = 2 * (x0 * y0 + (x0 * y2 + x1 * y1 + x2 * y0) + x2 * y2) ∧ r1 + rm = 2 * ((x0 * y1 + x1 * y0) + (x1 * y2 + x2 * y1))) ∧
    r2 = x0 * y0 + 2 * (x0 * y1 + x1 * y0) + 4 * (x0 * y2 + x1 * y1 + x2 * y0) + 8 * (x1 * y2 + x2 * y1) + 16 * (x2 * y2) := by
  have key : ∀ p q u v : Nat, p ≤ u → q ≤ v → p * q ≤ u * v := fun p q u v h h' => Nat.mul_le_mul h h'
  have hle : rm ≤ r1 := by rw [h1, hm]; exact key _ _ _ _ (by omega) (by omega)
  refine ⟨hle, ?_, ?_, by rw [h2]; grind⟩
  · intro hs
    by_cases hx : x0 + x2 < x1
    · have hy : y0 + y2 < y1 := by simpa [hx] using hs
      obtain ⟨i, hi⟩ : ∃ i, x1 = x0 + x2 + i := ⟨x1 - (x0 + x2), by omega⟩
      obtain ⟨j, hj⟩ : ∃ j, y1 = y0 + y2 + j := ⟨y1 - (y0 + y2), by omega⟩
      have e1 : am = i := by omega
      have e2 : bm = j := by omega
      have e3 : r1 = rm + 2 * ((x0 * y1 + x1 * y0) + (x1 * y2 + x2 * y1)) := by rw [h1, hm, e1, e2, hi, hj]; grind
      refine ⟨?_, by omega⟩
      rw [e3, hm, e1, e2, hi, hj]; grind
    · have hy : ¬ y0 + y2 < y1 := by simpa [hx] using hs
      obtain ⟨i, hi⟩ : ∃ i, x0 + x2 = x1 + i := ⟨x0 + x2 - x1, by omega⟩
      obtain ⟨j, hj⟩ : ∃ j, y0 + y2 = y1 + j := ⟨y0 + y2 - y1, by omega⟩
      have e1 : am = i := by omega
      have e2 : bm = j := by omega
      have e3 : r1 = rm + 2 * ((x0 * y1 + x1 * y0) + (x1 * y2 + x2 * y1)) := by
        have : (x0 * y1 + x1 * y0) + (x1 * y2 + x2 * y1) = (x0 + x2) * y1 + x1 * (y0 + y2) := by grind
        rw [this, h1, hm, e1, e2, hi, hj]; grind
      have e4 : x0 * y0 + (x0 * y2 + x1 * y1 + x2 * y0) + x2 * y2 = (x0 + x2) * (y0 + y2) + x1 * y1 := by grind
      refine ⟨?_, by omega⟩
      rw [e4, h1, hm, e1, e2, hi, hj]; grind
  · intro hs
    by_cases hx : x0 + x2 < x1
    · have hy : ¬ y0 + y2 < y1 := by
        intro h; exact hs (by simp [hx, h])
      obtain ⟨i, hi⟩ : ∃ i, x1 = x0 + x2 + i := ⟨x1 - (x0 + x2), by omega⟩
      obtain ⟨j, hj⟩ : ∃ j, y0 + y2 = y1 + j := ⟨y0 + y2 - y1, by omega⟩
      have e1 : am = i := by omega
      have e2 : bm = j := by omega
      have e4 : x0 * y0 + (x0 * y2 + x1 * y1 + x2 * y0) + x2 * y2 = (x0 + x2) * (y0 + y2) + x1 * y1 := by grind
      have e5 : (x0 * y1 + x1 * y0) + (x1 * y2 + x2 * y1) = (x0 + x2) * y1 + x1 * (y0 + y2) := by grind
      have e3 : r1 = rm + 2 * (x0 * y0 + (x0 * y2 + x1 * y1 + x2 * y0) + x2 * y2) := by rw [e4, h1, hm, e1, e2, hi, hj]; grind
      refine ⟨by omega, ?_⟩
      rw [e5, h1, hm, e1, e2, hi, hj]; grind
    · have hy : y0 + y2 < y1 := by
        by_cases h : y0 + y2 < y1
        · exact h
        · exact absurd (by simp [hx, h]) hs
      obtain ⟨i, hi⟩ : ∃ i, x0 + x2 = x1 + i := ⟨x0 + x2 - x1, by omega⟩
      obtain ⟨j, hj⟩ : ∃ j, y1 = y0 + y2 + j := ⟨y1 - (y0 + y2), by omega⟩
      have e1 : am = i := by omega
      have e2 : bm = j := by omega
      have e4 : x0 * y0 + (x0 * y2 + x1 * y1 + x2 * y0) + x2 * y2 = (x0 + x2) * (y0 + y2) + x1 * y1 := by grind
      have e5 : (x0 * y1 + x1 * y0) + (x1 * y2 + x2 * y1) = (x0 + x2) * y1 + x1 * (y0 + y2) := by grind
      have e3 : r1 = rm + 2 * (x0 * y0 + (x0 * y2 + x1 * y1 + x2 * y0) + x2 * y2) := by rw [e4, h1, hm, e1, e2, hi, hj]; grind
      refine ⟨by omega, ?_⟩
      rw [e5, h1, hm, e1, e2, hi, hj]; grind
theorem cut_thirds {a k m : Nat} (h : nl a ≤ 2 * k + m) : cut a 0 k + 2 ^ (32 * k) * cut a k k + 2 ^ (32 * k) * 2 ^ (32 * k) * cut a (2 * k) m = a := by
  rw [cut_low, cut_high (k := 2 * k) h]
  unfold cut
  have h1 := Nat.div_add_mod a (2 ^ (32 * k))
  have h2 := Nat.div_add_mod (a / 2 ^ (32 * k)) (2 ^ (32 * k))
  rw [show 32 * (2 * k) = 32 * k + 32 * k by omega, Nat.pow_add, ← Nat.div_div_eq_div_mul]
  generalize a / 2 ^ (32 * k) / 2 ^ (32 * k) = c at *
  generalize a / 2 ^ (32 * k) % 2 ^ (32 * k) = b at *
  generalize a % 2 ^ (32 * k) = z at *
  rw [← h2] at h1
  generalize 2 ^ (32 * k) = p at *
  grind
end Go.Proofs.YtacjfpibilolnaaGreatDoor
