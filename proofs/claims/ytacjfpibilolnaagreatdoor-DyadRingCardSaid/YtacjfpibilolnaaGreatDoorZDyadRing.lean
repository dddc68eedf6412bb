/- For all inputs sums and products may be turned and put together in any order, products are spread over sums, what was added is taken away again, and all are right: DyadRing returns true and leaves its arguments as they were. Conditions: Each package-level variable that the row lists (math/bits.deBruijn32tab, ntt.fields) holds at the call what its package's text lays; the tie is given and covers the pruned copy of the repository. -/
import Derived.Test.YtacjfpibilolnaaGreatDoorSB42
import Derived.Test.YtacjfpibilolnaaGreatDoorSB36
import Derived.Test.YtacjfpibilolnaaGreatDoorSB40
import Derived.Test.YtacjfpibilolnaaGreatDoorSB41
import Derived.Test.YtacjfpibilolnaaGreatDoorCards
import Derived.Test.YtacjfpibilolnaaGreatDoorTie
import Derived.SevenTiedAt
set_option maxRecDepth 100000
set_option maxHeartbeats 4000000
/- Laws of dyadic numbers: DyadRing. -/
set_option linter.unusedVariables false
set_option linter.unusedSimpArgs false
namespace Go.Proofs.YtacjfpibilolnaaGreatDoor
open Go.RowKit Go.Shelf
attribute [local go_sem] max2_i min2_i max_two min_two

theorem dyadRing_c (sa sb sc : Bool) (xa xb xc : Int) (A : Option Addr) (c : Nat) (l : List Nat) (B : Option Addr) (d : Nat) (k : List Nat) (D : Option Addr) (f : Nat) (m : List Nat) (w : World) (hT : Tab w) (hG : Flds w) (hl : Rd w A l) (Ll : Lim l) (Ql : l.length ≤ maxLen) (Cl : l.length ≤ c) (Zl : A = none → c = 0) (hk : Rd w B k) (Lk : Lim k) (Qk : k.length ≤ maxLen) (Ck : k.length ≤ d) (Zk : B = none → d = 0) (hm : Rd w D m) (Lm : Lim m) (Qm : m.length ≤ maxLen) (Cm : m.length ≤ f) (Zm : D = none → f = 0)  :
    Calls Tryz.prog 10 #[.agg #[.bool sa, .slice A l.length c, .int .i64 xa], .agg #[.bool sb, .slice B k.length d, .int .i64 xb], .agg #[.bool sc, .slice D m.length f, .int .i64 xc]] w fun e w' => e = .returned (.bool true) ∧ Below w.heap.size w w' := by
  replace Zl := Lib.hid Zl
  replace Zk := Lib.hid Zk
  replace Zm := Lib.hid Zm
  have hT0 := hT
  have hG0 := hG
  have hl0 := hl
  have hk0 := hk
  have hm0 := hm
  obtain ⟨x, Ex⟩ : ∃ z : Rat, z = dval (ival sa (val (l.take 8))) (cutE xa) := ⟨_, rfl⟩
  have Ox : DB x 8 456 := by rw [Ex]; exact db_val (E := 200) (by rw [mg_ival]; exact made_nl l Ll 8) (cutE_bd xa)
  have C1 := fun (W : World) (h1 : Rd W A l) => tmadeI_c sa A c l xa 8 8 W h1 Ll Ql Cl Zl.out (by decide) rfl
  rw [← Ex] at C1
  replace Ex := Lib.hid Ex
  replace C1 := Lib.hid C1
  obtain ⟨y, Ey⟩ : ∃ z : Rat, z = dval (ival sb (val (k.take 8))) (cutE xb) := ⟨_, rfl⟩
  have Oy : DB y 8 456 := by rw [Ey]; exact db_val (E := 200) (by rw [mg_ival]; exact made_nl k Lk 8) (cutE_bd xb)
  have C2 := fun (W : World) (h1 : Rd W B k) => tmadeI_c sb B d k xb 8 8 W h1 Lk Qk Ck Zk.out (by decide) rfl
  rw [← Ey] at C2
  replace Ey := Lib.hid Ey
  replace C2 := Lib.hid C2
  obtain ⟨z, Ez⟩ : ∃ z : Rat, z = dval (ival sc (val (m.take 8))) (cutE xc) := ⟨_, rfl⟩
  have Oz : DB z 8 456 := by rw [Ez]; exact db_val (E := 200) (by rw [mg_ival]; exact made_nl m Lm 8) (cutE_bd xc)
  have C3 := fun (W : World) (h1 : Rd W D m) => tmadeI_c sc D f m xc 8 8 W h1 Lm Qm Cm Zm.out (by decide) rfl
  rw [← Ez] at C3
  replace Ez := Lib.hid Ez
  replace C3 := Lib.hid C3
  obtain ⟨hb1, Ra, Rb, Re⟩ := bx3 w #[.bool sa, .slice A l.length c, .int .i64 xa] 28 #[.bool sb, .slice B k.length d, .int .i64 xb] 28 #[.bool sc, .slice D m.length f, .int .i64 xc] 28
  replace hT := hT.below hb1
  replace hG := hG.below hb1
  replace hl := hl.below hb1
  replace hk := hk.below hb1
  replace hm := hm.below hb1
  have HBT := hb1
  clear hb1
  have qa0 := Ra.c (i := 0) rfl
  have qa1 := Ra.c (i := 1) rfl
  have qa2 := Ra.c (i := 2) rfl
  have qb0 := Rb.c (i := 0) rfl
  have qb1 := Rb.c (i := 1) rfl
  have qb2 := Rb.c (i := 2) rfl
  have qe0 := Re.c (i := 0) rfl
  have qe1 := Re.c (i := 1) rfl
  have qe2 := Re.c (i := 2) rfl
  go_enter Tryz.func10, Tryz.ntmps10
  go_wp2_with (fail)
  refine (Calls.mono (dhead_c _ hT) ?_)
  rintro e W2 ⟨rfl, hb2⟩
  replace hT := hT.below hb2
  replace hG := hG.below hb2
  replace hl := hl.below hb2
  replace hk := hk.below hb2
  replace hm := hm.below hb2
  replace Ra := Ra.below hb2
  replace qa0 := cbl hb2 qa0
  replace qa1 := cbl hb2 qa1
  replace qa2 := cbl hb2 qa2
  replace Rb := Rb.below hb2
  replace qb0 := cbl hb2 qb0
  replace qb1 := cbl hb2 qb1
  replace qb2 := cbl hb2 qb2
  replace Re := Re.below hb2
  replace qe0 := cbl hb2 qe0
  replace qe1 := cbl hb2 qe1
  replace qe2 := cbl hb2 qe2
  replace HBT := Below.cons HBT hb2
  clear hb2
  go_wp2_with (fail)
  refine wp_region_inv (fun E a' w' => ∃ (u14 u15 u16 u17 u18 u19 u8 u9 u10 : Value),
    a' = { tmps := #[.agg #[.bool sa, .slice A l.length c, .int .i64 xa], .agg #[.bool sb, .slice B k.length d, .int .i64 xb], .agg #[.bool sc, .slice D m.length f, .int .i64 xc], .pointer (some ⟨w.heap.size, 0, none⟩), .pointer (some ⟨(w.heap.size + 1), 0, none⟩), .pointer (some ⟨(w.heap.size + 1 + 1), 0, none⟩), .bool false, .bool true, u8, u9, u10, undef, undef, .bool true, u14, u15, u16, u17, u18, u19, undef, undef, undef, undef, undef, undef, undef, undef, undef, undef, undef, undef, undef, undef, undef, undef, undef, undef, undef, undef, undef, undef, undef, undef, undef, undef, undef, undef, undef, undef, undef, undef, undef, undef, undef, undef, undef, undef, undef, undef, undef, undef, undef, undef, undef, undef, undef, undef, undef, undef, undef, undef, undef, undef, undef, undef, undef, undef, undef, undef, undef, undef, undef, undef, undef, undef, undef, undef, undef, undef, undef, undef, undef, undef, undef, undef, undef, undef, undef, undef, undef, undef, undef, undef, undef, undef, undef, undef, undef], defers := [] } ∧
    (E 0 = true → u14 = .agg #[.bool sa, .slice A l.length c, .int .i64 xa]) ∧
    (E 1 = true → PD u15 x w') ∧
    (E 2 = true → u16 = .agg #[.bool sb, .slice B k.length d, .int .i64 xb]) ∧
    (E 3 = true → PD u17 y w') ∧
    (E 4 = true → u18 = .agg #[.bool sc, .slice D m.length f, .int .i64 xc]) ∧
    (E 5 = true → PD u19 z w') ∧
    (E 6 = true → PB3 28 W2.heap.size u8 w') ∧
    (E 7 = true → PB3 28 W2.heap.size u9 w') ∧
    (E 8 = true → PB3 28 W2.heap.size u10 w') ∧
    (E 9 = true → PBD W2.heap.size u8 x w') ∧
    (E 10 = true → PBD W2.heap.size u9 y w') ∧
    (E 11 = true → PBD W2.heap.size u10 z w') ∧
    (E 9 = true → E 6 = true) ∧
    (E 10 = true → E 7 = true) ∧
    (E 11 = true → E 8 = true) ∧
    (E 6 = true → E 7 = true → u8 ≠ u9) ∧
    (E 6 = true → E 8 = true → u8 ≠ u10) ∧
    (E 7 = true → E 8 = true → u9 ≠ u10) ∧
    Below W2.heap.size W2 w') (by kernel_rfl) (by kernel_rfl) ?init ?fin ?step
  case init => exact ⟨_, _, _, _, _, _, _, _, _, rfl, by simp, by simp, by simp, by simp, by simp, by simp, by simp, by simp, by simp, by simp, by simp, by simp, by simp, by simp, by simp, by simp, by simp, by simp, (Below.refl _ _).drew⟩
  case step =>
    rintro E a' w' i ⟨u14, u15, u16, u17, u18, u19, u8, u9, u10, rfl, h0, h1, h2, h3, h4, h5, h6, h7, h8, h9, h10, h11, hD9, hD10, hD11, hN6_7, hN6_8, hN7_8, hB⟩ hi hEi hdep
    have qa0 := cbl hB qa0
    have qa1 := cbl hB qa1
    have qa2 := cbl hB qa2
    have qb0 := cbl hB qb0
    have qb1 := cbl hB qb1
    have qb2 := cbl hB qb2
    have qe0 := cbl hB qe0
    have qe1 := cbl hB qe1
    have qe2 := cbl hB qe2
    obtain rfl | rfl | rfl | rfl | rfl | rfl | rfl | rfl | rfl | rfl | rfl | rfl : i = 0 ∨ i = 1 ∨ i = 2 ∨ i = 3 ∨ i = 4 ∨ i = 5 ∨ i = 6 ∨ i = 7 ∨ i = 8 ∨ i = 9 ∨ i = 10 ∨ i = 11 := by simp at hi; omega
    · skip
      refine wpOp_step rfl (fun K' hK' => ?_)
      go_simp
      refine hK' _ _ ?_
      exact ⟨_, _, _, _, _, _, _, _, _, rfl, fun _ => rfl, keepD (by decide) h1, keepD (by decide) h2, keepD (by decide) h3, keepD (by decide) h4, keepD (by decide) h5, keepD (by decide) h6, keepD (by decide) h7, keepD (by decide) h8, keepD (by decide) h9, keepD (by decide) h10, keepD (by decide) h11, (fun h => by have := hD9 (by simpa using h); simpa using this), (fun h => by have := hD10 (by simpa using h); simpa using this), (fun h => by have := hD11 (by simpa using h); simpa using this), (fun h k => hN6_7 (by simpa using h) (by simpa using k)), (fun h k => hN6_8 (by simpa using h) (by simpa using k)), (fun h k => hN7_8 (by simpa using h) (by simpa using k)), hB⟩
    · skip
      have d0 := hdep _ rfl ⟨0, .data⟩ (by simp) rfl
      obtain rfl := h0 d0
      refine wpOp_step rfl (fun K' hK' => ?_)
      go_simp
      refine (Calls.mono (C1.out w' (hl.below hB)) ?_)
      rintro e W1 ⟨Xr, cr, rfl, kr, kb⟩
      refine hK' _ _ ?_
      exact ⟨_, _, _, _, _, _, _, _, _, rfl, keepD (by decide) h0, fun _ => ⟨Xr, cr, rfl, kr⟩, keepD (by decide) h2, keepP (by decide) h3 (fun h => h.below kb), keepD (by decide) h4, keepP (by decide) h5 (fun h => h.below kb), keepP (by decide) h6 (fun h => h.below kb), keepP (by decide) h7 (fun h => h.below kb), keepP (by decide) h8 (fun h => h.below kb), keepP (by decide) h9 (fun h => h.below kb), keepP (by decide) h10 (fun h => h.below kb), keepP (by decide) h11 (fun h => h.below kb), (fun h => by have := hD9 (by simpa using h); simpa using this), (fun h => by have := hD10 (by simpa using h); simpa using this), (fun h => by have := hD11 (by simpa using h); simpa using this), (fun h k => hN6_7 (by simpa using h) (by simpa using k)), (fun h k => hN6_8 (by simpa using h) (by simpa using k)), (fun h k => hN7_8 (by simpa using h) (by simpa using k)), Below.cons hB kb⟩
    · skip
      refine wpOp_step rfl (fun K' hK' => ?_)
      go_simp
      refine hK' _ _ ?_
      exact ⟨_, _, _, _, _, _, _, _, _, rfl, keepD (by decide) h0, keepD (by decide) h1, fun _ => rfl, keepD (by decide) h3, keepD (by decide) h4, keepD (by decide) h5, keepD (by decide) h6, keepD (by decide) h7, keepD (by decide) h8, keepD (by decide) h9, keepD (by decide) h10, keepD (by decide) h11, (fun h => by have := hD9 (by simpa using h); simpa using this), (fun h => by have := hD10 (by simpa using h); simpa using this), (fun h => by have := hD11 (by simpa using h); simpa using this), (fun h k => hN6_7 (by simpa using h) (by simpa using k)), (fun h k => hN6_8 (by simpa using h) (by simpa using k)), (fun h k => hN7_8 (by simpa using h) (by simpa using k)), hB⟩
    · skip
      have d2 := hdep _ rfl ⟨2, .data⟩ (by simp) rfl
      obtain rfl := h2 d2
      refine wpOp_step rfl (fun K' hK' => ?_)
      go_simp
      refine (Calls.mono (C2.out w' (hk.below hB)) ?_)
      rintro e W1 ⟨Xr, cr, rfl, kr, kb⟩
      refine hK' _ _ ?_
      exact ⟨_, _, _, _, _, _, _, _, _, rfl, keepD (by decide) h0, keepP (by decide) h1 (fun h => h.below kb), keepD (by decide) h2, fun _ => ⟨Xr, cr, rfl, kr⟩, keepD (by decide) h4, keepP (by decide) h5 (fun h => h.below kb), keepP (by decide) h6 (fun h => h.below kb), keepP (by decide) h7 (fun h => h.below kb), keepP (by decide) h8 (fun h => h.below kb), keepP (by decide) h9 (fun h => h.below kb), keepP (by decide) h10 (fun h => h.below kb), keepP (by decide) h11 (fun h => h.below kb), (fun h => by have := hD9 (by simpa using h); simpa using this), (fun h => by have := hD10 (by simpa using h); simpa using this), (fun h => by have := hD11 (by simpa using h); simpa using this), (fun h k => hN6_7 (by simpa using h) (by simpa using k)), (fun h k => hN6_8 (by simpa using h) (by simpa using k)), (fun h k => hN7_8 (by simpa using h) (by simpa using k)), Below.cons hB kb⟩
    · skip
      refine wpOp_step rfl (fun K' hK' => ?_)
      go_simp
      refine hK' _ _ ?_
      exact ⟨_, _, _, _, _, _, _, _, _, rfl, keepD (by decide) h0, keepD (by decide) h1, keepD (by decide) h2, keepD (by decide) h3, fun _ => rfl, keepD (by decide) h5, keepD (by decide) h6, keepD (by decide) h7, keepD (by decide) h8, keepD (by decide) h9, keepD (by decide) h10, keepD (by decide) h11, (fun h => by have := hD9 (by simpa using h); simpa using this), (fun h => by have := hD10 (by simpa using h); simpa using this), (fun h => by have := hD11 (by simpa using h); simpa using this), (fun h k => hN6_7 (by simpa using h) (by simpa using k)), (fun h k => hN6_8 (by simpa using h) (by simpa using k)), (fun h k => hN7_8 (by simpa using h) (by simpa using k)), hB⟩
    · skip
      have d4 := hdep _ rfl ⟨4, .data⟩ (by simp) rfl
      obtain rfl := h4 d4
      refine wpOp_step rfl (fun K' hK' => ?_)
      go_simp
      refine (Calls.mono (C3.out w' (hm.below hB)) ?_)
      rintro e W1 ⟨Xr, cr, rfl, kr, kb⟩
      refine hK' _ _ ?_
      exact ⟨_, _, _, _, _, _, _, _, _, rfl, keepD (by decide) h0, keepP (by decide) h1 (fun h => h.below kb), keepD (by decide) h2, keepP (by decide) h3 (fun h => h.below kb), keepD (by decide) h4, fun _ => ⟨Xr, cr, rfl, kr⟩, keepP (by decide) h6 (fun h => h.below kb), keepP (by decide) h7 (fun h => h.below kb), keepP (by decide) h8 (fun h => h.below kb), keepP (by decide) h9 (fun h => h.below kb), keepP (by decide) h10 (fun h => h.below kb), keepP (by decide) h11 (fun h => h.below kb), (fun h => by have := hD9 (by simpa using h); simpa using this), (fun h => by have := hD10 (by simpa using h); simpa using this), (fun h => by have := hD11 (by simpa using h); simpa using this), (fun h k => hN6_7 (by simpa using h) (by simpa using k)), (fun h k => hN6_8 (by simpa using h) (by simpa using k)), (fun h k => hN7_8 (by simpa using h) (by simpa using k)), Below.cons hB kb⟩
    · skip
      have kb : Below w'.heap.size w' (w'.alloc (.cells #[.bool false, .slice none 0 0, .int .i64 0] 28)) := (Below.refl _ _).alloc (Nat.le_refl _) _
      refine wpOp_step rfl (fun K' hK' => ?_)
      go_simp
      refine hK' _ _ ?_
      exact ⟨_, _, _, _, _, _, _, _, _, rfl, keepD (by decide) h0, keepP (by decide) h1 (fun h => h.below kb), keepD (by decide) h2, keepP (by decide) h3 (fun h => h.below kb), keepD (by decide) h4, keepP (by decide) h5 (fun h => h.below kb), fun _ => ⟨_, _, _, _, rfl, hB.size, ⟨at_new rfl⟩, notU_bool _, notU_slice _ _ _, notU_i64 _⟩, keepP (by decide) h7 (fun h => h.below kb), keepP (by decide) h8 (fun h => h.below kb), (fun h => by have h2 := hD9 (by simpa using h); rw [hEi] at h2; cases h2), keepP (by decide) h10 (fun h => h.below kb), keepP (by decide) h11 (fun h => h.below kb), (fun _ => by simp), (fun h => by have := hD10 (by simpa using h); simpa using this), (fun h => by have := hD11 (by simpa using h); simpa using this), (fun _ h => by obtain ⟨n2, e2, l2⟩ := (h7 (by simpa using h)).lt; rw [e2]; intro e3; simp at e3 <;> omega), (fun _ h => by obtain ⟨n2, e2, l2⟩ := (h8 (by simpa using h)).lt; rw [e2]; intro e3; simp at e3 <;> omega), (fun h k => hN7_8 (by simpa using h) (by simpa using k)), Below.cons hB kb⟩
    · skip
      have kb : Below w'.heap.size w' (w'.alloc (.cells #[.bool false, .slice none 0 0, .int .i64 0] 28)) := (Below.refl _ _).alloc (Nat.le_refl _) _
      refine wpOp_step rfl (fun K' hK' => ?_)
      go_simp
      refine hK' _ _ ?_
      exact ⟨_, _, _, _, _, _, _, _, _, rfl, keepD (by decide) h0, keepP (by decide) h1 (fun h => h.below kb), keepD (by decide) h2, keepP (by decide) h3 (fun h => h.below kb), keepD (by decide) h4, keepP (by decide) h5 (fun h => h.below kb), keepP (by decide) h6 (fun h => h.below kb), fun _ => ⟨_, _, _, _, rfl, hB.size, ⟨at_new rfl⟩, notU_bool _, notU_slice _ _ _, notU_i64 _⟩, keepP (by decide) h8 (fun h => h.below kb), keepP (by decide) h9 (fun h => h.below kb), (fun h => by have h2 := hD10 (by simpa using h); rw [hEi] at h2; cases h2), keepP (by decide) h11 (fun h => h.below kb), (fun h => by have := hD9 (by simpa using h); simpa using this), (fun _ => by simp), (fun h => by have := hD11 (by simpa using h); simpa using this), (fun h _ => by obtain ⟨n2, e2, l2⟩ := (h6 (by simpa using h)).lt; rw [e2]; intro e3; simp at e3 <;> omega), (fun h k => hN6_8 (by simpa using h) (by simpa using k)), (fun _ h => by obtain ⟨n2, e2, l2⟩ := (h8 (by simpa using h)).lt; rw [e2]; intro e3; simp at e3 <;> omega), Below.cons hB kb⟩
    · skip
      have kb : Below w'.heap.size w' (w'.alloc (.cells #[.bool false, .slice none 0 0, .int .i64 0] 28)) := (Below.refl _ _).alloc (Nat.le_refl _) _
      refine wpOp_step rfl (fun K' hK' => ?_)
      go_simp
      refine hK' _ _ ?_
      exact ⟨_, _, _, _, _, _, _, _, _, rfl, keepD (by decide) h0, keepP (by decide) h1 (fun h => h.below kb), keepD (by decide) h2, keepP (by decide) h3 (fun h => h.below kb), keepD (by decide) h4, keepP (by decide) h5 (fun h => h.below kb), keepP (by decide) h6 (fun h => h.below kb), keepP (by decide) h7 (fun h => h.below kb), fun _ => ⟨_, _, _, _, rfl, hB.size, ⟨at_new rfl⟩, notU_bool _, notU_slice _ _ _, notU_i64 _⟩, keepP (by decide) h9 (fun h => h.below kb), keepP (by decide) h10 (fun h => h.below kb), (fun h => by have h2 := hD11 (by simpa using h); rw [hEi] at h2; cases h2), (fun h => by have := hD9 (by simpa using h); simpa using this), (fun h => by have := hD10 (by simpa using h); simpa using this), (fun _ => by simp), (fun h k => hN6_7 (by simpa using h) (by simpa using k)), (fun h _ => by obtain ⟨n2, e2, l2⟩ := (h6 (by simpa using h)).lt; rw [e2]; intro e3; simp at e3 <;> omega), (fun h _ => by obtain ⟨n2, e2, l2⟩ := (h7 (by simpa using h)).lt; rw [e2]; intro e3; simp at e3 <;> omega), Below.cons hB kb⟩
    · skip
      have d6 := hdep _ rfl ⟨6, .data⟩ (by simp) rfl
      obtain ⟨nb, z0, z1, z2, rfl, hn, hb, nz0, nz1, nz2⟩ := h6 d6
      have d1 := hdep _ rfl ⟨1, .data⟩ (by simp) rfl
      obtain ⟨X_1, c_1, rfl, k_1⟩ := h1 d1
      have fz0 := hb.f (i := 0)
      have cz0 := hb.c (i := 0) rfl
      have fz1 := hb.f (i := 1)
      have cz1 := hb.c (i := 1) rfl
      have fz2 := hb.f (i := 2)
      have cz2 := hb.c (i := 2) rfl
      have hp := hb.put3 (notU3 nz0 nz1 nz2) (.bool (sg (dmn x))) (.slice X_1 (nl (mg (dmn x))) c_1) (.int .i64 (dex x))
      have hs := hb.store3 (.bool (sg (dmn x))) (.slice X_1 (nl (mg (dmn x))) c_1) (.int .i64 (dex x))
      refine wpOp_step rfl (fun K' hK' => ?_)
      go_simp
      refine hK' _ _ ?_
      exact ⟨_, _, _, _, _, _, _, _, _, rfl, keepD (by decide) h0, keepP (by decide) h1 (fun h => h.put hp), keepD (by decide) h2, keepP (by decide) h3 (fun h => h.put hp), keepD (by decide) h4, keepP (by decide) h5 (fun h => h.put hp), (fun _ => ⟨nb, _, _, _, rfl, hn, hs, notU_bool _, notU_slice _ _ _, notU_i64 _⟩), keepP' (by decide) h7 (fun e h => h.put hp (fun e3 => hN6_7 d6 (by simpa using e) e3.symm)), keepP' (by decide) h8 (fun e h => h.put hp (fun e3 => hN6_8 d6 (by simpa using e) e3.symm)), fun _ => ⟨nb, X_1, c_1, rfl, hn, hs, hp.nat k_1⟩, keepP' (by decide) h10 (fun e h => h.put hp (fun e3 => hN6_7 d6 (hD10 (by simpa using e)) e3.symm)), keepP' (by decide) h11 (fun e h => h.put hp (fun e3 => hN6_8 d6 (hD11 (by simpa using e)) e3.symm)), (fun _ => by simp [d6]), (fun h => by have := hD10 (by simpa using h); simpa using this), (fun h => by have := hD11 (by simpa using h); simpa using this), (fun h k => hN6_7 (by simpa using h) (by simpa using k)), (fun h k => hN6_8 (by simpa using h) (by simpa using k)), (fun h k => hN7_8 (by simpa using h) (by simpa using k)), Below.store3 hB hn⟩
    · skip
      have d7 := hdep _ rfl ⟨7, .data⟩ (by simp) rfl
      obtain ⟨nb, z0, z1, z2, rfl, hn, hb, nz0, nz1, nz2⟩ := h7 d7
      have d3 := hdep _ rfl ⟨3, .data⟩ (by simp) rfl
      obtain ⟨X_3, c_3, rfl, k_3⟩ := h3 d3
      have fz0 := hb.f (i := 0)
      have cz0 := hb.c (i := 0) rfl
      have fz1 := hb.f (i := 1)
      have cz1 := hb.c (i := 1) rfl
      have fz2 := hb.f (i := 2)
      have cz2 := hb.c (i := 2) rfl
      have hp := hb.put3 (notU3 nz0 nz1 nz2) (.bool (sg (dmn y))) (.slice X_3 (nl (mg (dmn y))) c_3) (.int .i64 (dex y))
      have hs := hb.store3 (.bool (sg (dmn y))) (.slice X_3 (nl (mg (dmn y))) c_3) (.int .i64 (dex y))
      refine wpOp_step rfl (fun K' hK' => ?_)
      go_simp
      refine hK' _ _ ?_
      exact ⟨_, _, _, _, _, _, _, _, _, rfl, keepD (by decide) h0, keepP (by decide) h1 (fun h => h.put hp), keepD (by decide) h2, keepP (by decide) h3 (fun h => h.put hp), keepD (by decide) h4, keepP (by decide) h5 (fun h => h.put hp), keepP' (by decide) h6 (fun e h => h.put hp (hN6_7 (by simpa using e) d7)), (fun _ => ⟨nb, _, _, _, rfl, hn, hs, notU_bool _, notU_slice _ _ _, notU_i64 _⟩), keepP' (by decide) h8 (fun e h => h.put hp (fun e3 => hN7_8 d7 (by simpa using e) e3.symm)), keepP' (by decide) h9 (fun e h => h.put hp (hN6_7 (hD9 (by simpa using e)) d7)), fun _ => ⟨nb, X_3, c_3, rfl, hn, hs, hp.nat k_3⟩, keepP' (by decide) h11 (fun e h => h.put hp (fun e3 => hN7_8 d7 (hD11 (by simpa using e)) e3.symm)), (fun h => by have := hD9 (by simpa using h); simpa using this), (fun _ => by simp [d7]), (fun h => by have := hD11 (by simpa using h); simpa using this), (fun h k => hN6_7 (by simpa using h) (by simpa using k)), (fun h k => hN6_8 (by simpa using h) (by simpa using k)), (fun h k => hN7_8 (by simpa using h) (by simpa using k)), Below.store3 hB hn⟩
    · skip
      have d8 := hdep _ rfl ⟨8, .data⟩ (by simp) rfl
      obtain ⟨nb, z0, z1, z2, rfl, hn, hb, nz0, nz1, nz2⟩ := h8 d8
      have d5 := hdep _ rfl ⟨5, .data⟩ (by simp) rfl
      obtain ⟨X_5, c_5, rfl, k_5⟩ := h5 d5
      have fz0 := hb.f (i := 0)
      have cz0 := hb.c (i := 0) rfl
      have fz1 := hb.f (i := 1)
      have cz1 := hb.c (i := 1) rfl
      have fz2 := hb.f (i := 2)
      have cz2 := hb.c (i := 2) rfl
      have hp := hb.put3 (notU3 nz0 nz1 nz2) (.bool (sg (dmn z))) (.slice X_5 (nl (mg (dmn z))) c_5) (.int .i64 (dex z))
      have hs := hb.store3 (.bool (sg (dmn z))) (.slice X_5 (nl (mg (dmn z))) c_5) (.int .i64 (dex z))
      refine wpOp_step rfl (fun K' hK' => ?_)
      go_simp
      refine hK' _ _ ?_
      exact ⟨_, _, _, _, _, _, _, _, _, rfl, keepD (by decide) h0, keepP (by decide) h1 (fun h => h.put hp), keepD (by decide) h2, keepP (by decide) h3 (fun h => h.put hp), keepD (by decide) h4, keepP (by decide) h5 (fun h => h.put hp), keepP' (by decide) h6 (fun e h => h.put hp (hN6_8 (by simpa using e) d8)), keepP' (by decide) h7 (fun e h => h.put hp (hN7_8 (by simpa using e) d8)), (fun _ => ⟨nb, _, _, _, rfl, hn, hs, notU_bool _, notU_slice _ _ _, notU_i64 _⟩), keepP' (by decide) h9 (fun e h => h.put hp (hN6_8 (hD9 (by simpa using e)) d8)), keepP' (by decide) h10 (fun e h => h.put hp (hN7_8 (hD10 (by simpa using e)) d8)), fun _ => ⟨nb, X_5, c_5, rfl, hn, hs, hp.nat k_5⟩, (fun h => by have := hD9 (by simpa using h); simpa using this), (fun h => by have := hD10 (by simpa using h); simpa using this), (fun _ => by simp [d8]), (fun h k => hN6_7 (by simpa using h) (by simpa using k)), (fun h k => hN6_8 (by simpa using h) (by simpa using k)), (fun h k => hN7_8 (by simpa using h) (by simpa using k)), Below.store3 hB hn⟩
  case fin =>
    rintro E a' w' ⟨u14, u15, u16, u17, u18, u19, u8, u9, u10, rfl, h0, h1, h2, h3, h4, h5, h6, h7, h8, h9, h10, h11, hD9, hD10, hD11, hN6_7, hN6_8, hN7_8, hB⟩ hall
    obtain ⟨nbx, Xx, cx, rfl, hnx, Rx, hx⟩ := h9 (hall 9 (by simp))
    obtain ⟨nby, Xy, cy, rfl, hny, Ry, hy⟩ := h10 (hall 10 (by simp))
    obtain ⟨nbz, Xz, cz, rfl, hnz, Rz, hz⟩ := h11 (hall 11 (by simp))
    replace hT := hT.below hB
    replace hG := hG.below hB
    replace hl := hl.below hB
    replace hk := hk.below hB
    replace hm := hm.below hB
    replace Ra := Ra.below hB
    replace qa0 := cbl hB qa0
    replace qa1 := cbl hB qa1
    replace qa2 := cbl hB qa2
    replace Rb := Rb.below hB
    replace qb0 := cbl hB qb0
    replace qb1 := cbl hB qb1
    replace qb2 := cbl hB qb2
    replace Re := Re.below hB
    replace qe0 := cbl hB qe0
    replace qe1 := cbl hB qe1
    replace qe2 := cbl hB qe2
    replace HBT := Below.cons HBT hB
    have kvx := hnx
    have qx0 := Rx.c (i := 0) rfl
    have qx1 := Rx.c (i := 1) rfl
    have qx2 := Rx.c (i := 2) rfl
    have kvy := hny
    have qy0 := Ry.c (i := 0) rfl
    have qy1 := Ry.c (i := 1) rfl
    have qy2 := Ry.c (i := 2) rfl
    have kvz := hnz
    have qz0 := Rz.c (i := 0) rfl
    have qz1 := Rz.c (i := 1) rfl
    have qz2 := Rz.c (i := 2) rfl
    obtain rfl := h0 (hall 0 (by simp))
    obtain rfl := h2 (hall 2 (by simp))
    obtain rfl := h4 (hall 4 (by simp))
    clear hall
    clear Ra
    clear qa0
    clear qa1
    clear qa2
    clear Rb
    clear qb0
    clear qb1
    clear qb2
    clear Re
    clear qe0
    clear qe1
    clear qe2
    have Os0 : DB (x + y) 39 1704 := (db_add Ox Oy).mono (by decide) (by decide)
    have Op0 : DB (x * y) 16 1424 := (db_mul Ox Oy).mono (by decide) (by decide)
    obtain ⟨s, Es⟩ : ∃ z : Rat, z = x + y := ⟨_, rfl⟩
    obtain ⟨p, Ep⟩ : ∃ z : Rat, z = x * y := ⟨_, rfl⟩
    rw [← Es] at Os0
    rw [← Ep] at Op0
    have Os := Os0
    have Op := Op0
    clear Os0 Op0
    have C4 := fun (W : World) (h1 : NatV W Xx cx (mg (dmn x))) (h2 : NatV W Xy cy (mg (dmn y))) (hT : Tab W) => dadd_c Xx cx x Xy cy y W h1 h2 (Ox.ok (by decide) (by decide)) (Oy.ok (by decide) (by decide)) hT
    rw [← Es] at C4
    have C5 := fun (W : World) (h1 : NatV W Xx cx (mg (dmn x))) (h2 : NatV W Xy cy (mg (dmn y))) (hT : Tab W) (hG : Flds W) => dmul_c Xx cx x Xy cy y W h1 h2 (Ox.ok (by decide) (by decide)) (Oy.ok (by decide) (by decide)) (Nat.le_trans Ox.l (by decide)) (Nat.le_trans Oy.l (by decide)) hT hG
    rw [← Ep] at C5
    replace C4 := Lib.hid C4
    replace C5 := Lib.hid C5
    replace Es := Lib.hid Es
    replace Ep := Lib.hid Ep
    generalize hV1 : w' = V1 at *
    clear hV1
    go_wp2_with (fail)
    refine wp_region_inv (fun E a' w' => ∃ (u20 u21 u22 u23 u24 u25 u11 u12 : Value),
      a' = { tmps := #[.agg #[.bool sa, .slice A l.length c, .int .i64 xa], .agg #[.bool sb, .slice B k.length d, .int .i64 xb], .agg #[.bool sc, .slice D m.length f, .int .i64 xc], .pointer (some ⟨w.heap.size, 0, none⟩), .pointer (some ⟨(w.heap.size + 1), 0, none⟩), .pointer (some ⟨(w.heap.size + 1 + 1), 0, none⟩), .bool false, .bool true, .pointer (some ⟨nbx, 0, none⟩), .pointer (some ⟨nby, 0, none⟩), .pointer (some ⟨nbz, 0, none⟩), u11, u12, .bool true, .agg #[.bool sa, .slice A l.length c, .int .i64 xa], u15, .agg #[.bool sb, .slice B k.length d, .int .i64 xb], u17, .agg #[.bool sc, .slice D m.length f, .int .i64 xc], u19, u20, u21, u22, u23, u24, u25, undef, undef, undef, undef, undef, undef, undef, undef, undef, undef, undef, undef, undef, undef, undef, undef, undef, undef, undef, undef, undef, undef, undef, undef, undef, undef, undef, undef, undef, undef, undef, undef, undef, undef, undef, undef, undef, undef, undef, undef, undef, undef, undef, undef, undef, undef, undef, undef, undef, undef, undef, undef, undef, undef, undef, undef, undef, undef, undef, undef, undef, undef, undef, undef, undef, undef, undef, undef, undef, undef, undef, undef, undef, undef, undef, undef, undef, undef, undef, undef, undef, undef, undef], defers := [] } ∧
      (E 0 = true → u20 = .agg #[.bool (sg (dmn x)), .slice Xx (nl (mg (dmn x))) cx, .int .i64 (dex x)]) ∧
      (E 1 = true → u21 = .agg #[.bool (sg (dmn y)), .slice Xy (nl (mg (dmn y))) cy, .int .i64 (dex y)]) ∧
      (E 2 = true → PD u22 s w') ∧
      (E 3 = true → u23 = .agg #[.bool (sg (dmn x)), .slice Xx (nl (mg (dmn x))) cx, .int .i64 (dex x)]) ∧
      (E 4 = true → u24 = .agg #[.bool (sg (dmn y)), .slice Xy (nl (mg (dmn y))) cy, .int .i64 (dex y)]) ∧
      (E 5 = true → PD u25 p w') ∧
      (E 6 = true → PB3 28 V1.heap.size u11 w') ∧
      (E 7 = true → PB3 28 V1.heap.size u12 w') ∧
      (E 8 = true → PBD V1.heap.size u11 s w') ∧
      (E 9 = true → PBD V1.heap.size u12 p w') ∧
      (E 8 = true → E 6 = true) ∧
      (E 9 = true → E 7 = true) ∧
      (E 6 = true → E 7 = true → u11 ≠ u12) ∧
      Below V1.heap.size V1 w') (by kernel_rfl) (by kernel_rfl) ?init ?fin ?step
    case init => exact ⟨_, _, _, _, _, _, _, _, rfl, by simp, by simp, by simp, by simp, by simp, by simp, by simp, by simp, by simp, by simp, by simp, by simp, by simp, (Below.refl _ _).drew⟩
    case step =>
      rintro E a' w' i ⟨u20, u21, u22, u23, u24, u25, u11, u12, rfl, h0, h1, h2, h3, h4, h5, h6, h7, h8, h9, hD8, hD9, hN6_7, hB⟩ hi hEi hdep
      have qx0 := cbl hB qx0
      have qx1 := cbl hB qx1
      have qx2 := cbl hB qx2
      have qy0 := cbl hB qy0
      have qy1 := cbl hB qy1
      have qy2 := cbl hB qy2
      obtain rfl | rfl | rfl | rfl | rfl | rfl | rfl | rfl | rfl | rfl : i = 0 ∨ i = 1 ∨ i = 2 ∨ i = 3 ∨ i = 4 ∨ i = 5 ∨ i = 6 ∨ i = 7 ∨ i = 8 ∨ i = 9 := by simp at hi; omega
      · skip
        refine wpOp_step rfl (fun K' hK' => ?_)
        go_simp
        refine hK' _ _ ?_
        exact ⟨_, _, _, _, _, _, _, _, rfl, fun _ => rfl, keepD (by decide) h1, keepD (by decide) h2, keepD (by decide) h3, keepD (by decide) h4, keepD (by decide) h5, keepD (by decide) h6, keepD (by decide) h7, keepD (by decide) h8, keepD (by decide) h9, (fun h => by have := hD8 (by simpa using h); simpa using this), (fun h => by have := hD9 (by simpa using h); simpa using this), (fun h k => hN6_7 (by simpa using h) (by simpa using k)), hB⟩
      · skip
        refine wpOp_step rfl (fun K' hK' => ?_)
        go_simp
        refine hK' _ _ ?_
        exact ⟨_, _, _, _, _, _, _, _, rfl, keepD (by decide) h0, fun _ => rfl, keepD (by decide) h2, keepD (by decide) h3, keepD (by decide) h4, keepD (by decide) h5, keepD (by decide) h6, keepD (by decide) h7, keepD (by decide) h8, keepD (by decide) h9, (fun h => by have := hD8 (by simpa using h); simpa using this), (fun h => by have := hD9 (by simpa using h); simpa using this), (fun h k => hN6_7 (by simpa using h) (by simpa using k)), hB⟩
      · skip
        have d0 := hdep _ rfl ⟨0, .data⟩ (by simp) rfl
        obtain rfl := h0 d0
        have d1 := hdep _ rfl ⟨1, .data⟩ (by simp) rfl
        obtain rfl := h1 d1
        refine wpOp_step rfl (fun K' hK' => ?_)
        go_simp
        refine (Calls.mono (C4.out w' (hx.below hB) (hy.below hB) (hT.below hB)) ?_)
        rintro e W1 ⟨Xr, cr, rfl, kr, kb⟩
        refine hK' _ _ ?_
        exact ⟨_, _, _, _, _, _, _, _, rfl, keepD (by decide) h0, keepD (by decide) h1, fun _ => ⟨Xr, cr, rfl, kr⟩, keepD (by decide) h3, keepD (by decide) h4, keepP (by decide) h5 (fun h => h.below kb), keepP (by decide) h6 (fun h => h.below kb), keepP (by decide) h7 (fun h => h.below kb), keepP (by decide) h8 (fun h => h.below kb), keepP (by decide) h9 (fun h => h.below kb), (fun h => by have := hD8 (by simpa using h); simpa using this), (fun h => by have := hD9 (by simpa using h); simpa using this), (fun h k => hN6_7 (by simpa using h) (by simpa using k)), Below.cons hB kb⟩
      · skip
        refine wpOp_step rfl (fun K' hK' => ?_)
        go_simp
        refine hK' _ _ ?_
        exact ⟨_, _, _, _, _, _, _, _, rfl, keepD (by decide) h0, keepD (by decide) h1, keepD (by decide) h2, fun _ => rfl, keepD (by decide) h4, keepD (by decide) h5, keepD (by decide) h6, keepD (by decide) h7, keepD (by decide) h8, keepD (by decide) h9, (fun h => by have := hD8 (by simpa using h); simpa using this), (fun h => by have := hD9 (by simpa using h); simpa using this), (fun h k => hN6_7 (by simpa using h) (by simpa using k)), hB⟩
      · skip
        refine wpOp_step rfl (fun K' hK' => ?_)
        go_simp
        refine hK' _ _ ?_
        exact ⟨_, _, _, _, _, _, _, _, rfl, keepD (by decide) h0, keepD (by decide) h1, keepD (by decide) h2, keepD (by decide) h3, fun _ => rfl, keepD (by decide) h5, keepD (by decide) h6, keepD (by decide) h7, keepD (by decide) h8, keepD (by decide) h9, (fun h => by have := hD8 (by simpa using h); simpa using this), (fun h => by have := hD9 (by simpa using h); simpa using this), (fun h k => hN6_7 (by simpa using h) (by simpa using k)), hB⟩
      · skip
        have d3 := hdep _ rfl ⟨3, .data⟩ (by simp) rfl
        obtain rfl := h3 d3
        have d4 := hdep _ rfl ⟨4, .data⟩ (by simp) rfl
        obtain rfl := h4 d4
        refine wpOp_step rfl (fun K' hK' => ?_)
        go_simp
        refine (Calls.mono (C5.out w' (hx.below hB) (hy.below hB) (hT.below hB) (hG.below hB)) ?_)
        rintro e W1 ⟨Xr, cr, rfl, kr, kb⟩
        refine hK' _ _ ?_
        exact ⟨_, _, _, _, _, _, _, _, rfl, keepD (by decide) h0, keepD (by decide) h1, keepP (by decide) h2 (fun h => h.below kb), keepD (by decide) h3, keepD (by decide) h4, fun _ => ⟨Xr, cr, rfl, kr⟩, keepP (by decide) h6 (fun h => h.below kb), keepP (by decide) h7 (fun h => h.below kb), keepP (by decide) h8 (fun h => h.below kb), keepP (by decide) h9 (fun h => h.below kb), (fun h => by have := hD8 (by simpa using h); simpa using this), (fun h => by have := hD9 (by simpa using h); simpa using this), (fun h k => hN6_7 (by simpa using h) (by simpa using k)), Below.cons hB kb⟩
      · skip
        have kb : Below w'.heap.size w' (w'.alloc (.cells #[.bool false, .slice none 0 0, .int .i64 0] 28)) := (Below.refl _ _).alloc (Nat.le_refl _) _
        refine wpOp_step rfl (fun K' hK' => ?_)
        go_simp
        refine hK' _ _ ?_
        exact ⟨_, _, _, _, _, _, _, _, rfl, keepD (by decide) h0, keepD (by decide) h1, keepP (by decide) h2 (fun h => h.below kb), keepD (by decide) h3, keepD (by decide) h4, keepP (by decide) h5 (fun h => h.below kb), fun _ => ⟨_, _, _, _, rfl, hB.size, ⟨at_new rfl⟩, notU_bool _, notU_slice _ _ _, notU_i64 _⟩, keepP (by decide) h7 (fun h => h.below kb), (fun h => by have h2 := hD8 (by simpa using h); rw [hEi] at h2; cases h2), keepP (by decide) h9 (fun h => h.below kb), (fun _ => by simp), (fun h => by have := hD9 (by simpa using h); simpa using this), (fun _ h => by obtain ⟨n2, e2, l2⟩ := (h7 (by simpa using h)).lt; rw [e2]; intro e3; simp at e3 <;> omega), Below.cons hB kb⟩
      · skip
        have kb : Below w'.heap.size w' (w'.alloc (.cells #[.bool false, .slice none 0 0, .int .i64 0] 28)) := (Below.refl _ _).alloc (Nat.le_refl _) _
        refine wpOp_step rfl (fun K' hK' => ?_)
        go_simp
        refine hK' _ _ ?_
        exact ⟨_, _, _, _, _, _, _, _, rfl, keepD (by decide) h0, keepD (by decide) h1, keepP (by decide) h2 (fun h => h.below kb), keepD (by decide) h3, keepD (by decide) h4, keepP (by decide) h5 (fun h => h.below kb), keepP (by decide) h6 (fun h => h.below kb), fun _ => ⟨_, _, _, _, rfl, hB.size, ⟨at_new rfl⟩, notU_bool _, notU_slice _ _ _, notU_i64 _⟩, keepP (by decide) h8 (fun h => h.below kb), (fun h => by have h2 := hD9 (by simpa using h); rw [hEi] at h2; cases h2), (fun h => by have := hD8 (by simpa using h); simpa using this), (fun _ => by simp), (fun h _ => by obtain ⟨n2, e2, l2⟩ := (h6 (by simpa using h)).lt; rw [e2]; intro e3; simp at e3 <;> omega), Below.cons hB kb⟩
      · skip
        have d6 := hdep _ rfl ⟨6, .data⟩ (by simp) rfl
        obtain ⟨nb, z0, z1, z2, rfl, hn, hb, nz0, nz1, nz2⟩ := h6 d6
        have d2 := hdep _ rfl ⟨2, .data⟩ (by simp) rfl
        obtain ⟨X_2, c_2, rfl, k_2⟩ := h2 d2
        have fz0 := hb.f (i := 0)
        have cz0 := hb.c (i := 0) rfl
        have fz1 := hb.f (i := 1)
        have cz1 := hb.c (i := 1) rfl
        have fz2 := hb.f (i := 2)
        have cz2 := hb.c (i := 2) rfl
        have hp := hb.put3 (notU3 nz0 nz1 nz2) (.bool (sg (dmn s))) (.slice X_2 (nl (mg (dmn s))) c_2) (.int .i64 (dex s))
        have hs := hb.store3 (.bool (sg (dmn s))) (.slice X_2 (nl (mg (dmn s))) c_2) (.int .i64 (dex s))
        refine wpOp_step rfl (fun K' hK' => ?_)
        go_simp
        refine hK' _ _ ?_
        exact ⟨_, _, _, _, _, _, _, _, rfl, keepD (by decide) h0, keepD (by decide) h1, keepP (by decide) h2 (fun h => h.put hp), keepD (by decide) h3, keepD (by decide) h4, keepP (by decide) h5 (fun h => h.put hp), (fun _ => ⟨nb, _, _, _, rfl, hn, hs, notU_bool _, notU_slice _ _ _, notU_i64 _⟩), keepP' (by decide) h7 (fun e h => h.put hp (fun e3 => hN6_7 d6 (by simpa using e) e3.symm)), fun _ => ⟨nb, X_2, c_2, rfl, hn, hs, hp.nat k_2⟩, keepP' (by decide) h9 (fun e h => h.put hp (fun e3 => hN6_7 d6 (hD9 (by simpa using e)) e3.symm)), (fun _ => by simp [d6]), (fun h => by have := hD9 (by simpa using h); simpa using this), (fun h k => hN6_7 (by simpa using h) (by simpa using k)), Below.store3 hB hn⟩
      · skip
        have d7 := hdep _ rfl ⟨7, .data⟩ (by simp) rfl
        obtain ⟨nb, z0, z1, z2, rfl, hn, hb, nz0, nz1, nz2⟩ := h7 d7
        have d5 := hdep _ rfl ⟨5, .data⟩ (by simp) rfl
        obtain ⟨X_5, c_5, rfl, k_5⟩ := h5 d5
        have fz0 := hb.f (i := 0)
        have cz0 := hb.c (i := 0) rfl
        have fz1 := hb.f (i := 1)
        have cz1 := hb.c (i := 1) rfl
        have fz2 := hb.f (i := 2)
        have cz2 := hb.c (i := 2) rfl
        have hp := hb.put3 (notU3 nz0 nz1 nz2) (.bool (sg (dmn p))) (.slice X_5 (nl (mg (dmn p))) c_5) (.int .i64 (dex p))
        have hs := hb.store3 (.bool (sg (dmn p))) (.slice X_5 (nl (mg (dmn p))) c_5) (.int .i64 (dex p))
        refine wpOp_step rfl (fun K' hK' => ?_)
        go_simp
        refine hK' _ _ ?_
        exact ⟨_, _, _, _, _, _, _, _, rfl, keepD (by decide) h0, keepD (by decide) h1, keepP (by decide) h2 (fun h => h.put hp), keepD (by decide) h3, keepD (by decide) h4, keepP (by decide) h5 (fun h => h.put hp), keepP' (by decide) h6 (fun e h => h.put hp (hN6_7 (by simpa using e) d7)), (fun _ => ⟨nb, _, _, _, rfl, hn, hs, notU_bool _, notU_slice _ _ _, notU_i64 _⟩), keepP' (by decide) h8 (fun e h => h.put hp (hN6_7 (hD8 (by simpa using e)) d7)), fun _ => ⟨nb, X_5, c_5, rfl, hn, hs, hp.nat k_5⟩, (fun h => by have := hD8 (by simpa using h); simpa using this), (fun _ => by simp [d7]), (fun h k => hN6_7 (by simpa using h) (by simpa using k)), Below.store3 hB hn⟩
    case fin =>
      rintro E a' w' ⟨u20, u21, u22, u23, u24, u25, u11, u12, rfl, h0, h1, h2, h3, h4, h5, h6, h7, h8, h9, hD8, hD9, hN6_7, hB⟩ hall
      obtain ⟨nbs, Xs, cs, rfl, hns, Rs, hs⟩ := h8 (hall 8 (by simp))
      obtain ⟨nbp, Xp, cp, rfl, hnp, Rp, hp⟩ := h9 (hall 9 (by simp))
      replace hT := hT.below hB
      replace hG := hG.below hB
      replace hl := hl.below hB
      replace hk := hk.below hB
      replace hm := hm.below hB
      replace hx := hx.below hB
      replace Rx := Rx.below hB
      replace qx0 := cbl hB qx0
      replace qx1 := cbl hB qx1
      replace qx2 := cbl hB qx2
      replace hy := hy.below hB
      replace Ry := Ry.below hB
      replace qy0 := cbl hB qy0
      replace qy1 := cbl hB qy1
      replace qy2 := cbl hB qy2
      replace hz := hz.below hB
      replace Rz := Rz.below hB
      replace qz0 := cbl hB qz0
      replace qz1 := cbl hB qz1
      replace qz2 := cbl hB qz2
      replace HBT := Below.cons HBT hB
      have kvs := hns
      have qs0 := Rs.c (i := 0) rfl
      have qs1 := Rs.c (i := 1) rfl
      have qs2 := Rs.c (i := 2) rfl
      have kvp := hnp
      have qp0 := Rp.c (i := 0) rfl
      have qp1 := Rp.c (i := 1) rfl
      have qp2 := Rp.c (i := 2) rfl
      go_wp2_with (fail)
      refine (Calls.mono (drightT_c Xs cs s _ hs (Nat.le_trans Os.l (by decide)) (by have := Os.e; omega)) ?_)
      rintro e W3 ⟨rfl, hb3⟩
      replace hT := hT.below hb3
      replace hG := hG.below hb3
      replace hl := hl.below hb3
      replace hk := hk.below hb3
      replace hm := hm.below hb3
      replace hx := hx.below hb3
      replace Rx := Rx.below hb3
      replace qx0 := cbl hb3 qx0
      replace qx1 := cbl hb3 qx1
      replace qx2 := cbl hb3 qx2
      replace hy := hy.below hb3
      replace Ry := Ry.below hb3
      replace qy0 := cbl hb3 qy0
      replace qy1 := cbl hb3 qy1
      replace qy2 := cbl hb3 qy2
      replace hz := hz.below hb3
      replace Rz := Rz.below hb3
      replace qz0 := cbl hb3 qz0
      replace qz1 := cbl hb3 qz1
      replace qz2 := cbl hb3 qz2
      replace hs := hs.below hb3
      replace Rs := Rs.below hb3
      replace qs0 := cbl hb3 qs0
      replace qs1 := cbl hb3 qs1
      replace qs2 := cbl hb3 qs2
      replace hp := hp.below hb3
      replace Rp := Rp.below hb3
      replace qp0 := cbl hb3 qp0
      replace qp1 := cbl hb3 qp1
      replace qp2 := cbl hb3 qp2
      replace HBT := Below.cons HBT hb3
      clear hb3
      go_wp2_with (fail)
      refine (Calls.mono (drightT_c Xp cp p _ hp (Nat.le_trans Op.l (by decide)) (by have := Op.e; omega)) ?_)
      rintro e W4 ⟨rfl, hb4⟩
      replace hT := hT.below hb4
      replace hG := hG.below hb4
      replace hl := hl.below hb4
      replace hk := hk.below hb4
      replace hm := hm.below hb4
      replace hx := hx.below hb4
      replace Rx := Rx.below hb4
      replace qx0 := cbl hb4 qx0
      replace qx1 := cbl hb4 qx1
      replace qx2 := cbl hb4 qx2
      replace hy := hy.below hb4
      replace Ry := Ry.below hb4
      replace qy0 := cbl hb4 qy0
      replace qy1 := cbl hb4 qy1
      replace qy2 := cbl hb4 qy2
      replace hz := hz.below hb4
      replace Rz := Rz.below hb4
      replace qz0 := cbl hb4 qz0
      replace qz1 := cbl hb4 qz1
      replace qz2 := cbl hb4 qz2
      replace hs := hs.below hb4
      replace Rs := Rs.below hb4
      replace qs0 := cbl hb4 qs0
      replace qs1 := cbl hb4 qs1
      replace qs2 := cbl hb4 qs2
      replace hp := hp.below hb4
      replace Rp := Rp.below hb4
      replace qp0 := cbl hb4 qp0
      replace qp1 := cbl hb4 qp1
      replace qp2 := cbl hb4 qp2
      replace HBT := Below.cons HBT hb4
      clear hb4
      go_wp2_with (fail)
      refine (Calls.mono (trightT_c Xs cs s _ hs (Nat.le_trans Os.l (by decide)) (by have := Os.e; omega)) ?_)
      rintro e W5 ⟨rfl, hb5⟩
      replace hT := hT.below hb5
      replace hG := hG.below hb5
      replace hl := hl.below hb5
      replace hk := hk.below hb5
      replace hm := hm.below hb5
      replace hx := hx.below hb5
      replace Rx := Rx.below hb5
      replace qx0 := cbl hb5 qx0
      replace qx1 := cbl hb5 qx1
      replace qx2 := cbl hb5 qx2
      replace hy := hy.below hb5
      replace Ry := Ry.below hb5
      replace qy0 := cbl hb5 qy0
      replace qy1 := cbl hb5 qy1
      replace qy2 := cbl hb5 qy2
      replace hz := hz.below hb5
      replace Rz := Rz.below hb5
      replace qz0 := cbl hb5 qz0
      replace qz1 := cbl hb5 qz1
      replace qz2 := cbl hb5 qz2
      replace hs := hs.below hb5
      replace Rs := Rs.below hb5
      replace qs0 := cbl hb5 qs0
      replace qs1 := cbl hb5 qs1
      replace qs2 := cbl hb5 qs2
      replace hp := hp.below hb5
      replace Rp := Rp.below hb5
      replace qp0 := cbl hb5 qp0
      replace qp1 := cbl hb5 qp1
      replace qp2 := cbl hb5 qp2
      replace HBT := Below.cons HBT hb5
      clear hb5
      go_wp2_with (fail)
      refine (Calls.mono (trightT_c Xp cp p _ hp (Nat.le_trans Op.l (by decide)) (by have := Op.e; omega)) ?_)
      rintro e W6 ⟨rfl, hb6⟩
      replace hT := hT.below hb6
      replace hG := hG.below hb6
      replace hl := hl.below hb6
      replace hk := hk.below hb6
      replace hm := hm.below hb6
      replace hx := hx.below hb6
      replace Rx := Rx.below hb6
      replace qx0 := cbl hb6 qx0
      replace qx1 := cbl hb6 qx1
      replace qx2 := cbl hb6 qx2
      replace hy := hy.below hb6
      replace Ry := Ry.below hb6
      replace qy0 := cbl hb6 qy0
      replace qy1 := cbl hb6 qy1
      replace qy2 := cbl hb6 qy2
      replace hz := hz.below hb6
      replace Rz := Rz.below hb6
      replace qz0 := cbl hb6 qz0
      replace qz1 := cbl hb6 qz1
      replace qz2 := cbl hb6 qz2
      replace hs := hs.below hb6
      replace Rs := Rs.below hb6
      replace qs0 := cbl hb6 qs0
      replace qs1 := cbl hb6 qs1
      replace qs2 := cbl hb6 qs2
      replace hp := hp.below hb6
      replace Rp := Rp.below hb6
      replace qp0 := cbl hb6 qp0
      replace qp1 := cbl hb6 qp1
      replace qp2 := cbl hb6 qp2
      replace HBT := Below.cons HBT hb6
      clear hb6
      go_wp2_with (fail)
      clear Rx
      clear Ry
      clear Rz
      clear Rs
      clear Rp
      have O0 := db_zero 1 1
      clear O0
      have hd7 := drb (W6)
      replace hT := hT.below hd7
      replace hG := hG.below hd7
      replace hl := hl.below hd7
      replace hk := hk.below hd7
      replace hm := hm.below hd7
      replace hx := hx.below hd7
      replace qx0 := cbl hd7 qx0
      replace qx1 := cbl hd7 qx1
      replace qx2 := cbl hd7 qx2
      replace hy := hy.below hd7
      replace qy0 := cbl hd7 qy0
      replace qy1 := cbl hd7 qy1
      replace qy2 := cbl hd7 qy2
      replace hz := hz.below hd7
      replace qz0 := cbl hd7 qz0
      replace qz1 := cbl hd7 qz1
      replace qz2 := cbl hd7 qz2
      replace hs := hs.below hd7
      replace qs0 := cbl hd7 qs0
      replace qs1 := cbl hd7 qs1
      replace qs2 := cbl hd7 qs2
      replace hp := hp.below hd7
      replace qp0 := cbl hd7 qp0
      replace qp1 := cbl hd7 qp1
      replace qp2 := cbl hd7 qp2
      replace HBT := Below.cons HBT hd7
      clear hd7
      replace qx0 : (W6).drew.cell? ⟨nbx, 0, none⟩ = some (.bool (sg (dmn x))) := qx0
      replace qx1 : (W6).drew.cell? ⟨nbx, 1, none⟩ = some (.slice Xx (nl (mg (dmn x))) cx) := qx1
      replace qx2 : (W6).drew.cell? ⟨nbx, 2, none⟩ = some (.int .i64 (dex x)) := qx2
      replace qy0 : (W6).drew.cell? ⟨nby, 0, none⟩ = some (.bool (sg (dmn y))) := qy0
      replace qy1 : (W6).drew.cell? ⟨nby, 1, none⟩ = some (.slice Xy (nl (mg (dmn y))) cy) := qy1
      replace qy2 : (W6).drew.cell? ⟨nby, 2, none⟩ = some (.int .i64 (dex y)) := qy2
      replace qz0 : (W6).drew.cell? ⟨nbz, 0, none⟩ = some (.bool (sg (dmn z))) := qz0
      replace qz1 : (W6).drew.cell? ⟨nbz, 1, none⟩ = some (.slice Xz (nl (mg (dmn z))) cz) := qz1
      replace qz2 : (W6).drew.cell? ⟨nbz, 2, none⟩ = some (.int .i64 (dex z)) := qz2
      replace qs0 : (W6).drew.cell? ⟨nbs, 0, none⟩ = some (.bool (sg (dmn s))) := qs0
      replace qs1 : (W6).drew.cell? ⟨nbs, 1, none⟩ = some (.slice Xs (nl (mg (dmn s))) cs) := qs1
      replace qs2 : (W6).drew.cell? ⟨nbs, 2, none⟩ = some (.int .i64 (dex s)) := qs2
      replace qp0 : (W6).drew.cell? ⟨nbp, 0, none⟩ = some (.bool (sg (dmn p))) := qp0
      replace qp1 : (W6).drew.cell? ⟨nbp, 1, none⟩ = some (.slice Xp (nl (mg (dmn p))) cp) := qp1
      replace qp2 : (W6).drew.cell? ⟨nbp, 2, none⟩ = some (.int .i64 (dex p)) := qp2
      obtain ⟨a1, Ea1⟩ : ∃ zq : Rat, zq = y + x := ⟨_, rfl⟩
      have C7_0 := fun (W : World) (A0 : Option Addr) (c0 : Nat) (A1 : Option Addr) (c1 : Nat) (h0 : NatV W A0 c0 (mg (dmn y))) (h1 : NatV W A1 c1 (mg (dmn x))) (hT : Tab W) => (show Calls Tryz.prog 48 #[.agg #[.bool (sg (dmn y)), .slice A0 (nl (mg (dmn y))) c0, .int .i64 (dex y)], .agg #[.bool (sg (dmn x)), .slice A1 (nl (mg (dmn x))) c1, .int .i64 (dex x)]] W (RetD W a1) by rw [Ea1]; exact dadd_c A0 c0 y A1 c1 x W h0 h1 (Oy.ok (by decide) (by decide)) (Ox.ok (by decide) (by decide)) hT)
      replace Ea1 := Lib.hid Ea1
      replace C7_0 := Lib.hid C7_0
      have C7_1 := fun (W : World) (A0 : Option Addr) (c0 : Nat) (A1 : Option Addr) (c1 : Nat) (h0 : NatV W A0 c0 (mg (dmn s))) (h1 : NatV W A1 c1 (mg (dmn a1)))  => (show Calls Tryz.prog 19 #[.agg #[.bool (sg (dmn s)), .slice A0 (nl (mg (dmn s))) c0, .int .i64 (dex s)], .agg #[.bool (sg (dmn a1)), .slice A1 (nl (mg (dmn a1))) c1, .int .i64 (dex a1)]] W (fun e w' => e = .returned (.bool true) ∧ Below W.heap.size W w') by exact tsameT_c A0 c0 s A1 c1 a1 W h0 h1 (Os.ok (by decide) (by decide)) (by rw [Es.out, Ea1.out, Rat.add_comm]))
      replace C7_1 := Lib.hid C7_1
      obtain ⟨m1, Em1⟩ : ∃ zq : Rat, zq = y * x := ⟨_, rfl⟩
      have C7_2 := fun (W : World) (A0 : Option Addr) (c0 : Nat) (A1 : Option Addr) (c1 : Nat) (h0 : NatV W A0 c0 (mg (dmn y))) (h1 : NatV W A1 c1 (mg (dmn x))) (hT : Tab W) (hG : Flds W) => (show Calls Tryz.prog 51 #[.agg #[.bool (sg (dmn y)), .slice A0 (nl (mg (dmn y))) c0, .int .i64 (dex y)], .agg #[.bool (sg (dmn x)), .slice A1 (nl (mg (dmn x))) c1, .int .i64 (dex x)]] W (RetD W m1) by rw [Em1]; exact dmul_c A0 c0 y A1 c1 x W h0 h1 (Oy.ok (by decide) (by decide)) (Ox.ok (by decide) (by decide)) (Nat.le_trans Oy.l (by decide)) (Nat.le_trans Ox.l (by decide)) hT hG)
      replace Em1 := Lib.hid Em1
      replace C7_2 := Lib.hid C7_2
      have C7_3 := fun (W : World) (A0 : Option Addr) (c0 : Nat) (A1 : Option Addr) (c1 : Nat) (h0 : NatV W A0 c0 (mg (dmn p))) (h1 : NatV W A1 c1 (mg (dmn m1)))  => (show Calls Tryz.prog 19 #[.agg #[.bool (sg (dmn p)), .slice A0 (nl (mg (dmn p))) c0, .int .i64 (dex p)], .agg #[.bool (sg (dmn m1)), .slice A1 (nl (mg (dmn m1))) c1, .int .i64 (dex m1)]] W (fun e w' => e = .returned (.bool true) ∧ Below W.heap.size W w') by exact tsameT_c A0 c0 p A1 c1 m1 W h0 h1 (Op.ok (by decide) (by decide)) (by rw [Ep.out, Em1.out, Rat.mul_comm]))
      replace C7_3 := Lib.hid C7_3
      obtain ⟨a2, Ea2⟩ : ∃ zq : Rat, zq = s + z := ⟨_, rfl⟩
      have Oa2 : DB a2 148 6440 := by rw [Ea2]; exact (db_add Os (Oz.mono (by decide) (by decide))).mono (by decide) (by decide)
      have C7_4 := fun (W : World) (A0 : Option Addr) (c0 : Nat) (A1 : Option Addr) (c1 : Nat) (h0 : NatV W A0 c0 (mg (dmn s))) (h1 : NatV W A1 c1 (mg (dmn z))) (hT : Tab W) => (show Calls Tryz.prog 48 #[.agg #[.bool (sg (dmn s)), .slice A0 (nl (mg (dmn s))) c0, .int .i64 (dex s)], .agg #[.bool (sg (dmn z)), .slice A1 (nl (mg (dmn z))) c1, .int .i64 (dex z)]] W (RetD W a2) by rw [Ea2]; exact dadd_c A0 c0 s A1 c1 z W h0 h1 (Os.ok (by decide) (by decide)) (Oz.ok (by decide) (by decide)) hT)
      replace Ea2 := Lib.hid Ea2
      replace C7_4 := Lib.hid C7_4
      obtain ⟨a3, Ea3⟩ : ∃ zq : Rat, zq = y + z := ⟨_, rfl⟩
      have Oa3 : DB a3 39 1704 := by rw [Ea3]; exact (db_add Oy Oz).mono (by decide) (by decide)
      have C7_5 := fun (W : World) (A0 : Option Addr) (c0 : Nat) (A1 : Option Addr) (c1 : Nat) (h0 : NatV W A0 c0 (mg (dmn y))) (h1 : NatV W A1 c1 (mg (dmn z))) (hT : Tab W) => (show Calls Tryz.prog 48 #[.agg #[.bool (sg (dmn y)), .slice A0 (nl (mg (dmn y))) c0, .int .i64 (dex y)], .agg #[.bool (sg (dmn z)), .slice A1 (nl (mg (dmn z))) c1, .int .i64 (dex z)]] W (RetD W a3) by rw [Ea3]; exact dadd_c A0 c0 y A1 c1 z W h0 h1 (Oy.ok (by decide) (by decide)) (Oz.ok (by decide) (by decide)) hT)
      replace Ea3 := Lib.hid Ea3
      replace C7_5 := Lib.hid C7_5
      obtain ⟨a4, Ea4⟩ : ∃ zq : Rat, zq = x + a3 := ⟨_, rfl⟩
      have C7_6 := fun (W : World) (A0 : Option Addr) (c0 : Nat) (A1 : Option Addr) (c1 : Nat) (h0 : NatV W A0 c0 (mg (dmn x))) (h1 : NatV W A1 c1 (mg (dmn a3))) (hT : Tab W) => (show Calls Tryz.prog 48 #[.agg #[.bool (sg (dmn x)), .slice A0 (nl (mg (dmn x))) c0, .int .i64 (dex x)], .agg #[.bool (sg (dmn a3)), .slice A1 (nl (mg (dmn a3))) c1, .int .i64 (dex a3)]] W (RetD W a4) by rw [Ea4]; exact dadd_c A0 c0 x A1 c1 a3 W h0 h1 (Ox.ok (by decide) (by decide)) (Oa3.ok (by decide) (by decide)) hT)
      replace Ea4 := Lib.hid Ea4
      replace C7_6 := Lib.hid C7_6
      have C7_7 := fun (W : World) (A0 : Option Addr) (c0 : Nat) (A1 : Option Addr) (c1 : Nat) (h0 : NatV W A0 c0 (mg (dmn a2))) (h1 : NatV W A1 c1 (mg (dmn a4)))  => (show Calls Tryz.prog 19 #[.agg #[.bool (sg (dmn a2)), .slice A0 (nl (mg (dmn a2))) c0, .int .i64 (dex a2)], .agg #[.bool (sg (dmn a4)), .slice A1 (nl (mg (dmn a4))) c1, .int .i64 (dex a4)]] W (fun e w' => e = .returned (.bool true) ∧ Below W.heap.size W w') by exact tsameT_c A0 c0 a2 A1 c1 a4 W h0 h1 (Oa2.ok (by decide) (by decide)) (by rw [Ea2.out, Ea4.out, Ea3.out, Es.out, Rat.add_assoc]))
      replace C7_7 := Lib.hid C7_7
      obtain ⟨m2, Em2⟩ : ∃ zq : Rat, zq = p * z := ⟨_, rfl⟩
      have Om2 : DB m2 24 2648 := by rw [Em2]; exact (db_mul Op Oz).mono (by decide) (by decide)
      have C7_8 := fun (W : World) (A0 : Option Addr) (c0 : Nat) (A1 : Option Addr) (c1 : Nat) (h0 : NatV W A0 c0 (mg (dmn p))) (h1 : NatV W A1 c1 (mg (dmn z))) (hT : Tab W) (hG : Flds W) => (show Calls Tryz.prog 51 #[.agg #[.bool (sg (dmn p)), .slice A0 (nl (mg (dmn p))) c0, .int .i64 (dex p)], .agg #[.bool (sg (dmn z)), .slice A1 (nl (mg (dmn z))) c1, .int .i64 (dex z)]] W (RetD W m2) by rw [Em2]; exact dmul_c A0 c0 p A1 c1 z W h0 h1 (Op.ok (by decide) (by decide)) (Oz.ok (by decide) (by decide)) (Nat.le_trans Op.l (by decide)) (Nat.le_trans Oz.l (by decide)) hT hG)
      replace Em2 := Lib.hid Em2
      replace C7_8 := Lib.hid C7_8
      obtain ⟨m3, Em3⟩ : ∃ zq : Rat, zq = y * z := ⟨_, rfl⟩
      have Om3 : DB m3 16 1424 := by rw [Em3]; exact (db_mul Oy Oz).mono (by decide) (by decide)
      have C7_9 := fun (W : World) (A0 : Option Addr) (c0 : Nat) (A1 : Option Addr) (c1 : Nat) (h0 : NatV W A0 c0 (mg (dmn y))) (h1 : NatV W A1 c1 (mg (dmn z))) (hT : Tab W) (hG : Flds W) => (show Calls Tryz.prog 51 #[.agg #[.bool (sg (dmn y)), .slice A0 (nl (mg (dmn y))) c0, .int .i64 (dex y)], .agg #[.bool (sg (dmn z)), .slice A1 (nl (mg (dmn z))) c1, .int .i64 (dex z)]] W (RetD W m3) by rw [Em3]; exact dmul_c A0 c0 y A1 c1 z W h0 h1 (Oy.ok (by decide) (by decide)) (Oz.ok (by decide) (by decide)) (Nat.le_trans Oy.l (by decide)) (Nat.le_trans Oz.l (by decide)) hT hG)
      replace Em3 := Lib.hid Em3
      replace C7_9 := Lib.hid C7_9
      obtain ⟨m4, Em4⟩ : ∃ zq : Rat, zq = x * m3 := ⟨_, rfl⟩
      have C7_10 := fun (W : World) (A0 : Option Addr) (c0 : Nat) (A1 : Option Addr) (c1 : Nat) (h0 : NatV W A0 c0 (mg (dmn x))) (h1 : NatV W A1 c1 (mg (dmn m3))) (hT : Tab W) (hG : Flds W) => (show Calls Tryz.prog 51 #[.agg #[.bool (sg (dmn x)), .slice A0 (nl (mg (dmn x))) c0, .int .i64 (dex x)], .agg #[.bool (sg (dmn m3)), .slice A1 (nl (mg (dmn m3))) c1, .int .i64 (dex m3)]] W (RetD W m4) by rw [Em4]; exact dmul_c A0 c0 x A1 c1 m3 W h0 h1 (Ox.ok (by decide) (by decide)) (Om3.ok (by decide) (by decide)) (Nat.le_trans Ox.l (by decide)) (Nat.le_trans Om3.l (by decide)) hT hG)
      replace Em4 := Lib.hid Em4
      replace C7_10 := Lib.hid C7_10
      have C7_11 := fun (W : World) (A0 : Option Addr) (c0 : Nat) (A1 : Option Addr) (c1 : Nat) (h0 : NatV W A0 c0 (mg (dmn m2))) (h1 : NatV W A1 c1 (mg (dmn m4)))  => (show Calls Tryz.prog 19 #[.agg #[.bool (sg (dmn m2)), .slice A0 (nl (mg (dmn m2))) c0, .int .i64 (dex m2)], .agg #[.bool (sg (dmn m4)), .slice A1 (nl (mg (dmn m4))) c1, .int .i64 (dex m4)]] W (fun e w' => e = .returned (.bool true) ∧ Below W.heap.size W w') by exact tsameT_c A0 c0 m2 A1 c1 m4 W h0 h1 (Om2.ok (by decide) (by decide)) (by rw [Em2.out, Em4.out, Em3.out, Ep.out, Rat.mul_assoc]))
      replace C7_11 := Lib.hid C7_11
      obtain ⟨m5, Em5⟩ : ∃ zq : Rat, zq = s * z := ⟨_, rfl⟩
      have Om5 : DB m5 47 3664 := by rw [Em5]; exact (db_mul Os Oz).mono (by decide) (by decide)
      have C7_12 := fun (W : World) (A0 : Option Addr) (c0 : Nat) (A1 : Option Addr) (c1 : Nat) (h0 : NatV W A0 c0 (mg (dmn s))) (h1 : NatV W A1 c1 (mg (dmn z))) (hT : Tab W) (hG : Flds W) => (show Calls Tryz.prog 51 #[.agg #[.bool (sg (dmn s)), .slice A0 (nl (mg (dmn s))) c0, .int .i64 (dex s)], .agg #[.bool (sg (dmn z)), .slice A1 (nl (mg (dmn z))) c1, .int .i64 (dex z)]] W (RetD W m5) by rw [Em5]; exact dmul_c A0 c0 s A1 c1 z W h0 h1 (Os.ok (by decide) (by decide)) (Oz.ok (by decide) (by decide)) (Nat.le_trans Os.l (by decide)) (Nat.le_trans Oz.l (by decide)) hT hG)
      replace Em5 := Lib.hid Em5
      replace C7_12 := Lib.hid C7_12
      obtain ⟨m6, Em6⟩ : ∃ zq : Rat, zq = x * z := ⟨_, rfl⟩
      have Om6 : DB m6 16 1424 := by rw [Em6]; exact (db_mul Ox Oz).mono (by decide) (by decide)
      have C7_13 := fun (W : World) (A0 : Option Addr) (c0 : Nat) (A1 : Option Addr) (c1 : Nat) (h0 : NatV W A0 c0 (mg (dmn x))) (h1 : NatV W A1 c1 (mg (dmn z))) (hT : Tab W) (hG : Flds W) => (show Calls Tryz.prog 51 #[.agg #[.bool (sg (dmn x)), .slice A0 (nl (mg (dmn x))) c0, .int .i64 (dex x)], .agg #[.bool (sg (dmn z)), .slice A1 (nl (mg (dmn z))) c1, .int .i64 (dex z)]] W (RetD W m6) by rw [Em6]; exact dmul_c A0 c0 x A1 c1 z W h0 h1 (Ox.ok (by decide) (by decide)) (Oz.ok (by decide) (by decide)) (Nat.le_trans Ox.l (by decide)) (Nat.le_trans Oz.l (by decide)) hT hG)
      replace Em6 := Lib.hid Em6
      replace C7_13 := Lib.hid C7_13
      obtain ⟨m7, Em7⟩ : ∃ zq : Rat, zq = y * z := ⟨_, rfl⟩
      have Om7 : DB m7 16 1424 := by rw [Em7]; exact (db_mul Oy Oz).mono (by decide) (by decide)
      have C7_14 := fun (W : World) (A0 : Option Addr) (c0 : Nat) (A1 : Option Addr) (c1 : Nat) (h0 : NatV W A0 c0 (mg (dmn y))) (h1 : NatV W A1 c1 (mg (dmn z))) (hT : Tab W) (hG : Flds W) => (show Calls Tryz.prog 51 #[.agg #[.bool (sg (dmn y)), .slice A0 (nl (mg (dmn y))) c0, .int .i64 (dex y)], .agg #[.bool (sg (dmn z)), .slice A1 (nl (mg (dmn z))) c1, .int .i64 (dex z)]] W (RetD W m7) by rw [Em7]; exact dmul_c A0 c0 y A1 c1 z W h0 h1 (Oy.ok (by decide) (by decide)) (Oz.ok (by decide) (by decide)) (Nat.le_trans Oy.l (by decide)) (Nat.le_trans Oz.l (by decide)) hT hG)
      replace Em7 := Lib.hid Em7
      replace C7_14 := Lib.hid C7_14
      obtain ⟨a5, Ea5⟩ : ∃ zq : Rat, zq = m6 + m7 := ⟨_, rfl⟩
      have C7_15 := fun (W : World) (A0 : Option Addr) (c0 : Nat) (A1 : Option Addr) (c1 : Nat) (h0 : NatV W A0 c0 (mg (dmn m6))) (h1 : NatV W A1 c1 (mg (dmn m7))) (hT : Tab W) => (show Calls Tryz.prog 48 #[.agg #[.bool (sg (dmn m6)), .slice A0 (nl (mg (dmn m6))) c0, .int .i64 (dex m6)], .agg #[.bool (sg (dmn m7)), .slice A1 (nl (mg (dmn m7))) c1, .int .i64 (dex m7)]] W (RetD W a5) by rw [Ea5]; exact dadd_c A0 c0 m6 A1 c1 m7 W h0 h1 (Om6.ok (by decide) (by decide)) (Om7.ok (by decide) (by decide)) hT)
      replace Ea5 := Lib.hid Ea5
      replace C7_15 := Lib.hid C7_15
      have C7_16 := fun (W : World) (A0 : Option Addr) (c0 : Nat) (A1 : Option Addr) (c1 : Nat) (h0 : NatV W A0 c0 (mg (dmn m5))) (h1 : NatV W A1 c1 (mg (dmn a5)))  => (show Calls Tryz.prog 19 #[.agg #[.bool (sg (dmn m5)), .slice A0 (nl (mg (dmn m5))) c0, .int .i64 (dex m5)], .agg #[.bool (sg (dmn a5)), .slice A1 (nl (mg (dmn a5))) c1, .int .i64 (dex a5)]] W (fun e w' => e = .returned (.bool true) ∧ Below W.heap.size W w') by exact tsameT_c A0 c0 m5 A1 c1 a5 W h0 h1 (Om5.ok (by decide) (by decide)) (by rw [Em5.out, Ea5.out, Em6.out, Em7.out, Es.out, Rat.add_mul]))
      replace C7_16 := Lib.hid C7_16
      obtain ⟨d1, Ed1⟩ : ∃ zq : Rat, zq = s - y := ⟨_, rfl⟩
      have Od1 : DB d1 148 6440 := by rw [Ed1]; exact (db_sub Os (Oy.mono (by decide) (by decide))).mono (by decide) (by decide)
      have C7_17 := fun (W : World) (A0 : Option Addr) (c0 : Nat) (A1 : Option Addr) (c1 : Nat) (h0 : NatV W A0 c0 (mg (dmn s))) (h1 : NatV W A1 c1 (mg (dmn y))) (hT : Tab W) => (show Calls Tryz.prog 42 #[.agg #[.bool (sg (dmn s)), .slice A0 (nl (mg (dmn s))) c0, .int .i64 (dex s)], .agg #[.bool (sg (dmn y)), .slice A1 (nl (mg (dmn y))) c1, .int .i64 (dex y)]] W (RetD W d1) by rw [Ed1]; exact dsub_c A0 c0 s A1 c1 y W h0 h1 (Os.ok (by decide) (by decide)) (Oy.ok (by decide) (by decide)) hT)
      replace Ed1 := Lib.hid Ed1
      replace C7_17 := Lib.hid C7_17
      have C7_18 := fun (W : World) (A0 : Option Addr) (c0 : Nat) (A1 : Option Addr) (c1 : Nat) (h0 : NatV W A0 c0 (mg (dmn d1))) (h1 : NatV W A1 c1 (mg (dmn x)))  => (show Calls Tryz.prog 19 #[.agg #[.bool (sg (dmn d1)), .slice A0 (nl (mg (dmn d1))) c0, .int .i64 (dex d1)], .agg #[.bool (sg (dmn x)), .slice A1 (nl (mg (dmn x))) c1, .int .i64 (dex x)]] W (fun e w' => e = .returned (.bool true) ∧ Below W.heap.size W w') by exact tsameT_c A0 c0 d1 A1 c1 x W h0 h1 (Od1.ok (by decide) (by decide)) (by rw [Ed1.out, Es.out]; grind))
      replace C7_18 := Lib.hid C7_18
      obtain ⟨n1, En1⟩ : ∃ zq : Rat, zq = -x := ⟨_, rfl⟩
      have On1 : DB n1 8 456 := by rw [En1]; exact db_neg Ox
      have C7_19 := fun (W : World) (A0 : Option Addr) (c0 : Nat) (h0 : NatV W A0 c0 (mg (dmn x)))  => (show Calls Tryz.prog 46 #[.agg #[.bool (sg (dmn x)), .slice A0 (nl (mg (dmn x))) c0, .int .i64 (dex x)]] W (RetD W n1) by rw [En1]; exact dneg_c A0 c0 x W h0 (Ox.ok (by decide) (by decide)))
      replace En1 := Lib.hid En1
      replace C7_19 := Lib.hid C7_19
      obtain ⟨a6, Ea6⟩ : ∃ zq : Rat, zq = x + n1 := ⟨_, rfl⟩
      have Oa6 : DB a6 39 1704 := by rw [Ea6]; exact (db_add Ox On1).mono (by decide) (by decide)
      have C7_20 := fun (W : World) (A0 : Option Addr) (c0 : Nat) (A1 : Option Addr) (c1 : Nat) (h0 : NatV W A0 c0 (mg (dmn x))) (h1 : NatV W A1 c1 (mg (dmn n1))) (hT : Tab W) => (show Calls Tryz.prog 48 #[.agg #[.bool (sg (dmn x)), .slice A0 (nl (mg (dmn x))) c0, .int .i64 (dex x)], .agg #[.bool (sg (dmn n1)), .slice A1 (nl (mg (dmn n1))) c1, .int .i64 (dex n1)]] W (RetD W a6) by rw [Ea6]; exact dadd_c A0 c0 x A1 c1 n1 W h0 h1 (Ox.ok (by decide) (by decide)) (On1.ok (by decide) (by decide)) hT)
      replace Ea6 := Lib.hid Ea6
      replace C7_20 := Lib.hid C7_20
      have C7_21 := fun (W : World) (A0 : Option Addr) (c0 : Nat) (h0 : NatV W A0 c0 (mg (dmn a6)))  => (show Calls Tryz.prog 19 #[.agg #[.bool (sg (dmn a6)), .slice A0 (nl (mg (dmn a6))) c0, .int .i64 (dex a6)], .agg #[.bool false, .slice none 0 0, .int .i64 0]] W (fun e w' => e = .returned (.bool true) ∧ Below W.heap.size W w') by exact tsame0_c A0 c0 a6 W h0 (Oa6.ok (by decide) (by decide)) (by rw [Ea6.out, En1.out]; grind))
      replace C7_21 := Lib.hid C7_21
      simp only [List.append]
      have HSq : (fun W : World => W.cell? ⟨nbx, 0, none⟩ = some (.bool (sg (dmn x))) ∧ W.cell? ⟨nbx, 1, none⟩ = some (.slice Xx (nl (mg (dmn x))) cx) ∧ W.cell? ⟨nbx, 2, none⟩ = some (.int .i64 (dex x)) ∧ W.cell? ⟨nby, 0, none⟩ = some (.bool (sg (dmn y))) ∧ W.cell? ⟨nby, 1, none⟩ = some (.slice Xy (nl (mg (dmn y))) cy) ∧ W.cell? ⟨nby, 2, none⟩ = some (.int .i64 (dex y)) ∧ W.cell? ⟨nbz, 0, none⟩ = some (.bool (sg (dmn z))) ∧ W.cell? ⟨nbz, 1, none⟩ = some (.slice Xz (nl (mg (dmn z))) cz) ∧ W.cell? ⟨nbz, 2, none⟩ = some (.int .i64 (dex z)) ∧ W.cell? ⟨nbs, 0, none⟩ = some (.bool (sg (dmn s))) ∧ W.cell? ⟨nbs, 1, none⟩ = some (.slice Xs (nl (mg (dmn s))) cs) ∧ W.cell? ⟨nbs, 2, none⟩ = some (.int .i64 (dex s)) ∧ W.cell? ⟨nbp, 0, none⟩ = some (.bool (sg (dmn p))) ∧ W.cell? ⟨nbp, 1, none⟩ = some (.slice Xp (nl (mg (dmn p))) cp) ∧ W.cell? ⟨nbp, 2, none⟩ = some (.int .i64 (dex p))) (W6).drew := ⟨qx0, qx1, qx2, qy0, qy1, qy2, qz0, qz1, qz2, qs0, qs1, qs2, qp0, qp1, qp2⟩
      have hSb : ∀ W W' : World, Below W.heap.size W W' → (W.cell? ⟨nbx, 0, none⟩ = some (.bool (sg (dmn x))) ∧ W.cell? ⟨nbx, 1, none⟩ = some (.slice Xx (nl (mg (dmn x))) cx) ∧ W.cell? ⟨nbx, 2, none⟩ = some (.int .i64 (dex x)) ∧ W.cell? ⟨nby, 0, none⟩ = some (.bool (sg (dmn y))) ∧ W.cell? ⟨nby, 1, none⟩ = some (.slice Xy (nl (mg (dmn y))) cy) ∧ W.cell? ⟨nby, 2, none⟩ = some (.int .i64 (dex y)) ∧ W.cell? ⟨nbz, 0, none⟩ = some (.bool (sg (dmn z))) ∧ W.cell? ⟨nbz, 1, none⟩ = some (.slice Xz (nl (mg (dmn z))) cz) ∧ W.cell? ⟨nbz, 2, none⟩ = some (.int .i64 (dex z)) ∧ W.cell? ⟨nbs, 0, none⟩ = some (.bool (sg (dmn s))) ∧ W.cell? ⟨nbs, 1, none⟩ = some (.slice Xs (nl (mg (dmn s))) cs) ∧ W.cell? ⟨nbs, 2, none⟩ = some (.int .i64 (dex s)) ∧ W.cell? ⟨nbp, 0, none⟩ = some (.bool (sg (dmn p))) ∧ W.cell? ⟨nbp, 1, none⟩ = some (.slice Xp (nl (mg (dmn p))) cp) ∧ W.cell? ⟨nbp, 2, none⟩ = some (.int .i64 (dex p))) → (W'.cell? ⟨nbx, 0, none⟩ = some (.bool (sg (dmn x))) ∧ W'.cell? ⟨nbx, 1, none⟩ = some (.slice Xx (nl (mg (dmn x))) cx) ∧ W'.cell? ⟨nbx, 2, none⟩ = some (.int .i64 (dex x)) ∧ W'.cell? ⟨nby, 0, none⟩ = some (.bool (sg (dmn y))) ∧ W'.cell? ⟨nby, 1, none⟩ = some (.slice Xy (nl (mg (dmn y))) cy) ∧ W'.cell? ⟨nby, 2, none⟩ = some (.int .i64 (dex y)) ∧ W'.cell? ⟨nbz, 0, none⟩ = some (.bool (sg (dmn z))) ∧ W'.cell? ⟨nbz, 1, none⟩ = some (.slice Xz (nl (mg (dmn z))) cz) ∧ W'.cell? ⟨nbz, 2, none⟩ = some (.int .i64 (dex z)) ∧ W'.cell? ⟨nbs, 0, none⟩ = some (.bool (sg (dmn s))) ∧ W'.cell? ⟨nbs, 1, none⟩ = some (.slice Xs (nl (mg (dmn s))) cs) ∧ W'.cell? ⟨nbs, 2, none⟩ = some (.int .i64 (dex s)) ∧ W'.cell? ⟨nbp, 0, none⟩ = some (.bool (sg (dmn p))) ∧ W'.cell? ⟨nbp, 1, none⟩ = some (.slice Xp (nl (mg (dmn p))) cp) ∧ W'.cell? ⟨nbp, 2, none⟩ = some (.int .i64 (dex p))) := fun W W' hb h => ⟨cell_below hb h.1, cell_below hb h.2.1, cell_below hb h.2.2.1, cell_below hb h.2.2.2.1, cell_below hb h.2.2.2.2.1, cell_below hb h.2.2.2.2.2.1, cell_below hb h.2.2.2.2.2.2.1, cell_below hb h.2.2.2.2.2.2.2.1, cell_below hb h.2.2.2.2.2.2.2.2.1, cell_below hb h.2.2.2.2.2.2.2.2.2.1, cell_below hb h.2.2.2.2.2.2.2.2.2.2.1, cell_below hb h.2.2.2.2.2.2.2.2.2.2.2.1, cell_below hb h.2.2.2.2.2.2.2.2.2.2.2.2.1, cell_below hb h.2.2.2.2.2.2.2.2.2.2.2.2.2.1, cell_below hb h.2.2.2.2.2.2.2.2.2.2.2.2.2.2⟩
      replace hSb := Lib.hid hSb
      refine wp_region_seq (fun W : World => W.cell? ⟨nbx, 0, none⟩ = some (.bool (sg (dmn x))) ∧ W.cell? ⟨nbx, 1, none⟩ = some (.slice Xx (nl (mg (dmn x))) cx) ∧ W.cell? ⟨nbx, 2, none⟩ = some (.int .i64 (dex x)) ∧ W.cell? ⟨nby, 0, none⟩ = some (.bool (sg (dmn y))) ∧ W.cell? ⟨nby, 1, none⟩ = some (.slice Xy (nl (mg (dmn y))) cy) ∧ W.cell? ⟨nby, 2, none⟩ = some (.int .i64 (dex y)) ∧ W.cell? ⟨nbz, 0, none⟩ = some (.bool (sg (dmn z))) ∧ W.cell? ⟨nbz, 1, none⟩ = some (.slice Xz (nl (mg (dmn z))) cz) ∧ W.cell? ⟨nbz, 2, none⟩ = some (.int .i64 (dex z)) ∧ W.cell? ⟨nbs, 0, none⟩ = some (.bool (sg (dmn s))) ∧ W.cell? ⟨nbs, 1, none⟩ = some (.slice Xs (nl (mg (dmn s))) cs) ∧ W.cell? ⟨nbs, 2, none⟩ = some (.int .i64 (dex s)) ∧ W.cell? ⟨nbp, 0, none⟩ = some (.bool (sg (dmn p))) ∧ W.cell? ⟨nbp, 1, none⟩ = some (.slice Xp (nl (mg (dmn p))) cp) ∧ W.cell? ⟨nbp, 2, none⟩ = some (.int .i64 (dex p))) [(0, true), (1, true), (2, true), (3, false), (4, false), (5, true), (6, true), (7, true), (8, true), (9, false), (10, false), (11, true), (12, true), (13, true), (14, true), (16, true), (17, true), (18, true), (15, false), (19, false), (20, false), (21, false), (22, true), (23, true), (24, true), (25, true), (27, true), (28, true), (29, true), (26, false), (30, false), (31, false), (32, false), (33, true), (34, true), (35, true), (36, true), (38, true), (39, true), (41, true), (42, true), (37, false), (40, false), (43, false), (44, false), (45, false), (46, true), (47, true), (48, true), (49, true), (51, true), (50, false), (52, false), (53, true), (54, true), (55, true), (56, true), (59, true), (57, false), (58, false), (60, false), (61, true), (62, true), (63, true), (64, true), (65, true)] (by kernel_rfl) (by kernel_rfl) (by kernel_rfl) HSq (fun hSq => ?_)
      clear hSq
      replace HSq := Lib.hid HSq
      clear qx0 qx1 qx2 qy0 qy1 qy2 qz0 qz1 qz2 qs0 qs1 qs2 qp0 qp1 qp2
      refine SeqP.take (v := ?_) rfl (fun _ _ _ h => h) (Or.inl ⟨by rfl, ?_⟩) ?_
      rotate_left 1
      · intro wq hSw; (try dsimp only at hSw); go_simp; try with_reducible rfl
      try simp only [Act.put, List.setIfInBounds_toArray, List.set_cons_zero, List.set_cons_succ]
      refine SeqP.take (v := ?_) rfl (fun _ _ _ h => h) (Or.inl ⟨by rfl, ?_⟩) ?_
      rotate_left 1
      · intro wq hSw; (try dsimp only at hSw); go_simp; try with_reducible rfl
      try simp only [Act.put, List.setIfInBounds_toArray, List.set_cons_zero, List.set_cons_succ]
      refine SeqP.take (v := ?_) rfl (fun _ _ _ h => h) (Or.inl ⟨by rfl, ?_⟩) ?_
      rotate_left 1
      · intro wq hSw; (try dsimp only at hSw); go_simp; try with_reducible rfl
      try simp only [Act.put, List.setIfInBounds_toArray, List.set_cons_zero, List.set_cons_succ]
      refine SeqP.call rfl (by rfl) (fun Kq hKq => ?_)
      go_simp
      go_at_call 48
      with_reducible refine (C7_0.out _ _ _ _ _ hy hx hT).mono ?_
      rintro e W8 ⟨Xa1, ca1, rfl, ha1, hb8⟩
      replace hT := hT.below hb8
      replace hG := hG.below hb8
      replace hl := hl.below hb8
      replace hk := hk.below hb8
      replace hm := hm.below hb8
      replace hx := hx.below hb8
      replace hy := hy.below hb8
      replace hz := hz.below hb8
      replace hs := hs.below hb8
      replace hp := hp.below hb8
      replace HBT := Below.cons HBT hb8
      replace HSq := Lib.hid (hSb.out _ _ hb8 HSq.out)
      clear hb8
      refine hKq.out _ _ HSq.out (fun hSq => ?_)
      clear hSq hKq Kq
      try simp only [Act.put, List.setIfInBounds_toArray, List.set_cons_zero, List.set_cons_succ]
      refine SeqP.call rfl (by rfl) (fun Kq hKq => ?_)
      go_simp
      go_at_call 19
      with_reducible refine (C7_1.out _ _ _ _ _ hs ha1 ).mono ?_
      rintro e W9 ⟨rfl, hb9⟩
      replace hT := hT.below hb9
      replace hG := hG.below hb9
      replace hl := hl.below hb9
      replace hk := hk.below hb9
      replace hm := hm.below hb9
      replace hx := hx.below hb9
      replace hy := hy.below hb9
      replace hz := hz.below hb9
      replace hs := hs.below hb9
      replace hp := hp.below hb9
      replace HBT := Below.cons HBT hb9
      replace HSq := Lib.hid (hSb.out _ _ hb9 HSq.out)
      clear hb9
      refine hKq.out _ _ HSq.out (fun hSq => ?_)
      clear hSq hKq Kq
      try simp only [Act.put, List.setIfInBounds_toArray, List.set_cons_zero, List.set_cons_succ]
      refine SeqP.take (v := ?_) rfl (fun _ _ _ h => h) (Or.inl ⟨by rfl, ?_⟩) ?_
      rotate_left 1
      · intro wq hSw; (try dsimp only at hSw); go_simp; try with_reducible rfl
      try simp only [Act.put, List.setIfInBounds_toArray, List.set_cons_zero, List.set_cons_succ]
      refine SeqP.take (v := ?_) rfl (fun _ _ _ h => h) (Or.inl ⟨by rfl, ?_⟩) ?_
      rotate_left 1
      · intro wq hSw; (try dsimp only at hSw); go_simp; try with_reducible rfl
      try simp only [Act.put, List.setIfInBounds_toArray, List.set_cons_zero, List.set_cons_succ]
      refine SeqP.take (v := ?_) rfl (fun _ _ _ h => h) (Or.inl ⟨by rfl, ?_⟩) ?_
      rotate_left 1
      · intro wq hSw; (try dsimp only at hSw); go_simp; try with_reducible rfl
      try simp only [Act.put, List.setIfInBounds_toArray, List.set_cons_zero, List.set_cons_succ]
      refine SeqP.take (v := ?_) rfl (fun _ _ _ h => h) (Or.inl ⟨by rfl, ?_⟩) ?_
      rotate_left 1
      · intro wq hSw; (try dsimp only at hSw); go_simp; try with_reducible rfl
      try simp only [Act.put, List.setIfInBounds_toArray, List.set_cons_zero, List.set_cons_succ]
      refine SeqP.call rfl (by rfl) (fun Kq hKq => ?_)
      go_simp
      go_at_call 51
      with_reducible refine (C7_2.out _ _ _ _ _ hy hx hT hG).mono ?_
      rintro e W10 ⟨Xm1, cm1, rfl, hm1, hb10⟩
      replace hT := hT.below hb10
      replace hG := hG.below hb10
      replace hl := hl.below hb10
      replace hk := hk.below hb10
      replace hm := hm.below hb10
      replace hx := hx.below hb10
      replace hy := hy.below hb10
      replace hz := hz.below hb10
      replace hs := hs.below hb10
      replace hp := hp.below hb10
      replace HBT := Below.cons HBT hb10
      replace HSq := Lib.hid (hSb.out _ _ hb10 HSq.out)
      clear hb10
      refine hKq.out _ _ HSq.out (fun hSq => ?_)
      clear hSq hKq Kq
      try simp only [Act.put, List.setIfInBounds_toArray, List.set_cons_zero, List.set_cons_succ]
      refine SeqP.call rfl (by rfl) (fun Kq hKq => ?_)
      go_simp
      go_at_call 19
      with_reducible refine (C7_3.out _ _ _ _ _ hp hm1 ).mono ?_
      rintro e W11 ⟨rfl, hb11⟩
      replace hT := hT.below hb11
      replace hG := hG.below hb11
      replace hl := hl.below hb11
      replace hk := hk.below hb11
      replace hm := hm.below hb11
      replace hx := hx.below hb11
      replace hy := hy.below hb11
      replace hz := hz.below hb11
      replace hs := hs.below hb11
      replace hp := hp.below hb11
      replace HBT := Below.cons HBT hb11
      replace HSq := Lib.hid (hSb.out _ _ hb11 HSq.out)
      clear hb11
      refine hKq.out _ _ HSq.out (fun hSq => ?_)
      clear hSq hKq Kq
      try simp only [Act.put, List.setIfInBounds_toArray, List.set_cons_zero, List.set_cons_succ]
      refine SeqP.take (v := ?_) rfl (fun _ _ _ h => h) (Or.inl ⟨by rfl, ?_⟩) ?_
      rotate_left 1
      · intro wq hSw; (try dsimp only at hSw); go_simp; try with_reducible rfl
      try simp only [Act.put, List.setIfInBounds_toArray, List.set_cons_zero, List.set_cons_succ]
      refine SeqP.take (v := ?_) rfl (fun _ _ _ h => h) (Or.inl ⟨by rfl, ?_⟩) ?_
      rotate_left 1
      · intro wq hSw; (try dsimp only at hSw); go_simp; try with_reducible rfl
      try simp only [Act.put, List.setIfInBounds_toArray, List.set_cons_zero, List.set_cons_succ]
      refine SeqP.take (v := ?_) rfl (fun _ _ _ h => h) (Or.inl ⟨by rfl, ?_⟩) ?_
      rotate_left 1
      · intro wq hSw; (try dsimp only at hSw); go_simp; try with_reducible rfl
      try simp only [Act.put, List.setIfInBounds_toArray, List.set_cons_zero, List.set_cons_succ]
      refine SeqP.take (v := ?_) rfl (fun _ _ _ h => h) (Or.inl ⟨by rfl, ?_⟩) ?_
      rotate_left 1
      · intro wq hSw; (try dsimp only at hSw); go_simp; try with_reducible rfl
      try simp only [Act.put, List.setIfInBounds_toArray, List.set_cons_zero, List.set_cons_succ]
      refine SeqP.take (v := ?_) rfl (fun _ _ _ h => h) (Or.inl ⟨by rfl, ?_⟩) ?_
      rotate_left 1
      · intro wq hSw; (try dsimp only at hSw); go_simp; try with_reducible rfl
      try simp only [Act.put, List.setIfInBounds_toArray, List.set_cons_zero, List.set_cons_succ]
      refine SeqP.take (v := ?_) rfl (fun _ _ _ h => h) (Or.inl ⟨by rfl, ?_⟩) ?_
      rotate_left 1
      · intro wq hSw; (try dsimp only at hSw); go_simp; try with_reducible rfl
      try simp only [Act.put, List.setIfInBounds_toArray, List.set_cons_zero, List.set_cons_succ]
      refine SeqP.take (v := ?_) rfl (fun _ _ _ h => h) (Or.inl ⟨by rfl, ?_⟩) ?_
      rotate_left 1
      · intro wq hSw; (try dsimp only at hSw); go_simp; try with_reducible rfl
      try simp only [Act.put, List.setIfInBounds_toArray, List.set_cons_zero, List.set_cons_succ]
      refine SeqP.call rfl (by rfl) (fun Kq hKq => ?_)
      go_simp
      go_at_call 48
      with_reducible refine (C7_4.out _ _ _ _ _ hs hz hT).mono ?_
      rintro e W12 ⟨Xa2, ca2, rfl, ha2, hb12⟩
      replace hT := hT.below hb12
      replace hG := hG.below hb12
      replace hl := hl.below hb12
      replace hk := hk.below hb12
      replace hm := hm.below hb12
      replace hx := hx.below hb12
      replace hy := hy.below hb12
      replace hz := hz.below hb12
      replace hs := hs.below hb12
      replace hp := hp.below hb12
      replace HBT := Below.cons HBT hb12
      replace HSq := Lib.hid (hSb.out _ _ hb12 HSq.out)
      clear hb12
      refine hKq.out _ _ HSq.out (fun hSq => ?_)
      clear hSq hKq Kq
      try simp only [Act.put, List.setIfInBounds_toArray, List.set_cons_zero, List.set_cons_succ]
      refine SeqP.call rfl (by rfl) (fun Kq hKq => ?_)
      go_simp
      go_at_call 48
      with_reducible refine (C7_5.out _ _ _ _ _ hy hz hT).mono ?_
      rintro e W13 ⟨Xa3, ca3, rfl, ha3, hb13⟩
      replace hT := hT.below hb13
      replace hG := hG.below hb13
      replace hl := hl.below hb13
      replace hk := hk.below hb13
      replace hm := hm.below hb13
      replace hx := hx.below hb13
      replace hy := hy.below hb13
      replace hz := hz.below hb13
      replace hs := hs.below hb13
      replace hp := hp.below hb13
      replace ha2 := ha2.below hb13
      replace HBT := Below.cons HBT hb13
      replace HSq := Lib.hid (hSb.out _ _ hb13 HSq.out)
      clear hb13
      refine hKq.out _ _ HSq.out (fun hSq => ?_)
      clear hSq hKq Kq
      try simp only [Act.put, List.setIfInBounds_toArray, List.set_cons_zero, List.set_cons_succ]
      refine SeqP.call rfl (by rfl) (fun Kq hKq => ?_)
      go_simp
      go_at_call 48
      with_reducible refine (C7_6.out _ _ _ _ _ hx ha3 hT).mono ?_
      rintro e W14 ⟨Xa4, ca4, rfl, ha4, hb14⟩
      replace hT := hT.below hb14
      replace hG := hG.below hb14
      replace hl := hl.below hb14
      replace hk := hk.below hb14
      replace hm := hm.below hb14
      replace hx := hx.below hb14
      replace hy := hy.below hb14
      replace hz := hz.below hb14
      replace hs := hs.below hb14
      replace hp := hp.below hb14
      replace ha2 := ha2.below hb14
      replace ha3 := ha3.below hb14
      replace HBT := Below.cons HBT hb14
      replace HSq := Lib.hid (hSb.out _ _ hb14 HSq.out)
      clear hb14
      refine hKq.out _ _ HSq.out (fun hSq => ?_)
      clear hSq hKq Kq
      try simp only [Act.put, List.setIfInBounds_toArray, List.set_cons_zero, List.set_cons_succ]
      refine SeqP.call rfl (by rfl) (fun Kq hKq => ?_)
      go_simp
      go_at_call 19
      with_reducible refine (C7_7.out _ _ _ _ _ ha2 ha4 ).mono ?_
      rintro e W15 ⟨rfl, hb15⟩
      replace hT := hT.below hb15
      replace hG := hG.below hb15
      replace hl := hl.below hb15
      replace hk := hk.below hb15
      replace hm := hm.below hb15
      replace hx := hx.below hb15
      replace hy := hy.below hb15
      replace hz := hz.below hb15
      replace hs := hs.below hb15
      replace hp := hp.below hb15
      replace HBT := Below.cons HBT hb15
      replace HSq := Lib.hid (hSb.out _ _ hb15 HSq.out)
      clear hb15
      refine hKq.out _ _ HSq.out (fun hSq => ?_)
      clear hSq hKq Kq
      try simp only [Act.put, List.setIfInBounds_toArray, List.set_cons_zero, List.set_cons_succ]
      refine SeqP.take (v := ?_) rfl (fun _ _ _ h => h) (Or.inl ⟨by rfl, ?_⟩) ?_
      rotate_left 1
      · intro wq hSw; (try dsimp only at hSw); go_simp; try with_reducible rfl
      try simp only [Act.put, List.setIfInBounds_toArray, List.set_cons_zero, List.set_cons_succ]
      refine SeqP.take (v := ?_) rfl (fun _ _ _ h => h) (Or.inl ⟨by rfl, ?_⟩) ?_
      rotate_left 1
      · intro wq hSw; (try dsimp only at hSw); go_simp; try with_reducible rfl
      try simp only [Act.put, List.setIfInBounds_toArray, List.set_cons_zero, List.set_cons_succ]
      refine SeqP.take (v := ?_) rfl (fun _ _ _ h => h) (Or.inl ⟨by rfl, ?_⟩) ?_
      rotate_left 1
      · intro wq hSw; (try dsimp only at hSw); go_simp; try with_reducible rfl
      try simp only [Act.put, List.setIfInBounds_toArray, List.set_cons_zero, List.set_cons_succ]
      refine SeqP.take (v := ?_) rfl (fun _ _ _ h => h) (Or.inl ⟨by rfl, ?_⟩) ?_
      rotate_left 1
      · intro wq hSw; (try dsimp only at hSw); go_simp; try with_reducible rfl
      try simp only [Act.put, List.setIfInBounds_toArray, List.set_cons_zero, List.set_cons_succ]
      refine SeqP.take (v := ?_) rfl (fun _ _ _ h => h) (Or.inl ⟨by rfl, ?_⟩) ?_
      rotate_left 1
      · intro wq hSw; (try dsimp only at hSw); go_simp; try with_reducible rfl
      try simp only [Act.put, List.setIfInBounds_toArray, List.set_cons_zero, List.set_cons_succ]
      refine SeqP.take (v := ?_) rfl (fun _ _ _ h => h) (Or.inl ⟨by rfl, ?_⟩) ?_
      rotate_left 1
      · intro wq hSw; (try dsimp only at hSw); go_simp; try with_reducible rfl
      try simp only [Act.put, List.setIfInBounds_toArray, List.set_cons_zero, List.set_cons_succ]
      refine SeqP.take (v := ?_) rfl (fun _ _ _ h => h) (Or.inl ⟨by rfl, ?_⟩) ?_
      rotate_left 1
      · intro wq hSw; (try dsimp only at hSw); go_simp; try with_reducible rfl
      try simp only [Act.put, List.setIfInBounds_toArray, List.set_cons_zero, List.set_cons_succ]
      refine SeqP.call rfl (by rfl) (fun Kq hKq => ?_)
      go_simp
      go_at_call 51
      with_reducible refine (C7_8.out _ _ _ _ _ hp hz hT hG).mono ?_
      rintro e W16 ⟨Xm2, cm2, rfl, hm2, hb16⟩
      replace hT := hT.below hb16
      replace hG := hG.below hb16
      replace hl := hl.below hb16
      replace hk := hk.below hb16
      replace hm := hm.below hb16
      replace hx := hx.below hb16
      replace hy := hy.below hb16
      replace hz := hz.below hb16
      replace hs := hs.below hb16
      replace hp := hp.below hb16
      replace HBT := Below.cons HBT hb16
      replace HSq := Lib.hid (hSb.out _ _ hb16 HSq.out)
      clear hb16
      refine hKq.out _ _ HSq.out (fun hSq => ?_)
      clear hSq hKq Kq
      try simp only [Act.put, List.setIfInBounds_toArray, List.set_cons_zero, List.set_cons_succ]
      refine SeqP.call rfl (by rfl) (fun Kq hKq => ?_)
      go_simp
      go_at_call 51
      with_reducible refine (C7_9.out _ _ _ _ _ hy hz hT hG).mono ?_
      rintro e W17 ⟨Xm3, cm3, rfl, hm3, hb17⟩
      replace hT := hT.below hb17
      replace hG := hG.below hb17
      replace hl := hl.below hb17
      replace hk := hk.below hb17
      replace hm := hm.below hb17
      replace hx := hx.below hb17
      replace hy := hy.below hb17
      replace hz := hz.below hb17
      replace hs := hs.below hb17
      replace hp := hp.below hb17
      replace hm2 := hm2.below hb17
      replace HBT := Below.cons HBT hb17
      replace HSq := Lib.hid (hSb.out _ _ hb17 HSq.out)
      clear hb17
      refine hKq.out _ _ HSq.out (fun hSq => ?_)
      clear hSq hKq Kq
      try simp only [Act.put, List.setIfInBounds_toArray, List.set_cons_zero, List.set_cons_succ]
      refine SeqP.call rfl (by rfl) (fun Kq hKq => ?_)
      go_simp
      go_at_call 51
      with_reducible refine (C7_10.out _ _ _ _ _ hx hm3 hT hG).mono ?_
      rintro e W18 ⟨Xm4, cm4, rfl, hm4, hb18⟩
      replace hT := hT.below hb18
      replace hG := hG.below hb18
      replace hl := hl.below hb18
      replace hk := hk.below hb18
      replace hm := hm.below hb18
      replace hx := hx.below hb18
      replace hy := hy.below hb18
      replace hz := hz.below hb18
      replace hs := hs.below hb18
      replace hp := hp.below hb18
      replace hm2 := hm2.below hb18
      replace hm3 := hm3.below hb18
      replace HBT := Below.cons HBT hb18
      replace HSq := Lib.hid (hSb.out _ _ hb18 HSq.out)
      clear hb18
      refine hKq.out _ _ HSq.out (fun hSq => ?_)
      clear hSq hKq Kq
      try simp only [Act.put, List.setIfInBounds_toArray, List.set_cons_zero, List.set_cons_succ]
      refine SeqP.call rfl (by rfl) (fun Kq hKq => ?_)
      go_simp
      go_at_call 19
      with_reducible refine (C7_11.out _ _ _ _ _ hm2 hm4 ).mono ?_
      rintro e W19 ⟨rfl, hb19⟩
      replace hT := hT.below hb19
      replace hG := hG.below hb19
      replace hl := hl.below hb19
      replace hk := hk.below hb19
      replace hm := hm.below hb19
      replace hx := hx.below hb19
      replace hy := hy.below hb19
      replace hz := hz.below hb19
      replace hs := hs.below hb19
      replace hp := hp.below hb19
      replace HBT := Below.cons HBT hb19
      replace HSq := Lib.hid (hSb.out _ _ hb19 HSq.out)
      clear hb19
      refine hKq.out _ _ HSq.out (fun hSq => ?_)
      clear hSq hKq Kq
      try simp only [Act.put, List.setIfInBounds_toArray, List.set_cons_zero, List.set_cons_succ]
      refine SeqP.take (v := ?_) rfl (fun _ _ _ h => h) (Or.inl ⟨by rfl, ?_⟩) ?_
      rotate_left 1
      · intro wq hSw; (try dsimp only at hSw); go_simp; try with_reducible rfl
      try simp only [Act.put, List.setIfInBounds_toArray, List.set_cons_zero, List.set_cons_succ]
      refine SeqP.take (v := ?_) rfl (fun _ _ _ h => h) (Or.inl ⟨by rfl, ?_⟩) ?_
      rotate_left 1
      · intro wq hSw; (try dsimp only at hSw); go_simp; try with_reducible rfl
      try simp only [Act.put, List.setIfInBounds_toArray, List.set_cons_zero, List.set_cons_succ]
      refine SeqP.take (v := ?_) rfl (fun _ _ _ h => h) (Or.inl ⟨by rfl, ?_⟩) ?_
      rotate_left 1
      · intro wq hSw; (try dsimp only at hSw); go_simp; try with_reducible rfl
      try simp only [Act.put, List.setIfInBounds_toArray, List.set_cons_zero, List.set_cons_succ]
      refine SeqP.take (v := ?_) rfl (fun _ _ _ h => h) (Or.inl ⟨by rfl, ?_⟩) ?_
      rotate_left 1
      · intro wq hSw; (try dsimp only at hSw); go_simp; try with_reducible rfl
      try simp only [Act.put, List.setIfInBounds_toArray, List.set_cons_zero, List.set_cons_succ]
      refine SeqP.take (v := ?_) rfl (fun _ _ _ h => h) (Or.inl ⟨by rfl, ?_⟩) ?_
      rotate_left 1
      · intro wq hSw; (try dsimp only at hSw); go_simp; try with_reducible rfl
      try simp only [Act.put, List.setIfInBounds_toArray, List.set_cons_zero, List.set_cons_succ]
      refine SeqP.take (v := ?_) rfl (fun _ _ _ h => h) (Or.inl ⟨by rfl, ?_⟩) ?_
      rotate_left 1
      · intro wq hSw; (try dsimp only at hSw); go_simp; try with_reducible rfl
      try simp only [Act.put, List.setIfInBounds_toArray, List.set_cons_zero, List.set_cons_succ]
      refine SeqP.take (v := ?_) rfl (fun _ _ _ h => h) (Or.inl ⟨by rfl, ?_⟩) ?_
      rotate_left 1
      · intro wq hSw; (try dsimp only at hSw); go_simp; try with_reducible rfl
      try simp only [Act.put, List.setIfInBounds_toArray, List.set_cons_zero, List.set_cons_succ]
      refine SeqP.take (v := ?_) rfl (fun _ _ _ h => h) (Or.inl ⟨by rfl, ?_⟩) ?_
      rotate_left 1
      · intro wq hSw; (try dsimp only at hSw); go_simp; try with_reducible rfl
      try simp only [Act.put, List.setIfInBounds_toArray, List.set_cons_zero, List.set_cons_succ]
      refine SeqP.call rfl (by rfl) (fun Kq hKq => ?_)
      go_simp
      go_at_call 51
      with_reducible refine (C7_12.out _ _ _ _ _ hs hz hT hG).mono ?_
      rintro e W20 ⟨Xm5, cm5, rfl, hm5, hb20⟩
      replace hT := hT.below hb20
      replace hG := hG.below hb20
      replace hl := hl.below hb20
      replace hk := hk.below hb20
      replace hm := hm.below hb20
      replace hx := hx.below hb20
      replace hy := hy.below hb20
      replace hz := hz.below hb20
      replace hs := hs.below hb20
      replace hp := hp.below hb20
      replace HBT := Below.cons HBT hb20
      replace HSq := Lib.hid (hSb.out _ _ hb20 HSq.out)
      clear hb20
      refine hKq.out _ _ HSq.out (fun hSq => ?_)
      clear hSq hKq Kq
      try simp only [Act.put, List.setIfInBounds_toArray, List.set_cons_zero, List.set_cons_succ]
      refine SeqP.call rfl (by rfl) (fun Kq hKq => ?_)
      go_simp
      go_at_call 51
      with_reducible refine (C7_13.out _ _ _ _ _ hx hz hT hG).mono ?_
      rintro e W21 ⟨Xm6, cm6, rfl, hm6, hb21⟩
      replace hT := hT.below hb21
      replace hG := hG.below hb21
      replace hl := hl.below hb21
      replace hk := hk.below hb21
      replace hm := hm.below hb21
      replace hx := hx.below hb21
      replace hy := hy.below hb21
      replace hz := hz.below hb21
      replace hs := hs.below hb21
      replace hp := hp.below hb21
      replace hm5 := hm5.below hb21
      replace HBT := Below.cons HBT hb21
      replace HSq := Lib.hid (hSb.out _ _ hb21 HSq.out)
      clear hb21
      refine hKq.out _ _ HSq.out (fun hSq => ?_)
      clear hSq hKq Kq
      try simp only [Act.put, List.setIfInBounds_toArray, List.set_cons_zero, List.set_cons_succ]
      refine SeqP.call rfl (by rfl) (fun Kq hKq => ?_)
      go_simp
      go_at_call 51
      with_reducible refine (C7_14.out _ _ _ _ _ hy hz hT hG).mono ?_
      rintro e W22 ⟨Xm7, cm7, rfl, hm7, hb22⟩
      replace hT := hT.below hb22
      replace hG := hG.below hb22
      replace hl := hl.below hb22
      replace hk := hk.below hb22
      replace hm := hm.below hb22
      replace hx := hx.below hb22
      replace hy := hy.below hb22
      replace hz := hz.below hb22
      replace hs := hs.below hb22
      replace hp := hp.below hb22
      replace hm5 := hm5.below hb22
      replace hm6 := hm6.below hb22
      replace HBT := Below.cons HBT hb22
      replace HSq := Lib.hid (hSb.out _ _ hb22 HSq.out)
      clear hb22
      refine hKq.out _ _ HSq.out (fun hSq => ?_)
      clear hSq hKq Kq
      try simp only [Act.put, List.setIfInBounds_toArray, List.set_cons_zero, List.set_cons_succ]
      refine SeqP.call rfl (by rfl) (fun Kq hKq => ?_)
      go_simp
      go_at_call 48
      with_reducible refine (C7_15.out _ _ _ _ _ hm6 hm7 hT).mono ?_
      rintro e W23 ⟨Xa5, ca5, rfl, ha5, hb23⟩
      replace hT := hT.below hb23
      replace hG := hG.below hb23
      replace hl := hl.below hb23
      replace hk := hk.below hb23
      replace hm := hm.below hb23
      replace hx := hx.below hb23
      replace hy := hy.below hb23
      replace hz := hz.below hb23
      replace hs := hs.below hb23
      replace hp := hp.below hb23
      replace hm5 := hm5.below hb23
      replace hm6 := hm6.below hb23
      replace hm7 := hm7.below hb23
      replace HBT := Below.cons HBT hb23
      replace HSq := Lib.hid (hSb.out _ _ hb23 HSq.out)
      clear hb23
      refine hKq.out _ _ HSq.out (fun hSq => ?_)
      clear hSq hKq Kq
      try simp only [Act.put, List.setIfInBounds_toArray, List.set_cons_zero, List.set_cons_succ]
      refine SeqP.call rfl (by rfl) (fun Kq hKq => ?_)
      go_simp
      go_at_call 19
      with_reducible refine (C7_16.out _ _ _ _ _ hm5 ha5 ).mono ?_
      rintro e W24 ⟨rfl, hb24⟩
      replace hT := hT.below hb24
      replace hG := hG.below hb24
      replace hl := hl.below hb24
      replace hk := hk.below hb24
      replace hm := hm.below hb24
      replace hx := hx.below hb24
      replace hy := hy.below hb24
      replace hz := hz.below hb24
      replace hs := hs.below hb24
      replace hp := hp.below hb24
      replace HBT := Below.cons HBT hb24
      replace HSq := Lib.hid (hSb.out _ _ hb24 HSq.out)
      clear hb24
      refine hKq.out _ _ HSq.out (fun hSq => ?_)
      clear hSq hKq Kq
      try simp only [Act.put, List.setIfInBounds_toArray, List.set_cons_zero, List.set_cons_succ]
      refine SeqP.take (v := ?_) rfl (fun _ _ _ h => h) (Or.inl ⟨by rfl, ?_⟩) ?_
      rotate_left 1
      · intro wq hSw; (try dsimp only at hSw); go_simp; try with_reducible rfl
      try simp only [Act.put, List.setIfInBounds_toArray, List.set_cons_zero, List.set_cons_succ]
      refine SeqP.take (v := ?_) rfl (fun _ _ _ h => h) (Or.inl ⟨by rfl, ?_⟩) ?_
      rotate_left 1
      · intro wq hSw; (try dsimp only at hSw); go_simp; try with_reducible rfl
      try simp only [Act.put, List.setIfInBounds_toArray, List.set_cons_zero, List.set_cons_succ]
      refine SeqP.take (v := ?_) rfl (fun _ _ _ h => h) (Or.inl ⟨by rfl, ?_⟩) ?_
      rotate_left 1
      · intro wq hSw; (try dsimp only at hSw); go_simp; try with_reducible rfl
      try simp only [Act.put, List.setIfInBounds_toArray, List.set_cons_zero, List.set_cons_succ]
      refine SeqP.take (v := ?_) rfl (fun _ _ _ h => h) (Or.inl ⟨by rfl, ?_⟩) ?_
      rotate_left 1
      · intro wq hSw; (try dsimp only at hSw); go_simp; try with_reducible rfl
      try simp only [Act.put, List.setIfInBounds_toArray, List.set_cons_zero, List.set_cons_succ]
      refine SeqP.take (v := ?_) rfl (fun _ _ _ h => h) (Or.inl ⟨by rfl, ?_⟩) ?_
      rotate_left 1
      · intro wq hSw; (try dsimp only at hSw); go_simp; try with_reducible rfl
      try simp only [Act.put, List.setIfInBounds_toArray, List.set_cons_zero, List.set_cons_succ]
      refine SeqP.call rfl (by rfl) (fun Kq hKq => ?_)
      go_simp
      go_at_call 42
      with_reducible refine (C7_17.out _ _ _ _ _ hs hy hT).mono ?_
      rintro e W25 ⟨Xd1, cd1, rfl, hd1, hb25⟩
      replace hT := hT.below hb25
      replace hG := hG.below hb25
      replace hl := hl.below hb25
      replace hk := hk.below hb25
      replace hm := hm.below hb25
      replace hx := hx.below hb25
      replace hy := hy.below hb25
      replace hz := hz.below hb25
      replace hs := hs.below hb25
      replace hp := hp.below hb25
      replace HBT := Below.cons HBT hb25
      replace HSq := Lib.hid (hSb.out _ _ hb25 HSq.out)
      clear hb25
      refine hKq.out _ _ HSq.out (fun hSq => ?_)
      clear hSq hKq Kq
      try simp only [Act.put, List.setIfInBounds_toArray, List.set_cons_zero, List.set_cons_succ]
      refine SeqP.call rfl (by rfl) (fun Kq hKq => ?_)
      go_simp
      go_at_call 19
      with_reducible refine (C7_18.out _ _ _ _ _ hd1 hx ).mono ?_
      rintro e W26 ⟨rfl, hb26⟩
      replace hT := hT.below hb26
      replace hG := hG.below hb26
      replace hl := hl.below hb26
      replace hk := hk.below hb26
      replace hm := hm.below hb26
      replace hx := hx.below hb26
      replace hy := hy.below hb26
      replace hz := hz.below hb26
      replace hs := hs.below hb26
      replace hp := hp.below hb26
      replace HBT := Below.cons HBT hb26
      replace HSq := Lib.hid (hSb.out _ _ hb26 HSq.out)
      clear hb26
      refine hKq.out _ _ HSq.out (fun hSq => ?_)
      clear hSq hKq Kq
      try simp only [Act.put, List.setIfInBounds_toArray, List.set_cons_zero, List.set_cons_succ]
      refine SeqP.take (v := ?_) rfl (fun _ _ _ h => h) (Or.inl ⟨by rfl, ?_⟩) ?_
      rotate_left 1
      · intro wq hSw; (try dsimp only at hSw); go_simp; try with_reducible rfl
      try simp only [Act.put, List.setIfInBounds_toArray, List.set_cons_zero, List.set_cons_succ]
      refine SeqP.take (v := ?_) rfl (fun _ _ _ h => h) (Or.inl ⟨by rfl, ?_⟩) ?_
      rotate_left 1
      · intro wq hSw; (try dsimp only at hSw); go_simp; try with_reducible rfl
      try simp only [Act.put, List.setIfInBounds_toArray, List.set_cons_zero, List.set_cons_succ]
      refine SeqP.take (v := ?_) rfl (fun _ _ _ h => h) (Or.inl ⟨by rfl, ?_⟩) ?_
      rotate_left 1
      · intro wq hSw; (try dsimp only at hSw); go_simp; try with_reducible rfl
      try simp only [Act.put, List.setIfInBounds_toArray, List.set_cons_zero, List.set_cons_succ]
      refine SeqP.take (v := ?_) rfl (fun _ _ _ h => h) (Or.inl ⟨by rfl, ?_⟩) ?_
      rotate_left 1
      · intro wq hSw; (try dsimp only at hSw); go_simp; try with_reducible rfl
      try simp only [Act.put, List.setIfInBounds_toArray, List.set_cons_zero, List.set_cons_succ]
      refine SeqP.take (v := ?_) rfl (fun _ _ _ h => h) (Or.inl ⟨by rfl, ?_⟩) ?_
      rotate_left 1
      · intro wq hSw; (try dsimp only at hSw); go_simp; try with_reducible rfl
      try simp only [Act.put, List.setIfInBounds_toArray, List.set_cons_zero, List.set_cons_succ]
      refine SeqP.call rfl (by rfl) (fun Kq hKq => ?_)
      go_simp
      go_at_call 46
      with_reducible refine (C7_19.out _ _ _ hx ).mono ?_
      rintro e W27 ⟨Xn1, cn1, rfl, hn1, hb27⟩
      replace hT := hT.below hb27
      replace hG := hG.below hb27
      replace hl := hl.below hb27
      replace hk := hk.below hb27
      replace hm := hm.below hb27
      replace hx := hx.below hb27
      replace hy := hy.below hb27
      replace hz := hz.below hb27
      replace hs := hs.below hb27
      replace hp := hp.below hb27
      replace HBT := Below.cons HBT hb27
      replace HSq := Lib.hid (hSb.out _ _ hb27 HSq.out)
      clear hb27
      refine hKq.out _ _ HSq.out (fun hSq => ?_)
      clear hSq hKq Kq
      try simp only [Act.put, List.setIfInBounds_toArray, List.set_cons_zero, List.set_cons_succ]
      refine SeqP.call rfl (by rfl) (fun Kq hKq => ?_)
      go_simp
      go_at_call 48
      with_reducible refine (C7_20.out _ _ _ _ _ hx hn1 hT).mono ?_
      rintro e W28 ⟨Xa6, ca6, rfl, ha6, hb28⟩
      replace hT := hT.below hb28
      replace hG := hG.below hb28
      replace hl := hl.below hb28
      replace hk := hk.below hb28
      replace hm := hm.below hb28
      replace hx := hx.below hb28
      replace hy := hy.below hb28
      replace hz := hz.below hb28
      replace hs := hs.below hb28
      replace hp := hp.below hb28
      replace hn1 := hn1.below hb28
      replace HBT := Below.cons HBT hb28
      replace HSq := Lib.hid (hSb.out _ _ hb28 HSq.out)
      clear hb28
      refine hKq.out _ _ HSq.out (fun hSq => ?_)
      clear hSq hKq Kq
      try simp only [Act.put, List.setIfInBounds_toArray, List.set_cons_zero, List.set_cons_succ]
      refine SeqP.call rfl (by rfl) (fun Kq hKq => ?_)
      go_simp
      go_at_call 19
      with_reducible refine (C7_21.out _ _ _ ha6 ).mono ?_
      rintro e W29 ⟨rfl, hb29⟩
      replace hT := hT.below hb29
      replace hG := hG.below hb29
      replace hl := hl.below hb29
      replace hk := hk.below hb29
      replace hm := hm.below hb29
      replace hx := hx.below hb29
      replace hy := hy.below hb29
      replace hz := hz.below hb29
      replace hs := hs.below hb29
      replace hp := hp.below hb29
      replace hn1 := hn1.below hb29
      replace ha6 := ha6.below hb29
      replace HBT := Below.cons HBT hb29
      replace HSq := Lib.hid (hSb.out _ _ hb29 HSq.out)
      clear hb29
      refine hKq.out _ _ HSq.out (fun hSq => ?_)
      clear hSq hKq Kq
      try simp only [Act.put, List.setIfInBounds_toArray, List.set_cons_zero, List.set_cons_succ]
      refine SeqP.take (v := ?_) rfl (fun _ _ _ h => h) (Or.inl ⟨by rfl, ?_⟩) ?_
      rotate_left 1
      · intro wq hSw; (try dsimp only at hSw); go_simp; try with_reducible rfl
      try simp only [Act.put, List.setIfInBounds_toArray, List.set_cons_zero, List.set_cons_succ]
      refine SeqP.take (v := ?_) rfl (fun _ _ _ h => h) (Or.inl ⟨by rfl, ?_⟩) ?_
      rotate_left 1
      · intro wq hSw; (try dsimp only at hSw); go_simp; try with_reducible rfl
      try simp only [Act.put, List.setIfInBounds_toArray, List.set_cons_zero, List.set_cons_succ]
      refine SeqP.take (v := ?_) rfl (fun _ _ _ h => h) (Or.inl ⟨by rfl, ?_⟩) ?_
      rotate_left 1
      · intro wq hSw; (try dsimp only at hSw); go_simp; try with_reducible rfl
      try simp only [Act.put, List.setIfInBounds_toArray, List.set_cons_zero, List.set_cons_succ]
      refine SeqP.take (v := ?_) rfl (fun _ _ _ h => h) (Or.inl ⟨by rfl, ?_⟩) ?_
      rotate_left 1
      · intro wq hSw; (try dsimp only at hSw); go_simp; try with_reducible rfl
      try simp only [Act.put, List.setIfInBounds_toArray, List.set_cons_zero, List.set_cons_succ]
      refine SeqP.take (v := ?_) rfl (fun _ _ _ h => h) (Or.inl ⟨by rfl, ?_⟩) ?_
      rotate_left 1
      · intro wq hSw; (try dsimp only at hSw); go_simp; try with_reducible rfl
      try simp only [Act.put, List.setIfInBounds_toArray, List.set_cons_zero, List.set_cons_succ]
      refine SeqP.done ?_
      clear hSb
      clear HSq
      all_goals (try go_wp2_with (fail))
      go_ret
      exact ⟨rfl, HBT⟩
end Go.Proofs.YtacjfpibilolnaaGreatDoor

set_option linter.unusedVariables false
set_option linter.unusedSimpArgs false
namespace Go.Proofs.YtacjfpibilolnaaGreatDoor
open Go.RowKit Go.ChangeShapes Go.WideShapes Go.ChangeAt

theorem dyadRing_lifted (os : Os) (started : os.Started) (H : Type) (enc : TypeId × Value → H) :
    ReturnsInHanded {} Tryz.checked os 10 .any (fun w args => (Rows.dyadRingSpec.pre enc Tryz.prog Tryz.f10 [] false w args ∧ laidMetH Tryz.prog [("math/bits.deBruijn32tab", Rows.laid_math_bits_deBruijn32tab), ("ziggurat/ntt.fields", Rows.laid_ziggurat_ntt_fields)] w) ∧ sizedMet enc Tryz.prog Tryz.f10 (OpenSpec.ofChange Rows.dyadRingSpec) false w args)
      (Rows.dyadRingSpec.post enc Tryz.prog Tryz.f10 false true false false) := by
  refine returnsInHanded_of_change_and (C := Tryz.checked) (X := fun w _ => laidMetH Tryz.prog [("math/bits.deBruijn32tab", Rows.laid_math_bits_deBruijn32tab), ("ziggurat/ntt.fields", Rows.laid_ziggurat_ntt_fields)] w) (fun _ _ _ hh h => h.of_heap hh) row_own started (by kernel_rfl) Tryz.func10
    (ChangeSpec.witness_shaped (enc := enc) (C := Tryz.checked) (os := os) (X := fun w _ => laidMetH Tryz.prog [("math/bits.deBruijn32tab", Rows.laid_math_bits_deBruijn32tab), ("ziggurat/ntt.fields", Rows.laid_ziggurat_ntt_fields)] w) false (World.doorLaid Tryz.prog 400 os) #[.agg #[.bool false, .slice none 0 0, .int .i64 0], .agg #[.bool false, .slice none 0 0, .int .i64 0], .agg #[.bool false, .slice none 0 0, .int .i64 0]] 8 rfl (World.shaped_of_RefB (by kernel_rfl) (by kernel_rfl)) (by kernel_rfl) (by kernel_rfl) (by kernel_rfl) (door_met2 os _)) ?_
  intro W base args ds gs before hval0 hW _ _ hL _
  have hval : ∀ (j : Nat) t v, Tryz.f10.params[j]? = some t → args[j]? = some v → Value.okWide Tryz.prog W .any base t v := hval0
  have hW' := hW
  obtain ⟨p, q, hA0, hV, rfl, hfz, hnd⟩ := hW
  have hA : DataW.TrodAll enc Tryz.prog W 0 (fun _ => true) true Tryz.f10.params.toList args.toList ds p := hA0
  rw [Tryz.params10] at hA hval
  obtain ⟨v0, vs0, d0, ds0, p0, q0, hargs, rfl, rfl, h0, r0⟩ := trodAll_cons hA
  obtain ⟨v1, vs1, d1, ds1, p1, q1, rfl, rfl, rfl, h1, r1⟩ := trodAll_cons r0
  obtain ⟨v2, vs2, d2, ds2, p2, q2, rfl, rfl, rfl, h2, r2⟩ := trodAll_cons r1
  obtain ⟨rfl, rfl, rfl⟩ := trodAll_nil r2
  obtain rfl : args = #[v0, v1, v2] := by cases args; simp_all
  obtain ⟨rfl, rfl⟩ := trodVars_none hV
  have hT := tab_of_laid2 hL
  have hG := flds_of_laid2 hL
  have k0 := h0
  have lt0 : ∀ x ∈ p0, x.block < W.heap.size := by obtain ⟨m, hm⟩ := k0; exact DataW.trod_lt m _ _ _ hm
  obtain ⟨b0, A0, c0, l0, x0, rfl, i0⟩ := open_dy (hval 0 28 v0 rfl rfl) h0
  have k1 := h1
  have lt1 : ∀ x ∈ p1, x.block < W.heap.size := by obtain ⟨m, hm⟩ := k1; exact DataW.trod_lt m _ _ _ hm
  obtain ⟨b1, A1, c1, l1, x1, rfl, i1⟩ := open_dy (hval 1 28 v1 rfl rfl) h1
  have k2 := h2
  have lt2 : ∀ x ∈ p2, x.block < W.heap.size := by obtain ⟨m, hm⟩ := k2; exact DataW.trod_lt m _ _ _ hm
  obtain ⟨b2, A2, c2, l2, x2, rfl, i2⟩ := open_dy (hval 2 28 v2 rfl rfl) h2
  clear hA0 hval0 hval hL
  have hcall := dyadRing_c b0 b1 b2 x0 x1 x2 A0 c0 l0 A1 c1 l1 A2 c2 l2 W hT hG i0.1 i0.2.1 i0.2.2.1 i0.2.2.2.1 i0.2.2.2.2 i1.1 i1.2.1 i1.2.2.1 i1.2.2.2.1 i1.2.2.2.2 i2.1 i2.2.1 i2.2.2.1 i2.2.2.2.1 i2.2.2.2.2
  refine hcall.mono fun e W' ⟨he, bel⟩ => ?_
  subst he
  exact ⟨_, rfl, _, _, _, [], _, [], hW', trodAll_mk1 (shut_bool Tryz.underlying4 _), (trodAll_cons_mk (Below.trod row_out (by kernel_rfl) (of_decide_eq_true (by kernel_rfl)) k0 bel lt0) (trodAll_cons_mk (Below.trod row_out (by kernel_rfl) (of_decide_eq_true (by kernel_rfl)) k1 bel lt1) (trodAll_cons_mk (Below.trod row_out (by kernel_rfl) (of_decide_eq_true (by kernel_rfl)) k2 bel lt2) trodAll_mk0))), rfl, bel.frame _, fun h => by cases h⟩
theorem dyadRing_holds : Rows.DyadRingSaid :=
  OpenClaim.holds_of_wide 10 Tryz.f10 rfl rfl rfl rfl rfl rfl rfl ⟨rfl, rfl, rfl, rfl, rfl⟩ rfl rfl rfl rfl rfl (by kernel_rfl) Tryz.func10 (by kernel_rfl)
    (of_decide_eq_true (by kernel_rfl)) (by unfold Func.isWrapper; first | (rw [if_pos (by decide +kernel)]; kernel_rfl) | (rw [if_neg (by decide +kernel)]; exact ⟨rfl, rfl⟩))
    (fun os started H enc _ => dyadRing_lifted os started H enc)

/-- The card, tied to the program's text. -/
theorem dyadRing_card : Rows.DyadRingCardSaid :=
  Claim7.holds_tied_plain_at .later [] [.data, .data] true (true, "c40366035f47d3ac072167c9252c36368376323eeb282c459406779c221647a3") false
    dyadRing_holds (fun _ h => by cases h) (by kernel_rfl) (fun _ h => by cases h) dyadRing_row_tie rfl ⟨rfl, rfl⟩ (by kernel_rfl) rfl
    (fun f fn hf hfn => by
      obtain rfl : f = 10 := Option.some.inj ((show Tryz.prog.funcNamed "ziggurat/zigguratlaw10.DyadRing" = some 10 by kernel_rfl).symm.trans hf) |>.symm
      obtain rfl : fn = Tryz.f10 := (Option.some.inj (Tryz.func10.symm.trans hfn)).symm
      exact ⟨by kernel_rfl, fun j t ht => by
        rw [Tryz.params10] at ht
        have hm : t ∈ [28, 28, 28] := by simpa using Array.mem_of_getElem? ht
        have hall : ([28, 28, 28].all fun u => !Tryz.prog.wantsStandIn u) = true := by kernel_rfl
        exact (show Tryz.prog.wantsStandIn t = false by simpa using List.all_eq_true.1 hall t hm)⟩)
    (by kernel_rfl)
#print axioms dyadRing_card
end Go.Proofs.YtacjfpibilolnaaGreatDoor
