/- For all inputs what a rational and a dyadic number are rounded to, to any number of bits, by any direction, or that it is none, is as the document says: DyadRounds returns true and leaves its arguments as they were. Conditions: Each package-level variable that the row lists (math/bits.deBruijn32tab) holds at the call what the library's text lays; the tie is given and covers the pruned copy of the repository. -/
import Derived.Test.YtacjfpibilolnaaGreatDoorSC48
import Derived.Test.YtacjfpibilolnaaGreatDoorSC46
import Derived.Test.YtacjfpibilolnaaGreatDoorCards
import Derived.Test.YtacjfpibilolnaaGreatDoorTie
import Derived.SevenTiedAt
set_option maxRecDepth 100000
set_option maxHeartbeats 4000000
/- Laws of dyadic numbers: DyadRounds. -/
set_option linter.unusedVariables false
set_option linter.unusedSimpArgs false
namespace Go.Proofs.YtacjfpibilolnaaGreatDoor
open Go.RowKit Go.Shelf
attribute [local go_sem] max2_i min2_i max_two min_two

theorem dyadRounds_c (sa sb : Bool) (xe x0 x1 : Int) (A : Option Addr) (c : Nat) (l : List Nat) (B : Option Addr) (d : Nat) (k : List Nat) (D : Option Addr) (f : Nat) (m : List Nat) (w : World) (hT : Tab w) (hl : Rd w A l) (Ll : Lim l) (Ql : l.length ≤ maxLen) (Cl : l.length ≤ c) (Zl : A = none → c = 0) (hk : Rd w B k) (Lk : Lim k) (Qk : k.length ≤ maxLen) (Ck : k.length ≤ d) (Zk : B = none → d = 0) (hm : Rd w D m) (Lm : Lim m) (Qm : m.length ≤ maxLen) (Cm : m.length ≤ f) (Zm : D = none → f = 0)  :
    Calls Tryz.prog 3 #[.agg #[.bool sa, .slice A l.length c, .slice B k.length d], .agg #[.bool sb, .slice D m.length f, .int .i64 xe], .agg #[.int .i64 x0, .int .i64 x1]] w fun e w' => e = .returned (.bool true) ∧ Below w.heap.size w w' := by
  replace Zl := Lib.hid Zl
  replace Zk := Lib.hid Zk
  replace Zm := Lib.hid Zm
  have hT0 := hT
  have hl0 := hl
  have hk0 := hk
  have hm0 := hm
  obtain ⟨yn, Iyn, Byn⟩ := and16 x0
  obtain ⟨rn, Ern⟩ : ∃ y, y = yn % 601 := ⟨_, rfl⟩
  have Irn : (yn : Int) % 601 = (rn : Int) := by omega
  have Jrn : (yn : Int).tmod 601 = (rn : Int) := by rw [Int.tmod_eq_emod_of_nonneg (by omega)]; exact Irn
  have Brn : rn < 601 := by omega
  replace Ern := Lib.hid Ern
  obtain ⟨n, En⟩ : ∃ q : Int, q = (rn : Int) - 300 := ⟨_, rfl⟩
  have In : (rn : Int) - 300 = n := En.symm
  have Bn : -300 ≤ n ∧ n ≤ 300 := by omega
  have Wn : IntKind.i64.wrap n = n := IntWalk.i64_in _ (by omega)
  have Wrn : IntKind.i64.wrap (rn : Int) = (rn : Int) := IntWalk.i64_in _ (by omega)
  replace En := Lib.hid En
  obtain ⟨v, Ev⟩ : ∃ z : Rat, z = ratM sa (val (l.take 8)) (val (k.take 8)) := ⟨_, rfl⟩
  have Nv : nl (mg v.num) ≤ 8 ∧ nl v.den ≤ 8 := by rw [Ev]; exact ratM_sz (made_nl l Ll 8) (made_nl k Lk 8) (by decide)
  have C1 := fun (W : World) (h1 : Rd W A l) (h2 : Rd W B k) => r9madeI_c sa A c l B d k 8 8 W h1 Ll Ql Cl Zl.out h2 Lk Qk Ck Zk.out (by decide) rfl
  rw [← Ev] at C1
  replace Ev := Lib.hid Ev
  replace C1 := Lib.hid C1
  obtain ⟨w1, Ew1⟩ : ∃ z : Rat, z = dval (ival sb (val (m.take 8))) (cutE xe) := ⟨_, rfl⟩
  have Ow1 : DB w1 8 456 := by rw [Ew1]; exact db_val (E := 200) (by rw [mg_ival]; exact made_nl m Lm 8) (cutE_bd xe)
  have C2 := fun (W : World) (h1 : Rd W D m) => tmadeI_c sb D f m xe 8 8 W h1 Lm Qm Cm Zm.out (by decide) rfl
  rw [← Ew1] at C2
  replace Ew1 := Lib.hid Ew1
  replace C2 := Lib.hid C2
  obtain ⟨ck, Eck⟩ : ∃ z, z = cutK x1 := ⟨_, rfl⟩
  replace Eck := Lib.hid Eck
  obtain ⟨hb1, Ra, Rb, Rx⟩ := bx3 w #[.bool sa, .slice A l.length c, .slice B k.length d] 26 #[.bool sb, .slice D m.length f, .int .i64 xe] 28 #[.int .i64 x0, .int .i64 x1] 29
  replace hT := hT.below hb1
  replace hl := hl.below hb1
  replace hk := hk.below hb1
  replace hm := hm.below hb1
  have HBT := hb1
  clear hb1
  have qa0 := Ra.c (i := 0) rfl
  have qa1 := Ra.c (i := 1) rfl
  have qa2 := Ra.c (i := 2) rfl
  have qb0 := Rb.c (i := 0) rfl
  have qb1 := Rb.c (i := 1) rfl
  have qb2 := Rb.c (i := 2) rfl
  have qx0 := Rx.c (i := 0) rfl
  have qx1 := Rx.c (i := 1) rfl
  go_enter Tryz.func3, Tryz.ntmps3
  go_wp2_with (fail)
  refine (Calls.mono (dhead_c _ hT) ?_)
  rintro e W2 ⟨rfl, hb2⟩
  replace hT := hT.below hb2
  replace hl := hl.below hb2
  replace hk := hk.below hb2
  replace hm := hm.below hb2
  replace Ra := Ra.below hb2
  replace qa0 := cbl hb2 qa0
  replace qa1 := cbl hb2 qa1
  replace qa2 := cbl hb2 qa2
  replace Rb := Rb.below hb2
  replace qb0 := cbl hb2 qb0
  replace qb1 := cbl hb2 qb1
  replace qb2 := cbl hb2 qb2
  replace Rx := Rx.below hb2
  replace qx0 := cbl hb2 qx0
  replace qx1 := cbl hb2 qx1
  replace HBT := Below.cons HBT hb2
  clear hb2
  go_wp2_with (fail)
  refine wp_region_inv (fun E a' w' => ∃ (u20 u21 u22 u23 u24 u25 u26 u27 u28 u8 u9 u10 : Value),
    a' = { tmps := #[.agg #[.bool sa, .slice A l.length c, .slice B k.length d], .agg #[.bool sb, .slice D m.length f, .int .i64 xe], .agg #[.int .i64 x0, .int .i64 x1], .pointer (some ⟨w.heap.size, 0, none⟩), .pointer (some ⟨(w.heap.size + 1), 0, none⟩), .pointer (some ⟨(w.heap.size + 1 + 1), 0, none⟩), .bool false, .bool true, u8, u9, u10, undef, undef, undef, undef, undef, undef, undef, undef, .bool true, u20, u21, u22, u23, u24, u25, u26, u27, u28, undef, undef, undef, undef, undef, undef, undef, undef, undef, undef, undef, undef, undef, undef, undef, undef, undef, undef, undef, undef, undef, undef, undef, undef, undef, undef, undef, undef, undef, undef, undef, undef, undef, undef, undef, undef, undef, undef, undef, undef, undef, undef, undef, undef, undef, undef, undef, undef, undef, undef, undef, undef, undef, undef, undef, undef, undef, undef, undef, undef, undef, undef], defers := [] } ∧
    (E 0 = true → u20 = .agg #[.bool sa, .slice A l.length c, .slice B k.length d]) ∧
    (E 1 = true → PR u21 v w') ∧
    (E 2 = true → u22 = .agg #[.bool sb, .slice D m.length f, .int .i64 xe]) ∧
    (E 3 = true → PD u23 w1 w') ∧
    (E 4 = true → u24 = .pointer (some ⟨(w.heap.size + 1 + 1), 0, none⟩)) ∧
    (E 5 = true → u25 = .int .i64 x0) ∧
    (E 6 = true → u26 = .int .i64 (yn : Int)) ∧
    (E 7 = true → u27 = .int .i64 (rn : Int)) ∧
    (E 8 = true → u28 = .int .i64 n) ∧
    (E 9 = true → PB3 26 W2.heap.size u8 w') ∧
    (E 10 = true → PB3 28 W2.heap.size u9 w') ∧
    (E 11 = true → PBR W2.heap.size u8 v w') ∧
    (E 12 = true → PBD W2.heap.size u9 w1 w') ∧
    (E 13 = true → u10 = .int .i64 n) ∧
    (E 11 = true → E 9 = true) ∧
    (E 12 = true → E 10 = true) ∧
    (E 9 = true → E 10 = true → u8 ≠ u9) ∧
    Below W2.heap.size W2 w') (by kernel_rfl) (by kernel_rfl) ?init ?fin ?step
  case init => exact ⟨_, _, _, _, _, _, _, _, _, _, _, _, rfl, by simp, by simp, by simp, by simp, by simp, by simp, by simp, by simp, by simp, by simp, by simp, by simp, by simp, by simp, by simp, by simp, by simp, (Below.refl _ _).drew⟩
  case step =>
    rintro E a' w' i ⟨u20, u21, u22, u23, u24, u25, u26, u27, u28, u8, u9, u10, rfl, h0, h1, h2, h3, h4, h5, h6, h7, h8, h9, h10, h11, h12, h13, hD11, hD12, hN9_10, hB⟩ hi hEi hdep
    have qa0 := cbl hB qa0
    have qa1 := cbl hB qa1
    have qa2 := cbl hB qa2
    have qb0 := cbl hB qb0
    have qb1 := cbl hB qb1
    have qb2 := cbl hB qb2
    have qx0 := cbl hB qx0
    have qx1 := cbl hB qx1
    obtain rfl | rfl | rfl | rfl | rfl | rfl | rfl | rfl | rfl | rfl | rfl | rfl | rfl | rfl : i = 0 ∨ i = 1 ∨ i = 2 ∨ i = 3 ∨ i = 4 ∨ i = 5 ∨ i = 6 ∨ i = 7 ∨ i = 8 ∨ i = 9 ∨ i = 10 ∨ i = 11 ∨ i = 12 ∨ i = 13 := by simp at hi; omega
    · skip
      refine wpOp_step rfl (fun K' hK' => ?_)
      go_simp
      refine hK' _ _ ?_
      exact ⟨_, _, _, _, _, _, _, _, _, _, _, _, rfl, fun _ => rfl, keepD (by decide) h1, keepD (by decide) h2, keepD (by decide) h3, keepD (by decide) h4, keepD (by decide) h5, keepD (by decide) h6, keepD (by decide) h7, keepD (by decide) h8, keepD (by decide) h9, keepD (by decide) h10, keepD (by decide) h11, keepD (by decide) h12, keepD (by decide) h13, (fun h => by have := hD11 (by simpa using h); simpa using this), (fun h => by have := hD12 (by simpa using h); simpa using this), (fun h k => hN9_10 (by simpa using h) (by simpa using k)), hB⟩
    · skip
      have d0 := hdep _ rfl ⟨0, .data⟩ (by simp) rfl
      obtain rfl := h0 d0
      refine wpOp_step rfl (fun K' hK' => ?_)
      go_simp
      refine (Calls.mono (C1.out w' (hl.below hB) (hk.below hB)) ?_)
      rintro e W1 ⟨Xr, cr, Yr, dr, rfl, kr, lr, kb⟩
      refine hK' _ _ ?_
      exact ⟨_, _, _, _, _, _, _, _, _, _, _, _, rfl, keepD (by decide) h0, fun _ => ⟨Xr, cr, Yr, dr, rfl, kr, lr⟩, keepD (by decide) h2, keepP (by decide) h3 (fun h => h.below kb), keepD (by decide) h4, keepD (by decide) h5, keepD (by decide) h6, keepD (by decide) h7, keepD (by decide) h8, keepP (by decide) h9 (fun h => h.below kb), keepP (by decide) h10 (fun h => h.below kb), keepP (by decide) h11 (fun h => h.below kb), keepP (by decide) h12 (fun h => h.below kb), keepD (by decide) h13, (fun h => by have := hD11 (by simpa using h); simpa using this), (fun h => by have := hD12 (by simpa using h); simpa using this), (fun h k => hN9_10 (by simpa using h) (by simpa using k)), Below.cons hB kb⟩
    · skip
      refine wpOp_step rfl (fun K' hK' => ?_)
      go_simp
      refine hK' _ _ ?_
      exact ⟨_, _, _, _, _, _, _, _, _, _, _, _, rfl, keepD (by decide) h0, keepD (by decide) h1, fun _ => rfl, keepD (by decide) h3, keepD (by decide) h4, keepD (by decide) h5, keepD (by decide) h6, keepD (by decide) h7, keepD (by decide) h8, keepD (by decide) h9, keepD (by decide) h10, keepD (by decide) h11, keepD (by decide) h12, keepD (by decide) h13, (fun h => by have := hD11 (by simpa using h); simpa using this), (fun h => by have := hD12 (by simpa using h); simpa using this), (fun h k => hN9_10 (by simpa using h) (by simpa using k)), hB⟩
    · skip
      have d2 := hdep _ rfl ⟨2, .data⟩ (by simp) rfl
      obtain rfl := h2 d2
      refine wpOp_step rfl (fun K' hK' => ?_)
      go_simp
      refine (Calls.mono (C2.out w' (hm.below hB)) ?_)
      rintro e W1 ⟨Xr, cr, rfl, kr, kb⟩
      refine hK' _ _ ?_
      exact ⟨_, _, _, _, _, _, _, _, _, _, _, _, rfl, keepD (by decide) h0, keepP (by decide) h1 (fun h => h.below kb), keepD (by decide) h2, fun _ => ⟨Xr, cr, rfl, kr⟩, keepD (by decide) h4, keepD (by decide) h5, keepD (by decide) h6, keepD (by decide) h7, keepD (by decide) h8, keepP (by decide) h9 (fun h => h.below kb), keepP (by decide) h10 (fun h => h.below kb), keepP (by decide) h11 (fun h => h.below kb), keepP (by decide) h12 (fun h => h.below kb), keepD (by decide) h13, (fun h => by have := hD11 (by simpa using h); simpa using this), (fun h => by have := hD12 (by simpa using h); simpa using this), (fun h k => hN9_10 (by simpa using h) (by simpa using k)), Below.cons hB kb⟩
    · skip
      refine wpOp_step rfl (fun K' hK' => ?_)
      go_simp
      refine hK' _ _ ?_
      exact ⟨_, _, _, _, _, _, _, _, _, _, _, _, rfl, keepD (by decide) h0, keepD (by decide) h1, keepD (by decide) h2, keepD (by decide) h3, fun _ => rfl, keepD (by decide) h5, keepD (by decide) h6, keepD (by decide) h7, keepD (by decide) h8, keepD (by decide) h9, keepD (by decide) h10, keepD (by decide) h11, keepD (by decide) h12, keepD (by decide) h13, (fun h => by have := hD11 (by simpa using h); simpa using this), (fun h => by have := hD12 (by simpa using h); simpa using this), (fun h k => hN9_10 (by simpa using h) (by simpa using k)), hB⟩
    · skip
      have d4 := hdep _ rfl ⟨4, .data⟩ (by simp) rfl
      obtain rfl := h4 d4
      refine wpOp_step rfl (fun K' hK' => ?_)
      go_simp
      refine hK' _ _ ?_
      exact ⟨_, _, _, _, _, _, _, _, _, _, _, _, rfl, keepD (by decide) h0, keepD (by decide) h1, keepD (by decide) h2, keepD (by decide) h3, keepD (by decide) h4, fun _ => rfl, keepD (by decide) h6, keepD (by decide) h7, keepD (by decide) h8, keepD (by decide) h9, keepD (by decide) h10, keepD (by decide) h11, keepD (by decide) h12, keepD (by decide) h13, (fun h => by have := hD11 (by simpa using h); simpa using this), (fun h => by have := hD12 (by simpa using h); simpa using this), (fun h k => hN9_10 (by simpa using h) (by simpa using k)), hB⟩
    · skip
      have d5 := hdep _ rfl ⟨5, .data⟩ (by simp) rfl
      obtain rfl := h5 d5
      refine wpOp_step rfl (fun K' hK' => ?_)
      go_simp
      refine hK' _ _ ?_
      exact ⟨_, _, _, _, _, _, _, _, _, _, _, _, rfl, keepD (by decide) h0, keepD (by decide) h1, keepD (by decide) h2, keepD (by decide) h3, keepD (by decide) h4, keepD (by decide) h5, fun _ => rfl, keepD (by decide) h7, keepD (by decide) h8, keepD (by decide) h9, keepD (by decide) h10, keepD (by decide) h11, keepD (by decide) h12, keepD (by decide) h13, (fun h => by have := hD11 (by simpa using h); simpa using this), (fun h => by have := hD12 (by simpa using h); simpa using this), (fun h k => hN9_10 (by simpa using h) (by simpa using k)), hB⟩
    · skip
      have d6 := hdep _ rfl ⟨6, .data⟩ (by simp) rfl
      obtain rfl := h6 d6
      refine wpOp_step rfl (fun K' hK' => ?_)
      go_simp
      refine hK' _ _ ?_
      exact ⟨_, _, _, _, _, _, _, _, _, _, _, _, rfl, keepD (by decide) h0, keepD (by decide) h1, keepD (by decide) h2, keepD (by decide) h3, keepD (by decide) h4, keepD (by decide) h5, keepD (by decide) h6, fun _ => rfl, keepD (by decide) h8, keepD (by decide) h9, keepD (by decide) h10, keepD (by decide) h11, keepD (by decide) h12, keepD (by decide) h13, (fun h => by have := hD11 (by simpa using h); simpa using this), (fun h => by have := hD12 (by simpa using h); simpa using this), (fun h k => hN9_10 (by simpa using h) (by simpa using k)), hB⟩
    · skip
      have d7 := hdep _ rfl ⟨7, .data⟩ (by simp) rfl
      obtain rfl := h7 d7
      refine wpOp_step rfl (fun K' hK' => ?_)
      go_simp
      refine hK' _ _ ?_
      exact ⟨_, _, _, _, _, _, _, _, _, _, _, _, rfl, keepD (by decide) h0, keepD (by decide) h1, keepD (by decide) h2, keepD (by decide) h3, keepD (by decide) h4, keepD (by decide) h5, keepD (by decide) h6, keepD (by decide) h7, fun _ => rfl, keepD (by decide) h9, keepD (by decide) h10, keepD (by decide) h11, keepD (by decide) h12, keepD (by decide) h13, (fun h => by have := hD11 (by simpa using h); simpa using this), (fun h => by have := hD12 (by simpa using h); simpa using this), (fun h k => hN9_10 (by simpa using h) (by simpa using k)), hB⟩
    · skip
      have kb : Below w'.heap.size w' (w'.alloc (.cells #[.bool false, .slice none 0 0, .slice none 0 0] 26)) := (Below.refl _ _).alloc (Nat.le_refl _) _
      refine wpOp_step rfl (fun K' hK' => ?_)
      go_simp
      refine hK' _ _ ?_
      exact ⟨_, _, _, _, _, _, _, _, _, _, _, _, rfl, keepD (by decide) h0, keepP (by decide) h1 (fun h => h.below kb), keepD (by decide) h2, keepP (by decide) h3 (fun h => h.below kb), keepD (by decide) h4, keepD (by decide) h5, keepD (by decide) h6, keepD (by decide) h7, keepD (by decide) h8, fun _ => ⟨_, _, _, _, rfl, hB.size, ⟨at_new rfl⟩, notU_bool _, notU_slice _ _ _, notU_slice _ _ _⟩, keepP (by decide) h10 (fun h => h.below kb), (fun h => by have h2 := hD11 (by simpa using h); rw [hEi] at h2; cases h2), keepP (by decide) h12 (fun h => h.below kb), keepD (by decide) h13, (fun _ => by simp), (fun h => by have := hD12 (by simpa using h); simpa using this), (fun _ h => by obtain ⟨n2, e2, l2⟩ := (h10 (by simpa using h)).lt; rw [e2]; intro e3; simp at e3 <;> omega), Below.cons hB kb⟩
    · skip
      have kb : Below w'.heap.size w' (w'.alloc (.cells #[.bool false, .slice none 0 0, .int .i64 0] 28)) := (Below.refl _ _).alloc (Nat.le_refl _) _
      refine wpOp_step rfl (fun K' hK' => ?_)
      go_simp
      refine hK' _ _ ?_
      exact ⟨_, _, _, _, _, _, _, _, _, _, _, _, rfl, keepD (by decide) h0, keepP (by decide) h1 (fun h => h.below kb), keepD (by decide) h2, keepP (by decide) h3 (fun h => h.below kb), keepD (by decide) h4, keepD (by decide) h5, keepD (by decide) h6, keepD (by decide) h7, keepD (by decide) h8, keepP (by decide) h9 (fun h => h.below kb), fun _ => ⟨_, _, _, _, rfl, hB.size, ⟨at_new rfl⟩, notU_bool _, notU_slice _ _ _, notU_i64 _⟩, keepP (by decide) h11 (fun h => h.below kb), (fun h => by have h2 := hD12 (by simpa using h); rw [hEi] at h2; cases h2), keepD (by decide) h13, (fun h => by have := hD11 (by simpa using h); simpa using this), (fun _ => by simp), (fun h _ => by obtain ⟨n2, e2, l2⟩ := (h9 (by simpa using h)).lt; rw [e2]; intro e3; simp at e3 <;> omega), Below.cons hB kb⟩
    · skip
      have d9 := hdep _ rfl ⟨9, .data⟩ (by simp) rfl
      obtain ⟨nb, z0, z1, z2, rfl, hn, hb, nz0, nz1, nz2⟩ := h9 d9
      have d1 := hdep _ rfl ⟨1, .data⟩ (by simp) rfl
      obtain ⟨X_1, c_1, Y_1, d_1, rfl, k_1, l_1⟩ := h1 d1
      have fz0 := hb.f (i := 0)
      have cz0 := hb.c (i := 0) rfl
      have fz1 := hb.f (i := 1)
      have cz1 := hb.c (i := 1) rfl
      have fz2 := hb.f (i := 2)
      have cz2 := hb.c (i := 2) rfl
      have hp := hb.put3 (notU3 nz0 nz1 nz2) (.bool (sg v.num)) (.slice X_1 (nl (mg v.num)) c_1) (.slice Y_1 (nl v.den) d_1)
      have hs := hb.store3 (.bool (sg v.num)) (.slice X_1 (nl (mg v.num)) c_1) (.slice Y_1 (nl v.den) d_1)
      refine wpOp_step rfl (fun K' hK' => ?_)
      go_simp
      refine hK' _ _ ?_
      exact ⟨_, _, _, _, _, _, _, _, _, _, _, _, rfl, keepD (by decide) h0, keepP (by decide) h1 (fun h => h.put hp), keepD (by decide) h2, keepP (by decide) h3 (fun h => h.put hp), keepD (by decide) h4, keepD (by decide) h5, keepD (by decide) h6, keepD (by decide) h7, keepD (by decide) h8, (fun _ => ⟨nb, _, _, _, rfl, hn, hs, notU_bool _, notU_slice _ _ _, notU_slice _ _ _⟩), keepP' (by decide) h10 (fun e h => h.put hp (fun e3 => hN9_10 d9 (by simpa using e) e3.symm)), fun _ => ⟨nb, X_1, c_1, Y_1, d_1, rfl, hn, hs, hp.nat k_1, hp.nat l_1⟩, keepP' (by decide) h12 (fun e h => h.put hp (fun e3 => hN9_10 d9 (hD12 (by simpa using e)) e3.symm)), keepD (by decide) h13, (fun _ => by simp [d9]), (fun h => by have := hD12 (by simpa using h); simpa using this), (fun h k => hN9_10 (by simpa using h) (by simpa using k)), Below.store3 hB hn⟩
    · skip
      have d10 := hdep _ rfl ⟨10, .data⟩ (by simp) rfl
      obtain ⟨nb, z0, z1, z2, rfl, hn, hb, nz0, nz1, nz2⟩ := h10 d10
      have d3 := hdep _ rfl ⟨3, .data⟩ (by simp) rfl
      obtain ⟨X_3, c_3, rfl, k_3⟩ := h3 d3
      have fz0 := hb.f (i := 0)
      have cz0 := hb.c (i := 0) rfl
      have fz1 := hb.f (i := 1)
      have cz1 := hb.c (i := 1) rfl
      have fz2 := hb.f (i := 2)
      have cz2 := hb.c (i := 2) rfl
      have hp := hb.put3 (notU3 nz0 nz1 nz2) (.bool (sg (dmn w1))) (.slice X_3 (nl (mg (dmn w1))) c_3) (.int .i64 (dex w1))
      have hs := hb.store3 (.bool (sg (dmn w1))) (.slice X_3 (nl (mg (dmn w1))) c_3) (.int .i64 (dex w1))
      refine wpOp_step rfl (fun K' hK' => ?_)
      go_simp
      refine hK' _ _ ?_
      exact ⟨_, _, _, _, _, _, _, _, _, _, _, _, rfl, keepD (by decide) h0, keepP (by decide) h1 (fun h => h.put hp), keepD (by decide) h2, keepP (by decide) h3 (fun h => h.put hp), keepD (by decide) h4, keepD (by decide) h5, keepD (by decide) h6, keepD (by decide) h7, keepD (by decide) h8, keepP' (by decide) h9 (fun e h => h.put hp (hN9_10 (by simpa using e) d10)), (fun _ => ⟨nb, _, _, _, rfl, hn, hs, notU_bool _, notU_slice _ _ _, notU_i64 _⟩), keepP' (by decide) h11 (fun e h => h.put hp (hN9_10 (hD11 (by simpa using e)) d10)), fun _ => ⟨nb, X_3, c_3, rfl, hn, hs, hp.nat k_3⟩, keepD (by decide) h13, (fun h => by have := hD11 (by simpa using h); simpa using this), (fun _ => by simp [d10]), (fun h k => hN9_10 (by simpa using h) (by simpa using k)), Below.store3 hB hn⟩
    · skip
      have d8 := hdep _ rfl ⟨8, .data⟩ (by simp) rfl
      obtain rfl := h8 d8
      refine wpOp_step rfl (fun K' hK' => ?_)
      go_simp
      refine hK' _ _ ?_
      exact ⟨_, _, _, _, _, _, _, _, _, _, _, _, rfl, keepD (by decide) h0, keepD (by decide) h1, keepD (by decide) h2, keepD (by decide) h3, keepD (by decide) h4, keepD (by decide) h5, keepD (by decide) h6, keepD (by decide) h7, keepD (by decide) h8, keepD (by decide) h9, keepD (by decide) h10, keepD (by decide) h11, keepD (by decide) h12, fun _ => rfl, (fun h => by have := hD11 (by simpa using h); simpa using this), (fun h => by have := hD12 (by simpa using h); simpa using this), (fun h k => hN9_10 (by simpa using h) (by simpa using k)), hB⟩
  case fin =>
    rintro E a' w' ⟨u20, u21, u22, u23, u24, u25, u26, u27, u28, u8, u9, u10, rfl, h0, h1, h2, h3, h4, h5, h6, h7, h8, h9, h10, h11, h12, h13, hD11, hD12, hN9_10, hB⟩ hall
    obtain ⟨nbv, Xv, cv, Yv, dv, rfl, hnv, Rv, hv, gv⟩ := h11 (hall 11 (by simp))
    obtain ⟨nbw1, Xw1, cw1, rfl, hnw1, Rw1, hw1⟩ := h12 (hall 12 (by simp))
    replace hT := hT.below hB
    replace hl := hl.below hB
    replace hk := hk.below hB
    replace hm := hm.below hB
    replace Ra := Ra.below hB
    replace qa0 := cbl hB qa0
    replace qa1 := cbl hB qa1
    replace qa2 := cbl hB qa2
    replace Rb := Rb.below hB
    replace qb0 := cbl hB qb0
    replace qb1 := cbl hB qb1
    replace qb2 := cbl hB qb2
    replace Rx := Rx.below hB
    replace qx0 := cbl hB qx0
    replace qx1 := cbl hB qx1
    replace HBT := Below.cons HBT hB
    have kvv := hnv
    have qv0 := Rv.c (i := 0) rfl
    have qv1 := Rv.c (i := 1) rfl
    have qv2 := Rv.c (i := 2) rfl
    have kvw1 := hnw1
    have qw10 := Rw1.c (i := 0) rfl
    have qw11 := Rw1.c (i := 1) rfl
    have qw12 := Rw1.c (i := 2) rfl
    obtain rfl := h13 (hall 13 (by simp))
    go_wp2_with (fail)
    clear Ra
    clear Rb
    clear qa0
    clear qa1
    clear qa2
    clear qb0
    clear qb1
    clear qb2
    have sz := mul_sz v ((2 : Rat) ^ n)
    have sp := pow_szb n (E := 300) Bn
    obtain ⟨i, Ei⟩ : ∃ zq : Rat, zq = cutV v n x1 := ⟨_, rfl⟩
    have Oi : DB i 25 1100 := by rw [Ei]; exact (db_cut (l := 25) (E := 300) (by omega) Bn).mono (by decide) (by decide)
    have CT : Calls Tryz.prog 15 #[.agg #[.bool (sg v.num), .slice Xv (nl (mg v.num)) cv, .slice Yv (nl v.den) dv], .int .i64 n, .int .i64 x1] w' (RetDe w' i ck) := by rw [Ei]; rw [Eck.out]; exact dcutA_c Xv cv Yv dv v n x1 _ hv gv hT (by omega) (by omega) (by omega)
    replace Ei := Lib.hid Ei
    refine (Calls.mono CT ?_)
    clear CT
    rintro e W3 ⟨Xi, ci, rfl, hi, hb3⟩
    replace hT := hT.below hb3
    replace hl := hl.below hb3
    replace hk := hk.below hb3
    replace hm := hm.below hb3
    replace Rx := Rx.below hb3
    replace qx0 := cbl hb3 qx0
    replace qx1 := cbl hb3 qx1
    replace hv := hv.below hb3
    replace gv := gv.below hb3
    replace Rv := Rv.below hb3
    replace qv0 := cbl hb3 qv0
    replace qv1 := cbl hb3 qv1
    replace qv2 := cbl hb3 qv2
    replace hw1 := hw1.below hb3
    replace Rw1 := Rw1.below hb3
    replace qw10 := cbl hb3 qw10
    replace qw11 := cbl hb3 qw11
    replace qw12 := cbl hb3 qw12
    replace HBT := Below.cons HBT hb3
    clear hb3
    obtain ⟨hb4, Ri⟩ := bx1 W3 #[.bool (sg (dmn i)), .slice Xi (nl (mg (dmn i))) ci, .int .i64 (dex i)] 28
    replace hT := hT.below hb4
    replace hl := hl.below hb4
    replace hk := hk.below hb4
    replace hm := hm.below hb4
    replace Rx := Rx.below hb4
    replace qx0 := cbl hb4 qx0
    replace qx1 := cbl hb4 qx1
    replace hv := hv.below hb4
    replace gv := gv.below hb4
    replace Rv := Rv.below hb4
    replace qv0 := cbl hb4 qv0
    replace qv1 := cbl hb4 qv1
    replace qv2 := cbl hb4 qv2
    replace hw1 := hw1.below hb4
    replace Rw1 := Rw1.below hb4
    replace qw10 := cbl hb4 qw10
    replace qw11 := cbl hb4 qw11
    replace qw12 := cbl hb4 qw12
    replace hi := hi.below hb4
    replace HBT := Below.cons HBT hb4
    clear hb4
    have qi0 := Ri.c (i := 0) rfl
    have qi1 := Ri.c (i := 1) rfl
    have qi2 := Ri.c (i := 2) rfl
    go_wp2_with (fail)
    obtain ⟨j, Ej⟩ : ∃ zq : Rat, zq = cutV v n x1 := ⟨_, rfl⟩
    have CT : Calls Tryz.prog 16 #[.agg #[.bool (sg v.num), .slice Xv (nl (mg v.num)) cv, .slice Yv (nl v.den) dv], .int .i64 n, .int .i64 x1] (W3.alloc (.cells #[.bool (sg (dmn i)), .slice Xi (nl (mg (dmn i))) ci, .int .i64 (dex i)] 28)) (RetDe (W3.alloc (.cells #[.bool (sg (dmn i)), .slice Xi (nl (mg (dmn i))) ci, .int .i64 (dex i)] 28)) j ck) := by rw [Ej]; rw [Eck.out]; exact tcutA_c Xv cv Yv dv v n x1 _ hv gv (by omega) (by omega) (by omega)
    replace Ej := Lib.hid Ej
    refine (Calls.mono CT ?_)
    clear CT
    rintro e W5 ⟨Xj, cj, rfl, hj, hb5⟩
    replace hT := hT.below hb5
    replace hl := hl.below hb5
    replace hk := hk.below hb5
    replace hm := hm.below hb5
    replace Rx := Rx.below hb5
    replace qx0 := cbl hb5 qx0
    replace qx1 := cbl hb5 qx1
    replace hv := hv.below hb5
    replace gv := gv.below hb5
    replace Rv := Rv.below hb5
    replace qv0 := cbl hb5 qv0
    replace qv1 := cbl hb5 qv1
    replace qv2 := cbl hb5 qv2
    replace hw1 := hw1.below hb5
    replace Rw1 := Rw1.below hb5
    replace qw10 := cbl hb5 qw10
    replace qw11 := cbl hb5 qw11
    replace qw12 := cbl hb5 qw12
    replace hi := hi.below hb5
    replace Ri := Ri.below hb5
    replace qi0 := cbl hb5 qi0
    replace qi1 := cbl hb5 qi1
    replace qi2 := cbl hb5 qi2
    replace HBT := Below.cons HBT hb5
    clear hb5
    obtain ⟨hb6, Rj⟩ := bx1 W5 #[.bool (sg (dmn j)), .slice Xj (nl (mg (dmn j))) cj, .int .i64 (dex j)] 28
    replace hT := hT.below hb6
    replace hl := hl.below hb6
    replace hk := hk.below hb6
    replace hm := hm.below hb6
    replace Rx := Rx.below hb6
    replace qx0 := cbl hb6 qx0
    replace qx1 := cbl hb6 qx1
    replace hv := hv.below hb6
    replace gv := gv.below hb6
    replace Rv := Rv.below hb6
    replace qv0 := cbl hb6 qv0
    replace qv1 := cbl hb6 qv1
    replace qv2 := cbl hb6 qv2
    replace hw1 := hw1.below hb6
    replace Rw1 := Rw1.below hb6
    replace qw10 := cbl hb6 qw10
    replace qw11 := cbl hb6 qw11
    replace qw12 := cbl hb6 qw12
    replace hi := hi.below hb6
    replace Ri := Ri.below hb6
    replace qi0 := cbl hb6 qi0
    replace qi1 := cbl hb6 qi1
    replace qi2 := cbl hb6 qi2
    replace hj := hj.below hb6
    replace HBT := Below.cons HBT hb6
    clear hb6
    have qj0 := Rj.c (i := 0) rfl
    have qj1 := Rj.c (i := 1) rfl
    have qj2 := Rj.c (i := 2) rfl
    go_wp2_with (fail)
    have sw := db_sz Ow1
    have lw := Ow1.l
    have sz2 := mul_sz w1 ((2 : Rat) ^ n)
    obtain ⟨p, Ep⟩ : ∃ zq : Rat, zq = cutV w1 n x1 := ⟨_, rfl⟩
    have Op : DB p 40 2000 := by rw [Ep]; exact (db_cut (l := 40) (E := 300) (by omega) Bn).mono (by decide) (by decide)
    have CT : Calls Tryz.prog 17 #[.agg #[.bool (sg (dmn w1)), .slice Xw1 (nl (mg (dmn w1))) cw1, .int .i64 (dex w1)], .int .i64 n, .int .i64 x1] (W5.alloc (.cells #[.bool (sg (dmn j)), .slice Xj (nl (mg (dmn j))) cj, .int .i64 (dex j)] 28)) (RetDe (W5.alloc (.cells #[.bool (sg (dmn j)), .slice Xj (nl (mg (dmn j))) cj, .int .i64 (dex j)] 28)) p ck) := by rw [Ep]; rw [Eck.out]; exact droundA_c Xw1 cw1 w1 n x1 _ hw1 hT (Ow1.ok (by decide) (by decide)) (by omega)
    replace Ep := Lib.hid Ep
    refine (Calls.mono CT ?_)
    clear CT
    rintro e W7 ⟨Xp, cp, rfl, hp, hb7⟩
    replace hT := hT.below hb7
    replace hl := hl.below hb7
    replace hk := hk.below hb7
    replace hm := hm.below hb7
    replace Rx := Rx.below hb7
    replace qx0 := cbl hb7 qx0
    replace qx1 := cbl hb7 qx1
    replace hv := hv.below hb7
    replace gv := gv.below hb7
    replace Rv := Rv.below hb7
    replace qv0 := cbl hb7 qv0
    replace qv1 := cbl hb7 qv1
    replace qv2 := cbl hb7 qv2
    replace hw1 := hw1.below hb7
    replace Rw1 := Rw1.below hb7
    replace qw10 := cbl hb7 qw10
    replace qw11 := cbl hb7 qw11
    replace qw12 := cbl hb7 qw12
    replace hi := hi.below hb7
    replace Ri := Ri.below hb7
    replace qi0 := cbl hb7 qi0
    replace qi1 := cbl hb7 qi1
    replace qi2 := cbl hb7 qi2
    replace hj := hj.below hb7
    replace Rj := Rj.below hb7
    replace qj0 := cbl hb7 qj0
    replace qj1 := cbl hb7 qj1
    replace qj2 := cbl hb7 qj2
    replace HBT := Below.cons HBT hb7
    clear hb7
    obtain ⟨hb8, Rp⟩ := bx1 W7 #[.bool (sg (dmn p)), .slice Xp (nl (mg (dmn p))) cp, .int .i64 (dex p)] 28
    replace hT := hT.below hb8
    replace hl := hl.below hb8
    replace hk := hk.below hb8
    replace hm := hm.below hb8
    replace Rx := Rx.below hb8
    replace qx0 := cbl hb8 qx0
    replace qx1 := cbl hb8 qx1
    replace hv := hv.below hb8
    replace gv := gv.below hb8
    replace Rv := Rv.below hb8
    replace qv0 := cbl hb8 qv0
    replace qv1 := cbl hb8 qv1
    replace qv2 := cbl hb8 qv2
    replace hw1 := hw1.below hb8
    replace Rw1 := Rw1.below hb8
    replace qw10 := cbl hb8 qw10
    replace qw11 := cbl hb8 qw11
    replace qw12 := cbl hb8 qw12
    replace hi := hi.below hb8
    replace Ri := Ri.below hb8
    replace qi0 := cbl hb8 qi0
    replace qi1 := cbl hb8 qi1
    replace qi2 := cbl hb8 qi2
    replace hj := hj.below hb8
    replace Rj := Rj.below hb8
    replace qj0 := cbl hb8 qj0
    replace qj1 := cbl hb8 qj1
    replace qj2 := cbl hb8 qj2
    replace hp := hp.below hb8
    replace HBT := Below.cons HBT hb8
    clear hb8
    have qp0 := Rp.c (i := 0) rfl
    have qp1 := Rp.c (i := 1) rfl
    have qp2 := Rp.c (i := 2) rfl
    go_wp2_with (fail)
    obtain ⟨q, Eq⟩ : ∃ zq : Rat, zq = cutV w1 n x1 := ⟨_, rfl⟩
    have CT : Calls Tryz.prog 18 #[.agg #[.bool (sg (dmn w1)), .slice Xw1 (nl (mg (dmn w1))) cw1, .int .i64 (dex w1)], .int .i64 n, .int .i64 x1] (W7.alloc (.cells #[.bool (sg (dmn p)), .slice Xp (nl (mg (dmn p))) cp, .int .i64 (dex p)] 28)) (RetDe (W7.alloc (.cells #[.bool (sg (dmn p)), .slice Xp (nl (mg (dmn p))) cp, .int .i64 (dex p)] 28)) q ck) := by rw [Eq]; rw [Eck.out]; exact troundA_c Xw1 cw1 w1 n x1 _ hw1 (Ow1.ok (by decide) (by decide)) (by omega) (by omega) (by omega)
    replace Eq := Lib.hid Eq
    refine (Calls.mono CT ?_)
    clear CT
    rintro e W9 ⟨Xq, cq, rfl, hq, hb9⟩
    replace hT := hT.below hb9
    replace hl := hl.below hb9
    replace hk := hk.below hb9
    replace hm := hm.below hb9
    replace Rx := Rx.below hb9
    replace qx0 := cbl hb9 qx0
    replace qx1 := cbl hb9 qx1
    replace hv := hv.below hb9
    replace gv := gv.below hb9
    replace Rv := Rv.below hb9
    replace qv0 := cbl hb9 qv0
    replace qv1 := cbl hb9 qv1
    replace qv2 := cbl hb9 qv2
    replace hw1 := hw1.below hb9
    replace Rw1 := Rw1.below hb9
    replace qw10 := cbl hb9 qw10
    replace qw11 := cbl hb9 qw11
    replace qw12 := cbl hb9 qw12
    replace hi := hi.below hb9
    replace Ri := Ri.below hb9
    replace qi0 := cbl hb9 qi0
    replace qi1 := cbl hb9 qi1
    replace qi2 := cbl hb9 qi2
    replace hj := hj.below hb9
    replace Rj := Rj.below hb9
    replace qj0 := cbl hb9 qj0
    replace qj1 := cbl hb9 qj1
    replace qj2 := cbl hb9 qj2
    replace hp := hp.below hb9
    replace Rp := Rp.below hb9
    replace qp0 := cbl hb9 qp0
    replace qp1 := cbl hb9 qp1
    replace qp2 := cbl hb9 qp2
    replace HBT := Below.cons HBT hb9
    clear hb9
    obtain ⟨hb10, Rq⟩ := bx1 W9 #[.bool (sg (dmn q)), .slice Xq (nl (mg (dmn q))) cq, .int .i64 (dex q)] 28
    replace hT := hT.below hb10
    replace hl := hl.below hb10
    replace hk := hk.below hb10
    replace hm := hm.below hb10
    replace Rx := Rx.below hb10
    replace qx0 := cbl hb10 qx0
    replace qx1 := cbl hb10 qx1
    replace hv := hv.below hb10
    replace gv := gv.below hb10
    replace Rv := Rv.below hb10
    replace qv0 := cbl hb10 qv0
    replace qv1 := cbl hb10 qv1
    replace qv2 := cbl hb10 qv2
    replace hw1 := hw1.below hb10
    replace Rw1 := Rw1.below hb10
    replace qw10 := cbl hb10 qw10
    replace qw11 := cbl hb10 qw11
    replace qw12 := cbl hb10 qw12
    replace hi := hi.below hb10
    replace Ri := Ri.below hb10
    replace qi0 := cbl hb10 qi0
    replace qi1 := cbl hb10 qi1
    replace qi2 := cbl hb10 qi2
    replace hj := hj.below hb10
    replace Rj := Rj.below hb10
    replace qj0 := cbl hb10 qj0
    replace qj1 := cbl hb10 qj1
    replace qj2 := cbl hb10 qj2
    replace hp := hp.below hb10
    replace Rp := Rp.below hb10
    replace qp0 := cbl hb10 qp0
    replace qp1 := cbl hb10 qp1
    replace qp2 := cbl hb10 qp2
    replace hq := hq.below hb10
    replace HBT := Below.cons HBT hb10
    clear hb10
    have qq0 := Rq.c (i := 0) rfl
    have qq1 := Rq.c (i := 1) rfl
    have qq2 := Rq.c (i := 2) rfl
    go_wp2_with (fail)
    have NS : nl (mg (w1 * (2 : Rat) ^ n).num) ≤ 1073741824 := by omega
    clear sz sp sz2
    clear Rv
    clear Ri
    clear Rj
    clear Rp
    clear Rq
    clear Rx
    clear Rw1
    have hd11 := drb ((W9.alloc (.cells #[.bool (sg (dmn q)), .slice Xq (nl (mg (dmn q))) cq, .int .i64 (dex q)] 28)))
    replace hT := hT.below hd11
    replace hl := hl.below hd11
    replace hk := hk.below hd11
    replace hm := hm.below hd11
    replace qx0 := cbl hd11 qx0
    replace qx1 := cbl hd11 qx1
    replace hv := hv.below hd11
    replace gv := gv.below hd11
    replace qv0 := cbl hd11 qv0
    replace qv1 := cbl hd11 qv1
    replace qv2 := cbl hd11 qv2
    replace hw1 := hw1.below hd11
    replace qw10 := cbl hd11 qw10
    replace qw11 := cbl hd11 qw11
    replace qw12 := cbl hd11 qw12
    replace hi := hi.below hd11
    replace qi0 := cbl hd11 qi0
    replace qi1 := cbl hd11 qi1
    replace qi2 := cbl hd11 qi2
    replace hj := hj.below hd11
    replace qj0 := cbl hd11 qj0
    replace qj1 := cbl hd11 qj1
    replace qj2 := cbl hd11 qj2
    replace hp := hp.below hd11
    replace qp0 := cbl hd11 qp0
    replace qp1 := cbl hd11 qp1
    replace qp2 := cbl hd11 qp2
    replace hq := hq.below hd11
    replace qq0 := cbl hd11 qq0
    replace qq1 := cbl hd11 qq1
    replace qq2 := cbl hd11 qq2
    replace HBT := Below.cons HBT hd11
    clear hd11
    replace qi0 : ((W9.alloc (.cells #[.bool (sg (dmn q)), .slice Xq (nl (mg (dmn q))) cq, .int .i64 (dex q)] 28))).drew.cell? ⟨W3.heap.size, 0, none⟩ = some (.bool (sg (dmn i))) := qi0
    replace qi1 : ((W9.alloc (.cells #[.bool (sg (dmn q)), .slice Xq (nl (mg (dmn q))) cq, .int .i64 (dex q)] 28))).drew.cell? ⟨W3.heap.size, 1, none⟩ = some (.slice Xi (nl (mg (dmn i))) ci) := qi1
    replace qi2 : ((W9.alloc (.cells #[.bool (sg (dmn q)), .slice Xq (nl (mg (dmn q))) cq, .int .i64 (dex q)] 28))).drew.cell? ⟨W3.heap.size, 2, none⟩ = some (.int .i64 (dex i)) := qi2
    replace qj0 : ((W9.alloc (.cells #[.bool (sg (dmn q)), .slice Xq (nl (mg (dmn q))) cq, .int .i64 (dex q)] 28))).drew.cell? ⟨W5.heap.size, 0, none⟩ = some (.bool (sg (dmn j))) := qj0
    replace qj1 : ((W9.alloc (.cells #[.bool (sg (dmn q)), .slice Xq (nl (mg (dmn q))) cq, .int .i64 (dex q)] 28))).drew.cell? ⟨W5.heap.size, 1, none⟩ = some (.slice Xj (nl (mg (dmn j))) cj) := qj1
    replace qj2 : ((W9.alloc (.cells #[.bool (sg (dmn q)), .slice Xq (nl (mg (dmn q))) cq, .int .i64 (dex q)] 28))).drew.cell? ⟨W5.heap.size, 2, none⟩ = some (.int .i64 (dex j)) := qj2
    replace qp0 : ((W9.alloc (.cells #[.bool (sg (dmn q)), .slice Xq (nl (mg (dmn q))) cq, .int .i64 (dex q)] 28))).drew.cell? ⟨W7.heap.size, 0, none⟩ = some (.bool (sg (dmn p))) := qp0
    replace qp1 : ((W9.alloc (.cells #[.bool (sg (dmn q)), .slice Xq (nl (mg (dmn q))) cq, .int .i64 (dex q)] 28))).drew.cell? ⟨W7.heap.size, 1, none⟩ = some (.slice Xp (nl (mg (dmn p))) cp) := qp1
    replace qp2 : ((W9.alloc (.cells #[.bool (sg (dmn q)), .slice Xq (nl (mg (dmn q))) cq, .int .i64 (dex q)] 28))).drew.cell? ⟨W7.heap.size, 2, none⟩ = some (.int .i64 (dex p)) := qp2
    replace qq0 : ((W9.alloc (.cells #[.bool (sg (dmn q)), .slice Xq (nl (mg (dmn q))) cq, .int .i64 (dex q)] 28))).drew.cell? ⟨W9.heap.size, 0, none⟩ = some (.bool (sg (dmn q))) := qq0
    replace qq1 : ((W9.alloc (.cells #[.bool (sg (dmn q)), .slice Xq (nl (mg (dmn q))) cq, .int .i64 (dex q)] 28))).drew.cell? ⟨W9.heap.size, 1, none⟩ = some (.slice Xq (nl (mg (dmn q))) cq) := qq1
    replace qq2 : ((W9.alloc (.cells #[.bool (sg (dmn q)), .slice Xq (nl (mg (dmn q))) cq, .int .i64 (dex q)] 28))).drew.cell? ⟨W9.heap.size, 2, none⟩ = some (.int .i64 (dex q)) := qq2
    replace qw10 : ((W9.alloc (.cells #[.bool (sg (dmn q)), .slice Xq (nl (mg (dmn q))) cq, .int .i64 (dex q)] 28))).drew.cell? ⟨nbw1, 0, none⟩ = some (.bool (sg (dmn w1))) := qw10
    replace qw11 : ((W9.alloc (.cells #[.bool (sg (dmn q)), .slice Xq (nl (mg (dmn q))) cq, .int .i64 (dex q)] 28))).drew.cell? ⟨nbw1, 1, none⟩ = some (.slice Xw1 (nl (mg (dmn w1))) cw1) := qw11
    replace qw12 : ((W9.alloc (.cells #[.bool (sg (dmn q)), .slice Xq (nl (mg (dmn q))) cq, .int .i64 (dex q)] 28))).drew.cell? ⟨nbw1, 2, none⟩ = some (.int .i64 (dex w1)) := qw12
    have C11_0 := fun (W : World) (A0 : Option Addr) (c0 : Nat) (A1 : Option Addr) (c1 : Nat) (h0 : NatV W A0 c0 (mg (dmn i))) (h1 : NatV W A1 c1 (mg (dmn j)))  => (show Calls Tryz.prog 19 #[.agg #[.bool (sg (dmn i)), .slice A0 (nl (mg (dmn i))) c0, .int .i64 (dex i)], .agg #[.bool (sg (dmn j)), .slice A1 (nl (mg (dmn j))) c1, .int .i64 (dex j)]] W (fun e w' => e = .returned (.bool true) ∧ Below W.heap.size W w') by exact tsameT_c A0 c0 i A1 c1 j W h0 h1 (Oi.ok (by decide) (by decide)) (by rw [Ei.out, Ej.out]))
    replace C11_0 := Lib.hid C11_0
    have C11_1 := fun (W : World) (A0 : Option Addr) (c0 : Nat) (A1 : Option Addr) (c1 : Nat) (h0 : NatV W A0 c0 (mg (dmn p))) (h1 : NatV W A1 c1 (mg (dmn q)))  => (show Calls Tryz.prog 19 #[.agg #[.bool (sg (dmn p)), .slice A0 (nl (mg (dmn p))) c0, .int .i64 (dex p)], .agg #[.bool (sg (dmn q)), .slice A1 (nl (mg (dmn q))) c1, .int .i64 (dex q)]] W (fun e w' => e = .returned (.bool true) ∧ Below W.heap.size W w') by exact tsameT_c A0 c0 p A1 c1 q W h0 h1 (Op.ok (by decide) (by decide)) (by rw [Ep.out, Eq.out]))
    replace C11_1 := Lib.hid C11_1
    obtain ⟨s1, Es1⟩ : ∃ zq : Int, zq = shf (dmn w1) (dex w1 + n) := ⟨_, rfl⟩
    have C11_2 := fun (W : World) (A0 : Option Addr) (c0 : Nat) (h0 : NatV W A0 c0 (mg (dmn w1)))  => (show Calls Tryz.prog 21 #[.agg #[.bool (sg (dmn w1)), .slice A0 (nl (mg (dmn w1))) c0, .int .i64 (dex w1)], .int .i64 n] W (RetI W s1) by rw [Es1]; exact dscaled_c A0 c0 w1 n W h0 (Ow1.ok (by decide) (by decide)) (by omega))
    replace Es1 := Lib.hid Es1
    replace C11_2 := Lib.hid C11_2
    obtain ⟨s2, Es2⟩ : ∃ zq : Int, zq = (w1 * (2 : Rat) ^ n).floor := ⟨_, rfl⟩
    have Ns2 : nl (mg s2) ≤ 1073741824 := by rw [Es2]; exact Nat.le_trans (nl_mono (floor_abs _)) NS
    have C11_3 := fun (W : World) (A0 : Option Addr) (c0 : Nat) (h0 : NatV W A0 c0 (mg (dmn w1)))  => (show Calls Tryz.prog 22 #[.agg #[.bool (sg (dmn w1)), .slice A0 (nl (mg (dmn w1))) c0, .int .i64 (dex w1)], .int .i64 n] W (RetI W s2) by rw [Es2]; exact tscaled_c A0 c0 w1 n W h0 (Ow1.ok (by decide) (by decide)) (by omega) (by omega) (by omega))
    replace Es2 := Lib.hid Es2
    replace C11_3 := Lib.hid C11_3
    have C11_4 := fun (W : World) (A : Option Addr) (c : Nat) (B : Option Addr) (d : Nat) (h1 : NatV W A c (mg s1)) (h2 : NatV W B d (mg s2)) => zsameT_c A c s1 B d s2 W h1 h2 (by rw [Es1.out, scaled_eq Ow1.d, ← Es2.out]; exact Ns2) (by rw [Es1.out, Es2.out, scaled_eq Ow1.d])
    replace C11_4 := Lib.hid C11_4
    go_region_held3 (fun W => W.cell? ⟨W3.heap.size, 0, none⟩ = some (.bool (sg (dmn i))) ∧ W.cell? ⟨W3.heap.size, 1, none⟩ = some (.slice Xi (nl (mg (dmn i))) ci) ∧ W.cell? ⟨W3.heap.size, 2, none⟩ = some (.int .i64 (dex i)) ∧ W.cell? ⟨W5.heap.size, 0, none⟩ = some (.bool (sg (dmn j))) ∧ W.cell? ⟨W5.heap.size, 1, none⟩ = some (.slice Xj (nl (mg (dmn j))) cj) ∧ W.cell? ⟨W5.heap.size, 2, none⟩ = some (.int .i64 (dex j)) ∧ W.cell? ⟨W7.heap.size, 0, none⟩ = some (.bool (sg (dmn p))) ∧ W.cell? ⟨W7.heap.size, 1, none⟩ = some (.slice Xp (nl (mg (dmn p))) cp) ∧ W.cell? ⟨W7.heap.size, 2, none⟩ = some (.int .i64 (dex p)) ∧ W.cell? ⟨W9.heap.size, 0, none⟩ = some (.bool (sg (dmn q))) ∧ W.cell? ⟨W9.heap.size, 1, none⟩ = some (.slice Xq (nl (mg (dmn q))) cq) ∧ W.cell? ⟨W9.heap.size, 2, none⟩ = some (.int .i64 (dex q)) ∧ W.cell? ⟨nbw1, 0, none⟩ = some (.bool (sg (dmn w1))) ∧ W.cell? ⟨nbw1, 1, none⟩ = some (.slice Xw1 (nl (mg (dmn w1))) cw1) ∧ W.cell? ⟨nbw1, 2, none⟩ = some (.int .i64 (dex w1)))
      (first
        | with_reducible exact ⟨qi0, qi1, qi2, qj0, qj1, qj2, qp0, qp1, qp2, qq0, qq1, qq2, qw10, qw11, qw12⟩
        | with_reducible exact ⟨qi0_12, qi1_12, qi2_12, qj0_12, qj1_12, qj2_12, qp0_12, qp1_12, qp2_12, qq0_12, qq1_12, qq2_12, qw10_12, qw11_12, qw12_12⟩
        | with_reducible exact ⟨qi0_13, qi1_13, qi2_13, qj0_13, qj1_13, qj2_13, qp0_13, qp1_13, qp2_13, qq0_13, qq1_13, qq2_13, qw10_13, qw11_13, qw12_13⟩
        | with_reducible exact ⟨qi0_14, qi1_14, qi2_14, qj0_14, qj1_14, qj2_14, qp0_14, qp1_14, qp2_14, qq0_14, qq1_14, qq2_14, qw10_14, qw11_14, qw12_14⟩
        | with_reducible exact ⟨qi0_15, qi1_15, qi2_15, qj0_15, qj1_15, qj2_15, qp0_15, qp1_15, qp2_15, qq0_15, qq1_15, qq2_15, qw10_15, qw11_15, qw12_15⟩
        | with_reducible exact ⟨qi0_16, qi1_16, qi2_16, qj0_16, qj1_16, qj2_16, qp0_16, qp1_16, qp2_16, qq0_16, qq1_16, qq2_16, qw10_16, qw11_16, qw12_16⟩
        | go_keep)
      (first
        | (go_at_call 19; (with_reducible refine (C11_0.out _ _ _ _ _ hi hj ).mono ?_); rintro e W12 ⟨rfl, hb12⟩; have hT_12 := hT.below hb12; have hl_12 := hl.below hb12; have hk_12 := hk.below hb12; have hm_12 := hm.below hb12; have qx0_12 := cbl hb12 qx0; have qx1_12 := cbl hb12 qx1; have hv_12 := hv.below hb12; have gv_12 := gv.below hb12; have qv0_12 := cbl hb12 qv0; have qv1_12 := cbl hb12 qv1; have qv2_12 := cbl hb12 qv2; have hw1_12 := hw1.below hb12; have qw10_12 := cbl hb12 qw10; have qw11_12 := cbl hb12 qw11; have qw12_12 := cbl hb12 qw12; have hi_12 := hi.below hb12; have qi0_12 := cbl hb12 qi0; have qi1_12 := cbl hb12 qi1; have qi2_12 := cbl hb12 qi2; have hj_12 := hj.below hb12; have qj0_12 := cbl hb12 qj0; have qj1_12 := cbl hb12 qj1; have qj2_12 := cbl hb12 qj2; have hp_12 := hp.below hb12; have qp0_12 := cbl hb12 qp0; have qp1_12 := cbl hb12 qp1; have qp2_12 := cbl hb12 qp2; have hq_12 := hq.below hb12; have qq0_12 := cbl hb12 qq0; have qq1_12 := cbl hb12 qq1; have qq2_12 := cbl hb12 qq2; have HBT_12 := Below.cons HBT hb12)
        | (go_at_call 19; (with_reducible refine (C11_1.out _ _ _ _ _ hp_12 hq_12 ).mono ?_); rintro e W13 ⟨rfl, hb13⟩; have hT_13 := hT_12.below hb13; have hl_13 := hl_12.below hb13; have hk_13 := hk_12.below hb13; have hm_13 := hm_12.below hb13; have qx0_13 := cbl hb13 qx0_12; have qx1_13 := cbl hb13 qx1_12; have hv_13 := hv_12.below hb13; have gv_13 := gv_12.below hb13; have qv0_13 := cbl hb13 qv0_12; have qv1_13 := cbl hb13 qv1_12; have qv2_13 := cbl hb13 qv2_12; have hw1_13 := hw1_12.below hb13; have qw10_13 := cbl hb13 qw10_12; have qw11_13 := cbl hb13 qw11_12; have qw12_13 := cbl hb13 qw12_12; have qi0_13 := cbl hb13 qi0_12; have qi1_13 := cbl hb13 qi1_12; have qi2_13 := cbl hb13 qi2_12; have qj0_13 := cbl hb13 qj0_12; have qj1_13 := cbl hb13 qj1_12; have qj2_13 := cbl hb13 qj2_12; have hp_13 := hp_12.below hb13; have qp0_13 := cbl hb13 qp0_12; have qp1_13 := cbl hb13 qp1_12; have qp2_13 := cbl hb13 qp2_12; have hq_13 := hq_12.below hb13; have qq0_13 := cbl hb13 qq0_12; have qq1_13 := cbl hb13 qq1_12; have qq2_13 := cbl hb13 qq2_12; have HBT_13 := Below.cons HBT_12 hb13)
        | (go_at_call 21; (with_reducible refine (C11_2.out _ _ _ hw1_13 ).mono ?_); rintro e W14 ⟨Xs1, cs1, rfl, hs1, hb14⟩; have hT_14 := hT_13.below hb14; have hl_14 := hl_13.below hb14; have hk_14 := hk_13.below hb14; have hm_14 := hm_13.below hb14; have qx0_14 := cbl hb14 qx0_13; have qx1_14 := cbl hb14 qx1_13; have hv_14 := hv_13.below hb14; have gv_14 := gv_13.below hb14; have qv0_14 := cbl hb14 qv0_13; have qv1_14 := cbl hb14 qv1_13; have qv2_14 := cbl hb14 qv2_13; have hw1_14 := hw1_13.below hb14; have qw10_14 := cbl hb14 qw10_13; have qw11_14 := cbl hb14 qw11_13; have qw12_14 := cbl hb14 qw12_13; have qi0_14 := cbl hb14 qi0_13; have qi1_14 := cbl hb14 qi1_13; have qi2_14 := cbl hb14 qi2_13; have qj0_14 := cbl hb14 qj0_13; have qj1_14 := cbl hb14 qj1_13; have qj2_14 := cbl hb14 qj2_13; have qp0_14 := cbl hb14 qp0_13; have qp1_14 := cbl hb14 qp1_13; have qp2_14 := cbl hb14 qp2_13; have qq0_14 := cbl hb14 qq0_13; have qq1_14 := cbl hb14 qq1_13; have qq2_14 := cbl hb14 qq2_13; have HBT_14 := Below.cons HBT_13 hb14)
        | (go_at_call 22; (with_reducible refine (C11_3.out _ _ _ hw1_14 ).mono ?_); rintro e W15 ⟨Xs2, cs2, rfl, hs2, hb15⟩; have hT_15 := hT_14.below hb15; have hl_15 := hl_14.below hb15; have hk_15 := hk_14.below hb15; have hm_15 := hm_14.below hb15; have qx0_15 := cbl hb15 qx0_14; have qx1_15 := cbl hb15 qx1_14; have hv_15 := hv_14.below hb15; have gv_15 := gv_14.below hb15; have qv0_15 := cbl hb15 qv0_14; have qv1_15 := cbl hb15 qv1_14; have qv2_15 := cbl hb15 qv2_14; have hw1_15 := hw1_14.below hb15; have qw10_15 := cbl hb15 qw10_14; have qw11_15 := cbl hb15 qw11_14; have qw12_15 := cbl hb15 qw12_14; have qi0_15 := cbl hb15 qi0_14; have qi1_15 := cbl hb15 qi1_14; have qi2_15 := cbl hb15 qi2_14; have qj0_15 := cbl hb15 qj0_14; have qj1_15 := cbl hb15 qj1_14; have qj2_15 := cbl hb15 qj2_14; have qp0_15 := cbl hb15 qp0_14; have qp1_15 := cbl hb15 qp1_14; have qp2_15 := cbl hb15 qp2_14; have qq0_15 := cbl hb15 qq0_14; have qq1_15 := cbl hb15 qq1_14; have qq2_15 := cbl hb15 qq2_14; have hs1_15 := hs1.below hb15; have HBT_15 := Below.cons HBT_14 hb15)
        | (go_at_call 20; (with_reducible refine (C11_4.out _ _ _ _ _ hs1_15 hs2).mono ?_); rintro e W16 ⟨rfl, hb16⟩; have hT_16 := hT_15.below hb16; have hl_16 := hl_15.below hb16; have hk_16 := hk_15.below hb16; have hm_16 := hm_15.below hb16; have qx0_16 := cbl hb16 qx0_15; have qx1_16 := cbl hb16 qx1_15; have hv_16 := hv_15.below hb16; have gv_16 := gv_15.below hb16; have qv0_16 := cbl hb16 qv0_15; have qv1_16 := cbl hb16 qv1_15; have qv2_16 := cbl hb16 qv2_15; have hw1_16 := hw1_15.below hb16; have qw10_16 := cbl hb16 qw10_15; have qw11_16 := cbl hb16 qw11_15; have qw12_16 := cbl hb16 qw12_15; have qi0_16 := cbl hb16 qi0_15; have qi1_16 := cbl hb16 qi1_15; have qi2_16 := cbl hb16 qi2_15; have qj0_16 := cbl hb16 qj0_15; have qj1_16 := cbl hb16 qj1_15; have qj2_16 := cbl hb16 qj2_15; have qp0_16 := cbl hb16 qp0_15; have qp1_16 := cbl hb16 qp1_15; have qp2_16 := cbl hb16 qp2_15; have qq0_16 := cbl hb16 qq0_15; have qq1_16 := cbl hb16 qq1_15; have qq2_16 := cbl hb16 qq2_15; have hs1_16 := hs1_15.below hb16; have hs2_16 := hs2.below hb16; have HBT_16 := Below.cons HBT_15 hb16))
    all_goals (try go_wp2_with (fail))
    go_ret
    exact ⟨rfl, HBT_16⟩
end Go.Proofs.YtacjfpibilolnaaGreatDoor

set_option linter.unusedVariables false
set_option linter.unusedSimpArgs false
namespace Go.Proofs.YtacjfpibilolnaaGreatDoor
open Go.RowKit Go.ChangeShapes Go.WideShapes Go.ChangeAt

theorem dyadRounds_lifted (os : Os) (started : os.Started) (H : Type) (enc : TypeId × Value → H) :
    ReturnsInHanded {} Tryz.checked os 3 .any (fun w args => (Rows.dyadRoundsSpec.pre enc Tryz.prog Tryz.f3 [] false w args ∧ laidMetH Tryz.prog [("math/bits.deBruijn32tab", Rows.laid_math_bits_deBruijn32tab)] w) ∧ sizedMet enc Tryz.prog Tryz.f3 (OpenSpec.ofChange Rows.dyadRoundsSpec) false w args)
      (Rows.dyadRoundsSpec.post enc Tryz.prog Tryz.f3 false true false false) := by
  refine returnsInHanded_of_change_and (C := Tryz.checked) (X := fun w _ => laidMetH Tryz.prog [("math/bits.deBruijn32tab", Rows.laid_math_bits_deBruijn32tab)] w) (fun _ _ _ hh h => h.of_heap hh) row_own started (by kernel_rfl) Tryz.func3
    (ChangeSpec.witness_shaped (enc := enc) (C := Tryz.checked) (os := os) (X := fun w _ => laidMetH Tryz.prog [("math/bits.deBruijn32tab", Rows.laid_math_bits_deBruijn32tab)] w) false (World.doorLaid Tryz.prog 400 os) #[.agg #[.bool false, .slice none 0 0, .slice none 0 0], .agg #[.bool false, .slice none 0 0, .int .i64 0], .agg #[.int .i64 0, .int .i64 0]] 8 rfl (World.shaped_of_RefB (by kernel_rfl) (by kernel_rfl)) (by kernel_rfl) (by kernel_rfl) (by kernel_rfl) (door_met os _)) ?_
  intro W base args ds gs before hval0 hW _ _ hL _
  have hval : ∀ (j : Nat) t v, Tryz.f3.params[j]? = some t → args[j]? = some v → Value.okWide Tryz.prog W .any base t v := hval0
  have hW' := hW
  obtain ⟨p, q, hA0, hV, rfl, hfz, hnd⟩ := hW
  have hA : DataW.TrodAll enc Tryz.prog W 0 (fun _ => true) true Tryz.f3.params.toList args.toList ds p := hA0
  rw [Tryz.params3] at hA hval
  obtain ⟨v0, vs0, d0, ds0, p0, q0, hargs, rfl, rfl, h0, r0⟩ := trodAll_cons hA
  obtain ⟨v1, vs1, d1, ds1, p1, q1, rfl, rfl, rfl, h1, r1⟩ := trodAll_cons r0
  obtain ⟨v2, vs2, d2, ds2, p2, q2, rfl, rfl, rfl, h2, r2⟩ := trodAll_cons r1
  obtain ⟨rfl, rfl, rfl⟩ := trodAll_nil r2
  obtain rfl : args = #[v0, v1, v2] := by cases args; simp_all
  obtain ⟨rfl, rfl⟩ := trodVars_none hV
  have hT := tab_of_laid hL
  have k0 := h0
  have lt0 : ∀ x ∈ p0, x.block < W.heap.size := by obtain ⟨m, hm⟩ := k0; exact DataW.trod_lt m _ _ _ hm
  obtain ⟨b0, A0, c0, l0, B0, e0, m0, rfl, i0, j0⟩ := open_ra (hval 0 26 v0 rfl rfl) h0
  have k1 := h1
  have lt1 : ∀ x ∈ p1, x.block < W.heap.size := by obtain ⟨m, hm⟩ := k1; exact DataW.trod_lt m _ _ _ hm
  obtain ⟨b1, A1, c1, l1, x1, rfl, i1⟩ := open_dy (hval 1 28 v1 rfl rfl) h1
  have k2 := h2
  have lt2 : ∀ x ∈ p2, x.block < W.heap.size := by obtain ⟨m, hm⟩ := k2; exact DataW.trod_lt m _ _ _ hm
  obtain ⟨x2, y2, rfl⟩ := open_pi (hval 2 29 v2 rfl rfl) h2
  clear hA0 hval0 hval hL
  have hcall := dyadRounds_c b0 b1 x1 x2 y2 A0 c0 l0 B0 e0 m0 A1 c1 l1 W hT i0.1 i0.2.1 i0.2.2.1 i0.2.2.2.1 i0.2.2.2.2 j0.1 j0.2.1 j0.2.2.1 j0.2.2.2.1 j0.2.2.2.2 i1.1 i1.2.1 i1.2.2.1 i1.2.2.2.1 i1.2.2.2.2
  refine hcall.mono fun e W' ⟨he, bel⟩ => ?_
  subst he
  exact ⟨_, rfl, _, _, _, [], _, [], hW', trodAll_mk1 (shut_bool Tryz.underlying4 _), (trodAll_cons_mk (Below.trod row_out (by kernel_rfl) (of_decide_eq_true (by kernel_rfl)) k0 bel lt0) (trodAll_cons_mk (Below.trod row_out (by kernel_rfl) (of_decide_eq_true (by kernel_rfl)) k1 bel lt1) (trodAll_cons_mk (Below.trod row_out (by kernel_rfl) (of_decide_eq_true (by kernel_rfl)) k2 bel lt2) trodAll_mk0))), rfl, bel.frame _, fun h => by cases h⟩
theorem dyadRounds_holds : Rows.DyadRoundsSaid :=
  OpenClaim.holds_of_wide 3 Tryz.f3 rfl rfl rfl rfl rfl rfl rfl ⟨rfl, rfl, rfl, rfl, rfl⟩ rfl rfl rfl rfl rfl (by kernel_rfl) Tryz.func3 (by kernel_rfl)
    (of_decide_eq_true (by kernel_rfl)) (by unfold Func.isWrapper; first | (rw [if_pos (by decide +kernel)]; kernel_rfl) | (rw [if_neg (by decide +kernel)]; exact ⟨rfl, rfl⟩))
    (fun os started H enc _ => dyadRounds_lifted os started H enc)

/-- The card, tied to the program's text. -/
theorem dyadRounds_card : Rows.DyadRoundsCardSaid :=
  Claim7.holds_tied_plain_at .later [] [.data] true (true, "c40366035f47d3ac072167c9252c36368376323eeb282c459406779c221647a3") false
    dyadRounds_holds (fun _ h => by cases h) (by kernel_rfl) (fun _ h => by cases h) dyadRounds_row_tie rfl ⟨rfl, rfl⟩ (by kernel_rfl) rfl
    (fun f fn hf hfn => by
      obtain rfl : f = 3 := Option.some.inj ((show Tryz.prog.funcNamed "ziggurat/zigguratlaw10.DyadRounds" = some 3 by kernel_rfl).symm.trans hf) |>.symm
      obtain rfl : fn = Tryz.f3 := (Option.some.inj (Tryz.func3.symm.trans hfn)).symm
      exact ⟨by kernel_rfl, fun j t ht => by
        rw [Tryz.params3] at ht
        have hm : t ∈ [26, 28, 29] := by simpa using Array.mem_of_getElem? ht
        have hall : ([26, 28, 29].all fun u => !Tryz.prog.wantsStandIn u) = true := by kernel_rfl
        exact (show Tryz.prog.wantsStandIn t = false by simpa using List.all_eq_true.1 hall t hm)⟩)
    (by kernel_rfl)
#print axioms dyadRounds_card
end Go.Proofs.YtacjfpibilolnaaGreatDoor
