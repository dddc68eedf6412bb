/- For all inputs whether any dyadic number is right, and what two of them make, is as the document says: DyadTells returns true and leaves its arguments as they were. Conditions: Each package-level variable that the row lists (math/bits.deBruijn32tab and ntt.fields) holds at the call what the text lays; the tie is given and covers the pruned copy of the repository. -/
import Derived.Test.YthcmoimlnhghcaaGreatDoorD06
import Derived.Test.YthcmoimlnhghcaaGreatDoorD05
import Derived.Test.YthcmoimlnhghcaaGreatDoorD04
import Derived.Test.YthcmoimlnhghcaaGreatDoorCards
import Derived.Test.YthcmoimlnhghcaaGreatDoorTie
import Derived.SevenTiedAt
set_option maxRecDepth 100000
set_option maxHeartbeats 4000000
set_option linter.unusedVariables false
set_option linter.unusedSimpArgs false
namespace Go.Proofs.YthcmoimlnhghcaaGreatDoor
open Go.RowKit Go.Shelf
attribute [local go_sem] max2_i min2_i max_two min_two

theorem half_pow : (2 : Rat) ^ (-1 : Int) = 1 / 2 := by decide +kernel
theorem PB3.far {t : TypeId} {n0 : Nat} {u u2 : Value} {W W' : World} (h : PB3 t n0 u W) (hk : ∀ k, k < W.heap.size → (∀ nb, u2 = .slice (some ⟨nb, 0, none⟩) 0 0 → k ≠ nb) → W'.heap[k]? = W.heap[k]?) (hE : PE n0 u2 W) : PB3 t n0 u W' := by
  obtain ⟨nb, z0, z1, z2, rfl, h1, h2, h3⟩ := h
  obtain ⟨eb, rfl, h4, h5⟩ := hE
  refine ⟨nb, z0, z1, z2, rfl, h1, ⟨(hk nb h2.lt (fun m hm => ?_)).trans h2.at_⟩, h3⟩
  simp only [Value.slice.injEq, Option.some.injEq, Addr.mk.injEq, and_true, true_and] at hm
  subst hm
  intro e
  rw [e] at h2
  have h6 := h2.at_
  rw [h5] at h6
  simp at h6
theorem PE.put {n0 : Nat} {u : Value} {W W' : World} {k : Nat} {t : TypeId} {us : Array Value} (h : PE n0 u W) (hb : BoxA W k t us) (hu : 0 < us.size) (hp : Put W W' k) : PE n0 u W' := by
  obtain ⟨nb, h1, h2, h3⟩ := h
  refine ⟨nb, h1, h2, (hp.far nb (fun e => ?_)).trans h3⟩
  rw [e, hb.at_] at h3
  simp at h3
  have := h3.1
  subst this
  simp at hu
theorem min_take (l : List Nat) (m : Nat) : (l.take m).length = min l.length m := by rw [List.length_take, Nat.min_comm]
theorem dyadTells_c (sa sb : Bool) (xa xb ee : Int) (A : Option Addr) (c : Nat) (l : List Nat) (B : Option Addr) (d : Nat) (k : List Nat) (w : World) (hT : Tab w) (hG : Flds w) (hl : Rd w A l) (Ll : Lim l) (Ql : l.length ≤ maxLen) (Cl : l.length ≤ c) (Zl : A = none → c = 0) (hk : Rd w B k) (Lk : Lim k) (Qk : k.length ≤ maxLen) (Ck : k.length ≤ d) (Zk : B = none → d = 0) (he : -32768 ≤ ee ∧ ee ≤ 32767) :
    Calls Tryz.prog 3 #[.agg #[.bool sa, .slice A l.length c, .int .i64 xa], .agg #[.bool sb, .slice B k.length d, .int .i64 xb], .int .i16 ee] w fun e w' => e = .returned (.bool true) ∧ Below w.heap.size w w' := by
  replace Zl := Lib.hid Zl
  replace Zk := Lib.hid Zk
  have hT0 := hT
  have hG0 := hG
  have hl0 := hl
  have hk0 := hk
  obtain ⟨e0, e1⟩ := he
  have We : IntKind.i64.wrap ee = ee := IntWalk.i64_in _ (by omega)
  obtain ⟨l2, El⟩ : ∃ z, z = l.take 20 := ⟨_, rfl⟩
  have Ll2 : Lim l2 := by rw [El]; exact Ll.take 20
  have hm2 : l2.length = min l.length 20 := by rw [El]; exact min_take l 20
  obtain ⟨m2, Em⟩ : ∃ z, z = l2.length := ⟨_, rfl⟩
  rw [← Em] at hm2
  have m20 : m2 ≤ 20 := by omega
  have Im : min (l.length : Int) 20 = (m2 : Int) := by omega
  have m2l : m2 ≤ l.length := by omega
  have m2c : m2 ≤ c := by omega
  obtain ⟨rb, RR⟩ := raw_right sa l2 Ll2 (by omega) xa
  rw [← Em] at RR
  have hA2 : A = none → l2 = [] := fun e => by have h1 := Zl.out e; exact List.eq_nil_of_length_eq_zero (by omega)
  have hR2 : ∀ W, Rd W A l → Rd W A l2 := fun W h => by rw [El]; exact h.take 20
  replace El := Lib.hid El
  replace Em := Lib.hid Em
  replace hm2 := Lib.hid hm2
  replace RR := Lib.hid RR
  replace hA2 := Lib.hid hA2
  replace hR2 := Lib.hid hR2
  replace Ll2 := Lib.hid Ll2
  obtain ⟨x, Ex⟩ : ∃ z : Rat, z = dval (ival sa (val (l.take 10))) (cutE xa) := ⟨_, rfl⟩
  have Ox : DB x 10 520 := by rw [Ex]; exact db_val (E := 200) (by rw [mg_ival]; exact made_nl l Ll 10) (cutE_bd xa)
  have C1 := fun (W : World) (h1 : Rd W A l) => tmadeI_c sa A c l xa 10 10 W h1 Ll Ql Cl Zl.out (by decide) rfl
  rw [← Ex] at C1
  replace Ex := Lib.hid Ex
  replace C1 := Lib.hid C1
  obtain ⟨y, Ey⟩ : ∃ z : Rat, z = dval (ival sb (val (k.take 10))) (cutE xb) := ⟨_, rfl⟩
  have Oy : DB y 10 520 := by rw [Ey]; exact db_val (E := 200) (by rw [mg_ival]; exact made_nl k Lk 10) (cutE_bd xb)
  have C2 := fun (W : World) (h1 : Rd W B k) => tmadeI_c sb B d k xb 10 10 W h1 Lk Qk Ck Zk.out (by decide) rfl
  rw [← Ey] at C2
  replace Ey := Lib.hid Ey
  replace C2 := Lib.hid C2
  obtain ⟨zm, Ezm⟩ : ∃ z : Int, z = ival sa (val (l.take 10)) := ⟨_, rfl⟩
  have Nzm : nl (mg zm) ≤ 10 := by rw [Ezm, mg_ival]; exact made_nl l Ll 10
  have C3 := fun (W : World) (h1 : Rd W A l) => zmadeI_c sa A c l 10 10 W h1 Ll Ql Cl Zl.out (by decide) rfl
  rw [← Ezm] at C3
  replace Ezm := Lib.hid Ezm
  replace C3 := Lib.hid C3
  obtain ⟨hb1, Ra, Rb⟩ := bx2 w #[.bool sa, .slice A l.length c, .int .i64 xa] 26 #[.bool sb, .slice B k.length d, .int .i64 xb] 26
  replace hT := hT.below hb1
  replace hG := hG.below hb1
  replace hl := hl.below hb1
  replace hk := hk.below hb1
  have HBT := hb1
  clear hb1
  have qa0 := Ra.c (i := 0) rfl
  have qa1 := Ra.c (i := 1) rfl
  have qa2 := Ra.c (i := 2) rfl
  have qb0 := Rb.c (i := 0) rfl
  have qb1 := Rb.c (i := 1) rfl
  have qb2 := Rb.c (i := 2) rfl
  go_enter Tryz.func3, Tryz.ntmps3
  go_wp2_with (fail)
  refine (Calls.mono (dhead_c _ hT) ?_)
  rintro e W2 ⟨rfl, hb2⟩
  replace hT := hT.below hb2
  replace hG := hG.below hb2
  replace hl := hl.below hb2
  replace hk := hk.below hb2
  replace Ra := Ra.below hb2
  replace qa0 := cbl hb2 qa0
  replace qa1 := cbl hb2 qa1
  replace qa2 := cbl hb2 qa2
  replace Rb := Rb.below hb2
  replace qb0 := cbl hb2 qb0
  replace qb1 := cbl hb2 qb1
  replace qb2 := cbl hb2 qb2
  replace HBT := Below.cons HBT hb2
  clear hb2
  go_wp2_with (fail)
  refine wp_region_inv (fun E a' w' => ∃ (u13 u14 u15 u16 u17 u18 u19 u20 u21 u22 u23 u24 u25 u26 u27 u28 u29 u30 u8 : Value),
    a' = { tmps := #[.agg #[.bool sa, .slice A l.length c, .int .i64 xa], .agg #[.bool sb, .slice B k.length d, .int .i64 xb], .int .i16 ee, .pointer (some ⟨w.heap.size, 0, none⟩), .pointer (some ⟨(w.heap.size + 1), 0, none⟩), undef, .bool false, .bool true, u8, undef, undef, undef, .bool true, u13, u14, u15, u16, u17, u18, u19, u20, u21, u22, u23, u24, u25, u26, u27, u28, u29, u30, undef, undef, undef, undef, undef, undef, undef, undef, undef, undef, undef, undef, undef, undef, undef, undef, undef, undef, undef, undef, undef, undef, undef, undef, undef, undef, undef, undef, undef, undef, undef, undef, undef, undef, undef, undef, undef, undef, undef, undef, undef, undef, undef, undef, undef, undef, undef, undef, undef, undef, undef, undef, undef, undef, undef, undef, undef, undef, undef, undef, undef, undef, undef, undef, undef, undef, undef, undef, undef, undef, undef, undef, undef, undef, undef, undef, undef, undef, undef, undef, undef, undef, undef, undef, undef, undef, undef, undef, undef, undef, undef, undef], defers := [] } ∧
    (E 0 = true → u13 = .pointer (some ⟨w.heap.size, 0, none⟩)) ∧
    (E 1 = true → u14 = .pointer (some ⟨w.heap.size, 0, none⟩)) ∧
    (E 2 = true → u15 = .bool sa) ∧
    (E 3 = true → E 13 = false → PE W2.heap.size u16 w') ∧
    (E 4 = true → u17 = .pointer (some ⟨w.heap.size, 0, none⟩)) ∧
    (E 5 = true → u18 = .pointer (some ⟨w.heap.size, 1, none⟩)) ∧
    (E 6 = true → u19 = .slice A l.length c) ∧
    (E 7 = true → u20 = .pointer (some ⟨w.heap.size, 0, none⟩)) ∧
    (E 8 = true → u21 = .pointer (some ⟨w.heap.size, 1, none⟩)) ∧
    (E 9 = true → u22 = .slice A l.length c) ∧
    (E 10 = true → u23 = .int .i64 l.length) ∧
    (E 11 = true → u24 = .int .i64 m2) ∧
    (E 12 = true → u25 = .slice A m2 c) ∧
    (E 13 = true → ∃ X d, u26 = .slice X m2 d ∧ PA l2 X d w') ∧
    (E 14 = true → ∃ X d, u27 = .agg #[.bool sa, .slice X m2 d] ∧ PA l2 X d w') ∧
    (E 15 = true → u28 = .pointer (some ⟨w.heap.size, 2, none⟩)) ∧
    (E 16 = true → u29 = .int .i64 xa) ∧
    (E 17 = true → ∃ X d, u30 = .agg #[.bool sa, .slice X m2 d, .int .i64 xa] ∧ PA l2 X d w') ∧
    (E 18 = true → PB3 26 W2.heap.size u8 w') ∧
    (E 19 = true → ∃ nb X d, u8 = .pointer (some ⟨nb, 0, none⟩) ∧ W2.heap.size ≤ nb ∧ BoxA w' nb 26 #[.bool sa, .slice X m2 d, .int .i64 xa] ∧ PA l2 X d w') ∧
    (E 19 = true → E 18 = true) ∧ (E 19 = true → E 13 = true) ∧ (E 13 = true → E 3 = true) ∧ (E 14 = true → E 13 = true) ∧ (E 17 = true → E 13 = true) ∧ W2.heap.size ≤ w'.heap.size ∧ Below W2.heap.size W2 w') (by kernel_rfl) (by kernel_rfl) ?init ?fin ?step
  case init => exact ⟨_, _, _, _, _, _, _, _, _, _, _, _, _, _, _, _, _, _, _, rfl, by simp, by simp, by simp, by simp, by simp, by simp, by simp, by simp, by simp, by simp, by simp, by simp, by simp, by simp, by simp, by simp, by simp, by simp, by simp, by simp, by simp, by simp, by simp, by simp, by simp, Nat.le_refl _, (Below.refl _ _).drew⟩
  case step =>
    rintro E a' w' i ⟨u13, u14, u15, u16, u17, u18, u19, u20, u21, u22, u23, u24, u25, u26, u27, u28, u29, u30, u8, rfl, h0, h1, h2, h3, h4, h5, h6, h7, h8, h9, h10, h11, h12, h13, h14, h15, h16, h17, h18, h19, i19_18, i19_13, i13_3, i14_13, i17_13, hsz, hB⟩ hi hEi hdep
    have qa0 := cbl hB qa0
    have qa1 := cbl hB qa1
    have qa2 := cbl hB qa2
    obtain rfl | rfl | rfl | rfl | rfl | rfl | rfl | rfl | rfl | rfl | rfl | rfl | rfl | rfl | rfl | rfl | rfl | rfl | rfl | rfl : i = 0 ∨ i = 1 ∨ i = 2 ∨ i = 3 ∨ i = 4 ∨ i = 5 ∨ i = 6 ∨ i = 7 ∨ i = 8 ∨ i = 9 ∨ i = 10 ∨ i = 11 ∨ i = 12 ∨ i = 13 ∨ i = 14 ∨ i = 15 ∨ i = 16 ∨ i = 17 ∨ i = 18 ∨ i = 19 := by simp at hi; omega
    · skip
      refine wpOp_step rfl (fun K' hK' => ?_)
      go_simp
      refine hK' _ _ ?_
      exact ⟨_, _, _, _, _, _, _, _, _, _, _, _, _, _, _, _, _, _, _, rfl, fun _ => rfl, kd h1, kd h2, (fun e e2 => h3 (by simpa using e) (by simpa using e2)), kd h4, kd h5, kd h6, kd h7, kd h8, kd h9, kd h10, kd h11, kd h12, kd h13, kd h14, kd h15, kd h16, kd h17, kd h18, kd h19, (fun e => by simpa using i19_18 (by simpa using e)), (fun e => by simpa using i19_13 (by simpa using e)), (fun e => by simpa using i13_3 (by simpa using e)), (fun e => by simpa using i14_13 (by simpa using e)), (fun e => by simpa using i17_13 (by simpa using e)), hsz, hB⟩
    · skip
      have d0 := hdep _ rfl ⟨0, .data⟩ (by simp) rfl
      obtain rfl := h0 d0
      refine wpOp_step rfl (fun K' hK' => ?_)
      go_simp
      refine hK' _ _ ?_
      exact ⟨_, _, _, _, _, _, _, _, _, _, _, _, _, _, _, _, _, _, _, rfl, kd h0, fun _ => rfl, kd h2, (fun e e2 => h3 (by simpa using e) (by simpa using e2)), kd h4, kd h5, kd h6, kd h7, kd h8, kd h9, kd h10, kd h11, kd h12, kd h13, kd h14, kd h15, kd h16, kd h17, kd h18, kd h19, (fun e => by simpa using i19_18 (by simpa using e)), (fun e => by simpa using i19_13 (by simpa using e)), (fun e => by simpa using i13_3 (by simpa using e)), (fun e => by simpa using i14_13 (by simpa using e)), (fun e => by simpa using i17_13 (by simpa using e)), hsz, hB⟩
    · skip
      have d1 := hdep _ rfl ⟨1, .data⟩ (by simp) rfl
      obtain rfl := h1 d1
      refine wpOp_step rfl (fun K' hK' => ?_)
      go_simp
      refine hK' _ _ ?_
      exact ⟨_, _, _, _, _, _, _, _, _, _, _, _, _, _, _, _, _, _, _, rfl, kd h0, kd h1, fun _ => rfl, (fun e e2 => h3 (by simpa using e) (by simpa using e2)), kd h4, kd h5, kd h6, kd h7, kd h8, kd h9, kd h10, kd h11, kd h12, kd h13, kd h14, kd h15, kd h16, kd h17, kd h18, kd h19, (fun e => by simpa using i19_18 (by simpa using e)), (fun e => by simpa using i19_13 (by simpa using e)), (fun e => by simpa using i13_3 (by simpa using e)), (fun e => by simpa using i14_13 (by simpa using e)), (fun e => by simpa using i17_13 (by simpa using e)), hsz, hB⟩
    · skip
      refine wpOp_step rfl (fun K' hK' => ?_)
      have kb : Below w'.heap.size w' (w'.alloc (.cells #[] 65)) := (Below.refl _ _).alloc (Nat.le_refl _) _
      go_simp
      refine hK' _ _ ?_
      exact ⟨_, _, _, _, _, _, _, _, _, _, _, _, _, _, _, _, _, _, _, rfl, kd h0, kd h1, kd h2, (fun _ _ => ⟨_, rfl, hsz, at_new rfl⟩), kd h4, kd h5, kd h6, kd h7, kd h8, kd h9, kd h10, kd h11, kd h12, kp h13 (fun ⟨X, d, e1, e2⟩ => ⟨X, d, e1, e2.below kb⟩), kp h14 (fun ⟨X, d, e1, e2⟩ => ⟨X, d, e1, e2.below kb⟩), kd h15, kd h16, kp h17 (fun ⟨X, d, e1, e2⟩ => ⟨X, d, e1, e2.below kb⟩), kp h18 (fun h => h.below kb), kp h19 (fun ⟨nb, X, d, e1, e2, e3, e4⟩ => ⟨nb, X, d, e1, e2, e3.below kb, e4.below kb⟩), (fun e => by simpa using i19_18 (by simpa using e)), (fun e => by simpa using i19_13 (by simpa using e)), (fun _ => by simp), (fun e => by simpa using i14_13 (by simpa using e)), (fun e => by simpa using i17_13 (by simpa using e)), Nat.le_trans hsz kb.size, Below.cons hB kb⟩
    · skip
      refine wpOp_step rfl (fun K' hK' => ?_)
      go_simp
      refine hK' _ _ ?_
      exact ⟨_, _, _, _, _, _, _, _, _, _, _, _, _, _, _, _, _, _, _, rfl, kd h0, kd h1, kd h2, (fun e e2 => h3 (by simpa using e) (by simpa using e2)), fun _ => rfl, kd h5, kd h6, kd h7, kd h8, kd h9, kd h10, kd h11, kd h12, kd h13, kd h14, kd h15, kd h16, kd h17, kd h18, kd h19, (fun e => by simpa using i19_18 (by simpa using e)), (fun e => by simpa using i19_13 (by simpa using e)), (fun e => by simpa using i13_3 (by simpa using e)), (fun e => by simpa using i14_13 (by simpa using e)), (fun e => by simpa using i17_13 (by simpa using e)), hsz, hB⟩
    · skip
      have d4 := hdep _ rfl ⟨4, .data⟩ (by simp) rfl
      obtain rfl := h4 d4
      refine wpOp_step rfl (fun K' hK' => ?_)
      go_simp
      refine hK' _ _ ?_
      exact ⟨_, _, _, _, _, _, _, _, _, _, _, _, _, _, _, _, _, _, _, rfl, kd h0, kd h1, kd h2, (fun e e2 => h3 (by simpa using e) (by simpa using e2)), kd h4, fun _ => rfl, kd h6, kd h7, kd h8, kd h9, kd h10, kd h11, kd h12, kd h13, kd h14, kd h15, kd h16, kd h17, kd h18, kd h19, (fun e => by simpa using i19_18 (by simpa using e)), (fun e => by simpa using i19_13 (by simpa using e)), (fun e => by simpa using i13_3 (by simpa using e)), (fun e => by simpa using i14_13 (by simpa using e)), (fun e => by simpa using i17_13 (by simpa using e)), hsz, hB⟩
    · skip
      have d5 := hdep _ rfl ⟨5, .data⟩ (by simp) rfl
      obtain rfl := h5 d5
      refine wpOp_step rfl (fun K' hK' => ?_)
      go_simp
      refine hK' _ _ ?_
      exact ⟨_, _, _, _, _, _, _, _, _, _, _, _, _, _, _, _, _, _, _, rfl, kd h0, kd h1, kd h2, (fun e e2 => h3 (by simpa using e) (by simpa using e2)), kd h4, kd h5, fun _ => rfl, kd h7, kd h8, kd h9, kd h10, kd h11, kd h12, kd h13, kd h14, kd h15, kd h16, kd h17, kd h18, kd h19, (fun e => by simpa using i19_18 (by simpa using e)), (fun e => by simpa using i19_13 (by simpa using e)), (fun e => by simpa using i13_3 (by simpa using e)), (fun e => by simpa using i14_13 (by simpa using e)), (fun e => by simpa using i17_13 (by simpa using e)), hsz, hB⟩
    · skip
      refine wpOp_step rfl (fun K' hK' => ?_)
      go_simp
      refine hK' _ _ ?_
      exact ⟨_, _, _, _, _, _, _, _, _, _, _, _, _, _, _, _, _, _, _, rfl, kd h0, kd h1, kd h2, (fun e e2 => h3 (by simpa using e) (by simpa using e2)), kd h4, kd h5, kd h6, fun _ => rfl, kd h8, kd h9, kd h10, kd h11, kd h12, kd h13, kd h14, kd h15, kd h16, kd h17, kd h18, kd h19, (fun e => by simpa using i19_18 (by simpa using e)), (fun e => by simpa using i19_13 (by simpa using e)), (fun e => by simpa using i13_3 (by simpa using e)), (fun e => by simpa using i14_13 (by simpa using e)), (fun e => by simpa using i17_13 (by simpa using e)), hsz, hB⟩
    · skip
      have d7 := hdep _ rfl ⟨7, .data⟩ (by simp) rfl
      obtain rfl := h7 d7
      refine wpOp_step rfl (fun K' hK' => ?_)
      go_simp
      refine hK' _ _ ?_
      exact ⟨_, _, _, _, _, _, _, _, _, _, _, _, _, _, _, _, _, _, _, rfl, kd h0, kd h1, kd h2, (fun e e2 => h3 (by simpa using e) (by simpa using e2)), kd h4, kd h5, kd h6, kd h7, fun _ => rfl, kd h9, kd h10, kd h11, kd h12, kd h13, kd h14, kd h15, kd h16, kd h17, kd h18, kd h19, (fun e => by simpa using i19_18 (by simpa using e)), (fun e => by simpa using i19_13 (by simpa using e)), (fun e => by simpa using i13_3 (by simpa using e)), (fun e => by simpa using i14_13 (by simpa using e)), (fun e => by simpa using i17_13 (by simpa using e)), hsz, hB⟩
    · skip
      have d8 := hdep _ rfl ⟨8, .data⟩ (by simp) rfl
      obtain rfl := h8 d8
      refine wpOp_step rfl (fun K' hK' => ?_)
      go_simp
      refine hK' _ _ ?_
      exact ⟨_, _, _, _, _, _, _, _, _, _, _, _, _, _, _, _, _, _, _, rfl, kd h0, kd h1, kd h2, (fun e e2 => h3 (by simpa using e) (by simpa using e2)), kd h4, kd h5, kd h6, kd h7, kd h8, fun _ => rfl, kd h10, kd h11, kd h12, kd h13, kd h14, kd h15, kd h16, kd h17, kd h18, kd h19, (fun e => by simpa using i19_18 (by simpa using e)), (fun e => by simpa using i19_13 (by simpa using e)), (fun e => by simpa using i13_3 (by simpa using e)), (fun e => by simpa using i14_13 (by simpa using e)), (fun e => by simpa using i17_13 (by simpa using e)), hsz, hB⟩
    · skip
      have d9 := hdep _ rfl ⟨9, .data⟩ (by simp) rfl
      obtain rfl := h9 d9
      refine wpOp_step rfl (fun K' hK' => ?_)
      go_simp
      refine hK' _ _ ?_
      exact ⟨_, _, _, _, _, _, _, _, _, _, _, _, _, _, _, _, _, _, _, rfl, kd h0, kd h1, kd h2, (fun e e2 => h3 (by simpa using e) (by simpa using e2)), kd h4, kd h5, kd h6, kd h7, kd h8, kd h9, fun _ => rfl, kd h11, kd h12, kd h13, kd h14, kd h15, kd h16, kd h17, kd h18, kd h19, (fun e => by simpa using i19_18 (by simpa using e)), (fun e => by simpa using i19_13 (by simpa using e)), (fun e => by simpa using i13_3 (by simpa using e)), (fun e => by simpa using i14_13 (by simpa using e)), (fun e => by simpa using i17_13 (by simpa using e)), hsz, hB⟩
    · skip
      have d10 := hdep _ rfl ⟨10, .data⟩ (by simp) rfl
      obtain rfl := h10 d10
      refine wpOp_step rfl (fun K' hK' => ?_)
      go_simp
      refine hK' _ _ ?_
      exact ⟨_, _, _, _, _, _, _, _, _, _, _, _, _, _, _, _, _, _, _, rfl, kd h0, kd h1, kd h2, (fun e e2 => h3 (by simpa using e) (by simpa using e2)), kd h4, kd h5, kd h6, kd h7, kd h8, kd h9, kd h10, fun _ => rfl, kd h12, kd h13, kd h14, kd h15, kd h16, kd h17, kd h18, kd h19, (fun e => by simpa using i19_18 (by simpa using e)), (fun e => by simpa using i19_13 (by simpa using e)), (fun e => by simpa using i13_3 (by simpa using e)), (fun e => by simpa using i14_13 (by simpa using e)), (fun e => by simpa using i17_13 (by simpa using e)), hsz, hB⟩
    · skip
      have d6 := hdep _ rfl ⟨6, .data⟩ (by simp) rfl
      obtain rfl := h6 d6
      have d11 := hdep _ rfl ⟨11, .data⟩ (by simp) rfl
      obtain rfl := h11 d11
      refine wpOp_step rfl (fun K' hK' => ?_)
      go_simp
      refine hK' _ _ ?_
      exact ⟨_, _, _, _, _, _, _, _, _, _, _, _, _, _, _, _, _, _, _, rfl, kd h0, kd h1, kd h2, (fun e e2 => h3 (by simpa using e) (by simpa using e2)), kd h4, kd h5, kd h6, kd h7, kd h8, kd h9, kd h10, kd h11, fun _ => rfl, kd h13, kd h14, kd h15, kd h16, kd h17, kd h18, kd h19, (fun e => by simpa using i19_18 (by simpa using e)), (fun e => by simpa using i19_13 (by simpa using e)), (fun e => by simpa using i13_3 (by simpa using e)), (fun e => by simpa using i14_13 (by simpa using e)), (fun e => by simpa using i17_13 (by simpa using e)), hsz, hB⟩
    · skip
      have d3 := hdep _ rfl ⟨3, .data⟩ (by simp) rfl
      have d12 := hdep _ rfl ⟨12, .data⟩ (by simp) rfl
      obtain rfl := h12 d12
      refine wpOp_step rfl (fun K' hK' => ?_)
      have hE3 := h3 d3 hEi
      have hRw := hR2.out _ (hl.below hB)
      have hx2 : Value.slice A m2 c = .slice A l2.length c := by rw [Em.out]
      refine wp_append_e _ (.tmp 16) (.tmp 25) (by rfl) W2.heap.size u16 hE3 (by rfl) A c l2 hRw hA2.out (by rw [← Em.out]; exact m20) (by rw [← hx2]; rfl) hsz ?_
      intro X d w2 hPA hk3 hbw
      have hB2 := hbw _ hB
      refine hK' _ _ ?_
      rw [← Em.out]
      exact ⟨_, _, _, _, _, _, _, _, _, _, _, _, _, _, _, _, _, _, _, rfl, kd h0, kd h1, kd h2, (fun _ e => by simp at e), kd h4, kd h5, kd h6, kd h7, kd h8, kd h9, kd h10, kd h11, kd h12, (fun _ => ⟨X, d, rfl, hPA⟩), (fun e => absurd (i14_13 (by simpa using e)) (by rw [hEi]; decide)), kd h15, kd h16, (fun e => absurd (i17_13 (by simpa using e)) (by rw [hEi]; decide)), kp h18 (fun h => h.far hk3 hE3), (fun e => absurd (i19_13 (by simpa using e)) (by rw [hEi]; decide)), (fun e => by simpa using i19_18 (by simpa using e)), (fun _ => by simp), (fun _ => by simpa using d3), (fun _ => by simp), (fun _ => by simp), hB2.size, hB2⟩
    · skip
      have d2 := hdep _ rfl ⟨2, .data⟩ (by simp) rfl
      obtain rfl := h2 d2
      have d13 := hdep _ rfl ⟨13, .data⟩ (by simp) rfl
      obtain ⟨X, d, rfl, hPA⟩ := h13 d13
      refine wpOp_step rfl (fun K' hK' => ?_)
      go_simp
      refine hK' _ _ ?_
      exact ⟨_, _, _, _, _, _, _, _, _, _, _, _, _, _, _, _, _, _, _, rfl, kd h0, kd h1, kd h2, (fun e e2 => h3 (by simpa using e) (by simpa using e2)), kd h4, kd h5, kd h6, kd h7, kd h8, kd h9, kd h10, kd h11, kd h12, kd h13, (fun _ => ⟨X, d, rfl, hPA⟩), kd h15, kd h16, kd h17, kd h18, kd h19, (fun e => by simpa using i19_18 (by simpa using e)), (fun e => by simpa using i19_13 (by simpa using e)), (fun e => by simpa using i13_3 (by simpa using e)), (fun _ => by simpa using d13), (fun e => by simpa using i17_13 (by simpa using e)), hsz, hB⟩
    · skip
      refine wpOp_step rfl (fun K' hK' => ?_)
      go_simp
      refine hK' _ _ ?_
      exact ⟨_, _, _, _, _, _, _, _, _, _, _, _, _, _, _, _, _, _, _, rfl, kd h0, kd h1, kd h2, (fun e e2 => h3 (by simpa using e) (by simpa using e2)), kd h4, kd h5, kd h6, kd h7, kd h8, kd h9, kd h10, kd h11, kd h12, kd h13, kd h14, fun _ => rfl, kd h16, kd h17, kd h18, kd h19, (fun e => by simpa using i19_18 (by simpa using e)), (fun e => by simpa using i19_13 (by simpa using e)), (fun e => by simpa using i13_3 (by simpa using e)), (fun e => by simpa using i14_13 (by simpa using e)), (fun e => by simpa using i17_13 (by simpa using e)), hsz, hB⟩
    · skip
      have d15 := hdep _ rfl ⟨15, .data⟩ (by simp) rfl
      obtain rfl := h15 d15
      refine wpOp_step rfl (fun K' hK' => ?_)
      go_simp
      refine hK' _ _ ?_
      exact ⟨_, _, _, _, _, _, _, _, _, _, _, _, _, _, _, _, _, _, _, rfl, kd h0, kd h1, kd h2, (fun e e2 => h3 (by simpa using e) (by simpa using e2)), kd h4, kd h5, kd h6, kd h7, kd h8, kd h9, kd h10, kd h11, kd h12, kd h13, kd h14, kd h15, fun _ => rfl, kd h17, kd h18, kd h19, (fun e => by simpa using i19_18 (by simpa using e)), (fun e => by simpa using i19_13 (by simpa using e)), (fun e => by simpa using i13_3 (by simpa using e)), (fun e => by simpa using i14_13 (by simpa using e)), (fun e => by simpa using i17_13 (by simpa using e)), hsz, hB⟩
    · skip
      have d14 := hdep _ rfl ⟨14, .data⟩ (by simp) rfl
      obtain ⟨X, d, rfl, hPA⟩ := h14 d14
      have d16 := hdep _ rfl ⟨16, .data⟩ (by simp) rfl
      obtain rfl := h16 d16
      refine wpOp_step rfl (fun K' hK' => ?_)
      go_simp
      refine hK' _ _ ?_
      exact ⟨_, _, _, _, _, _, _, _, _, _, _, _, _, _, _, _, _, _, _, rfl, kd h0, kd h1, kd h2, (fun e e2 => h3 (by simpa using e) (by simpa using e2)), kd h4, kd h5, kd h6, kd h7, kd h8, kd h9, kd h10, kd h11, kd h12, kd h13, kd h14, kd h15, kd h16, (fun _ => ⟨X, d, rfl, hPA⟩), kd h18, kd h19, (fun e => by simpa using i19_18 (by simpa using e)), (fun e => by simpa using i19_13 (by simpa using e)), (fun e => by simpa using i13_3 (by simpa using e)), (fun e => by simpa using i14_13 (by simpa using e)), (fun _ => by simpa using i14_13 d14), hsz, hB⟩
    · skip
      refine wpOp_step rfl (fun K' hK' => ?_)
      have kb : Below w'.heap.size w' (w'.alloc (.cells #[.bool false, .slice none 0 0, .int .i64 0] 26)) := (Below.refl _ _).alloc (Nat.le_refl _) _
      go_simp
      refine hK' _ _ ?_
      exact ⟨_, _, _, _, _, _, _, _, _, _, _, _, _, _, _, _, _, _, _, rfl, kd h0, kd h1, kd h2, (fun e e2 => (h3 (by simpa using e) (by simpa using e2)).below kb), kd h4, kd h5, kd h6, kd h7, kd h8, kd h9, kd h10, kd h11, kd h12, kp h13 (fun ⟨X, d, e1, e2⟩ => ⟨X, d, e1, e2.below kb⟩), kp h14 (fun ⟨X, d, e1, e2⟩ => ⟨X, d, e1, e2.below kb⟩), kd h15, kd h16, kp h17 (fun ⟨X, d, e1, e2⟩ => ⟨X, d, e1, e2.below kb⟩), (fun _ => ⟨_, _, _, _, rfl, hsz, ⟨at_new rfl⟩, notU_bool _, notU_slice _ _ _, notU_i64 _⟩), (fun e => absurd (i19_18 (by simpa using e)) (by rw [hEi]; decide)), (fun _ => by simp), (fun e => by simpa using i19_13 (by simpa using e)), (fun e => by simpa using i13_3 (by simpa using e)), (fun e => by simpa using i14_13 (by simpa using e)), (fun e => by simpa using i17_13 (by simpa using e)), Nat.le_trans hsz kb.size, Below.cons hB kb⟩
    · skip
      have d18 := hdep _ rfl ⟨18, .data⟩ (by simp) rfl
      obtain ⟨nb, z0, z1, z2, rfl, hn, hb, nz0, nz1, nz2⟩ := h18 d18
      have d17 := hdep _ rfl ⟨17, .data⟩ (by simp) rfl
      obtain ⟨X, d, rfl, hPA⟩ := h17 d17
      refine wpOp_step rfl (fun K' hK' => ?_)
      have fz0 := hb.f (i := 0)
      have cz0 := hb.c (i := 0) rfl
      have fz1 := hb.f (i := 1)
      have cz1 := hb.c (i := 1) rfl
      have fz2 := hb.f (i := 2)
      have cz2 := hb.c (i := 2) rfl
      have hp := hb.put3 (notU3 nz0 nz1 nz2) (.bool sa) (.slice X m2 d) (.int .i64 xa)
      have hs := hb.store3 (.bool sa) (.slice X m2 d) (.int .i64 xa)
      have hq := rd_keep hb (notU3 nz0 nz1 nz2) hp.far (A := X) (l := l2)
      go_simp
      refine hK' _ _ ?_
      clear hq
      exact ⟨_, _, _, _, _, _, _, _, _, _, _, _, _, _, _, _, _, _, _, rfl, kd h0, kd h1, kd h2, (fun e e2 => (h3 (by simpa using e) (by simpa using e2)).put hb (by simp) hp), kd h4, kd h5, kd h6, kd h7, kd h8, kd h9, kd h10, kd h11, kd h12, kp h13 (fun ⟨X, d, e1, e2⟩ => ⟨X, d, e1, ⟨rd_keep hb (notU3 nz0 nz1 nz2) hp.far e2.1, e2.2⟩⟩), kp h14 (fun ⟨X, d, e1, e2⟩ => ⟨X, d, e1, ⟨rd_keep hb (notU3 nz0 nz1 nz2) hp.far e2.1, e2.2⟩⟩), kd h15, kd h16, kp h17 (fun ⟨X, d, e1, e2⟩ => ⟨X, d, e1, ⟨rd_keep hb (notU3 nz0 nz1 nz2) hp.far e2.1, e2.2⟩⟩), (fun _ => ⟨nb, _, _, _, rfl, hn, hs, notU_bool _, notU_slice _ _ _, notU_i64 _⟩), (fun _ => ⟨nb, X, d, rfl, hn, hs, rd_keep hb (notU3 nz0 nz1 nz2) hp.far hPA.1, hPA.2⟩), (fun _ => by simpa using d18), (fun _ => by simpa using i17_13 d17), (fun e => by simpa using i13_3 (by simpa using e)), (fun e => by simpa using i14_13 (by simpa using e)), (fun e => by simpa using i17_13 (by simpa using e)), by simpa using hsz, Below.store3 hB hn⟩
  case fin =>
    rintro E a' w' ⟨u13, u14, u15, u16, u17, u18, u19, u20, u21, u22, u23, u24, u25, u26, u27, u28, u29, u30, u8, rfl, h0, h1, h2, h3, h4, h5, h6, h7, h8, h9, h10, h11, h12, h13, h14, h15, h16, h17, h18, h19, i19_18, i19_13, i13_3, i14_13, i17_13, hsz, hB⟩ hall
    obtain ⟨nr, Xr, cr, rfl, hnr, Rr, hPA⟩ := h19 (hall 19 (by simp))
    clear hall hsz h0 h1 h2 h3 h4 h5 h6 h7 h8 h9 h10 h11 h12 h13 h14 h15 h16 h17 h18 i19_18 i19_13 i13_3 i14_13 i17_13
    replace hT := hT.below hB
    replace hG := hG.below hB
    replace hl := hl.below hB
    replace hk := hk.below hB
    replace Ra := Ra.below hB
    replace qa0 := cbl hB qa0
    replace qa1 := cbl hB qa1
    replace qa2 := cbl hB qa2
    replace Rb := Rb.below hB
    replace qb0 := cbl hB qb0
    replace qb1 := cbl hB qb1
    replace qb2 := cbl hB qb2
    replace HBT := Below.cons HBT hB
    generalize hV1 : w' = V1 at *
    clear hV1 hB
    have qr0 := Rr.c (i := 0) rfl
    have qr1 := Rr.c (i := 1) rfl
    have qr2 := Rr.c (i := 2) rfl
    go_wp2_with (fail)
    have tb : (rb != rb) = false := by simp
    have hd3 := drb (V1)
    replace hT := hT.below hd3
    replace hG := hG.below hd3
    replace hl := hl.below hd3
    replace hk := hk.below hd3
    replace Ra := Ra.below hd3
    replace qa0 := cbl hd3 qa0
    replace qa1 := cbl hd3 qa1
    replace qa2 := cbl hd3 qa2
    replace Rb := Rb.below hd3
    replace qb0 := cbl hd3 qb0
    replace qb1 := cbl hd3 qb1
    replace qb2 := cbl hd3 qb2
    replace Rr := Rr.below hd3
    replace hPA := hPA.below hd3
    replace qr0 := cbl hd3 qr0
    replace qr1 := cbl hd3 qr1
    replace qr2 := cbl hd3 qr2
    replace HBT := Below.cons HBT hd3
    clear hd3
    replace qr0 : (V1).drew.cell? ⟨nr, 0, none⟩ = some (.bool sa) := qr0
    replace qr1 : (V1).drew.cell? ⟨nr, 1, none⟩ = some (.slice Xr m2 cr) := qr1
    replace qr2 : (V1).drew.cell? ⟨nr, 2, none⟩ = some (.int .i64 xa) := qr2
    have C3_0 := fun (W : World) (h : PA l2 Xr cr W) => (show Calls Tryz.prog 7 #[.agg #[.bool sa, .slice Xr m2 cr, .int .i64 xa]] W (fun e w' => e = .returned (.bool rb) ∧ Below W.heap.size W w') from (RR.out W Xr cr h.1 (by rw [Em.out]; exact h.2.1) h.2.2).1)
    replace C3_0 := Lib.hid C3_0
    have C3_1 := fun (W : World) (h : PA l2 Xr cr W) => (show Calls Tryz.prog 8 #[.agg #[.bool sa, .slice Xr m2 cr, .int .i64 xa]] W (fun e w' => e = .returned (.bool rb) ∧ Below W.heap.size W w') from (RR.out W Xr cr h.1 (by rw [Em.out]; exact h.2.1) h.2.2).2)
    replace C3_1 := Lib.hid C3_1
    obtain ⟨S, hS⟩ : ∃ S : World → Prop, S = fun W => W.cell? ⟨nr, 0, none⟩ = some (.bool sa) ∧ W.cell? ⟨nr, 1, none⟩ = some (.slice Xr m2 cr) ∧ W.cell? ⟨nr, 2, none⟩ = some (.int .i64 xa) := ⟨_, rfl⟩
    have HSq : S (V1).drew := by rw [hS]; exact ⟨qr0, qr1, qr2⟩
    have hSb : ∀ W W' : World, Below W.heap.size W W' → S W → S W' := by rw [hS]; exact fun W W' hb h => ⟨cell_below hb h.1, cell_below hb h.2.1, cell_below hb h.2.2⟩
    replace hSb := Lib.hid hSb
    replace hS := Lib.hid hS
    refine wp_region_seq S [(0, true), (2, true), (1, false), (3, false), (4, true)] (by kernel_rfl) (by kernel_rfl) (by kernel_rfl) HSq (fun hSq => ?_)
    clear hSq
    replace HSq := Lib.hid HSq
    clear qr0 qr1 qr2
    refine SeqP.take (v := ?_) rfl (fun _ _ _ h => h) (Or.inl ⟨by rfl, ?_⟩) ?_
    rotate_left 1
    · intro wq hSw; rw [hS.out] at hSw; (try dsimp only at hSw); go_simp; try with_reducible rfl
    try simp only [Act.put, List.setIfInBounds_toArray, List.set_cons_zero, List.set_cons_succ]
    refine SeqP.take (v := ?_) rfl (fun _ _ _ h => h) (Or.inl ⟨by rfl, ?_⟩) ?_
    rotate_left 1
    · intro wq hSw; rw [hS.out] at hSw; (try dsimp only at hSw); go_simp; try with_reducible rfl
    try simp only [Act.put, List.setIfInBounds_toArray, List.set_cons_zero, List.set_cons_succ]
    refine SeqP.call rfl (by rfl) (fun Kq hKq => ?_)
    go_simp
    go_at_call 7
    with_reducible refine (C3_0.out _ hPA).mono ?_
    rintro e W4 ⟨rfl, hb4⟩
    replace hT := hT.below hb4
    replace hG := hG.below hb4
    replace hl := hl.below hb4
    replace hk := hk.below hb4
    replace Ra := Ra.below hb4
    replace qa0 := cbl hb4 qa0
    replace qa1 := cbl hb4 qa1
    replace qa2 := cbl hb4 qa2
    replace Rb := Rb.below hb4
    replace qb0 := cbl hb4 qb0
    replace qb1 := cbl hb4 qb1
    replace qb2 := cbl hb4 qb2
    replace Rr := Rr.below hb4
    replace hPA := hPA.below hb4
    replace HBT := Below.cons HBT hb4
    replace HSq := Lib.hid (hSb.out _ _ hb4 HSq.out)
    clear hb4
    refine hKq.out _ _ HSq.out (fun hSq => ?_)
    clear hSq hKq Kq
    try simp only [Act.put, List.setIfInBounds_toArray, List.set_cons_zero, List.set_cons_succ]
    refine SeqP.call rfl (by rfl) (fun Kq hKq => ?_)
    go_simp
    go_at_call 8
    with_reducible refine (C3_1.out _ hPA).mono ?_
    rintro e W5 ⟨rfl, hb5⟩
    replace hT := hT.below hb5
    replace hG := hG.below hb5
    replace hl := hl.below hb5
    replace hk := hk.below hb5
    replace Ra := Ra.below hb5
    replace qa0 := cbl hb5 qa0
    replace qa1 := cbl hb5 qa1
    replace qa2 := cbl hb5 qa2
    replace Rb := Rb.below hb5
    replace qb0 := cbl hb5 qb0
    replace qb1 := cbl hb5 qb1
    replace qb2 := cbl hb5 qb2
    replace Rr := Rr.below hb5
    replace hPA := hPA.below hb5
    replace HBT := Below.cons HBT hb5
    replace HSq := Lib.hid (hSb.out _ _ hb5 HSq.out)
    clear hb5
    refine hKq.out _ _ HSq.out (fun hSq => ?_)
    clear hSq hKq Kq
    try simp only [Act.put, List.setIfInBounds_toArray, List.set_cons_zero, List.set_cons_succ]
    refine SeqP.take (v := ?_) rfl (fun _ _ _ h => h) (Or.inl ⟨by rfl, ?_⟩) ?_
    rotate_left 1
    · intro wq hSw; rw [hS.out] at hSw; (try dsimp only at hSw); go_simp; try with_reducible rfl
    try simp only [Act.put, List.setIfInBounds_toArray, List.set_cons_zero, List.set_cons_succ]
    refine SeqP.done ?_
    clear hSb
    clear HSq
    clear hPA
    clear Rr
    go_wp2_with (fail)
    refine (Calls.mono (two_c sa sb xa xb A c l B d k _ hl hk x y (fun W h => C1.out W h) (fun W h => C2.out W h)) ?_)
    rintro e W6 ⟨Xx, cx, Xy, cy, rfl, hx, hy, hb6⟩
    replace hT := hT.below hb6
    replace hG := hG.below hb6
    replace hl := hl.below hb6
    replace hk := hk.below hb6
    replace Ra := Ra.below hb6
    replace qa0 := cbl hb6 qa0
    replace qa1 := cbl hb6 qa1
    replace qa2 := cbl hb6 qa2
    replace Rb := Rb.below hb6
    replace qb0 := cbl hb6 qb0
    replace qb1 := cbl hb6 qb1
    replace qb2 := cbl hb6 qb2
    replace HBT := Below.cons HBT hb6
    clear hb6
    clear hk
    obtain ⟨hb7, Rx, Ry⟩ := bx2 W6 #[.bool (sg (dmn x)), .slice Xx (nl (mg (dmn x))) cx, .int .i64 (dex x)] 26 #[.bool (sg (dmn y)), .slice Xy (nl (mg (dmn y))) cy, .int .i64 (dex y)] 26
    replace hT := hT.below hb7
    replace hG := hG.below hb7
    replace hl := hl.below hb7
    replace Ra := Ra.below hb7
    replace qa0 := cbl hb7 qa0
    replace qa1 := cbl hb7 qa1
    replace qa2 := cbl hb7 qa2
    replace Rb := Rb.below hb7
    replace qb0 := cbl hb7 qb0
    replace qb1 := cbl hb7 qb1
    replace qb2 := cbl hb7 qb2
    replace hx := hx.below hb7
    replace hy := hy.below hb7
    replace HBT := Below.cons HBT hb7
    clear hb7
    have qx0 := Rx.c (i := 0) rfl
    have qx1 := Rx.c (i := 1) rfl
    have qx2 := Rx.c (i := 2) rfl
    have qy0 := Ry.c (i := 0) rfl
    have qy1 := Ry.c (i := 1) rfl
    have qy2 := Ry.c (i := 2) rfl
    go_wp2_with (fail)
    generalize hV2 : ((W6.alloc (.cells #[.bool (sg (dmn x)), .slice Xx (nl (mg (dmn x))) cx, .int .i64 (dex x)] 26)).alloc (.cells #[.bool (sg (dmn y)), .slice Xy (nl (mg (dmn y))) cy, .int .i64 (dex y)] 26)) = V2 at *
    replace hV2 := Lib.hid hV2
    refine (Calls.mono (R := RetI V2 zm) (C3.out _ hl) ?_)
    rintro e W8 ⟨Xzm, czm, rfl, hzm, hb8⟩
    replace hT := hT.below hb8
    replace hG := hG.below hb8
    replace hl := hl.below hb8
    replace Ra := Ra.below hb8
    replace qa0 := cbl hb8 qa0
    replace qa1 := cbl hb8 qa1
    replace qa2 := cbl hb8 qa2
    replace Rb := Rb.below hb8
    replace qb0 := cbl hb8 qb0
    replace qb1 := cbl hb8 qb1
    replace qb2 := cbl hb8 qb2
    replace hx := hx.below hb8
    replace hy := hy.below hb8
    replace Rx := Rx.below hb8
    replace qx0 := cbl hb8 qx0
    replace qx1 := cbl hb8 qx1
    replace qx2 := cbl hb8 qx2
    replace Ry := Ry.below hb8
    replace qy0 := cbl hb8 qy0
    replace qy1 := cbl hb8 qy1
    replace qy2 := cbl hb8 qy2
    replace HBT := Below.cons HBT hb8
    clear hb8
    clear hl
    obtain ⟨hb9, Rzm⟩ := bx1 W8 #[.bool (sg zm), .slice Xzm (nl (mg zm)) czm] 24
    replace hT := hT.below hb9
    replace hG := hG.below hb9
    replace Ra := Ra.below hb9
    replace qa0 := cbl hb9 qa0
    replace qa1 := cbl hb9 qa1
    replace qa2 := cbl hb9 qa2
    replace Rb := Rb.below hb9
    replace qb0 := cbl hb9 qb0
    replace qb1 := cbl hb9 qb1
    replace qb2 := cbl hb9 qb2
    replace hx := hx.below hb9
    replace hy := hy.below hb9
    replace Rx := Rx.below hb9
    replace qx0 := cbl hb9 qx0
    replace qx1 := cbl hb9 qx1
    replace qx2 := cbl hb9 qx2
    replace Ry := Ry.below hb9
    replace qy0 := cbl hb9 qy0
    replace qy1 := cbl hb9 qy1
    replace qy2 := cbl hb9 qy2
    replace hzm := hzm.below hb9
    replace HBT := Below.cons HBT hb9
    clear hb9
    have qzm0 := Rzm.c (i := 0) rfl
    have qzm1 := Rzm.c (i := 1) rfl
    go_wp2_with (fail)
    generalize hV3 : (W8.alloc (.cells #[.bool (sg zm), .slice Xzm (nl (mg zm)) czm] 24)) = V3 at *
    replace hV3 := Lib.hid hV3
    clear Rx
    clear Ry
    clear Rzm
    clear Ra
    clear Rb
    clear qa0
    clear qa1
    clear qa2
    clear qb0
    clear qb1
    clear qb2
    obtain ⟨cc, Ecc⟩ : ∃ z, z = rcmp x y := ⟨_, rfl⟩
    obtain ⟨ss, Ess⟩ : ∃ z, z = (dmn x).sign := ⟨_, rfl⟩
    replace Ecc := Lib.hid Ecc
    replace Ess := Lib.hid Ess
    have Nx := db_sz Ox
    have Ny := db_sz Oy
    have hd10 := drb (V3)
    replace hT := hT.below hd10
    replace hG := hG.below hd10
    replace hx := hx.below hd10
    replace hy := hy.below hd10
    replace qx0 := cbl hd10 qx0
    replace qx1 := cbl hd10 qx1
    replace qx2 := cbl hd10 qx2
    replace qy0 := cbl hd10 qy0
    replace qy1 := cbl hd10 qy1
    replace qy2 := cbl hd10 qy2
    replace hzm := hzm.below hd10
    replace qzm0 := cbl hd10 qzm0
    replace qzm1 := cbl hd10 qzm1
    replace HBT := Below.cons HBT hd10
    clear hd10
    replace qx0 : (V3).drew.cell? ⟨W6.heap.size, 0, none⟩ = some (.bool (sg (dmn x))) := qx0
    replace qx1 : (V3).drew.cell? ⟨W6.heap.size, 1, none⟩ = some (.slice Xx (nl (mg (dmn x))) cx) := qx1
    replace qx2 : (V3).drew.cell? ⟨W6.heap.size, 2, none⟩ = some (.int .i64 (dex x)) := qx2
    replace qy0 : (V3).drew.cell? ⟨(W6.heap.size + 1), 0, none⟩ = some (.bool (sg (dmn y))) := qy0
    replace qy1 : (V3).drew.cell? ⟨(W6.heap.size + 1), 1, none⟩ = some (.slice Xy (nl (mg (dmn y))) cy) := qy1
    replace qy2 : (V3).drew.cell? ⟨(W6.heap.size + 1), 2, none⟩ = some (.int .i64 (dex y)) := qy2
    replace qzm0 : (V3).drew.cell? ⟨W8.heap.size, 0, none⟩ = some (.bool (sg zm)) := qzm0
    replace qzm1 : (V3).drew.cell? ⟨W8.heap.size, 1, none⟩ = some (.slice Xzm (nl (mg zm)) czm) := qzm1
    obtain ⟨v1, Ev1⟩ : ∃ zq : Rat, zq = dval zm ee := ⟨_, rfl⟩
    have Ov1 : DB v1 2000 200000 := by rw [Ev1]; exact (db_val Nzm (E := 32768) (by omega)).mono (by decide) (by decide)
    have C10_0 := fun (W : World) (A0 : Option Addr) (c0 : Nat) (h0 : NatV W A0 c0 (mg zm)) (hT : Tab W) => (show Calls Tryz.prog 12 #[.agg #[.bool (sg zm), .slice A0 (nl (mg zm)) c0], .int .i64 ee] W (RetD W v1) by rw [Ev1]; exact dmake_c A0 c0 zm ee W h0 hT (by omega) (by omega))
    replace Ev1 := Lib.hid Ev1
    replace C10_0 := Lib.hid C10_0
    obtain ⟨v2, Ev2⟩ : ∃ zq : Rat, zq = dval zm ee := ⟨_, rfl⟩
    have C10_1 := fun (W : World) (A0 : Option Addr) (c0 : Nat) (h0 : NatV W A0 c0 (mg zm)) => (show Calls Tryz.prog 13 #[.agg #[.bool (sg zm), .slice A0 (nl (mg zm)) c0], .int .i64 ee] W (RetD W v2) by rw [Ev2]; exact tmake_c A0 c0 zm ee W h0 (by omega) (by omega))
    replace Ev2 := Lib.hid Ev2
    replace C10_1 := Lib.hid C10_1
    have C10_2 := fun (W : World) (A0 : Option Addr) (c0 : Nat) (A1 : Option Addr) (c1 : Nat) (h0 : NatV W A0 c0 (mg (dmn v1))) (h1 : NatV W A1 c1 (mg (dmn v2)))  => (show Calls Tryz.prog 11 #[.agg #[.bool (sg (dmn v1)), .slice A0 (nl (mg (dmn v1))) c0, .int .i64 (dex v1)], .agg #[.bool (sg (dmn v2)), .slice A1 (nl (mg (dmn v2))) c1, .int .i64 (dex v2)]] W (fun e w' => e = .returned (.bool true) ∧ Below W.heap.size W w') by exact tsameT_c A0 c0 v1 A1 c1 v2 W h0 h1 (Ov1.ok (by decide) (by decide)) (by rw [Ev1.out, Ev2.out]))
    replace C10_2 := Lib.hid C10_2
    have C10_3 := fun (W : World) (A0 : Option Addr) (c0 : Nat) (A1 : Option Addr) (c1 : Nat) (h0 : NatV W A0 c0 (mg (dmn x))) (h1 : NatV W A1 c1 (mg (dmn y)))  => (show Calls Tryz.prog 14 #[.agg #[.bool (sg (dmn x)), .slice A0 (nl (mg (dmn x))) c0, .int .i64 (dex x)], .agg #[.bool (sg (dmn y)), .slice A1 (nl (mg (dmn y))) c1, .int .i64 (dex y)]] W (fun e w' => e = .returned (.int .i64 cc) ∧ Below W.heap.size W w') by rw [Ecc.out]; exact dcmp_c A0 c0 x A1 c1 y W h0 h1 (Ox.ok (by decide) (by decide)) (Oy.ok (by decide) (by decide)))
    replace C10_3 := Lib.hid C10_3
    have C10_4 := fun (W : World) (A0 : Option Addr) (c0 : Nat) (A1 : Option Addr) (c1 : Nat) (h0 : NatV W A0 c0 (mg (dmn x))) (h1 : NatV W A1 c1 (mg (dmn y)))  => (show Calls Tryz.prog 15 #[.agg #[.bool (sg (dmn x)), .slice A0 (nl (mg (dmn x))) c0, .int .i64 (dex x)], .agg #[.bool (sg (dmn y)), .slice A1 (nl (mg (dmn y))) c1, .int .i64 (dex y)]] W (fun e w' => e = .returned (.int .i64 cc) ∧ Below W.heap.size W w') by rw [Ecc.out]; exact tcmp_c A0 c0 x A1 c1 y W h0 h1 (Ox.ok (by decide) (by decide)) (Oy.ok (by decide) (by decide)) (by omega) (by omega) (by omega) (by omega))
    replace C10_4 := Lib.hid C10_4
    have C10_5 := fun (W : World) (A0 : Option Addr) (c0 : Nat) (h0 : NatV W A0 c0 (mg (dmn x)))  => (show Calls Tryz.prog 16 #[.agg #[.bool (sg (dmn x)), .slice A0 (nl (mg (dmn x))) c0, .int .i64 (dex x)]] W (fun e w' => e = .returned (.int .i64 ss) ∧ Below W.heap.size W w') by rw [Ess.out]; exact dsign_c A0 c0 x W h0)
    replace C10_5 := Lib.hid C10_5
    have C10_6 := fun (W : World) (A0 : Option Addr) (c0 : Nat) (h0 : NatV W A0 c0 (mg (dmn x)))  => (show Calls Tryz.prog 17 #[.agg #[.bool (sg (dmn x)), .slice A0 (nl (mg (dmn x))) c0, .int .i64 (dex x)]] W (fun e w' => e = .returned (.int .i64 ss) ∧ Below W.heap.size W w') by rw [Ess.out]; exact tsign_c A0 c0 x W h0 (Nat.le_trans Ox.l (by decide)))
    replace C10_6 := Lib.hid C10_6
    obtain ⟨n1, En1⟩ : ∃ zq : Rat, zq = -x := ⟨_, rfl⟩
    have On1 : DB n1 2000 200000 := by rw [En1]; exact (db_neg Ox).mono (by decide) (by decide)
    have C10_7 := fun (W : World) (A0 : Option Addr) (c0 : Nat) (h0 : NatV W A0 c0 (mg (dmn x)))  => (show Calls Tryz.prog 18 #[.agg #[.bool (sg (dmn x)), .slice A0 (nl (mg (dmn x))) c0, .int .i64 (dex x)]] W (RetD W n1) by rw [En1]; exact dneg_c A0 c0 x W h0 (Ox.ok (by decide) (by decide)))
    replace En1 := Lib.hid En1
    replace C10_7 := Lib.hid C10_7
    obtain ⟨n2, En2⟩ : ∃ zq : Rat, zq = -x := ⟨_, rfl⟩
    have C10_8 := fun (W : World) (A0 : Option Addr) (c0 : Nat) (h0 : NatV W A0 c0 (mg (dmn x)))  => (show Calls Tryz.prog 19 #[.agg #[.bool (sg (dmn x)), .slice A0 (nl (mg (dmn x))) c0, .int .i64 (dex x)]] W (RetD W n2) by rw [En2]; exact tneg_c A0 c0 x W h0 Ox.d (Nat.le_trans Ox.l (by decide)))
    replace En2 := Lib.hid En2
    replace C10_8 := Lib.hid C10_8
    have C10_9 := fun (W : World) (A0 : Option Addr) (c0 : Nat) (A1 : Option Addr) (c1 : Nat) (h0 : NatV W A0 c0 (mg (dmn n1))) (h1 : NatV W A1 c1 (mg (dmn n2)))  => (show Calls Tryz.prog 11 #[.agg #[.bool (sg (dmn n1)), .slice A0 (nl (mg (dmn n1))) c0, .int .i64 (dex n1)], .agg #[.bool (sg (dmn n2)), .slice A1 (nl (mg (dmn n2))) c1, .int .i64 (dex n2)]] W (fun e w' => e = .returned (.bool true) ∧ Below W.heap.size W w') by exact tsameT_c A0 c0 n1 A1 c1 n2 W h0 h1 (On1.ok (by decide) (by decide)) (by rw [En1.out, En2.out]))
    replace C10_9 := Lib.hid C10_9
    obtain ⟨a1, Ea1⟩ : ∃ zq : Rat, zq = x + y := ⟨_, rfl⟩
    have Oa1 : DB a1 2000 200000 := by rw [Ea1]; exact (db_add Ox Oy).mono (by decide) (by decide)
    have C10_10 := fun (W : World) (A0 : Option Addr) (c0 : Nat) (A1 : Option Addr) (c1 : Nat) (h0 : NatV W A0 c0 (mg (dmn x))) (h1 : NatV W A1 c1 (mg (dmn y))) (hT : Tab W) => (show Calls Tryz.prog 20 #[.agg #[.bool (sg (dmn x)), .slice A0 (nl (mg (dmn x))) c0, .int .i64 (dex x)], .agg #[.bool (sg (dmn y)), .slice A1 (nl (mg (dmn y))) c1, .int .i64 (dex y)]] W (RetD W a1) by rw [Ea1]; exact dadd_c A0 c0 x A1 c1 y W h0 h1 (Ox.ok (by decide) (by decide)) (Oy.ok (by decide) (by decide)) hT)
    replace Ea1 := Lib.hid Ea1
    replace C10_10 := Lib.hid C10_10
    obtain ⟨a2, Ea2⟩ : ∃ zq : Rat, zq = x + y := ⟨_, rfl⟩
    have C10_11 := fun (W : World) (A0 : Option Addr) (c0 : Nat) (A1 : Option Addr) (c1 : Nat) (h0 : NatV W A0 c0 (mg (dmn x))) (h1 : NatV W A1 c1 (mg (dmn y)))  => (show Calls Tryz.prog 21 #[.agg #[.bool (sg (dmn x)), .slice A0 (nl (mg (dmn x))) c0, .int .i64 (dex x)], .agg #[.bool (sg (dmn y)), .slice A1 (nl (mg (dmn y))) c1, .int .i64 (dex y)]] W (RetD W a2) by rw [Ea2]; exact tadd_c A0 c0 x A1 c1 y W h0 h1 (Ox.ok (by decide) (by decide)) (Oy.ok (by decide) (by decide)) (by omega) (by omega) (by omega) (by omega))
    replace Ea2 := Lib.hid Ea2
    replace C10_11 := Lib.hid C10_11
    have C10_12 := fun (W : World) (A0 : Option Addr) (c0 : Nat) (A1 : Option Addr) (c1 : Nat) (h0 : NatV W A0 c0 (mg (dmn a1))) (h1 : NatV W A1 c1 (mg (dmn a2)))  => (show Calls Tryz.prog 11 #[.agg #[.bool (sg (dmn a1)), .slice A0 (nl (mg (dmn a1))) c0, .int .i64 (dex a1)], .agg #[.bool (sg (dmn a2)), .slice A1 (nl (mg (dmn a2))) c1, .int .i64 (dex a2)]] W (fun e w' => e = .returned (.bool true) ∧ Below W.heap.size W w') by exact tsameT_c A0 c0 a1 A1 c1 a2 W h0 h1 (Oa1.ok (by decide) (by decide)) (by rw [Ea1.out, Ea2.out]))
    replace C10_12 := Lib.hid C10_12
    obtain ⟨s1, Es1⟩ : ∃ zq : Rat, zq = x - y := ⟨_, rfl⟩
    have Os1 : DB s1 2000 200000 := by rw [Es1]; exact (db_sub Ox Oy).mono (by decide) (by decide)
    have C10_13 := fun (W : World) (A0 : Option Addr) (c0 : Nat) (A1 : Option Addr) (c1 : Nat) (h0 : NatV W A0 c0 (mg (dmn x))) (h1 : NatV W A1 c1 (mg (dmn y))) (hT : Tab W) => (show Calls Tryz.prog 22 #[.agg #[.bool (sg (dmn x)), .slice A0 (nl (mg (dmn x))) c0, .int .i64 (dex x)], .agg #[.bool (sg (dmn y)), .slice A1 (nl (mg (dmn y))) c1, .int .i64 (dex y)]] W (RetD W s1) by rw [Es1]; exact dsub_c A0 c0 x A1 c1 y W h0 h1 (Ox.ok (by decide) (by decide)) (Oy.ok (by decide) (by decide)) hT)
    replace Es1 := Lib.hid Es1
    replace C10_13 := Lib.hid C10_13
    obtain ⟨s2, Es2⟩ : ∃ zq : Rat, zq = x - y := ⟨_, rfl⟩
    have C10_14 := fun (W : World) (A0 : Option Addr) (c0 : Nat) (A1 : Option Addr) (c1 : Nat) (h0 : NatV W A0 c0 (mg (dmn x))) (h1 : NatV W A1 c1 (mg (dmn y)))  => (show Calls Tryz.prog 23 #[.agg #[.bool (sg (dmn x)), .slice A0 (nl (mg (dmn x))) c0, .int .i64 (dex x)], .agg #[.bool (sg (dmn y)), .slice A1 (nl (mg (dmn y))) c1, .int .i64 (dex y)]] W (RetD W s2) by rw [Es2]; exact tsub_c A0 c0 x A1 c1 y W h0 h1 (Ox.ok (by decide) (by decide)) (Oy.ok (by decide) (by decide)) (by omega) (by omega) (by omega) (by omega))
    replace Es2 := Lib.hid Es2
    replace C10_14 := Lib.hid C10_14
    have C10_15 := fun (W : World) (A0 : Option Addr) (c0 : Nat) (A1 : Option Addr) (c1 : Nat) (h0 : NatV W A0 c0 (mg (dmn s1))) (h1 : NatV W A1 c1 (mg (dmn s2)))  => (show Calls Tryz.prog 11 #[.agg #[.bool (sg (dmn s1)), .slice A0 (nl (mg (dmn s1))) c0, .int .i64 (dex s1)], .agg #[.bool (sg (dmn s2)), .slice A1 (nl (mg (dmn s2))) c1, .int .i64 (dex s2)]] W (fun e w' => e = .returned (.bool true) ∧ Below W.heap.size W w') by exact tsameT_c A0 c0 s1 A1 c1 s2 W h0 h1 (Os1.ok (by decide) (by decide)) (by rw [Es1.out, Es2.out]))
    replace C10_15 := Lib.hid C10_15
    obtain ⟨m1, Em1⟩ : ∃ zq : Rat, zq = x * y := ⟨_, rfl⟩
    have Om1 : DB m1 2000 200000 := by rw [Em1]; exact (db_mul Ox Oy).mono (by decide) (by decide)
    have C10_16 := fun (W : World) (A0 : Option Addr) (c0 : Nat) (A1 : Option Addr) (c1 : Nat) (h0 : NatV W A0 c0 (mg (dmn x))) (h1 : NatV W A1 c1 (mg (dmn y))) (hT : Tab W) (hG : Flds W) => (show Calls Tryz.prog 24 #[.agg #[.bool (sg (dmn x)), .slice A0 (nl (mg (dmn x))) c0, .int .i64 (dex x)], .agg #[.bool (sg (dmn y)), .slice A1 (nl (mg (dmn y))) c1, .int .i64 (dex y)]] W (RetD W m1) by rw [Em1]; exact dmul_c A0 c0 x A1 c1 y W h0 h1 (Ox.ok (by decide) (by decide)) (Oy.ok (by decide) (by decide)) (Nat.le_trans Ox.l (by decide)) (Nat.le_trans Oy.l (by decide)) hT hG)
    replace Em1 := Lib.hid Em1
    replace C10_16 := Lib.hid C10_16
    obtain ⟨m2, Em2⟩ : ∃ zq : Rat, zq = x * y := ⟨_, rfl⟩
    have C10_17 := fun (W : World) (A0 : Option Addr) (c0 : Nat) (A1 : Option Addr) (c1 : Nat) (h0 : NatV W A0 c0 (mg (dmn x))) (h1 : NatV W A1 c1 (mg (dmn y)))  => (show Calls Tryz.prog 25 #[.agg #[.bool (sg (dmn x)), .slice A0 (nl (mg (dmn x))) c0, .int .i64 (dex x)], .agg #[.bool (sg (dmn y)), .slice A1 (nl (mg (dmn y))) c1, .int .i64 (dex y)]] W (RetD W m2) by rw [Em2]; exact tmul_c A0 c0 x A1 c1 y W h0 h1 (Ox.ok (by decide) (by decide)) (Oy.ok (by decide) (by decide)) (by omega) (by omega) (by omega) (by omega))
    replace Em2 := Lib.hid Em2
    replace C10_17 := Lib.hid C10_17
    have C10_18 := fun (W : World) (A0 : Option Addr) (c0 : Nat) (A1 : Option Addr) (c1 : Nat) (h0 : NatV W A0 c0 (mg (dmn m1))) (h1 : NatV W A1 c1 (mg (dmn m2)))  => (show Calls Tryz.prog 11 #[.agg #[.bool (sg (dmn m1)), .slice A0 (nl (mg (dmn m1))) c0, .int .i64 (dex m1)], .agg #[.bool (sg (dmn m2)), .slice A1 (nl (mg (dmn m2))) c1, .int .i64 (dex m2)]] W (fun e w' => e = .returned (.bool true) ∧ Below W.heap.size W w') by exact tsameT_c A0 c0 m1 A1 c1 m2 W h0 h1 (Om1.ok (by decide) (by decide)) (by rw [Em1.out, Em2.out]))
    replace C10_18 := Lib.hid C10_18
    obtain ⟨g1, Eg1⟩ : ∃ zq : Rat, zq = (x + y) * (1 / 2) := ⟨_, rfl⟩
    have Og1 : DB g1 2000 200000 := by rw [Eg1]; exact (db_half (db_add Ox Oy)).mono (by decide) (by decide)
    have C10_19 := fun (W : World) (A0 : Option Addr) (c0 : Nat) (A1 : Option Addr) (c1 : Nat) (h0 : NatV W A0 c0 (mg (dmn x))) (h1 : NatV W A1 c1 (mg (dmn y))) (hT : Tab W) => (show Calls Tryz.prog 26 #[.agg #[.bool (sg (dmn x)), .slice A0 (nl (mg (dmn x))) c0, .int .i64 (dex x)], .agg #[.bool (sg (dmn y)), .slice A1 (nl (mg (dmn y))) c1, .int .i64 (dex y)]] W (RetD W g1) by rw [Eg1]; exact dmid_c A0 c0 x A1 c1 y W h0 h1 (Ox.ok (by decide) (by decide)) (Oy.ok (by decide) (by decide)) hT)
    replace Eg1 := Lib.hid Eg1
    replace C10_19 := Lib.hid C10_19
    obtain ⟨g2, Eg2⟩ : ∃ zq : Rat, zq = (x + y) * (2 : Rat) ^ (-1 : Int) := ⟨_, rfl⟩
    have C10_20 := fun (W : World) (A0 : Option Addr) (c0 : Nat) (A1 : Option Addr) (c1 : Nat) (h0 : NatV W A0 c0 (mg (dmn x))) (h1 : NatV W A1 c1 (mg (dmn y)))  => (show Calls Tryz.prog 27 #[.agg #[.bool (sg (dmn x)), .slice A0 (nl (mg (dmn x))) c0, .int .i64 (dex x)], .agg #[.bool (sg (dmn y)), .slice A1 (nl (mg (dmn y))) c1, .int .i64 (dex y)]] W (RetD W g2) by rw [Eg2]; exact tmid_c A0 c0 x A1 c1 y W h0 h1 (Ox.ok (by decide) (by decide)) (Oy.ok (by decide) (by decide)) (by omega) (by omega) (by omega) (by omega))
    replace Eg2 := Lib.hid Eg2
    replace C10_20 := Lib.hid C10_20
    have C10_21 := fun (W : World) (A0 : Option Addr) (c0 : Nat) (A1 : Option Addr) (c1 : Nat) (h0 : NatV W A0 c0 (mg (dmn g1))) (h1 : NatV W A1 c1 (mg (dmn g2)))  => (show Calls Tryz.prog 11 #[.agg #[.bool (sg (dmn g1)), .slice A0 (nl (mg (dmn g1))) c0, .int .i64 (dex g1)], .agg #[.bool (sg (dmn g2)), .slice A1 (nl (mg (dmn g2))) c1, .int .i64 (dex g2)]] W (fun e w' => e = .returned (.bool true) ∧ Below W.heap.size W w') by exact tsameT_c A0 c0 g1 A1 c1 g2 W h0 h1 (Og1.ok (by decide) (by decide)) (by rw [Eg1.out, Eg2.out, half_pow]))
    replace C10_21 := Lib.hid C10_21
    obtain ⟨q1, Eq1⟩ : ∃ zq : Rat, zq = x := ⟨_, rfl⟩
    have Nq1 : nl (mg q1.num) ≤ 60 ∧ nl q1.den ≤ 60 := by rw [Eq1]; omega
    have C10_22 := fun (W : World) (A0 : Option Addr) (c0 : Nat) (h0 : NatV W A0 c0 (mg (dmn x)))  => (show Calls Tryz.prog 29 #[.agg #[.bool (sg (dmn x)), .slice A0 (nl (mg (dmn x))) c0, .int .i64 (dex x)]] W (RetR W q1) by rw [Eq1]; exact drat_c A0 c0 x W h0 (Ox.ok (by decide) (by decide)))
    replace Eq1 := Lib.hid Eq1
    replace C10_22 := Lib.hid C10_22
    obtain ⟨q2, Eq2⟩ : ∃ zq : Rat, zq = x := ⟨_, rfl⟩
    have C10_23 := fun (W : World) (A0 : Option Addr) (c0 : Nat) (h0 : NatV W A0 c0 (mg (dmn x)))  => (show Calls Tryz.prog 30 #[.agg #[.bool (sg (dmn x)), .slice A0 (nl (mg (dmn x))) c0, .int .i64 (dex x)]] W (RetR W q2) by rw [Eq2]; exact trat_c A0 c0 x W h0 (Ox.ok (by decide) (by decide)))
    replace Eq2 := Lib.hid Eq2
    replace C10_23 := Lib.hid C10_23
    have C10_24 := fun (W : World) (A0 : Option Addr) (c0 : Nat) (B0 : Option Addr) (d0 : Nat) (A1 : Option Addr) (c1 : Nat) (B1 : Option Addr) (d1 : Nat) (h0 : NatV W A0 c0 (mg q1.num)) (g0 : NatV W B0 d0 q1.den) (h1 : NatV W A1 c1 (mg q2.num)) (g1 : NatV W B1 d1 q2.den) => (show Calls Tryz.prog 28 #[.agg #[.bool (sg q1.num), .slice A0 (nl (mg q1.num)) c0, .slice B0 (nl q1.den) d0], .agg #[.bool (sg q2.num), .slice A1 (nl (mg q2.num)) c1, .slice B1 (nl q2.den) d1]] W (fun e w' => e = .returned (.bool true) ∧ Below W.heap.size W w') by exact r9sameT_c A0 c0 B0 d0 q1 A1 c1 B1 d1 q2 W h0 g0 h1 g1 (by omega) (by omega) (by rw [Eq1.out, Eq2.out]))
    replace C10_24 := Lib.hid C10_24
    simp only [List.append]
    obtain ⟨S, hS⟩ : ∃ S : World → Prop, S = fun W => W.cell? ⟨W6.heap.size, 0, none⟩ = some (.bool (sg (dmn x))) ∧ W.cell? ⟨W6.heap.size, 1, none⟩ = some (.slice Xx (nl (mg (dmn x))) cx) ∧ W.cell? ⟨W6.heap.size, 2, none⟩ = some (.int .i64 (dex x)) ∧ W.cell? ⟨(W6.heap.size + 1), 0, none⟩ = some (.bool (sg (dmn y))) ∧ W.cell? ⟨(W6.heap.size + 1), 1, none⟩ = some (.slice Xy (nl (mg (dmn y))) cy) ∧ W.cell? ⟨(W6.heap.size + 1), 2, none⟩ = some (.int .i64 (dex y)) ∧ W.cell? ⟨W8.heap.size, 0, none⟩ = some (.bool (sg zm)) ∧ W.cell? ⟨W8.heap.size, 1, none⟩ = some (.slice Xzm (nl (mg zm)) czm) := ⟨_, rfl⟩
    have HSq : S (V3).drew := by rw [hS]; exact ⟨qx0, qx1, qx2, qy0, qy1, qy2, qzm0, qzm1⟩
    have hSb : ∀ W W' : World, Below W.heap.size W W' → S W → S W' := by rw [hS]; exact fun W W' hb h => ⟨cell_below hb h.1, cell_below hb h.2.1, cell_below hb h.2.2.1, cell_below hb h.2.2.2.1, cell_below hb h.2.2.2.2.1, cell_below hb h.2.2.2.2.2.1, cell_below hb h.2.2.2.2.2.2.1, cell_below hb h.2.2.2.2.2.2.2⟩
    replace hSb := Lib.hid hSb
    replace hS := Lib.hid hS
    refine wp_region_seq S [(0, true), (1, true), (2, true), (4, true), (5, true), (6, true), (3, false), (7, false), (8, false), (9, true), (10, true), (11, true), (13, true), (14, true), (12, false), (15, false), (16, true), (17, true), (18, true), (19, true), (21, true), (20, false), (22, false), (23, true), (24, true), (25, true), (26, true), (28, true), (27, false), (29, false), (30, false), (31, true), (32, true), (33, true), (34, true), (36, true), (37, true), (35, false), (38, false), (39, false), (40, true), (41, true), (42, true), (43, true), (45, true), (46, true), (44, false), (47, false), (48, false), (49, true), (50, true), (51, true), (52, true), (54, true), (55, true), (53, false), (56, false), (57, false), (58, true), (59, true), (60, true), (61, true), (63, true), (64, true), (62, false), (65, false), (66, false), (67, true), (68, true), (69, true), (71, true), (70, false), (72, false), (73, false), (74, true), (75, true), (76, true), (77, true), (78, true)] (by kernel_rfl) (by kernel_rfl) (by kernel_rfl) HSq (fun hSq => ?_)
    clear hSq
    replace HSq := Lib.hid HSq
    clear qx0 qx1 qx2 qy0 qy1 qy2 qzm0 qzm1
    have HBr := Below.refl (V3).drew.heap.size (V3).drew
    iterate 6 (refine SeqP.take (v := ?_) rfl (fun _ _ _ h => h) (Or.inl ⟨by rfl, ?_⟩) ?_; rotate_left 1; (focus (intro wq hSw; rw [hS.out] at hSw; (try dsimp only at hSw); go_simp; try with_reducible rfl)); try simp only [Act.put, seq0, seq1, seq2])
    refine SeqP.call rfl (by rfl) (fun Kq hKq => ?_)
    go_simp
    go_at_call 12
    with_reducible refine (C10_0.out _ _ _ (hzm.below HBr) (hT.below HBr)).mono ?_
    rintro e W11 ⟨Xv1, cv1, rfl, hv1, hb11⟩
    replace HBr := Below.cons HBr hb11
    clear hb11
    refine hKq.out _ _ (hSb.out _ _ HBr HSq.out) (fun hSq => ?_)
    clear hSq hKq Kq
    try simp only [Act.put, seq0, seq1, seq2]
    refine SeqP.call rfl (by rfl) (fun Kq hKq => ?_)
    go_simp
    go_at_call 13
    with_reducible refine (C10_1.out _ _ _ (hzm.below HBr)).mono ?_
    rintro e W12 ⟨Xv2, cv2, rfl, hv2, hb12⟩
    replace hv1 := hv1.below hb12
    replace HBr := Below.cons HBr hb12
    clear hb12
    refine hKq.out _ _ (hSb.out _ _ HBr HSq.out) (fun hSq => ?_)
    clear hSq hKq Kq
    try simp only [Act.put, seq0, seq1, seq2]
    refine SeqP.call rfl (by rfl) (fun Kq hKq => ?_)
    go_simp
    go_at_call 11
    with_reducible refine (C10_2.out _ _ _ _ _ hv1 hv2 ).mono ?_
    rintro e W13 ⟨rfl, hb13⟩
    replace HBr := Below.cons HBr hb13
    clear hb13
    refine hKq.out _ _ (hSb.out _ _ HBr HSq.out) (fun hSq => ?_)
    clear hSq hKq Kq
    try simp only [Act.put, seq0, seq1, seq2]
    iterate 5 (refine SeqP.take (v := ?_) rfl (fun _ _ _ h => h) (Or.inl ⟨by rfl, ?_⟩) ?_; rotate_left 1; (focus (intro wq hSw; rw [hS.out] at hSw; (try dsimp only at hSw); go_simp; try with_reducible rfl)); try simp only [Act.put, seq0, seq1, seq2])
    refine SeqP.call rfl (by rfl) (fun Kq hKq => ?_)
    go_simp
    go_at_call 14
    with_reducible refine (C10_3.out _ _ _ _ _ (hx.below HBr) (hy.below HBr) ).mono ?_
    rintro e W14 ⟨rfl, hb14⟩
    replace HBr := Below.cons HBr hb14
    clear hb14
    refine hKq.out _ _ (hSb.out _ _ HBr HSq.out) (fun hSq => ?_)
    clear hSq hKq Kq
    try simp only [Act.put, seq0, seq1, seq2]
    refine SeqP.call rfl (by rfl) (fun Kq hKq => ?_)
    go_simp
    go_at_call 15
    with_reducible refine (C10_4.out _ _ _ _ _ (hx.below HBr) (hy.below HBr) ).mono ?_
    rintro e W15 ⟨rfl, hb15⟩
    replace HBr := Below.cons HBr hb15
    clear hb15
    refine hKq.out _ _ (hSb.out _ _ HBr HSq.out) (fun hSq => ?_)
    clear hSq hKq Kq
    try simp only [Act.put, seq0, seq1, seq2]
    iterate 5 (refine SeqP.take (v := ?_) rfl (fun _ _ _ h => h) (Or.inl ⟨by rfl, ?_⟩) ?_; rotate_left 1; (focus (intro wq hSw; rw [hS.out] at hSw; (try dsimp only at hSw); go_simp; try with_reducible rfl)); try simp only [Act.put, seq0, seq1, seq2])
    refine SeqP.call rfl (by rfl) (fun Kq hKq => ?_)
    go_simp
    go_at_call 16
    with_reducible refine (C10_5.out _ _ _ (hx.below HBr) ).mono ?_
    rintro e W16 ⟨rfl, hb16⟩
    replace HBr := Below.cons HBr hb16
    clear hb16
    refine hKq.out _ _ (hSb.out _ _ HBr HSq.out) (fun hSq => ?_)
    clear hSq hKq Kq
    try simp only [Act.put, seq0, seq1, seq2]
    refine SeqP.call rfl (by rfl) (fun Kq hKq => ?_)
    go_simp
    go_at_call 17
    with_reducible refine (C10_6.out _ _ _ (hx.below HBr) ).mono ?_
    rintro e W17 ⟨rfl, hb17⟩
    replace HBr := Below.cons HBr hb17
    clear hb17
    refine hKq.out _ _ (hSb.out _ _ HBr HSq.out) (fun hSq => ?_)
    clear hSq hKq Kq
    try simp only [Act.put, seq0, seq1, seq2]
    iterate 5 (refine SeqP.take (v := ?_) rfl (fun _ _ _ h => h) (Or.inl ⟨by rfl, ?_⟩) ?_; rotate_left 1; (focus (intro wq hSw; rw [hS.out] at hSw; (try dsimp only at hSw); go_simp; try with_reducible rfl)); try simp only [Act.put, seq0, seq1, seq2])
    refine SeqP.call rfl (by rfl) (fun Kq hKq => ?_)
    go_simp
    go_at_call 18
    with_reducible refine (C10_7.out _ _ _ (hx.below HBr) ).mono ?_
    rintro e W18 ⟨Xn1, cn1, rfl, hn1, hb18⟩
    replace HBr := Below.cons HBr hb18
    clear hb18
    refine hKq.out _ _ (hSb.out _ _ HBr HSq.out) (fun hSq => ?_)
    clear hSq hKq Kq
    try simp only [Act.put, seq0, seq1, seq2]
    refine SeqP.call rfl (by rfl) (fun Kq hKq => ?_)
    go_simp
    go_at_call 19
    with_reducible refine (C10_8.out _ _ _ (hx.below HBr) ).mono ?_
    rintro e W19 ⟨Xn2, cn2, rfl, hn2, hb19⟩
    replace hn1 := hn1.below hb19
    replace HBr := Below.cons HBr hb19
    clear hb19
    refine hKq.out _ _ (hSb.out _ _ HBr HSq.out) (fun hSq => ?_)
    clear hSq hKq Kq
    try simp only [Act.put, seq0, seq1, seq2]
    refine SeqP.call rfl (by rfl) (fun Kq hKq => ?_)
    go_simp
    go_at_call 11
    with_reducible refine (C10_9.out _ _ _ _ _ hn1 hn2 ).mono ?_
    rintro e W20 ⟨rfl, hb20⟩
    replace HBr := Below.cons HBr hb20
    clear hb20
    refine hKq.out _ _ (hSb.out _ _ HBr HSq.out) (fun hSq => ?_)
    clear hSq hKq Kq
    try simp only [Act.put, seq0, seq1, seq2]
    iterate 6 (refine SeqP.take (v := ?_) rfl (fun _ _ _ h => h) (Or.inl ⟨by rfl, ?_⟩) ?_; rotate_left 1; (focus (intro wq hSw; rw [hS.out] at hSw; (try dsimp only at hSw); go_simp; try with_reducible rfl)); try simp only [Act.put, seq0, seq1, seq2])
    refine SeqP.call rfl (by rfl) (fun Kq hKq => ?_)
    go_simp
    go_at_call 20
    with_reducible refine (C10_10.out _ _ _ _ _ (hx.below HBr) (hy.below HBr) (hT.below HBr)).mono ?_
    rintro e W21 ⟨Xa1, ca1, rfl, ha1, hb21⟩
    replace HBr := Below.cons HBr hb21
    clear hb21
    refine hKq.out _ _ (hSb.out _ _ HBr HSq.out) (fun hSq => ?_)
    clear hSq hKq Kq
    try simp only [Act.put, seq0, seq1, seq2]
    refine SeqP.call rfl (by rfl) (fun Kq hKq => ?_)
    go_simp
    go_at_call 21
    with_reducible refine (C10_11.out _ _ _ _ _ (hx.below HBr) (hy.below HBr) ).mono ?_
    rintro e W22 ⟨Xa2, ca2, rfl, ha2, hb22⟩
    replace ha1 := ha1.below hb22
    replace HBr := Below.cons HBr hb22
    clear hb22
    refine hKq.out _ _ (hSb.out _ _ HBr HSq.out) (fun hSq => ?_)
    clear hSq hKq Kq
    try simp only [Act.put, seq0, seq1, seq2]
    refine SeqP.call rfl (by rfl) (fun Kq hKq => ?_)
    go_simp
    go_at_call 11
    with_reducible refine (C10_12.out _ _ _ _ _ ha1 ha2 ).mono ?_
    rintro e W23 ⟨rfl, hb23⟩
    replace HBr := Below.cons HBr hb23
    clear hb23
    refine hKq.out _ _ (hSb.out _ _ HBr HSq.out) (fun hSq => ?_)
    clear hSq hKq Kq
    try simp only [Act.put, seq0, seq1, seq2]
    iterate 6 (refine SeqP.take (v := ?_) rfl (fun _ _ _ h => h) (Or.inl ⟨by rfl, ?_⟩) ?_; rotate_left 1; (focus (intro wq hSw; rw [hS.out] at hSw; (try dsimp only at hSw); go_simp; try with_reducible rfl)); try simp only [Act.put, seq0, seq1, seq2])
    refine SeqP.call rfl (by rfl) (fun Kq hKq => ?_)
    go_simp
    go_at_call 22
    with_reducible refine (C10_13.out _ _ _ _ _ (hx.below HBr) (hy.below HBr) (hT.below HBr)).mono ?_
    rintro e W24 ⟨Xs1, cs1, rfl, hs1, hb24⟩
    replace HBr := Below.cons HBr hb24
    clear hb24
    refine hKq.out _ _ (hSb.out _ _ HBr HSq.out) (fun hSq => ?_)
    clear hSq hKq Kq
    try simp only [Act.put, seq0, seq1, seq2]
    refine SeqP.call rfl (by rfl) (fun Kq hKq => ?_)
    go_simp
    go_at_call 23
    with_reducible refine (C10_14.out _ _ _ _ _ (hx.below HBr) (hy.below HBr) ).mono ?_
    rintro e W25 ⟨Xs2, cs2, rfl, hs2, hb25⟩
    replace hs1 := hs1.below hb25
    replace HBr := Below.cons HBr hb25
    clear hb25
    refine hKq.out _ _ (hSb.out _ _ HBr HSq.out) (fun hSq => ?_)
    clear hSq hKq Kq
    try simp only [Act.put, seq0, seq1, seq2]
    refine SeqP.call rfl (by rfl) (fun Kq hKq => ?_)
    go_simp
    go_at_call 11
    with_reducible refine (C10_15.out _ _ _ _ _ hs1 hs2 ).mono ?_
    rintro e W26 ⟨rfl, hb26⟩
    replace HBr := Below.cons HBr hb26
    clear hb26
    refine hKq.out _ _ (hSb.out _ _ HBr HSq.out) (fun hSq => ?_)
    clear hSq hKq Kq
    try simp only [Act.put, seq0, seq1, seq2]
    iterate 6 (refine SeqP.take (v := ?_) rfl (fun _ _ _ h => h) (Or.inl ⟨by rfl, ?_⟩) ?_; rotate_left 1; (focus (intro wq hSw; rw [hS.out] at hSw; (try dsimp only at hSw); go_simp; try with_reducible rfl)); try simp only [Act.put, seq0, seq1, seq2])
    refine SeqP.call rfl (by rfl) (fun Kq hKq => ?_)
    go_simp
    go_at_call 24
    with_reducible refine (C10_16.out _ _ _ _ _ (hx.below HBr) (hy.below HBr) (hT.below HBr) (hG.below HBr)).mono ?_
    rintro e W27 ⟨Xm1, cm1, rfl, hm1, hb27⟩
    replace HBr := Below.cons HBr hb27
    clear hb27
    refine hKq.out _ _ (hSb.out _ _ HBr HSq.out) (fun hSq => ?_)
    clear hSq hKq Kq
    try simp only [Act.put, seq0, seq1, seq2]
    refine SeqP.call rfl (by rfl) (fun Kq hKq => ?_)
    go_simp
    go_at_call 25
    with_reducible refine (C10_17.out _ _ _ _ _ (hx.below HBr) (hy.below HBr) ).mono ?_
    rintro e W28 ⟨Xm2, cm2, rfl, hm2, hb28⟩
    replace hm1 := hm1.below hb28
    replace HBr := Below.cons HBr hb28
    clear hb28
    refine hKq.out _ _ (hSb.out _ _ HBr HSq.out) (fun hSq => ?_)
    clear hSq hKq Kq
    try simp only [Act.put, seq0, seq1, seq2]
    refine SeqP.call rfl (by rfl) (fun Kq hKq => ?_)
    go_simp
    go_at_call 11
    with_reducible refine (C10_18.out _ _ _ _ _ hm1 hm2 ).mono ?_
    rintro e W29 ⟨rfl, hb29⟩
    replace HBr := Below.cons HBr hb29
    clear hb29
    refine hKq.out _ _ (hSb.out _ _ HBr HSq.out) (fun hSq => ?_)
    clear hSq hKq Kq
    try simp only [Act.put, seq0, seq1, seq2]
    iterate 6 (refine SeqP.take (v := ?_) rfl (fun _ _ _ h => h) (Or.inl ⟨by rfl, ?_⟩) ?_; rotate_left 1; (focus (intro wq hSw; rw [hS.out] at hSw; (try dsimp only at hSw); go_simp; try with_reducible rfl)); try simp only [Act.put, seq0, seq1, seq2])
    refine SeqP.call rfl (by rfl) (fun Kq hKq => ?_)
    go_simp
    go_at_call 26
    with_reducible refine (C10_19.out _ _ _ _ _ (hx.below HBr) (hy.below HBr) (hT.below HBr)).mono ?_
    rintro e W30 ⟨Xg1, cg1, rfl, hg1, hb30⟩
    replace HBr := Below.cons HBr hb30
    clear hb30
    refine hKq.out _ _ (hSb.out _ _ HBr HSq.out) (fun hSq => ?_)
    clear hSq hKq Kq
    try simp only [Act.put, seq0, seq1, seq2]
    refine SeqP.call rfl (by rfl) (fun Kq hKq => ?_)
    go_simp
    go_at_call 27
    with_reducible refine (C10_20.out _ _ _ _ _ (hx.below HBr) (hy.below HBr) ).mono ?_
    rintro e W31 ⟨Xg2, cg2, rfl, hg2, hb31⟩
    replace hg1 := hg1.below hb31
    replace HBr := Below.cons HBr hb31
    clear hb31
    refine hKq.out _ _ (hSb.out _ _ HBr HSq.out) (fun hSq => ?_)
    clear hSq hKq Kq
    try simp only [Act.put, seq0, seq1, seq2]
    refine SeqP.call rfl (by rfl) (fun Kq hKq => ?_)
    go_simp
    go_at_call 11
    with_reducible refine (C10_21.out _ _ _ _ _ hg1 hg2 ).mono ?_
    rintro e W32 ⟨rfl, hb32⟩
    replace HBr := Below.cons HBr hb32
    clear hb32
    refine hKq.out _ _ (hSb.out _ _ HBr HSq.out) (fun hSq => ?_)
    clear hSq hKq Kq
    try simp only [Act.put, seq0, seq1, seq2]
    iterate 4 (refine SeqP.take (v := ?_) rfl (fun _ _ _ h => h) (Or.inl ⟨by rfl, ?_⟩) ?_; rotate_left 1; (focus (intro wq hSw; rw [hS.out] at hSw; (try dsimp only at hSw); go_simp; try with_reducible rfl)); try simp only [Act.put, seq0, seq1, seq2])
    refine SeqP.call rfl (by rfl) (fun Kq hKq => ?_)
    go_simp
    go_at_call 29
    with_reducible refine (C10_22.out _ _ _ (hx.below HBr) ).mono ?_
    rintro e W33 ⟨Xq1, cq1, Yq1, dq1, rfl, hq1, gq1, hb33⟩
    replace HBr := Below.cons HBr hb33
    clear hb33
    refine hKq.out _ _ (hSb.out _ _ HBr HSq.out) (fun hSq => ?_)
    clear hSq hKq Kq
    try simp only [Act.put, seq0, seq1, seq2]
    refine SeqP.call rfl (by rfl) (fun Kq hKq => ?_)
    go_simp
    go_at_call 30
    with_reducible refine (C10_23.out _ _ _ (hx.below HBr) ).mono ?_
    rintro e W34 ⟨Xq2, cq2, Yq2, dq2, rfl, hq2, gq2, hb34⟩
    replace hq1 := hq1.below hb34
    replace gq1 := gq1.below hb34
    replace HBr := Below.cons HBr hb34
    clear hb34
    refine hKq.out _ _ (hSb.out _ _ HBr HSq.out) (fun hSq => ?_)
    clear hSq hKq Kq
    try simp only [Act.put, seq0, seq1, seq2]
    refine SeqP.call rfl (by rfl) (fun Kq hKq => ?_)
    go_simp
    go_at_call 28
    with_reducible refine (C10_24.out _ _ _ _ _ _ _ _ _ hq1 gq1 hq2 gq2).mono ?_
    rintro e W35 ⟨rfl, hb35⟩
    replace HBr := Below.cons HBr hb35
    clear hb35
    refine hKq.out _ _ (hSb.out _ _ HBr HSq.out) (fun hSq => ?_)
    clear hSq hKq Kq
    try simp only [Act.put, seq0, seq1, seq2]
    iterate 5 (refine SeqP.take (v := ?_) rfl (fun _ _ _ h => h) (Or.inl ⟨by rfl, ?_⟩) ?_; rotate_left 1; (focus (intro wq hSw; rw [hS.out] at hSw; (try dsimp only at hSw); go_simp; try with_reducible rfl)); try simp only [Act.put, seq0, seq1, seq2])
    replace HSq := Lib.hid (hSb.out _ _ HBr HSq.out)
    replace hT := (hT.below HBr)
    replace hG := (hG.below HBr)
    replace hx := (hx.below HBr)
    replace hy := (hy.below HBr)
    replace hzm := (hzm.below HBr)
    replace HBT := Below.cons HBT HBr
    clear HBr
    refine SeqP.done ?_
    clear hSb
    clear HSq
    all_goals (try go_wp2_with (fail))
    go_ret
    exact ⟨rfl, HBT⟩
end Go.Proofs.YthcmoimlnhghcaaGreatDoor

namespace Go.Proofs.YthcmoimlnhghcaaGreatDoor
open Go.RowKit Go.ChangeShapes Go.WideShapes Go.ChangeAt

theorem dyadTells_lifted (os : Os) (started : os.Started) (H : Type) (enc : TypeId × Value → H) :
    ReturnsInHanded {} Tryz.checked os 3 .any (fun w args => (Rows.dyadTellsSpec.pre enc Tryz.prog Tryz.f3 [] false w args ∧ laidMetH Tryz.prog [("math/bits.deBruijn32tab", Rows.laid_math_bits_deBruijn32tab), ("ziggurat/ntt.fields", Rows.laid_ziggurat_ntt_fields)] w) ∧ sizedMet enc Tryz.prog Tryz.f3 (OpenSpec.ofChange Rows.dyadTellsSpec) false w args)
      (Rows.dyadTellsSpec.post enc Tryz.prog Tryz.f3 false true false false) := by
  refine returnsInHanded_of_change_and (C := Tryz.checked) (X := fun w _ => laidMetH Tryz.prog [("math/bits.deBruijn32tab", Rows.laid_math_bits_deBruijn32tab), ("ziggurat/ntt.fields", Rows.laid_ziggurat_ntt_fields)] w) (fun _ _ _ hh h => h.of_heap hh) row_own started (by kernel_rfl) Tryz.func3
    (ChangeSpec.witness_shaped (enc := enc) (C := Tryz.checked) (os := os) (X := fun w _ => laidMetH Tryz.prog [("math/bits.deBruijn32tab", Rows.laid_math_bits_deBruijn32tab), ("ziggurat/ntt.fields", Rows.laid_ziggurat_ntt_fields)] w) false (World.doorLaid Tryz.prog 400 os) #[.agg #[.bool false, .slice none 0 0, .int .i64 0], .agg #[.bool false, .slice none 0 0, .int .i64 0], .int .i16 0] 8 rfl (World.shaped_of_RefB (by kernel_rfl) (by kernel_rfl)) (by kernel_rfl) (by kernel_rfl) (by kernel_rfl) (door_met2 os _)) ?_
  intro W base args ds gs before hval0 hW _ _ hL _
  have hval : ∀ (j : Nat) t v, Tryz.f3.params[j]? = some t → args[j]? = some v → Value.okWide Tryz.prog W .any base t v := hval0
  have hW' := hW
  obtain ⟨p, q, hA0, hV, rfl, hfz, hnd⟩ := hW
  have hA : DataW.TrodAll enc Tryz.prog W 0 (fun _ => true) true Tryz.f3.params.toList args.toList ds p := hA0
  rw [Tryz.params3] at hA hval
  obtain ⟨v0, vs0, d0, ds0, p0, q0, hargs, rfl, rfl, h0, r0⟩ := trodAll_cons hA
  obtain ⟨v1, vs1, d1, ds1, p1, q1, rfl, rfl, rfl, h1, r1⟩ := trodAll_cons r0
  obtain ⟨v2, vs2, d2, ds2, p2, q2, rfl, rfl, rfl, h2, r2⟩ := trodAll_cons r1
  obtain ⟨rfl, rfl, rfl⟩ := trodAll_nil r2
  obtain rfl : args = #[v0, v1, v2] := by cases args; simp_all
  obtain ⟨rfl, rfl⟩ := trodVars_none hV
  have hT := tab_of_laid2 hL
  have hG := flds_of_laid2 hL
  have k0 := h0
  have lt0 : ∀ x ∈ p0, x.block < W.heap.size := by obtain ⟨m, hm⟩ := k0; exact DataW.trod_lt m _ _ _ hm
  obtain ⟨b0, A0, c0, l0, x0, rfl, i0⟩ := open_dy (hval 0 26 v0 rfl rfl) h0
  have k1 := h1
  have lt1 : ∀ x ∈ p1, x.block < W.heap.size := by obtain ⟨m, hm⟩ := k1; exact DataW.trod_lt m _ _ _ hm
  obtain ⟨b1, A1, c1, l1, x1, rfl, i1⟩ := open_dy (hval 1 26 v1 rfl rfl) h1
  obtain ⟨z2, rfl, rfl, rfl, w2⟩ := open_int Tryz.underlying27 (hval 2 27 v2 rfl rfl) h2
  have bz2 := bounds_i16 w2
  clear hA0 hval0 hval hL
  have hcall := dyadTells_c b0 b1 x0 x1 z2 A0 c0 l0 A1 c1 l1 W hT hG i0.1 i0.2.1 i0.2.2.1 i0.2.2.2.1 i0.2.2.2.2 i1.1 i1.2.1 i1.2.2.1 i1.2.2.2.1 i1.2.2.2.2 bz2
  refine hcall.mono fun e W' ⟨he, bel⟩ => ?_
  subst he
  exact ⟨_, rfl, _, _, _, [], _, [], hW', trodAll_mk1 (shut_bool Tryz.underlying4 _), (trodAll_cons_mk (Below.trod row_out (by kernel_rfl) (of_decide_eq_true (by kernel_rfl)) k0 bel lt0) (trodAll_cons_mk (Below.trod row_out (by kernel_rfl) (of_decide_eq_true (by kernel_rfl)) k1 bel lt1) (trodAll_cons_mk (shut_int Tryz.underlying27 w2) trodAll_mk0))), rfl, bel.frame _, fun h => by cases h⟩
theorem dyadTells_holds : Rows.DyadTellsSaid :=
  OpenClaim.holds_of_wide 3 Tryz.f3 rfl rfl rfl rfl rfl rfl rfl ⟨rfl, rfl, rfl, rfl, rfl⟩ rfl rfl rfl rfl rfl (by kernel_rfl) Tryz.func3 (by kernel_rfl)
    (of_decide_eq_true (by kernel_rfl)) (by unfold Func.isWrapper; first | (rw [if_pos (by decide +kernel)]; kernel_rfl) | (rw [if_neg (by decide +kernel)]; exact ⟨rfl, rfl⟩))
    (fun os started H enc _ => dyadTells_lifted os started H enc)

theorem dyadTells_card : Rows.DyadTellsCardSaid :=
  Claim7.holds_tied_plain_at .later [] [.data, .data] true (true, "fb26df76aa3e4b053ee34eec7cb38b2742bbed4501183c9c7cde0d6612f9eb47") false
    dyadTells_holds (fun _ h => by cases h) (by kernel_rfl) (fun _ h => by cases h) dyadTells_row_tie rfl ⟨rfl, rfl⟩ (by kernel_rfl) rfl
    (fun f fn hf hfn => by
      obtain rfl : f = 3 := Option.some.inj ((show Tryz.prog.funcNamed "ziggurat/zigguratlaw10.DyadTells" = some 3 by kernel_rfl).symm.trans hf) |>.symm
      obtain rfl : fn = Tryz.f3 := (Option.some.inj (Tryz.func3.symm.trans hfn)).symm
      exact ⟨by kernel_rfl, fun j t ht => by
        rw [Tryz.params3] at ht
        have hm : t ∈ [26, 26, 27] := by simpa using Array.mem_of_getElem? ht
        have hall : ([26, 26, 27].all fun u => !Tryz.prog.wantsStandIn u) = true := by kernel_rfl
        exact (show Tryz.prog.wantsStandIn t = false by simpa using List.all_eq_true.1 hall t hm)⟩)
    (by kernel_rfl)
#print axioms dyadTells_card
end Go.Proofs.YthcmoimlnhghcaaGreatDoor
