/- For all inputs dyadic numbers are rationals: sums, differences, products and order are theirs, and a dyadic number is made of its rational again, at its own bits, by any direction: DyadRationals returns true and leaves its arguments as they were. Conditions: Each package-level variable that the row lists (math/bits.deBruijn32tab, ntt.fields) holds at the call what its package's text lays; the tie is given and covers the pruned copy of the repository. -/
import Derived.Test.YtacjfpibilolnaaGreatDoorSB42
import Derived.Test.YtacjfpibilolnaaGreatDoorSB36
import Derived.Test.YtacjfpibilolnaaGreatDoorSB40
import Derived.Test.YtacjfpibilolnaaGreatDoorSB41
import Derived.Test.YtacjfpibilolnaaGreatDoorCards
import Derived.Test.YtacjfpibilolnaaGreatDoorTie
import Derived.SevenTiedAt
set_option maxRecDepth 100000
set_option maxHeartbeats 4000000
/- Laws of dyadic numbers: DyadRationals. -/
set_option linter.unusedVariables false
set_option linter.unusedSimpArgs false
namespace Go.Proofs.YtacjfpibilolnaaGreatDoor
open Go.RowKit Go.Shelf
attribute [local go_sem] max2_i min2_i max_two min_two

theorem num_sign (q : Rat) : (dmn q).sign = q.num.sign := by
  have h2 := (dm_spec q.num).1
  conv => rhs; rw [h2]
  rw [Int.sign_mul, Int.sign_eq_one_of_pos (Int.pow_pos (by decide)), Int.mul_one]; rfl
theorem dyadRationals_c (sa sb : Bool) (xa xb : Int) (dd : Nat) (A : Option Addr) (c : Nat) (l : List Nat) (B : Option Addr) (d : Nat) (k : List Nat) (w : World) (hT : Tab w) (hG : Flds w) (hl : Rd w A l) (Ll : Lim l) (Ql : l.length ≤ maxLen) (Cl : l.length ≤ c) (Zl : A = none → c = 0) (hk : Rd w B k) (Lk : Lim k) (Qk : k.length ≤ maxLen) (Ck : k.length ≤ d) (Zk : B = none → d = 0) (hd : dd < 256) :
    Calls Tryz.prog 11 #[.agg #[.bool sa, .slice A l.length c, .int .i64 xa], .agg #[.bool sb, .slice B k.length d, .int .i64 xb], .int .u8 (dd : Nat)] w fun e w' => e = .returned (.bool true) ∧ Below w.heap.size w w' := by
  replace Zl := Lib.hid Zl
  replace Zk := Lib.hid Zk
  have hT0 := hT
  have hG0 := hG
  have hl0 := hl
  have hk0 := hk
  obtain ⟨i, Ei⟩ : ∃ y, y = dd % 5 := ⟨_, rfl⟩
  have Ii : (dd : Int) % 5 = (i : Int) := by omega
  have Ji : (dd : Int).tmod 5 = (i : Int) := by rw [Int.tmod_eq_emod_of_nonneg (by omega)]; exact Ii
  have Bi : i < 5 := by omega
  replace Ei := Lib.hid Ei
  have Wdd : IntKind.i64.wrap (dd : Int) = (dd : Int) := IntWalk.i64_in _ (by omega)
  have Wi : IntKind.i64.wrap (i : Int) = (i : Int) := IntWalk.i64_in _ (by omega)
  have i0 : (0 : Int) ≤ (i : Int) := Int.natCast_nonneg i
  have i4 : (i : Int) ≤ 4 := by omega
  obtain ⟨x, Ex⟩ : ∃ z : Rat, z = dval (ival sa (val (l.take 8))) (cutE xa) := ⟨_, rfl⟩
  have Ox : DB x 8 456 := by rw [Ex]; exact db_val (E := 200) (by rw [mg_ival]; exact made_nl l Ll 8) (cutE_bd xa)
  have C1 := fun (W : World) (h1 : Rd W A l) => tmadeI_c sa A c l xa 8 8 W h1 Ll Ql Cl Zl.out (by decide) rfl
  rw [← Ex] at C1
  replace Ex := Lib.hid Ex
  replace C1 := Lib.hid C1
  obtain ⟨y, Ey⟩ : ∃ z : Rat, z = dval (ival sb (val (k.take 8))) (cutE xb) := ⟨_, rfl⟩
  have Oy : DB y 8 456 := by rw [Ey]; exact db_val (E := 200) (by rw [mg_ival]; exact made_nl k Lk 8) (cutE_bd xb)
  have C2 := fun (W : World) (h1 : Rd W B k) => tmadeI_c sb B d k xb 8 8 W h1 Lk Qk Ck Zk.out (by decide) rfl
  rw [← Ey] at C2
  replace Ey := Lib.hid Ey
  replace C2 := Lib.hid C2
  have be := Ox.e
  obtain ⟨nx, Enx⟩ : ∃ q : Int, q = -(dex x) := ⟨_, rfl⟩
  have Inx : -(dex x) = nx := Enx.symm
  have Wnx : IntKind.i64.wrap nx = nx := IntWalk.i64_in _ (by omega)
  obtain ⟨mx, Emx⟩ : ∃ q : Int, q = max nx 0 := ⟨_, rfl⟩
  have Imx : max nx 0 = mx := Emx.symm
  have bm : 0 ≤ mx ∧ mx ≤ 456 ∧ -mx ≤ dex x := by omega
  replace be := Lib.hid be
  obtain ⟨bm0, bm1, bm2⟩ := bm
  replace Enx := Lib.hid Enx
  replace Emx := Lib.hid Emx
  replace bm2 := Lib.hid bm2
  obtain ⟨hb1, Ra, Rb⟩ := bx2 w #[.bool sa, .slice A l.length c, .int .i64 xa] 28 #[.bool sb, .slice B k.length d, .int .i64 xb] 28
  replace hT := hT.below hb1
  replace hG := hG.below hb1
  replace hl := hl.below hb1
  replace hk := hk.below hb1
  have HBT := hb1
  clear hb1
  have qa0 := Ra.c (i := 0) rfl
  have qa1 := Ra.c (i := 1) rfl
  have qa2 := Ra.c (i := 2) rfl
  have qb0 := Rb.c (i := 0) rfl
  have qb1 := Rb.c (i := 1) rfl
  have qb2 := Rb.c (i := 2) rfl
  go_enter Tryz.func11, Tryz.ntmps11
  go_wp2_with (fail)
  refine (Calls.mono (dhead_c _ hT) ?_)
  rintro e W2 ⟨rfl, hb2⟩
  replace hT := hT.below hb2
  replace hG := hG.below hb2
  replace hl := hl.below hb2
  replace hk := hk.below hb2
  replace Ra := Ra.below hb2
  replace qa0 := cbl hb2 qa0
  replace qa1 := cbl hb2 qa1
  replace qa2 := cbl hb2 qa2
  replace Rb := Rb.below hb2
  replace qb0 := cbl hb2 qb0
  replace qb1 := cbl hb2 qb1
  replace qb2 := cbl hb2 qb2
  replace HBT := Below.cons HBT hb2
  clear hb2
  go_wp2_with (fail)
  refine wp_region_inv (fun E a' w' => ∃ (u17 u18 u19 u20 u8 u9 : Value),
    a' = { tmps := #[.agg #[.bool sa, .slice A l.length c, .int .i64 xa], .agg #[.bool sb, .slice B k.length d, .int .i64 xb], .int .u8 (dd : Nat), .pointer (some ⟨w.heap.size, 0, none⟩), .pointer (some ⟨(w.heap.size + 1), 0, none⟩), undef, .bool false, .bool true, u8, u9, undef, undef, undef, undef, undef, undef, .bool true, u17, u18, u19, u20, undef, undef, undef, undef, undef, undef, undef, undef, undef, undef, undef, undef, undef, undef, undef, undef, undef, undef, undef, undef, undef, undef, undef, undef, undef, undef, undef, undef, undef, undef, undef, undef, undef, undef, undef, undef, undef, undef, undef, undef, undef, undef, undef, undef, undef, undef, undef, undef, undef, undef, undef, undef, undef, undef, undef, undef, undef, undef, undef, undef, undef, undef, undef, undef, undef, undef, undef, undef, undef, undef, undef, undef, undef, undef, undef, undef, undef, undef, undef, undef, undef, undef, undef, undef, undef, undef, undef, undef, undef, undef, undef, undef, undef], defers := [] } ∧
    (E 0 = true → u17 = .agg #[.bool sa, .slice A l.length c, .int .i64 xa]) ∧
    (E 1 = true → PD u18 x w') ∧
    (E 2 = true → u19 = .agg #[.bool sb, .slice B k.length d, .int .i64 xb]) ∧
    (E 3 = true → PD u20 y w') ∧
    (E 4 = true → PB3 28 W2.heap.size u8 w') ∧
    (E 5 = true → PB3 28 W2.heap.size u9 w') ∧
    (E 6 = true → PBD W2.heap.size u8 x w') ∧
    (E 7 = true → PBD W2.heap.size u9 y w') ∧
    (E 6 = true → E 4 = true) ∧
    (E 7 = true → E 5 = true) ∧
    (E 4 = true → E 5 = true → u8 ≠ u9) ∧
    Below W2.heap.size W2 w') (by kernel_rfl) (by kernel_rfl) ?init ?fin ?step
  case init => exact ⟨_, _, _, _, _, _, rfl, by simp, by simp, by simp, by simp, by simp, by simp, by simp, by simp, by simp, by simp, by simp, (Below.refl _ _).drew⟩
  case step =>
    rintro E a' w' i ⟨u17, u18, u19, u20, u8, u9, rfl, h0, h1, h2, h3, h4, h5, h6, h7, hD6, hD7, hN4_5, hB⟩ hi hEi hdep
    have qa0 := cbl hB qa0
    have qa1 := cbl hB qa1
    have qa2 := cbl hB qa2
    have qb0 := cbl hB qb0
    have qb1 := cbl hB qb1
    have qb2 := cbl hB qb2
    obtain rfl | rfl | rfl | rfl | rfl | rfl | rfl | rfl : i = 0 ∨ i = 1 ∨ i = 2 ∨ i = 3 ∨ i = 4 ∨ i = 5 ∨ i = 6 ∨ i = 7 := by simp at hi; omega
    · skip
      refine wpOp_step rfl (fun K' hK' => ?_)
      go_simp
      refine hK' _ _ ?_
      exact ⟨_, _, _, _, _, _, rfl, fun _ => rfl, keepD (by decide) h1, keepD (by decide) h2, keepD (by decide) h3, keepD (by decide) h4, keepD (by decide) h5, keepD (by decide) h6, keepD (by decide) h7, (fun h => by have := hD6 (by simpa using h); simpa using this), (fun h => by have := hD7 (by simpa using h); simpa using this), (fun h k => hN4_5 (by simpa using h) (by simpa using k)), hB⟩
    · skip
      have d0 := hdep _ rfl ⟨0, .data⟩ (by simp) rfl
      obtain rfl := h0 d0
      refine wpOp_step rfl (fun K' hK' => ?_)
      go_simp
      refine (Calls.mono (C1.out w' (hl.below hB)) ?_)
      rintro e W1 ⟨Xr, cr, rfl, kr, kb⟩
      refine hK' _ _ ?_
      exact ⟨_, _, _, _, _, _, rfl, keepD (by decide) h0, fun _ => ⟨Xr, cr, rfl, kr⟩, keepD (by decide) h2, keepP (by decide) h3 (fun h => h.below kb), keepP (by decide) h4 (fun h => h.below kb), keepP (by decide) h5 (fun h => h.below kb), keepP (by decide) h6 (fun h => h.below kb), keepP (by decide) h7 (fun h => h.below kb), (fun h => by have := hD6 (by simpa using h); simpa using this), (fun h => by have := hD7 (by simpa using h); simpa using this), (fun h k => hN4_5 (by simpa using h) (by simpa using k)), Below.cons hB kb⟩
    · skip
      refine wpOp_step rfl (fun K' hK' => ?_)
      go_simp
      refine hK' _ _ ?_
      exact ⟨_, _, _, _, _, _, rfl, keepD (by decide) h0, keepD (by decide) h1, fun _ => rfl, keepD (by decide) h3, keepD (by decide) h4, keepD (by decide) h5, keepD (by decide) h6, keepD (by decide) h7, (fun h => by have := hD6 (by simpa using h); simpa using this), (fun h => by have := hD7 (by simpa using h); simpa using this), (fun h k => hN4_5 (by simpa using h) (by simpa using k)), hB⟩
    · skip
      have d2 := hdep _ rfl ⟨2, .data⟩ (by simp) rfl
      obtain rfl := h2 d2
      refine wpOp_step rfl (fun K' hK' => ?_)
      go_simp
      refine (Calls.mono (C2.out w' (hk.below hB)) ?_)
      rintro e W1 ⟨Xr, cr, rfl, kr, kb⟩
      refine hK' _ _ ?_
      exact ⟨_, _, _, _, _, _, rfl, keepD (by decide) h0, keepP (by decide) h1 (fun h => h.below kb), keepD (by decide) h2, fun _ => ⟨Xr, cr, rfl, kr⟩, keepP (by decide) h4 (fun h => h.below kb), keepP (by decide) h5 (fun h => h.below kb), keepP (by decide) h6 (fun h => h.below kb), keepP (by decide) h7 (fun h => h.below kb), (fun h => by have := hD6 (by simpa using h); simpa using this), (fun h => by have := hD7 (by simpa using h); simpa using this), (fun h k => hN4_5 (by simpa using h) (by simpa using k)), Below.cons hB kb⟩
    · skip
      have kb : Below w'.heap.size w' (w'.alloc (.cells #[.bool false, .slice none 0 0, .int .i64 0] 28)) := (Below.refl _ _).alloc (Nat.le_refl _) _
      refine wpOp_step rfl (fun K' hK' => ?_)
      go_simp
      refine hK' _ _ ?_
      exact ⟨_, _, _, _, _, _, rfl, keepD (by decide) h0, keepP (by decide) h1 (fun h => h.below kb), keepD (by decide) h2, keepP (by decide) h3 (fun h => h.below kb), fun _ => ⟨_, _, _, _, rfl, hB.size, ⟨at_new rfl⟩, notU_bool _, notU_slice _ _ _, notU_i64 _⟩, keepP (by decide) h5 (fun h => h.below kb), (fun h => by have h2 := hD6 (by simpa using h); rw [hEi] at h2; cases h2), keepP (by decide) h7 (fun h => h.below kb), (fun _ => by simp), (fun h => by have := hD7 (by simpa using h); simpa using this), (fun _ h => by obtain ⟨n2, e2, l2⟩ := (h5 (by simpa using h)).lt; rw [e2]; intro e3; simp at e3 <;> omega), Below.cons hB kb⟩
    · skip
      have kb : Below w'.heap.size w' (w'.alloc (.cells #[.bool false, .slice none 0 0, .int .i64 0] 28)) := (Below.refl _ _).alloc (Nat.le_refl _) _
      refine wpOp_step rfl (fun K' hK' => ?_)
      go_simp
      refine hK' _ _ ?_
      exact ⟨_, _, _, _, _, _, rfl, keepD (by decide) h0, keepP (by decide) h1 (fun h => h.below kb), keepD (by decide) h2, keepP (by decide) h3 (fun h => h.below kb), keepP (by decide) h4 (fun h => h.below kb), fun _ => ⟨_, _, _, _, rfl, hB.size, ⟨at_new rfl⟩, notU_bool _, notU_slice _ _ _, notU_i64 _⟩, keepP (by decide) h6 (fun h => h.below kb), (fun h => by have h2 := hD7 (by simpa using h); rw [hEi] at h2; cases h2), (fun h => by have := hD6 (by simpa using h); simpa using this), (fun _ => by simp), (fun h _ => by obtain ⟨n2, e2, l2⟩ := (h4 (by simpa using h)).lt; rw [e2]; intro e3; simp at e3 <;> omega), Below.cons hB kb⟩
    · skip
      have d4 := hdep _ rfl ⟨4, .data⟩ (by simp) rfl
      obtain ⟨nb, z0, z1, z2, rfl, hn, hb, nz0, nz1, nz2⟩ := h4 d4
      have d1 := hdep _ rfl ⟨1, .data⟩ (by simp) rfl
      obtain ⟨X_1, c_1, rfl, k_1⟩ := h1 d1
      have fz0 := hb.f (i := 0)
      have cz0 := hb.c (i := 0) rfl
      have fz1 := hb.f (i := 1)
      have cz1 := hb.c (i := 1) rfl
      have fz2 := hb.f (i := 2)
      have cz2 := hb.c (i := 2) rfl
      have hp := hb.put3 (notU3 nz0 nz1 nz2) (.bool (sg (dmn x))) (.slice X_1 (nl (mg (dmn x))) c_1) (.int .i64 (dex x))
      have hs := hb.store3 (.bool (sg (dmn x))) (.slice X_1 (nl (mg (dmn x))) c_1) (.int .i64 (dex x))
      refine wpOp_step rfl (fun K' hK' => ?_)
      go_simp
      refine hK' _ _ ?_
      exact ⟨_, _, _, _, _, _, rfl, keepD (by decide) h0, keepP (by decide) h1 (fun h => h.put hp), keepD (by decide) h2, keepP (by decide) h3 (fun h => h.put hp), (fun _ => ⟨nb, _, _, _, rfl, hn, hs, notU_bool _, notU_slice _ _ _, notU_i64 _⟩), keepP' (by decide) h5 (fun e h => h.put hp (fun e3 => hN4_5 d4 (by simpa using e) e3.symm)), fun _ => ⟨nb, X_1, c_1, rfl, hn, hs, hp.nat k_1⟩, keepP' (by decide) h7 (fun e h => h.put hp (fun e3 => hN4_5 d4 (hD7 (by simpa using e)) e3.symm)), (fun _ => by simp [d4]), (fun h => by have := hD7 (by simpa using h); simpa using this), (fun h k => hN4_5 (by simpa using h) (by simpa using k)), Below.store3 hB hn⟩
    · skip
      have d5 := hdep _ rfl ⟨5, .data⟩ (by simp) rfl
      obtain ⟨nb, z0, z1, z2, rfl, hn, hb, nz0, nz1, nz2⟩ := h5 d5
      have d3 := hdep _ rfl ⟨3, .data⟩ (by simp) rfl
      obtain ⟨X_3, c_3, rfl, k_3⟩ := h3 d3
      have fz0 := hb.f (i := 0)
      have cz0 := hb.c (i := 0) rfl
      have fz1 := hb.f (i := 1)
      have cz1 := hb.c (i := 1) rfl
      have fz2 := hb.f (i := 2)
      have cz2 := hb.c (i := 2) rfl
      have hp := hb.put3 (notU3 nz0 nz1 nz2) (.bool (sg (dmn y))) (.slice X_3 (nl (mg (dmn y))) c_3) (.int .i64 (dex y))
      have hs := hb.store3 (.bool (sg (dmn y))) (.slice X_3 (nl (mg (dmn y))) c_3) (.int .i64 (dex y))
      refine wpOp_step rfl (fun K' hK' => ?_)
      go_simp
      refine hK' _ _ ?_
      exact ⟨_, _, _, _, _, _, rfl, keepD (by decide) h0, keepP (by decide) h1 (fun h => h.put hp), keepD (by decide) h2, keepP (by decide) h3 (fun h => h.put hp), keepP' (by decide) h4 (fun e h => h.put hp (hN4_5 (by simpa using e) d5)), (fun _ => ⟨nb, _, _, _, rfl, hn, hs, notU_bool _, notU_slice _ _ _, notU_i64 _⟩), keepP' (by decide) h6 (fun e h => h.put hp (hN4_5 (hD6 (by simpa using e)) d5)), fun _ => ⟨nb, X_3, c_3, rfl, hn, hs, hp.nat k_3⟩, (fun h => by have := hD6 (by simpa using h); simpa using this), (fun _ => by simp [d5]), (fun h k => hN4_5 (by simpa using h) (by simpa using k)), Below.store3 hB hn⟩
  case fin =>
    rintro E a' w' ⟨u17, u18, u19, u20, u8, u9, rfl, h0, h1, h2, h3, h4, h5, h6, h7, hD6, hD7, hN4_5, hB⟩ hall
    obtain ⟨nbx, Xx, cx, rfl, hnx, Rx, hx⟩ := h6 (hall 6 (by simp))
    obtain ⟨nby, Xy, cy, rfl, hny, Ry, hy⟩ := h7 (hall 7 (by simp))
    replace hT := hT.below hB
    replace hG := hG.below hB
    replace hl := hl.below hB
    replace hk := hk.below hB
    replace Ra := Ra.below hB
    replace qa0 := cbl hB qa0
    replace qa1 := cbl hB qa1
    replace qa2 := cbl hB qa2
    replace Rb := Rb.below hB
    replace qb0 := cbl hB qb0
    replace qb1 := cbl hB qb1
    replace qb2 := cbl hB qb2
    replace HBT := Below.cons HBT hB
    have kvx := hnx
    have qx0 := Rx.c (i := 0) rfl
    have qx1 := Rx.c (i := 1) rfl
    have qx2 := Rx.c (i := 2) rfl
    have kvy := hny
    have qy0 := Ry.c (i := 0) rfl
    have qy1 := Ry.c (i := 1) rfl
    have qy2 := Ry.c (i := 2) rfl
    clear Ra
    clear Rb
    clear qa0
    clear qa1
    clear qa2
    clear qb0
    clear qb1
    clear qb2
    obtain rfl := h0 (hall 0 (by simp))
    obtain rfl := h2 (hall 2 (by simp))
    clear hall
    generalize hV1 : w' = V1 at *
    clear hV1
    go_wp2_with (fail)
    obtain ⟨v, Ev⟩ : ∃ z : Rat, z = x := ⟨_, rfl⟩
    have Nv := db_sz Ox
    rw [← Ev] at Nv
    have C3 := fun (W : World) (h : NatV W Xx cx (mg (dmn x))) => (show Calls Tryz.prog 55 #[.agg #[.bool (sg (dmn x)), .slice Xx (nl (mg (dmn x))) cx, .int .i64 (dex x)]] W (RetR W v) by rw [Ev]; exact drat_c Xx cx x W h (Ox.ok (by decide) (by decide)))
    replace C3 := Lib.hid C3
    replace Ev := Lib.hid Ev
    obtain ⟨t, Et⟩ : ∃ z : Rat, z = y := ⟨_, rfl⟩
    have Nt := db_sz Oy
    rw [← Et] at Nt
    have C4 := fun (W : World) (h : NatV W Xy cy (mg (dmn y))) => (show Calls Tryz.prog 55 #[.agg #[.bool (sg (dmn y)), .slice Xy (nl (mg (dmn y))) cy, .int .i64 (dex y)]] W (RetR W t) by rw [Et]; exact drat_c Xy cy y W h (Oy.ok (by decide) (by decide)))
    replace C4 := Lib.hid C4
    replace Et := Lib.hid Et
    refine wp_region_inv (fun E a' w' => ∃ (u21 u22 u23 u24 u10 u11 : Value),
      a' = { tmps := #[.agg #[.bool sa, .slice A l.length c, .int .i64 xa], .agg #[.bool sb, .slice B k.length d, .int .i64 xb], .int .u8 (dd : Nat), .pointer (some ⟨w.heap.size, 0, none⟩), .pointer (some ⟨(w.heap.size + 1), 0, none⟩), undef, .bool false, .bool true, .pointer (some ⟨nbx, 0, none⟩), .pointer (some ⟨nby, 0, none⟩), u10, u11, undef, undef, undef, undef, .bool true, .agg #[.bool sa, .slice A l.length c, .int .i64 xa], u18, .agg #[.bool sb, .slice B k.length d, .int .i64 xb], u20, u21, u22, u23, u24, undef, undef, undef, undef, undef, undef, undef, undef, undef, undef, undef, undef, undef, undef, undef, undef, undef, undef, undef, undef, undef, undef, undef, undef, undef, undef, undef, undef, undef, undef, undef, undef, undef, undef, undef, undef, undef, undef, undef, undef, undef, undef, undef, undef, undef, undef, undef, undef, undef, undef, undef, undef, undef, undef, undef, undef, undef, undef, undef, undef, undef, undef, undef, undef, undef, undef, undef, undef, undef, undef, undef, undef, undef, undef, undef, undef, undef, undef, undef, undef, undef, undef, undef, undef, undef, undef, undef, undef, undef], defers := [] } ∧
      (E 0 = true → u21 = .agg #[.bool (sg (dmn x)), .slice Xx (nl (mg (dmn x))) cx, .int .i64 (dex x)]) ∧
      (E 1 = true → PR u22 v w') ∧
      (E 2 = true → u23 = .agg #[.bool (sg (dmn y)), .slice Xy (nl (mg (dmn y))) cy, .int .i64 (dex y)]) ∧
      (E 3 = true → PR u24 t w') ∧
      (E 4 = true → PB3 26 V1.heap.size u10 w') ∧
      (E 5 = true → PB3 26 V1.heap.size u11 w') ∧
      (E 6 = true → PBR V1.heap.size u10 v w') ∧
      (E 7 = true → PBR V1.heap.size u11 t w') ∧
      (E 6 = true → E 4 = true) ∧
      (E 7 = true → E 5 = true) ∧
      (E 4 = true → E 5 = true → u10 ≠ u11) ∧
      Below V1.heap.size V1 w') (by kernel_rfl) (by kernel_rfl) ?init ?fin ?step
    case init => exact ⟨_, _, _, _, _, _, rfl, by simp, by simp, by simp, by simp, by simp, by simp, by simp, by simp, by simp, by simp, by simp, (Below.refl _ _).drew⟩
    case step =>
      rintro E a' w' i ⟨u21, u22, u23, u24, u10, u11, rfl, h0, h1, h2, h3, h4, h5, h6, h7, hD6, hD7, hN4_5, hB⟩ hi hEi hdep
      have qx0 := cbl hB qx0
      have qx1 := cbl hB qx1
      have qx2 := cbl hB qx2
      have qy0 := cbl hB qy0
      have qy1 := cbl hB qy1
      have qy2 := cbl hB qy2
      obtain rfl | rfl | rfl | rfl | rfl | rfl | rfl | rfl : i = 0 ∨ i = 1 ∨ i = 2 ∨ i = 3 ∨ i = 4 ∨ i = 5 ∨ i = 6 ∨ i = 7 := by simp at hi; omega
      · skip
        refine wpOp_step rfl (fun K' hK' => ?_)
        go_simp
        refine hK' _ _ ?_
        exact ⟨_, _, _, _, _, _, rfl, fun _ => rfl, keepD (by decide) h1, keepD (by decide) h2, keepD (by decide) h3, keepD (by decide) h4, keepD (by decide) h5, keepD (by decide) h6, keepD (by decide) h7, (fun h => by have := hD6 (by simpa using h); simpa using this), (fun h => by have := hD7 (by simpa using h); simpa using this), (fun h k => hN4_5 (by simpa using h) (by simpa using k)), hB⟩
      · skip
        have d0 := hdep _ rfl ⟨0, .data⟩ (by simp) rfl
        obtain rfl := h0 d0
        refine wpOp_step rfl (fun K' hK' => ?_)
        go_simp
        refine (Calls.mono (C3.out w' (hx.below hB)) ?_)
        rintro e W1 ⟨Xr, cr, Yr, dr, rfl, kr, lr, kb⟩
        refine hK' _ _ ?_
        exact ⟨_, _, _, _, _, _, rfl, keepD (by decide) h0, fun _ => ⟨Xr, cr, Yr, dr, rfl, kr, lr⟩, keepD (by decide) h2, keepP (by decide) h3 (fun h => h.below kb), keepP (by decide) h4 (fun h => h.below kb), keepP (by decide) h5 (fun h => h.below kb), keepP (by decide) h6 (fun h => h.below kb), keepP (by decide) h7 (fun h => h.below kb), (fun h => by have := hD6 (by simpa using h); simpa using this), (fun h => by have := hD7 (by simpa using h); simpa using this), (fun h k => hN4_5 (by simpa using h) (by simpa using k)), Below.cons hB kb⟩
      · skip
        refine wpOp_step rfl (fun K' hK' => ?_)
        go_simp
        refine hK' _ _ ?_
        exact ⟨_, _, _, _, _, _, rfl, keepD (by decide) h0, keepD (by decide) h1, fun _ => rfl, keepD (by decide) h3, keepD (by decide) h4, keepD (by decide) h5, keepD (by decide) h6, keepD (by decide) h7, (fun h => by have := hD6 (by simpa using h); simpa using this), (fun h => by have := hD7 (by simpa using h); simpa using this), (fun h k => hN4_5 (by simpa using h) (by simpa using k)), hB⟩
      · skip
        have d2 := hdep _ rfl ⟨2, .data⟩ (by simp) rfl
        obtain rfl := h2 d2
        refine wpOp_step rfl (fun K' hK' => ?_)
        go_simp
        refine (Calls.mono (C4.out w' (hy.below hB)) ?_)
        rintro e W1 ⟨Xr, cr, Yr, dr, rfl, kr, lr, kb⟩
        refine hK' _ _ ?_
        exact ⟨_, _, _, _, _, _, rfl, keepD (by decide) h0, keepP (by decide) h1 (fun h => h.below kb), keepD (by decide) h2, fun _ => ⟨Xr, cr, Yr, dr, rfl, kr, lr⟩, keepP (by decide) h4 (fun h => h.below kb), keepP (by decide) h5 (fun h => h.below kb), keepP (by decide) h6 (fun h => h.below kb), keepP (by decide) h7 (fun h => h.below kb), (fun h => by have := hD6 (by simpa using h); simpa using this), (fun h => by have := hD7 (by simpa using h); simpa using this), (fun h k => hN4_5 (by simpa using h) (by simpa using k)), Below.cons hB kb⟩
      · skip
        have kb : Below w'.heap.size w' (w'.alloc (.cells #[.bool false, .slice none 0 0, .slice none 0 0] 26)) := (Below.refl _ _).alloc (Nat.le_refl _) _
        refine wpOp_step rfl (fun K' hK' => ?_)
        go_simp
        refine hK' _ _ ?_
        exact ⟨_, _, _, _, _, _, rfl, keepD (by decide) h0, keepP (by decide) h1 (fun h => h.below kb), keepD (by decide) h2, keepP (by decide) h3 (fun h => h.below kb), fun _ => ⟨_, _, _, _, rfl, hB.size, ⟨at_new rfl⟩, notU_bool _, notU_slice _ _ _, notU_slice _ _ _⟩, keepP (by decide) h5 (fun h => h.below kb), (fun h => by have h2 := hD6 (by simpa using h); rw [hEi] at h2; cases h2), keepP (by decide) h7 (fun h => h.below kb), (fun _ => by simp), (fun h => by have := hD7 (by simpa using h); simpa using this), (fun _ h => by obtain ⟨n2, e2, l2⟩ := (h5 (by simpa using h)).lt; rw [e2]; intro e3; simp at e3 <;> omega), Below.cons hB kb⟩
      · skip
        have kb : Below w'.heap.size w' (w'.alloc (.cells #[.bool false, .slice none 0 0, .slice none 0 0] 26)) := (Below.refl _ _).alloc (Nat.le_refl _) _
        refine wpOp_step rfl (fun K' hK' => ?_)
        go_simp
        refine hK' _ _ ?_
        exact ⟨_, _, _, _, _, _, rfl, keepD (by decide) h0, keepP (by decide) h1 (fun h => h.below kb), keepD (by decide) h2, keepP (by decide) h3 (fun h => h.below kb), keepP (by decide) h4 (fun h => h.below kb), fun _ => ⟨_, _, _, _, rfl, hB.size, ⟨at_new rfl⟩, notU_bool _, notU_slice _ _ _, notU_slice _ _ _⟩, keepP (by decide) h6 (fun h => h.below kb), (fun h => by have h2 := hD7 (by simpa using h); rw [hEi] at h2; cases h2), (fun h => by have := hD6 (by simpa using h); simpa using this), (fun _ => by simp), (fun h _ => by obtain ⟨n2, e2, l2⟩ := (h4 (by simpa using h)).lt; rw [e2]; intro e3; simp at e3 <;> omega), Below.cons hB kb⟩
      · skip
        have d4 := hdep _ rfl ⟨4, .data⟩ (by simp) rfl
        obtain ⟨nb, z0, z1, z2, rfl, hn, hb, nz0, nz1, nz2⟩ := h4 d4
        have d1 := hdep _ rfl ⟨1, .data⟩ (by simp) rfl
        obtain ⟨X_1, c_1, Y_1, d_1, rfl, k_1, l_1⟩ := h1 d1
        have fz0 := hb.f (i := 0)
        have cz0 := hb.c (i := 0) rfl
        have fz1 := hb.f (i := 1)
        have cz1 := hb.c (i := 1) rfl
        have fz2 := hb.f (i := 2)
        have cz2 := hb.c (i := 2) rfl
        have hp := hb.put3 (notU3 nz0 nz1 nz2) (.bool (sg v.num)) (.slice X_1 (nl (mg v.num)) c_1) (.slice Y_1 (nl v.den) d_1)
        have hs := hb.store3 (.bool (sg v.num)) (.slice X_1 (nl (mg v.num)) c_1) (.slice Y_1 (nl v.den) d_1)
        refine wpOp_step rfl (fun K' hK' => ?_)
        go_simp
        refine hK' _ _ ?_
        exact ⟨_, _, _, _, _, _, rfl, keepD (by decide) h0, keepP (by decide) h1 (fun h => h.put hp), keepD (by decide) h2, keepP (by decide) h3 (fun h => h.put hp), (fun _ => ⟨nb, _, _, _, rfl, hn, hs, notU_bool _, notU_slice _ _ _, notU_slice _ _ _⟩), keepP' (by decide) h5 (fun e h => h.put hp (fun e3 => hN4_5 d4 (by simpa using e) e3.symm)), fun _ => ⟨nb, X_1, c_1, Y_1, d_1, rfl, hn, hs, hp.nat k_1, hp.nat l_1⟩, keepP' (by decide) h7 (fun e h => h.put hp (fun e3 => hN4_5 d4 (hD7 (by simpa using e)) e3.symm)), (fun _ => by simp [d4]), (fun h => by have := hD7 (by simpa using h); simpa using this), (fun h k => hN4_5 (by simpa using h) (by simpa using k)), Below.store3 hB hn⟩
      · skip
        have d5 := hdep _ rfl ⟨5, .data⟩ (by simp) rfl
        obtain ⟨nb, z0, z1, z2, rfl, hn, hb, nz0, nz1, nz2⟩ := h5 d5
        have d3 := hdep _ rfl ⟨3, .data⟩ (by simp) rfl
        obtain ⟨X_3, c_3, Y_3, d_3, rfl, k_3, l_3⟩ := h3 d3
        have fz0 := hb.f (i := 0)
        have cz0 := hb.c (i := 0) rfl
        have fz1 := hb.f (i := 1)
        have cz1 := hb.c (i := 1) rfl
        have fz2 := hb.f (i := 2)
        have cz2 := hb.c (i := 2) rfl
        have hp := hb.put3 (notU3 nz0 nz1 nz2) (.bool (sg t.num)) (.slice X_3 (nl (mg t.num)) c_3) (.slice Y_3 (nl t.den) d_3)
        have hs := hb.store3 (.bool (sg t.num)) (.slice X_3 (nl (mg t.num)) c_3) (.slice Y_3 (nl t.den) d_3)
        refine wpOp_step rfl (fun K' hK' => ?_)
        go_simp
        refine hK' _ _ ?_
        exact ⟨_, _, _, _, _, _, rfl, keepD (by decide) h0, keepP (by decide) h1 (fun h => h.put hp), keepD (by decide) h2, keepP (by decide) h3 (fun h => h.put hp), keepP' (by decide) h4 (fun e h => h.put hp (hN4_5 (by simpa using e) d5)), (fun _ => ⟨nb, _, _, _, rfl, hn, hs, notU_bool _, notU_slice _ _ _, notU_slice _ _ _⟩), keepP' (by decide) h6 (fun e h => h.put hp (hN4_5 (hD6 (by simpa using e)) d5)), fun _ => ⟨nb, X_3, c_3, Y_3, d_3, rfl, hn, hs, hp.nat k_3, hp.nat l_3⟩, (fun h => by have := hD6 (by simpa using h); simpa using this), (fun _ => by simp [d5]), (fun h k => hN4_5 (by simpa using h) (by simpa using k)), Below.store3 hB hn⟩
    case fin =>
      rintro E a' w' ⟨u21, u22, u23, u24, u10, u11, rfl, h0, h1, h2, h3, h4, h5, h6, h7, hD6, hD7, hN4_5, hB⟩ hall
      obtain ⟨nbv, Xv, cv, Yv, dv, rfl, hnv, Rv, hv, gv⟩ := h6 (hall 6 (by simp))
      obtain ⟨nbt, Xt, ct, Yt, dt, rfl, hnt, Rt, ht, gt⟩ := h7 (hall 7 (by simp))
      replace hT := hT.below hB
      replace hG := hG.below hB
      replace hl := hl.below hB
      replace hk := hk.below hB
      replace hx := hx.below hB
      replace Rx := Rx.below hB
      replace qx0 := cbl hB qx0
      replace qx1 := cbl hB qx1
      replace qx2 := cbl hB qx2
      replace hy := hy.below hB
      replace Ry := Ry.below hB
      replace qy0 := cbl hB qy0
      replace qy1 := cbl hB qy1
      replace qy2 := cbl hB qy2
      replace HBT := Below.cons HBT hB
      have kvv := hnv
      have qv0 := Rv.c (i := 0) rfl
      have qv1 := Rv.c (i := 1) rfl
      have qv2 := Rv.c (i := 2) rfl
      have kvt := hnt
      have qt0 := Rt.c (i := 0) rfl
      have qt1 := Rt.c (i := 1) rfl
      have qt2 := Rt.c (i := 2) rfl
      obtain rfl := h0 (hall 0 (by simp))
      obtain rfl := h2 (hall 2 (by simp))
      clear hall
      generalize hV2 : w' = V2 at *
      clear hV2
      go_wp2_with (fail)
      have hbk : dval (rnd (i : Int) (x * (2 : Rat) ^ mx)) (-mx) = x := round_same (i : Int) Ox.d bm2.out
      replace hbk := Lib.hid hbk
      obtain ⟨b1, Eb1⟩ : ∃ zq : Rat, zq = x := ⟨_, rfl⟩
      have Ob1 : DB b1 8 456 := by rw [Eb1]; exact Ox
      have CT : Calls Tryz.prog 15 #[.agg #[.bool (sg v.num), .slice Xv (nl (mg v.num)) cv, .slice Yv (nl v.den) dv], .int .i64 mx, .int .i64 (i : Int)] V2 (RetDe V2 b1 0) := by rw [Eb1]; rw [← hbk.out, ← Ev.out]; exact cut_in Xv cv Yv dv v mx (i : Int) _ hv gv hT (by omega) (by omega) i0 i4 (by omega)
      replace Eb1 := Lib.hid Eb1
      refine (Calls.mono CT ?_)
      clear CT
      rintro e W3 ⟨Xb1, cb1, rfl, hb1, hb3⟩
      replace hT := hT.below hb3
      replace hG := hG.below hb3
      replace hl := hl.below hb3
      replace hk := hk.below hb3
      replace hx := hx.below hb3
      replace Rx := Rx.below hb3
      replace qx0 := cbl hb3 qx0
      replace qx1 := cbl hb3 qx1
      replace qx2 := cbl hb3 qx2
      replace hy := hy.below hb3
      replace Ry := Ry.below hb3
      replace qy0 := cbl hb3 qy0
      replace qy1 := cbl hb3 qy1
      replace qy2 := cbl hb3 qy2
      replace hv := hv.below hb3
      replace gv := gv.below hb3
      replace Rv := Rv.below hb3
      replace qv0 := cbl hb3 qv0
      replace qv1 := cbl hb3 qv1
      replace qv2 := cbl hb3 qv2
      replace ht := ht.below hb3
      replace gt := gt.below hb3
      replace Rt := Rt.below hb3
      replace qt0 := cbl hb3 qt0
      replace qt1 := cbl hb3 qt1
      replace qt2 := cbl hb3 qt2
      replace HBT := Below.cons HBT hb3
      clear hb3
      obtain ⟨hb4, Rb1⟩ := bx1 W3 #[.bool (sg (dmn b1)), .slice Xb1 (nl (mg (dmn b1))) cb1, .int .i64 (dex b1)] 28
      replace hT := hT.below hb4
      replace hG := hG.below hb4
      replace hl := hl.below hb4
      replace hk := hk.below hb4
      replace hx := hx.below hb4
      replace Rx := Rx.below hb4
      replace qx0 := cbl hb4 qx0
      replace qx1 := cbl hb4 qx1
      replace qx2 := cbl hb4 qx2
      replace hy := hy.below hb4
      replace Ry := Ry.below hb4
      replace qy0 := cbl hb4 qy0
      replace qy1 := cbl hb4 qy1
      replace qy2 := cbl hb4 qy2
      replace hv := hv.below hb4
      replace gv := gv.below hb4
      replace Rv := Rv.below hb4
      replace qv0 := cbl hb4 qv0
      replace qv1 := cbl hb4 qv1
      replace qv2 := cbl hb4 qv2
      replace ht := ht.below hb4
      replace gt := gt.below hb4
      replace Rt := Rt.below hb4
      replace qt0 := cbl hb4 qt0
      replace qt1 := cbl hb4 qt1
      replace qt2 := cbl hb4 qt2
      replace hb1 := hb1.below hb4
      replace HBT := Below.cons HBT hb4
      clear hb4
      have qb10 := Rb1.c (i := 0) rfl
      have qb11 := Rb1.c (i := 1) rfl
      have qb12 := Rb1.c (i := 2) rfl
      go_wp2_with (fail)
      obtain ⟨b2, Eb2⟩ : ∃ zq : Rat, zq = x := ⟨_, rfl⟩
      have Ob2 : DB b2 8 456 := by rw [Eb2]; exact Ox
      have CT : Calls Tryz.prog 17 #[.agg #[.bool (sg (dmn x)), .slice Xx (nl (mg (dmn x))) cx, .int .i64 (dex x)], .int .i64 mx, .int .i64 (i : Int)] (W3.alloc (.cells #[.bool (sg (dmn b1)), .slice Xb1 (nl (mg (dmn b1))) cb1, .int .i64 (dex b1)] 28)) (RetDe (W3.alloc (.cells #[.bool (sg (dmn b1)), .slice Xb1 (nl (mg (dmn b1))) cb1, .int .i64 (dex b1)] 28)) b2 0) := by rw [Eb2]; have h := dround_c Xx cx x mx (i : Int) _ hx hT (Ox.ok (by decide) (by decide)) i0 i4 (by omega); rw [hbk.out] at h; exact h
      replace Eb2 := Lib.hid Eb2
      refine (Calls.mono CT ?_)
      clear CT
      rintro e W5 ⟨Xb2, cb2, rfl, hb2, hb5⟩
      replace hT := hT.below hb5
      replace hG := hG.below hb5
      replace hl := hl.below hb5
      replace hk := hk.below hb5
      replace hx := hx.below hb5
      replace Rx := Rx.below hb5
      replace qx0 := cbl hb5 qx0
      replace qx1 := cbl hb5 qx1
      replace qx2 := cbl hb5 qx2
      replace hy := hy.below hb5
      replace Ry := Ry.below hb5
      replace qy0 := cbl hb5 qy0
      replace qy1 := cbl hb5 qy1
      replace qy2 := cbl hb5 qy2
      replace hv := hv.below hb5
      replace gv := gv.below hb5
      replace Rv := Rv.below hb5
      replace qv0 := cbl hb5 qv0
      replace qv1 := cbl hb5 qv1
      replace qv2 := cbl hb5 qv2
      replace ht := ht.below hb5
      replace gt := gt.below hb5
      replace Rt := Rt.below hb5
      replace qt0 := cbl hb5 qt0
      replace qt1 := cbl hb5 qt1
      replace qt2 := cbl hb5 qt2
      replace hb1 := hb1.below hb5
      replace Rb1 := Rb1.below hb5
      replace qb10 := cbl hb5 qb10
      replace qb11 := cbl hb5 qb11
      replace qb12 := cbl hb5 qb12
      replace HBT := Below.cons HBT hb5
      clear hb5
      obtain ⟨hb6, Rb2⟩ := bx1 W5 #[.bool (sg (dmn b2)), .slice Xb2 (nl (mg (dmn b2))) cb2, .int .i64 (dex b2)] 28
      replace hT := hT.below hb6
      replace hG := hG.below hb6
      replace hl := hl.below hb6
      replace hk := hk.below hb6
      replace hx := hx.below hb6
      replace Rx := Rx.below hb6
      replace qx0 := cbl hb6 qx0
      replace qx1 := cbl hb6 qx1
      replace qx2 := cbl hb6 qx2
      replace hy := hy.below hb6
      replace Ry := Ry.below hb6
      replace qy0 := cbl hb6 qy0
      replace qy1 := cbl hb6 qy1
      replace qy2 := cbl hb6 qy2
      replace hv := hv.below hb6
      replace gv := gv.below hb6
      replace Rv := Rv.below hb6
      replace qv0 := cbl hb6 qv0
      replace qv1 := cbl hb6 qv1
      replace qv2 := cbl hb6 qv2
      replace ht := ht.below hb6
      replace gt := gt.below hb6
      replace Rt := Rt.below hb6
      replace qt0 := cbl hb6 qt0
      replace qt1 := cbl hb6 qt1
      replace qt2 := cbl hb6 qt2
      replace hb1 := hb1.below hb6
      replace Rb1 := Rb1.below hb6
      replace qb10 := cbl hb6 qb10
      replace qb11 := cbl hb6 qb11
      replace qb12 := cbl hb6 qb12
      replace hb2 := hb2.below hb6
      replace HBT := Below.cons HBT hb6
      clear hb6
      have qb20 := Rb2.c (i := 0) rfl
      have qb21 := Rb2.c (i := 1) rfl
      have qb22 := Rb2.c (i := 2) rfl
      go_wp2_with (fail)
      clear Rx
      clear Ry
      clear Rv
      clear Rt
      clear Rb1
      clear Rb2
      obtain ⟨cc, Ecc⟩ : ∃ z, z = rcmp x y := ⟨_, rfl⟩
      obtain ⟨ss, Ess⟩ : ∃ z, z = x.num.sign := ⟨_, rfl⟩
      replace Ecc := Lib.hid Ecc
      replace Ess := Lib.hid Ess
      have hd7 := drb ((W5.alloc (.cells #[.bool (sg (dmn b2)), .slice Xb2 (nl (mg (dmn b2))) cb2, .int .i64 (dex b2)] 28)))
      replace hT := hT.below hd7
      replace hG := hG.below hd7
      replace hl := hl.below hd7
      replace hk := hk.below hd7
      replace hx := hx.below hd7
      replace qx0 := cbl hd7 qx0
      replace qx1 := cbl hd7 qx1
      replace qx2 := cbl hd7 qx2
      replace hy := hy.below hd7
      replace qy0 := cbl hd7 qy0
      replace qy1 := cbl hd7 qy1
      replace qy2 := cbl hd7 qy2
      replace hv := hv.below hd7
      replace gv := gv.below hd7
      replace qv0 := cbl hd7 qv0
      replace qv1 := cbl hd7 qv1
      replace qv2 := cbl hd7 qv2
      replace ht := ht.below hd7
      replace gt := gt.below hd7
      replace qt0 := cbl hd7 qt0
      replace qt1 := cbl hd7 qt1
      replace qt2 := cbl hd7 qt2
      replace hb1 := hb1.below hd7
      replace qb10 := cbl hd7 qb10
      replace qb11 := cbl hd7 qb11
      replace qb12 := cbl hd7 qb12
      replace hb2 := hb2.below hd7
      replace qb20 := cbl hd7 qb20
      replace qb21 := cbl hd7 qb21
      replace qb22 := cbl hd7 qb22
      replace HBT := Below.cons HBT hd7
      clear hd7
      replace qx0 : ((W5.alloc (.cells #[.bool (sg (dmn b2)), .slice Xb2 (nl (mg (dmn b2))) cb2, .int .i64 (dex b2)] 28))).drew.cell? ⟨nbx, 0, none⟩ = some (.bool (sg (dmn x))) := qx0
      replace qx1 : ((W5.alloc (.cells #[.bool (sg (dmn b2)), .slice Xb2 (nl (mg (dmn b2))) cb2, .int .i64 (dex b2)] 28))).drew.cell? ⟨nbx, 1, none⟩ = some (.slice Xx (nl (mg (dmn x))) cx) := qx1
      replace qx2 : ((W5.alloc (.cells #[.bool (sg (dmn b2)), .slice Xb2 (nl (mg (dmn b2))) cb2, .int .i64 (dex b2)] 28))).drew.cell? ⟨nbx, 2, none⟩ = some (.int .i64 (dex x)) := qx2
      replace qy0 : ((W5.alloc (.cells #[.bool (sg (dmn b2)), .slice Xb2 (nl (mg (dmn b2))) cb2, .int .i64 (dex b2)] 28))).drew.cell? ⟨nby, 0, none⟩ = some (.bool (sg (dmn y))) := qy0
      replace qy1 : ((W5.alloc (.cells #[.bool (sg (dmn b2)), .slice Xb2 (nl (mg (dmn b2))) cb2, .int .i64 (dex b2)] 28))).drew.cell? ⟨nby, 1, none⟩ = some (.slice Xy (nl (mg (dmn y))) cy) := qy1
      replace qy2 : ((W5.alloc (.cells #[.bool (sg (dmn b2)), .slice Xb2 (nl (mg (dmn b2))) cb2, .int .i64 (dex b2)] 28))).drew.cell? ⟨nby, 2, none⟩ = some (.int .i64 (dex y)) := qy2
      replace qv0 : ((W5.alloc (.cells #[.bool (sg (dmn b2)), .slice Xb2 (nl (mg (dmn b2))) cb2, .int .i64 (dex b2)] 28))).drew.cell? ⟨nbv, 0, none⟩ = some (.bool (sg v.num)) := qv0
      replace qv1 : ((W5.alloc (.cells #[.bool (sg (dmn b2)), .slice Xb2 (nl (mg (dmn b2))) cb2, .int .i64 (dex b2)] 28))).drew.cell? ⟨nbv, 1, none⟩ = some (.slice Xv (nl (mg v.num)) cv) := qv1
      replace qv2 : ((W5.alloc (.cells #[.bool (sg (dmn b2)), .slice Xb2 (nl (mg (dmn b2))) cb2, .int .i64 (dex b2)] 28))).drew.cell? ⟨nbv, 2, none⟩ = some (.slice Yv (nl v.den) dv) := qv2
      replace qt0 : ((W5.alloc (.cells #[.bool (sg (dmn b2)), .slice Xb2 (nl (mg (dmn b2))) cb2, .int .i64 (dex b2)] 28))).drew.cell? ⟨nbt, 0, none⟩ = some (.bool (sg t.num)) := qt0
      replace qt1 : ((W5.alloc (.cells #[.bool (sg (dmn b2)), .slice Xb2 (nl (mg (dmn b2))) cb2, .int .i64 (dex b2)] 28))).drew.cell? ⟨nbt, 1, none⟩ = some (.slice Xt (nl (mg t.num)) ct) := qt1
      replace qt2 : ((W5.alloc (.cells #[.bool (sg (dmn b2)), .slice Xb2 (nl (mg (dmn b2))) cb2, .int .i64 (dex b2)] 28))).drew.cell? ⟨nbt, 2, none⟩ = some (.slice Yt (nl t.den) dt) := qt2
      replace qb10 : ((W5.alloc (.cells #[.bool (sg (dmn b2)), .slice Xb2 (nl (mg (dmn b2))) cb2, .int .i64 (dex b2)] 28))).drew.cell? ⟨W3.heap.size, 0, none⟩ = some (.bool (sg (dmn b1))) := qb10
      replace qb11 : ((W5.alloc (.cells #[.bool (sg (dmn b2)), .slice Xb2 (nl (mg (dmn b2))) cb2, .int .i64 (dex b2)] 28))).drew.cell? ⟨W3.heap.size, 1, none⟩ = some (.slice Xb1 (nl (mg (dmn b1))) cb1) := qb11
      replace qb12 : ((W5.alloc (.cells #[.bool (sg (dmn b2)), .slice Xb2 (nl (mg (dmn b2))) cb2, .int .i64 (dex b2)] 28))).drew.cell? ⟨W3.heap.size, 2, none⟩ = some (.int .i64 (dex b1)) := qb12
      replace qb20 : ((W5.alloc (.cells #[.bool (sg (dmn b2)), .slice Xb2 (nl (mg (dmn b2))) cb2, .int .i64 (dex b2)] 28))).drew.cell? ⟨W5.heap.size, 0, none⟩ = some (.bool (sg (dmn b2))) := qb20
      replace qb21 : ((W5.alloc (.cells #[.bool (sg (dmn b2)), .slice Xb2 (nl (mg (dmn b2))) cb2, .int .i64 (dex b2)] 28))).drew.cell? ⟨W5.heap.size, 1, none⟩ = some (.slice Xb2 (nl (mg (dmn b2))) cb2) := qb21
      replace qb22 : ((W5.alloc (.cells #[.bool (sg (dmn b2)), .slice Xb2 (nl (mg (dmn b2))) cb2, .int .i64 (dex b2)] 28))).drew.cell? ⟨W5.heap.size, 2, none⟩ = some (.int .i64 (dex b2)) := qb22
      obtain ⟨s1, Es1⟩ : ∃ zq : Rat, zq = x + y := ⟨_, rfl⟩
      have Os1 : DB s1 39 1704 := by rw [Es1]; exact (db_add Ox Oy).mono (by decide) (by decide)
      have C7_0 := fun (W : World) (A0 : Option Addr) (c0 : Nat) (A1 : Option Addr) (c1 : Nat) (h0 : NatV W A0 c0 (mg (dmn x))) (h1 : NatV W A1 c1 (mg (dmn y))) (hT : Tab W) => (show Calls Tryz.prog 48 #[.agg #[.bool (sg (dmn x)), .slice A0 (nl (mg (dmn x))) c0, .int .i64 (dex x)], .agg #[.bool (sg (dmn y)), .slice A1 (nl (mg (dmn y))) c1, .int .i64 (dex y)]] W (RetD W s1) by rw [Es1]; exact dadd_c A0 c0 x A1 c1 y W h0 h1 (Ox.ok (by decide) (by decide)) (Oy.ok (by decide) (by decide)) hT)
      replace Es1 := Lib.hid Es1
      replace C7_0 := Lib.hid C7_0
      obtain ⟨r1, Er1⟩ : ∃ zq : Rat, zq = s1 := ⟨_, rfl⟩
      have Nr1 := db_sz Os1
      rw [← Er1] at Nr1
      have C7_1 := fun (W : World) (A0 : Option Addr) (c0 : Nat) (h0 : NatV W A0 c0 (mg (dmn s1)))  => (show Calls Tryz.prog 55 #[.agg #[.bool (sg (dmn s1)), .slice A0 (nl (mg (dmn s1))) c0, .int .i64 (dex s1)]] W (RetR W r1) by rw [Er1]; exact drat_c A0 c0 s1 W h0 (Os1.ok (by decide) (by decide)))
      replace Er1 := Lib.hid Er1
      replace C7_1 := Lib.hid C7_1
      obtain ⟨r2, Er2⟩ : ∃ zq : Rat, zq = v + t := ⟨_, rfl⟩
      have C7_2 := fun (W : World) (A0 : Option Addr) (c0 : Nat) (B0 : Option Addr) (d0 : Nat) (A1 : Option Addr) (c1 : Nat) (B1 : Option Addr) (d1 : Nat) (h0 : NatV W A0 c0 (mg v.num)) (g0 : NatV W B0 d0 v.den) (h1 : NatV W A1 c1 (mg t.num)) (g1 : NatV W B1 d1 t.den) => (show Calls Tryz.prog 36 #[.agg #[.bool (sg v.num), .slice A0 (nl (mg v.num)) c0, .slice B0 (nl v.den) d0], .agg #[.bool (sg t.num), .slice A1 (nl (mg t.num)) c1, .slice B1 (nl t.den) d1]] W (RetR W r2) by rw [Er2]; exact r9add_c A0 c0 B0 d0 v A1 c1 B1 d1 t W h0 g0 h1 g1 (by omega) (by omega) (by omega) (by omega))
      replace Er2 := Lib.hid Er2
      replace C7_2 := Lib.hid C7_2
      have C7_3 := fun (W : World) (A0 : Option Addr) (c0 : Nat) (B0 : Option Addr) (d0 : Nat) (A1 : Option Addr) (c1 : Nat) (B1 : Option Addr) (d1 : Nat) (h0 : NatV W A0 c0 (mg r1.num)) (g0 : NatV W B0 d0 r1.den) (h1 : NatV W A1 c1 (mg r2.num)) (g1 : NatV W B1 d1 r2.den) => (show Calls Tryz.prog 54 #[.agg #[.bool (sg r1.num), .slice A0 (nl (mg r1.num)) c0, .slice B0 (nl r1.den) d0], .agg #[.bool (sg r2.num), .slice A1 (nl (mg r2.num)) c1, .slice B1 (nl r2.den) d1]] W (fun e w' => e = .returned (.bool true) ∧ Below W.heap.size W w') by exact r9sameT_c A0 c0 B0 d0 r1 A1 c1 B1 d1 r2 W h0 g0 h1 g1 (by omega) (by omega) (by rw [Er1.out, Es1.out, Er2.out, Ev.out, Et.out]))
      replace C7_3 := Lib.hid C7_3
      obtain ⟨s2, Es2⟩ : ∃ zq : Rat, zq = x - y := ⟨_, rfl⟩
      have Os2 : DB s2 39 1704 := by rw [Es2]; exact (db_sub Ox Oy).mono (by decide) (by decide)
      have C7_4 := fun (W : World) (A0 : Option Addr) (c0 : Nat) (A1 : Option Addr) (c1 : Nat) (h0 : NatV W A0 c0 (mg (dmn x))) (h1 : NatV W A1 c1 (mg (dmn y))) (hT : Tab W) => (show Calls Tryz.prog 42 #[.agg #[.bool (sg (dmn x)), .slice A0 (nl (mg (dmn x))) c0, .int .i64 (dex x)], .agg #[.bool (sg (dmn y)), .slice A1 (nl (mg (dmn y))) c1, .int .i64 (dex y)]] W (RetD W s2) by rw [Es2]; exact dsub_c A0 c0 x A1 c1 y W h0 h1 (Ox.ok (by decide) (by decide)) (Oy.ok (by decide) (by decide)) hT)
      replace Es2 := Lib.hid Es2
      replace C7_4 := Lib.hid C7_4
      obtain ⟨r3, Er3⟩ : ∃ zq : Rat, zq = s2 := ⟨_, rfl⟩
      have Nr3 := db_sz Os2
      rw [← Er3] at Nr3
      have C7_5 := fun (W : World) (A0 : Option Addr) (c0 : Nat) (h0 : NatV W A0 c0 (mg (dmn s2)))  => (show Calls Tryz.prog 55 #[.agg #[.bool (sg (dmn s2)), .slice A0 (nl (mg (dmn s2))) c0, .int .i64 (dex s2)]] W (RetR W r3) by rw [Er3]; exact drat_c A0 c0 s2 W h0 (Os2.ok (by decide) (by decide)))
      replace Er3 := Lib.hid Er3
      replace C7_5 := Lib.hid C7_5
      obtain ⟨r4, Er4⟩ : ∃ zq : Rat, zq = v - t := ⟨_, rfl⟩
      have C7_6 := fun (W : World) (A0 : Option Addr) (c0 : Nat) (B0 : Option Addr) (d0 : Nat) (A1 : Option Addr) (c1 : Nat) (B1 : Option Addr) (d1 : Nat) (h0 : NatV W A0 c0 (mg v.num)) (g0 : NatV W B0 d0 v.den) (h1 : NatV W A1 c1 (mg t.num)) (g1 : NatV W B1 d1 t.den) => (show Calls Tryz.prog 32 #[.agg #[.bool (sg v.num), .slice A0 (nl (mg v.num)) c0, .slice B0 (nl v.den) d0], .agg #[.bool (sg t.num), .slice A1 (nl (mg t.num)) c1, .slice B1 (nl t.den) d1]] W (RetR W r4) by rw [Er4]; exact r9sub_c A0 c0 B0 d0 v A1 c1 B1 d1 t W h0 g0 h1 g1 (by omega) (by omega) (by omega) (by omega))
      replace Er4 := Lib.hid Er4
      replace C7_6 := Lib.hid C7_6
      have C7_7 := fun (W : World) (A0 : Option Addr) (c0 : Nat) (B0 : Option Addr) (d0 : Nat) (A1 : Option Addr) (c1 : Nat) (B1 : Option Addr) (d1 : Nat) (h0 : NatV W A0 c0 (mg r3.num)) (g0 : NatV W B0 d0 r3.den) (h1 : NatV W A1 c1 (mg r4.num)) (g1 : NatV W B1 d1 r4.den) => (show Calls Tryz.prog 54 #[.agg #[.bool (sg r3.num), .slice A0 (nl (mg r3.num)) c0, .slice B0 (nl r3.den) d0], .agg #[.bool (sg r4.num), .slice A1 (nl (mg r4.num)) c1, .slice B1 (nl r4.den) d1]] W (fun e w' => e = .returned (.bool true) ∧ Below W.heap.size W w') by exact r9sameT_c A0 c0 B0 d0 r3 A1 c1 B1 d1 r4 W h0 g0 h1 g1 (by omega) (by omega) (by rw [Er3.out, Es2.out, Er4.out, Ev.out, Et.out]))
      replace C7_7 := Lib.hid C7_7
      obtain ⟨s3, Es3⟩ : ∃ zq : Rat, zq = x * y := ⟨_, rfl⟩
      have Os3 : DB s3 16 1424 := by rw [Es3]; exact (db_mul Ox Oy).mono (by decide) (by decide)
      have C7_8 := fun (W : World) (A0 : Option Addr) (c0 : Nat) (A1 : Option Addr) (c1 : Nat) (h0 : NatV W A0 c0 (mg (dmn x))) (h1 : NatV W A1 c1 (mg (dmn y))) (hT : Tab W) (hG : Flds W) => (show Calls Tryz.prog 51 #[.agg #[.bool (sg (dmn x)), .slice A0 (nl (mg (dmn x))) c0, .int .i64 (dex x)], .agg #[.bool (sg (dmn y)), .slice A1 (nl (mg (dmn y))) c1, .int .i64 (dex y)]] W (RetD W s3) by rw [Es3]; exact dmul_c A0 c0 x A1 c1 y W h0 h1 (Ox.ok (by decide) (by decide)) (Oy.ok (by decide) (by decide)) (Nat.le_trans Ox.l (by decide)) (Nat.le_trans Oy.l (by decide)) hT hG)
      replace Es3 := Lib.hid Es3
      replace C7_8 := Lib.hid C7_8
      obtain ⟨r5, Er5⟩ : ∃ zq : Rat, zq = s3 := ⟨_, rfl⟩
      have Nr5 := db_sz Os3
      rw [← Er5] at Nr5
      have C7_9 := fun (W : World) (A0 : Option Addr) (c0 : Nat) (h0 : NatV W A0 c0 (mg (dmn s3)))  => (show Calls Tryz.prog 55 #[.agg #[.bool (sg (dmn s3)), .slice A0 (nl (mg (dmn s3))) c0, .int .i64 (dex s3)]] W (RetR W r5) by rw [Er5]; exact drat_c A0 c0 s3 W h0 (Os3.ok (by decide) (by decide)))
      replace Er5 := Lib.hid Er5
      replace C7_9 := Lib.hid C7_9
      obtain ⟨r6, Er6⟩ : ∃ zq : Rat, zq = v * t := ⟨_, rfl⟩
      have C7_10 := fun (W : World) (A0 : Option Addr) (c0 : Nat) (B0 : Option Addr) (d0 : Nat) (A1 : Option Addr) (c1 : Nat) (B1 : Option Addr) (d1 : Nat) (h0 : NatV W A0 c0 (mg v.num)) (g0 : NatV W B0 d0 v.den) (h1 : NatV W A1 c1 (mg t.num)) (g1 : NatV W B1 d1 t.den) => (show Calls Tryz.prog 56 #[.agg #[.bool (sg v.num), .slice A0 (nl (mg v.num)) c0, .slice B0 (nl v.den) d0], .agg #[.bool (sg t.num), .slice A1 (nl (mg t.num)) c1, .slice B1 (nl t.den) d1]] W (RetR W r6) by rw [Er6]; exact r9mul_c A0 c0 B0 d0 v A1 c1 B1 d1 t W h0 g0 h1 g1 (by omega) (by omega) (by omega) (by omega))
      replace Er6 := Lib.hid Er6
      replace C7_10 := Lib.hid C7_10
      have C7_11 := fun (W : World) (A0 : Option Addr) (c0 : Nat) (B0 : Option Addr) (d0 : Nat) (A1 : Option Addr) (c1 : Nat) (B1 : Option Addr) (d1 : Nat) (h0 : NatV W A0 c0 (mg r5.num)) (g0 : NatV W B0 d0 r5.den) (h1 : NatV W A1 c1 (mg r6.num)) (g1 : NatV W B1 d1 r6.den) => (show Calls Tryz.prog 54 #[.agg #[.bool (sg r5.num), .slice A0 (nl (mg r5.num)) c0, .slice B0 (nl r5.den) d0], .agg #[.bool (sg r6.num), .slice A1 (nl (mg r6.num)) c1, .slice B1 (nl r6.den) d1]] W (fun e w' => e = .returned (.bool true) ∧ Below W.heap.size W w') by exact r9sameT_c A0 c0 B0 d0 r5 A1 c1 B1 d1 r6 W h0 g0 h1 g1 (by omega) (by omega) (by rw [Er5.out, Es3.out, Er6.out, Ev.out, Et.out]))
      replace C7_11 := Lib.hid C7_11
      have C7_12 := fun (W : World) (A0 : Option Addr) (c0 : Nat) (A1 : Option Addr) (c1 : Nat) (h0 : NatV W A0 c0 (mg (dmn x))) (h1 : NatV W A1 c1 (mg (dmn y)))  => (show Calls Tryz.prog 41 #[.agg #[.bool (sg (dmn x)), .slice A0 (nl (mg (dmn x))) c0, .int .i64 (dex x)], .agg #[.bool (sg (dmn y)), .slice A1 (nl (mg (dmn y))) c1, .int .i64 (dex y)]] W (fun e w' => e = .returned (.int .i64 cc) ∧ Below W.heap.size W w') by rw [Ecc.out]; exact dcmp_c A0 c0 x A1 c1 y W h0 h1 (Ox.ok (by decide) (by decide)) (Oy.ok (by decide) (by decide)))
      replace C7_12 := Lib.hid C7_12
      have C7_13 := fun (W : World) (A0 : Option Addr) (c0 : Nat) (B0 : Option Addr) (d0 : Nat) (A1 : Option Addr) (c1 : Nat) (B1 : Option Addr) (d1 : Nat) (h0 : NatV W A0 c0 (mg v.num)) (g0 : NatV W B0 d0 v.den) (h1 : NatV W A1 c1 (mg t.num)) (g1 : NatV W B1 d1 t.den) => (show Calls Tryz.prog 35 #[.agg #[.bool (sg v.num), .slice A0 (nl (mg v.num)) c0, .slice B0 (nl v.den) d0], .agg #[.bool (sg t.num), .slice A1 (nl (mg t.num)) c1, .slice B1 (nl t.den) d1]] W (fun e w' => e = .returned (.int .i64 cc) ∧ Below W.heap.size W w') by rw [Ecc.out, ← Ev.out, ← Et.out]; exact r9cmp_c A0 c0 B0 d0 v A1 c1 B1 d1 t W h0 g0 h1 g1 (by omega) (by omega) (by omega) (by omega))
      replace C7_13 := Lib.hid C7_13
      have C7_14 := fun (W : World) (A0 : Option Addr) (c0 : Nat) (h0 : NatV W A0 c0 (mg (dmn x)))  => (show Calls Tryz.prog 28 #[.agg #[.bool (sg (dmn x)), .slice A0 (nl (mg (dmn x))) c0, .int .i64 (dex x)]] W (fun e w' => e = .returned (.int .i64 ss) ∧ Below W.heap.size W w') by rw [Ess.out, ← num_sign]; exact dsign_c A0 c0 x W h0)
      replace C7_14 := Lib.hid C7_14
      have C7_15 := fun (W : World) (A0 : Option Addr) (c0 : Nat) (B0 : Option Addr) (d0 : Nat) (h0 : NatV W A0 c0 (mg v.num)) (g0 : NatV W B0 d0 v.den) => (show Calls Tryz.prog 33 #[.agg #[.bool (sg v.num), .slice A0 (nl (mg v.num)) c0, .slice B0 (nl v.den) d0]] W (fun e w' => e = .returned (.int .i64 ss) ∧ Below W.heap.size W w') by rw [Ess.out, ← Ev.out]; exact r9sign_c A0 c0 B0 d0 v W h0 g0 (by omega))
      replace C7_15 := Lib.hid C7_15
      have C7_16 := fun (W : World) (A0 : Option Addr) (c0 : Nat) (A1 : Option Addr) (c1 : Nat) (h0 : NatV W A0 c0 (mg (dmn b1))) (h1 : NatV W A1 c1 (mg (dmn x)))  => (show Calls Tryz.prog 19 #[.agg #[.bool (sg (dmn b1)), .slice A0 (nl (mg (dmn b1))) c0, .int .i64 (dex b1)], .agg #[.bool (sg (dmn x)), .slice A1 (nl (mg (dmn x))) c1, .int .i64 (dex x)]] W (fun e w' => e = .returned (.bool true) ∧ Below W.heap.size W w') by exact tsameT_c A0 c0 b1 A1 c1 x W h0 h1 (Ob1.ok (by decide) (by decide)) (by exact Eb1.out))
      replace C7_16 := Lib.hid C7_16
      have C7_17 := fun (W : World) (A0 : Option Addr) (c0 : Nat) (A1 : Option Addr) (c1 : Nat) (h0 : NatV W A0 c0 (mg (dmn b2))) (h1 : NatV W A1 c1 (mg (dmn x)))  => (show Calls Tryz.prog 19 #[.agg #[.bool (sg (dmn b2)), .slice A0 (nl (mg (dmn b2))) c0, .int .i64 (dex b2)], .agg #[.bool (sg (dmn x)), .slice A1 (nl (mg (dmn x))) c1, .int .i64 (dex x)]] W (fun e w' => e = .returned (.bool true) ∧ Below W.heap.size W w') by exact tsameT_c A0 c0 b2 A1 c1 x W h0 h1 (Ob2.ok (by decide) (by decide)) (by exact Eb2.out))
      replace C7_17 := Lib.hid C7_17
      simp only [List.append]
      have HSq : (fun W : World => W.cell? ⟨nbx, 0, none⟩ = some (.bool (sg (dmn x))) ∧ W.cell? ⟨nbx, 1, none⟩ = some (.slice Xx (nl (mg (dmn x))) cx) ∧ W.cell? ⟨nbx, 2, none⟩ = some (.int .i64 (dex x)) ∧ W.cell? ⟨nby, 0, none⟩ = some (.bool (sg (dmn y))) ∧ W.cell? ⟨nby, 1, none⟩ = some (.slice Xy (nl (mg (dmn y))) cy) ∧ W.cell? ⟨nby, 2, none⟩ = some (.int .i64 (dex y)) ∧ W.cell? ⟨nbv, 0, none⟩ = some (.bool (sg v.num)) ∧ W.cell? ⟨nbv, 1, none⟩ = some (.slice Xv (nl (mg v.num)) cv) ∧ W.cell? ⟨nbv, 2, none⟩ = some (.slice Yv (nl v.den) dv) ∧ W.cell? ⟨nbt, 0, none⟩ = some (.bool (sg t.num)) ∧ W.cell? ⟨nbt, 1, none⟩ = some (.slice Xt (nl (mg t.num)) ct) ∧ W.cell? ⟨nbt, 2, none⟩ = some (.slice Yt (nl t.den) dt) ∧ W.cell? ⟨W3.heap.size, 0, none⟩ = some (.bool (sg (dmn b1))) ∧ W.cell? ⟨W3.heap.size, 1, none⟩ = some (.slice Xb1 (nl (mg (dmn b1))) cb1) ∧ W.cell? ⟨W3.heap.size, 2, none⟩ = some (.int .i64 (dex b1)) ∧ W.cell? ⟨W5.heap.size, 0, none⟩ = some (.bool (sg (dmn b2))) ∧ W.cell? ⟨W5.heap.size, 1, none⟩ = some (.slice Xb2 (nl (mg (dmn b2))) cb2) ∧ W.cell? ⟨W5.heap.size, 2, none⟩ = some (.int .i64 (dex b2))) ((W5.alloc (.cells #[.bool (sg (dmn b2)), .slice Xb2 (nl (mg (dmn b2))) cb2, .int .i64 (dex b2)] 28))).drew := ⟨qx0, qx1, qx2, qy0, qy1, qy2, qv0, qv1, qv2, qt0, qt1, qt2, qb10, qb11, qb12, qb20, qb21, qb22⟩
      have hSb : ∀ W W' : World, Below W.heap.size W W' → (W.cell? ⟨nbx, 0, none⟩ = some (.bool (sg (dmn x))) ∧ W.cell? ⟨nbx, 1, none⟩ = some (.slice Xx (nl (mg (dmn x))) cx) ∧ W.cell? ⟨nbx, 2, none⟩ = some (.int .i64 (dex x)) ∧ W.cell? ⟨nby, 0, none⟩ = some (.bool (sg (dmn y))) ∧ W.cell? ⟨nby, 1, none⟩ = some (.slice Xy (nl (mg (dmn y))) cy) ∧ W.cell? ⟨nby, 2, none⟩ = some (.int .i64 (dex y)) ∧ W.cell? ⟨nbv, 0, none⟩ = some (.bool (sg v.num)) ∧ W.cell? ⟨nbv, 1, none⟩ = some (.slice Xv (nl (mg v.num)) cv) ∧ W.cell? ⟨nbv, 2, none⟩ = some (.slice Yv (nl v.den) dv) ∧ W.cell? ⟨nbt, 0, none⟩ = some (.bool (sg t.num)) ∧ W.cell? ⟨nbt, 1, none⟩ = some (.slice Xt (nl (mg t.num)) ct) ∧ W.cell? ⟨nbt, 2, none⟩ = some (.slice Yt (nl t.den) dt) ∧ W.cell? ⟨W3.heap.size, 0, none⟩ = some (.bool (sg (dmn b1))) ∧ W.cell? ⟨W3.heap.size, 1, none⟩ = some (.slice Xb1 (nl (mg (dmn b1))) cb1) ∧ W.cell? ⟨W3.heap.size, 2, none⟩ = some (.int .i64 (dex b1)) ∧ W.cell? ⟨W5.heap.size, 0, none⟩ = some (.bool (sg (dmn b2))) ∧ W.cell? ⟨W5.heap.size, 1, none⟩ = some (.slice Xb2 (nl (mg (dmn b2))) cb2) ∧ W.cell? ⟨W5.heap.size, 2, none⟩ = some (.int .i64 (dex b2))) → (W'.cell? ⟨nbx, 0, none⟩ = some (.bool (sg (dmn x))) ∧ W'.cell? ⟨nbx, 1, none⟩ = some (.slice Xx (nl (mg (dmn x))) cx) ∧ W'.cell? ⟨nbx, 2, none⟩ = some (.int .i64 (dex x)) ∧ W'.cell? ⟨nby, 0, none⟩ = some (.bool (sg (dmn y))) ∧ W'.cell? ⟨nby, 1, none⟩ = some (.slice Xy (nl (mg (dmn y))) cy) ∧ W'.cell? ⟨nby, 2, none⟩ = some (.int .i64 (dex y)) ∧ W'.cell? ⟨nbv, 0, none⟩ = some (.bool (sg v.num)) ∧ W'.cell? ⟨nbv, 1, none⟩ = some (.slice Xv (nl (mg v.num)) cv) ∧ W'.cell? ⟨nbv, 2, none⟩ = some (.slice Yv (nl v.den) dv) ∧ W'.cell? ⟨nbt, 0, none⟩ = some (.bool (sg t.num)) ∧ W'.cell? ⟨nbt, 1, none⟩ = some (.slice Xt (nl (mg t.num)) ct) ∧ W'.cell? ⟨nbt, 2, none⟩ = some (.slice Yt (nl t.den) dt) ∧ W'.cell? ⟨W3.heap.size, 0, none⟩ = some (.bool (sg (dmn b1))) ∧ W'.cell? ⟨W3.heap.size, 1, none⟩ = some (.slice Xb1 (nl (mg (dmn b1))) cb1) ∧ W'.cell? ⟨W3.heap.size, 2, none⟩ = some (.int .i64 (dex b1)) ∧ W'.cell? ⟨W5.heap.size, 0, none⟩ = some (.bool (sg (dmn b2))) ∧ W'.cell? ⟨W5.heap.size, 1, none⟩ = some (.slice Xb2 (nl (mg (dmn b2))) cb2) ∧ W'.cell? ⟨W5.heap.size, 2, none⟩ = some (.int .i64 (dex b2))) := fun W W' hb h => ⟨cell_below hb h.1, cell_below hb h.2.1, cell_below hb h.2.2.1, cell_below hb h.2.2.2.1, cell_below hb h.2.2.2.2.1, cell_below hb h.2.2.2.2.2.1, cell_below hb h.2.2.2.2.2.2.1, cell_below hb h.2.2.2.2.2.2.2.1, cell_below hb h.2.2.2.2.2.2.2.2.1, cell_below hb h.2.2.2.2.2.2.2.2.2.1, cell_below hb h.2.2.2.2.2.2.2.2.2.2.1, cell_below hb h.2.2.2.2.2.2.2.2.2.2.2.1, cell_below hb h.2.2.2.2.2.2.2.2.2.2.2.2.1, cell_below hb h.2.2.2.2.2.2.2.2.2.2.2.2.2.1, cell_below hb h.2.2.2.2.2.2.2.2.2.2.2.2.2.2.1, cell_below hb h.2.2.2.2.2.2.2.2.2.2.2.2.2.2.2.1, cell_below hb h.2.2.2.2.2.2.2.2.2.2.2.2.2.2.2.2.1, cell_below hb h.2.2.2.2.2.2.2.2.2.2.2.2.2.2.2.2.2⟩
      replace hSb := Lib.hid hSb
      refine wp_region_seq (fun W : World => W.cell? ⟨nbx, 0, none⟩ = some (.bool (sg (dmn x))) ∧ W.cell? ⟨nbx, 1, none⟩ = some (.slice Xx (nl (mg (dmn x))) cx) ∧ W.cell? ⟨nbx, 2, none⟩ = some (.int .i64 (dex x)) ∧ W.cell? ⟨nby, 0, none⟩ = some (.bool (sg (dmn y))) ∧ W.cell? ⟨nby, 1, none⟩ = some (.slice Xy (nl (mg (dmn y))) cy) ∧ W.cell? ⟨nby, 2, none⟩ = some (.int .i64 (dex y)) ∧ W.cell? ⟨nbv, 0, none⟩ = some (.bool (sg v.num)) ∧ W.cell? ⟨nbv, 1, none⟩ = some (.slice Xv (nl (mg v.num)) cv) ∧ W.cell? ⟨nbv, 2, none⟩ = some (.slice Yv (nl v.den) dv) ∧ W.cell? ⟨nbt, 0, none⟩ = some (.bool (sg t.num)) ∧ W.cell? ⟨nbt, 1, none⟩ = some (.slice Xt (nl (mg t.num)) ct) ∧ W.cell? ⟨nbt, 2, none⟩ = some (.slice Yt (nl t.den) dt) ∧ W.cell? ⟨W3.heap.size, 0, none⟩ = some (.bool (sg (dmn b1))) ∧ W.cell? ⟨W3.heap.size, 1, none⟩ = some (.slice Xb1 (nl (mg (dmn b1))) cb1) ∧ W.cell? ⟨W3.heap.size, 2, none⟩ = some (.int .i64 (dex b1)) ∧ W.cell? ⟨W5.heap.size, 0, none⟩ = some (.bool (sg (dmn b2))) ∧ W.cell? ⟨W5.heap.size, 1, none⟩ = some (.slice Xb2 (nl (mg (dmn b2))) cb2) ∧ W.cell? ⟨W5.heap.size, 2, none⟩ = some (.int .i64 (dex b2))) [(0, true), (1, true), (4, true), (5, true), (2, false), (3, false), (6, false), (7, false), (8, true), (9, true), (10, true), (13, true), (14, true), (11, false), (12, false), (15, false), (16, false), (17, true), (18, true), (19, true), (20, true), (23, true), (24, true), (21, false), (22, false), (25, false), (26, false), (27, true), (28, true), (29, true), (30, true), (32, true), (33, true), (31, false), (34, false), (35, true), (36, true), (37, true), (38, true), (40, true), (39, false), (41, false), (42, true), (43, true), (44, true), (45, true), (46, true), (47, false), (48, true), (49, true), (50, true), (51, true), (52, true), (53, true), (54, true), (55, true), (56, false), (57, true), (58, true), (59, true), (60, true), (61, true), (62, true), (63, true), (64, true), (65, true)] (by kernel_rfl) (by kernel_rfl) (by kernel_rfl) HSq (fun hSq => ?_)
      clear hSq
      replace HSq := Lib.hid HSq
      clear qx0 qx1 qx2 qy0 qy1 qy2 qv0 qv1 qv2 qt0 qt1 qt2 qb10 qb11 qb12 qb20 qb21 qb22
      refine SeqP.take (v := ?_) rfl (fun _ _ _ h => h) (Or.inl ⟨by rfl, ?_⟩) ?_
      rotate_left 1
      · intro wq hSw; (try dsimp only at hSw); go_simp; try with_reducible rfl
      try simp only [Act.put, List.setIfInBounds_toArray, List.set_cons_zero, List.set_cons_succ]
      refine SeqP.take (v := ?_) rfl (fun _ _ _ h => h) (Or.inl ⟨by rfl, ?_⟩) ?_
      rotate_left 1
      · intro wq hSw; (try dsimp only at hSw); go_simp; try with_reducible rfl
      try simp only [Act.put, List.setIfInBounds_toArray, List.set_cons_zero, List.set_cons_succ]
      refine SeqP.take (v := ?_) rfl (fun _ _ _ h => h) (Or.inl ⟨by rfl, ?_⟩) ?_
      rotate_left 1
      · intro wq hSw; (try dsimp only at hSw); go_simp; try with_reducible rfl
      try simp only [Act.put, List.setIfInBounds_toArray, List.set_cons_zero, List.set_cons_succ]
      refine SeqP.take (v := ?_) rfl (fun _ _ _ h => h) (Or.inl ⟨by rfl, ?_⟩) ?_
      rotate_left 1
      · intro wq hSw; (try dsimp only at hSw); go_simp; try with_reducible rfl
      try simp only [Act.put, List.setIfInBounds_toArray, List.set_cons_zero, List.set_cons_succ]
      refine SeqP.call rfl (by rfl) (fun Kq hKq => ?_)
      go_simp
      go_at_call 48
      with_reducible refine (C7_0.out _ _ _ _ _ hx hy hT).mono ?_
      rintro e W8 ⟨Xs1, cs1, rfl, hs1, hb8⟩
      replace hT := hT.below hb8
      replace hG := hG.below hb8
      replace hl := hl.below hb8
      replace hk := hk.below hb8
      replace hx := hx.below hb8
      replace hy := hy.below hb8
      replace hv := hv.below hb8
      replace gv := gv.below hb8
      replace ht := ht.below hb8
      replace gt := gt.below hb8
      replace hb1 := hb1.below hb8
      replace hb2 := hb2.below hb8
      replace HBT := Below.cons HBT hb8
      replace HSq := Lib.hid (hSb.out _ _ hb8 HSq.out)
      clear hb8
      refine hKq.out _ _ HSq.out (fun hSq => ?_)
      clear hSq hKq Kq
      try simp only [Act.put, List.setIfInBounds_toArray, List.set_cons_zero, List.set_cons_succ]
      refine SeqP.call rfl (by rfl) (fun Kq hKq => ?_)
      go_simp
      go_at_call 55
      with_reducible refine (C7_1.out _ _ _ hs1 ).mono ?_
      rintro e W9 ⟨Xr1, cr1, Yr1, dr1, rfl, hr1, gr1, hb9⟩
      replace hT := hT.below hb9
      replace hG := hG.below hb9
      replace hl := hl.below hb9
      replace hk := hk.below hb9
      replace hx := hx.below hb9
      replace hy := hy.below hb9
      replace hv := hv.below hb9
      replace gv := gv.below hb9
      replace ht := ht.below hb9
      replace gt := gt.below hb9
      replace hb1 := hb1.below hb9
      replace hb2 := hb2.below hb9
      replace hs1 := hs1.below hb9
      replace HBT := Below.cons HBT hb9
      replace HSq := Lib.hid (hSb.out _ _ hb9 HSq.out)
      clear hb9
      refine hKq.out _ _ HSq.out (fun hSq => ?_)
      clear hSq hKq Kq
      try simp only [Act.put, List.setIfInBounds_toArray, List.set_cons_zero, List.set_cons_succ]
      refine SeqP.call rfl (by rfl) (fun Kq hKq => ?_)
      go_simp
      go_at_call 36
      with_reducible refine (C7_2.out _ _ _ _ _ _ _ _ _ hv gv ht gt).mono ?_
      rintro e W10 ⟨Xr2, cr2, Yr2, dr2, rfl, hr2, gr2, hb10⟩
      replace hT := hT.below hb10
      replace hG := hG.below hb10
      replace hl := hl.below hb10
      replace hk := hk.below hb10
      replace hx := hx.below hb10
      replace hy := hy.below hb10
      replace hv := hv.below hb10
      replace gv := gv.below hb10
      replace ht := ht.below hb10
      replace gt := gt.below hb10
      replace hb1 := hb1.below hb10
      replace hb2 := hb2.below hb10
      replace hs1 := hs1.below hb10
      replace hr1 := hr1.below hb10
      replace gr1 := gr1.below hb10
      replace HBT := Below.cons HBT hb10
      replace HSq := Lib.hid (hSb.out _ _ hb10 HSq.out)
      clear hb10
      refine hKq.out _ _ HSq.out (fun hSq => ?_)
      clear hSq hKq Kq
      try simp only [Act.put, List.setIfInBounds_toArray, List.set_cons_zero, List.set_cons_succ]
      refine SeqP.call rfl (by rfl) (fun Kq hKq => ?_)
      go_simp
      go_at_call 54
      with_reducible refine (C7_3.out _ _ _ _ _ _ _ _ _ hr1 gr1 hr2 gr2).mono ?_
      rintro e W11 ⟨rfl, hb11⟩
      replace hT := hT.below hb11
      replace hG := hG.below hb11
      replace hl := hl.below hb11
      replace hk := hk.below hb11
      replace hx := hx.below hb11
      replace hy := hy.below hb11
      replace hv := hv.below hb11
      replace gv := gv.below hb11
      replace ht := ht.below hb11
      replace gt := gt.below hb11
      replace hb1 := hb1.below hb11
      replace hb2 := hb2.below hb11
      replace HBT := Below.cons HBT hb11
      replace HSq := Lib.hid (hSb.out _ _ hb11 HSq.out)
      clear hb11
      refine hKq.out _ _ HSq.out (fun hSq => ?_)
      clear hSq hKq Kq
      try simp only [Act.put, List.setIfInBounds_toArray, List.set_cons_zero, List.set_cons_succ]
      refine SeqP.take (v := ?_) rfl (fun _ _ _ h => h) (Or.inl ⟨by rfl, ?_⟩) ?_
      rotate_left 1
      · intro wq hSw; (try dsimp only at hSw); go_simp; try with_reducible rfl
      try simp only [Act.put, List.setIfInBounds_toArray, List.set_cons_zero, List.set_cons_succ]
      refine SeqP.take (v := ?_) rfl (fun _ _ _ h => h) (Or.inl ⟨by rfl, ?_⟩) ?_
      rotate_left 1
      · intro wq hSw; (try dsimp only at hSw); go_simp; try with_reducible rfl
      try simp only [Act.put, List.setIfInBounds_toArray, List.set_cons_zero, List.set_cons_succ]
      refine SeqP.take (v := ?_) rfl (fun _ _ _ h => h) (Or.inl ⟨by rfl, ?_⟩) ?_
      rotate_left 1
      · intro wq hSw; (try dsimp only at hSw); go_simp; try with_reducible rfl
      try simp only [Act.put, List.setIfInBounds_toArray, List.set_cons_zero, List.set_cons_succ]
      refine SeqP.take (v := ?_) rfl (fun _ _ _ h => h) (Or.inl ⟨by rfl, ?_⟩) ?_
      rotate_left 1
      · intro wq hSw; (try dsimp only at hSw); go_simp; try with_reducible rfl
      try simp only [Act.put, List.setIfInBounds_toArray, List.set_cons_zero, List.set_cons_succ]
      refine SeqP.take (v := ?_) rfl (fun _ _ _ h => h) (Or.inl ⟨by rfl, ?_⟩) ?_
      rotate_left 1
      · intro wq hSw; (try dsimp only at hSw); go_simp; try with_reducible rfl
      try simp only [Act.put, List.setIfInBounds_toArray, List.set_cons_zero, List.set_cons_succ]
      refine SeqP.call rfl (by rfl) (fun Kq hKq => ?_)
      go_simp
      go_at_call 42
      with_reducible refine (C7_4.out _ _ _ _ _ hx hy hT).mono ?_
      rintro e W12 ⟨Xs2, cs2, rfl, hs2, hb12⟩
      replace hT := hT.below hb12
      replace hG := hG.below hb12
      replace hl := hl.below hb12
      replace hk := hk.below hb12
      replace hx := hx.below hb12
      replace hy := hy.below hb12
      replace hv := hv.below hb12
      replace gv := gv.below hb12
      replace ht := ht.below hb12
      replace gt := gt.below hb12
      replace hb1 := hb1.below hb12
      replace hb2 := hb2.below hb12
      replace HBT := Below.cons HBT hb12
      replace HSq := Lib.hid (hSb.out _ _ hb12 HSq.out)
      clear hb12
      refine hKq.out _ _ HSq.out (fun hSq => ?_)
      clear hSq hKq Kq
      try simp only [Act.put, List.setIfInBounds_toArray, List.set_cons_zero, List.set_cons_succ]
      refine SeqP.call rfl (by rfl) (fun Kq hKq => ?_)
      go_simp
      go_at_call 55
      with_reducible refine (C7_5.out _ _ _ hs2 ).mono ?_
      rintro e W13 ⟨Xr3, cr3, Yr3, dr3, rfl, hr3, gr3, hb13⟩
      replace hT := hT.below hb13
      replace hG := hG.below hb13
      replace hl := hl.below hb13
      replace hk := hk.below hb13
      replace hx := hx.below hb13
      replace hy := hy.below hb13
      replace hv := hv.below hb13
      replace gv := gv.below hb13
      replace ht := ht.below hb13
      replace gt := gt.below hb13
      replace hb1 := hb1.below hb13
      replace hb2 := hb2.below hb13
      replace hs2 := hs2.below hb13
      replace HBT := Below.cons HBT hb13
      replace HSq := Lib.hid (hSb.out _ _ hb13 HSq.out)
      clear hb13
      refine hKq.out _ _ HSq.out (fun hSq => ?_)
      clear hSq hKq Kq
      try simp only [Act.put, List.setIfInBounds_toArray, List.set_cons_zero, List.set_cons_succ]
      refine SeqP.call rfl (by rfl) (fun Kq hKq => ?_)
      go_simp
      go_at_call 32
      with_reducible refine (C7_6.out _ _ _ _ _ _ _ _ _ hv gv ht gt).mono ?_
      rintro e W14 ⟨Xr4, cr4, Yr4, dr4, rfl, hr4, gr4, hb14⟩
      replace hT := hT.below hb14
      replace hG := hG.below hb14
      replace hl := hl.below hb14
      replace hk := hk.below hb14
      replace hx := hx.below hb14
      replace hy := hy.below hb14
      replace hv := hv.below hb14
      replace gv := gv.below hb14
      replace ht := ht.below hb14
      replace gt := gt.below hb14
      replace hb1 := hb1.below hb14
      replace hb2 := hb2.below hb14
      replace hs2 := hs2.below hb14
      replace hr3 := hr3.below hb14
      replace gr3 := gr3.below hb14
      replace HBT := Below.cons HBT hb14
      replace HSq := Lib.hid (hSb.out _ _ hb14 HSq.out)
      clear hb14
      refine hKq.out _ _ HSq.out (fun hSq => ?_)
      clear hSq hKq Kq
      try simp only [Act.put, List.setIfInBounds_toArray, List.set_cons_zero, List.set_cons_succ]
      refine SeqP.call rfl (by rfl) (fun Kq hKq => ?_)
      go_simp
      go_at_call 54
      with_reducible refine (C7_7.out _ _ _ _ _ _ _ _ _ hr3 gr3 hr4 gr4).mono ?_
      rintro e W15 ⟨rfl, hb15⟩
      replace hT := hT.below hb15
      replace hG := hG.below hb15
      replace hl := hl.below hb15
      replace hk := hk.below hb15
      replace hx := hx.below hb15
      replace hy := hy.below hb15
      replace hv := hv.below hb15
      replace gv := gv.below hb15
      replace ht := ht.below hb15
      replace gt := gt.below hb15
      replace hb1 := hb1.below hb15
      replace hb2 := hb2.below hb15
      replace HBT := Below.cons HBT hb15
      replace HSq := Lib.hid (hSb.out _ _ hb15 HSq.out)
      clear hb15
      refine hKq.out _ _ HSq.out (fun hSq => ?_)
      clear hSq hKq Kq
      try simp only [Act.put, List.setIfInBounds_toArray, List.set_cons_zero, List.set_cons_succ]
      refine SeqP.take (v := ?_) rfl (fun _ _ _ h => h) (Or.inl ⟨by rfl, ?_⟩) ?_
      rotate_left 1
      · intro wq hSw; (try dsimp only at hSw); go_simp; try with_reducible rfl
      try simp only [Act.put, List.setIfInBounds_toArray, List.set_cons_zero, List.set_cons_succ]
      refine SeqP.take (v := ?_) rfl (fun _ _ _ h => h) (Or.inl ⟨by rfl, ?_⟩) ?_
      rotate_left 1
      · intro wq hSw; (try dsimp only at hSw); go_simp; try with_reducible rfl
      try simp only [Act.put, List.setIfInBounds_toArray, List.set_cons_zero, List.set_cons_succ]
      refine SeqP.take (v := ?_) rfl (fun _ _ _ h => h) (Or.inl ⟨by rfl, ?_⟩) ?_
      rotate_left 1
      · intro wq hSw; (try dsimp only at hSw); go_simp; try with_reducible rfl
      try simp only [Act.put, List.setIfInBounds_toArray, List.set_cons_zero, List.set_cons_succ]
      refine SeqP.take (v := ?_) rfl (fun _ _ _ h => h) (Or.inl ⟨by rfl, ?_⟩) ?_
      rotate_left 1
      · intro wq hSw; (try dsimp only at hSw); go_simp; try with_reducible rfl
      try simp only [Act.put, List.setIfInBounds_toArray, List.set_cons_zero, List.set_cons_succ]
      refine SeqP.take (v := ?_) rfl (fun _ _ _ h => h) (Or.inl ⟨by rfl, ?_⟩) ?_
      rotate_left 1
      · intro wq hSw; (try dsimp only at hSw); go_simp; try with_reducible rfl
      try simp only [Act.put, List.setIfInBounds_toArray, List.set_cons_zero, List.set_cons_succ]
      refine SeqP.take (v := ?_) rfl (fun _ _ _ h => h) (Or.inl ⟨by rfl, ?_⟩) ?_
      rotate_left 1
      · intro wq hSw; (try dsimp only at hSw); go_simp; try with_reducible rfl
      try simp only [Act.put, List.setIfInBounds_toArray, List.set_cons_zero, List.set_cons_succ]
      refine SeqP.call rfl (by rfl) (fun Kq hKq => ?_)
      go_simp
      go_at_call 51
      with_reducible refine (C7_8.out _ _ _ _ _ hx hy hT hG).mono ?_
      rintro e W16 ⟨Xs3, cs3, rfl, hs3, hb16⟩
      replace hT := hT.below hb16
      replace hG := hG.below hb16
      replace hl := hl.below hb16
      replace hk := hk.below hb16
      replace hx := hx.below hb16
      replace hy := hy.below hb16
      replace hv := hv.below hb16
      replace gv := gv.below hb16
      replace ht := ht.below hb16
      replace gt := gt.below hb16
      replace hb1 := hb1.below hb16
      replace hb2 := hb2.below hb16
      replace HBT := Below.cons HBT hb16
      replace HSq := Lib.hid (hSb.out _ _ hb16 HSq.out)
      clear hb16
      refine hKq.out _ _ HSq.out (fun hSq => ?_)
      clear hSq hKq Kq
      try simp only [Act.put, List.setIfInBounds_toArray, List.set_cons_zero, List.set_cons_succ]
      refine SeqP.call rfl (by rfl) (fun Kq hKq => ?_)
      go_simp
      go_at_call 55
      with_reducible refine (C7_9.out _ _ _ hs3 ).mono ?_
      rintro e W17 ⟨Xr5, cr5, Yr5, dr5, rfl, hr5, gr5, hb17⟩
      replace hT := hT.below hb17
      replace hG := hG.below hb17
      replace hl := hl.below hb17
      replace hk := hk.below hb17
      replace hx := hx.below hb17
      replace hy := hy.below hb17
      replace hv := hv.below hb17
      replace gv := gv.below hb17
      replace ht := ht.below hb17
      replace gt := gt.below hb17
      replace hb1 := hb1.below hb17
      replace hb2 := hb2.below hb17
      replace hs3 := hs3.below hb17
      replace HBT := Below.cons HBT hb17
      replace HSq := Lib.hid (hSb.out _ _ hb17 HSq.out)
      clear hb17
      refine hKq.out _ _ HSq.out (fun hSq => ?_)
      clear hSq hKq Kq
      try simp only [Act.put, List.setIfInBounds_toArray, List.set_cons_zero, List.set_cons_succ]
      refine SeqP.call rfl (by rfl) (fun Kq hKq => ?_)
      go_simp
      go_at_call 56
      with_reducible refine (C7_10.out _ _ _ _ _ _ _ _ _ hv gv ht gt).mono ?_
      rintro e W18 ⟨Xr6, cr6, Yr6, dr6, rfl, hr6, gr6, hb18⟩
      replace hT := hT.below hb18
      replace hG := hG.below hb18
      replace hl := hl.below hb18
      replace hk := hk.below hb18
      replace hx := hx.below hb18
      replace hy := hy.below hb18
      replace hv := hv.below hb18
      replace gv := gv.below hb18
      replace ht := ht.below hb18
      replace gt := gt.below hb18
      replace hb1 := hb1.below hb18
      replace hb2 := hb2.below hb18
      replace hs3 := hs3.below hb18
      replace hr5 := hr5.below hb18
      replace gr5 := gr5.below hb18
      replace HBT := Below.cons HBT hb18
      replace HSq := Lib.hid (hSb.out _ _ hb18 HSq.out)
      clear hb18
      refine hKq.out _ _ HSq.out (fun hSq => ?_)
      clear hSq hKq Kq
      try simp only [Act.put, List.setIfInBounds_toArray, List.set_cons_zero, List.set_cons_succ]
      refine SeqP.call rfl (by rfl) (fun Kq hKq => ?_)
      go_simp
      go_at_call 54
      with_reducible refine (C7_11.out _ _ _ _ _ _ _ _ _ hr5 gr5 hr6 gr6).mono ?_
      rintro e W19 ⟨rfl, hb19⟩
      replace hT := hT.below hb19
      replace hG := hG.below hb19
      replace hl := hl.below hb19
      replace hk := hk.below hb19
      replace hx := hx.below hb19
      replace hy := hy.below hb19
      replace hv := hv.below hb19
      replace gv := gv.below hb19
      replace ht := ht.below hb19
      replace gt := gt.below hb19
      replace hb1 := hb1.below hb19
      replace hb2 := hb2.below hb19
      replace HBT := Below.cons HBT hb19
      replace HSq := Lib.hid (hSb.out _ _ hb19 HSq.out)
      clear hb19
      refine hKq.out _ _ HSq.out (fun hSq => ?_)
      clear hSq hKq Kq
      try simp only [Act.put, List.setIfInBounds_toArray, List.set_cons_zero, List.set_cons_succ]
      refine SeqP.take (v := ?_) rfl (fun _ _ _ h => h) (Or.inl ⟨by rfl, ?_⟩) ?_
      rotate_left 1
      · intro wq hSw; (try dsimp only at hSw); go_simp; try with_reducible rfl
      try simp only [Act.put, List.setIfInBounds_toArray, List.set_cons_zero, List.set_cons_succ]
      refine SeqP.take (v := ?_) rfl (fun _ _ _ h => h) (Or.inl ⟨by rfl, ?_⟩) ?_
      rotate_left 1
      · intro wq hSw; (try dsimp only at hSw); go_simp; try with_reducible rfl
      try simp only [Act.put, List.setIfInBounds_toArray, List.set_cons_zero, List.set_cons_succ]
      refine SeqP.take (v := ?_) rfl (fun _ _ _ h => h) (Or.inl ⟨by rfl, ?_⟩) ?_
      rotate_left 1
      · intro wq hSw; (try dsimp only at hSw); go_simp; try with_reducible rfl
      try simp only [Act.put, List.setIfInBounds_toArray, List.set_cons_zero, List.set_cons_succ]
      refine SeqP.take (v := ?_) rfl (fun _ _ _ h => h) (Or.inl ⟨by rfl, ?_⟩) ?_
      rotate_left 1
      · intro wq hSw; (try dsimp only at hSw); go_simp; try with_reducible rfl
      try simp only [Act.put, List.setIfInBounds_toArray, List.set_cons_zero, List.set_cons_succ]
      refine SeqP.take (v := ?_) rfl (fun _ _ _ h => h) (Or.inl ⟨by rfl, ?_⟩) ?_
      rotate_left 1
      · intro wq hSw; (try dsimp only at hSw); go_simp; try with_reducible rfl
      try simp only [Act.put, List.setIfInBounds_toArray, List.set_cons_zero, List.set_cons_succ]
      refine SeqP.take (v := ?_) rfl (fun _ _ _ h => h) (Or.inl ⟨by rfl, ?_⟩) ?_
      rotate_left 1
      · intro wq hSw; (try dsimp only at hSw); go_simp; try with_reducible rfl
      try simp only [Act.put, List.setIfInBounds_toArray, List.set_cons_zero, List.set_cons_succ]
      refine SeqP.call rfl (by rfl) (fun Kq hKq => ?_)
      go_simp
      go_at_call 41
      with_reducible refine (C7_12.out _ _ _ _ _ hx hy ).mono ?_
      rintro e W20 ⟨rfl, hb20⟩
      replace hT := hT.below hb20
      replace hG := hG.below hb20
      replace hl := hl.below hb20
      replace hk := hk.below hb20
      replace hx := hx.below hb20
      replace hy := hy.below hb20
      replace hv := hv.below hb20
      replace gv := gv.below hb20
      replace ht := ht.below hb20
      replace gt := gt.below hb20
      replace hb1 := hb1.below hb20
      replace hb2 := hb2.below hb20
      replace HBT := Below.cons HBT hb20
      replace HSq := Lib.hid (hSb.out _ _ hb20 HSq.out)
      clear hb20
      refine hKq.out _ _ HSq.out (fun hSq => ?_)
      clear hSq hKq Kq
      try simp only [Act.put, List.setIfInBounds_toArray, List.set_cons_zero, List.set_cons_succ]
      refine SeqP.call rfl (by rfl) (fun Kq hKq => ?_)
      go_simp
      go_at_call 35
      with_reducible refine (C7_13.out _ _ _ _ _ _ _ _ _ hv gv ht gt).mono ?_
      rintro e W21 ⟨rfl, hb21⟩
      replace hT := hT.below hb21
      replace hG := hG.below hb21
      replace hl := hl.below hb21
      replace hk := hk.below hb21
      replace hx := hx.below hb21
      replace hy := hy.below hb21
      replace hv := hv.below hb21
      replace gv := gv.below hb21
      replace ht := ht.below hb21
      replace gt := gt.below hb21
      replace hb1 := hb1.below hb21
      replace hb2 := hb2.below hb21
      replace HBT := Below.cons HBT hb21
      replace HSq := Lib.hid (hSb.out _ _ hb21 HSq.out)
      clear hb21
      refine hKq.out _ _ HSq.out (fun hSq => ?_)
      clear hSq hKq Kq
      try simp only [Act.put, List.setIfInBounds_toArray, List.set_cons_zero, List.set_cons_succ]
      refine SeqP.take (v := ?_) rfl (fun _ _ _ h => h) (Or.inl ⟨by rfl, ?_⟩) ?_
      rotate_left 1
      · intro wq hSw; (try dsimp only at hSw); go_simp; try with_reducible rfl
      try simp only [Act.put, List.setIfInBounds_toArray, List.set_cons_zero, List.set_cons_succ]
      refine SeqP.take (v := ?_) rfl (fun _ _ _ h => h) (Or.inl ⟨by rfl, ?_⟩) ?_
      rotate_left 1
      · intro wq hSw; (try dsimp only at hSw); go_simp; try with_reducible rfl
      try simp only [Act.put, List.setIfInBounds_toArray, List.set_cons_zero, List.set_cons_succ]
      refine SeqP.take (v := ?_) rfl (fun _ _ _ h => h) (Or.inl ⟨by rfl, ?_⟩) ?_
      rotate_left 1
      · intro wq hSw; (try dsimp only at hSw); go_simp; try with_reducible rfl
      try simp only [Act.put, List.setIfInBounds_toArray, List.set_cons_zero, List.set_cons_succ]
      refine SeqP.take (v := ?_) rfl (fun _ _ _ h => h) (Or.inl ⟨by rfl, ?_⟩) ?_
      rotate_left 1
      · intro wq hSw; (try dsimp only at hSw); go_simp; try with_reducible rfl
      try simp only [Act.put, List.setIfInBounds_toArray, List.set_cons_zero, List.set_cons_succ]
      refine SeqP.take (v := ?_) rfl (fun _ _ _ h => h) (Or.inl ⟨by rfl, ?_⟩) ?_
      rotate_left 1
      · intro wq hSw; (try dsimp only at hSw); go_simp; try with_reducible rfl
      try simp only [Act.put, List.setIfInBounds_toArray, List.set_cons_zero, List.set_cons_succ]
      refine SeqP.call rfl (by rfl) (fun Kq hKq => ?_)
      go_simp
      go_at_call 28
      with_reducible refine (C7_14.out _ _ _ hx ).mono ?_
      rintro e W22 ⟨rfl, hb22⟩
      replace hT := hT.below hb22
      replace hG := hG.below hb22
      replace hl := hl.below hb22
      replace hk := hk.below hb22
      replace hx := hx.below hb22
      replace hy := hy.below hb22
      replace hv := hv.below hb22
      replace gv := gv.below hb22
      replace ht := ht.below hb22
      replace gt := gt.below hb22
      replace hb1 := hb1.below hb22
      replace hb2 := hb2.below hb22
      replace HBT := Below.cons HBT hb22
      replace HSq := Lib.hid (hSb.out _ _ hb22 HSq.out)
      clear hb22
      refine hKq.out _ _ HSq.out (fun hSq => ?_)
      clear hSq hKq Kq
      try simp only [Act.put, List.setIfInBounds_toArray, List.set_cons_zero, List.set_cons_succ]
      refine SeqP.call rfl (by rfl) (fun Kq hKq => ?_)
      go_simp
      go_at_call 33
      with_reducible refine (C7_15.out _ _ _ _ _ hv gv).mono ?_
      rintro e W23 ⟨rfl, hb23⟩
      replace hT := hT.below hb23
      replace hG := hG.below hb23
      replace hl := hl.below hb23
      replace hk := hk.below hb23
      replace hx := hx.below hb23
      replace hy := hy.below hb23
      replace hv := hv.below hb23
      replace gv := gv.below hb23
      replace ht := ht.below hb23
      replace gt := gt.below hb23
      replace hb1 := hb1.below hb23
      replace hb2 := hb2.below hb23
      replace HBT := Below.cons HBT hb23
      replace HSq := Lib.hid (hSb.out _ _ hb23 HSq.out)
      clear hb23
      refine hKq.out _ _ HSq.out (fun hSq => ?_)
      clear hSq hKq Kq
      try simp only [Act.put, List.setIfInBounds_toArray, List.set_cons_zero, List.set_cons_succ]
      refine SeqP.take (v := ?_) rfl (fun _ _ _ h => h) (Or.inl ⟨by rfl, ?_⟩) ?_
      rotate_left 1
      · intro wq hSw; (try dsimp only at hSw); go_simp; try with_reducible rfl
      try simp only [Act.put, List.setIfInBounds_toArray, List.set_cons_zero, List.set_cons_succ]
      refine SeqP.take (v := ?_) rfl (fun _ _ _ h => h) (Or.inl ⟨by rfl, ?_⟩) ?_
      rotate_left 1
      · intro wq hSw; (try dsimp only at hSw); go_simp; try with_reducible rfl
      try simp only [Act.put, List.setIfInBounds_toArray, List.set_cons_zero, List.set_cons_succ]
      refine SeqP.take (v := ?_) rfl (fun _ _ _ h => h) (Or.inl ⟨by rfl, ?_⟩) ?_
      rotate_left 1
      · intro wq hSw; (try dsimp only at hSw); go_simp; try with_reducible rfl
      try simp only [Act.put, List.setIfInBounds_toArray, List.set_cons_zero, List.set_cons_succ]
      refine SeqP.take (v := ?_) rfl (fun _ _ _ h => h) (Or.inl ⟨by rfl, ?_⟩) ?_
      rotate_left 1
      · intro wq hSw; (try dsimp only at hSw); go_simp; try with_reducible rfl
      try simp only [Act.put, List.setIfInBounds_toArray, List.set_cons_zero, List.set_cons_succ]
      refine SeqP.take (v := ?_) rfl (fun _ _ _ h => h) (Or.inl ⟨by rfl, ?_⟩) ?_
      rotate_left 1
      · intro wq hSw; (try dsimp only at hSw); go_simp; try with_reducible rfl
      try simp only [Act.put, List.setIfInBounds_toArray, List.set_cons_zero, List.set_cons_succ]
      refine SeqP.call rfl (by rfl) (fun Kq hKq => ?_)
      go_simp
      go_at_call 19
      with_reducible refine (C7_16.out _ _ _ _ _ hb1 hx ).mono ?_
      rintro e W24 ⟨rfl, hb24⟩
      replace hT := hT.below hb24
      replace hG := hG.below hb24
      replace hl := hl.below hb24
      replace hk := hk.below hb24
      replace hx := hx.below hb24
      replace hy := hy.below hb24
      replace hv := hv.below hb24
      replace gv := gv.below hb24
      replace ht := ht.below hb24
      replace gt := gt.below hb24
      replace hb1 := hb1.below hb24
      replace hb2 := hb2.below hb24
      replace HBT := Below.cons HBT hb24
      replace HSq := Lib.hid (hSb.out _ _ hb24 HSq.out)
      clear hb24
      refine hKq.out _ _ HSq.out (fun hSq => ?_)
      clear hSq hKq Kq
      try simp only [Act.put, List.setIfInBounds_toArray, List.set_cons_zero, List.set_cons_succ]
      refine SeqP.take (v := ?_) rfl (fun _ _ _ h => h) (Or.inl ⟨by rfl, ?_⟩) ?_
      rotate_left 1
      · intro wq hSw; (try dsimp only at hSw); go_simp; try with_reducible rfl
      try simp only [Act.put, List.setIfInBounds_toArray, List.set_cons_zero, List.set_cons_succ]
      refine SeqP.take (v := ?_) rfl (fun _ _ _ h => h) (Or.inl ⟨by rfl, ?_⟩) ?_
      rotate_left 1
      · intro wq hSw; (try dsimp only at hSw); go_simp; try with_reducible rfl
      try simp only [Act.put, List.setIfInBounds_toArray, List.set_cons_zero, List.set_cons_succ]
      refine SeqP.take (v := ?_) rfl (fun _ _ _ h => h) (Or.inl ⟨by rfl, ?_⟩) ?_
      rotate_left 1
      · intro wq hSw; (try dsimp only at hSw); go_simp; try with_reducible rfl
      try simp only [Act.put, List.setIfInBounds_toArray, List.set_cons_zero, List.set_cons_succ]
      refine SeqP.take (v := ?_) rfl (fun _ _ _ h => h) (Or.inl ⟨by rfl, ?_⟩) ?_
      rotate_left 1
      · intro wq hSw; (try dsimp only at hSw); go_simp; try with_reducible rfl
      try simp only [Act.put, List.setIfInBounds_toArray, List.set_cons_zero, List.set_cons_succ]
      refine SeqP.take (v := ?_) rfl (fun _ _ _ h => h) (Or.inl ⟨by rfl, ?_⟩) ?_
      rotate_left 1
      · intro wq hSw; (try dsimp only at hSw); go_simp; try with_reducible rfl
      try simp only [Act.put, List.setIfInBounds_toArray, List.set_cons_zero, List.set_cons_succ]
      refine SeqP.take (v := ?_) rfl (fun _ _ _ h => h) (Or.inl ⟨by rfl, ?_⟩) ?_
      rotate_left 1
      · intro wq hSw; (try dsimp only at hSw); go_simp; try with_reducible rfl
      try simp only [Act.put, List.setIfInBounds_toArray, List.set_cons_zero, List.set_cons_succ]
      refine SeqP.take (v := ?_) rfl (fun _ _ _ h => h) (Or.inl ⟨by rfl, ?_⟩) ?_
      rotate_left 1
      · intro wq hSw; (try dsimp only at hSw); go_simp; try with_reducible rfl
      try simp only [Act.put, List.setIfInBounds_toArray, List.set_cons_zero, List.set_cons_succ]
      refine SeqP.take (v := ?_) rfl (fun _ _ _ h => h) (Or.inl ⟨by rfl, ?_⟩) ?_
      rotate_left 1
      · intro wq hSw; (try dsimp only at hSw); go_simp; try with_reducible rfl
      try simp only [Act.put, List.setIfInBounds_toArray, List.set_cons_zero, List.set_cons_succ]
      refine SeqP.call rfl (by rfl) (fun Kq hKq => ?_)
      go_simp
      go_at_call 19
      with_reducible refine (C7_17.out _ _ _ _ _ hb2 hx ).mono ?_
      rintro e W25 ⟨rfl, hb25⟩
      replace hT := hT.below hb25
      replace hG := hG.below hb25
      replace hl := hl.below hb25
      replace hk := hk.below hb25
      replace hx := hx.below hb25
      replace hy := hy.below hb25
      replace hv := hv.below hb25
      replace gv := gv.below hb25
      replace ht := ht.below hb25
      replace gt := gt.below hb25
      replace hb1 := hb1.below hb25
      replace hb2 := hb2.below hb25
      replace HBT := Below.cons HBT hb25
      replace HSq := Lib.hid (hSb.out _ _ hb25 HSq.out)
      clear hb25
      refine hKq.out _ _ HSq.out (fun hSq => ?_)
      clear hSq hKq Kq
      try simp only [Act.put, List.setIfInBounds_toArray, List.set_cons_zero, List.set_cons_succ]
      refine SeqP.take (v := ?_) rfl (fun _ _ _ h => h) (Or.inl ⟨by rfl, ?_⟩) ?_
      rotate_left 1
      · intro wq hSw; (try dsimp only at hSw); go_simp; try with_reducible rfl
      try simp only [Act.put, List.setIfInBounds_toArray, List.set_cons_zero, List.set_cons_succ]
      refine SeqP.take (v := ?_) rfl (fun _ _ _ h => h) (Or.inl ⟨by rfl, ?_⟩) ?_
      rotate_left 1
      · intro wq hSw; (try dsimp only at hSw); go_simp; try with_reducible rfl
      try simp only [Act.put, List.setIfInBounds_toArray, List.set_cons_zero, List.set_cons_succ]
      refine SeqP.take (v := ?_) rfl (fun _ _ _ h => h) (Or.inl ⟨by rfl, ?_⟩) ?_
      rotate_left 1
      · intro wq hSw; (try dsimp only at hSw); go_simp; try with_reducible rfl
      try simp only [Act.put, List.setIfInBounds_toArray, List.set_cons_zero, List.set_cons_succ]
      refine SeqP.take (v := ?_) rfl (fun _ _ _ h => h) (Or.inl ⟨by rfl, ?_⟩) ?_
      rotate_left 1
      · intro wq hSw; (try dsimp only at hSw); go_simp; try with_reducible rfl
      try simp only [Act.put, List.setIfInBounds_toArray, List.set_cons_zero, List.set_cons_succ]
      refine SeqP.take (v := ?_) rfl (fun _ _ _ h => h) (Or.inl ⟨by rfl, ?_⟩) ?_
      rotate_left 1
      · intro wq hSw; (try dsimp only at hSw); go_simp; try with_reducible rfl
      try simp only [Act.put, List.setIfInBounds_toArray, List.set_cons_zero, List.set_cons_succ]
      refine SeqP.take (v := ?_) rfl (fun _ _ _ h => h) (Or.inl ⟨by rfl, ?_⟩) ?_
      rotate_left 1
      · intro wq hSw; (try dsimp only at hSw); go_simp; try with_reducible rfl
      try simp only [Act.put, List.setIfInBounds_toArray, List.set_cons_zero, List.set_cons_succ]
      refine SeqP.take (v := ?_) rfl (fun _ _ _ h => h) (Or.inl ⟨by rfl, ?_⟩) ?_
      rotate_left 1
      · intro wq hSw; (try dsimp only at hSw); go_simp; try with_reducible rfl
      try simp only [Act.put, List.setIfInBounds_toArray, List.set_cons_zero, List.set_cons_succ]
      refine SeqP.take (v := ?_) rfl (fun _ _ _ h => h) (Or.inl ⟨by rfl, ?_⟩) ?_
      rotate_left 1
      · intro wq hSw; (try dsimp only at hSw); go_simp; try with_reducible rfl
      try simp only [Act.put, List.setIfInBounds_toArray, List.set_cons_zero, List.set_cons_succ]
      refine SeqP.take (v := ?_) rfl (fun _ _ _ h => h) (Or.inl ⟨by rfl, ?_⟩) ?_
      rotate_left 1
      · intro wq hSw; (try dsimp only at hSw); go_simp; try with_reducible rfl
      try simp only [Act.put, List.setIfInBounds_toArray, List.set_cons_zero, List.set_cons_succ]
      refine SeqP.done ?_
      clear hSb
      clear HSq
      all_goals (try go_wp2_with (fail))
      go_ret
      exact ⟨rfl, HBT⟩
end Go.Proofs.YtacjfpibilolnaaGreatDoor

set_option linter.unusedVariables false
set_option linter.unusedSimpArgs false
namespace Go.Proofs.YtacjfpibilolnaaGreatDoor
open Go.RowKit Go.ChangeShapes Go.WideShapes Go.ChangeAt

theorem dyadRationals_lifted (os : Os) (started : os.Started) (H : Type) (enc : TypeId × Value → H) :
    ReturnsInHanded {} Tryz.checked os 11 .any (fun w args => (Rows.dyadRationalsSpec.pre enc Tryz.prog Tryz.f11 [] false w args ∧ laidMetH Tryz.prog [("math/bits.deBruijn32tab", Rows.laid_math_bits_deBruijn32tab), ("ziggurat/ntt.fields", Rows.laid_ziggurat_ntt_fields)] w) ∧ sizedMet enc Tryz.prog Tryz.f11 (OpenSpec.ofChange Rows.dyadRationalsSpec) false w args)
      (Rows.dyadRationalsSpec.post enc Tryz.prog Tryz.f11 false true false false) := by
  refine returnsInHanded_of_change_and (C := Tryz.checked) (X := fun w _ => laidMetH Tryz.prog [("math/bits.deBruijn32tab", Rows.laid_math_bits_deBruijn32tab), ("ziggurat/ntt.fields", Rows.laid_ziggurat_ntt_fields)] w) (fun _ _ _ hh h => h.of_heap hh) row_own started (by kernel_rfl) Tryz.func11
    (ChangeSpec.witness_shaped (enc := enc) (C := Tryz.checked) (os := os) (X := fun w _ => laidMetH Tryz.prog [("math/bits.deBruijn32tab", Rows.laid_math_bits_deBruijn32tab), ("ziggurat/ntt.fields", Rows.laid_ziggurat_ntt_fields)] w) false (World.doorLaid Tryz.prog 400 os) #[.agg #[.bool false, .slice none 0 0, .int .i64 0], .agg #[.bool false, .slice none 0 0, .int .i64 0], .int .u8 0] 8 rfl (World.shaped_of_RefB (by kernel_rfl) (by kernel_rfl)) (by kernel_rfl) (by kernel_rfl) (by kernel_rfl) (door_met2 os _)) ?_
  intro W base args ds gs before hval0 hW _ _ hL _
  have hval : ∀ (j : Nat) t v, Tryz.f11.params[j]? = some t → args[j]? = some v → Value.okWide Tryz.prog W .any base t v := hval0
  have hW' := hW
  obtain ⟨p, q, hA0, hV, rfl, hfz, hnd⟩ := hW
  have hA : DataW.TrodAll enc Tryz.prog W 0 (fun _ => true) true Tryz.f11.params.toList args.toList ds p := hA0
  rw [Tryz.params11] at hA hval
  obtain ⟨v0, vs0, d0, ds0, p0, q0, hargs, rfl, rfl, h0, r0⟩ := trodAll_cons hA
  obtain ⟨v1, vs1, d1, ds1, p1, q1, rfl, rfl, rfl, h1, r1⟩ := trodAll_cons r0
  obtain ⟨v2, vs2, d2, ds2, p2, q2, rfl, rfl, rfl, h2, r2⟩ := trodAll_cons r1
  obtain ⟨rfl, rfl, rfl⟩ := trodAll_nil r2
  obtain rfl : args = #[v0, v1, v2] := by cases args; simp_all
  obtain ⟨rfl, rfl⟩ := trodVars_none hV
  have hT := tab_of_laid2 hL
  have hG := flds_of_laid2 hL
  have k0 := h0
  have lt0 : ∀ x ∈ p0, x.block < W.heap.size := by obtain ⟨m, hm⟩ := k0; exact DataW.trod_lt m _ _ _ hm
  obtain ⟨b0, A0, c0, l0, x0, rfl, i0⟩ := open_dy (hval 0 28 v0 rfl rfl) h0
  have k1 := h1
  have lt1 : ∀ x ∈ p1, x.block < W.heap.size := by obtain ⟨m, hm⟩ := k1; exact DataW.trod_lt m _ _ _ hm
  obtain ⟨b1, A1, c1, l1, x1, rfl, i1⟩ := open_dy (hval 1 28 v1 rfl rfl) h1
  obtain ⟨z2, rfl, rfl, rfl, w2⟩ := open_int Tryz.underlying5 (hval 2 5 v2 rfl rfl) h2
  have bz2 := bounds_u8 w2
  obtain ⟨n2, rfl⟩ := Int.eq_ofNat_of_zero_le bz2.1
  have bn2 : n2 < 256 := by omega
  clear hA0 hval0 hval hL
  have hcall := dyadRationals_c b0 b1 x0 x1 n2 A0 c0 l0 A1 c1 l1 W hT hG i0.1 i0.2.1 i0.2.2.1 i0.2.2.2.1 i0.2.2.2.2 i1.1 i1.2.1 i1.2.2.1 i1.2.2.2.1 i1.2.2.2.2 bn2
  refine hcall.mono fun e W' ⟨he, bel⟩ => ?_
  subst he
  exact ⟨_, rfl, _, _, _, [], _, [], hW', trodAll_mk1 (shut_bool Tryz.underlying4 _), (trodAll_cons_mk (Below.trod row_out (by kernel_rfl) (of_decide_eq_true (by kernel_rfl)) k0 bel lt0) (trodAll_cons_mk (Below.trod row_out (by kernel_rfl) (of_decide_eq_true (by kernel_rfl)) k1 bel lt1) (trodAll_cons_mk (shut_int Tryz.underlying5 w2) trodAll_mk0))), rfl, bel.frame _, fun h => by cases h⟩
theorem dyadRationals_holds : Rows.DyadRationalsSaid :=
  OpenClaim.holds_of_wide 11 Tryz.f11 rfl rfl rfl rfl rfl rfl rfl ⟨rfl, rfl, rfl, rfl, rfl⟩ rfl rfl rfl rfl rfl (by kernel_rfl) Tryz.func11 (by kernel_rfl)
    (of_decide_eq_true (by kernel_rfl)) (by unfold Func.isWrapper; first | (rw [if_pos (by decide +kernel)]; kernel_rfl) | (rw [if_neg (by decide +kernel)]; exact ⟨rfl, rfl⟩))
    (fun os started H enc _ => dyadRationals_lifted os started H enc)

/-- The card, tied to the program's text. -/
theorem dyadRationals_card : Rows.DyadRationalsCardSaid :=
  Claim7.holds_tied_plain_at .later [] [.data, .data] true (true, "c40366035f47d3ac072167c9252c36368376323eeb282c459406779c221647a3") false
    dyadRationals_holds (fun _ h => by cases h) (by kernel_rfl) (fun _ h => by cases h) dyadRationals_row_tie rfl ⟨rfl, rfl⟩ (by kernel_rfl) rfl
    (fun f fn hf hfn => by
      obtain rfl : f = 11 := Option.some.inj ((show Tryz.prog.funcNamed "ziggurat/zigguratlaw10.DyadRationals" = some 11 by kernel_rfl).symm.trans hf) |>.symm
      obtain rfl : fn = Tryz.f11 := (Option.some.inj (Tryz.func11.symm.trans hfn)).symm
      exact ⟨by kernel_rfl, fun j t ht => by
        rw [Tryz.params11] at ht
        have hm : t ∈ [28, 28, 5] := by simpa using Array.mem_of_getElem? ht
        have hall : ([28, 28, 5].all fun u => !Tryz.prog.wantsStandIn u) = true := by kernel_rfl
        exact (show Tryz.prog.wantsStandIn t = false by simpa using List.all_eq_true.1 hall t hm)⟩)
    (by kernel_rfl)
#print axioms dyadRationals_card
end Go.Proofs.YtacjfpibilolnaaGreatDoor
