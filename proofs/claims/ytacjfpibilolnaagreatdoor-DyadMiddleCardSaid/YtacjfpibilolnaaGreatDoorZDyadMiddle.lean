/- For all inputs the middle of two lies between them, as far from the one as from the other, and whole parts of it times a power of 2 are its floor: DyadMiddle returns true and leaves its arguments as they were. Conditions: Each package-level variable that the row lists (math/bits.deBruijn32tab) holds at the call what the library's text lays; the tie is given and covers the pruned copy of the repository. -/
import Derived.Test.YtacjfpibilolnaaGreatDoorSA15
import Derived.Test.YtacjfpibilolnaaGreatDoorSA14
import Derived.Test.YtacjfpibilolnaaGreatDoorCards
import Derived.Test.YtacjfpibilolnaaGreatDoorTie
import Derived.SevenTiedAt
/- Laws of dyadic numbers: DyadMiddle. -/
set_option linter.unusedVariables false
set_option linter.unusedSimpArgs false
namespace Go.Proofs.YtacjfpibilolnaaGreatDoor
open Go.RowKit Go.Shelf
attribute [local go_sem] max2_i min2_i max_two min_two

set_option maxRecDepth 100000 in
set_option maxHeartbeats 4000000 in
theorem dyadMiddle_c (sa sb : Bool) (xa xb : Int) (b0 : Nat) (A : Option Addr) (c : Nat) (l : List Nat) (B : Option Addr) (d : Nat) (k : List Nat) (w : World) (hT : Tab w) (hl : Rd w A l) (Ll : Lim l) (Ql : l.length ≤ maxLen) (Cl : l.length ≤ c) (Zl : A = none → c = 0) (hk : Rd w B k) (Lk : Lim k) (Qk : k.length ≤ maxLen) (Ck : k.length ≤ d) (Zk : B = none → d = 0) (h0 : b0 < 65536) :
    Calls Tryz.prog 8 #[.agg #[.bool sa, .slice A l.length c, .int .i64 xa], .agg #[.bool sb, .slice B k.length d, .int .i64 xb], .int .u16 (b0 : Nat)] w fun e w' => e = .returned (.bool true) ∧ Below w.heap.size w w' := by
  replace Zl := Lib.hid Zl
  replace Zk := Lib.hid Zk
  have hT0 := hT
  have hl0 := hl
  have hk0 := hk
  obtain ⟨rn, Ern⟩ : ∃ y, y = b0 % 401 := ⟨_, rfl⟩
  have Irn : (b0 : Int) % 401 = (rn : Int) := by omega
  have Jrn : (b0 : Int).tmod 401 = (rn : Int) := by rw [Int.tmod_eq_emod_of_nonneg (by omega)]; exact Irn
  have Brn : rn < 401 := by omega
  replace Ern := Lib.hid Ern
  obtain ⟨n, En⟩ : ∃ q : Int, q = (rn : Int) - 200 := ⟨_, rfl⟩
  have In : (rn : Int) - 200 = n := En.symm
  have Bn : -200 ≤ n ∧ n ≤ 200 := by omega
  have Wn : IntKind.i64.wrap n = n := IntWalk.i64_in _ (by omega)
  have Wrn : IntKind.i64.wrap (rn : Int) = (rn : Int) := IntWalk.i64_in _ (by omega)
  replace En := Lib.hid En
  have Wb0 : IntKind.i64.wrap (b0 : Int) = (b0 : Int) := IntWalk.i64_in _ (by omega)
  obtain ⟨nn, Enn⟩ : ∃ q : Int, q = -n := ⟨_, rfl⟩
  have Inn : -n = nn := Enn.symm
  have Wnn : IntKind.i64.wrap nn = nn := IntWalk.i64_in _ (by omega)
  replace Enn := Lib.hid Enn
  obtain ⟨x, Ex⟩ : ∃ z : Rat, z = dval (ival sa (val (l.take 8))) (cutE xa) := ⟨_, rfl⟩
  have Ox : DB x 8 456 := by rw [Ex]; exact db_val (E := 200) (by rw [mg_ival]; exact made_nl l Ll 8) (cutE_bd xa)
  have C1 := fun (W : World) (h1 : Rd W A l) => tmadeI_c sa A c l xa 8 8 W h1 Ll Ql Cl Zl.out (by decide) rfl
  rw [← Ex] at C1
  replace Ex := Lib.hid Ex
  replace C1 := Lib.hid C1
  obtain ⟨y, Ey⟩ : ∃ z : Rat, z = dval (ival sb (val (k.take 8))) (cutE xb) := ⟨_, rfl⟩
  have Oy : DB y 8 456 := by rw [Ey]; exact db_val (E := 200) (by rw [mg_ival]; exact made_nl k Lk 8) (cutE_bd xb)
  have C2 := fun (W : World) (h1 : Rd W B k) => tmadeI_c sb B d k xb 8 8 W h1 Lk Qk Ck Zk.out (by decide) rfl
  rw [← Ey] at C2
  replace Ey := Lib.hid Ey
  replace C2 := Lib.hid C2
  have hb1 : Below (w).heap.size (w) ((w.alloc (.cells #[.bool sa, .slice A l.length c, .int .i64 xa] 28)).alloc (.cells #[.bool sb, .slice B k.length d, .int .i64 xb] 28)) := (Below.alloc (Below.alloc (Below.refl _ _) (Nat.le_refl _) _) (by simp <;> omega) _)
  replace hT := hT.below hb1
  replace hl := hl.below hb1
  replace hk := hk.below hb1
  have HBT := hb1
  clear hb1
  have Ra : BoxA ((w.alloc (.cells #[.bool sa, .slice A l.length c, .int .i64 xa] 28)).alloc (.cells #[.bool sb, .slice B k.length d, .int .i64 xb] 28)) w.heap.size 28 #[.bool sa, .slice A l.length c, .int .i64 xa] := ⟨by repeat (first | exact at_new (by first | (simp; done) | (simp; omega)) | refine at_old (by first | (simp; done) | (simp; omega)) ?_)⟩
  have qa0 := Ra.c (i := 0) rfl
  have qa1 := Ra.c (i := 1) rfl
  have qa2 := Ra.c (i := 2) rfl
  have Rb : BoxA ((w.alloc (.cells #[.bool sa, .slice A l.length c, .int .i64 xa] 28)).alloc (.cells #[.bool sb, .slice B k.length d, .int .i64 xb] 28)) (w.heap.size + 1) 28 #[.bool sb, .slice B k.length d, .int .i64 xb] := ⟨by repeat (first | exact at_new (by first | (simp; done) | (simp; omega)) | refine at_old (by first | (simp; done) | (simp; omega)) ?_)⟩
  have qb0 := Rb.c (i := 0) rfl
  have qb1 := Rb.c (i := 1) rfl
  have qb2 := Rb.c (i := 2) rfl
  go_enter Tryz.func8, Tryz.ntmps8
  go_wp2_with (fail)
  refine (Calls.mono (dhead_c _ hT) ?_)
  rintro e W2 ⟨rfl, hb2⟩
  replace hT := hT.below hb2
  replace hl := hl.below hb2
  replace hk := hk.below hb2
  replace Ra := Ra.below hb2
  replace qa0 := cell_below hb2 qa0
  replace qa1 := cell_below hb2 qa1
  replace qa2 := cell_below hb2 qa2
  replace Rb := Rb.below hb2
  replace qb0 := cell_below hb2 qb0
  replace qb1 := cell_below hb2 qb1
  replace qb2 := cell_below hb2 qb2
  replace HBT := Below.cons HBT hb2
  clear hb2
  go_wp2_with (fail)
  refine wp_region_inv (fun E a' w' => ∃ (u17 u18 u19 u20 u8 u9 : Value),
    a' = { tmps := #[.agg #[.bool sa, .slice A l.length c, .int .i64 xa], .agg #[.bool sb, .slice B k.length d, .int .i64 xb], .int .u16 (b0 : Nat), .pointer (some ⟨w.heap.size, 0, none⟩), .pointer (some ⟨(w.heap.size + 1), 0, none⟩), undef, .bool false, .bool true, u8, u9, undef, undef, undef, undef, undef, undef, .bool true, u17, u18, u19, u20, undef, undef, undef, undef, undef, undef, undef, undef, undef, undef, undef, undef, undef, undef, undef, undef, undef, undef, undef, undef, undef, undef, undef, undef, undef, undef, undef, undef, undef, undef, undef, undef, undef, undef, undef, undef, undef, undef, undef, undef, undef, undef, undef, undef, undef, undef, undef, undef, undef, undef, undef, undef, undef, undef, undef, undef, undef, undef, undef, undef, undef, undef, undef, undef, undef, undef, undef], defers := [] } ∧
    (E 0 = true → u17 = .agg #[.bool sa, .slice A l.length c, .int .i64 xa]) ∧
    (E 1 = true → PD u18 x w') ∧
    (E 2 = true → u19 = .agg #[.bool sb, .slice B k.length d, .int .i64 xb]) ∧
    (E 3 = true → PD u20 y w') ∧
    (E 4 = true → PB3 28 W2.heap.size u8 w') ∧
    (E 5 = true → PB3 28 W2.heap.size u9 w') ∧
    (E 6 = true → PBD W2.heap.size u8 x w') ∧
    (E 7 = true → PBD W2.heap.size u9 y w') ∧
    (E 6 = true → E 4 = true) ∧
    (E 7 = true → E 5 = true) ∧
    (E 4 = true → E 5 = true → u8 ≠ u9) ∧
    Below W2.heap.size W2 w') (by kernel_rfl) (by kernel_rfl) ?init ?fin ?step
  case init => exact ⟨_, _, _, _, _, _, rfl, by simp, by simp, by simp, by simp, by simp, by simp, by simp, by simp, by simp, by simp, by simp, (Below.refl _ _).drew⟩
  case step =>
    rintro E a' w' i ⟨u17, u18, u19, u20, u8, u9, rfl, h0, h1, h2, h3, h4, h5, h6, h7, hD6, hD7, hN4_5, hB⟩ hi hEi hdep
    have qa0 := cell_below hB qa0
    have qa1 := cell_below hB qa1
    have qa2 := cell_below hB qa2
    have qb0 := cell_below hB qb0
    have qb1 := cell_below hB qb1
    have qb2 := cell_below hB qb2
    obtain rfl | rfl | rfl | rfl | rfl | rfl | rfl | rfl : i = 0 ∨ i = 1 ∨ i = 2 ∨ i = 3 ∨ i = 4 ∨ i = 5 ∨ i = 6 ∨ i = 7 := by simp at hi; omega
    · skip
      refine wpOp_step rfl (fun K' hK' => ?_)
      go_simp
      refine hK' _ _ ?_
      exact ⟨_, _, _, _, _, _, rfl, fun _ => rfl, keepD (by decide) h1, keepD (by decide) h2, keepD (by decide) h3, keepD (by decide) h4, keepD (by decide) h5, keepD (by decide) h6, keepD (by decide) h7, (fun h => by have := hD6 (by simpa using h); simpa using this), (fun h => by have := hD7 (by simpa using h); simpa using this), (fun h k => hN4_5 (by simpa using h) (by simpa using k)), hB⟩
    · skip
      have d0 := hdep _ rfl ⟨0, .data⟩ (by simp) rfl
      obtain rfl := h0 d0
      refine wpOp_step rfl (fun K' hK' => ?_)
      go_simp
      refine (Calls.mono (C1.out w' (hl.below hB)) ?_)
      rintro e W1 ⟨Xr, cr, rfl, kr, kb⟩
      refine hK' _ _ ?_
      exact ⟨_, _, _, _, _, _, rfl, keepD (by decide) h0, fun _ => ⟨Xr, cr, rfl, kr⟩, keepD (by decide) h2, keepP (by decide) h3 (fun h => h.below kb), keepP (by decide) h4 (fun h => h.below kb), keepP (by decide) h5 (fun h => h.below kb), keepP (by decide) h6 (fun h => h.below kb), keepP (by decide) h7 (fun h => h.below kb), (fun h => by have := hD6 (by simpa using h); simpa using this), (fun h => by have := hD7 (by simpa using h); simpa using this), (fun h k => hN4_5 (by simpa using h) (by simpa using k)), Below.cons hB kb⟩
    · skip
      refine wpOp_step rfl (fun K' hK' => ?_)
      go_simp
      refine hK' _ _ ?_
      exact ⟨_, _, _, _, _, _, rfl, keepD (by decide) h0, keepD (by decide) h1, fun _ => rfl, keepD (by decide) h3, keepD (by decide) h4, keepD (by decide) h5, keepD (by decide) h6, keepD (by decide) h7, (fun h => by have := hD6 (by simpa using h); simpa using this), (fun h => by have := hD7 (by simpa using h); simpa using this), (fun h k => hN4_5 (by simpa using h) (by simpa using k)), hB⟩
    · skip
      have d2 := hdep _ rfl ⟨2, .data⟩ (by simp) rfl
      obtain rfl := h2 d2
      refine wpOp_step rfl (fun K' hK' => ?_)
      go_simp
      refine (Calls.mono (C2.out w' (hk.below hB)) ?_)
      rintro e W1 ⟨Xr, cr, rfl, kr, kb⟩
      refine hK' _ _ ?_
      exact ⟨_, _, _, _, _, _, rfl, keepD (by decide) h0, keepP (by decide) h1 (fun h => h.below kb), keepD (by decide) h2, fun _ => ⟨Xr, cr, rfl, kr⟩, keepP (by decide) h4 (fun h => h.below kb), keepP (by decide) h5 (fun h => h.below kb), keepP (by decide) h6 (fun h => h.below kb), keepP (by decide) h7 (fun h => h.below kb), (fun h => by have := hD6 (by simpa using h); simpa using this), (fun h => by have := hD7 (by simpa using h); simpa using this), (fun h k => hN4_5 (by simpa using h) (by simpa using k)), Below.cons hB kb⟩
    · skip
      have kb : Below w'.heap.size w' (w'.alloc (.cells #[.bool false, .slice none 0 0, .int .i64 0] 28)) := (Below.refl _ _).alloc (Nat.le_refl _) _
      refine wpOp_step rfl (fun K' hK' => ?_)
      go_simp
      refine hK' _ _ ?_
      exact ⟨_, _, _, _, _, _, rfl, keepD (by decide) h0, keepP (by decide) h1 (fun h => h.below kb), keepD (by decide) h2, keepP (by decide) h3 (fun h => h.below kb), fun _ => ⟨_, _, _, _, rfl, hB.size, ⟨at_new rfl⟩, notU_bool _, notU_slice _ _ _, notU_i64 _⟩, keepP (by decide) h5 (fun h => h.below kb), (fun h => by have h2 := hD6 (by simpa using h); rw [hEi] at h2; cases h2), keepP (by decide) h7 (fun h => h.below kb), (fun _ => by simp), (fun h => by have := hD7 (by simpa using h); simpa using this), (fun _ h => by obtain ⟨n2, e2, l2⟩ := (h5 (by simpa using h)).lt; rw [e2]; intro e3; simp at e3 <;> omega), Below.cons hB kb⟩
    · skip
      have kb : Below w'.heap.size w' (w'.alloc (.cells #[.bool false, .slice none 0 0, .int .i64 0] 28)) := (Below.refl _ _).alloc (Nat.le_refl _) _
      refine wpOp_step rfl (fun K' hK' => ?_)
      go_simp
      refine hK' _ _ ?_
      exact ⟨_, _, _, _, _, _, rfl, keepD (by decide) h0, keepP (by decide) h1 (fun h => h.below kb), keepD (by decide) h2, keepP (by decide) h3 (fun h => h.below kb), keepP (by decide) h4 (fun h => h.below kb), fun _ => ⟨_, _, _, _, rfl, hB.size, ⟨at_new rfl⟩, notU_bool _, notU_slice _ _ _, notU_i64 _⟩, keepP (by decide) h6 (fun h => h.below kb), (fun h => by have h2 := hD7 (by simpa using h); rw [hEi] at h2; cases h2), (fun h => by have := hD6 (by simpa using h); simpa using this), (fun _ => by simp), (fun h _ => by obtain ⟨n2, e2, l2⟩ := (h4 (by simpa using h)).lt; rw [e2]; intro e3; simp at e3 <;> omega), Below.cons hB kb⟩
    · skip
      have d4 := hdep _ rfl ⟨4, .data⟩ (by simp) rfl
      obtain ⟨nb, z0, z1, z2, rfl, hn, hb, nz0, nz1, nz2⟩ := h4 d4
      have d1 := hdep _ rfl ⟨1, .data⟩ (by simp) rfl
      obtain ⟨X_1, c_1, rfl, k_1⟩ := h1 d1
      have fz0 := hb.f (i := 0)
      have cz0 := hb.c (i := 0) rfl
      have fz1 := hb.f (i := 1)
      have cz1 := hb.c (i := 1) rfl
      have fz2 := hb.f (i := 2)
      have cz2 := hb.c (i := 2) rfl
      have hp := hb.put3 (notU3 nz0 nz1 nz2) (.bool (sg (dmn x))) (.slice X_1 (nl (mg (dmn x))) c_1) (.int .i64 (dex x))
      have hs := hb.store3 (.bool (sg (dmn x))) (.slice X_1 (nl (mg (dmn x))) c_1) (.int .i64 (dex x))
      refine wpOp_step rfl (fun K' hK' => ?_)
      go_simp
      refine hK' _ _ ?_
      exact ⟨_, _, _, _, _, _, rfl, keepD (by decide) h0, keepP (by decide) h1 (fun h => h.put hp), keepD (by decide) h2, keepP (by decide) h3 (fun h => h.put hp), (fun _ => ⟨nb, _, _, _, rfl, hn, hs, notU_bool _, notU_slice _ _ _, notU_i64 _⟩), keepP' (by decide) h5 (fun e h => h.put hp (fun e3 => hN4_5 d4 (by simpa using e) e3.symm)), fun _ => ⟨nb, X_1, c_1, rfl, hn, hs, hp.nat k_1⟩, keepP' (by decide) h7 (fun e h => h.put hp (fun e3 => hN4_5 d4 (hD7 (by simpa using e)) e3.symm)), (fun _ => by simp [d4]), (fun h => by have := hD7 (by simpa using h); simpa using this), (fun h k => hN4_5 (by simpa using h) (by simpa using k)), Below.store3 hB hn⟩
    · skip
      have d5 := hdep _ rfl ⟨5, .data⟩ (by simp) rfl
      obtain ⟨nb, z0, z1, z2, rfl, hn, hb, nz0, nz1, nz2⟩ := h5 d5
      have d3 := hdep _ rfl ⟨3, .data⟩ (by simp) rfl
      obtain ⟨X_3, c_3, rfl, k_3⟩ := h3 d3
      have fz0 := hb.f (i := 0)
      have cz0 := hb.c (i := 0) rfl
      have fz1 := hb.f (i := 1)
      have cz1 := hb.c (i := 1) rfl
      have fz2 := hb.f (i := 2)
      have cz2 := hb.c (i := 2) rfl
      have hp := hb.put3 (notU3 nz0 nz1 nz2) (.bool (sg (dmn y))) (.slice X_3 (nl (mg (dmn y))) c_3) (.int .i64 (dex y))
      have hs := hb.store3 (.bool (sg (dmn y))) (.slice X_3 (nl (mg (dmn y))) c_3) (.int .i64 (dex y))
      refine wpOp_step rfl (fun K' hK' => ?_)
      go_simp
      refine hK' _ _ ?_
      exact ⟨_, _, _, _, _, _, rfl, keepD (by decide) h0, keepP (by decide) h1 (fun h => h.put hp), keepD (by decide) h2, keepP (by decide) h3 (fun h => h.put hp), keepP' (by decide) h4 (fun e h => h.put hp (hN4_5 (by simpa using e) d5)), (fun _ => ⟨nb, _, _, _, rfl, hn, hs, notU_bool _, notU_slice _ _ _, notU_i64 _⟩), keepP' (by decide) h6 (fun e h => h.put hp (hN4_5 (hD6 (by simpa using e)) d5)), fun _ => ⟨nb, X_3, c_3, rfl, hn, hs, hp.nat k_3⟩, (fun h => by have := hD6 (by simpa using h); simpa using this), (fun _ => by simp [d5]), (fun h k => hN4_5 (by simpa using h) (by simpa using k)), Below.store3 hB hn⟩
  case fin =>
    rintro E a' w' ⟨u17, u18, u19, u20, u8, u9, rfl, h0, h1, h2, h3, h4, h5, h6, h7, hD6, hD7, hN4_5, hB⟩ hall
    obtain ⟨nbx, Xx, cx, rfl, hnx, Rx, hx⟩ := h6 (hall 6 (by simp))
    obtain ⟨nby, Xy, cy, rfl, hny, Ry, hy⟩ := h7 (hall 7 (by simp))
    replace hT := hT.below hB
    replace hl := hl.below hB
    replace hk := hk.below hB
    replace Ra := Ra.below hB
    replace qa0 := cell_below hB qa0
    replace qa1 := cell_below hB qa1
    replace qa2 := cell_below hB qa2
    replace Rb := Rb.below hB
    replace qb0 := cell_below hB qb0
    replace qb1 := cell_below hB qb1
    replace qb2 := cell_below hB qb2
    replace HBT := Below.cons HBT hB
    have kvx := hnx
    have qx0 := Rx.c (i := 0) rfl
    have qx1 := Rx.c (i := 1) rfl
    have qx2 := Rx.c (i := 2) rfl
    have kvy := hny
    have qy0 := Ry.c (i := 0) rfl
    have qy1 := Ry.c (i := 1) rfl
    have qy2 := Ry.c (i := 2) rfl
    clear Ra
    clear Rb
    clear qa0
    clear qa1
    clear qa2
    clear qb0
    clear qb1
    clear qb2
    go_wp2_with (fail)
    obtain ⟨m, Em⟩ : ∃ zq : Rat, zq = (x + y) * (1 / 2) := ⟨_, rfl⟩
    have Om : DB m 39 2953 := by rw [Em]; exact (db_half (db_add Ox Oy)).mono (by decide) (by decide)
    refine (Calls.mono (R := RetD w' m) (by rw [Em]; with_reducible exact (dmid_c Xx cx x Xy cy y _ hx hy (Ox.ok (by decide) (by decide)) (Oy.ok (by decide) (by decide)) hT)) ?_)
    replace Em := Lib.hid Em
    rintro e W3 ⟨Xm, cm, rfl, hm, hb3⟩
    replace hT := hT.below hb3
    replace hl := hl.below hb3
    replace hk := hk.below hb3
    replace hx := hx.below hb3
    replace Rx := Rx.below hb3
    replace qx0 := cell_below hb3 qx0
    replace qx1 := cell_below hb3 qx1
    replace qx2 := cell_below hb3 qx2
    replace hy := hy.below hb3
    replace Ry := Ry.below hb3
    replace qy0 := cell_below hb3 qy0
    replace qy1 := cell_below hb3 qy1
    replace qy2 := cell_below hb3 qy2
    replace HBT := Below.cons HBT hb3
    clear hb3
    have hb4 : Below (W3).heap.size (W3) (W3.alloc (.cells #[.bool (sg (dmn m)), .slice Xm (nl (mg (dmn m))) cm, .int .i64 (dex m)] 28)) := (Below.alloc (Below.refl _ _) (Nat.le_refl _) _)
    replace hT := hT.below hb4
    replace hl := hl.below hb4
    replace hk := hk.below hb4
    replace hx := hx.below hb4
    replace Rx := Rx.below hb4
    replace qx0 := cell_below hb4 qx0
    replace qx1 := cell_below hb4 qx1
    replace qx2 := cell_below hb4 qx2
    replace hy := hy.below hb4
    replace Ry := Ry.below hb4
    replace qy0 := cell_below hb4 qy0
    replace qy1 := cell_below hb4 qy1
    replace qy2 := cell_below hb4 qy2
    replace hm := hm.below hb4
    replace HBT := Below.cons HBT hb4
    clear hb4
    have Rm : BoxA (W3.alloc (.cells #[.bool (sg (dmn m)), .slice Xm (nl (mg (dmn m))) cm, .int .i64 (dex m)] 28)) W3.heap.size 28 #[.bool (sg (dmn m)), .slice Xm (nl (mg (dmn m))) cm, .int .i64 (dex m)] := ⟨by repeat (first | exact at_new (by first | (simp; done) | (simp; omega)) | refine at_old (by first | (simp; done) | (simp; omega)) ?_)⟩
    have qm0 := Rm.c (i := 0) rfl
    have qm1 := Rm.c (i := 1) rfl
    have qm2 := Rm.c (i := 2) rfl
    go_wp2_with (fail)
    obtain ⟨cc, Ecc⟩ : ∃ z, z = rcmp x y := ⟨_, rfl⟩
    have CR := dcmp_c Xx cx x Xy cy y _ hx hy (Ox.ok (by decide) (by decide)) (Oy.ok (by decide) (by decide))
    rw [← Ecc] at CR
    replace Ecc := Lib.hid Ecc
    refine (Calls.mono (CR) ?_)
    rintro e W5 ⟨rfl, hb5⟩
    replace hT := hT.below hb5
    replace hl := hl.below hb5
    replace hk := hk.below hb5
    replace hx := hx.below hb5
    replace Rx := Rx.below hb5
    replace qx0 := cell_below hb5 qx0
    replace qx1 := cell_below hb5 qx1
    replace qx2 := cell_below hb5 qx2
    replace hy := hy.below hb5
    replace Ry := Ry.below hb5
    replace qy0 := cell_below hb5 qy0
    replace qy1 := cell_below hb5 qy1
    replace qy2 := cell_below hb5 qy2
    replace hm := hm.below hb5
    replace Rm := Rm.below hb5
    replace qm0 := cell_below hb5 qm0
    replace qm1 := cell_below hb5 qm1
    replace qm2 := cell_below hb5 qm2
    replace HBT := Below.cons HBT hb5
    clear hb5
    clear CR
    go_wp2_with (fail)
    clear Rx
    clear Ry
    clear Rm
    have hd6 : Below (W5).heap.size W5 (W5).drew := (Below.refl _ _).drew
    replace hT := hT.below hd6
    replace hl := hl.below hd6
    replace hk := hk.below hd6
    replace hx := hx.below hd6
    replace qx0 := cell_below hd6 qx0
    replace qx1 := cell_below hd6 qx1
    replace qx2 := cell_below hd6 qx2
    replace hy := hy.below hd6
    replace qy0 := cell_below hd6 qy0
    replace qy1 := cell_below hd6 qy1
    replace qy2 := cell_below hd6 qy2
    replace hm := hm.below hd6
    replace qm0 := cell_below hd6 qm0
    replace qm1 := cell_below hd6 qm1
    replace qm2 := cell_below hd6 qm2
    replace HBT := Below.cons HBT hd6
    clear hd6
    replace qx0 : (W5).drew.cell? ⟨nbx, 0, none⟩ = some (.bool (sg (dmn x))) := qx0
    replace qx1 : (W5).drew.cell? ⟨nbx, 1, none⟩ = some (.slice Xx (nl (mg (dmn x))) cx) := qx1
    replace qx2 : (W5).drew.cell? ⟨nbx, 2, none⟩ = some (.int .i64 (dex x)) := qx2
    replace qy0 : (W5).drew.cell? ⟨nby, 0, none⟩ = some (.bool (sg (dmn y))) := qy0
    replace qy1 : (W5).drew.cell? ⟨nby, 1, none⟩ = some (.slice Xy (nl (mg (dmn y))) cy) := qy1
    replace qy2 : (W5).drew.cell? ⟨nby, 2, none⟩ = some (.int .i64 (dex y)) := qy2
    replace qm0 : (W5).drew.cell? ⟨W3.heap.size, 0, none⟩ = some (.bool (sg (dmn m))) := qm0
    replace qm1 : (W5).drew.cell? ⟨W3.heap.size, 1, none⟩ = some (.slice Xm (nl (mg (dmn m))) cm) := qm1
    replace qm2 : (W5).drew.cell? ⟨W3.heap.size, 2, none⟩ = some (.int .i64 (dex m)) := qm2
    have C6_0 := fun (W : World) (A0 : Option Addr) (c0 : Nat) (A1 : Option Addr) (c1 : Nat) (h0 : NatV W A0 c0 (mg (dmn x))) (h1 : NatV W A1 c1 (mg (dmn m)))  => (show Calls Tryz.prog 41 #[.agg #[.bool (sg (dmn x)), .slice A0 (nl (mg (dmn x))) c0, .int .i64 (dex x)], .agg #[.bool (sg (dmn m)), .slice A1 (nl (mg (dmn m))) c1, .int .i64 (dex m)]] W (fun e w' => e = .returned (.int .i64 cc) ∧ Below W.heap.size W w') by rw [Ecc.out, show rcmp x y = rcmp x m by rw [Em.out, mid_fst]]; exact dcmp_c A0 c0 x A1 c1 m W h0 h1 (Ox.ok (by decide) (by decide)) (Om.ok (by decide) (by decide)))
    replace C6_0 := Lib.hid C6_0
    have C6_1 := fun (W : World) (A0 : Option Addr) (c0 : Nat) (A1 : Option Addr) (c1 : Nat) (h0 : NatV W A0 c0 (mg (dmn m))) (h1 : NatV W A1 c1 (mg (dmn y)))  => (show Calls Tryz.prog 41 #[.agg #[.bool (sg (dmn m)), .slice A0 (nl (mg (dmn m))) c0, .int .i64 (dex m)], .agg #[.bool (sg (dmn y)), .slice A1 (nl (mg (dmn y))) c1, .int .i64 (dex y)]] W (fun e w' => e = .returned (.int .i64 cc) ∧ Below W.heap.size W w') by rw [Ecc.out, show rcmp x y = rcmp m y by rw [Em.out, mid_snd]]; exact dcmp_c A0 c0 m A1 c1 y W h0 h1 (Om.ok (by decide) (by decide)) (Oy.ok (by decide) (by decide)))
    replace C6_1 := Lib.hid C6_1
    obtain ⟨d1, Ed1⟩ : ∃ zq : Rat, zq = m - x := ⟨_, rfl⟩
    have Od1 : DB d1 300 20000 := by rw [Ed1]; exact (db_sub Om (Ox.mono (by decide) (by decide))).mono (by decide) (by decide)
    have C6_2 := fun (W : World) (A0 : Option Addr) (c0 : Nat) (A1 : Option Addr) (c1 : Nat) (h0 : NatV W A0 c0 (mg (dmn m))) (h1 : NatV W A1 c1 (mg (dmn x))) (hT : Tab W) => (show Calls Tryz.prog 42 #[.agg #[.bool (sg (dmn m)), .slice A0 (nl (mg (dmn m))) c0, .int .i64 (dex m)], .agg #[.bool (sg (dmn x)), .slice A1 (nl (mg (dmn x))) c1, .int .i64 (dex x)]] W (RetD W d1) by rw [Ed1]; exact dsub_c A0 c0 m A1 c1 x W h0 h1 (Om.ok (by decide) (by decide)) (Ox.ok (by decide) (by decide)) hT)
    replace Ed1 := Lib.hid Ed1
    replace C6_2 := Lib.hid C6_2
    obtain ⟨d2, Ed2⟩ : ∃ zq : Rat, zq = y - m := ⟨_, rfl⟩
    have C6_3 := fun (W : World) (A0 : Option Addr) (c0 : Nat) (A1 : Option Addr) (c1 : Nat) (h0 : NatV W A0 c0 (mg (dmn y))) (h1 : NatV W A1 c1 (mg (dmn m))) (hT : Tab W) => (show Calls Tryz.prog 42 #[.agg #[.bool (sg (dmn y)), .slice A0 (nl (mg (dmn y))) c0, .int .i64 (dex y)], .agg #[.bool (sg (dmn m)), .slice A1 (nl (mg (dmn m))) c1, .int .i64 (dex m)]] W (RetD W d2) by rw [Ed2]; exact dsub_c A0 c0 y A1 c1 m W h0 h1 (Oy.ok (by decide) (by decide)) (Om.ok (by decide) (by decide)) hT)
    replace Ed2 := Lib.hid Ed2
    replace C6_3 := Lib.hid C6_3
    have C6_4 := fun (W : World) (A0 : Option Addr) (c0 : Nat) (A1 : Option Addr) (c1 : Nat) (h0 : NatV W A0 c0 (mg (dmn d1))) (h1 : NatV W A1 c1 (mg (dmn d2)))  => (show Calls Tryz.prog 19 #[.agg #[.bool (sg (dmn d1)), .slice A0 (nl (mg (dmn d1))) c0, .int .i64 (dex d1)], .agg #[.bool (sg (dmn d2)), .slice A1 (nl (mg (dmn d2))) c1, .int .i64 (dex d2)]] W (fun e w' => e = .returned (.bool true) ∧ Below W.heap.size W w') by exact tsameT_c A0 c0 d1 A1 c1 d2 W h0 h1 (Od1.ok (by decide) (by decide)) (by rw [Ed1.out, Ed2.out, Em.out, mid_far]))
    replace C6_4 := Lib.hid C6_4
    obtain ⟨m2, Em2⟩ : ∃ zq : Rat, zq = (y + x) * (1 / 2) := ⟨_, rfl⟩
    have Om2 : DB m2 39 2953 := by rw [Em2, Rat.add_comm, ← Em.out]; exact Om
    have C6_5 := fun (W : World) (A0 : Option Addr) (c0 : Nat) (A1 : Option Addr) (c1 : Nat) (h0 : NatV W A0 c0 (mg (dmn y))) (h1 : NatV W A1 c1 (mg (dmn x))) (hT : Tab W) => (show Calls Tryz.prog 40 #[.agg #[.bool (sg (dmn y)), .slice A0 (nl (mg (dmn y))) c0, .int .i64 (dex y)], .agg #[.bool (sg (dmn x)), .slice A1 (nl (mg (dmn x))) c1, .int .i64 (dex x)]] W (RetD W m2) by rw [Em2]; exact dmid_c A0 c0 y A1 c1 x W h0 h1 (Oy.ok (by decide) (by decide)) (Ox.ok (by decide) (by decide)) hT)
    replace Em2 := Lib.hid Em2
    replace C6_5 := Lib.hid C6_5
    have C6_6 := fun (W : World) (A0 : Option Addr) (c0 : Nat) (A1 : Option Addr) (c1 : Nat) (h0 : NatV W A0 c0 (mg (dmn m2))) (h1 : NatV W A1 c1 (mg (dmn m)))  => (show Calls Tryz.prog 19 #[.agg #[.bool (sg (dmn m2)), .slice A0 (nl (mg (dmn m2))) c0, .int .i64 (dex m2)], .agg #[.bool (sg (dmn m)), .slice A1 (nl (mg (dmn m))) c1, .int .i64 (dex m)]] W (fun e w' => e = .returned (.bool true) ∧ Below W.heap.size W w') by exact tsameT_c A0 c0 m2 A1 c1 m W h0 h1 (Om2.ok (by decide) (by decide)) (by rw [Em2.out, Em.out, Rat.add_comm]))
    replace C6_6 := Lib.hid C6_6
    have C6_7 := fun (W : World) (A0 : Option Addr) (c0 : Nat) (h0 : NatV W A0 c0 (mg (dmn m)))  => (show Calls Tryz.prog 27 #[.agg #[.bool (sg (dmn m)), .slice A0 (nl (mg (dmn m))) c0, .int .i64 (dex m)]] W (fun e w' => e = .returned (.bool true) ∧ Below W.heap.size W w') by exact trightT_c A0 c0 m W h0 (Nat.le_trans Om.l (by decide)) (by have := Om.e; omega))
    replace C6_7 := Lib.hid C6_7
    go_region_held3 (fun W => W.cell? ⟨nbx, 0, none⟩ = some (.bool (sg (dmn x))) ∧ W.cell? ⟨nbx, 1, none⟩ = some (.slice Xx (nl (mg (dmn x))) cx) ∧ W.cell? ⟨nbx, 2, none⟩ = some (.int .i64 (dex x)) ∧ W.cell? ⟨nby, 0, none⟩ = some (.bool (sg (dmn y))) ∧ W.cell? ⟨nby, 1, none⟩ = some (.slice Xy (nl (mg (dmn y))) cy) ∧ W.cell? ⟨nby, 2, none⟩ = some (.int .i64 (dex y)) ∧ W.cell? ⟨W3.heap.size, 0, none⟩ = some (.bool (sg (dmn m))) ∧ W.cell? ⟨W3.heap.size, 1, none⟩ = some (.slice Xm (nl (mg (dmn m))) cm) ∧ W.cell? ⟨W3.heap.size, 2, none⟩ = some (.int .i64 (dex m)))
      (first
        | with_reducible exact ⟨qx0, qx1, qx2, qy0, qy1, qy2, qm0, qm1, qm2⟩
        | with_reducible exact ⟨qx0_7, qx1_7, qx2_7, qy0_7, qy1_7, qy2_7, qm0_7, qm1_7, qm2_7⟩
        | with_reducible exact ⟨qx0_8, qx1_8, qx2_8, qy0_8, qy1_8, qy2_8, qm0_8, qm1_8, qm2_8⟩
        | with_reducible exact ⟨qx0_9, qx1_9, qx2_9, qy0_9, qy1_9, qy2_9, qm0_9, qm1_9, qm2_9⟩
        | with_reducible exact ⟨qx0_10, qx1_10, qx2_10, qy0_10, qy1_10, qy2_10, qm0_10, qm1_10, qm2_10⟩
        | with_reducible exact ⟨qx0_11, qx1_11, qx2_11, qy0_11, qy1_11, qy2_11, qm0_11, qm1_11, qm2_11⟩
        | with_reducible exact ⟨qx0_12, qx1_12, qx2_12, qy0_12, qy1_12, qy2_12, qm0_12, qm1_12, qm2_12⟩
        | with_reducible exact ⟨qx0_13, qx1_13, qx2_13, qy0_13, qy1_13, qy2_13, qm0_13, qm1_13, qm2_13⟩
        | with_reducible exact ⟨qx0_14, qx1_14, qx2_14, qy0_14, qy1_14, qy2_14, qm0_14, qm1_14, qm2_14⟩
        | go_keep)
      (first
        | (go_at_call 41; (with_reducible refine (C6_0.out _ _ _ _ _ hx hm ).mono ?_); rintro e W7 ⟨rfl, hb7⟩; have hT_7 := hT.below hb7; have hl_7 := hl.below hb7; have hk_7 := hk.below hb7; have hx_7 := hx.below hb7; have qx0_7 := cell_below hb7 qx0; have qx1_7 := cell_below hb7 qx1; have qx2_7 := cell_below hb7 qx2; have hy_7 := hy.below hb7; have qy0_7 := cell_below hb7 qy0; have qy1_7 := cell_below hb7 qy1; have qy2_7 := cell_below hb7 qy2; have hm_7 := hm.below hb7; have qm0_7 := cell_below hb7 qm0; have qm1_7 := cell_below hb7 qm1; have qm2_7 := cell_below hb7 qm2; have HBT_7 := Below.cons HBT hb7)
        | (go_at_call 41; (with_reducible refine (C6_1.out _ _ _ _ _ hm_7 hy_7 ).mono ?_); rintro e W8 ⟨rfl, hb8⟩; have hT_8 := hT_7.below hb8; have hl_8 := hl_7.below hb8; have hk_8 := hk_7.below hb8; have hx_8 := hx_7.below hb8; have qx0_8 := cell_below hb8 qx0_7; have qx1_8 := cell_below hb8 qx1_7; have qx2_8 := cell_below hb8 qx2_7; have hy_8 := hy_7.below hb8; have qy0_8 := cell_below hb8 qy0_7; have qy1_8 := cell_below hb8 qy1_7; have qy2_8 := cell_below hb8 qy2_7; have hm_8 := hm_7.below hb8; have qm0_8 := cell_below hb8 qm0_7; have qm1_8 := cell_below hb8 qm1_7; have qm2_8 := cell_below hb8 qm2_7; have HBT_8 := Below.cons HBT_7 hb8)
        | (go_at_call 42; (with_reducible refine (C6_2.out _ _ _ _ _ hm_8 hx_8 hT_8).mono ?_); rintro e W9 ⟨Xd1, cd1, rfl, hd1, hb9⟩; have hT_9 := hT_8.below hb9; have hl_9 := hl_8.below hb9; have hk_9 := hk_8.below hb9; have hx_9 := hx_8.below hb9; have qx0_9 := cell_below hb9 qx0_8; have qx1_9 := cell_below hb9 qx1_8; have qx2_9 := cell_below hb9 qx2_8; have hy_9 := hy_8.below hb9; have qy0_9 := cell_below hb9 qy0_8; have qy1_9 := cell_below hb9 qy1_8; have qy2_9 := cell_below hb9 qy2_8; have hm_9 := hm_8.below hb9; have qm0_9 := cell_below hb9 qm0_8; have qm1_9 := cell_below hb9 qm1_8; have qm2_9 := cell_below hb9 qm2_8; have HBT_9 := Below.cons HBT_8 hb9)
        | (go_at_call 42; (with_reducible refine (C6_3.out _ _ _ _ _ hy_9 hm_9 hT_9).mono ?_); rintro e W10 ⟨Xd2, cd2, rfl, hd2, hb10⟩; have hT_10 := hT_9.below hb10; have hl_10 := hl_9.below hb10; have hk_10 := hk_9.below hb10; have hx_10 := hx_9.below hb10; have qx0_10 := cell_below hb10 qx0_9; have qx1_10 := cell_below hb10 qx1_9; have qx2_10 := cell_below hb10 qx2_9; have hy_10 := hy_9.below hb10; have qy0_10 := cell_below hb10 qy0_9; have qy1_10 := cell_below hb10 qy1_9; have qy2_10 := cell_below hb10 qy2_9; have hm_10 := hm_9.below hb10; have qm0_10 := cell_below hb10 qm0_9; have qm1_10 := cell_below hb10 qm1_9; have qm2_10 := cell_below hb10 qm2_9; have hd1_10 := hd1.below hb10; have HBT_10 := Below.cons HBT_9 hb10)
        | (go_at_call 19; (with_reducible refine (C6_4.out _ _ _ _ _ hd1_10 hd2 ).mono ?_); rintro e W11 ⟨rfl, hb11⟩; have hT_11 := hT_10.below hb11; have hl_11 := hl_10.below hb11; have hk_11 := hk_10.below hb11; have hx_11 := hx_10.below hb11; have qx0_11 := cell_below hb11 qx0_10; have qx1_11 := cell_below hb11 qx1_10; have qx2_11 := cell_below hb11 qx2_10; have hy_11 := hy_10.below hb11; have qy0_11 := cell_below hb11 qy0_10; have qy1_11 := cell_below hb11 qy1_10; have qy2_11 := cell_below hb11 qy2_10; have hm_11 := hm_10.below hb11; have qm0_11 := cell_below hb11 qm0_10; have qm1_11 := cell_below hb11 qm1_10; have qm2_11 := cell_below hb11 qm2_10; have hd1_11 := hd1_10.below hb11; have hd2_11 := hd2.below hb11; have HBT_11 := Below.cons HBT_10 hb11)
        | (go_at_call 40; (with_reducible refine (C6_5.out _ _ _ _ _ hy_11 hx_11 hT_11).mono ?_); rintro e W12 ⟨Xm2, cm2, rfl, hm2, hb12⟩; have hT_12 := hT_11.below hb12; have hl_12 := hl_11.below hb12; have hk_12 := hk_11.below hb12; have hx_12 := hx_11.below hb12; have qx0_12 := cell_below hb12 qx0_11; have qx1_12 := cell_below hb12 qx1_11; have qx2_12 := cell_below hb12 qx2_11; have hy_12 := hy_11.below hb12; have qy0_12 := cell_below hb12 qy0_11; have qy1_12 := cell_below hb12 qy1_11; have qy2_12 := cell_below hb12 qy2_11; have hm_12 := hm_11.below hb12; have qm0_12 := cell_below hb12 qm0_11; have qm1_12 := cell_below hb12 qm1_11; have qm2_12 := cell_below hb12 qm2_11; have HBT_12 := Below.cons HBT_11 hb12)
        | (go_at_call 19; (with_reducible refine (C6_6.out _ _ _ _ _ hm2 hm_12 ).mono ?_); rintro e W13 ⟨rfl, hb13⟩; have hT_13 := hT_12.below hb13; have hl_13 := hl_12.below hb13; have hk_13 := hk_12.below hb13; have hx_13 := hx_12.below hb13; have qx0_13 := cell_below hb13 qx0_12; have qx1_13 := cell_below hb13 qx1_12; have qx2_13 := cell_below hb13 qx2_12; have hy_13 := hy_12.below hb13; have qy0_13 := cell_below hb13 qy0_12; have qy1_13 := cell_below hb13 qy1_12; have qy2_13 := cell_below hb13 qy2_12; have hm_13 := hm_12.below hb13; have qm0_13 := cell_below hb13 qm0_12; have qm1_13 := cell_below hb13 qm1_12; have qm2_13 := cell_below hb13 qm2_12; have hm2_13 := hm2.below hb13; have HBT_13 := Below.cons HBT_12 hb13)
        | (go_at_call 27; (with_reducible refine (C6_7.out _ _ _ hm_13 ).mono ?_); rintro e W14 ⟨rfl, hb14⟩; have hT_14 := hT_13.below hb14; have hl_14 := hl_13.below hb14; have hk_14 := hk_13.below hb14; have hx_14 := hx_13.below hb14; have qx0_14 := cell_below hb14 qx0_13; have qx1_14 := cell_below hb14 qx1_13; have qx2_14 := cell_below hb14 qx2_13; have hy_14 := hy_13.below hb14; have qy0_14 := cell_below hb14 qy0_13; have qy1_14 := cell_below hb14 qy1_13; have qy2_14 := cell_below hb14 qy2_13; have hm_14 := hm_13.below hb14; have qm0_14 := cell_below hb14 qm0_13; have qm1_14 := cell_below hb14 qm1_13; have qm2_14 := cell_below hb14 qm2_13; have HBT_14 := Below.cons HBT_13 hb14))
    all_goals (try go_wp2_with (fail))
    have sm := db_sz Om
    have smn := mul_sz m ((2 : Rat) ^ n)
    have spn := pow_szb n (E := 200) (by omega)
    obtain ⟨s1, Es1⟩ : ∃ zq : Int, zq = shf (dmn m) (dex m + n) := ⟨_, rfl⟩
    have Ns1 : nl (mg s1) ≤ 300 := by rw [Es1, scaled_eq Om.d]; exact Nat.le_trans (nl_mono (floor_abs _)) (by omega)
    refine (Calls.mono (R := RetI W14 s1) (by rw [Es1]; with_reducible exact (dscaled_c Xm cm m n _ hm_14 (Om.ok (by decide) (by decide)) (by omega))) ?_)
    replace Es1 := Lib.hid Es1
    rintro e W15 ⟨Xs1, cs1, rfl, hs1, hb15⟩
    replace hT_14 := hT_14.below hb15
    replace hl_14 := hl_14.below hb15
    replace hk_14 := hk_14.below hb15
    replace hx_14 := hx_14.below hb15
    replace qx0_14 := cell_below hb15 qx0_14
    replace qx1_14 := cell_below hb15 qx1_14
    replace qx2_14 := cell_below hb15 qx2_14
    replace hy_14 := hy_14.below hb15
    replace qy0_14 := cell_below hb15 qy0_14
    replace qy1_14 := cell_below hb15 qy1_14
    replace qy2_14 := cell_below hb15 qy2_14
    replace hm_14 := hm_14.below hb15
    replace qm0_14 := cell_below hb15 qm0_14
    replace qm1_14 := cell_below hb15 qm1_14
    replace qm2_14 := cell_below hb15 qm2_14
    have HBT := Below.cons HBT_14 hb15
    clear hb15
    go_wp2_with (fail)
    obtain ⟨g, Eg⟩ : ∃ zq : Rat, zq = dval s1 nn := ⟨_, rfl⟩
    have Og : DB g 300 10000 := by rw [Eg]; exact (db_val Ns1 (E := 200) (by omega)).mono (by decide) (by decide)
    refine (Calls.mono (R := RetD W15 g) (by rw [Eg]; with_reducible exact (dmake_c Xs1 cs1 s1 nn _ hs1 hT_14 (by omega) (by omega))) ?_)
    replace Eg := Lib.hid Eg
    rintro e W16 ⟨Xg, cg, rfl, hg, hb16⟩
    replace hT_14 := hT_14.below hb16
    replace hl_14 := hl_14.below hb16
    replace hk_14 := hk_14.below hb16
    replace hx_14 := hx_14.below hb16
    replace qx0_14 := cell_below hb16 qx0_14
    replace qx1_14 := cell_below hb16 qx1_14
    replace qx2_14 := cell_below hb16 qx2_14
    replace hy_14 := hy_14.below hb16
    replace qy0_14 := cell_below hb16 qy0_14
    replace qy1_14 := cell_below hb16 qy1_14
    replace qy2_14 := cell_below hb16 qy2_14
    replace hm_14 := hm_14.below hb16
    replace qm0_14 := cell_below hb16 qm0_14
    replace qm1_14 := cell_below hb16 qm1_14
    replace qm2_14 := cell_below hb16 qm2_14
    replace hs1 := hs1.below hb16
    replace HBT := Below.cons HBT hb16
    clear hb16
    have hb17 : Below (W16).heap.size (W16) (W16.alloc (.cells #[.bool (sg (dmn g)), .slice Xg (nl (mg (dmn g))) cg, .int .i64 (dex g)] 28)) := (Below.alloc (Below.refl _ _) (Nat.le_refl _) _)
    replace hT_14 := hT_14.below hb17
    replace hl_14 := hl_14.below hb17
    replace hk_14 := hk_14.below hb17
    replace hx_14 := hx_14.below hb17
    replace qx0_14 := cell_below hb17 qx0_14
    replace qx1_14 := cell_below hb17 qx1_14
    replace qx2_14 := cell_below hb17 qx2_14
    replace hy_14 := hy_14.below hb17
    replace qy0_14 := cell_below hb17 qy0_14
    replace qy1_14 := cell_below hb17 qy1_14
    replace qy2_14 := cell_below hb17 qy2_14
    replace hm_14 := hm_14.below hb17
    replace qm0_14 := cell_below hb17 qm0_14
    replace qm1_14 := cell_below hb17 qm1_14
    replace qm2_14 := cell_below hb17 qm2_14
    replace hs1 := hs1.below hb17
    replace hg := hg.below hb17
    replace HBT := Below.cons HBT hb17
    clear hb17
    have Rg : BoxA (W16.alloc (.cells #[.bool (sg (dmn g)), .slice Xg (nl (mg (dmn g))) cg, .int .i64 (dex g)] 28)) W16.heap.size 28 #[.bool (sg (dmn g)), .slice Xg (nl (mg (dmn g))) cg, .int .i64 (dex g)] := ⟨by repeat (first | exact at_new (by first | (simp; done) | (simp; omega)) | refine at_old (by first | (simp; done) | (simp; omega)) ?_)⟩
    have qg0 := Rg.c (i := 0) rfl
    have qg1 := Rg.c (i := 1) rfl
    have qg2 := Rg.c (i := 2) rfl
    go_wp2_with (fail)
    obtain ⟨f, Ef⟩ : ∃ zq : Rat, zq = dval (rnd 0 (m * (2 : Rat) ^ n)) (-n) := ⟨_, rfl⟩
    have CT : Calls Tryz.prog 17 #[.agg #[.bool (sg (dmn m)), .slice Xm (nl (mg (dmn m))) cm, .int .i64 (dex m)], .int .i64 n, .int .i64 0] (W16.alloc (.cells #[.bool (sg (dmn g)), .slice Xg (nl (mg (dmn g))) cg, .int .i64 (dex g)] 28)) (RetDe (W16.alloc (.cells #[.bool (sg (dmn g)), .slice Xg (nl (mg (dmn g))) cg, .int .i64 (dex g)] 28)) f 0) := by rw [Ef]; exact dround_c Xm cm m n 0 _ hm_14 hT_14 (Om.ok (by decide) (by decide)) (by decide) (by decide) (by omega)
    replace Ef := Lib.hid Ef
    refine (Calls.mono CT ?_)
    clear CT
    rintro e W18 ⟨Xf, cf, rfl, hf, hb18⟩
    replace hT_14 := hT_14.below hb18
    replace hl_14 := hl_14.below hb18
    replace hk_14 := hk_14.below hb18
    replace hx_14 := hx_14.below hb18
    replace qx0_14 := cell_below hb18 qx0_14
    replace qx1_14 := cell_below hb18 qx1_14
    replace qx2_14 := cell_below hb18 qx2_14
    replace hy_14 := hy_14.below hb18
    replace qy0_14 := cell_below hb18 qy0_14
    replace qy1_14 := cell_below hb18 qy1_14
    replace qy2_14 := cell_below hb18 qy2_14
    replace hm_14 := hm_14.below hb18
    replace qm0_14 := cell_below hb18 qm0_14
    replace qm1_14 := cell_below hb18 qm1_14
    replace qm2_14 := cell_below hb18 qm2_14
    replace hs1 := hs1.below hb18
    replace hg := hg.below hb18
    replace Rg := Rg.below hb18
    replace qg0 := cell_below hb18 qg0
    replace qg1 := cell_below hb18 qg1
    replace qg2 := cell_below hb18 qg2
    replace HBT := Below.cons HBT hb18
    clear hb18
    have hb19 : Below (W18).heap.size (W18) (W18.alloc (.cells #[.bool (sg (dmn f)), .slice Xf (nl (mg (dmn f))) cf, .int .i64 (dex f)] 28)) := (Below.alloc (Below.refl _ _) (Nat.le_refl _) _)
    replace hT_14 := hT_14.below hb19
    replace hl_14 := hl_14.below hb19
    replace hk_14 := hk_14.below hb19
    replace hx_14 := hx_14.below hb19
    replace qx0_14 := cell_below hb19 qx0_14
    replace qx1_14 := cell_below hb19 qx1_14
    replace qx2_14 := cell_below hb19 qx2_14
    replace hy_14 := hy_14.below hb19
    replace qy0_14 := cell_below hb19 qy0_14
    replace qy1_14 := cell_below hb19 qy1_14
    replace qy2_14 := cell_below hb19 qy2_14
    replace hm_14 := hm_14.below hb19
    replace qm0_14 := cell_below hb19 qm0_14
    replace qm1_14 := cell_below hb19 qm1_14
    replace qm2_14 := cell_below hb19 qm2_14
    replace hs1 := hs1.below hb19
    replace hg := hg.below hb19
    replace Rg := Rg.below hb19
    replace qg0 := cell_below hb19 qg0
    replace qg1 := cell_below hb19 qg1
    replace qg2 := cell_below hb19 qg2
    replace hf := hf.below hb19
    replace HBT := Below.cons HBT hb19
    clear hb19
    have Rf : BoxA (W18.alloc (.cells #[.bool (sg (dmn f)), .slice Xf (nl (mg (dmn f))) cf, .int .i64 (dex f)] 28)) W18.heap.size 28 #[.bool (sg (dmn f)), .slice Xf (nl (mg (dmn f))) cf, .int .i64 (dex f)] := ⟨by repeat (first | exact at_new (by first | (simp; done) | (simp; omega)) | refine at_old (by first | (simp; done) | (simp; omega)) ?_)⟩
    have qf0 := Rf.c (i := 0) rfl
    have qf1 := Rf.c (i := 1) rfl
    have qf2 := Rf.c (i := 2) rfl
    go_wp2_with (fail)
    refine (Calls.mono (tsameT_c Xg cg g Xf cf f _ hg hf (Og.ok (by decide) (by decide)) (by rw [Eg.out, Ef.out, Es1.out, Enn.out, rnd_0, scaled_eq Om.d])) ?_)
    rintro e W20 ⟨rfl, hb20⟩
    replace hT_14 := hT_14.below hb20
    replace hl_14 := hl_14.below hb20
    replace hk_14 := hk_14.below hb20
    replace hx_14 := hx_14.below hb20
    replace qx0_14 := cell_below hb20 qx0_14
    replace qx1_14 := cell_below hb20 qx1_14
    replace qx2_14 := cell_below hb20 qx2_14
    replace hy_14 := hy_14.below hb20
    replace qy0_14 := cell_below hb20 qy0_14
    replace qy1_14 := cell_below hb20 qy1_14
    replace qy2_14 := cell_below hb20 qy2_14
    replace hm_14 := hm_14.below hb20
    replace qm0_14 := cell_below hb20 qm0_14
    replace qm1_14 := cell_below hb20 qm1_14
    replace qm2_14 := cell_below hb20 qm2_14
    replace hs1 := hs1.below hb20
    replace hg := hg.below hb20
    replace Rg := Rg.below hb20
    replace qg0 := cell_below hb20 qg0
    replace qg1 := cell_below hb20 qg1
    replace qg2 := cell_below hb20 qg2
    replace hf := hf.below hb20
    replace Rf := Rf.below hb20
    replace qf0 := cell_below hb20 qf0
    replace qf1 := cell_below hb20 qf1
    replace qf2 := cell_below hb20 qf2
    replace HBT := Below.cons HBT hb20
    clear hb20
    go_wp2_with (fail)
    go_ret
    exact ⟨rfl, HBT⟩
end Go.Proofs.YtacjfpibilolnaaGreatDoor

set_option linter.unusedVariables false
set_option linter.unusedSimpArgs false
namespace Go.Proofs.YtacjfpibilolnaaGreatDoor
open Go.RowKit Go.ChangeShapes Go.WideShapes Go.ChangeAt

set_option maxRecDepth 100000 in
theorem dyadMiddle_lifted (os : Os) (started : os.Started) (H : Type) (enc : TypeId × Value → H) :
    ReturnsInHanded {} Tryz.checked os 8 .any (fun w args => (Rows.dyadMiddleSpec.pre enc Tryz.prog Tryz.f8 [] false w args ∧ laidMetH Tryz.prog [("math/bits.deBruijn32tab", Rows.laid_math_bits_deBruijn32tab)] w) ∧ sizedMet enc Tryz.prog Tryz.f8 (OpenSpec.ofChange Rows.dyadMiddleSpec) false w args)
      (Rows.dyadMiddleSpec.post enc Tryz.prog Tryz.f8 false true false false) := by
  refine returnsInHanded_of_change_and (C := Tryz.checked) (X := fun w _ => laidMetH Tryz.prog [("math/bits.deBruijn32tab", Rows.laid_math_bits_deBruijn32tab)] w) (fun _ _ _ hh h => h.of_heap hh) row_own started (by kernel_rfl) Tryz.func8
    (ChangeSpec.witness_shaped (enc := enc) (C := Tryz.checked) (os := os) (X := fun w _ => laidMetH Tryz.prog [("math/bits.deBruijn32tab", Rows.laid_math_bits_deBruijn32tab)] w) false (World.doorLaid Tryz.prog 400 os) #[.agg #[.bool false, .slice none 0 0, .int .i64 0], .agg #[.bool false, .slice none 0 0, .int .i64 0], .int .u16 0] 8 rfl (World.shaped_of_RefB (by kernel_rfl) (by kernel_rfl)) (by kernel_rfl) (by kernel_rfl) (by kernel_rfl) (door_met os _)) ?_
  intro W base args ds gs before hval0 hW _ _ hL _
  have hval : ∀ (j : Nat) t v, Tryz.f8.params[j]? = some t → args[j]? = some v → Value.okWide Tryz.prog W .any base t v := hval0
  have hW' := hW
  obtain ⟨p, q, hA0, hV, rfl, hfz, hnd⟩ := hW
  have hA : DataW.TrodAll enc Tryz.prog W 0 (fun _ => true) true Tryz.f8.params.toList args.toList ds p := hA0
  rw [Tryz.params8] at hA hval
  obtain ⟨v0, vs0, d0, ds0, p0, q0, hargs, rfl, rfl, h0, r0⟩ := trodAll_cons hA
  obtain ⟨v1, vs1, d1, ds1, p1, q1, rfl, rfl, rfl, h1, r1⟩ := trodAll_cons r0
  obtain ⟨v2, vs2, d2, ds2, p2, q2, rfl, rfl, rfl, h2, r2⟩ := trodAll_cons r1
  obtain ⟨rfl, rfl, rfl⟩ := trodAll_nil r2
  obtain rfl : args = #[v0, v1, v2] := by cases args; simp_all
  obtain ⟨rfl, rfl⟩ := trodVars_none hV
  have hT := tab_of_laid hL
  have k0 := h0
  have lt0 : ∀ x ∈ p0, x.block < W.heap.size := by obtain ⟨m, hm⟩ := k0; exact DataW.trod_lt m _ _ _ hm
  obtain ⟨b0, A0, c0, l0, x0, rfl, i0⟩ := open_dy (hval 0 28 v0 rfl rfl) h0
  have k1 := h1
  have lt1 : ∀ x ∈ p1, x.block < W.heap.size := by obtain ⟨m, hm⟩ := k1; exact DataW.trod_lt m _ _ _ hm
  obtain ⟨b1, A1, c1, l1, x1, rfl, i1⟩ := open_dy (hval 1 28 v1 rfl rfl) h1
  obtain ⟨z2, rfl, rfl, rfl, w2⟩ := open_int Tryz.underlying48 (hval 2 48 v2 rfl rfl) h2
  have bz2 := bounds_u16 w2
  obtain ⟨n2, rfl⟩ := Int.eq_ofNat_of_zero_le bz2.1
  have bn2 : n2 < 65536 := by omega
  clear hA0 hval0 hval hL
  have hcall := dyadMiddle_c b0 b1 x0 x1 n2 A0 c0 l0 A1 c1 l1 W hT i0.1 i0.2.1 i0.2.2.1 i0.2.2.2.1 i0.2.2.2.2 i1.1 i1.2.1 i1.2.2.1 i1.2.2.2.1 i1.2.2.2.2 bn2
  refine hcall.mono fun e W' ⟨he, bel⟩ => ?_
  subst he
  exact ⟨_, rfl, _, _, _, [], _, [], hW', trodAll_mk1 (shut_bool Tryz.underlying4 _), (trodAll_cons_mk (Below.trod row_out (by kernel_rfl) (of_decide_eq_true (by kernel_rfl)) k0 bel lt0) (trodAll_cons_mk (Below.trod row_out (by kernel_rfl) (of_decide_eq_true (by kernel_rfl)) k1 bel lt1) (trodAll_cons_mk (shut_int Tryz.underlying48 w2) trodAll_mk0))), rfl, bel.frame _, fun h => by cases h⟩
theorem dyadMiddle_holds : Rows.DyadMiddleSaid :=
  OpenClaim.holds_of_wide 8 Tryz.f8 rfl rfl rfl rfl rfl rfl rfl ⟨rfl, rfl, rfl, rfl, rfl⟩ rfl rfl rfl rfl rfl (by kernel_rfl) Tryz.func8 (by kernel_rfl)
    (of_decide_eq_true (by kernel_rfl)) (by unfold Func.isWrapper; first | (rw [if_pos (by decide +kernel)]; kernel_rfl) | (rw [if_neg (by decide +kernel)]; exact ⟨rfl, rfl⟩))
    (fun os started H enc _ => dyadMiddle_lifted os started H enc)

/-- The card, tied to the program's text. -/
theorem dyadMiddle_card : Rows.DyadMiddleCardSaid :=
  Claim7.holds_tied_plain_at .later [] [.data] true (true, "c40366035f47d3ac072167c9252c36368376323eeb282c459406779c221647a3") false
    dyadMiddle_holds (fun _ h => by cases h) (by kernel_rfl) (fun _ h => by cases h) dyadMiddle_row_tie rfl ⟨rfl, rfl⟩ (by kernel_rfl) rfl
    (fun f fn hf hfn => by
      obtain rfl : f = 8 := Option.some.inj ((show Tryz.prog.funcNamed "ziggurat/zigguratlaw10.DyadMiddle" = some 8 by kernel_rfl).symm.trans hf) |>.symm
      obtain rfl : fn = Tryz.f8 := (Option.some.inj (Tryz.func8.symm.trans hfn)).symm
      exact ⟨by kernel_rfl, fun j t ht => by
        rw [Tryz.params8] at ht
        have hm : t ∈ [28, 28, 48] := by simpa using Array.mem_of_getElem? ht
        have hall : ([28, 28, 48].all fun u => !Tryz.prog.wantsStandIn u) = true := by kernel_rfl
        exact (show Tryz.prog.wantsStandIn t = false by simpa using List.all_eq_true.1 hall t hm)⟩)
    (by kernel_rfl)
#print axioms dyadMiddle_card
end Go.Proofs.YtacjfpibilolnaaGreatDoor
