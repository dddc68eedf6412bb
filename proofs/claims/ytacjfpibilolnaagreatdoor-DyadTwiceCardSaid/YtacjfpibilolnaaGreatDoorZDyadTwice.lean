/- For all inputs rounding to more bits first and then to fewer ones, in one of the four sure directions, is rounding to these at once: DyadTwice returns true and leaves its arguments as they were. Conditions: Each package-level variable that the row lists (math/bits.deBruijn32tab) holds at the call what the library's text lays; the tie is given and covers the pruned copy of the repository. -/
import Derived.Test.YtacjfpibilolnaaGreatDoorSA15
import Derived.Test.YtacjfpibilolnaaGreatDoorSA14
import Derived.Test.YtacjfpibilolnaaGreatDoorCards
import Derived.Test.YtacjfpibilolnaaGreatDoorTie
import Derived.SevenTiedAt
/- Laws of dyadic numbers: DyadTwice. -/
set_option linter.unusedVariables false
set_option linter.unusedSimpArgs false
namespace Go.Proofs.YtacjfpibilolnaaGreatDoor
open Go.RowKit Go.Shelf
attribute [local go_sem] max2_i min2_i max_two min_two

set_option maxRecDepth 100000 in
set_option maxHeartbeats 4000000 in
theorem dyadTwice_c (sa : Bool) (b0 b1 dd : Nat) (A : Option Addr) (c : Nat) (l : List Nat) (B : Option Addr) (d : Nat) (k : List Nat) (w : World) (hT : Tab w) (hl : Rd w A l) (Ll : Lim l) (Ql : l.length ≤ maxLen) (Cl : l.length ≤ c) (Zl : A = none → c = 0) (hk : Rd w B k) (Lk : Lim k) (Qk : k.length ≤ maxLen) (Ck : k.length ≤ d) (Zk : B = none → d = 0) (h0 : b0 < 65536) (h1 : b1 < 65536) (h2 : dd < 256) :
    Calls Tryz.prog 7 #[.agg #[.bool sa, .slice A l.length c, .slice B k.length d], .agg #[.int .u16 (b0 : Nat), .int .u16 (b1 : Nat)], .int .u8 (dd : Nat)] w fun e w' => e = .returned (.bool true) ∧ Below w.heap.size w w' := by
  replace Zl := Lib.hid Zl
  replace Zk := Lib.hid Zk
  have hT0 := hT
  have hl0 := hl
  have hk0 := hk
  obtain ⟨rn, Ern⟩ : ∃ y, y = b0 % 201 := ⟨_, rfl⟩
  have Irn : (b0 : Int) % 201 = (rn : Int) := by omega
  have Jrn : (b0 : Int).tmod 201 = (rn : Int) := by rw [Int.tmod_eq_emod_of_nonneg (by omega)]; exact Irn
  have Brn : rn < 201 := by omega
  replace Ern := Lib.hid Ern
  obtain ⟨n, En⟩ : ∃ q : Int, q = (rn : Int) - 100 := ⟨_, rfl⟩
  have In : (rn : Int) - 100 = n := En.symm
  have Bn : -100 ≤ n ∧ n ≤ 100 := by omega
  have Wn : IntKind.i64.wrap n = n := IntWalk.i64_in _ (by omega)
  have Wrn : IntKind.i64.wrap (rn : Int) = (rn : Int) := IntWalk.i64_in _ (by omega)
  replace En := Lib.hid En
  obtain ⟨i, Ei⟩ : ∃ y, y = dd % 4 := ⟨_, rfl⟩
  have Ii : (dd : Int) % 4 = (i : Int) := by omega
  have Ji : (dd : Int).tmod 4 = (i : Int) := by rw [Int.tmod_eq_emod_of_nonneg (by omega)]; exact Ii
  have Bi : i < 4 := by omega
  replace Ei := Lib.hid Ei
  obtain ⟨r1, Er1⟩ : ∃ y, y = b1 % 101 := ⟨_, rfl⟩
  have Ir1 : (b1 : Int) % 101 = (r1 : Int) := by omega
  have Jr1 : (b1 : Int).tmod 101 = (r1 : Int) := by rw [Int.tmod_eq_emod_of_nonneg (by omega)]; exact Ir1
  have Br1 : r1 < 101 := by omega
  replace Er1 := Lib.hid Er1
  obtain ⟨m, Em⟩ : ∃ q : Int, q = n + (r1 : Int) := ⟨_, rfl⟩
  have Im : n + (r1 : Int) = m := Em.symm
  have Bm : -200 ≤ m ∧ m ≤ 200 := by omega
  have Wm : IntKind.i64.wrap m = m := IntWalk.i64_in _ (by omega)
  have nm : n ≤ m := by omega
  have Wb0 : IntKind.i64.wrap (b0 : Int) = (b0 : Int) := IntWalk.i64_in _ (by omega)
  have Wb1 : IntKind.i64.wrap (b1 : Int) = (b1 : Int) := IntWalk.i64_in _ (by omega)
  have Wdd : IntKind.i64.wrap (dd : Int) = (dd : Int) := IntWalk.i64_in _ (by omega)
  have Wi : IntKind.i64.wrap (i : Int) = (i : Int) := IntWalk.i64_in _ (by omega)
  have Wr1 : IntKind.i64.wrap (r1 : Int) = (r1 : Int) := IntWalk.i64_in _ (by omega)
  have i0 : (0 : Int) ≤ (i : Int) := Int.natCast_nonneg i
  have i3 : (i : Int) ≤ 3 := by omega
  have i4 : (i : Int) ≤ 4 := by omega
  replace Em := Lib.hid Em
  obtain ⟨v, Ev⟩ : ∃ z : Rat, z = ratM sa (val (l.take 8)) (val (k.take 8)) := ⟨_, rfl⟩
  have Nv : nl (mg v.num) ≤ 8 ∧ nl v.den ≤ 8 := by rw [Ev]; exact ratM_sz (made_nl l Ll 8) (made_nl k Lk 8) (by decide)
  have C1 := fun (W : World) (h1 : Rd W A l) (h2 : Rd W B k) => r9madeI_c sa A c l B d k 8 8 W h1 Ll Ql Cl Zl.out h2 Lk Qk Ck Zk.out (by decide) rfl
  rw [← Ev] at C1
  replace Ev := Lib.hid Ev
  replace C1 := Lib.hid C1
  have hb1 : Below (w).heap.size (w) ((w.alloc (.cells #[.bool sa, .slice A l.length c, .slice B k.length d] 26)).alloc (.cells #[.int .u16 (b0 : Nat), .int .u16 (b1 : Nat)] 61)) := (Below.alloc (Below.alloc (Below.refl _ _) (Nat.le_refl _) _) (by simp <;> omega) _)
  replace hT := hT.below hb1
  replace hl := hl.below hb1
  replace hk := hk.below hb1
  have HBT := hb1
  clear hb1
  have Ra : BoxA ((w.alloc (.cells #[.bool sa, .slice A l.length c, .slice B k.length d] 26)).alloc (.cells #[.int .u16 (b0 : Nat), .int .u16 (b1 : Nat)] 61)) w.heap.size 26 #[.bool sa, .slice A l.length c, .slice B k.length d] := ⟨by repeat (first | exact at_new (by first | (simp; done) | (simp; omega)) | refine at_old (by first | (simp; done) | (simp; omega)) ?_)⟩
  have qa0 := Ra.c (i := 0) rfl
  have qa1 := Ra.c (i := 1) rfl
  have qa2 := Ra.c (i := 2) rfl
  have Rx : BoxA ((w.alloc (.cells #[.bool sa, .slice A l.length c, .slice B k.length d] 26)).alloc (.cells #[.int .u16 (b0 : Nat), .int .u16 (b1 : Nat)] 61)) (w.heap.size + 1) 61 #[.int .u16 (b0 : Nat), .int .u16 (b1 : Nat)] := ⟨by repeat (first | exact at_new (by first | (simp; done) | (simp; omega)) | refine at_old (by first | (simp; done) | (simp; omega)) ?_)⟩
  have qx0 := Rx.c (i := 0) rfl
  have qx1 := Rx.c (i := 1) rfl
  go_enter Tryz.func7, Tryz.ntmps7
  go_wp2_with (fail)
  refine (Calls.mono (dhead_c _ hT) ?_)
  rintro e W2 ⟨rfl, hb2⟩
  replace hT := hT.below hb2
  replace hl := hl.below hb2
  replace hk := hk.below hb2
  replace Ra := Ra.below hb2
  replace qa0 := cell_below hb2 qa0
  replace qa1 := cell_below hb2 qa1
  replace qa2 := cell_below hb2 qa2
  replace Rx := Rx.below hb2
  replace qx0 := cell_below hb2 qx0
  replace qx1 := cell_below hb2 qx1
  replace HBT := Below.cons HBT hb2
  clear hb2
  go_wp2_with (fail)
  refine wp_region_inv (fun E a' w' => ∃ (u21 u22 u23 u24 u25 u26 u27 u28 u29 u30 u8 u9 u10 : Value),
    a' = { tmps := #[.agg #[.bool sa, .slice A l.length c, .slice B k.length d], .agg #[.int .u16 (b0 : Nat), .int .u16 (b1 : Nat)], .int .u8 (dd : Nat), .pointer (some ⟨w.heap.size, 0, none⟩), .pointer (some ⟨(w.heap.size + 1), 0, none⟩), undef, .bool false, .bool true, u8, u9, u10, undef, undef, undef, undef, undef, undef, undef, undef, undef, .bool true, u21, u22, u23, u24, u25, u26, u27, u28, u29, u30, undef, undef, undef, undef, undef, undef, undef, undef, undef, undef, undef, undef, undef, undef, undef, undef, undef, undef, undef, undef, undef, undef, undef, undef, undef, undef, undef, undef, undef, undef, undef, undef, undef, undef, undef, undef, undef, undef, undef, undef, undef, undef, undef, undef, undef, undef, undef, undef, undef, undef, undef, undef, undef, undef, undef, undef, undef, undef, undef, undef, undef, undef], defers := [] } ∧
    (E 0 = true → u21 = .agg #[.bool sa, .slice A l.length c, .slice B k.length d]) ∧
    (E 1 = true → PR u22 v w') ∧
    (E 2 = true → u23 = .pointer (some ⟨(w.heap.size + 1), 0, none⟩)) ∧
    (E 3 = true → u24 = .int .u16 (b0 : Nat)) ∧
    (E 4 = true → u25 = .int .i64 (b0 : Int)) ∧
    (E 5 = true → u26 = .int .i64 (rn : Int)) ∧
    (E 6 = true → u27 = .int .i64 n) ∧
    (E 7 = true → u28 = .int .u8 (dd : Nat)) ∧
    (E 8 = true → u29 = .int .i64 (dd : Int)) ∧
    (E 9 = true → u30 = .int .i64 (i : Int)) ∧
    (E 10 = true → PB3 26 W2.heap.size u8 w') ∧
    (E 11 = true → PBR W2.heap.size u8 v w') ∧
    (E 12 = true → u9 = .int .i64 n) ∧
    (E 13 = true → u10 = .int .i64 (i : Int)) ∧
    (E 11 = true → E 10 = true) ∧
    Below W2.heap.size W2 w') (by kernel_rfl) (by kernel_rfl) ?init ?fin ?step
  case init => exact ⟨_, _, _, _, _, _, _, _, _, _, _, _, _, rfl, by simp, by simp, by simp, by simp, by simp, by simp, by simp, by simp, by simp, by simp, by simp, by simp, by simp, by simp, by simp, (Below.refl _ _).drew⟩
  case step =>
    rintro E a' w' i ⟨u21, u22, u23, u24, u25, u26, u27, u28, u29, u30, u8, u9, u10, rfl, h0, h1, h2, h3, h4, h5, h6, h7, h8, h9, h10, h11, h12, h13, hD11, hB⟩ hi hEi hdep
    have qa0 := cell_below hB qa0
    have qa1 := cell_below hB qa1
    have qa2 := cell_below hB qa2
    have qx0 := cell_below hB qx0
    have qx1 := cell_below hB qx1
    obtain rfl | rfl | rfl | rfl | rfl | rfl | rfl | rfl | rfl | rfl | rfl | rfl | rfl | rfl : i = 0 ∨ i = 1 ∨ i = 2 ∨ i = 3 ∨ i = 4 ∨ i = 5 ∨ i = 6 ∨ i = 7 ∨ i = 8 ∨ i = 9 ∨ i = 10 ∨ i = 11 ∨ i = 12 ∨ i = 13 := by simp at hi; omega
    · skip
      refine wpOp_step rfl (fun K' hK' => ?_)
      go_simp
      refine hK' _ _ ?_
      exact ⟨_, _, _, _, _, _, _, _, _, _, _, _, _, rfl, fun _ => rfl, keepD (by decide) h1, keepD (by decide) h2, keepD (by decide) h3, keepD (by decide) h4, keepD (by decide) h5, keepD (by decide) h6, keepD (by decide) h7, keepD (by decide) h8, keepD (by decide) h9, keepD (by decide) h10, keepD (by decide) h11, keepD (by decide) h12, keepD (by decide) h13, (fun h => by have := hD11 (by simpa using h); simpa using this), hB⟩
    · skip
      have d0 := hdep _ rfl ⟨0, .data⟩ (by simp) rfl
      obtain rfl := h0 d0
      refine wpOp_step rfl (fun K' hK' => ?_)
      go_simp
      refine (Calls.mono (C1.out w' (hl.below hB) (hk.below hB)) ?_)
      rintro e W1 ⟨Xr, cr, Yr, dr, rfl, kr, lr, kb⟩
      refine hK' _ _ ?_
      exact ⟨_, _, _, _, _, _, _, _, _, _, _, _, _, rfl, keepD (by decide) h0, fun _ => ⟨Xr, cr, Yr, dr, rfl, kr, lr⟩, keepD (by decide) h2, keepD (by decide) h3, keepD (by decide) h4, keepD (by decide) h5, keepD (by decide) h6, keepD (by decide) h7, keepD (by decide) h8, keepD (by decide) h9, keepP (by decide) h10 (fun h => h.below kb), keepP (by decide) h11 (fun h => h.below kb), keepD (by decide) h12, keepD (by decide) h13, (fun h => by have := hD11 (by simpa using h); simpa using this), Below.cons hB kb⟩
    · skip
      refine wpOp_step rfl (fun K' hK' => ?_)
      go_simp
      refine hK' _ _ ?_
      exact ⟨_, _, _, _, _, _, _, _, _, _, _, _, _, rfl, keepD (by decide) h0, keepD (by decide) h1, fun _ => rfl, keepD (by decide) h3, keepD (by decide) h4, keepD (by decide) h5, keepD (by decide) h6, keepD (by decide) h7, keepD (by decide) h8, keepD (by decide) h9, keepD (by decide) h10, keepD (by decide) h11, keepD (by decide) h12, keepD (by decide) h13, (fun h => by have := hD11 (by simpa using h); simpa using this), hB⟩
    · skip
      have d2 := hdep _ rfl ⟨2, .data⟩ (by simp) rfl
      obtain rfl := h2 d2
      refine wpOp_step rfl (fun K' hK' => ?_)
      go_simp
      refine hK' _ _ ?_
      exact ⟨_, _, _, _, _, _, _, _, _, _, _, _, _, rfl, keepD (by decide) h0, keepD (by decide) h1, keepD (by decide) h2, fun _ => rfl, keepD (by decide) h4, keepD (by decide) h5, keepD (by decide) h6, keepD (by decide) h7, keepD (by decide) h8, keepD (by decide) h9, keepD (by decide) h10, keepD (by decide) h11, keepD (by decide) h12, keepD (by decide) h13, (fun h => by have := hD11 (by simpa using h); simpa using this), hB⟩
    · skip
      have d3 := hdep _ rfl ⟨3, .data⟩ (by simp) rfl
      obtain rfl := h3 d3
      refine wpOp_step rfl (fun K' hK' => ?_)
      go_simp
      refine hK' _ _ ?_
      exact ⟨_, _, _, _, _, _, _, _, _, _, _, _, _, rfl, keepD (by decide) h0, keepD (by decide) h1, keepD (by decide) h2, keepD (by decide) h3, fun _ => rfl, keepD (by decide) h5, keepD (by decide) h6, keepD (by decide) h7, keepD (by decide) h8, keepD (by decide) h9, keepD (by decide) h10, keepD (by decide) h11, keepD (by decide) h12, keepD (by decide) h13, (fun h => by have := hD11 (by simpa using h); simpa using this), hB⟩
    · skip
      have d4 := hdep _ rfl ⟨4, .data⟩ (by simp) rfl
      obtain rfl := h4 d4
      refine wpOp_step rfl (fun K' hK' => ?_)
      go_simp
      refine hK' _ _ ?_
      exact ⟨_, _, _, _, _, _, _, _, _, _, _, _, _, rfl, keepD (by decide) h0, keepD (by decide) h1, keepD (by decide) h2, keepD (by decide) h3, keepD (by decide) h4, fun _ => rfl, keepD (by decide) h6, keepD (by decide) h7, keepD (by decide) h8, keepD (by decide) h9, keepD (by decide) h10, keepD (by decide) h11, keepD (by decide) h12, keepD (by decide) h13, (fun h => by have := hD11 (by simpa using h); simpa using this), hB⟩
    · skip
      have d5 := hdep _ rfl ⟨5, .data⟩ (by simp) rfl
      obtain rfl := h5 d5
      refine wpOp_step rfl (fun K' hK' => ?_)
      go_simp
      refine hK' _ _ ?_
      exact ⟨_, _, _, _, _, _, _, _, _, _, _, _, _, rfl, keepD (by decide) h0, keepD (by decide) h1, keepD (by decide) h2, keepD (by decide) h3, keepD (by decide) h4, keepD (by decide) h5, fun _ => rfl, keepD (by decide) h7, keepD (by decide) h8, keepD (by decide) h9, keepD (by decide) h10, keepD (by decide) h11, keepD (by decide) h12, keepD (by decide) h13, (fun h => by have := hD11 (by simpa using h); simpa using this), hB⟩
    · skip
      refine wpOp_step rfl (fun K' hK' => ?_)
      go_simp
      refine hK' _ _ ?_
      exact ⟨_, _, _, _, _, _, _, _, _, _, _, _, _, rfl, keepD (by decide) h0, keepD (by decide) h1, keepD (by decide) h2, keepD (by decide) h3, keepD (by decide) h4, keepD (by decide) h5, keepD (by decide) h6, fun _ => rfl, keepD (by decide) h8, keepD (by decide) h9, keepD (by decide) h10, keepD (by decide) h11, keepD (by decide) h12, keepD (by decide) h13, (fun h => by have := hD11 (by simpa using h); simpa using this), hB⟩
    · skip
      have d7 := hdep _ rfl ⟨7, .data⟩ (by simp) rfl
      obtain rfl := h7 d7
      refine wpOp_step rfl (fun K' hK' => ?_)
      go_simp
      refine hK' _ _ ?_
      exact ⟨_, _, _, _, _, _, _, _, _, _, _, _, _, rfl, keepD (by decide) h0, keepD (by decide) h1, keepD (by decide) h2, keepD (by decide) h3, keepD (by decide) h4, keepD (by decide) h5, keepD (by decide) h6, keepD (by decide) h7, fun _ => rfl, keepD (by decide) h9, keepD (by decide) h10, keepD (by decide) h11, keepD (by decide) h12, keepD (by decide) h13, (fun h => by have := hD11 (by simpa using h); simpa using this), hB⟩
    · skip
      have d8 := hdep _ rfl ⟨8, .data⟩ (by simp) rfl
      obtain rfl := h8 d8
      refine wpOp_step rfl (fun K' hK' => ?_)
      go_simp
      refine hK' _ _ ?_
      exact ⟨_, _, _, _, _, _, _, _, _, _, _, _, _, rfl, keepD (by decide) h0, keepD (by decide) h1, keepD (by decide) h2, keepD (by decide) h3, keepD (by decide) h4, keepD (by decide) h5, keepD (by decide) h6, keepD (by decide) h7, keepD (by decide) h8, fun _ => rfl, keepD (by decide) h10, keepD (by decide) h11, keepD (by decide) h12, keepD (by decide) h13, (fun h => by have := hD11 (by simpa using h); simpa using this), hB⟩
    · skip
      have kb : Below w'.heap.size w' (w'.alloc (.cells #[.bool false, .slice none 0 0, .slice none 0 0] 26)) := (Below.refl _ _).alloc (Nat.le_refl _) _
      refine wpOp_step rfl (fun K' hK' => ?_)
      go_simp
      refine hK' _ _ ?_
      exact ⟨_, _, _, _, _, _, _, _, _, _, _, _, _, rfl, keepD (by decide) h0, keepP (by decide) h1 (fun h => h.below kb), keepD (by decide) h2, keepD (by decide) h3, keepD (by decide) h4, keepD (by decide) h5, keepD (by decide) h6, keepD (by decide) h7, keepD (by decide) h8, keepD (by decide) h9, fun _ => ⟨_, _, _, _, rfl, hB.size, ⟨at_new rfl⟩, notU_bool _, notU_slice _ _ _, notU_slice _ _ _⟩, (fun h => by have h2 := hD11 (by simpa using h); rw [hEi] at h2; cases h2), keepD (by decide) h12, keepD (by decide) h13, (fun _ => by simp), Below.cons hB kb⟩
    · skip
      have d10 := hdep _ rfl ⟨10, .data⟩ (by simp) rfl
      obtain ⟨nb, z0, z1, z2, rfl, hn, hb, nz0, nz1, nz2⟩ := h10 d10
      have d1 := hdep _ rfl ⟨1, .data⟩ (by simp) rfl
      obtain ⟨X_1, c_1, Y_1, d_1, rfl, k_1, l_1⟩ := h1 d1
      have fz0 := hb.f (i := 0)
      have cz0 := hb.c (i := 0) rfl
      have fz1 := hb.f (i := 1)
      have cz1 := hb.c (i := 1) rfl
      have fz2 := hb.f (i := 2)
      have cz2 := hb.c (i := 2) rfl
      have hp := hb.put3 (notU3 nz0 nz1 nz2) (.bool (sg v.num)) (.slice X_1 (nl (mg v.num)) c_1) (.slice Y_1 (nl v.den) d_1)
      have hs := hb.store3 (.bool (sg v.num)) (.slice X_1 (nl (mg v.num)) c_1) (.slice Y_1 (nl v.den) d_1)
      refine wpOp_step rfl (fun K' hK' => ?_)
      go_simp
      refine hK' _ _ ?_
      exact ⟨_, _, _, _, _, _, _, _, _, _, _, _, _, rfl, keepD (by decide) h0, keepP (by decide) h1 (fun h => h.put hp), keepD (by decide) h2, keepD (by decide) h3, keepD (by decide) h4, keepD (by decide) h5, keepD (by decide) h6, keepD (by decide) h7, keepD (by decide) h8, keepD (by decide) h9, (fun _ => ⟨nb, _, _, _, rfl, hn, hs, notU_bool _, notU_slice _ _ _, notU_slice _ _ _⟩), fun _ => ⟨nb, X_1, c_1, Y_1, d_1, rfl, hn, hs, hp.nat k_1, hp.nat l_1⟩, keepD (by decide) h12, keepD (by decide) h13, (fun _ => by simp [d10]), Below.store3 hB hn⟩
    · skip
      have d6 := hdep _ rfl ⟨6, .data⟩ (by simp) rfl
      obtain rfl := h6 d6
      refine wpOp_step rfl (fun K' hK' => ?_)
      go_simp
      refine hK' _ _ ?_
      exact ⟨_, _, _, _, _, _, _, _, _, _, _, _, _, rfl, keepD (by decide) h0, keepD (by decide) h1, keepD (by decide) h2, keepD (by decide) h3, keepD (by decide) h4, keepD (by decide) h5, keepD (by decide) h6, keepD (by decide) h7, keepD (by decide) h8, keepD (by decide) h9, keepD (by decide) h10, keepD (by decide) h11, fun _ => rfl, keepD (by decide) h13, (fun h => by have := hD11 (by simpa using h); simpa using this), hB⟩
    · skip
      have d9 := hdep _ rfl ⟨9, .data⟩ (by simp) rfl
      obtain rfl := h9 d9
      refine wpOp_step rfl (fun K' hK' => ?_)
      go_simp
      refine hK' _ _ ?_
      exact ⟨_, _, _, _, _, _, _, _, _, _, _, _, _, rfl, keepD (by decide) h0, keepD (by decide) h1, keepD (by decide) h2, keepD (by decide) h3, keepD (by decide) h4, keepD (by decide) h5, keepD (by decide) h6, keepD (by decide) h7, keepD (by decide) h8, keepD (by decide) h9, keepD (by decide) h10, keepD (by decide) h11, keepD (by decide) h12, fun _ => rfl, (fun h => by have := hD11 (by simpa using h); simpa using this), hB⟩
  case fin =>
    rintro E a' w' ⟨u21, u22, u23, u24, u25, u26, u27, u28, u29, u30, u8, u9, u10, rfl, h0, h1, h2, h3, h4, h5, h6, h7, h8, h9, h10, h11, h12, h13, hD11, hB⟩ hall
    obtain ⟨nbv, Xv, cv, Yv, dv, rfl, hnv, Rv, hv, gv⟩ := h11 (hall 11 (by simp))
    replace hT := hT.below hB
    replace hl := hl.below hB
    replace hk := hk.below hB
    replace Ra := Ra.below hB
    replace qa0 := cell_below hB qa0
    replace qa1 := cell_below hB qa1
    replace qa2 := cell_below hB qa2
    replace Rx := Rx.below hB
    replace qx0 := cell_below hB qx0
    replace qx1 := cell_below hB qx1
    replace HBT := Below.cons HBT hB
    have kvv := hnv
    have qv0 := Rv.c (i := 0) rfl
    have qv1 := Rv.c (i := 1) rfl
    have qv2 := Rv.c (i := 2) rfl
    obtain rfl := h12 (hall 12 (by simp))
    obtain rfl := h13 (hall 13 (by simp))
    go_wp2_with (fail)
    clear Ra
    clear qa0
    clear qa1
    clear qa2
    have szm := mul_sz v ((2 : Rat) ^ m)
    have spm := pow_szb m (E := 200) Bm
    have szn := mul_sz v ((2 : Rat) ^ n)
    have spn := pow_szb n (E := 200) (by omega)
    obtain ⟨x, Ex⟩ : ∃ zq : Rat, zq = dval (rnd (i : Int) (v * (2 : Rat) ^ m)) (-m) := ⟨_, rfl⟩
    have Ox : DB x 15 680 := by rw [Ex]; exact db_rnd (l := 15) (by omega) Bm
    have CT : Calls Tryz.prog 15 #[.agg #[.bool (sg v.num), .slice Xv (nl (mg v.num)) cv, .slice Yv (nl v.den) dv], .int .i64 m, .int .i64 (i : Int)] w' (RetDe w' x 0) := by rw [Ex]; exact cut_in Xv cv Yv dv v m (i : Int) _ hv gv hT (by omega) (by omega) i0 i4 (by omega)
    replace Ex := Lib.hid Ex
    refine (Calls.mono CT ?_)
    clear CT
    rintro e W3 ⟨Xx, cx, rfl, hx, hb3⟩
    replace hT := hT.below hb3
    replace hl := hl.below hb3
    replace hk := hk.below hb3
    replace Rx := Rx.below hb3
    replace qx0 := cell_below hb3 qx0
    replace qx1 := cell_below hb3 qx1
    replace hv := hv.below hb3
    replace gv := gv.below hb3
    replace Rv := Rv.below hb3
    replace qv0 := cell_below hb3 qv0
    replace qv1 := cell_below hb3 qv1
    replace qv2 := cell_below hb3 qv2
    replace HBT := Below.cons HBT hb3
    clear hb3
    have hb4 : Below (W3).heap.size (W3) (W3.alloc (.cells #[.bool (sg (dmn x)), .slice Xx (nl (mg (dmn x))) cx, .int .i64 (dex x)] 28)) := (Below.alloc (Below.refl _ _) (Nat.le_refl _) _)
    replace hT := hT.below hb4
    replace hl := hl.below hb4
    replace hk := hk.below hb4
    replace Rx := Rx.below hb4
    replace qx0 := cell_below hb4 qx0
    replace qx1 := cell_below hb4 qx1
    replace hv := hv.below hb4
    replace gv := gv.below hb4
    replace Rv := Rv.below hb4
    replace qv0 := cell_below hb4 qv0
    replace qv1 := cell_below hb4 qv1
    replace qv2 := cell_below hb4 qv2
    replace hx := hx.below hb4
    replace HBT := Below.cons HBT hb4
    clear hb4
    have Rx : BoxA (W3.alloc (.cells #[.bool (sg (dmn x)), .slice Xx (nl (mg (dmn x))) cx, .int .i64 (dex x)] 28)) W3.heap.size 28 #[.bool (sg (dmn x)), .slice Xx (nl (mg (dmn x))) cx, .int .i64 (dex x)] := ⟨by repeat (first | exact at_new (by first | (simp; done) | (simp; omega)) | refine at_old (by first | (simp; done) | (simp; omega)) ?_)⟩
    have qx0 := Rx.c (i := 0) rfl
    have qx1 := Rx.c (i := 1) rfl
    have qx2 := Rx.c (i := 2) rfl
    go_wp2_with (fail)
    have sx := db_sz Ox
    have sxn := mul_sz x ((2 : Rat) ^ n)
    obtain ⟨y, Ey⟩ : ∃ zq : Rat, zq = dval (rnd (i : Int) (x * (2 : Rat) ^ n)) (-n) := ⟨_, rfl⟩
    have Oy : DB y 60 3000 := by rw [Ey]; exact (db_rnd (l := 60) (E := 200) (by omega) (by omega)).mono (by decide) (by decide)
    have Hy : y = dval (rnd (i : Int) (v * (2 : Rat) ^ n)) (-n) := by rw [Ey, Ex.out, rnd_twice nm i0 i3]
    replace Hy := Lib.hid Hy
    have CT : Calls Tryz.prog 17 #[.agg #[.bool (sg (dmn x)), .slice Xx (nl (mg (dmn x))) cx, .int .i64 (dex x)], .int .i64 n, .int .i64 (i : Int)] (W3.alloc (.cells #[.bool (sg (dmn x)), .slice Xx (nl (mg (dmn x))) cx, .int .i64 (dex x)] 28)) (RetDe (W3.alloc (.cells #[.bool (sg (dmn x)), .slice Xx (nl (mg (dmn x))) cx, .int .i64 (dex x)] 28)) y 0) := by rw [Ey]; exact dround_c Xx cx x n (i : Int) _ hx hT (Ox.ok (by decide) (by decide)) i0 i4 (by omega)
    replace Ey := Lib.hid Ey
    refine (Calls.mono CT ?_)
    clear CT
    rintro e W5 ⟨Xy, cy, rfl, hy, hb5⟩
    replace hT := hT.below hb5
    replace hl := hl.below hb5
    replace hk := hk.below hb5
    replace Rx := Rx.below hb5
    replace qx0 := cell_below hb5 qx0
    replace qx1 := cell_below hb5 qx1
    replace hv := hv.below hb5
    replace gv := gv.below hb5
    replace Rv := Rv.below hb5
    replace qv0 := cell_below hb5 qv0
    replace qv1 := cell_below hb5 qv1
    replace qv2 := cell_below hb5 qv2
    replace hx := hx.below hb5
    replace qx2 := cell_below hb5 qx2
    replace HBT := Below.cons HBT hb5
    clear hb5
    have hb6 : Below (W5).heap.size (W5) (W5.alloc (.cells #[.bool (sg (dmn y)), .slice Xy (nl (mg (dmn y))) cy, .int .i64 (dex y)] 28)) := (Below.alloc (Below.refl _ _) (Nat.le_refl _) _)
    replace hT := hT.below hb6
    replace hl := hl.below hb6
    replace hk := hk.below hb6
    replace Rx := Rx.below hb6
    replace qx0 := cell_below hb6 qx0
    replace qx1 := cell_below hb6 qx1
    replace hv := hv.below hb6
    replace gv := gv.below hb6
    replace Rv := Rv.below hb6
    replace qv0 := cell_below hb6 qv0
    replace qv1 := cell_below hb6 qv1
    replace qv2 := cell_below hb6 qv2
    replace hx := hx.below hb6
    replace qx2 := cell_below hb6 qx2
    replace hy := hy.below hb6
    replace HBT := Below.cons HBT hb6
    clear hb6
    have Ry : BoxA (W5.alloc (.cells #[.bool (sg (dmn y)), .slice Xy (nl (mg (dmn y))) cy, .int .i64 (dex y)] 28)) W5.heap.size 28 #[.bool (sg (dmn y)), .slice Xy (nl (mg (dmn y))) cy, .int .i64 (dex y)] := ⟨by repeat (first | exact at_new (by first | (simp; done) | (simp; omega)) | refine at_old (by first | (simp; done) | (simp; omega)) ?_)⟩
    have qy0 := Ry.c (i := 0) rfl
    have qy1 := Ry.c (i := 1) rfl
    have qy2 := Ry.c (i := 2) rfl
    go_wp2_with (fail)
    obtain ⟨z, Ez⟩ : ∃ zq : Rat, zq = dval (rnd (i : Int) (v * (2 : Rat) ^ n)) (-n) := ⟨_, rfl⟩
    have Hz : z = dval (rnd (i : Int) (v * (2 : Rat) ^ n)) (-n) := Ez
    replace Hz := Lib.hid Hz
    have CT : Calls Tryz.prog 15 #[.agg #[.bool (sg v.num), .slice Xv (nl (mg v.num)) cv, .slice Yv (nl v.den) dv], .int .i64 n, .int .i64 (i : Int)] (W5.alloc (.cells #[.bool (sg (dmn y)), .slice Xy (nl (mg (dmn y))) cy, .int .i64 (dex y)] 28)) (RetDe (W5.alloc (.cells #[.bool (sg (dmn y)), .slice Xy (nl (mg (dmn y))) cy, .int .i64 (dex y)] 28)) z 0) := by rw [Ez]; exact cut_in Xv cv Yv dv v n (i : Int) _ hv gv hT (by omega) (by omega) i0 i4 (by omega)
    replace Ez := Lib.hid Ez
    refine (Calls.mono CT ?_)
    clear CT
    rintro e W7 ⟨Xz, cz, rfl, hz, hb7⟩
    replace hT := hT.below hb7
    replace hl := hl.below hb7
    replace hk := hk.below hb7
    replace Rx := Rx.below hb7
    replace qx0 := cell_below hb7 qx0
    replace qx1 := cell_below hb7 qx1
    replace hv := hv.below hb7
    replace gv := gv.below hb7
    replace Rv := Rv.below hb7
    replace qv0 := cell_below hb7 qv0
    replace qv1 := cell_below hb7 qv1
    replace qv2 := cell_below hb7 qv2
    replace hx := hx.below hb7
    replace qx2 := cell_below hb7 qx2
    replace hy := hy.below hb7
    replace Ry := Ry.below hb7
    replace qy0 := cell_below hb7 qy0
    replace qy1 := cell_below hb7 qy1
    replace qy2 := cell_below hb7 qy2
    replace HBT := Below.cons HBT hb7
    clear hb7
    have hb8 : Below (W7).heap.size (W7) (W7.alloc (.cells #[.bool (sg (dmn z)), .slice Xz (nl (mg (dmn z))) cz, .int .i64 (dex z)] 28)) := (Below.alloc (Below.refl _ _) (Nat.le_refl _) _)
    replace hT := hT.below hb8
    replace hl := hl.below hb8
    replace hk := hk.below hb8
    replace Rx := Rx.below hb8
    replace qx0 := cell_below hb8 qx0
    replace qx1 := cell_below hb8 qx1
    replace hv := hv.below hb8
    replace gv := gv.below hb8
    replace Rv := Rv.below hb8
    replace qv0 := cell_below hb8 qv0
    replace qv1 := cell_below hb8 qv1
    replace qv2 := cell_below hb8 qv2
    replace hx := hx.below hb8
    replace qx2 := cell_below hb8 qx2
    replace hy := hy.below hb8
    replace Ry := Ry.below hb8
    replace qy0 := cell_below hb8 qy0
    replace qy1 := cell_below hb8 qy1
    replace qy2 := cell_below hb8 qy2
    replace hz := hz.below hb8
    replace HBT := Below.cons HBT hb8
    clear hb8
    have Rz : BoxA (W7.alloc (.cells #[.bool (sg (dmn z)), .slice Xz (nl (mg (dmn z))) cz, .int .i64 (dex z)] 28)) W7.heap.size 28 #[.bool (sg (dmn z)), .slice Xz (nl (mg (dmn z))) cz, .int .i64 (dex z)] := ⟨by repeat (first | exact at_new (by first | (simp; done) | (simp; omega)) | refine at_old (by first | (simp; done) | (simp; omega)) ?_)⟩
    have qz0 := Rz.c (i := 0) rfl
    have qz1 := Rz.c (i := 1) rfl
    have qz2 := Rz.c (i := 2) rfl
    go_wp2_with (fail)
    obtain ⟨q, Eq⟩ : ∃ zq : Rat, zq = x := ⟨_, rfl⟩
    have Nq : nl (mg q.num) ≤ 60 ∧ nl q.den ≤ 60 := by rw [Eq]; omega
    refine (Calls.mono (R := RetR (W7.alloc (.cells #[.bool (sg (dmn z)), .slice Xz (nl (mg (dmn z))) cz, .int .i64 (dex z)] 28)) q) (by rw [Eq]; with_reducible exact (trat_c Xx cx x _ hx (Ox.ok (by decide) (by decide)))) ?_)
    replace Eq := Lib.hid Eq
    rintro e W9 ⟨Xq, cq, Yq, dq, rfl, hq, gq, hb9⟩
    replace hT := hT.below hb9
    replace hl := hl.below hb9
    replace hk := hk.below hb9
    replace Rx := Rx.below hb9
    replace qx0 := cell_below hb9 qx0
    replace qx1 := cell_below hb9 qx1
    replace hv := hv.below hb9
    replace gv := gv.below hb9
    replace Rv := Rv.below hb9
    replace qv0 := cell_below hb9 qv0
    replace qv1 := cell_below hb9 qv1
    replace qv2 := cell_below hb9 qv2
    replace hx := hx.below hb9
    replace qx2 := cell_below hb9 qx2
    replace hy := hy.below hb9
    replace Ry := Ry.below hb9
    replace qy0 := cell_below hb9 qy0
    replace qy1 := cell_below hb9 qy1
    replace qy2 := cell_below hb9 qy2
    replace hz := hz.below hb9
    replace Rz := Rz.below hb9
    replace qz0 := cell_below hb9 qz0
    replace qz1 := cell_below hb9 qz1
    replace qz2 := cell_below hb9 qz2
    replace HBT := Below.cons HBT hb9
    clear hb9
    go_wp2_with (fail)
    obtain ⟨g, Eg⟩ : ∃ zq : Rat, zq = dval (rnd (i : Int) (q * (2 : Rat) ^ n)) (-n) := ⟨_, rfl⟩
    have Hg : g = y := by rw [Eg, Eq.out, Ey.out]
    replace Hg := Lib.hid Hg
    have CT : Calls Tryz.prog 15 #[.agg #[.bool (sg q.num), .slice Xq (nl (mg q.num)) cq, .slice Yq (nl q.den) dq], .int .i64 n, .int .i64 (i : Int)] W9 (RetDe W9 g 0) := by rw [Eg]; exact cut_in Xq cq Yq dq q n (i : Int) _ hq gq hT (by omega) (by omega) i0 i4 (by omega)
    replace Eg := Lib.hid Eg
    refine (Calls.mono CT ?_)
    clear CT
    rintro e W10 ⟨Xg, cg, rfl, hg, hb10⟩
    replace hT := hT.below hb10
    replace hl := hl.below hb10
    replace hk := hk.below hb10
    replace Rx := Rx.below hb10
    replace qx0 := cell_below hb10 qx0
    replace qx1 := cell_below hb10 qx1
    replace hv := hv.below hb10
    replace gv := gv.below hb10
    replace Rv := Rv.below hb10
    replace qv0 := cell_below hb10 qv0
    replace qv1 := cell_below hb10 qv1
    replace qv2 := cell_below hb10 qv2
    replace hx := hx.below hb10
    replace qx2 := cell_below hb10 qx2
    replace hy := hy.below hb10
    replace Ry := Ry.below hb10
    replace qy0 := cell_below hb10 qy0
    replace qy1 := cell_below hb10 qy1
    replace qy2 := cell_below hb10 qy2
    replace hz := hz.below hb10
    replace Rz := Rz.below hb10
    replace qz0 := cell_below hb10 qz0
    replace qz1 := cell_below hb10 qz1
    replace qz2 := cell_below hb10 qz2
    replace hq := hq.below hb10
    replace gq := gq.below hb10
    replace HBT := Below.cons HBT hb10
    clear hb10
    have hb11 : Below (W10).heap.size (W10) (W10.alloc (.cells #[.bool (sg (dmn g)), .slice Xg (nl (mg (dmn g))) cg, .int .i64 (dex g)] 28)) := (Below.alloc (Below.refl _ _) (Nat.le_refl _) _)
    replace hT := hT.below hb11
    replace hl := hl.below hb11
    replace hk := hk.below hb11
    replace Rx := Rx.below hb11
    replace qx0 := cell_below hb11 qx0
    replace qx1 := cell_below hb11 qx1
    replace hv := hv.below hb11
    replace gv := gv.below hb11
    replace Rv := Rv.below hb11
    replace qv0 := cell_below hb11 qv0
    replace qv1 := cell_below hb11 qv1
    replace qv2 := cell_below hb11 qv2
    replace hx := hx.below hb11
    replace qx2 := cell_below hb11 qx2
    replace hy := hy.below hb11
    replace Ry := Ry.below hb11
    replace qy0 := cell_below hb11 qy0
    replace qy1 := cell_below hb11 qy1
    replace qy2 := cell_below hb11 qy2
    replace hz := hz.below hb11
    replace Rz := Rz.below hb11
    replace qz0 := cell_below hb11 qz0
    replace qz1 := cell_below hb11 qz1
    replace qz2 := cell_below hb11 qz2
    replace hq := hq.below hb11
    replace gq := gq.below hb11
    replace hg := hg.below hb11
    replace HBT := Below.cons HBT hb11
    clear hb11
    have Rg : BoxA (W10.alloc (.cells #[.bool (sg (dmn g)), .slice Xg (nl (mg (dmn g))) cg, .int .i64 (dex g)] 28)) W10.heap.size 28 #[.bool (sg (dmn g)), .slice Xg (nl (mg (dmn g))) cg, .int .i64 (dex g)] := ⟨by repeat (first | exact at_new (by first | (simp; done) | (simp; omega)) | refine at_old (by first | (simp; done) | (simp; omega)) ?_)⟩
    have qg0 := Rg.c (i := 0) rfl
    have qg1 := Rg.c (i := 1) rfl
    have qg2 := Rg.c (i := 2) rfl
    go_wp2_with (fail)
    refine (Calls.mono (tsameT_c Xy cy y Xz cz z _ hy hz (Oy.ok (by decide) (by decide)) (by rw [Hy.out, Hz.out])) ?_)
    rintro e W12 ⟨rfl, hb12⟩
    replace hT := hT.below hb12
    replace hl := hl.below hb12
    replace hk := hk.below hb12
    replace Rx := Rx.below hb12
    replace qx0 := cell_below hb12 qx0
    replace qx1 := cell_below hb12 qx1
    replace hv := hv.below hb12
    replace gv := gv.below hb12
    replace Rv := Rv.below hb12
    replace qv0 := cell_below hb12 qv0
    replace qv1 := cell_below hb12 qv1
    replace qv2 := cell_below hb12 qv2
    replace hx := hx.below hb12
    replace qx2 := cell_below hb12 qx2
    replace hy := hy.below hb12
    replace Ry := Ry.below hb12
    replace qy0 := cell_below hb12 qy0
    replace qy1 := cell_below hb12 qy1
    replace qy2 := cell_below hb12 qy2
    replace hz := hz.below hb12
    replace Rz := Rz.below hb12
    replace qz0 := cell_below hb12 qz0
    replace qz1 := cell_below hb12 qz1
    replace qz2 := cell_below hb12 qz2
    replace hq := hq.below hb12
    replace gq := gq.below hb12
    replace hg := hg.below hb12
    replace Rg := Rg.below hb12
    replace qg0 := cell_below hb12 qg0
    replace qg1 := cell_below hb12 qg1
    replace qg2 := cell_below hb12 qg2
    replace HBT := Below.cons HBT hb12
    clear hb12
    go_wp2_with (fail)
    refine (Calls.mono (tsameT_c Xy cy y Xg cg g _ hy hg (Oy.ok (by decide) (by decide)) (by exact Hg.out.symm)) ?_)
    rintro e W13 ⟨rfl, hb13⟩
    replace hT := hT.below hb13
    replace hl := hl.below hb13
    replace hk := hk.below hb13
    replace Rx := Rx.below hb13
    replace qx0 := cell_below hb13 qx0
    replace qx1 := cell_below hb13 qx1
    replace hv := hv.below hb13
    replace gv := gv.below hb13
    replace Rv := Rv.below hb13
    replace qv0 := cell_below hb13 qv0
    replace qv1 := cell_below hb13 qv1
    replace qv2 := cell_below hb13 qv2
    replace hx := hx.below hb13
    replace qx2 := cell_below hb13 qx2
    replace hy := hy.below hb13
    replace Ry := Ry.below hb13
    replace qy0 := cell_below hb13 qy0
    replace qy1 := cell_below hb13 qy1
    replace qy2 := cell_below hb13 qy2
    replace hz := hz.below hb13
    replace Rz := Rz.below hb13
    replace qz0 := cell_below hb13 qz0
    replace qz1 := cell_below hb13 qz1
    replace qz2 := cell_below hb13 qz2
    replace hq := hq.below hb13
    replace gq := gq.below hb13
    replace hg := hg.below hb13
    replace Rg := Rg.below hb13
    replace qg0 := cell_below hb13 qg0
    replace qg1 := cell_below hb13 qg1
    replace qg2 := cell_below hb13 qg2
    replace HBT := Below.cons HBT hb13
    clear hb13
    go_wp2_with (fail)
    go_ret
    exact ⟨rfl, HBT⟩
end Go.Proofs.YtacjfpibilolnaaGreatDoor

set_option linter.unusedVariables false
set_option linter.unusedSimpArgs false
namespace Go.Proofs.YtacjfpibilolnaaGreatDoor
open Go.RowKit Go.ChangeShapes Go.WideShapes Go.ChangeAt

set_option maxRecDepth 100000 in
theorem dyadTwice_lifted (os : Os) (started : os.Started) (H : Type) (enc : TypeId × Value → H) :
    ReturnsInHanded {} Tryz.checked os 7 .any (fun w args => (Rows.dyadTwiceSpec.pre enc Tryz.prog Tryz.f7 [] false w args ∧ laidMetH Tryz.prog [("math/bits.deBruijn32tab", Rows.laid_math_bits_deBruijn32tab)] w) ∧ sizedMet enc Tryz.prog Tryz.f7 (OpenSpec.ofChange Rows.dyadTwiceSpec) false w args)
      (Rows.dyadTwiceSpec.post enc Tryz.prog Tryz.f7 false true false false) := by
  refine returnsInHanded_of_change_and (C := Tryz.checked) (X := fun w _ => laidMetH Tryz.prog [("math/bits.deBruijn32tab", Rows.laid_math_bits_deBruijn32tab)] w) (fun _ _ _ hh h => h.of_heap hh) row_own started (by kernel_rfl) Tryz.func7
    (ChangeSpec.witness_shaped (enc := enc) (C := Tryz.checked) (os := os) (X := fun w _ => laidMetH Tryz.prog [("math/bits.deBruijn32tab", Rows.laid_math_bits_deBruijn32tab)] w) false (World.doorLaid Tryz.prog 400 os) #[.agg #[.bool false, .slice none 0 0, .slice none 0 0], .agg #[.int .u16 0, .int .u16 0], .int .u8 0] 8 rfl (World.shaped_of_RefB (by kernel_rfl) (by kernel_rfl)) (by kernel_rfl) (by kernel_rfl) (by kernel_rfl) (door_met os _)) ?_
  intro W base args ds gs before hval0 hW _ _ hL _
  have hval : ∀ (j : Nat) t v, Tryz.f7.params[j]? = some t → args[j]? = some v → Value.okWide Tryz.prog W .any base t v := hval0
  have hW' := hW
  obtain ⟨p, q, hA0, hV, rfl, hfz, hnd⟩ := hW
  have hA : DataW.TrodAll enc Tryz.prog W 0 (fun _ => true) true Tryz.f7.params.toList args.toList ds p := hA0
  rw [Tryz.params7] at hA hval
  obtain ⟨v0, vs0, d0, ds0, p0, q0, hargs, rfl, rfl, h0, r0⟩ := trodAll_cons hA
  obtain ⟨v1, vs1, d1, ds1, p1, q1, rfl, rfl, rfl, h1, r1⟩ := trodAll_cons r0
  obtain ⟨v2, vs2, d2, ds2, p2, q2, rfl, rfl, rfl, h2, r2⟩ := trodAll_cons r1
  obtain ⟨rfl, rfl, rfl⟩ := trodAll_nil r2
  obtain rfl : args = #[v0, v1, v2] := by cases args; simp_all
  obtain ⟨rfl, rfl⟩ := trodVars_none hV
  have hT := tab_of_laid hL
  have k0 := h0
  have lt0 : ∀ x ∈ p0, x.block < W.heap.size := by obtain ⟨m, hm⟩ := k0; exact DataW.trod_lt m _ _ _ hm
  obtain ⟨b0, A0, c0, l0, B0, e0, m0, rfl, i0, j0⟩ := open_ra (hval 0 26 v0 rfl rfl) h0
  have k1 := h1
  have lt1 : ∀ x ∈ p1, x.block < W.heap.size := by obtain ⟨m, hm⟩ := k1; exact DataW.trod_lt m _ _ _ hm
  obtain ⟨x1, y1, rfl, bx1, by1⟩ := open_pu (hval 1 61 v1 rfl rfl) h1
  obtain ⟨z2, rfl, rfl, rfl, w2⟩ := open_int Tryz.underlying5 (hval 2 5 v2 rfl rfl) h2
  have bz2 := bounds_u8 w2
  obtain ⟨n2, rfl⟩ := Int.eq_ofNat_of_zero_le bz2.1
  have bn2 : n2 < 256 := by omega
  clear hA0 hval0 hval hL
  have hcall := dyadTwice_c b0 x1 y1 n2 A0 c0 l0 B0 e0 m0 W hT i0.1 i0.2.1 i0.2.2.1 i0.2.2.2.1 i0.2.2.2.2 j0.1 j0.2.1 j0.2.2.1 j0.2.2.2.1 j0.2.2.2.2 bx1 by1 bn2
  refine hcall.mono fun e W' ⟨he, bel⟩ => ?_
  subst he
  exact ⟨_, rfl, _, _, _, [], _, [], hW', trodAll_mk1 (shut_bool Tryz.underlying4 _), (trodAll_cons_mk (Below.trod row_out (by kernel_rfl) (of_decide_eq_true (by kernel_rfl)) k0 bel lt0) (trodAll_cons_mk (Below.trod row_out (by kernel_rfl) (of_decide_eq_true (by kernel_rfl)) k1 bel lt1) (trodAll_cons_mk (shut_int Tryz.underlying5 w2) trodAll_mk0))), rfl, bel.frame _, fun h => by cases h⟩
theorem dyadTwice_holds : Rows.DyadTwiceSaid :=
  OpenClaim.holds_of_wide 7 Tryz.f7 rfl rfl rfl rfl rfl rfl rfl ⟨rfl, rfl, rfl, rfl, rfl⟩ rfl rfl rfl rfl rfl (by kernel_rfl) Tryz.func7 (by kernel_rfl)
    (of_decide_eq_true (by kernel_rfl)) (by unfold Func.isWrapper; first | (rw [if_pos (by decide +kernel)]; kernel_rfl) | (rw [if_neg (by decide +kernel)]; exact ⟨rfl, rfl⟩))
    (fun os started H enc _ => dyadTwice_lifted os started H enc)

/-- The card, tied to the program's text. -/
theorem dyadTwice_card : Rows.DyadTwiceCardSaid :=
  Claim7.holds_tied_plain_at .later [] [.data] true (true, "c40366035f47d3ac072167c9252c36368376323eeb282c459406779c221647a3") false
    dyadTwice_holds (fun _ h => by cases h) (by kernel_rfl) (fun _ h => by cases h) dyadTwice_row_tie rfl ⟨rfl, rfl⟩ (by kernel_rfl) rfl
    (fun f fn hf hfn => by
      obtain rfl : f = 7 := Option.some.inj ((show Tryz.prog.funcNamed "ziggurat/zigguratlaw10.DyadTwice" = some 7 by kernel_rfl).symm.trans hf) |>.symm
      obtain rfl : fn = Tryz.f7 := (Option.some.inj (Tryz.func7.symm.trans hfn)).symm
      exact ⟨by kernel_rfl, fun j t ht => by
        rw [Tryz.params7] at ht
        have hm : t ∈ [26, 61, 5] := by simpa using Array.mem_of_getElem? ht
        have hall : ([26, 61, 5].all fun u => !Tryz.prog.wantsStandIn u) = true := by kernel_rfl
        exact (show Tryz.prog.wantsStandIn t = false by simpa using List.all_eq_true.1 hall t hm)⟩)
    (by kernel_rfl)
#print axioms dyadTwice_card
end Go.Proofs.YtacjfpibilolnaaGreatDoor
