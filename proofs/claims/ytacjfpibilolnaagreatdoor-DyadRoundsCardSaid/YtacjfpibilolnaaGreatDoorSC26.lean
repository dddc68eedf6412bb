/- Dyadic numbers, walked: the noughts at the end, Make. -/
import Derived.Test.YtacjfpibilolnaaGreatDoorSC25
import Derived.Shelf.Spec.TrailingZeros
import Derived.IntWalk
set_option maxRecDepth 100000
set_option maxHeartbeats 4000000
set_option linter.unusedVariables false
set_option linter.unusedSimpArgs false
namespace Go.Proofs.YtacjfpibilolnaaGreatDoor
open Go.RowKit Go.Shelf
attribute [local go_sem] max2_i min2_i max_two min_two

/-- The table of Go's library lies as it was laid. -/
def Tab (w : World) : Prop := TabAt 0 Lib.deBruijn32tab w
theorem Tab.below {w w' : World} (h : Tab w) (hb : Below w.heap.size w w') : Tab w' := fun j hj => cell_below hb (h j hj)
def RetD (w : World) (q : Rat) (e : Ending) (w' : World) : Prop := ∃ A c, e = .returned (.agg #[.bool (sg (dmn q)), .slice A (nl (mg (dmn q))) c, .int .i64 (dex q)]) ∧ NatV w' A c (mg (dmn q)) ∧ Below w.heap.size w w'
theorem ctz_v2 {x : Nat} (hx : x < 4294967296) (h0 : x ≠ 0) : Lib.ctz 32 x = v2 x := by
  obtain ⟨m, h1, _⟩ := Lib.ctzFrom_spec 32 x (by omega) hx
  have e : Lib.ctz 32 x = Lib.ctzFrom 32 x := by simp [Lib.ctz, h0]
  rw [e]
  exact (v2_eq (b := 2 * m + 1) h1 (by omega)).symm
theorem tz32_walk (x k idx : Nat) (w : World) (hx0 : ((x : Int) == 0) = false)
    (key : bits BinOp.and IntKind.u32 (x : Int) (-(x : Int) % 4294967296) * 125613361 % 4294967296 / 134217728 = (idx : Int))
    (hi : idx < 32) (hk : k < 32) (hcell : w.cell? ⟨0, idx, none⟩ = some (.int .u8 k)) :
    Calls Tryz.prog 113 #[.int .u32 (x : Nat)] w fun e w' => e = .returned (.int .i64 (k : Nat)) ∧ w' = w := by
  go_enter Tryz.func113, Tryz.ntmps113
  go_wp2_with (simp only [key])
  go_ret
  exact ⟨rfl, rfl⟩
theorem tz32_c (x : Nat) (w : World) (hx : x < 4294967296) (hx0 : x ≠ 0) (hT : Tab w) :
    Calls Tryz.prog 113 #[.int .u32 (x : Nat)] w fun e w' => e = .returned (.int .i64 (v2 x : Nat)) ∧ w' = w := by
  obtain ⟨hlow, hk⟩ := Lib.lowest_bit 32 x hx0 hx
  obtain ⟨hi, htab⟩ := Lib.deBruijn32_at _ hk
  have hcell := hT _ hi
  rw [htab] at hcell
  rw [← ctz_v2 hx hx0]
  exact tz32_walk x _ _ w (ieqF (by omega)) (tz32_key x _ hx hx0 hlow) hi hk hcell
theorem mod_limb (a k : Nat) : a % 4294967296 ^ (k + 1) = a % 4294967296 ^ k + 4294967296 ^ k * (a / 4294967296 ^ k % 4294967296) := by
  rw [Nat.pow_succ, Nat.mod_mul]
theorem v2_limb {a k x : Nat} (h : a % 4294967296 ^ k = 0) (hx : x = a / 4294967296 ^ k % 4294967296) (h0 : x ≠ 0) : v2 a = 32 * k + v2 x := by
  obtain ⟨b, h1, h2⟩ := v2_spec h0
  have hd := Nat.div_add_mod a (4294967296 ^ k)
  rw [h, Nat.add_zero] at hd
  have hd2 := Nat.div_add_mod (a / 4294967296 ^ k) 4294967296
  rw [← hx] at hd2
  generalize a / 4294967296 ^ k / 4294967296 = c at *
  have hv : v2 x < 32 := by
    have h3 := v2_lt h0
    have h4 : x < 2 ^ 32 := by rw [hx]; exact Nat.mod_lt _ (by decide)
    exact (Nat.pow_lt_pow_iff_right (by decide : 1 < 2)).1 (Nat.lt_of_le_of_lt h3 h4)
  refine v2_eq (b := 2 ^ (32 - v2 x) * c + b) ?_ ?_
  · rw [← hd, ← hd2, ← pow32, Nat.pow_add, Nat.mul_assoc]
    congr 1
    rw [Nat.mul_add, ← h1, ← Nat.mul_assoc, ← Nat.pow_add, show v2 x + (32 - v2 x) = 32 by omega]
  · obtain ⟨j, hj⟩ : ∃ j, 32 - v2 x = j + 1 := ⟨31 - v2 x, by omega⟩
    rw [hj, Nat.pow_succ, Nat.mul_right_comm]; omega
theorem zeros_c (aA : Option Addr) (ac : Nat) (a : Int) (w : World) (ha : NatV w aA ac (mg a)) (hT : Tab w) (la : nl (mg a) ≤ 1048576) (h0 : a ≠ 0) :
    Calls Tryz.prog 72 #[.agg #[.bool (sg a), .slice aA (nl (mg a)) ac]] w fun e w' => e = .returned (.int .i64 (v2 (mg a) : Nat)) ∧ Below w.heap.size w w' := by
  have hp := nl_pos.2 (show mg a ≠ 0 from fun e => h0 (mg_zero.1 e))
  have hb : Below w.heap.size w (w.alloc (.cells #[.bool (sg a), .slice aA (nl (mg a)) ac] 24)) := (Below.refl _ _).alloc (Nat.le_refl _) _
  have Ra : BoxA (w.alloc (.cells #[.bool (sg a), .slice aA (nl (mg a)) ac] 24)) w.heap.size 24 #[.bool (sg a), .slice aA (nl (mg a)) ac] := ⟨at_new rfl⟩
  have qa1 := Ra.c (i := 1) rfl
  have hT2 := hT.below hb
  have ha2 := ha.below hb
  have hn0 : mg a ≠ 0 := fun e => h0 (mg_zero.1 e)
  clear ha
  replace hT2 := Lib.hid hT2
  generalize mg a = n at *
  go_enter Tryz.func72, Tryz.ntmps72
  go_wp2_with (fail)
  go_loop [3] (fun v => ∃ k : Nat, v = .int .i64 (k : Nat) ∧ k < nl n ∧ Hid (n % 4294967296 ^ k = 0)) (fun v => nl n - (intOf v).toNat)
  case atStart => exact ⟨0, rfl, hp, Lib.hid (by rw [Nat.pow_zero, Nat.mod_one])⟩
  case round =>
    obtain ⟨k, rfl, hk, hz⟩ := hrel
    obtain ⟨ad, rfl, hc⟩ := ha2.rd.get k hk
    obtain ⟨x, Ex⟩ : ∃ x, x = gl (limbs n) k := ⟨_, rfl⟩
    have hxl : x < 4294967296 := by rw [Ex]; exact (lim_limbs n).gl k
    have hxv : x = n / 4294967296 ^ k % 4294967296 := by rw [Ex, limbs_gl]
    rw [← Ex] at hc
    replace Ex := Lib.hid Ex
    by_cases hx0 : x = 0
    · have t1 : ((x : Int) == 0) = true := ieqT (by omega)
      have hz2 : n % 4294967296 ^ (k + 1) = 0 := by rw [mod_limb, hz.out, ← hxv, hx0]; rfl
      have hk2 : k + 1 < nl n := by
        rcases Nat.lt_or_ge (k + 1) (nl n) with h | h
        · exact h
        · exfalso
          rw [Nat.mod_eq_of_lt (nl_le.1 h)] at hz2
          exact hn0 hz2
      replace hz2 := Lib.hid hz2
      replace hx0 := Lib.hid hx0
      replace hxv := Lib.hid hxv
      go_wp2_with (fail)
      go_round
      case rel => exact ⟨k + 1, by go_num, hk2, hz2⟩
      case measure => simp [intOf] <;> omega
    · have t1 : ((x : Int) == 0) = false := ieqF (by omega)
      have C := tz32_c x _ hxl hx0 hT2.out
      have hv := v2_limb hz.out hxv hx0
      obtain ⟨z, Ez⟩ : ∃ z, z = v2 x := ⟨_, rfl⟩
      have hzl : z < 32 := by
        have h3 := v2_lt hx0
        rw [← Ez] at h3
        exact (Nat.pow_lt_pow_iff_right (by decide : 1 < 2)).1 (Nat.lt_of_le_of_lt h3 hxl)
      rw [← Ez] at C hv
      replace Ez := Lib.hid Ez
      replace hv := Lib.hid hv
      replace hxv := Lib.hid hxv
      replace C := Lib.hid C
      have hkl : k ≤ 1048576 := by omega
      go_wp2_with (fail)
      refine C.out.mono ?_
      rintro e w' ⟨rfl, rfl⟩
      go_wp2_with (fail)
      go_ret
      exact ⟨ret_int (by rw [hv.out]; omega), hb⟩
theorem dm_v2 (a : Int) : ival (sg a) (mg a / 2 ^ v2 (mg a)) = dm a := by
  have h1 := (dm_spec a).1
  have hp : (0 : Int) < 2 ^ v2 (mg a) := Int.pow_pos (by decide)
  have h4 : mg a = mg (dm a) * 2 ^ v2 (mg a) := by
    have := congrArg mg h1
    rw [mg_mul] at this
    have e : mg ((2 : Int) ^ v2 (mg a)) = 2 ^ v2 (mg a) := by unfold mg; rw [Int.natAbs_pow]; rfl
    rw [e] at this; exact this
  have h5 : mg a / 2 ^ v2 (mg a) = mg (dm a) := Nat.div_eq_of_eq_mul_left (Nat.two_pow_pos _) h4
  rw [h5]
  have h6 : sg a = sg (dm a) := by
    unfold sg
    rw [decide_eq_decide]
    constructor
    · intro h
      rcases Int.lt_or_le (dm a) 0 with k | k
      · exact k
      · have := Int.mul_nonneg k (Int.le_of_lt hp); omega
    · intro h
      have := Int.mul_neg_of_neg_of_pos h hp; omega
  rw [h6, ival_sm]
end Go.Proofs.YtacjfpibilolnaaGreatDoor

/- Dyadic numbers, walked: Make. -/
set_option linter.unusedVariables false
set_option linter.unusedSimpArgs false
namespace Go.Proofs.YtacjfpibilolnaaGreatDoor
open Go.RowKit Go.Shelf
attribute [local go_sem] max2_i min2_i max_two min_two

theorem dmn_zero : dmn 0 = 0 := rfl
theorem dex_zero : dex 0 = 0 := rfl
theorem mg0 : mg 0 = 0 := rfl
theorem sg0 : sg 0 = false := rfl
theorem v2_le (a : Nat) : v2 a ≤ 32 * nl a := by
  by_cases h : a = 0
  · subst h; exact Nat.zero_le _
  · have h1 := v2_lt h
    have h2 := nl_lt a
    rw [← pow32] at h2
    exact Nat.le_of_lt ((Nat.pow_lt_pow_iff_right (by decide : 1 < 2)).1 (Nat.lt_of_le_of_lt h1 h2))
theorem field_mag (b : Bool) (A : Option Addr) (n c : Nat) (W : World) : (Instr.field 24 (.agg #[.bool b, .slice A n c]) 1).run Tryz.prog W = .ok (.slice A n c) W := by rfl
theorem shf_down {a : Nat} {n : Nat} (h : 0 < n) : mg (shf (a : Int) (-(n : Int))) = a / 2 ^ n := by
  unfold shf; rw [if_neg (by omega), Int.neg_neg, Int.toNat_natCast]
  have : ((2 : Int) ^ n) = ((2 ^ n : Nat) : Int) := by rw [Int.natCast_pow]; rfl
  rw [this, ← Int.natCast_ediv, mg_nat]
theorem dmake_0 (aA : Option Addr) (ac : Nat) (a : Int) (e : Int) (w : World) (ha : NatV w aA ac (mg a))  (h0 : a = 0) :
    Calls Tryz.prog 24 #[.agg #[.bool (sg a), .slice aA (nl (mg a)) ac], .int .i64 e] w (RetD w (dval a e)) := by
  have t1 : ((nl (mg a) : Int) == 0) = true := ieqT (by rw [h0, mg0, nl_zero]; rfl)
  have hq : dval a e = 0 := by rw [h0]; exact dval_zero e
  replace h0 := Lib.hid h0
  replace hq := Lib.hid hq
  obtain ⟨hb1, Ra, Rr⟩ := bx2 w #[.bool (sg a), .slice aA (nl (mg a)) ac] 24 #[.bool false, .slice none 0 0, .int .i64 0] 28
  replace ha := ha.below hb1
  have HBT := hb1
  clear hb1
  have qa0 := Ra.c (i := 0) rfl
  have qa1 := Ra.c (i := 1) rfl
  have qr0 := Rr.c (i := 0) rfl
  have qr1 := Rr.c (i := 1) rfl
  have qr2 := Rr.c (i := 2) rfl
  have fzr0 := Rr.f (i := 0)
  have fzr1 := Rr.f (i := 1)
  have fzr2 := Rr.f (i := 2)
  go_enter Tryz.func24, Tryz.ntmps24
  go_wp2_with (fail)
  have e0 := Rr.c (i := 0) rfl
  have e1 := Rr.c (i := 1) rfl
  have e2 := Rr.c (i := 2) rfl
  refine bodyPost_ret (v := .agg #[.bool false, .slice none 0 0, .int .i64 0]) (by simp [results, Tryz.results24, go_sem, e0, e1, e2]) rfl ?_
  rw [hq.out]
  exact ⟨none, 0, by rw [dmn_zero, dex_zero, mg0, sg0, nl_zero], by rw [dmn_zero, mg0]; exact ⟨.inl (by simp [vals, limbs_zero]), by rw [nl_zero]; exact Nat.le_refl _, by decide⟩, HBT⟩
theorem dmake_odd (aA : Option Addr) (ac : Nat) (a : Int) (e : Int) (w : World) (ha : NatV w aA ac (mg a))  (hT : Tab w) (la : nl (mg a) ≤ 262144) (le : -1073741824 ≤ e ∧ e ≤ 1073741824) (h0 : a ≠ 0) (hv : v2 (mg a) = 0) :
    Calls Tryz.prog 24 #[.agg #[.bool (sg a), .slice aA (nl (mg a)) ac], .int .i64 e] w (RetD w (dval a e)) := by
  have t1 : ((nl (mg a) : Int) == 0) = false := ieqF (by have := nl_pos.2 (show mg a ≠ 0 from fun h => h0 (mg_zero.1 h)); omega)
  have hf := make_form a e
  have hd : dm a = a := by unfold dm; rw [hv, Int.pow_zero, Int.ediv_one]
  have he : de a e = e := by unfold de; rw [if_neg h0, hv]; exact Int.add_zero e
  rw [hd, he] at hf
  replace hf := Lib.hid hf
  have CZ := fun (W : World) (h1 : NatV W aA ac (mg a)) (h2 : Tab W) => zeros_c aA ac a W h1 h2 (by omega) h0
  rw [hv] at CZ
  replace CZ := Lib.hid CZ
  replace hd := Lib.hid hd
  replace he := Lib.hid he
  replace hv := Lib.hid hv
  obtain ⟨hb1, Ra, Rr⟩ := bx2 w #[.bool (sg a), .slice aA (nl (mg a)) ac] 24 #[.bool false, .slice none 0 0, .int .i64 0] 28
  replace ha := ha.below hb1
  replace hT := hT.below hb1
  have HBT := hb1
  clear hb1
  have qa0 := Ra.c (i := 0) rfl
  have qa1 := Ra.c (i := 1) rfl
  have qr0 := Rr.c (i := 0) rfl
  have qr1 := Rr.c (i := 1) rfl
  have qr2 := Rr.c (i := 2) rfl
  go_enter Tryz.func24, Tryz.ntmps24
  go_wp2_with (fail)
  refine (Calls.mono (CZ.out _ ha hT) ?_)
  rintro e W2 ⟨rfl, hb2⟩
  replace ha := ha.below hb2
  replace hT := hT.below hb2
  replace Ra := Ra.below hb2
  replace qa0 := cbl hb2 qa0
  replace qa1 := cbl hb2 qa1
  replace Rr := Rr.below hb2
  replace qr0 := cbl hb2 qr0
  replace qr1 := cbl hb2 qr1
  replace qr2 := cbl hb2 qr2
  replace HBT := Below.cons HBT hb2
  clear hb2
  have fzr0 := Rr.f (i := 0)
  have fzr1 := Rr.f (i := 1)
  have fzr2 := Rr.f (i := 2)
  go_wp2_with (fail)
  have RS := Rr.store3 (.bool (sg a)) (.slice aA (nl (mg a)) ac) (.int .i64 e)
  have e0 := RS.c (i := 0) rfl
  have e1 := RS.c (i := 1) rfl
  have e2 := RS.c (i := 2) rfl
  refine bodyPost_ret (v := .agg #[.bool (sg a), .slice aA (nl (mg a)) ac, .int .i64 e]) (by simp [results, Tryz.results24, go_sem, e0, e1, e2]) rfl ?_
  exact ⟨aA, ac, (by rw [← hf.out.1, ← hf.out.2]), by rw [← hf.out.1]; exact (Rr.keep3 (nuB rfl) ha), (Below.store3 HBT (by first | exact Nat.le_refl _ | omega))⟩
theorem dmake_even (aA : Option Addr) (ac : Nat) (a : Int) (e : Int) (w : World) (ha : NatV w aA ac (mg a))  (hT : Tab w) (la : nl (mg a) ≤ 262144) (le : -1073741824 ≤ e ∧ e ≤ 1073741824) (h0 : a ≠ 0) (hv : 0 < v2 (mg a)) :
    Calls Tryz.prog 24 #[.agg #[.bool (sg a), .slice aA (nl (mg a)) ac], .int .i64 e] w (RetD w (dval a e)) := by
  have t1 : ((nl (mg a) : Int) == 0) = false := ieqF (by have := nl_pos.2 (show mg a ≠ 0 from fun h => h0 (mg_zero.1 h)); omega)
  have hf := make_form a e
  have hd := dm_v2 a
  have hvl := v2_le (mg a)
  have CZ := fun (W : World) (h1 : NatV W aA ac (mg a)) (h2 : Tab W) => zeros_c aA ac a W h1 h2 (by omega) h0
  obtain ⟨n, En⟩ : ∃ n, n = v2 (mg a) := ⟨_, rfl⟩
  have he : de a e = e + n := by unfold de; rw [if_neg h0, En]
  rw [← En] at CZ hv hd hvl
  obtain ⟨x, Ex⟩ : ∃ x, x = e + (n : Int) := ⟨_, rfl⟩
  have Ix : e + (n : Int) = x := Ex.symm
  have t2 : ((n : Int) == 0) = false := ieqF (by omega)
  have Wn : IntKind.i64.wrap (-(n : Int)) = -(n : Int) := IntWalk.i64_in _ (by omega)
  have Wx : IntKind.i64.wrap x = x := IntWalk.i64_in _ (by omega)
  rw [he, ← Ex] at hf
  replace CZ := Lib.hid CZ
  replace hd := Lib.hid hd
  replace he := Lib.hid he
  replace hf := Lib.hid hf
  replace Ex := Lib.hid Ex
  replace En := Lib.hid En
  have hfm := field_mag
  obtain ⟨hb1, Ra, Rr⟩ := bx2 w #[.bool (sg a), .slice aA (nl (mg a)) ac] 24 #[.bool false, .slice none 0 0, .int .i64 0] 28
  replace ha := ha.below hb1
  replace hT := hT.below hb1
  have HBT := hb1
  clear hb1
  have qa0 := Ra.c (i := 0) rfl
  have qa1 := Ra.c (i := 1) rfl
  have qr0 := Rr.c (i := 0) rfl
  have qr1 := Rr.c (i := 1) rfl
  have qr2 := Rr.c (i := 2) rfl
  go_enter Tryz.func24, Tryz.ntmps24
  go_wp2_with (fail)
  refine (Calls.mono (CZ.out _ ha hT) ?_)
  rintro e W2 ⟨rfl, hb2⟩
  replace ha := ha.below hb2
  replace hT := hT.below hb2
  replace Ra := Ra.below hb2
  replace qa0 := cbl hb2 qa0
  replace qa1 := cbl hb2 qa1
  replace Rr := Rr.below hb2
  replace qr0 := cbl hb2 qr0
  replace qr1 := cbl hb2 qr1
  replace qr2 := cbl hb2 qr2
  replace HBT := Below.cons HBT hb2
  clear hb2
  go_wp2_with (fail)
  have hd3 := drb (W2)
  replace ha := ha.below hd3
  replace hT := hT.below hd3
  replace Ra := Ra.below hd3
  replace qa0 := cbl hd3 qa0
  replace qa1 := cbl hd3 qa1
  replace Rr := Rr.below hd3
  replace qr0 := cbl hd3 qr0
  replace qr1 := cbl hd3 qr1
  replace qr2 := cbl hd3 qr2
  replace HBT := Below.cons HBT hd3
  clear hd3
  obtain ⟨y, Ey⟩ : ∃ zq : Int, zq = ival false (mg a) := ⟨_, rfl⟩
  have Ny : nl (mg y) ≤ 1048576 := by rw [Ey, mg_ival]; omega
  have C3_0 := fun (W : World) (h1 : NatV W aA ac (mg a)) => imake_c false aA ac (mg a) W h1 (by omega)
  simp only [← Ey] at C3_0
  replace Ey := Lib.hid Ey
  replace C3_0 := Lib.hid C3_0
  obtain ⟨u, Eu⟩ : ∃ zq : Int, zq = shf y (-(n : Int)) := ⟨_, rfl⟩
  have Mu : mg u = mg a / 2 ^ n := by rw [Eu, Ey.out, ival_false]; exact shf_down hv
  have Nu : nl (mg u) ≤ 1048576 := by rw [Mu]; have := nl_div (mg a) (2 ^ n); omega
  replace Mu := Lib.hid Mu
  have C3_1 := fun (W : World) (A : Option Addr) (c : Nat) (h1 : NatV W A c (mg y)) => ishift_c A c y (-(n : Int)) W h1 Ny (by omega)
  simp only [← Eu] at C3_1
  replace Eu := Lib.hid Eu
  replace C3_1 := Lib.hid C3_1
  obtain ⟨z, Ez⟩ : ∃ zq : Int, zq = ival (sg a) (mg u) := ⟨_, rfl⟩
  have C3_2 := fun (W : World) (A : Option Addr) (c : Nat) (h1 : NatV W A c (mg u)) => imake_c (sg a) A c (mg u) W h1 (by omega)
  simp only [← Ez] at C3_2
  replace Ez := Lib.hid Ez
  replace C3_2 := Lib.hid C3_2
  go_region_held3 (fun W => W.cell? ⟨w.heap.size, 0, none⟩ = some (.bool (sg a)) ∧ W.cell? ⟨w.heap.size, 1, none⟩ = some (.slice aA (nl (mg a)) ac))
    (first
      | exact ⟨qa0, qa1⟩
      | exact ⟨qa0_4, qa1_4⟩
      | exact ⟨qa0_5, qa1_5⟩
      | exact ⟨qa0_6, qa1_6⟩
      | exact ⟨((Ra_6.other3 (by simp <;> omega)).c (i := 0) rfl), ((Ra_6.other3 (by simp <;> omega)).c (i := 1) rfl)⟩
      | go_keep)
    (first
      | (go_at_call 64; (with_reducible refine (C3_0.out _ ha).mono ?_); rintro e W4 ⟨Xy, cy, rfl, hy, hb4⟩; have ha_4 := ha.below hb4; have hT_4 := hT.below hb4; have Ra_4 := Ra.below hb4; have qa0_4 := cbl hb4 qa0; have qa1_4 := cbl hb4 qa1; have Rr_4 := Rr.below hb4; have qr0_4 := cbl hb4 qr0; have qr1_4 := cbl hb4 qr1; have qr2_4 := cbl hb4 qr2; have HBT_4 := Below.cons HBT hb4)
      | (go_at_call 63; (with_reducible refine (C3_1.out _ _ _ hy).mono ?_); rintro e W5 ⟨Xu, cu, rfl, hu, hb5⟩; have ha_5 := ha_4.below hb5; have hT_5 := hT_4.below hb5; have Ra_5 := Ra_4.below hb5; have qa0_5 := cbl hb5 qa0_4; have qa1_5 := cbl hb5 qa1_4; have Rr_5 := Rr_4.below hb5; have qr0_5 := cbl hb5 qr0_4; have qr1_5 := cbl hb5 qr1_4; have qr2_5 := cbl hb5 qr2_4; have hy_5 := hy.below hb5; have HBT_5 := Below.cons HBT_4 hb5)
      | (go_at_call 64; (with_reducible refine (C3_2.out _ _ _ hu).mono ?_); rintro e W6 ⟨Xz, cz, rfl, hz, hb6⟩; have ha_6 := ha_5.below hb6; have hT_6 := hT_5.below hb6; have Ra_6 := Ra_5.below hb6; have qa0_6 := cbl hb6 qa0_5; have qa1_6 := cbl hb6 qa1_5; have Rr_6 := Rr_5.below hb6; have qr0_6 := cbl hb6 qr0_5; have qr1_6 := cbl hb6 qr1_5; have qr2_6 := cbl hb6 qr2_5; have hy_6 := hy_5.below hb6; have hu_6 := hu.below hb6; have HBT_6 := Below.cons HBT_5 hb6; have fz0 := Rr_6.f (i := 0); have fz1 := Rr_6.f (i := 1); have fz2 := Rr_6.f (i := 2)))
  all_goals (try go_wp2_with (fail))
  have eqz : z = dmn (dval a e) := by rw [Ez.out, Mu.out, hd.out, hf.out.1]
  have hx : x = dex (dval a e) := hf.out.2
  have RS := Rr_6.store3 (.bool (sg z)) (.slice Xz (nl (mg z)) cz) (.int .i64 x)
  have e0 := RS.c (i := 0) rfl
  have e1 := RS.c (i := 1) rfl
  have e2 := RS.c (i := 2) rfl
  refine bodyPost_ret (v := .agg #[.bool (sg z), .slice Xz (nl (mg z)) cz, .int .i64 x]) (by simp [results, Tryz.results24, go_sem, e0, e1, e2]) rfl ?_
  exact ⟨Xz, cz, (by rw [eqz, hx]), by rw [← eqz]; exact (Rr_6.keep3 (nuB rfl) hz), (Below.store3 HBT_6 (by first | exact Nat.le_refl _ | omega))⟩
theorem dmake_c (aA : Option Addr) (ac : Nat) (a : Int) (e : Int) (w : World) (ha : NatV w aA ac (mg a)) (hT : Tab w) (la : nl (mg a) ≤ 262144) (le : -1073741824 ≤ e ∧ e ≤ 1073741824) :
    Calls Tryz.prog 24 #[.agg #[.bool (sg a), .slice aA (nl (mg a)) ac], .int .i64 e] w (RetD w (dval a e)) := by
  by_cases h0 : a = 0
  · exact dmake_0 aA ac a e w ha h0
  · by_cases hv : v2 (mg a) = 0
    · exact dmake_odd aA ac a e w ha hT la le h0 hv
    · exact dmake_even aA ac a e w ha hT la le h0 (by omega)
end Go.Proofs.YtacjfpibilolnaaGreatDoor
