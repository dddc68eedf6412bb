/- The layer of naturals: sums, comparisons, differences. -/
import Derived.Test.YtacjfpibilolnaaGreatDoorSC04
set_option maxRecDepth 100000
set_option maxHeartbeats 4000000
set_option linter.unusedVariables false
set_option linter.unusedSimpArgs false
namespace Go.Proofs.YtacjfpibilolnaaGreatDoor
open Go.RowKit Go.Shelf

theorem val_take_any (l : List Nat) (k : Nat) : val (l.take (k + 1)) = val (l.take k) + 4294967296 ^ k * gl l k := by
  by_cases h : k < l.length
  · exact val_take_succ l k h
  · rw [List.take_of_length_le (by omega), List.take_of_length_le (by omega), gl_of_le (by omega)]; simp

def stA (x y c : Nat) : Nat × Nat := ((x + y + c) % 4294967296, (x + y + c) / 4294967296)
def stS (x y c : Nat) : Nat × Nat := (dif x y c, brw x y c)
theorem stepA : StepC 129 stA :=
  ⟨enters_of Tryz.func129 (by kernel_rfl) rfl, fun x y c hx hy hc => ⟨Nat.mod_lt _ (by decide), by show (x + y + c) / 4294967296 ≤ 1; omega⟩, fun x y c w hx hy hc => add32_c x y c w hx hy hc⟩
theorem runA (a b : List Nat) (n : Nat) : val (runS stA a b (List.range n)).1 + 4294967296 ^ n * (runS stA a b (List.range n)).2 = val (a.take n) + val (b.take n) := by
  induction n with
  | zero => simp [runS, val]
  | succ n ih =>
    rw [List.range_succ, runS_snoc, val_take_any, val_take_any, val_snoc, runS_len, List.length_range]
    simp only [stA]
    have e := Nat.div_add_mod (gl a n + gl b n + (runS stA a b (List.range n)).2) 4294967296
    generalize (gl a n + gl b n + (runS stA a b (List.range n)).2) / 4294967296 = q at *
    generalize (gl a n + gl b n + (runS stA a b (List.range n)).2) % 4294967296 = r at *
    generalize (runS stA a b (List.range n)).2 = c at *
    rw [Nat.pow_succ]
    grind
theorem runS_sub {fs : Nat} (a b : List Nat) (ha : Lim a) (hb : Lim b) (hs : StepC fs stS) (n : Nat) : val (runS stS a b (List.range n)).1 + val (b.take n) = val (a.take n) + 4294967296 ^ n * (runS stS a b (List.range n)).2 := by
  induction n with
  | zero => simp [runS, val]
  | succ n ih =>
    rw [List.range_succ, runS_snoc, val_take_any, val_take_any, val_snoc, runS_len, List.length_range]
    simp only [stS]
    have e := dif_eq (ha.gl n) (hb.gl n) (runS_ok hs ha hb (List.range n)).2
    generalize dif (gl a n) (gl b n) (runS stS a b (List.range n)).2 = q at *
    generalize brw (gl a n) (gl b n) (runS stS a b (List.range n)).2 = r at *
    generalize (runS stS a b (List.range n)).2 = c at *
    rw [Nat.pow_succ]
    grind
theorem stepS : StepC 133 stS :=
  ⟨enters_of Tryz.func133 (by kernel_rfl) rfl, fun x y c hx hy hc => ⟨dif_lt _ _ _, brw_le _ _ _⟩, fun x y c w hx hy hc => sub32_c x y c w hx hy hc⟩
theorem take_limbs {n k : Nat} (h : nl n ≤ k) : val ((limbs n).take k) = n := by rw [List.take_of_length_le h, val_limbs]

theorem add_val (a b m : Nat) (hm : max (nl a) (nl b) ≤ m) : val (runS stA (limbs a) (limbs b) (List.range (m + 1))).1 = a + b := by
  have e := runA (limbs a) (limbs b) (m + 1)
  rw [take_limbs (by omega), take_limbs (by omega)] at e
  have h1 : a < 4294967296 ^ m := nl_le.1 (by omega)
  have h2 : b < 4294967296 ^ m := nl_le.1 (by omega)
  rw [Nat.pow_succ] at e
  generalize 4294967296 ^ m = p at *
  generalize (runS stA (limbs a) (limbs b) (List.range (m + 1))).2 = q at *
  have h3 : q = 0 := by
    by_cases hq : q = 0
    · exact hq
    · have := Nat.mul_le_mul_left (p * 4294967296) (show 1 ≤ q by omega)
      omega
  rw [h3, Nat.mul_zero, Nat.add_zero] at e
  exact e
theorem sub_val (a b : Nat) (h : b ≤ a) : val (runS stS (limbs a) (limbs b) (List.range (nl a))).1 = a - b := by
  have e := runS_sub (limbs a) (limbs b) (lim_limbs a) (lim_limbs b) stepS (nl a)
  rw [take_limbs (Nat.le_refl _), take_limbs (nl_mono h)] at e
  have hl := val_lt (runS_ok stepS (lim_limbs a) (lim_limbs b) (List.range (nl a))).1
  rw [runS_len, List.length_range] at hl
  generalize 4294967296 ^ nl a = p at *
  generalize (runS stS (limbs a) (limbs b) (List.range (nl a))).2 = q at *
  have h3 : q = 0 := by
    by_cases hq : q = 0
    · exact hq
    · have := Nat.mul_le_mul_left p (show 1 ≤ q by omega)
      omega
  subst h3
  simp only [Nat.mul_zero, Nat.add_zero] at e
  omega

attribute [local go_sem] max2_i min2_i max_two min_two

theorem add_c (A : Option Addr) (c a : Nat) (B : Option Addr) (d b : Nat) (w : World) (hA : NatV w A c a) (hB : NatV w B d b) (ha : nl a ≤ 1073741824) (hb : nl b ≤ 1073741824) :
    Calls Tryz.prog 107 #[.slice A (nl a) c, .slice B (nl b) d] w (RetN w (a + b)) := by
  have hc := all_c _ _ stepA A (nl a) c (limbs a) B (nl b) d (limbs b) (max (nl a) (nl b) + 1) w (by omega) rfl rfl (by omega) (by omega) hA.rd hB.rd (lim_limbs a) (lim_limbs b)
  rw [add_val a b _ (Nat.le_refl _)] at hc
  have HC := Lib.hid hc
  clear hc
  go_enter Tryz.func107, Tryz.ntmps107
  go_wp2_with (fail)
  rw [show (max (nl a : Int) (nl b : Int) + 1) = ((max (nl a) (nl b) + 1 : Nat) : Int) by omega]
  refine HC.out.mono ?_
  rintro e w1 ⟨X, cx, rfl, h1, h2⟩
  go_wp2_with (fail)
  go_ret
  exact ⟨X, cx, rfl, h1, h2⟩

def cmpN (a b : Nat) : Int := if a < b then -1 else if b < a then 1 else 0
theorem cmpN_lt {a b : Nat} (h : a < b) : cmpN a b = -1 := by simp [cmpN, h]
theorem cmpN_gt {a b : Nat} (h : b < a) : cmpN a b = 1 := by
  unfold cmpN; rw [if_neg (by omega), if_pos h]
theorem cmpN_eq {a b : Nat} (h : a = b) : cmpN a b = 0 := by simp [cmpN, h]
theorem cmpN_neg {a b : Nat} : cmpN a b < 0 ↔ a < b := by unfold cmpN; split <;> (try split) <;> omega
theorem cmpN_zero {a b : Nat} : cmpN a b = 0 ↔ a = b := by unfold cmpN; split <;> (try split) <;> omega

theorem split_at (l : List Nat) (k : Nat) (h : k < l.length) : val l = val (l.take k) + 4294967296 ^ k * gl l k + 4294967296 ^ (k + 1) * val (l.drop (k + 1)) := by
  conv => lhs; rw [← List.take_append_drop (k + 1) l]
  rw [val_append, val_take_succ l k h, List.length_take, Nat.min_eq_left (by omega)]
theorem drop_eq {l m : List Nat} (hl : l.length = m.length) {k : Nat} (h : ∀ j, k ≤ j → j < l.length → gl l j = gl m j) : l.drop k = m.drop k := by
  apply List.ext_getElem
  · simp [hl]
  · intro i h1 h2
    have h1' : k + i < l.length := by simp at h1; omega
    have := h (k + i) (by omega) h1'
    rw [gl_get h1', gl_get (by omega)] at this
    simpa using this
theorem val_lt_of {l m : List Nat} (hl : l.length = m.length) (ha : Lim l) {k : Nat} (hk : k < l.length) (h : ∀ j, k + 1 ≤ j → j < l.length → gl l j = gl m j) (hlt : gl l k < gl m k) : val l < val m := by
  have e1 := split_at l k hk
  have e2 := split_at m k (by omega)
  rw [drop_eq hl h] at e1
  have h1 := val_lt (ha.take k)
  rw [List.length_take, Nat.min_eq_left (by omega)] at h1
  have h2 : 4294967296 ^ k * gl l k + 4294967296 ^ k ≤ 4294967296 ^ k * gl m k := by
    rw [← Nat.mul_succ]; exact Nat.mul_le_mul_left _ hlt
  omega
theorem val_eq_of {l m : List Nat} (hl : l.length = m.length) (h : ∀ j, 0 ≤ j → j < l.length → gl l j = gl m j) : l = m := by
  have := drop_eq hl (k := 0) h
  simpa using this

theorem _root_.Go.RowKit.Below.drewN {B : Nat} {w W : World} (h : Below B w W) (n : Nat) : Below B w (W.drewN n) := ⟨h.os, h.tape, h.output, h.size, h.block⟩

theorem cmp_c (A : Option Addr) (c a : Nat) (B : Option Addr) (d b : Nat) (w : World) (hA : NatV w A c a) (hB : NatV w B d b) (ha : nl a ≤ 1099511627776) (hb : nl b ≤ 1099511627776) :
    Calls Tryz.prog 106 #[.slice A (nl a) c, .slice B (nl b) d] w fun e w' => e = .returned (.int .i64 (cmpN a b)) ∧ Below w.heap.size w w' := by
  by_cases hl : nl a = nl b
  · have fin : ∀ k, k < nl a → (∀ j, k + 1 ≤ j → j < nl a → gl (limbs a) j = gl (limbs b) j) → (gl (limbs a) k < gl (limbs b) k → cmpN a b = -1) ∧ (gl (limbs b) k < gl (limbs a) k → cmpN a b = 1) := fun k hk hj =>
      ⟨fun h => cmpN_lt (by have := val_lt_of (l := limbs a) (m := limbs b) hl (lim_limbs a) hk hj h; rwa [val_limbs, val_limbs] at this),
       fun h => cmpN_gt (by have := val_lt_of (l := limbs b) (m := limbs a) hl.symm (lim_limbs b) (k := k) (by unfold nl at *; omega) (fun j h1 h2 => (hj j h1 (by unfold nl at *; omega)).symm) h; rwa [val_limbs, val_limbs] at this)⟩
    have fin0 : (∀ j, 0 ≤ j → j < nl a → gl (limbs a) j = gl (limbs b) j) → cmpN a b = 0 := fun h => cmpN_eq (limbs_inj (val_eq_of hl h))
    have FIN := Lib.hid fin
    have FIN0 := Lib.hid fin0
    have hb1 : ((nl a : Int) != (nl b : Int)) = false := ineF (by omega)
    have hb2 : (nl a != nl b) = false := by simp [hl]
    have HL := Lib.hid hl
    clear fin fin0 hl
    go_enter Tryz.func106, Tryz.ntmps106
    go_wp2_with (fail)
    go_loopw [5] (fun i wr => ∃ k : Nat, i = .int .i64 ((k : Int) - 1) ∧ k ≤ nl a ∧ (∀ j, k ≤ j → j < nl a → gl (limbs a) j = gl (limbs b) j) ∧ ∃ m, wr = w.drewN m) (fun i wr => (intOf i + 1).toNat)
    case atStart => exact ⟨nl a, rfl, Nat.le_refl _, fun j h1 h2 => by omega, 0, rfl⟩
    case round =>
      obtain ⟨k, rfl, hk, hj, m, rfl⟩ := hrel
      have HJ := Lib.hid hj
      clear hj
      cases k with
      | zero =>
        go_wp2_with (fail)
        go_ret
        exact ⟨ret_int (FIN0.out HJ.out).symm, (Below.refl _ _).drewN _⟩
      | succ k =>
        rw [show (((k + 1 : Nat) : Int) - 1) = (k : Int) by omega]
        obtain ⟨ad, rfl, hcA⟩ := hA.rd.get k hk
        obtain ⟨bd, rfl, hcB⟩ := hB.rd.get k (by have := HL.out; unfold nl at *; omega)
        have i1 : k < nl a := hk
        have i2 : k < nl b := by have := HL.out; omega
        have hF := FIN.out k hk (fun j h1 h2 => HJ.out j h1 h2)
        obtain ⟨x, hx⟩ : ∃ x, gl (limbs a) k = x := ⟨_, rfl⟩
        obtain ⟨y, hy⟩ : ∃ y, gl (limbs b) k = y := ⟨_, rfl⟩
        rw [hx] at hcA
        rw [hy] at hcB
        rw [hx, hy] at hF
        have HF := Lib.hid hF
        have HX := Lib.hid hx
        have HY := Lib.hid hy
        clear hF hx hy
        rcases Nat.lt_trichotomy x y with h | h | h
        · have b1 : decide ((x : Int) < (y : Int)) = true := by simp; omega
          have b2 : decide (x < y) = true := by simp; omega
          have HV := Lib.hid (HF.out.1 h)
          clear h
          go_wp2_with (fail)
          go_quiet (fail)
          go_wp2_with (fail)
          go_ret
          exact ⟨ret_int HV.out.symm, ((Below.refl _ _).drewN _).drewN _⟩
        · have b1 : decide ((x : Int) < (y : Int)) = false := by simp; omega
          have b2 : decide (x < y) = false := by simp; omega
          have b3 : decide ((y : Int) < (x : Int)) = false := by simp; omega
          have b4 : decide (y < x) = false := by simp; omega
          have HV := Lib.hid h
          clear h
          go_wp2_with (fail)
          go_quiet (fail)
          go_wp2_with (fail)
          go_quiet (fail)
          go_wp2_with (fail)
          go_roundw
          case rel => exact ⟨k, by go_num, by omega, fun j h1 h2 => by
            by_cases e : j = k
            · rw [e, HX.out, HY.out, HV.out]
            · exact HJ.out j (by omega) h2, _, World.drewN_drewN .. ▸ World.drewN_drewN ..⟩
          case measure => simp [intOf] <;> omega
        · have b1 : decide ((x : Int) < (y : Int)) = false := by simp; omega
          have b2 : decide (x < y) = false := by simp; omega
          have b3 : decide ((y : Int) < (x : Int)) = true := by simp; omega
          have b4 : decide (y < x) = true := by simp; omega
          have HV := Lib.hid (HF.out.2 h)
          clear h
          go_wp2_with (fail)
          go_quiet (fail)
          go_wp2_with (fail)
          go_quiet (fail)
          go_wp2_with (fail)
          go_ret
          exact ⟨ret_int HV.out.symm, (((Below.refl _ _).drewN _).drewN _).drewN _⟩
  · have hb1 : ((nl a : Int) != (nl b : Int)) = true := ineT (by omega)
    have hb2 : (nl a != nl b) = true := by simp [hl]
    go_enter Tryz.func106, Tryz.ntmps106
    go_wp2_with (fail)
    go_ret
    refine ⟨ret_int ?_, Below.refl _ _⟩
    rcases Nat.lt_or_ge (nl a) (nl b) with h | h
    · rw [cmpN_lt (show a < b by have := lt_nl.1 h; have := nl_lt a; omega)]; omega
    · rw [cmpN_gt (show b < a by have := lt_nl.1 (show nl b < nl a by omega); have := nl_lt b; omega)]; omega

theorem sub_c (A : Option Addr) (c a : Nat) (B : Option Addr) (d b : Nat) (w : World) (hA : NatV w A c a) (hB : NatV w B d b) (ha : nl a ≤ 1073741824) (hb : nl b ≤ 1073741824) (h : b ≤ a) :
    Calls Tryz.prog 119 #[.slice A (nl a) c, .slice B (nl b) d] w fun e w' => ∃ X cx, e = .returned (.tuple #[.slice X (nl (a - b)) cx, .bool true]) ∧ NatV w' X cx (a - b) ∧ Below w.heap.size w w' := by
  have hb1 : decide (cmpN a b < 0) = false := by rw [decide_eq_false_iff_not, cmpN_neg]; omega
  go_enter Tryz.func119, Tryz.ntmps119
  go_wp2_with (fail)
  refine (cmp_c A c a B d b w hA hB (by omega) (by omega)).mono ?_
  rintro e w1 ⟨rfl, hb1⟩
  have hA1 := hA.below hb1
  have hB1 := hB.below hb1
  have hc := all_c _ _ stepS A (nl a) c (limbs a) B (nl b) d (limbs b) (nl a) w1 (by omega) rfl rfl (by omega) (by omega) hA1.rd hB1.rd (lim_limbs a) (lim_limbs b)
  rw [sub_val a b h] at hc
  go_wp2_with (fail)
  refine hc.mono ?_
  rintro e w2 ⟨X, cx, rfl, h1, h2⟩
  go_wp2_with (fail)
  go_ret2
  exact ⟨X, cx, rfl, h1, hb1.trans (h2.mono hb1.size)⟩
end Go.Proofs.YtacjfpibilolnaaGreatDoor
