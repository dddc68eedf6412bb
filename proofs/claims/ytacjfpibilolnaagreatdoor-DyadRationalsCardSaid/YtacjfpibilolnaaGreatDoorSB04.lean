/- The layer of naturals: sums, comparisons, differences. -/
import Derived.Test.YtacjfpibilolnaaGreatDoorSB03
import Derived.Deep.RegionHeld3
set_option maxRecDepth 100000
set_option maxHeartbeats 4000000
set_option linter.unusedVariables false
set_option linter.unusedSimpArgs false
namespace Go.Proofs.YtacjfpibilolnaaGreatDoor
open Go.RowKit Go.Shelf

theorem val_take_any (l : List Nat) (k : Nat) : val (l.take (k + 1)) = val (l.take k) + 4294967296 ^ k * gl l k := by
  by_cases h : k < l.length
  · exact val_take_succ l k h
  · rw [List.take_of_length_le (by omega), List.take_of_length_le (by omega), gl_of_le (by omega)]; simp

def stA (x y c : Nat) : Nat × Nat := ((x + y + c) % 4294967296, (x + y + c) / 4294967296)
def stS (x y c : Nat) : Nat × Nat := (dif x y c, brw x y c)
theorem stepA : StepC 129 stA :=
  ⟨enters_of Tryz.func129 (by kernel_rfl) rfl, fun x y c hx hy hc => ⟨Nat.mod_lt _ (by decide), by show (x + y + c) / 4294967296 ≤ 1; omega⟩, fun x y c w hx hy hc => add32_c x y c w hx hy hc⟩
theorem runA (a b : List Nat) (n : Nat) : val (runS stA a b (List.range n)).1 + 4294967296 ^ n * (runS stA a b (List.range n)).2 = val (a.take n) + val (b.take n) := by
  induction n with
  | zero => simp [runS, val]
  | succ n ih =>
    rw [List.range_succ, runS_snoc, val_take_any, val_take_any, val_snoc, runS_len, List.length_range]
    simp only [stA]
    have e := Nat.div_add_mod (gl a n + gl b n + (runS stA a b (List.range n)).2) 4294967296
    generalize (gl a n + gl b n + (runS stA a b (List.range n)).2) / 4294967296 = q at *
    generalize (gl a n + gl b n + (runS stA a b (List.range n)).2) % 4294967296 = r at *
    generalize (runS stA a b (List.range n)).2 = c at *
    rw [Nat.pow_succ]
    grind
theorem runS_sub {fs : Nat} (a b : List Nat) (ha : Lim a) (hb : Lim b) (hs : StepC fs stS) (n : Nat) : val (runS stS a b (List.range n)).1 + val (b.take n) = val (a.take n) + 4294967296 ^ n * (runS stS a b (List.range n)).2 := by
  induction n with
  | zero => simp [runS, val]
  | succ n ih =>
    rw [List.range_succ, runS_snoc, val_take_any, val_take_any, val_snoc, runS_len, List.length_range]
    simp only [stS]
    have e := dif_eq (ha.gl n) (hb.gl n) (runS_ok hs ha hb (List.range n)).2
    generalize dif (gl a n) (gl b n) (runS stS a b (List.range n)).2 = q at *
    generalize brw (gl a n) (gl b n) (runS stS a b (List.range n)).2 = r at *
    generalize (runS stS a b (List.range n)).2 = c at *
    rw [Nat.pow_succ]
    grind
theorem stepS : StepC 133 stS :=
  ⟨enters_of Tryz.func133 (by kernel_rfl) rfl, fun x y c hx hy hc => ⟨dif_lt _ _ _, brw_le _ _ _⟩, fun x y c w hx hy hc => sub32_c x y c w hx hy hc⟩
theorem take_limbs {n k : Nat} (h : nl n ≤ k) : val ((limbs n).take k) = n := by rw [List.take_of_length_le h, val_limbs]

theorem add_val (a b m : Nat) (hm : max (nl a) (nl b) ≤ m) : val (runS stA (limbs a) (limbs b) (List.range (m + 1))).1 = a + b := by
  have e := runA (limbs a) (limbs b) (m + 1)
  rw [take_limbs (by omega), take_limbs (by omega)] at e
  have h1 : a < 4294967296 ^ m := nl_le.1 (by omega)
  have h2 : b < 4294967296 ^ m := nl_le.1 (by omega)
  rw [Nat.pow_succ] at e
  generalize 4294967296 ^ m = p at *
  generalize (runS stA (limbs a) (limbs b) (List.range (m + 1))).2 = q at *
  have h3 : q = 0 := by
    by_cases hq : q = 0
    · exact hq
    · have := Nat.mul_le_mul_left (p * 4294967296) (show 1 ≤ q by omega)
      omega
  rw [h3, Nat.mul_zero, Nat.add_zero] at e
  exact e
theorem sub_val (a b : Nat) (h : b ≤ a) : val (runS stS (limbs a) (limbs b) (List.range (nl a))).1 = a - b := by
  have e := runS_sub (limbs a) (limbs b) (lim_limbs a) (lim_limbs b) stepS (nl a)
  rw [take_limbs (Nat.le_refl _), take_limbs (nl_mono h)] at e
  have hl := val_lt (runS_ok stepS (lim_limbs a) (lim_limbs b) (List.range (nl a))).1
  rw [runS_len, List.length_range] at hl
  generalize 4294967296 ^ nl a = p at *
  generalize (runS stS (limbs a) (limbs b) (List.range (nl a))).2 = q at *
  have h3 : q = 0 := by
    by_cases hq : q = 0
    · exact hq
    · have := Nat.mul_le_mul_left p (show 1 ≤ q by omega)
      omega
  subst h3
  simp only [Nat.mul_zero, Nat.add_zero] at e
  omega

attribute [local go_sem] max2_i min2_i max_two min_two

theorem add_c (A : Option Addr) (c a : Nat) (B : Option Addr) (d b : Nat) (w : World) (hA : NatV w A c a) (hB : NatV w B d b) (ha : nl a ≤ 1073741824) (hb : nl b ≤ 1073741824) :
    Calls Tryz.prog 107 #[.slice A (nl a) c, .slice B (nl b) d] w (RetN w (a + b)) := by
  have hc := all_c _ _ stepA A (nl a) c (limbs a) B (nl b) d (limbs b) (max (nl a) (nl b) + 1) w (by omega) rfl rfl (by omega) (by omega) hA.rd hB.rd (lim_limbs a) (lim_limbs b)
  rw [add_val a b _ (Nat.le_refl _)] at hc
  have HC := Lib.hid hc
  clear hc
  go_enter Tryz.func107, Tryz.ntmps107
  go_wp2_with (fail)
  rw [show (max (nl a : Int) (nl b : Int) + 1) = ((max (nl a) (nl b) + 1 : Nat) : Int) by omega]
  refine HC.out.mono ?_
  rintro e w1 ⟨X, cx, rfl, h1, h2⟩
  go_wp2_with (fail)
  go_ret
  exact ⟨X, cx, rfl, h1, h2⟩

def cmpN (a b : Nat) : Int := if a < b then -1 else if b < a then 1 else 0
theorem cmpN_lt {a b : Nat} (h : a < b) : cmpN a b = -1 := by simp [cmpN, h]
theorem cmpN_gt {a b : Nat} (h : b < a) : cmpN a b = 1 := by
  unfold cmpN; rw [if_neg (by omega), if_pos h]
theorem cmpN_eq {a b : Nat} (h : a = b) : cmpN a b = 0 := by simp [cmpN, h]
theorem cmpN_neg {a b : Nat} : cmpN a b < 0 ↔ a < b := by unfold cmpN; split <;> (try split) <;> omega
theorem cmpN_zero {a b : Nat} : cmpN a b = 0 ↔ a = b := by unfold cmpN; split <;> (try split) <;> omega

theorem split_at (l : List Nat) (k : Nat) (h : k < l.length) : val l = val (l.take k) + 4294967296 ^ k * gl l k + 4294967296 ^ (k + 1) * val (l.drop (k + 1)) := by
  conv => lhs; rw [← List.take_append_drop (k + 1) l]
  rw [val_append, val_take_succ l k h, List.length_take, Nat.min_eq_left (by omega)]
theorem drop_eq {l m : List Nat} (hl : l.length = m.length) {k : Nat} (h : ∀ j, k ≤ j → j < l.length → gl l j = gl m j) : l.drop k = m.drop k := by
  apply List.ext_getElem
  · simp [hl]
  · intro i h1 h2
    have h1' : k + i < l.length := by simp at h1; omega
    have := h (k + i) (by omega) h1'
    rw [gl_get h1', gl_get (by omega)] at this
    simpa using this
theorem val_lt_of {l m : List Nat} (hl : l.length = m.length) (ha : Lim l) {k : Nat} (hk : k < l.length) (h : ∀ j, k + 1 ≤ j → j < l.length → gl l j = gl m j) (hlt : gl l k < gl m k) : val l < val m := by
  have e1 := split_at l k hk
  have e2 := split_at m k (by omega)
  rw [drop_eq hl h] at e1
  have h1 := val_lt (ha.take k)
  rw [List.length_take, Nat.min_eq_left (by omega)] at h1
  have h2 : 4294967296 ^ k * gl l k + 4294967296 ^ k ≤ 4294967296 ^ k * gl m k := by
    rw [← Nat.mul_succ]; exact Nat.mul_le_mul_left _ hlt
  omega
theorem val_eq_of {l m : List Nat} (hl : l.length = m.length) (h : ∀ j, 0 ≤ j → j < l.length → gl l j = gl m j) : l = m := by
  have := drop_eq hl (k := 0) h
  simpa using this

theorem _root_.Go.RowKit.Below.drewN {B : Nat} {w W : World} (h : Below B w W) (n : Nat) : Below B w (W.drewN n) := ⟨h.os, h.tape, h.output, h.size, h.block⟩

theorem cmp_c (A : Option Addr) (c a : Nat) (B : Option Addr) (d b : Nat) (w : World) (hA : NatV w A c a) (hB : NatV w B d b) (ha : nl a ≤ 1099511627776) (hb : nl b ≤ 1099511627776) :
    Calls Tryz.prog 106 #[.slice A (nl a) c, .slice B (nl b) d] w fun e w' => e = .returned (.int .i64 (cmpN a b)) ∧ Below w.heap.size w w' := by
  by_cases hl : nl a = nl b
  · have fin : ∀ k, k < nl a → (∀ j, k + 1 ≤ j → j < nl a → gl (limbs a) j = gl (limbs b) j) → (gl (limbs a) k < gl (limbs b) k → cmpN a b = -1) ∧ (gl (limbs b) k < gl (limbs a) k → cmpN a b = 1) := fun k hk hj =>
      ⟨fun h => cmpN_lt (by have := val_lt_of (l := limbs a) (m := limbs b) hl (lim_limbs a) hk hj h; rwa [val_limbs, val_limbs] at this),
       fun h => cmpN_gt (by have := val_lt_of (l := limbs b) (m := limbs a) hl.symm (lim_limbs b) (k := k) (by unfold nl at *; omega) (fun j h1 h2 => (hj j h1 (by unfold nl at *; omega)).symm) h; rwa [val_limbs, val_limbs] at this)⟩
    have fin0 : (∀ j, 0 ≤ j → j < nl a → gl (limbs a) j = gl (limbs b) j) → cmpN a b = 0 := fun h => cmpN_eq (limbs_inj (val_eq_of hl h))
    have FIN := Lib.hid fin
    have FIN0 := Lib.hid fin0
    have hb1 : ((nl a : Int) != (nl b : Int)) = false := ineF (by omega)
    have hb2 : (nl a != nl b) = false := by simp [hl]
    have HL := Lib.hid hl
    clear fin fin0 hl
    go_enter Tryz.func106, Tryz.ntmps106
    go_wp2_with (fail)
    go_loopw [5] (fun i wr => ∃ k : Nat, i = .int .i64 ((k : Int) - 1) ∧ k ≤ nl a ∧ (∀ j, k ≤ j → j < nl a → gl (limbs a) j = gl (limbs b) j) ∧ ∃ m, wr = w.drewN m) (fun i wr => (intOf i + 1).toNat)
    case atStart => exact ⟨nl a, rfl, Nat.le_refl _, fun j h1 h2 => by omega, 0, rfl⟩
    case round =>
      obtain ⟨k, rfl, hk, hj, m, rfl⟩ := hrel
      have HJ := Lib.hid hj
      clear hj
      cases k with
      | zero =>
        go_wp2_with (fail)
        go_ret
        exact ⟨ret_int (FIN0.out HJ.out).symm, (Below.refl _ _).drewN _⟩
      | succ k =>
        rw [show (((k + 1 : Nat) : Int) - 1) = (k : Int) by omega]
        obtain ⟨ad, rfl, hcA⟩ := hA.rd.get k hk
        obtain ⟨bd, rfl, hcB⟩ := hB.rd.get k (by have := HL.out; unfold nl at *; omega)
        have i1 : k < nl a := hk
        have i2 : k < nl b := by have := HL.out; omega
        have hF := FIN.out k hk (fun j h1 h2 => HJ.out j h1 h2)
        obtain ⟨x, hx⟩ : ∃ x, gl (limbs a) k = x := ⟨_, rfl⟩
        obtain ⟨y, hy⟩ : ∃ y, gl (limbs b) k = y := ⟨_, rfl⟩
        rw [hx] at hcA
        rw [hy] at hcB
        rw [hx, hy] at hF
        have HF := Lib.hid hF
        have HX := Lib.hid hx
        have HY := Lib.hid hy
        clear hF hx hy
        rcases Nat.lt_trichotomy x y with h | h | h
        · have b1 : decide ((x : Int) < (y : Int)) = true := by simp; omega
          have b2 : decide (x < y) = true := by simp; omega
          have HV := Lib.hid (HF.out.1 h)
          clear h
          go_wp2_with (fail)
          go_quiet (fail)
          go_wp2_with (fail)
          go_ret
          exact ⟨ret_int HV.out.symm, ((Below.refl _ _).drewN _).drewN _⟩
        · have b1 : decide ((x : Int) < (y : Int)) = false := by simp; omega
          have b2 : decide (x < y) = false := by simp; omega
          have b3 : decide ((y : Int) < (x : Int)) = false := by simp; omega
          have b4 : decide (y < x) = false := by simp; omega
          have HV := Lib.hid h
          clear h
          go_wp2_with (fail)
          go_quiet (fail)
          go_wp2_with (fail)
          go_quiet (fail)
          go_wp2_with (fail)
          go_roundw
          case rel => exact ⟨k, by go_num, by omega, fun j h1 h2 => by
            by_cases e : j = k
            · rw [e, HX.out, HY.out, HV.out]
            · exact HJ.out j (by omega) h2, _, World.drewN_drewN .. ▸ World.drewN_drewN ..⟩
          case measure => simp [intOf] <;> omega
        · have b1 : decide ((x : Int) < (y : Int)) = false := by simp; omega
          have b2 : decide (x < y) = false := by simp; omega
          have b3 : decide ((y : Int) < (x : Int)) = true := by simp; omega
          have b4 : decide (y < x) = true := by simp; omega
          have HV := Lib.hid (HF.out.2 h)
          clear h
          go_wp2_with (fail)
          go_quiet (fail)
          go_wp2_with (fail)
          go_quiet (fail)
          go_wp2_with (fail)
          go_ret
          exact ⟨ret_int HV.out.symm, (((Below.refl _ _).drewN _).drewN _).drewN _⟩
  · have hb1 : ((nl a : Int) != (nl b : Int)) = true := ineT (by omega)
    have hb2 : (nl a != nl b) = true := by simp [hl]
    go_enter Tryz.func106, Tryz.ntmps106
    go_wp2_with (fail)
    go_ret
    refine ⟨ret_int ?_, Below.refl _ _⟩
    rcases Nat.lt_or_ge (nl a) (nl b) with h | h
    · rw [cmpN_lt (show a < b by have := lt_nl.1 h; have := nl_lt a; omega)]; omega
    · rw [cmpN_gt (show b < a by have := lt_nl.1 (show nl b < nl a by omega); have := nl_lt b; omega)]; omega

theorem sub_c (A : Option Addr) (c a : Nat) (B : Option Addr) (d b : Nat) (w : World) (hA : NatV w A c a) (hB : NatV w B d b) (ha : nl a ≤ 1073741824) (hb : nl b ≤ 1073741824) (h : b ≤ a) :
    Calls Tryz.prog 119 #[.slice A (nl a) c, .slice B (nl b) d] w fun e w' => ∃ X cx, e = .returned (.tuple #[.slice X (nl (a - b)) cx, .bool true]) ∧ NatV w' X cx (a - b) ∧ Below w.heap.size w w' := by
  have hb1 : decide (cmpN a b < 0) = false := by rw [decide_eq_false_iff_not, cmpN_neg]; omega
  go_enter Tryz.func119, Tryz.ntmps119
  go_wp2_with (fail)
  refine (cmp_c A c a B d b w hA hB (by omega) (by omega)).mono ?_
  rintro e w1 ⟨rfl, hb1⟩
  have hA1 := hA.below hb1
  have hB1 := hB.below hb1
  have hc := all_c _ _ stepS A (nl a) c (limbs a) B (nl b) d (limbs b) (nl a) w1 (by omega) rfl rfl (by omega) (by omega) hA1.rd hB1.rd (lim_limbs a) (lim_limbs b)
  rw [sub_val a b h] at hc
  go_wp2_with (fail)
  refine hc.mono ?_
  rintro e w2 ⟨X, cx, rfl, h1, h2⟩
  go_wp2_with (fail)
  go_ret2
  exact ⟨X, cx, rfl, h1, hb1.trans (h2.mono hb1.size)⟩
theorem subNot_c (A : Option Addr) (c a : Nat) (B : Option Addr) (d b : Nat) (w : World) (hA : NatV w A c a) (hB : NatV w B d b) (ha : nl a ≤ 1073741824) (hb : nl b ≤ 1073741824) (h : a < b) :
    Calls Tryz.prog 119 #[.slice A (nl a) c, .slice B (nl b) d] w fun e w' => e = .returned (.tuple #[.slice none 0 0, .bool false]) ∧ Below w.heap.size w w' := by
  have hb1 : decide (cmpN a b < 0) = true := by rw [decide_eq_true_eq, cmpN_neg]; omega
  go_enter Tryz.func119, Tryz.ntmps119
  go_wp2_with (fail)
  refine (cmp_c A c a B d b w hA hB (by omega) (by omega)).mono ?_
  rintro e w1 ⟨rfl, hb1⟩
  go_wp2_with (fail)
  go_ret2
  exact ⟨rfl, hb1⟩
end Go.Proofs.YtacjfpibilolnaaGreatDoor

/- The layer of naturals: shifts. -/
set_option linter.unusedVariables false
set_option linter.unusedSimpArgs false
namespace Go.Proofs.YtacjfpibilolnaaGreatDoor
open Go.RowKit Go.Shelf
attribute [local go_sem] max2_i min2_i max_two min_two

theorem or_low (x low s : Nat) (hx : x < 4294967296) (hs : s < 32) (hl : low < 2 ^ s) :
    bits .or .u32 ((x : Int) * 2 ^ s % 4294967296) (low : Int) = ((x * 2 ^ s % 4294967296 + low : Nat) : Int) ∧ x * 2 ^ s % 4294967296 + low < 4294967296 := by
  have hp : (2 : Nat) ^ s ≤ 2 ^ 31 := Nat.pow_le_pow_right (by decide) (by omega)
  have e1 : ((x : Int) * 2 ^ s % 4294967296) = ((x * 2 ^ s % 4294967296 : Nat) : Int) := by simp
  have hm : x * 2 ^ s % 4294967296 < 4294967296 := Nat.mod_lt _ (by decide)
  have e2 : (2 : Nat) ^ 32 = 2 ^ (32 - s) * 2 ^ s := by rw [← Nat.pow_add]; congr 1; omega
  have e3 : x * 2 ^ s % 4294967296 = 2 ^ s * (x % 2 ^ (32 - s)) := by
    rw [show 4294967296 = 2 ^ 32 from rfl, e2, Nat.mul_mod_mul_right, Nat.mul_comm]
  have h1 : x % 2 ^ (32 - s) + 1 ≤ 2 ^ (32 - s) := Nat.mod_lt _ (Nat.pow_pos (by decide))
  have h2 := Nat.mul_le_mul_left (2 ^ s) h1
  rw [← Nat.pow_add, show s + (32 - s) = 32 by omega, Nat.mul_add] at h2
  refine ⟨?_, ?_⟩
  · rw [e1, u32_or_nat _ _ hm (by omega), e3, ← Nat.two_pow_add_eq_or_of_lt hl]
  · rw [e3]; omega
theorem hi_low (x s : Nat) (hx : x < 4294967296) (hs : s < 32) : x * 2 ^ s / 4294967296 < 2 ^ s := by
  rw [Nat.div_lt_iff_lt_mul (by decide), Nat.mul_comm]
  exact Nat.mul_lt_mul_of_pos_left hx (Nat.pow_pos (by decide))

theorem shl_c (A : Option Addr) (c a : Nat) (n : Nat) (w : World) (hA : NatV w A c a) (ha : nl a ≤ 1073741824) (hn : n ≤ 1073741824) (h0 : a ≠ 0) :
    Calls Tryz.prog 104 #[.slice A (nl a) c, .int .i64 (n : Int)] w (RetN w (a * 2 ^ n)) := by
  have hp := nl_pos.2 h0
  have hb0 : ((nl a : Int) == 0) = false := ieqF (by omega)
  have hmk := mk32 ((n : Int) / 32) ((n : Int) / 32 + nl a + 1) (by omega) (by omega) (by omega)
  obtain ⟨i0, hi, hz0, hz1, hz2⟩ := info_parts info_u32
  go_enter Tryz.func104, Tryz.ntmps104
  go_wp2_with (fail)
  have hs := Nat.mod_lt n (show 0 < 32 by decide)
  go_loopw [5, 7, 9, 26] (fun o lo x i wr => ∃ (k low : Nat) (L : List Nat), o = .slice (some ⟨w.heap.size, 0, none⟩) (n / 32 + k) (n / 32 + nl a + 1) ∧ i = .int .i64 k ∧ lo = .int .u32 low ∧ k ≤ nl a ∧ Below w.heap.size w wr ∧
    wr.ownsRow w.heap.size 58 1 (.slice (some ⟨w.heap.size, 0, none⟩) (n / 32 + k) (n / 32 + nl a + 1)) (n / 32 + k) (vals L) ∧ L.length = n / 32 + k ∧ Lim L ∧ Hid (val L + 4294967296 ^ (n / 32 + k) * low = val ((limbs a).take k) * 2 ^ (n % 32) * 4294967296 ^ (n / 32)) ∧ low < 2 ^ (n % 32)) (fun o lo x i wr => nl a - (intOf i).toNat)
  case atStart =>
    have e1 : ((n : Int) / 32).toNat = n / 32 := by omega
    have e2 : ((n : Int) / 32 + nl a + 1).toNat = n / 32 + nl a + 1 := by omega
    refine ⟨0, 0, List.replicate (n / 32) 0, by simp, rfl, rfl, Nat.zero_le _, ((Below.refl _ _).alloc (Nat.le_refl _) _), ?_, by simp, Lim.replicate _ _ (by decide), Lib.hid (by rw [val_replicate]; simp [val]), Nat.pow_pos (by decide)⟩
    simp only [Nat.add_zero, e2]
    refine ⟨by simp [vals], .inr ⟨w.heap.size, n / 32 + nl a + 1, _, rfl, Nat.le_refl _, heap_alloc_new w _, by omega, by simp only [maxLen]; omega, by rw [size_madeCells, Nat.mul_one], ?_⟩⟩
    rw [toList_madeCells_one, List.take_replicate, Nat.min_eq_left (by omega)]
    simp [vals]
  case round =>
    obtain ⟨k, low, L, rfl, rfl, rfl, hk, hb, hown, hlen, hlim, hval, hlow⟩ := hrel
    by_cases hlt : k < nl a
    · obtain ⟨ad, rfl, hc⟩ := (hA.rd.below hb).get k hlt
      obtain ⟨x, hx⟩ : ∃ x, gl (limbs a) k = x := ⟨_, rfl⟩
      have hxl := (lim_limbs a).gl k
      rw [hx] at hc hxl
      obtain ⟨hor, hvl⟩ := or_low x low (n % 32) hxl hs hlow
      generalize hv : x * 2 ^ (n % 32) % 4294967296 + low = v at *
      have HV := Lib.hid hv
      have HX := Lib.hid hx
      have HL := Lib.hid hlen
      clear hv hx hlen
      have hxl2 : (x : Int) < 4294967296 := by omega
      go_wp2_with (at_builtin; refine wpList_append_fits _ rfl _ _ 22 rfl w.heap.size 58 i0 1 Tryz.underlying22 hi hz1 w.heap.size (n / 32 + k) (n / 32 + nl a + 1) (vals L) rfl (hown.alloc _) ⟨wr.heap.size, 0, none⟩ 1 1 [.int .u32 (v : Nat)] rfl rfl (cell_one_new _ _ _) (by simp [Value.oneCell']) (by omega) ?_)
      intro w1 hown1 hg1
      go_wp2_with (fail)
      go_roundw
      case rel =>
        have hq : x * 2 ^ (n % 32) / 4294967296 < 2 ^ (n % 32) := hi_low x _ hxl hs
        refine ⟨k + 1, x * 2 ^ (n % 32) / 4294967296, L ++ [v], by rw [Nat.add_assoc], by go_num, ?_, by omega, ?_, ?_, ?_, ?_, Lib.hid ?_, hq⟩
        · have hp31 : (2 : Nat) ^ (n % 32) ≤ 2 ^ 31 := Nat.pow_le_pow_right (by decide) (by omega)
          have h64 : x * 2 ^ (n % 32) ≤ 4294967296 * 2 ^ 31 := Nat.mul_le_mul (by omega) hp31
          have e1 : ((x : Int) * 2 ^ (n % 32)) = ((x * 2 ^ (n % 32) : Nat) : Int) := by simp
          congr 1
          rw [e1]
          generalize x * 2 ^ (n % 32) = y at *
          have : IntKind.u64.wrap (y : Int) = (y : Int) := by
            simp only [IntKind.wrap, IntKind.bits, IntKind.signed]
            simp
            omega
          rw [this]
          omega
        · exact (hb.alloc hb.size _).grown hg1 (by simp; have := hb.size; omega) (fun k e => by cases e; exact Nat.le_refl _)
        · rw [vals_append]; exact hown1
        · simp [HL.out]; omega
        · exact hlim.append (Lim.cons hvl Lim.nil)
        · have hval := hval.out
          have hv := HV.out
          have hx := HX.out
          rw [val_snoc, HL.out, val_take_succ _ _ hlt, hx, ← hv]
          have e := Nat.div_add_mod (x * 2 ^ (n % 32)) 4294967296
          generalize x * 2 ^ (n % 32) / 4294967296 = d at *
          rw [← Nat.add_assoc, Nat.pow_succ]
          rw [Nat.pow_add] at hval ⊢
          generalize val ((limbs a).take k) = t at *
          generalize 4294967296 ^ k = p at *
          generalize 4294967296 ^ (n / 32) = r at *
          generalize x * 2 ^ (n % 32) % 4294967296 = m at *
          generalize 2 ^ (n % 32) = z at *
          grind
      case measure => simp [intOf] <;> omega
    · obtain rfl : k = nl a := by omega
      have HV := hval
      go_wp2_with (first
        | (go_at_call 109; fail)
        | (at_builtin; refine wpList_append_fits _ rfl _ _ 22 rfl w.heap.size 58 i0 1 Tryz.underlying22 hi hz1 w.heap.size (n / 32 + nl a) (n / 32 + nl a + 1) (vals L) rfl (hown.alloc _) ⟨wr.heap.size, 0, none⟩ 1 1 [.int .u32 (low : Nat)] rfl rfl (cell_one_new _ _ _) (by simp [Value.oneCell']) (by omega) ?_))
      intro w1 hown1 hg1
      obtain ⟨Y, cy, hYe, hcy, hcm, hrd⟩ := ownV_rd hown1
      cases hYe
      have hll : low < 4294967296 := by
        have : (2 : Nat) ^ (n % 32) ≤ 2 ^ 31 := Nat.pow_le_pow_right (by decide) (by omega)
        omega
      have hb2 : Below w.heap.size w w1 := (hb.alloc hb.size _).grown hg1 (by simp; have := hb.size; omega) (fun k e => by cases e; exact Nat.le_refl _)
      have hmake := make_c (some ⟨w.heap.size, 0, none⟩) (n / 32 + nl a + 1) (n / 32 + nl a + 1) (L ++ [low]) w1 (by simp [hlen]) (by unfold Rd; rw [vals_append]; exact hrd) (hlim.append (Lim.cons hll Lim.nil)) (by omega) (Nat.le_refl _)
      have hvv : val (L ++ [low]) = a * 2 ^ n := by
        have h := HV.out
        rw [take_limbs (Nat.le_refl _)] at h
        rw [val_snoc, hlen, h, Nat.mul_assoc, ← pow32, ← Nat.pow_add]
        congr 2
        omega
      rw [hvv] at hmake
      have HM := Lib.hid hmake
      clear hmake hown1 hown hrd hg1 hval hlen
      go_wp2_with (fail)
      refine HM.out.mono ?_
      rintro e w2 ⟨X, cx, rfl, h1, h2⟩
      go_wp2_with (fail)
      go_ret
      exact ⟨X, cx, rfl, h1, hb2.trans (h2.mono hb2.size)⟩
theorem nat_mod_pow_split (t s : Nat) (hs : s ≤ 32) : t / 2 ^ s % 4294967296 = t % 4294967296 / 2 ^ s + (t / 4294967296 % 4294967296) * 2 ^ (32 - s) % 4294967296 := by
  have e2 : (4294967296 : Nat) = 2 ^ s * 2 ^ (32 - s) := by rw [← Nat.pow_add, show s + (32 - s) = 32 by omega]
  have h1 : t % 4294967296 / 2 ^ s = t / 2 ^ s % 2 ^ (32 - s) := by
    rw [e2, Nat.mod_mul_right_div_self]
  have h2 : (t / 4294967296 % 4294967296) * 2 ^ (32 - s) % 4294967296 = (t / 4294967296 % 2 ^ s) * 2 ^ (32 - s) := by
    generalize t / 4294967296 = u
    rw [e2, Nat.mul_mod_mul_right, Nat.mod_mul_right_mod]
  have h3 : t / 2 ^ s % 4294967296 = t / 2 ^ s % 2 ^ (32 - s) + 2 ^ (32 - s) * (t / 2 ^ s / 2 ^ (32 - s) % 2 ^ s) := by
    rw [show (4294967296 : Nat) = 2 ^ (32 - s) * 2 ^ s by rw [Nat.mul_comm]; exact e2, Nat.mod_mul]
  rw [h1, h2, h3, Nat.div_div_eq_div_mul, ← e2, Nat.mul_comm (2 ^ (32 - s))]
theorem or_high (x y s : Nat) (hx : x < 4294967296) (hs : s ≤ 32) :
    x / 2 ^ s ||| y * 2 ^ (32 - s) % 4294967296 = x / 2 ^ s + y * 2 ^ (32 - s) % 4294967296 := by
  have e2 : (4294967296 : Nat) = 2 ^ s * 2 ^ (32 - s) := by rw [← Nat.pow_add, show s + (32 - s) = 32 by omega]
  have h1 : x / 2 ^ s < 2 ^ (32 - s) := by rw [Nat.div_lt_iff_lt_mul (Nat.pow_pos (by decide)), Nat.mul_comm, ← e2]; exact hx
  have h2 : y * 2 ^ (32 - s) % 4294967296 = 2 ^ (32 - s) * (y % 2 ^ s) := by rw [e2, Nat.mul_mod_mul_right, Nat.mul_comm]
  rw [h2, Nat.or_comm, ← Nat.two_pow_add_eq_or_of_lt h1, Nat.add_comm]

/-- The lowest m limbs of a number. -/
def digs (n m : Nat) : List Nat := (List.range m).map fun i => n / 4294967296 ^ i % 4294967296
theorem digs_len (n m) : (digs n m).length = m := by simp [digs]
theorem digs_succ (n m) : digs n (m + 1) = digs n m ++ [n / 4294967296 ^ m % 4294967296] := by simp [digs, List.range_succ]
theorem digs_lim (n m) : Lim (digs n m) := fun x hx => by
  obtain ⟨i, _, rfl⟩ := List.mem_map.1 hx
  exact Nat.mod_lt _ (by decide)
theorem digs_val (n m : Nat) : val (digs n m) = n % 4294967296 ^ m := by
  induction m with
  | zero => simp [digs, val, Nat.mod_one]
  | succ m ih => rw [digs_succ, val_snoc, digs_len, ih, Nat.pow_succ, Nat.mod_mul]

theorem shr_or (x y s : Nat) (hx : x < 4294967296) (hy : y < 4294967296) (hs : s < 32) :
    bits .or .u32 ((x : Int) / 2 ^ s) (IntKind.u32.wrap (IntKind.u64.wrap (IntKind.u64.wrap (y : Int) * 4294967296) / 2 ^ s)) = ((x / 2 ^ s + y * 2 ^ (32 - s) % 4294967296 : Nat) : Int) := by
  have w1 : IntKind.u64.wrap (y : Int) = (y : Int) := by
    simp only [IntKind.wrap, IntKind.bits, IntKind.signed]; simp; omega
  have w2 : IntKind.u64.wrap ((y : Int) * 4294967296) = ((y * 4294967296 : Nat) : Int) := by
    simp only [IntKind.wrap, IntKind.bits, IntKind.signed]; simp; omega
  have e2 : (4294967296 : Nat) = 2 ^ (32 - s) * 2 ^ s := by rw [← Nat.pow_add, show (32 - s) + s = 32 by omega]
  have w3 : (((y * 4294967296 : Nat) : Int) / 2 ^ s) = ((y * 2 ^ (32 - s) : Nat) : Int) := by
    have : ((y * 4294967296 : Nat) : Int) / 2 ^ s = ((y * 4294967296 / 2 ^ s : Nat) : Int) := by simp
    rw [this]
    congr 1
    conv => lhs; rw [e2]
    rw [← Nat.mul_assoc, Nat.mul_div_cancel _ (Nat.pow_pos (by decide))]
  have w4 : ((x : Int) / 2 ^ s) = ((x / 2 ^ s : Nat) : Int) := by simp
  have w5 : IntKind.u32.wrap ((y * 2 ^ (32 - s) : Nat) : Int) = ((y * 2 ^ (32 - s) % 4294967296 : Nat) : Int) := by
    rw [IntKind.wrap_u32]; omega
  have hx2 : x / 2 ^ s < 4294967296 := Nat.lt_of_le_of_lt (Nat.div_le_self _ _) hx
  rw [w1, w2, w3, w4, w5, u32_or_nat _ _ hx2 (Nat.mod_lt _ (by decide)), or_high x y s hx (by omega)]
theorem shr_c0 (A : Option Addr) (c a : Nat) (n q s : Nat) (w : World) (hA : NatV w A c a) (ha : nl a ≤ 1073741824) (hs : s < 32) (hn : n = 32 * q + s) (hq : q < nl a) :
    Calls Tryz.prog 105 #[.slice A (nl a) c, .int .i64 (n : Int)] w (RetN w (a / 2 ^ n)) := by
  obtain ⟨i0, hi, hz0, hz1, hz2⟩ := info_parts info_u32
  have hn1 : (n : Int) / 32 = (q : Int) := by omega
  have hn2 : (n : Int) % 32 = (s : Int) := by omega
  have hn3 : n / 32 = q := by omega
  have hn4 : n % 32 = s := by omega
  have hb0 : decide ((nl a : Int) ≤ (q : Int)) = false := by simp; omega
  have hb1 : decide (nl a ≤ q) = false := by simp; omega
  have HN := Lib.hid hn
  clear hn
  go_enter Tryz.func105, Tryz.ntmps105
  go_wp2_with (fail)
  simp only [hn2]
  go_loopw [7, 8, 21] (fun o j i wr => ∃ k : Nat, i = .int .i64 k ∧ k ≤ nl a - q ∧ Below w.heap.size w wr ∧ wr.ownsRow w.heap.size 58 1 o k (vals (digs (a / 2 ^ n) k))) (fun o j i wr => nl a - q - (intOf i).toNat)
  case atStart => exact ⟨0, rfl, Nat.zero_le _, Below.refl _ _, World.ownsRow_nil _ _ _ _⟩
  case round =>
    obtain ⟨k, rfl, hk, hb, hown⟩ := hrel
    obtain ⟨X, cx, rfl, hcx, hcm, _⟩ := ownV_rd hown
    by_cases hlt : k < nl a - q
    · have hA1 := hA.below hb
      obtain ⟨ad, rfl, hc⟩ := hA1.rd.get (q + k) (by unfold nl at *; omega)
      have HAT := Lib.hid (at_c (some ad) (nl a) c (limbs a) (q + k + 1) wr.drew rfl hA1.rd (by omega) (by omega))
      have i2 : q + k < nl a := by omega
      have i3 : (q : Int) + (k : Int) < (nl a : Int) := by omega
      have i4 : (0 : Int) ≤ (q : Int) + (k : Int) := by omega
      obtain ⟨x, hx⟩ : ∃ x, gl (limbs a) (q + k) = x := ⟨_, rfl⟩
      obtain ⟨y, hy⟩ : ∃ y, gl (limbs a) (q + k + 1) = y := ⟨_, rfl⟩
      rw [hx] at hc
      rw [hy] at HAT
      have hxl := (lim_limbs a).gl (q + k)
      have hyl := (lim_limbs a).gl (q + k + 1)
      rw [hx] at hxl
      rw [hy] at hyl
      have HX := Lib.hid hx
      have HY := Lib.hid hy
      clear hx hy
      have hd : (k : Int) < (nl a : Int) - (q : Int) := by omega
      have z1 : IntKind.i64.wrap ((q : Int) + (k : Int)) = (q : Int) + (k : Int) := IntWalk.i64_in _ (by omega)
      have z2 : ((q : Int) + (k : Int)).toNat = q + k := by omega
      have z3 : IntKind.i64.wrap ((q : Int) + (k : Int) + 1) = (q : Int) + (k : Int) + 1 := IntWalk.i64_in _ (by omega)
      have hor := shr_or x y s hxl hyl hs
      obtain ⟨v, hv⟩ : ∃ v, x / 2 ^ s + y * 2 ^ (32 - s) % 4294967296 = v := ⟨_, rfl⟩
      rw [hv] at hor
      have HV := Lib.hid hv
      clear hv
      have hown2 := (hown.alloc (.cells #[.int .u32 (v : Nat)] 58)).drew
      have KP2 : some (ad.add (q + k)).block ≠ (Value.slice X k cx).ownBlock := fun e => by
        have h1 := own_base' hown _ e.symm
        obtain ⟨ad', e', hc'⟩ := hA.rd.get (q + k) (by unfold nl at *; omega)
        cases e'
        have h2 := World.block_lt_of_cell? w _ hc'
        omega
      have KP1 : (ad.add (q + k)).block < ((wr.alloc (.cells #[.int .u32 (v : Nat)] 58)).drew).heap.size := by
        have := World.block_lt_of_cell? wr _ hc
        show _ < (wr.alloc _).heap.size
        simp; omega
      have HB := Lib.hid hb
      clear hb
      go_wp2_with (fail)
      go_region_held3 (fun w' => w'.cell? (ad.add (q + k)) = some (.int .u32 (x : Nat))) (first | go_keep | (rw [hgrow.cell_far _ KP1 KP2]; assumption)) (first
        | (go_at_call 127; refine (Hid.out HAT).mono ?_; rintro e w' ⟨rfl, rfl⟩)
        | (refine step_append_lies _ (by rfl) _ _ _ (by rfl) w.heap.size 58 i0 _ 1 4 Tryz.underlying22 hi hz0 hz1 hz2 rfl (by omega) (.slice X k cx) k _ (by rfl) hown2 ⟨wr.heap.size, 0, none⟩ 1 1 [.int .u32 (v : Nat)] (by rfl) (by rfl) (World.news_of_block (cs := #[.int .u32 (v : Nat)]) (t := 58) (fr := (0, 0)) (heap_alloc_new wr _)) (by simp [Value.oneCell']) (by omega) (by simp only [maxLen]; omega) (by omega) (by simp; have := HB.out.size; omega) (wr.heap.size + 1) (by simp) ?_; intro gg cap w1 hown1 hgrow hat hlt))
      go_wp2_with (fail)
      go_roundw
      case rel =>
        have r1 : Below w.heap.size w w1 := ((HB.out.alloc HB.out.size _).drew).grown hgrow (by show _ ≤ (wr.alloc _).heap.size; simp; have := HB.out.size; omega) (own_base' hown)
        have e : a / 2 ^ n / 4294967296 ^ k % 4294967296 = v := by
          rw [← HV.out, ← HX.out, ← HY.out, limbs_gl, limbs_gl, HN.out, Nat.pow_add, pow32, Nat.div_div_eq_div_mul, show 4294967296 ^ q * 2 ^ s * 4294967296 ^ k = 4294967296 ^ (q + k) * 2 ^ s by rw [Nat.pow_add]; grind, ← Nat.div_div_eq_div_mul, nat_mod_pow_split _ s (by omega), Nat.pow_succ, ← Nat.div_div_eq_div_mul]
        have r2 : w1.ownsRow w.heap.size 58 1 (.slice (some ⟨gg, 0, none⟩) (k + 1) cap) (k + 1) (vals (digs (a / 2 ^ n) (k + 1))) := by
          rw [digs_succ, vals_append, e]; exact hown1
        exact ⟨k + 1, by go_num, by omega, r1, r2⟩
      case measure => simp [intOf] <;> omega
    · obtain rfl : k = nl a - q := by omega
      have hmake := make_c X (nl a - q) cx (digs (a / 2 ^ n) (nl a - q)) wr (digs_len _ _) (by obtain ⟨A', c', e, _, _, h⟩ := ownV_rd hown; cases e; exact h) (digs_lim _ _) (by omega) hcx
      have hv : val (digs (a / 2 ^ n) (nl a - q)) = a / 2 ^ n := by
        rw [digs_val, Nat.mod_eq_of_lt]
        rw [HN.out, Nat.pow_add, ← Nat.div_div_eq_div_mul]
        refine Nat.lt_of_le_of_lt (Nat.div_le_self _ _) ?_
        exact nl_le.1 (nl_shr32 a q)
      rw [hv] at hmake
      have HM := Lib.hid hmake
      have HD : (((nl a - q : Nat) : Int)) = (nl a : Int) - (q : Int) := by omega
      have HDD := Lib.hid HD
      clear hmake hown hv HD
      have hd : decide ((((nl a - q : Nat) : Int)) < (nl a : Int) - (q : Int)) = false := by simp; omega
      go_wp2_with (fail)
      refine HM.out.mono ?_
      rintro e w2 ⟨Y, cy, rfl, h1, h2⟩
      go_wp2_with (fail)
      go_ret
      exact ⟨Y, cy, rfl, h1, hb.trans (h2.mono hb.size)⟩

theorem natV_nil (w : World) : NatV w none 0 0 := ⟨by rw [limbs_zero]; exact Rd.nil, by rw [nl_zero]; exact Nat.le_refl _, by decide⟩
theorem retN_nil (w : World) : RetN w 0 (.returned (.slice none 0 0)) w := ⟨none, 0, by rw [nl_zero], natV_nil w, Below.refl _ _⟩
theorem shl_ci (A : Option Addr) (c a : Nat) (n : Int) (w : World) (hA : NatV w A c a) (ha : nl a ≤ 1073741824) (h0 : 0 ≤ n) (hn : n ≤ 1073741824) :
    Calls Tryz.prog 104 #[.slice A (nl a) c, .int .i64 n] w (RetN w (a * 2 ^ n.toNat)) := by
  obtain ⟨m, rfl⟩ := Int.eq_ofNat_of_zero_le h0
  rw [Int.toNat_natCast]
  by_cases h : a = 0
  · subst h
    have hb0 : ((nl 0 : Int) == 0) = true := ieqT (by rw [nl_zero]; rfl)
    go_enter Tryz.func104, Tryz.ntmps104
    go_wp2_with (fail)
    go_ret
    rw [Nat.zero_mul]
    exact retN_nil w
  · exact shl_c A c a m w hA ha (by omega) h
theorem shr_ci (A : Option Addr) (c a : Nat) (n : Int) (w : World) (hA : NatV w A c a) (ha : nl a ≤ 1073741824) (h0 : 0 ≤ n) (hn : n ≤ 1099511627776) :
    Calls Tryz.prog 105 #[.slice A (nl a) c, .int .i64 n] w (RetN w (a / 2 ^ n.toNat)) := by
  obtain ⟨m, rfl⟩ := Int.eq_ofNat_of_zero_le h0
  rw [Int.toNat_natCast]
  by_cases h : m / 32 < nl a
  · exact shr_c0 A c a m (m / 32) (m % 32) w hA ha (Nat.mod_lt _ (by decide)) (by omega) h
  · have hn1 : (m : Int) / 32 = ((m / 32 : Nat) : Int) := by omega
    have hb0 : decide ((nl a : Int) ≤ ((m / 32 : Nat) : Int)) = true := by simp; omega
    have hb1 : decide (nl a ≤ m / 32) = true := by simp; omega
    have e : a / 2 ^ m = 0 := by
      rw [Nat.div_eq_of_lt]
      refine Nat.lt_of_lt_of_le (nl_lt a) ?_
      rw [← pow32]
      exact Nat.pow_le_pow_right (by decide) (by omega)
    rw [e]
    have HN := Lib.hid hn1
    clear hn1
    have hb2 : decide ((nl a : Int) ≤ (m : Int) / 32) = true := by simp; omega
    go_enter Tryz.func105, Tryz.ntmps105
    go_wp2_with (fail)
    go_ret
    exact retN_nil w
end Go.Proofs.YtacjfpibilolnaaGreatDoor
