/- The library's bits.Reverse64, walked. -/
import Derived.Test.YtacjfpibilolnaaGreatDoorSB16
import Derived.Test.YtacjfpibilolnaaGreatDoorSB01
import Derived.Laws.BitsAllLaws
set_option maxRecDepth 100000
set_option maxHeartbeats 4000000
set_option linter.unusedVariables false
set_option linter.unusedSimpArgs false
namespace Go.Proofs.YtacjfpibilolnaaGreatDoor
open Go.RowKit

/-- Pieces of s bits changed two by two. -/
def swp (x s m : Nat) : Nat := (x / 2 ^ s &&& m) ||| (x &&& m) * 2 ^ s
theorem swp_bit (x s m : Nat) (hm : ∀ i, i < 64 → (m.testBit i = ((i / s) % 2 == 0)) ∧ (if (i / s) % 2 = 0 then i ^^^ s = i + s else s ≤ i ∧ i ^^^ s = i - s ∧ m.testBit (i - s) = true)) (hm0 : ∀ i, (i / s) % 2 = 0 → i < s → True) (i : Nat) (hi : i < 64) (hs : ∀ i, i < 64 → (i / s) % 2 = 0 → s ≤ i → m.testBit (i - s) = false) :
    (swp x s m).testBit i = x.testBit (i ^^^ s) := by
  obtain ⟨h1, h2⟩ := hm i hi
  unfold swp
  rw [Nat.testBit_or, Nat.testBit_and, Nat.testBit_div_two_pow, Nat.testBit_mul_two_pow, Nat.testBit_and, h1]
  by_cases h : (i / s) % 2 = 0
  · rw [if_pos h] at h2
    simp only [h, h2]
    by_cases h3 : s ≤ i
    · simp [h3, hs i hi h h3]
    · simp [h3]
  · rw [if_neg h] at h2
    obtain ⟨h3, h4, h5⟩ := h2
    simp [h, h3, h4, h5]
def rev64 (x : Nat) : Nat := 
  let a := swp x 1 6148914691236517205
  let b := swp a 2 3689348814741910323
  let c := swp b 4 1085102592571150095
  let d := swp c 8 71777214294589695
  let e := swp d 16 281470681808895
  e / 2 ^ 32 ||| e % 2 ^ 32 * 2 ^ 32
theorem swp_lt (x s m : Nat) (hx : x < 2 ^ 64) (hm : m * 2 ^ s < 2 ^ 64) : swp x s m < 2 ^ 64 := by
  unfold swp
  refine Nat.or_lt_two_pow (Nat.lt_of_le_of_lt Nat.and_le_left (Nat.lt_of_le_of_lt (Nat.div_le_self _ _) hx)) (Nat.lt_of_le_of_lt (Nat.mul_le_mul_right _ Nat.and_le_right) hm)
theorem rev64_rv (x : Nat) (hx : x < 2 ^ 64) : rev64 x = rv 64 x := by
  unfold rev64
  apply Nat.eq_of_testBit_eq
  intro i
  have b1 := fun x i hi => swp_bit x 1 6148914691236517205 (by decide) (fun _ _ _ => trivial) i hi (by decide)
  have b2 := fun x i hi => swp_bit x 2 3689348814741910323 (by decide) (fun _ _ _ => trivial) i hi (by decide)
  have b3 := fun x i hi => swp_bit x 4 1085102592571150095 (by decide) (fun _ _ _ => trivial) i hi (by decide)
  have b4 := fun x i hi => swp_bit x 8 71777214294589695 (by decide) (fun _ _ _ => trivial) i hi (by decide)
  have b5 := fun x i hi => swp_bit x 16 281470681808895 (by decide) (fun _ _ _ => trivial) i hi (by decide)
  have l1 := swp_lt x 1 6148914691236517205 hx (by decide)
  have l2 := swp_lt _ 2 3689348814741910323 l1 (by decide)
  have l3 := swp_lt _ 4 1085102592571150095 l2 (by decide)
  have l4 := swp_lt _ 8 71777214294589695 l3 (by decide)
  have l5 := swp_lt _ 16 281470681808895 l4 (by decide)
  have hx64 : ∀ j, j < 64 → j ^^^ 1 < 64 ∧ j ^^^ 2 < 64 ∧ j ^^^ 4 < 64 ∧ j ^^^ 8 < 64 ∧ j ^^^ 16 < 64 := by decide
  rw [rv_bit]
  simp only
  by_cases hi : i < 64
  · have key : ∀ j, j < 64 → ∀ i, i < 64 → j = i ^^^ 32 → ((((j ^^^ 16) ^^^ 8) ^^^ 4) ^^^ 2) ^^^ 1 = 63 - i := by
      intro j hj i hi e; subst e; revert i; decide
    have main : ∀ j, j < 64 → (swp (swp (swp (swp (swp x 1 6148914691236517205) 2 3689348814741910323) 4 1085102592571150095) 8 71777214294589695) 16 281470681808895).testBit j = x.testBit (((((j ^^^ 16) ^^^ 8) ^^^ 4) ^^^ 2) ^^^ 1) := fun j hj => by
      have a1 := (hx64 j hj).2.2.2.2
      have a2 := (hx64 _ a1).2.2.2.1
      have a3 := (hx64 _ a2).2.2.1
      have a4 := (hx64 _ a3).2.1
      rw [b5 _ _ hj, b4 _ _ a1, b3 _ _ a2, b2 _ _ a3, b1 _ _ a4]
    rw [Nat.testBit_or, Nat.testBit_div_two_pow, Nat.testBit_mul_two_pow, Nat.testBit_mod_two_pow]
    simp only [hi, decide_true, Bool.true_and]
    by_cases h : i < 32
    · have hj : i + 32 < 64 := by omega
      have e : i + 32 = i ^^^ 32 := by revert i; decide
      rw [main _ hj, key _ hj i hi e]
      simp; omega
    · have hj : i - 32 < 64 := by omega
      have e : i - 32 = i ^^^ 32 := by
        have : ∀ i, i < 64 → ¬ i < 32 → i - 32 = i ^^^ 32 := by decide
        exact this i hi h
      have z : (swp (swp (swp (swp (swp x 1 6148914691236517205) 2 3689348814741910323) 4 1085102592571150095) 8 71777214294589695) 16 281470681808895).testBit (i + 32) = false :=
        Nat.testBit_lt_two_pow (Nat.lt_of_lt_of_le l5 (Nat.pow_le_pow_right (by decide) (by omega)))
      rw [z, main _ hj, key _ hj i hi e]
      simp [show 32 ≤ i by omega]; try omega
  · simp only [hi, decide_false, Bool.false_and]
    refine Nat.testBit_lt_two_pow (Nat.lt_of_lt_of_le ?_ (Nat.pow_le_pow_right (by decide) (show 64 ≤ i by omega)))
    refine Nat.or_lt_two_pow (Nat.lt_of_le_of_lt (Nat.div_le_self _ _) l5) ?_
    refine Nat.lt_of_lt_of_le (Nat.mul_lt_mul_of_pos_right (Nat.mod_lt (swp (swp (swp (swp (swp x 1 6148914691236517205) 2 3689348814741910323) 4 1085102592571150095) 8 71777214294589695) 16 281470681808895) (show 0 < 2 ^ 32 by decide)) (by decide)) (by decide)

theorem mul32_lt (t : Nat) : t % 4294967296 * 4294967296 < 18446744073709551616 := by omega
theorem mul32_wrap (t : Nat) : IntKind.u64.wrap ((t : Int) * 4294967296) = ((t % 4294967296 * 4294967296 : Nat) : Int) := by rw [IntKind.wrap_u64]; omega
theorem swp_run : ∀ (y s m : Nat), y < 18446744073709551616 → m * 2 ^ s < 18446744073709551616 → ∃ u v t : Nat, bits .and .u64 ((y / 2 ^ s : Nat) : Int) (m : Int) = (u : Int) ∧ bits .and .u64 (y : Int) (m : Int) = (v : Int) ∧ v * 2 ^ s < 18446744073709551616 ∧ u < 18446744073709551616 ∧ bits .or .u64 (u : Int) ((v * 2 ^ s : Nat) : Int) = (t : Int) ∧ t = swp y s m ∧ t < 18446744073709551616 := by
  intro y s m hy hm
  have hys : y / 2 ^ s < 18446744073709551616 := Nat.lt_of_le_of_lt (Nat.div_le_self _ _) hy
  have hmm : m < 18446744073709551616 := Nat.lt_of_le_of_lt (Nat.le_mul_of_pos_right _ (Nat.two_pow_pos s)) hm
  have hv : (y &&& m) * 2 ^ s < 18446744073709551616 := Nat.lt_of_le_of_lt (Nat.mul_le_mul_right _ Nat.and_le_right) hm
  have hu : (y / 2 ^ s &&& m) < 18446744073709551616 := Nat.lt_of_le_of_lt Nat.and_le_left hys
  exact ⟨_, _, _, u64_and_nat _ _ hys hmm, u64_and_nat _ _ hy hmm, hv, hu, u64_or_nat _ _ hu hv, rfl, swp_lt y s m hy hm⟩
theorem reverseBytes_c (x : Nat) (w : World) (hx : x < 18446744073709551616) :
    Calls Tryz.prog 173 #[.int .u64 (x : Nat)] w fun e w' => e = .returned (.int .u64 ((swp (swp x 8 71777214294589695) 16 281470681808895 / 2 ^ 32 ||| swp (swp x 8 71777214294589695) 16 281470681808895 % 2 ^ 32 * 2 ^ 32 : Nat) : Int)) ∧ w' = w := by
  have A := swp_run
  obtain ⟨u, v, t, h1, h2, h3, h4, h5, h6, h7⟩ := A x 8 71777214294589695 hx (by decide)
  obtain ⟨u', v', t', k1, k2, k3, k4, k5, k6, k7⟩ := A t 16 281470681808895 h7 (by decide)
  rw [← h6, ← k6]
  have H6 := Lib.hid h6
  have K6 := Lib.hid k6
  clear h6 k6 A
  have hq : t' / 4294967296 < 18446744073709551616 := Nat.lt_of_le_of_lt (Nat.div_le_self _ _) k7
  have hr : t' % 4294967296 * 4294967296 < 18446744073709551616 := mul32_lt t'
  have z : bits .or .u64 ((t' / 4294967296 : Nat) : Int) ((t' % 4294967296 * 4294967296 : Nat) : Int) = ((t' / 2 ^ 32 ||| t' % 2 ^ 32 * 2 ^ 32 : Nat) : Int) := u64_or_nat _ _ hq hr
  have zw : IntKind.u64.wrap ((t' : Int) * 4294967296) = ((t' % 4294967296 * 4294967296 : Nat) : Int) := mul32_wrap t'
  obtain ⟨r, hr⟩ : ∃ r, r = t' / 2 ^ 32 ||| t' % 2 ^ 32 * 2 ^ 32 := ⟨_, rfl⟩
  obtain ⟨g, hg⟩ : ∃ g, g = t' % 4294967296 * 4294967296 := ⟨_, rfl⟩
  rw [← hr] at z ⊢
  rw [← hg] at z zw
  replace hr := Lib.hid hr
  replace hg := Lib.hid hg
  simp at h1 h2 h3 h5 k1 k2 k3 k5 z
  go_enter Tryz.func173, Tryz.ntmps173
  go_wp2_with (fail)
  go_ret
  exact ⟨rfl, rfl⟩

theorem reverse64_c (x : Nat) (w : World) (hx : x < 18446744073709551616) :
    Calls Tryz.prog 172 #[.int .u64 (x : Nat)] w fun e w' => e = .returned (.int .u64 (rv 64 x : Nat)) ∧ w' = w := by
  have A := swp_run
  obtain ⟨u, v, t, h1, h2, h3, h4, h5, h6, h7⟩ := A x 1 6148914691236517205 hx (by decide)
  obtain ⟨u', v', t', k1, k2, k3, k4, k5, k6, k7⟩ := A t 2 3689348814741910323 h7 (by decide)
  obtain ⟨u'', v'', t'', m1, m2, m3, m4, m5, m6, m7⟩ := A t' 4 1085102592571150095 k7 (by decide)
  have hb := fun w => reverseBytes_c t'' w m7
  have e : (swp (swp t'' 8 71777214294589695) 16 281470681808895 / 2 ^ 32 ||| swp (swp t'' 8 71777214294589695) 16 281470681808895 % 2 ^ 32 * 2 ^ 32) = rv 64 x := by
    rw [m6, k6, h6]; exact rev64_rv x hx
  rw [e] at hb
  clear h6 k6 m6 A e
  obtain ⟨r, hr⟩ : ∃ r, r = rv 64 x := ⟨_, rfl⟩
  rw [← hr] at hb ⊢
  replace hr := Lib.hid hr
  have HB := Lib.hid hb
  clear hb
  simp at h1 h2 h3 h5 k1 k2 k3 k5 m1 m2 m3 m5
  go_enter Tryz.func172, Tryz.ntmps172
  go_wp2_with (fail)
  refine (HB.out w).mono ?_
  rintro e w1 ⟨rfl, rfl⟩
  go_wp2_with (fail)
  go_ret
  exact ⟨rfl, rfl⟩
end Go.Proofs.YtacjfpibilolnaaGreatDoor

/- Numbers modulo p as a ring; what the transform's loops keep. -/
set_option linter.unusedVariables false
set_option linter.unusedSimpArgs false
namespace Go.Proofs.YtacjfpibilolnaaGreatDoor

/-- φ reads a number modulo p. -/
structure Hom (p : Nat) [NeZero p] (φ : Nat → Fin p) : Prop where
  add : ∀ a b, φ (a + b) = φ a + φ b
  mul : ∀ a b, φ (a * b) = φ a * φ b
  one : φ 1 = 1
  modp : ∀ n, φ (n % p) = φ n
  inj : ∀ a b, φ a = φ b → a % p = b % p

section
variable {p : Nat} [NeZero p] {φ : Nat → Fin p}
theorem Hom.zero (h : Hom p φ) : φ 0 = 0 := by
  have := h.add 0 0
  rw [Nat.add_zero] at this; grind
theorem Hom.p0 (h : Hom p φ) : φ p = 0 := by rw [← h.modp, Nat.mod_self, h.zero]
theorem Hom.sub (h : Hom p φ) {a b : Nat} (hb : b ≤ a + p) : φ ((a + p - b) % p) = φ a - φ b := by
  rw [h.modp]
  have h1 := h.add (a + p - b) b
  rw [Nat.sub_add_cancel hb, h.add, h.p0] at h1
  grind
theorem Hom.pow (h : Hom p φ) (b e : Nat) : φ (b ^ e) = pw (φ b) e := by
  induction e with
  | zero => rw [Nat.pow_zero, h.one]; rfl
  | succ e ih => rw [Nat.pow_succ, h.mul, ih]; rfl
theorem Hom.eq (h : Hom p φ) {a b : Nat} (ha : a < p) (e : φ a = φ b) : a = b % p := by
  have := h.inj _ _ e
  rwa [Nat.mod_eq_of_lt ha] at this
theorem Hom.sm (h : Hom p φ) (f : Nat → Nat) (n : Nat) : φ (sm f n) = sm (fun i => φ (f i)) n := by
  induction n with
  | zero => exact h.zero
  | succ n ih => simp only [Go.Proofs.YtacjfpibilolnaaGreatDoor.sm, h.add, ih]
theorem Hom.cv (h : Hom p φ) (a b : Nat → Nat) (n j : Nat) : φ (cv a b n j) = cv (fun i => φ (a i)) (fun i => φ (b i)) n j := by
  unfold Go.Proofs.YtacjfpibilolnaaGreatDoor.cv
  rw [h.sm]
  refine sm_congr fun i _ => ?_
  split
  · rw [h.mul]
  · exact h.zero
end

theorem hom_fin (p : Nat) [NeZero p] : Hom p (fun n => Fin.ofNat p n) where
  add a b := by simp [Fin.ofNat, Fin.add_def]
  mul a b := by simp [Fin.ofNat, Fin.mul_def, Nat.mul_mod]
  one := rfl
  modp n := by simp [Fin.ofNat]
  inj a b h := by simpa [Fin.ofNat] using h

/-- The stage's number at a place. -/
def stg {p : Nat} [NeZero p] (f : Nat → Fin p) (w : Fin p) (K s x : Nat) : Fin p := stage f w K s (x / 2 ^ s) (x % 2 ^ s)
section
variable {p : Nat} [NeZero p]
theorem stg_start (f : Nat → Fin p) (w : Fin p) (k x : Nat) : stg f w k 0 x = f (rv k x) := by
  unfold stg
  rw [Nat.pow_zero, Nat.div_one, Nat.mod_one, stage_start f w k x 0]
theorem stg_end (f : Nat → Fin p) (w : Fin p) (k x : Nat) (h : x < 2 ^ k) : stg f w 0 k x = dft f w (2 ^ k) x := by
  unfold stg
  rw [Nat.div_eq_of_lt h, Nat.mod_eq_of_lt h, stage_end]
theorem stg_both (f : Nat → Fin p) (w : Fin p) (K s m t H z : Nat) (hH : H = 2 ^ s) (ht : t < H) (zz : Fin p) (hz : zz = pw w (2 ^ K * t)) (hw : pw w (2 ^ (K + s)) = -1) :
    stg f w K (s + 1) (m * (2 * H) + t) = stg f w (K + 1) s (m * (2 * H) + t) + zz * stg f w (K + 1) s (m * (2 * H) + t + H) ∧
    stg f w K (s + 1) (m * (2 * H) + t + H) = stg f w (K + 1) s (m * (2 * H) + t) - zz * stg f w (K + 1) s (m * (2 * H) + t + H) := by
  have h0 : 0 < H := by omega
  have e1 : 2 ^ (s + 1) = 2 * H := by rw [hH, Nat.pow_succ, Nat.mul_comm]
  have a1 : (m * (2 * H) + t) / (2 * H) = m := by
    rw [Nat.mul_comm, Nat.mul_add_div (by omega), Nat.div_eq_of_lt (by omega), Nat.add_zero]
  have a2 : (m * (2 * H) + t) % (2 * H) = t := by
    rw [Nat.mul_comm, Nat.mul_add_mod, Nat.mod_eq_of_lt (by omega)]
  have a3 : (m * (2 * H) + t + H) / (2 * H) = m := by
    rw [Nat.mul_comm, Nat.add_assoc, Nat.mul_add_div (by omega), Nat.div_eq_of_lt (by omega), Nat.add_zero]
  have a4 : (m * (2 * H) + t + H) % (2 * H) = t + H := by
    rw [Nat.mul_comm, Nat.add_assoc, Nat.mul_add_mod, Nat.mod_eq_of_lt (by omega)]
  have b1 : (m * (2 * H) + t) / H = 2 * m := by
    rw [show m * (2 * H) + t = H * (2 * m) + t by grind, Nat.mul_add_div h0, Nat.div_eq_of_lt ht, Nat.add_zero]
  have b2 : (m * (2 * H) + t) % H = t := by
    rw [show m * (2 * H) + t = H * (2 * m) + t by grind, Nat.mul_add_mod, Nat.mod_eq_of_lt ht]
  have b3 : (m * (2 * H) + t + H) / H = 2 * m + 1 := by
    rw [show m * (2 * H) + t + H = H * (2 * m + 1) + t by grind, Nat.mul_add_div h0, Nat.div_eq_of_lt ht, Nat.add_zero]
  have b4 : (m * (2 * H) + t + H) % H = t := by
    rw [show m * (2 * H) + t + H = H * (2 * m + 1) + t by grind, Nat.mul_add_mod, Nat.mod_eq_of_lt ht]
  unfold stg
  rw [e1, ← hH, a1, a2, a3, a4, b1, b2, b3, b4, hH]
  exact ⟨stage_low f w K s m t zz hz, stage_high f w K s m t zz hz hw⟩
end

theorem gl_set_eq' {L : List Nat} {i x : Nat} (h : i < L.length) : gl (L.set i x) i = x := by simp [gl, h]
theorem gl_set_ne' {L : List Nat} {i j x : Nat} (h : i ≠ j) : gl (L.set i x) j = gl L j := by simp [gl, List.getElem?_set_ne h]
theorem swap_yes (n k i j : Nat) (M L : List Nat) (hr : ∀ x, rv k x < n) (hrr : ∀ x, x < n → rv k (rv k x) = x) (hl : M.length = n) (hi : i < n) (hj : j = rv k i) (hij : i < j)
    (h : ∀ t, t < n → gl M t = if min t (rv k t) < i then gl L (rv k t) else gl L t) : ∀ t, t < n → gl ((M.set i (gl M j)).set j (gl M i)) t = if min t (rv k t) < i + 1 then gl L (rv k t) else gl L t := by
  intro t ht
  have hjn : j < n := by rw [hj]; exact hr i
  have hji : rv k j = i := by rw [hj]; exact hrr i hi
  have c1 : ¬ min i (rv k i) < i := by omega
  have c2 : ¬ min j (rv k j) < i := by omega
  by_cases e : t = j
  · have c3 : min t (rv k t) < i + 1 := by rw [e]; omega
    rw [e, gl_set_eq' (by rw [List.length_set]; omega), h i hi, if_neg c1, hji] 
    rw [e, hji] at c3
    rw [if_pos c3]
  · rw [gl_set_ne' (by omega)]
    by_cases e2 : t = i
    · have c3 : min t (rv k t) < i + 1 := by rw [e2]; omega
      rw [if_pos c3, e2, gl_set_eq' (by omega), h j hjn, if_neg c2, ← hj]
    · rw [gl_set_ne' (by omega), h t ht]
      have : rv k t ≠ i := fun h2 => e (by rw [hj, ← h2, hrr t ht])
      by_cases c : min t (rv k t) < i
      · have c3 : min t (rv k t) < i + 1 := by omega
        rw [if_pos c, if_pos c3]
      · have c3 : ¬ min t (rv k t) < i + 1 := by omega
        rw [if_neg c, if_neg c3]
theorem swap_no (n k i j : Nat) (M L : List Nat) (hrr : ∀ x, x < n → rv k (rv k x) = x) (hi : i < n) (hj : j = rv k i) (hij : ¬ i < j)
    (h : ∀ t, t < n → gl M t = if min t (rv k t) < i then gl L (rv k t) else gl L t) : ∀ t, t < n → gl M t = if min t (rv k t) < i + 1 then gl L (rv k t) else gl L t := by
  intro t ht
  rw [h t ht]
  by_cases c : min t (rv k t) < i
  · have c3 : min t (rv k t) < i + 1 := by omega
    rw [if_pos c, if_pos c3]
  · rw [if_neg c]
    by_cases c2 : min t (rv k t) < i + 1
    · rw [if_pos c2]
      by_cases e : t = i
      · subst e
        have : rv k t = t := by omega
        rw [this]
      · have e2 : rv k t = i := by omega
        have : t = j := by rw [hj, ← e2, hrr t ht]
        omega
    · rw [if_neg c2]
end Go.Proofs.YtacjfpibilolnaaGreatDoor
