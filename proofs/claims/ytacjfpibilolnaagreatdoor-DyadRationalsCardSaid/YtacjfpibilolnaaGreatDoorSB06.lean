/- Products by halves and by thirds: what they are made of. -/
import Derived.Test.YtacjfpibilolnaaGreatDoorSB05
import Derived.Test.YtacjfpibilolnaaGreatDoorSB01
set_option maxRecDepth 100000
set_option maxHeartbeats 4000000
set_option linter.unusedVariables false
set_option linter.unusedSimpArgs false
namespace Go.Proofs.YtacjfpibilolnaaGreatDoor
open Go.RowKit Go.Shelf
attribute [local go_sem] max2_i min2_i max_two min_two

theorem shl_e (A : Option Addr) (c a : Nat) (n : Int) (m : Nat) (w : World) (hA : NatV w A c a) (ha : nl a ≤ 1073741824) (hn : n = (m : Int)) (hm : m ≤ 1073741824) :
    Calls Tryz.prog 104 #[.slice A (nl a) c, .int .i64 n] w (RetN w (a * 2 ^ m)) := by
  subst hn
  have := shl_ci A c a (m : Int) w hA ha (by omega) (by omega)
  rwa [Int.toNat_natCast] at this
theorem shr_e (A : Option Addr) (c a : Nat) (n : Int) (m : Nat) (w : World) (hA : NatV w A c a) (ha : nl a ≤ 1073741824) (hn : n = (m : Int)) (hm : m ≤ 1099511627776) :
    Calls Tryz.prog 105 #[.slice A (nl a) c, .int .i64 n] w (RetN w (a / 2 ^ m)) := by
  subst hn
  have := shr_ci A c a (m : Int) w hA ha (by omega) (by omega)
  rwa [Int.toNat_natCast] at this
theorem part_e (A : Option Addr) (c a : Nat) (n n' : Int) (i m : Nat) (w : World) (hA : NatV w A c a) (ha : nl a ≤ 1073741824) (hn : n = (i : Int)) (hn' : n' = ((i + m : Nat) : Int)) (hm : i + m ≤ 1073741824) :
    Calls Tryz.prog 146 #[.slice A (nl a) c, .int .i64 n, .int .i64 n'] w (RetN w (cut a i m)) := by
  subst hn hn'
  have := part_c A c a (i : Int) ((i + m : Nat) : Int) w hA ha (by omega) (by omega) (by omega)
  rwa [Int.toNat_natCast, show (((i + m : Nat) : Int) - (i : Int)).toNat = m by omega] at this

theorem less_c (A : Option Addr) (c a : Nat) (B : Option Addr) (d b : Nat) (w : World) (hA : NatV w A c a) (hB : NatV w B d b) (ha : nl a ≤ 1073741824) (hb : nl b ≤ 1073741824) (h : b ≤ a) :
    Calls Tryz.prog 151 #[.slice A (nl a) c, .slice B (nl b) d] w (RetN w (a - b)) := by
  go_enter Tryz.func151, Tryz.ntmps151
  go_wp2_with (fail)
  refine (sub_c A c a B d b w hA hB ha hb h).mono ?_
  rintro e w1 ⟨X, cx, rfl, h1, h2⟩
  go_wp2_with (fail)
  go_ret
  exact ⟨X, cx, rfl, h1, h2⟩
theorem apart_c (A : Option Addr) (c a : Nat) (B : Option Addr) (d b : Nat) (w : World) (hA : NatV w A c a) (hB : NatV w B d b) (ha : nl a ≤ 1073741824) (hb : nl b ≤ 1073741824) :
    Calls Tryz.prog 166 #[.slice A (nl a) c, .slice B (nl b) d] w fun e w' => ∃ X cx, e = .returned (.tuple #[.slice X (nl (a - b + (b - a))) cx, .bool (decide (a < b))]) ∧ NatV w' X cx (a - b + (b - a)) ∧ Below w.heap.size w w' := by
  by_cases h : a < b
  · go_enter Tryz.func166, Tryz.ntmps166
    go_wp2_with (fail)
    refine (subNot_c A c a B d b w hA hB ha hb h).mono ?_
    rintro e w1 ⟨rfl, h1⟩
    go_wp2_with (fail)
    refine (less_c B d b A c a w1 (hB.below h1) (hA.below h1) hb ha (by omega)).mono ?_
    rintro e w2 ⟨X, cx, rfl, h2, h3⟩
    go_wp2_with (fail)
    go_ret2
    rw [show a - b + (b - a) = b - a by omega]
    exact ⟨X, cx, by simp [h], h2, h1.cons h3⟩
  · go_enter Tryz.func166, Tryz.ntmps166
    go_wp2_with (fail)
    refine (sub_c A c a B d b w hA hB ha hb (by omega)).mono ?_
    rintro e w1 ⟨X, cx, rfl, h1, h2⟩
    go_wp2_with (fail)
    go_ret2
    rw [show a - b + (b - a) = a - b by omega]
    exact ⟨X, cx, by simp [h], h1, h2⟩

theorem cut_low (a k : Nat) : cut a 0 k = a % 2 ^ (32 * k) := by simp [cut]
theorem cut_high {a k m : Nat} (h : nl a ≤ k + m) : cut a k m = a / 2 ^ (32 * k) := by
  unfold cut
  have h1 := nl_shr32 a k
  rw [Nat.mod_eq_of_lt]
  rw [pow32 m]
  exact nl_le.1 (by omega)
theorem kar_math (a b p a0 a1 b0 b1 : Nat) (ha : p * a1 + a0 = a) (hb : p * b1 + b0 = b) :
    a0 * b0 + a1 * b1 ≤ (a0 + a1) * (b0 + b1) ∧ a0 * b0 + (((a0 + a1) * (b0 + b1) - (a0 * b0 + a1 * b1)) * p + a1 * b1 * (p * p)) = a * b := by
  have e : (a0 + a1) * (b0 + b1) = a0 * b0 + a1 * b1 + (a0 * b1 + a1 * b0) := by grind
  rw [e, Nat.add_sub_cancel_left]
  subst ha hb
  exact ⟨Nat.le_add_right _ _, by grind⟩

theorem karatsuba_c (N : Nat) : ∀ (A : Option Addr) (c a : Nat) (B : Option Addr) (d b : Nat) (w : World), NatV w A c a → NatV w B d b → nl a ≤ N → nl b ≤ N → N ≤ 16777216 →
    Calls Tryz.prog 136 #[.slice A (nl a) c, .slice B (nl b) d] w (RetN w (a * b)) := by
  induction N using Nat.strongRecOn with
  | _ N ih =>
    intro A c a B d b w hA hB ha hb hN
    by_cases hm : min (nl a) (nl b) < 4
    · go_enter Tryz.func136, Tryz.ntmps136
      have hd : decide (min (nl a : Int) (nl b : Int) < 4) = true := by simp; omega
      go_wp2_with (fail)
      refine (school_c A c a B d b w hA hB (by omega) (by omega)).mono ?_
      rintro e w1 ⟨X, cx, rfl, h1, h2⟩
      go_wp2_with (fail)
      go_ret
      exact ⟨X, cx, rfl, h1, h2⟩
    · have hd : decide (min (nl a : Int) (nl b : Int) < 4) = false := by simp; omega
      obtain ⟨m, hmx⟩ : ∃ m, m = max (nl a) (nl b) := ⟨_, rfl⟩
      obtain ⟨k, hk⟩ : ∃ k, k = (m + 1) / 2 := ⟨_, rfl⟩
      have hmI : max (nl a : Int) (nl b : Int) = (m : Int) := by omega
      have hkI : ((m : Int) + 1) / 2 = (k : Int) := by omega
      have hkm : 4 ≤ m ∧ k + 1 < m + 0 ∧ m ≤ 2 * k ∧ m ≤ N := by omega
      have HK := Lib.hid hk
      have HMX := Lib.hid hmx
      have hla : nl a ≤ m := by omega
      have hlb : nl b ≤ m := by omega
      have hs1 : ∀ a0 a1, a0 = cut a 0 k → a1 = cut a k (m - k) → 2 ^ (32 * k) * a1 + a0 = a := fun a0 a1 h0 h1 => by
        rw [h0, h1, cut_low, cut_high (by omega)]; exact Nat.div_add_mod _ _
      have hs2 : ∀ b0 b1, b0 = cut b 0 k → b1 = cut b k (m - k) → 2 ^ (32 * k) * b1 + b0 = b := fun a0 a1 h0 h1 => by
        rw [h0, h1, cut_low, cut_high (by omega)]; exact Nat.div_add_mod _ _
      have ih' : ∀ (A : Option Addr) (c a : Nat) (B : Option Addr) (d b : Nat) (w : World), NatV w A c a → NatV w B d b → nl a ≤ k + 1 → nl b ≤ k + 1 → Calls Tryz.prog 136 #[.slice A (nl a) c, .slice B (nl b) d] w (RetN w (a * b)) :=
        fun A c a B d b w h1 h2 h3 h4 => ih (k + 1) (by omega) A c a B d b w h1 h2 h3 h4 (by omega)
      have IH := Lib.hid ih'
      have HS1 := hs1
      have HS2 := hs2
      replace HS1 := Lib.hid HS1
      replace HS2 := Lib.hid HS2
      clear ih' ih hs1 hs2 hk hmx hm
      go_enter Tryz.func136, Tryz.ntmps136
      go_wp2_with (fail)
      obtain ⟨a0, Ea0⟩ : ∃ z : Nat, z = cut a 0 k := ⟨_, rfl⟩
      have Ba0 : nl a0 ≤ k := by rw [Ea0]; exact nl_cut _ _ _
      refine (Calls.mono (R := RetN w a0) (by rw [Ea0]; exact part_e A c a _ _ 0 k w hA (by omega) (by omega) (by omega) (by omega)) ?_)
      replace Ea0 := Lib.hid Ea0
      rintro e W1 ⟨X1, c1, rfl, ha0, hb1⟩
      replace hA := hA.below hb1
      replace hB := hB.below hb1
      have HBT := hb1
      clear hb1
      go_wp2_with (fail)
      obtain ⟨a1, Ea1⟩ : ∃ z : Nat, z = cut a k (m - k) := ⟨_, rfl⟩
      have Ba1 : nl a1 ≤ (m - k) := by rw [Ea1]; exact nl_cut _ _ _
      refine (Calls.mono (R := RetN W1 a1) (by rw [Ea1]; exact part_e A c a _ _ k (m - k) W1 hA (by omega) (by omega) (by omega) (by omega)) ?_)
      replace Ea1 := Lib.hid Ea1
      rintro e W2 ⟨X2, c2, rfl, ha1, hb2⟩
      replace hA := hA.below hb2
      replace hB := hB.below hb2
      replace ha0 := ha0.below hb2
      replace HBT := Below.cons HBT hb2
      clear hb2
      go_wp2_with (fail)
      have HA1 := hA
      clear HA1
      clear hA
      obtain ⟨b0, Eb0⟩ : ∃ z : Nat, z = cut b 0 k := ⟨_, rfl⟩
      have Bb0 : nl b0 ≤ k := by rw [Eb0]; exact nl_cut _ _ _
      refine (Calls.mono (R := RetN W2 b0) (by rw [Eb0]; exact part_e B d b _ _ 0 k W2 hB (by omega) (by omega) (by omega) (by omega)) ?_)
      replace Eb0 := Lib.hid Eb0
      rintro e W3 ⟨X3, c3, rfl, hb0, hb3⟩
      replace hB := hB.below hb3
      replace ha0 := ha0.below hb3
      replace ha1 := ha1.below hb3
      replace HBT := Below.cons HBT hb3
      clear hb3
      go_wp2_with (fail)
      obtain ⟨b1, Eb1⟩ : ∃ z : Nat, z = cut b k (m - k) := ⟨_, rfl⟩
      have Bb1 : nl b1 ≤ (m - k) := by rw [Eb1]; exact nl_cut _ _ _
      refine (Calls.mono (R := RetN W3 b1) (by rw [Eb1]; exact part_e B d b _ _ k (m - k) W3 hB (by omega) (by omega) (by omega) (by omega)) ?_)
      replace Eb1 := Lib.hid Eb1
      rintro e W4 ⟨X4, c4, rfl, hb1, hb4⟩
      replace hB := hB.below hb4
      replace ha0 := ha0.below hb4
      replace ha1 := ha1.below hb4
      replace hb0 := hb0.below hb4
      replace HBT := Below.cons HBT hb4
      clear hb4
      go_wp2_with (fail)
      clear hB
      obtain ⟨low, Elow⟩ : ∃ z : Nat, z = a0 * b0 := ⟨_, rfl⟩
      have Blow : nl low ≤ 2 * k := by rw [Elow]; have := nl_mul a0 b0; omega
      refine (Calls.mono (R := RetN W4 low) (by rw [Elow]; exact IH.out X1 c1 a0 X3 c3 b0 W4 ha0 hb0 (by omega) (by omega)) ?_)
      replace Elow := Lib.hid Elow
      rintro e W5 ⟨X5, c5, rfl, hlow, hb5⟩
      replace ha0 := ha0.below hb5
      replace ha1 := ha1.below hb5
      replace hb0 := hb0.below hb5
      replace hb1 := hb1.below hb5
      replace HBT := Below.cons HBT hb5
      clear hb5
      go_wp2_with (fail)
      obtain ⟨high, Ehigh⟩ : ∃ z : Nat, z = a1 * b1 := ⟨_, rfl⟩
      have Bhigh : nl high ≤ 2 * k := by rw [Ehigh]; have := nl_mul a1 b1; omega
      refine (Calls.mono (R := RetN W5 high) (by rw [Ehigh]; exact IH.out X2 c2 a1 X4 c4 b1 W5 ha1 hb1 (by omega) (by omega)) ?_)
      replace Ehigh := Lib.hid Ehigh
      rintro e W6 ⟨X6, c6, rfl, hhigh, hb6⟩
      replace ha0 := ha0.below hb6
      replace ha1 := ha1.below hb6
      replace hb0 := hb0.below hb6
      replace hb1 := hb1.below hb6
      replace hlow := hlow.below hb6
      replace HBT := Below.cons HBT hb6
      clear hb6
      go_wp2_with (fail)
      obtain ⟨sa, Esa⟩ : ∃ z : Nat, z = a0 + a1 := ⟨_, rfl⟩
      have Bsa : nl sa ≤ k + 1 := by rw [Esa]; have := nl_add a0 a1; omega
      refine (Calls.mono (R := RetN W6 sa) (by rw [Esa]; exact add_c X1 c1 a0 X2 c2 a1 W6 ha0 ha1 (by omega) (by omega)) ?_)
      replace Esa := Lib.hid Esa
      rintro e W7 ⟨X7, c7, rfl, hsa, hb7⟩
      replace ha0 := ha0.below hb7
      replace ha1 := ha1.below hb7
      replace hb0 := hb0.below hb7
      replace hb1 := hb1.below hb7
      replace hlow := hlow.below hb7
      replace hhigh := hhigh.below hb7
      replace HBT := Below.cons HBT hb7
      clear hb7
      go_wp2_with (fail)
      obtain ⟨sb, Esb⟩ : ∃ z : Nat, z = b0 + b1 := ⟨_, rfl⟩
      have Bsb : nl sb ≤ k + 1 := by rw [Esb]; have := nl_add b0 b1; omega
      refine (Calls.mono (R := RetN W7 sb) (by rw [Esb]; exact add_c X3 c3 b0 X4 c4 b1 W7 hb0 hb1 (by omega) (by omega)) ?_)
      replace Esb := Lib.hid Esb
      rintro e W8 ⟨X8, c8, rfl, hsb, hb8⟩
      replace ha0 := ha0.below hb8
      replace ha1 := ha1.below hb8
      replace hb0 := hb0.below hb8
      replace hb1 := hb1.below hb8
      replace hlow := hlow.below hb8
      replace hhigh := hhigh.below hb8
      replace hsa := hsa.below hb8
      replace HBT := Below.cons HBT hb8
      clear hb8
      go_wp2_with (fail)
      clear ha0
      clear ha1
      clear hb0
      clear hb1
      obtain ⟨pr, Epr⟩ : ∃ z : Nat, z = sa * sb := ⟨_, rfl⟩
      have Bpr : nl pr ≤ 2 * k + 2 := by rw [Epr]; have := nl_mul sa sb; omega
      refine (Calls.mono (R := RetN W8 pr) (by rw [Epr]; exact IH.out X7 c7 sa X8 c8 sb W8 hsa hsb (by omega) (by omega)) ?_)
      replace Epr := Lib.hid Epr
      rintro e W9 ⟨X9, c9, rfl, hpr, hb9⟩
      replace hlow := hlow.below hb9
      replace hhigh := hhigh.below hb9
      replace hsa := hsa.below hb9
      replace hsb := hsb.below hb9
      replace HBT := Below.cons HBT hb9
      clear hb9
      go_wp2_with (fail)
      clear hsa
      clear hsb
      obtain ⟨lh, Elh⟩ : ∃ z : Nat, z = low + high := ⟨_, rfl⟩
      have Blh : nl lh ≤ 2 * k + 1 := by rw [Elh]; have := nl_add low high; omega
      refine (Calls.mono (R := RetN W9 lh) (by rw [Elh]; exact add_c X5 c5 low X6 c6 high W9 hlow hhigh (by omega) (by omega)) ?_)
      replace Elh := Lib.hid Elh
      rintro e W10 ⟨X10, c10, rfl, hlh, hb10⟩
      replace hlow := hlow.below hb10
      replace hhigh := hhigh.below hb10
      replace hpr := hpr.below hb10
      replace HBT := Below.cons HBT hb10
      clear hb10
      go_wp2_with (fail)
      have hle : lh ≤ pr := by
        have := (kar_math a b (2 ^ (32 * k)) a0 a1 b0 b1 (HS1.out a0 a1 Ea0.out Ea1.out) (HS2.out b0 b1 Eb0.out Eb1.out)).1
        rw [Elh.out, Epr.out, Elow.out, Ehigh.out, Esa.out, Esb.out]; exact this
      obtain ⟨mid, Emid⟩ : ∃ z : Nat, z = pr - lh := ⟨_, rfl⟩
      have Bmid : nl mid ≤ 2 * k + 2 := by rw [Emid]; have := nl_sub pr lh; omega
      refine (Calls.mono (R := RetN W10 mid) (by rw [Emid]; exact less_c X9 c9 pr X10 c10 lh W10 hpr hlh (by omega) (by omega) hle) ?_)
      replace Emid := Lib.hid Emid
      rintro e W11 ⟨X11, c11, rfl, hmid, hb11⟩
      replace hlow := hlow.below hb11
      replace hhigh := hhigh.below hb11
      replace hpr := hpr.below hb11
      replace hlh := hlh.below hb11
      replace HBT := Below.cons HBT hb11
      clear hb11
      go_wp2_with (fail)
      clear hpr
      clear hlh
      obtain ⟨ms, Ems⟩ : ∃ z : Nat, z = mid * 2 ^ (32 * k) := ⟨_, rfl⟩
      have Bms : nl ms ≤ 3 * k + 4 := by rw [Ems]; have := nl_shl mid (32 * k); omega
      refine (Calls.mono (R := RetN W11 ms) (by rw [Ems]; exact shl_e X11 c11 mid _ (32 * k) W11 hmid (by omega) (by omega) (by omega)) ?_)
      replace Ems := Lib.hid Ems
      rintro e W12 ⟨X12, c12, rfl, hms, hb12⟩
      replace hlow := hlow.below hb12
      replace hhigh := hhigh.below hb12
      replace hmid := hmid.below hb12
      replace HBT := Below.cons HBT hb12
      clear hb12
      go_wp2_with (fail)
      clear hmid
      obtain ⟨hs, Ehs⟩ : ∃ z : Nat, z = high * 2 ^ (64 * k) := ⟨_, rfl⟩
      have Bhs : nl hs ≤ 4 * k + 4 := by rw [Ehs]; have := nl_shl high (64 * k); omega
      refine (Calls.mono (R := RetN W12 hs) (by rw [Ehs]; exact shl_e X6 c6 high _ (64 * k) W12 hhigh (by omega) (by omega) (by omega)) ?_)
      replace Ehs := Lib.hid Ehs
      rintro e W13 ⟨X13, c13, rfl, hhs, hb13⟩
      replace hlow := hlow.below hb13
      replace hhigh := hhigh.below hb13
      replace hms := hms.below hb13
      replace HBT := Below.cons HBT hb13
      clear hb13
      go_wp2_with (fail)
      clear hhigh
      obtain ⟨mh, Emh⟩ : ∃ z : Nat, z = ms + hs := ⟨_, rfl⟩
      have Bmh : nl mh ≤ 4 * k + 5 := by rw [Emh]; have := nl_add ms hs; omega
      refine (Calls.mono (R := RetN W13 mh) (by rw [Emh]; exact add_c X12 c12 ms X13 c13 hs W13 hms hhs (by omega) (by omega)) ?_)
      replace Emh := Lib.hid Emh
      rintro e W14 ⟨X14, c14, rfl, hmh, hb14⟩
      replace hlow := hlow.below hb14
      replace hms := hms.below hb14
      replace hhs := hhs.below hb14
      replace HBT := Below.cons HBT hb14
      clear hb14
      go_wp2_with (fail)
      clear hms
      clear hhs
      obtain ⟨rs, Ers⟩ : ∃ z : Nat, z = low + mh := ⟨_, rfl⟩
      have Brs : nl rs ≤ 4 * k + 6 := by rw [Ers]; have := nl_add low mh; omega
      refine (Calls.mono (R := RetN W14 rs) (by rw [Ers]; exact add_c X5 c5 low X14 c14 mh W14 hlow hmh (by omega) (by omega)) ?_)
      replace Ers := Lib.hid Ers
      rintro e W15 ⟨X15, c15, rfl, hrs, hb15⟩
      replace hlow := hlow.below hb15
      replace hmh := hmh.below hb15
      replace HBT := Below.cons HBT hb15
      clear hb15
      go_wp2_with (fail)
      go_ret
      have hfin : rs = a * b := by
        have := (kar_math a b (2 ^ (32 * k)) a0 a1 b0 b1 (HS1.out a0 a1 Ea0.out Ea1.out) (HS2.out b0 b1 Eb0.out Eb1.out)).2
        rw [Ers.out, Emh.out, Ems.out, Ehs.out, Emid.out, Epr.out, Elh.out, Elow.out, Ehigh.out, Esa.out, Esb.out, show 64 * k = 32 * k + 32 * k by omega, Nat.pow_add]; exact this
      rw [← hfin]
      exact ⟨_, _, rfl, hrs, HBT⟩
end Go.Proofs.YtacjfpibilolnaaGreatDoor

/- Plain numbers for division: windows of a row of limbs, a digit guessed of leading limbs, one step of division by school. No Go in it. -/
set_option linter.unusedVariables false
set_option linter.unusedSimpArgs false
namespace Go.Proofs.YtacjfpibilolnaaGreatDoor

/-- The value of m limbs of a row, from place i on (0 beyond its end). -/
def wnd (X : List Nat) (i : Nat) : Nat → Nat
  | 0 => 0
  | m + 1 => wnd X i m + 4294967296 ^ m * gl X (i + m)
theorem wnd_lt {X : List Nat} (h : Lim X) (i m : Nat) : wnd X i m < 4294967296 ^ m := by
  induction m with
  | zero => simp [wnd]
  | succ m ih =>
    have := h.gl (i + m)
    have h2 := Nat.mul_le_mul_left (4294967296 ^ m) (show gl X (i + m) + 1 ≤ 4294967296 by omega)
    rw [wnd, Nat.pow_succ]
    rw [Nat.mul_add, Nat.mul_one] at h2
    omega
theorem wnd_congr {X Y : List Nat} {i m : Nat} (h : ∀ j, j < m → gl X (i + j) = gl Y (i + j)) : wnd X i m = wnd Y i m := by
  induction m with
  | zero => rfl
  | succ m ih => rw [wnd, wnd, ih (fun j hj => h j (by omega)), h m (by omega)]
theorem wnd_add (X : List Nat) (i m k : Nat) : wnd X i (m + k) = wnd X i m + 4294967296 ^ m * wnd X (i + m) k := by
  induction k with
  | zero => simp [wnd]
  | succ k ih => rw [← Nat.add_assoc, wnd, ih, wnd, Nat.mul_add, Nat.pow_add, Nat.add_assoc i m k]; grind
theorem wnd_val (X : List Nat) (m : Nat) (h : X.length ≤ m) : wnd X 0 m = val X := by
  have key : ∀ m, m ≤ X.length → wnd X 0 m = val (X.take m) := by
    intro m
    induction m with
    | zero => intro _; simp [wnd, val]
    | succ m ih => intro hm; rw [wnd, ih (by omega), val_take_succ _ _ (by omega), Nat.zero_add]
  have h0 : ∀ k, wnd X X.length k = 0 := by
    intro k
    induction k with
    | zero => rfl
    | succ k ih => rw [wnd, ih, gl_of_le (by omega)]; simp
  obtain ⟨k, rfl⟩ : ∃ k, m = X.length + k := ⟨m - X.length, by omega⟩
  rw [wnd_add, Nat.zero_add, h0, key _ (Nat.le_refl _), List.take_of_length_le (Nat.le_refl _)]; simp
theorem wnd_zero {X : List Nat} {i m : Nat} (h : ∀ j, j < m → gl X (i + j) = 0) : wnd X i m = 0 := by
  induction m with
  | zero => rfl
  | succ m ih => rw [wnd, ih (fun j hj => h j (by omega)), h m (by omega)]; simp
theorem wnd_eq_div {X : List Nat} (h : Lim X) (i m : Nat) (hz : ∀ j, i + m ≤ j → gl X j = 0) : wnd X i m = val X / 4294967296 ^ i := by
  have e : val X = wnd X 0 i + 4294967296 ^ i * wnd X i m := by
    rw [← wnd_val X (i + m + X.length) (by omega), wnd_add, wnd_add, Nat.zero_add, Nat.zero_add, wnd_zero (i := i + m) (fun j _ => hz _ (by omega))]; simp
  have hl := wnd_lt h 0 i
  rw [e, Nat.add_mul_div_left _ _ (Nat.pow_pos (by decide)), Nat.div_eq_of_lt hl]; omega

/-! A digit, guessed of three limbs and two. -/
def dig3 (x2 x1 x0 y1 y0 : Nat) : Nat := min ((x2 * 4294967296 * 4294967296 + x1 * 4294967296 + x0) / (y1 * 4294967296 + y0)) 4294967295
theorem dig3_lt (x2 x1 x0 y1 y0 : Nat) : dig3 x2 x1 x0 y1 y0 < 4294967296 := by unfold dig3; omega
theorem dig3_start {x2 x1 x0 y1 y0 : Nat} (hy : 0 < y1) (hx0 : x0 < 4294967296) : dig3 x2 x1 x0 y1 y0 ≤ (x2 * 4294967296 + x1) / y1 := by
  refine Nat.le_trans (Nat.min_le_left _ _) ?_
  have h1 : (x2 * 4294967296 * 4294967296 + x1 * 4294967296 + x0) / (y1 * 4294967296 + y0) ≤ (x2 * 4294967296 * 4294967296 + x1 * 4294967296 + x0) / (y1 * 4294967296) := Nat.div_le_div_left (by omega) (by omega)
  refine Nat.le_trans h1 ?_
  rw [Nat.mul_comm y1, ← Nat.div_div_eq_div_mul]
  have e : (x2 * 4294967296 * 4294967296 + x1 * 4294967296 + x0) / 4294967296 = x2 * 4294967296 + x1 := by omega
  rw [e]; exact Nat.le_refl _
theorem dig3_step {q r x2 x1 x0 y1 y0 : Nat} (hi : q * y1 + r = x2 * 4294967296 + x1) (hq : dig3 x2 x1 x0 y1 y0 ≤ q) (h : 4294967296 ≤ q ∨ r * 4294967296 + x0 < q * y0) (hy : 0 < y1) :
    1 ≤ q ∧ dig3 x2 x1 x0 y1 y0 ≤ q - 1 ∧ (q - 1) * y1 + (r + y1) = x2 * 4294967296 + x1 := by
  have h1 : 1 ≤ q := by
    rcases h with h | h
    · omega
    · rcases Nat.eq_zero_or_pos q with e | e
      · subst e; simp at h
      · exact e
  refine ⟨h1, ?_, ?_⟩
  · have : dig3 x2 x1 x0 y1 y0 < q := by
      rcases h with h | h
      · have := dig3_lt x2 x1 x0 y1 y0; omega
      · refine Nat.lt_of_le_of_lt (Nat.min_le_left _ _) ?_
        rw [Nat.div_lt_iff_lt_mul (by omega), Nat.mul_add, ← Nat.mul_assoc q y1]
        generalize q * y1 = u at *
        generalize q * y0 = v at *
        have e : x2 * 4294967296 * 4294967296 + x1 * 4294967296 = u * 4294967296 + r * 4294967296 := by rw [← Nat.add_mul, ← hi, Nat.add_mul]
        rw [e, Nat.add_assoc]
        exact Nat.add_lt_add_left h _
    omega
  · obtain ⟨k, rfl⟩ : ∃ k, q = k + 1 := ⟨q - 1, by omega⟩
    rw [Nat.add_sub_cancel, ← hi, Nat.succ_mul]; omega
theorem dig3_done {q r x2 x1 x0 y1 y0 : Nat} (hi : q * y1 + r = x2 * 4294967296 + x1) (hq : dig3 x2 x1 x0 y1 y0 ≤ q) (h : q < 4294967296) (h2 : q * y0 ≤ r * 4294967296 + x0) (hy : 0 < y1) : q = dig3 x2 x1 x0 y1 y0 := by
  refine Nat.le_antisymm ?_ hq
  unfold dig3
  rw [Nat.le_min]
  refine ⟨?_, by omega⟩
  rw [Nat.le_div_iff_mul_le (by omega), Nat.mul_add, ← Nat.mul_assoc q y1]
  generalize q * y1 = u at *
  generalize q * y0 = v at *
  omega
theorem dig3_brk {q r x2 x1 x0 y1 y0 : Nat} (hi : q * y1 + r = x2 * 4294967296 + x1) (hq : dig3 x2 x1 x0 y1 y0 ≤ q) (h : 4294967296 ≤ r) (hx : x2 ≤ y1) (hx1 : x1 < 4294967296) (hy0 : y0 < 4294967296) (hy : 0 < y1) : q = dig3 x2 x1 x0 y1 y0 := by
  have h1 : q * y1 < 4294967296 * y1 := by omega
  have h2 : q < 4294967296 := Nat.lt_of_mul_lt_mul_right h1
  refine dig3_done hi hq h2 ?_ hy
  have := Nat.mul_le_mul (show q ≤ 4294967295 by omega) (show y0 ≤ 4294967295 by omega)
  omega
/-- The guessed digit is the digit, or one more. -/
theorem dig3_ok {W y x2 x1 x0 y1 y0 P wl yl : Nat} (hW : W = (x2 * 4294967296 * 4294967296 + x1 * 4294967296 + x0) * P + wl) (hy : y = (y1 * 4294967296 + y0) * P + yl) (hwl : wl < P) (hyl : yl < P) (h1 : 0 < y1) (hlt : W < y * 4294967296) :
    W / y ≤ dig3 x2 x1 x0 y1 y0 ∧ dig3 x2 x1 x0 y1 y0 ≤ W / y + 1 := by
  obtain ⟨X, hX⟩ : ∃ X, X = x2 * 4294967296 * 4294967296 + x1 * 4294967296 + x0 := ⟨_, rfl⟩
  obtain ⟨Y, hY⟩ : ∃ Y, Y = y1 * 4294967296 + y0 := ⟨_, rfl⟩
  have hYb : 4294967296 ≤ Y := by omega
  have hP : 0 < P := by omega
  unfold dig3
  rw [← hX] at hW ⊢
  rw [← hY] at hy ⊢
  clear hX hY
  have hy0 : 0 < y := by rw [hy]; have := Nat.mul_pos (show 0 < Y by omega) hP; omega
  constructor
  · rw [Nat.le_min]
    refine ⟨?_, ?_⟩
    · rw [Nat.le_div_iff_mul_le (by omega)]
      have h2 := Nat.div_mul_le_self W y
      generalize W / y = Q at *
      have h3 : Q * Y * P ≤ X * P + wl := by
        rw [← hW, Nat.mul_assoc]
        refine Nat.le_trans (Nat.mul_le_mul_left Q (show Y * P ≤ y by omega)) h2
      have h4 : Q * Y * P < (X + 1) * P := by rw [Nat.succ_mul]; omega
      have := Nat.lt_of_mul_lt_mul_right h4
      omega
    · have : W / y < 4294967296 := (Nat.div_lt_iff_lt_mul hy0).2 (by rw [Nat.mul_comm]; exact hlt)
      omega
  · obtain ⟨g, hg⟩ : ∃ g, g = min (X / Y) 4294967295 := ⟨_, rfl⟩
    rw [← hg]
    by_cases g0 : g = 0
    · rw [g0]; exact Nat.zero_le _
    have g1 : g ≤ X / Y := by omega
    have g2 : g ≤ 4294967295 := by omega
    have g3 : g * Y ≤ X := (Nat.le_div_iff_mul_le (by omega)).1 g1
    have : g - 1 ≤ W / y := by
      rw [Nat.le_div_iff_mul_le hy0]
      obtain ⟨k, rfl⟩ : ∃ k, g = k + 1 := ⟨g - 1, by omega⟩
      rw [Nat.add_sub_cancel, hy, hW, Nat.mul_add]
      rw [Nat.succ_mul] at g3
      have h5 : k * yl ≤ k * P := Nat.mul_le_mul_left k (by omega)
      have h6 : k * (Y * P) + k * P ≤ X * P := by
        rw [← Nat.mul_assoc, ← Nat.add_mul]
        exact Nat.mul_le_mul_right P (by omega)
      omega
    omega
/-! One step of division by school. -/
theorem take_fin0 {W y g w : Nat} (h : w + g * y = W) (h1 : W / y ≤ g) (hy : 0 < y) : g = W / y ∧ w = W % y := by
  have h2 : g ≤ W / y := by rw [Nat.le_div_iff_mul_le hy]; omega
  have e : g = W / y := Nat.le_antisymm h2 h1
  refine ⟨e, ?_⟩
  have h3 := Nat.div_add_mod W y
  rw [← e, Nat.mul_comm] at h3
  omega
theorem take_fin1 {W y g w w2 c P : Nat} (h : w + g * y = W + P) (hw : w < P) (h1 : g ≤ W / y + 1) (hb : w2 + P * c = w + y) (hw2 : w2 < P) (hyP : y ≤ P) (hy : 0 < y) : 1 ≤ g ∧ g - 1 = W / y ∧ w2 = W % y := by
  have h2 : W / y < g := by
    rw [Nat.div_lt_iff_lt_mul hy]; omega
  have e : g = W / y + 1 := by omega
  have h3 := Nat.div_add_mod W y
  have h4 := Nat.mod_lt W hy
  rw [Nat.mul_comm] at h3
  rw [e, Nat.succ_mul] at h
  generalize W / y * y = z at *
  have h5 : w + y = W % y + P := by omega
  refine ⟨by rw [e]; exact Nat.le_add_left 1 _, by rw [e, Nat.add_sub_cancel], ?_⟩
  rw [h5] at hb
  have hc : c = 1 := by
    rcases c with _ | _ | c
    · simp at hb; omega
    · rfl
    · rw [Nat.mul_add, Nat.mul_add] at hb
      have := Nat.zero_le (P * c)
      omega
  subst hc
  omega
theorem digit_split (V y P : Nat) : V = V / P / y * y * P + (V % P + P * (V / P % y)) := by
  have h1 := Nat.div_add_mod V P
  have h2 := Nat.div_add_mod (V / P) y
  generalize V % P = r at *
  generalize V / P % y = s at *
  generalize V / P / y = q at *
  generalize V / P = d at *
  rw [← h1, ← h2]
  grind
theorem digit_less {V y P : Nat} (hy : 0 < y) (hP : 0 < P) : V % P + P * (V / P % y) < y * P := by
  have h1 := Nat.mod_lt V hP
  have h2 := Nat.mod_lt (V / P) hy
  generalize V % P = r at *
  generalize V / P % y = s at *
  have := Nat.mul_le_mul_right P (show s + 1 ≤ y from h2)
  rw [Nat.succ_mul] at this
  rw [Nat.mul_comm P s]
  omega
theorem rest_shift {a b Q R s : Nat} (h : a * 2 ^ s = Q * (b * 2 ^ s) + R) (hR : R < b * 2 ^ s) (hb : 0 < b) : Q = a / b ∧ R / 2 ^ s = a % b := by
  have hp := Nat.two_pow_pos s
  have h1 : a * 2 ^ s / (b * 2 ^ s) = Q := by
    rw [h, Nat.mul_comm Q, Nat.mul_add_div (by exact Nat.mul_pos hb hp), Nat.div_eq_of_lt hR]; omega
  have h2 : a * 2 ^ s % (b * 2 ^ s) = R := by rw [h, Nat.mul_comm Q, Nat.mul_add_mod, Nat.mod_eq_of_lt hR]
  rw [Nat.mul_div_mul_right _ _ hp] at h1
  rw [Nat.mul_mod_mul_right] at h2
  exact ⟨h1.symm, by rw [← h2, Nat.mul_div_cancel _ hp]⟩
end Go.Proofs.YtacjfpibilolnaaGreatDoor

/- Naturals that lie in memory of their own: Clone, Make, Shl, with who owns what they make. -/
set_option linter.unusedVariables false
set_option linter.unusedSimpArgs false
namespace Go.Proofs.YtacjfpibilolnaaGreatDoor
open Go.RowKit Go.Shelf
attribute [local go_sem] max2_i min2_i max_two min_two

/-- What a call that makes a natural leaves: it owns its memory. -/
def RetO (w : World) (n : Nat) (e : Ending) (w' : World) : Prop := ∃ v, e = .returned v ∧ w'.ownsRow w.heap.size 58 1 v (nl n) (vals (limbs n)) ∧ Below w.heap.size w w'
theorem own_le {w : World} {b b' n : Nat} {v : Value} {xs : List Value} (h : w.ownsRow b 58 1 v n xs) (hb : b' ≤ b) : w.ownsRow b' 58 1 v n xs := by
  rcases h with ⟨h1, h2 | ⟨g, cap, cur, e, h3, h4⟩⟩
  · exact ⟨h1, .inl h2⟩
  · exact ⟨h1, .inr ⟨g, cap, cur, e, Nat.le_trans hb h3, h4⟩⟩
theorem clone_o (A : Option Addr) (n c : Nat) (l : List Nat) (w : World) (hn : l.length = n) (h : Rd w A l) (hl : n ≤ 1099511627776) :
  Calls Tryz.prog 130 #[.slice A n c] w fun e w' => ∃ v, e = .returned v ∧ w'.ownsRow w.heap.size 58 1 v n (vals l) ∧ Below w.heap.size w w' := by
  subst hn
  have hnil := fun (a : Option Addr) (n : Nat) (w : World) => Lib.run_eql_slice_nil (P := Tryz.prog) w 22 58 a n c 0 0 Tryz.underlying22
  obtain ⟨i0, hi, hz0, hz1, hz2⟩ := info_parts info_u32
  cases A with
  | none =>
    have hl0 : l = [] := by
      rcases h with h | ⟨ad, e, _⟩
      · exact List.map_eq_nil_iff.1 h
      · cases e
    subst hl0
    go_enter Tryz.func130, Tryz.ntmps130
    go_wp2
    go_ret
    exact ⟨.slice none 0 0, rfl, World.ownsRow_nil _ _ _ _, Below.refl _ _⟩
  | some ad =>
    go_enter Tryz.func130, Tryz.ntmps130
    have hb1 : Below w.heap.size w (w.alloc (.cells #[] 58)) := (Below.refl _ _).alloc (Nat.le_refl _) _
    go_wp2_with (at_builtin; refine wpList_append_own_at _ rfl _ _ 22 rfl w.heap.size 58 i0 (.int .u32 0) 1 4 Tryz.underlying22 hi hz0 hz1 hz2 rfl (by decide) _ 0 [] rfl (World.ownsRow_lit w #[] 0 (Nat.le_refl _) (by decide) rfl) ad l.length c (vals l) rfl (by simp [vals]) (h.below hb1).cells (vals_one l) (by simp only [maxLen]; omega) (by omega) (by simp) ?_)
    intro v' w1 hown hg _ _
    (try simp only [Nat.zero_add, List.nil_append] at hown)
    have HOWN := Lib.hid hown
    clear hown
    have hb2 : Below w.heap.size w w1 := hb1.grown hg (by simp) (fun k hk => by simp [Value.ownBlock] at hk; omega)
    clear hg
    go_wp2
    go_ret
    exact ⟨_, rfl, HOWN.out, hb2⟩

theorem make_o (A : Option Addr) (n c : Nat) (l : List Nat) (w : World) (hn : l.length = n) (h : Rd w A l) (hL : Lim l) (hl : n ≤ 1099511627776) (hc : n ≤ c) :
    Calls Tryz.prog 109 #[.slice A n c] w (RetO w (val l)) := by
  subst hn
  have fin : ∀ k, k ≤ l.length → (∀ i, k ≤ i → i < l.length → gl l i = 0) → (k = 0 ∨ gl l (k - 1) ≠ 0) → Calls Tryz.prog 130 #[.slice A k c] w (RetO w (val l)) := fun k hk h0 h1 => by
    have e := take_make hL hk h0 h1
    have e2 : k = nl (val l) := by unfold nl; rw [← e, List.length_take, Nat.min_eq_left hk]
    refine (clone_o A k c (l.take k) w (by simp [hk]) ?_ (by omega)).mono ?_
    · rcases h with h | ⟨ad, rfl, h⟩
      · exact .inl (by simp [vals] at h ⊢; simp [h])
      · refine .inr ⟨ad, rfl, fun i u hu => h i u ?_⟩
        simp only [vals, List.map_take] at hu ⊢
        by_cases hik : i < k
        · rwa [List.getElem?_take_of_lt hik] at hu
        · rw [List.getElem?_take_eq_none (by omega)] at hu; cases hu
    · rintro e' w' ⟨v, rfl, h3, h4⟩
      exact ⟨v, rfl, by rw [← e2, ← e]; exact h3, h4⟩
  go_enter Tryz.func109, Tryz.ntmps109
  go_wp2_with (fail)
  go_loop [3] (fun v => ∃ k : Nat, v = .int .i64 k ∧ k ≤ l.length ∧ ∀ i, k ≤ i → i < l.length → gl l i = 0) (fun v => (intOf v).toNat)
  case atStart => exact ⟨l.length, rfl, Nat.le_refl _, fun i h1 h2 => by omega⟩
  case round =>
    obtain ⟨k, rfl, hk, h0⟩ := hrel
    have H0 := Lib.hid h0
    have FIN := Lib.hid fin
    clear h0 fin
    cases k with
    | zero =>
      go_wp2_with (fail)
      refine (FIN.out 0 (by omega) H0.out (.inl rfl)).mono ?_
      rintro e w1 ⟨v, rfl, h1, h2⟩
      replace h1 := Lib.hid h1
      go_wp2_with (fail)
      go_ret
      exact ⟨v, rfl, h1.out, h2⟩
    | succ k =>
      obtain ⟨ad, rfl, hcell⟩ := h.get k (by omega)
      by_cases hz : gl l k = 0
      · have hb : ((gl l k : Int) == 0) = true := ieqT (by omega)
        have HZ := Lib.hid hz
        clear hz
        go_wp2_with (fail)
        go_round
        case rel => exact ⟨k, by go_num, by omega, fun i h1 h2 => by
          by_cases e : i = k
          · rw [e]; exact HZ.out
          · exact H0.out i (by omega) h2⟩
        case measure => simp [intOf] <;> omega
      · have hb : ((gl l k : Int) == 0) = false := ieqF (by omega)
        go_wp2_with (fail)
        refine (FIN.out (k + 1) (by omega) H0.out (.inr hz)).mono ?_
        rintro e w1 ⟨v, rfl, h1, h2⟩
        replace h1 := Lib.hid h1
        go_wp2_with (fail)
        go_ret
        exact ⟨v, rfl, h1.out, h2⟩
theorem shl_o (A : Option Addr) (c a : Nat) (n : Nat) (w : World) (hA : NatV w A c a) (ha : nl a ≤ 1073741824) (hn : n ≤ 1073741824) (h0 : a ≠ 0) :
    Calls Tryz.prog 104 #[.slice A (nl a) c, .int .i64 (n : Int)] w (RetO w (a * 2 ^ n)) := by
  have hp := nl_pos.2 h0
  have hb0 : ((nl a : Int) == 0) = false := ieqF (by omega)
  have hmk := mk32 ((n : Int) / 32) ((n : Int) / 32 + nl a + 1) (by omega) (by omega) (by omega)
  obtain ⟨i0, hi, hz0, hz1, hz2⟩ := info_parts info_u32
  go_enter Tryz.func104, Tryz.ntmps104
  go_wp2_with (fail)
  have hs := Nat.mod_lt n (show 0 < 32 by decide)
  go_loopw [5, 7, 9, 26] (fun o lo x i wr => ∃ (k low : Nat) (L : List Nat), o = .slice (some ⟨w.heap.size, 0, none⟩) (n / 32 + k) (n / 32 + nl a + 1) ∧ i = .int .i64 k ∧ lo = .int .u32 low ∧ k ≤ nl a ∧ Below w.heap.size w wr ∧
    wr.ownsRow w.heap.size 58 1 (.slice (some ⟨w.heap.size, 0, none⟩) (n / 32 + k) (n / 32 + nl a + 1)) (n / 32 + k) (vals L) ∧ L.length = n / 32 + k ∧ Lim L ∧ Hid (val L + 4294967296 ^ (n / 32 + k) * low = val ((limbs a).take k) * 2 ^ (n % 32) * 4294967296 ^ (n / 32)) ∧ low < 2 ^ (n % 32)) (fun o lo x i wr => nl a - (intOf i).toNat)
  case atStart =>
    have e1 : ((n : Int) / 32).toNat = n / 32 := by omega
    have e2 : ((n : Int) / 32 + nl a + 1).toNat = n / 32 + nl a + 1 := by omega
    refine ⟨0, 0, List.replicate (n / 32) 0, by simp, rfl, rfl, Nat.zero_le _, ((Below.refl _ _).alloc (Nat.le_refl _) _), ?_, by simp, Lim.replicate _ _ (by decide), Lib.hid (by rw [val_replicate]; simp [val]), Nat.pow_pos (by decide)⟩
    simp only [Nat.add_zero, e2]
    refine ⟨by simp [vals], .inr ⟨w.heap.size, n / 32 + nl a + 1, _, rfl, Nat.le_refl _, heap_alloc_new w _, by omega, by simp only [maxLen]; omega, by rw [size_madeCells, Nat.mul_one], ?_⟩⟩
    rw [toList_madeCells_one, List.take_replicate, Nat.min_eq_left (by omega)]
    simp [vals]
  case round =>
    obtain ⟨k, low, L, rfl, rfl, rfl, hk, hb, hown, hlen, hlim, hval, hlow⟩ := hrel
    by_cases hlt : k < nl a
    · obtain ⟨ad, rfl, hc⟩ := (hA.rd.below hb).get k hlt
      obtain ⟨x, hx⟩ : ∃ x, gl (limbs a) k = x := ⟨_, rfl⟩
      have hxl := (lim_limbs a).gl k
      rw [hx] at hc hxl
      obtain ⟨hor, hvl⟩ := or_low x low (n % 32) hxl hs hlow
      generalize hv : x * 2 ^ (n % 32) % 4294967296 + low = v at *
      have HV := Lib.hid hv
      have HX := Lib.hid hx
      have HL := Lib.hid hlen
      clear hv hx hlen
      have hxl2 : (x : Int) < 4294967296 := by omega
      go_wp2_with (at_builtin; refine wpList_append_fits _ rfl _ _ 22 rfl w.heap.size 58 i0 1 Tryz.underlying22 hi hz1 w.heap.size (n / 32 + k) (n / 32 + nl a + 1) (vals L) rfl (hown.alloc _) ⟨wr.heap.size, 0, none⟩ 1 1 [.int .u32 (v : Nat)] rfl rfl (cell_one_new _ _ _) (by simp [Value.oneCell']) (by omega) ?_)
      intro w1 hown1 hg1
      go_wp2_with (fail)
      go_roundw
      case rel =>
        have hq : x * 2 ^ (n % 32) / 4294967296 < 2 ^ (n % 32) := hi_low x _ hxl hs
        refine ⟨k + 1, x * 2 ^ (n % 32) / 4294967296, L ++ [v], by rw [Nat.add_assoc], by go_num, ?_, by omega, ?_, ?_, ?_, ?_, Lib.hid ?_, hq⟩
        · have hp31 : (2 : Nat) ^ (n % 32) ≤ 2 ^ 31 := Nat.pow_le_pow_right (by decide) (by omega)
          have h64 : x * 2 ^ (n % 32) ≤ 4294967296 * 2 ^ 31 := Nat.mul_le_mul (by omega) hp31
          have e1 : ((x : Int) * 2 ^ (n % 32)) = ((x * 2 ^ (n % 32) : Nat) : Int) := by simp
          congr 1
          rw [e1]
          generalize x * 2 ^ (n % 32) = y at *
          have : IntKind.u64.wrap (y : Int) = (y : Int) := by
            simp only [IntKind.wrap, IntKind.bits, IntKind.signed]
            simp
            omega
          rw [this]
          omega
        · exact (hb.alloc hb.size _).grown hg1 (by simp; have := hb.size; omega) (fun k e => by cases e; exact Nat.le_refl _)
        · rw [vals_append]; exact hown1
        · simp [HL.out]; omega
        · exact hlim.append (Lim.cons hvl Lim.nil)
        · have hval := hval.out
          have hv := HV.out
          have hx := HX.out
          rw [val_snoc, HL.out, val_take_succ _ _ hlt, hx, ← hv]
          have e := Nat.div_add_mod (x * 2 ^ (n % 32)) 4294967296
          generalize x * 2 ^ (n % 32) / 4294967296 = d at *
          rw [← Nat.add_assoc, Nat.pow_succ]
          rw [Nat.pow_add] at hval ⊢
          generalize val ((limbs a).take k) = t at *
          generalize 4294967296 ^ k = p at *
          generalize 4294967296 ^ (n / 32) = r at *
          generalize x * 2 ^ (n % 32) % 4294967296 = m at *
          generalize 2 ^ (n % 32) = z at *
          grind
      case measure => simp [intOf] <;> omega
    · obtain rfl : k = nl a := by omega
      have HV := hval
      go_wp2_with (first
        | (go_at_call 109; fail)
        | (at_builtin; refine wpList_append_fits _ rfl _ _ 22 rfl w.heap.size 58 i0 1 Tryz.underlying22 hi hz1 w.heap.size (n / 32 + nl a) (n / 32 + nl a + 1) (vals L) rfl (hown.alloc _) ⟨wr.heap.size, 0, none⟩ 1 1 [.int .u32 (low : Nat)] rfl rfl (cell_one_new _ _ _) (by simp [Value.oneCell']) (by omega) ?_))
      intro w1 hown1 hg1
      obtain ⟨Y, cy, hYe, hcy, hcm, hrd⟩ := ownV_rd hown1
      cases hYe
      have hll : low < 4294967296 := by
        have : (2 : Nat) ^ (n % 32) ≤ 2 ^ 31 := Nat.pow_le_pow_right (by decide) (by omega)
        omega
      have hb2 : Below w.heap.size w w1 := (hb.alloc hb.size _).grown hg1 (by simp; have := hb.size; omega) (fun k e => by cases e; exact Nat.le_refl _)
      have hmake := make_o (some ⟨w.heap.size, 0, none⟩) (n / 32 + nl a + 1) (n / 32 + nl a + 1) (L ++ [low]) w1 (by simp [hlen]) (by unfold Rd; rw [vals_append]; exact hrd) (hlim.append (Lim.cons hll Lim.nil)) (by omega) (Nat.le_refl _)
      have hvv : val (L ++ [low]) = a * 2 ^ n := by
        have h := HV.out
        rw [take_limbs (Nat.le_refl _)] at h
        rw [val_snoc, hlen, h, Nat.mul_assoc, ← pow32, ← Nat.pow_add]
        congr 2
        omega
      rw [hvv] at hmake
      have HM := Lib.hid hmake
      clear hmake hown1 hown hrd hg1 hval hlen
      go_wp2_with (fail)
      refine HM.out.mono ?_
      rintro e w2 ⟨v, rfl, h1, h2⟩
      replace h1 := Lib.hid (own_le h1 hb2.size)
      go_wp2_with (fail)
      go_ret
      exact ⟨v, rfl, h1.out, hb2.trans (h2.mono hb2.size)⟩
end Go.Proofs.YtacjfpibilolnaaGreatDoor
