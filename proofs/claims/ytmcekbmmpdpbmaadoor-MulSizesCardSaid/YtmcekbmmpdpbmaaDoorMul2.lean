/- Products by halves and by thirds: what they are made of. -/
import Derived.Test.YtmcekbmmpdpbmaaDoorMul1
set_option linter.unusedVariables false
set_option linter.unusedSimpArgs false
namespace Go.Proofs.YtmcekbmmpdpbmaaDoor
open Go.RowKit Go.Shelf
attribute [local go_sem] max2_i min2_i max_two min_two

theorem shl_e (A : Option Addr) (c a : Nat) (n : Int) (m : Nat) (w : World) (hA : NatV w A c a) (ha : nl a ≤ 1073741824) (hn : n = (m : Int)) (hm : m ≤ 1073741824) :
    Calls Tryd.prog 29 #[.slice A (nl a) c, .int .i64 n] w (RetN w (a * 2 ^ m)) := by
  subst hn
  have := shl_ci A c a (m : Int) w hA ha (by omega) (by omega)
  rwa [Int.toNat_natCast] at this
theorem shr_e (A : Option Addr) (c a : Nat) (n : Int) (m : Nat) (w : World) (hA : NatV w A c a) (ha : nl a ≤ 1073741824) (hn : n = (m : Int)) (hm : m ≤ 1099511627776) :
    Calls Tryd.prog 41 #[.slice A (nl a) c, .int .i64 n] w (RetN w (a / 2 ^ m)) := by
  subst hn
  have := shr_ci A c a (m : Int) w hA ha (by omega) (by omega)
  rwa [Int.toNat_natCast] at this
theorem part_e (A : Option Addr) (c a : Nat) (n n' : Int) (i m : Nat) (w : World) (hA : NatV w A c a) (ha : nl a ≤ 1073741824) (hn : n = (i : Int)) (hn' : n' = ((i + m : Nat) : Int)) (hm : i + m ≤ 1073741824) :
    Calls Tryd.prog 37 #[.slice A (nl a) c, .int .i64 n, .int .i64 n'] w (RetN w (cut a i m)) := by
  subst hn hn'
  have := part_c A c a (i : Int) ((i + m : Nat) : Int) w hA ha (by omega) (by omega) (by omega)
  rwa [Int.toNat_natCast, show (((i + m : Nat) : Int) - (i : Int)).toNat = m by omega] at this

set_option maxHeartbeats 400000 in
theorem less_c (A : Option Addr) (c a : Nat) (B : Option Addr) (d b : Nat) (w : World) (hA : NatV w A c a) (hB : NatV w B d b) (ha : nl a ≤ 1073741824) (hb : nl b ≤ 1073741824) (h : b ≤ a) :
    Calls Tryd.prog 38 #[.slice A (nl a) c, .slice B (nl b) d] w (RetN w (a - b)) := by
  go_enter Tryd.func38, Tryd.ntmps38
  go_wp2_with (fail)
  refine (sub_c A c a B d b w hA hB ha hb h).mono ?_
  rintro e w1 ⟨X, cx, rfl, h1, h2⟩
  go_wp2_with (fail)
  go_ret
  exact ⟨X, cx, rfl, h1, h2⟩
set_option maxHeartbeats 400000 in
theorem apart_c (A : Option Addr) (c a : Nat) (B : Option Addr) (d b : Nat) (w : World) (hA : NatV w A c a) (hB : NatV w B d b) (ha : nl a ≤ 1073741824) (hb : nl b ≤ 1073741824) :
    Calls Tryd.prog 55 #[.slice A (nl a) c, .slice B (nl b) d] w fun e w' => ∃ X cx, e = .returned (.tuple #[.slice X (nl (a - b + (b - a))) cx, .bool (decide (a < b))]) ∧ NatV w' X cx (a - b + (b - a)) ∧ Below w.heap.size w w' := by
  by_cases h : a < b
  · go_enter Tryd.func55, Tryd.ntmps55
    go_wp2_with (fail)
    refine (subNot_c A c a B d b w hA hB ha hb h).mono ?_
    rintro e w1 ⟨rfl, h1⟩
    go_wp2_with (fail)
    refine (less_c B d b A c a w1 (hB.below h1) (hA.below h1) hb ha (by omega)).mono ?_
    rintro e w2 ⟨X, cx, rfl, h2, h3⟩
    go_wp2_with (fail)
    go_ret2
    rw [show a - b + (b - a) = b - a by omega]
    exact ⟨X, cx, by simp [h], h2, h1.cons h3⟩
  · go_enter Tryd.func55, Tryd.ntmps55
    go_wp2_with (fail)
    refine (sub_c A c a B d b w hA hB ha hb (by omega)).mono ?_
    rintro e w1 ⟨X, cx, rfl, h1, h2⟩
    go_wp2_with (fail)
    go_ret2
    rw [show a - b + (b - a) = a - b by omega]
    exact ⟨X, cx, by simp [h], h1, h2⟩

theorem cut_low (a k : Nat) : cut a 0 k = a % 2 ^ (32 * k) := by simp [cut]
theorem cut_high {a k m : Nat} (h : nl a ≤ k + m) : cut a k m = a / 2 ^ (32 * k) := by
  unfold cut
  have h1 := nl_shr32 a k
  rw [Nat.mod_eq_of_lt]
  rw [pow32 m]
  exact nl_le.1 (by omega)
theorem kar_math (a b p a0 a1 b0 b1 : Nat) (ha : p * a1 + a0 = a) (hb : p * b1 + b0 = b) :
    a0 * b0 + a1 * b1 ≤ (a0 + a1) * (b0 + b1) ∧ a0 * b0 + (((a0 + a1) * (b0 + b1) - (a0 * b0 + a1 * b1)) * p + a1 * b1 * (p * p)) = a * b := by
  have e : (a0 + a1) * (b0 + b1) = a0 * b0 + a1 * b1 + (a0 * b1 + a1 * b0) := by grind
  rw [e, Nat.add_sub_cancel_left]
  subst ha hb
  exact ⟨Nat.le_add_right _ _, by grind⟩

set_option maxHeartbeats 4000000 in
theorem karatsuba_c (N : Nat) : ∀ (A : Option Addr) (c a : Nat) (B : Option Addr) (d b : Nat) (w : World), NatV w A c a → NatV w B d b → nl a ≤ N → nl b ≤ N → N ≤ 16777216 →
    Calls Tryd.prog 17 #[.slice A (nl a) c, .slice B (nl b) d] w (RetN w (a * b)) := by
  induction N using Nat.strongRecOn with
  | _ N ih =>
    intro A c a B d b w hA hB ha hb hN
    by_cases hm : min (nl a) (nl b) < 4
    · go_enter Tryd.func17, Tryd.ntmps17
      have hd : decide (min (nl a : Int) (nl b : Int) < 4) = true := by simp; omega
      go_wp2_with (fail)
      refine (school_c A c a B d b w hA hB (by omega) (by omega)).mono ?_
      rintro e w1 ⟨X, cx, rfl, h1, h2⟩
      go_wp2_with (fail)
      go_ret
      exact ⟨X, cx, rfl, h1, h2⟩
    · have hd : decide (min (nl a : Int) (nl b : Int) < 4) = false := by simp; omega
      obtain ⟨m, hmx⟩ : ∃ m, m = max (nl a) (nl b) := ⟨_, rfl⟩
      obtain ⟨k, hk⟩ : ∃ k, k = (m + 1) / 2 := ⟨_, rfl⟩
      have hmI : max (nl a : Int) (nl b : Int) = (m : Int) := by omega
      have hkI : ((m : Int) + 1) / 2 = (k : Int) := by omega
      have hkm : 4 ≤ m ∧ k + 1 < m + 0 ∧ m ≤ 2 * k ∧ m ≤ N := by omega
      have HK := Lib.hid hk
      have HMX := Lib.hid hmx
      have hla : nl a ≤ m := by omega
      have hlb : nl b ≤ m := by omega
      have hs1 : ∀ a0 a1, a0 = cut a 0 k → a1 = cut a k (m - k) → 2 ^ (32 * k) * a1 + a0 = a := fun a0 a1 h0 h1 => by
        rw [h0, h1, cut_low, cut_high (by omega)]; exact Nat.div_add_mod _ _
      have hs2 : ∀ b0 b1, b0 = cut b 0 k → b1 = cut b k (m - k) → 2 ^ (32 * k) * b1 + b0 = b := fun a0 a1 h0 h1 => by
        rw [h0, h1, cut_low, cut_high (by omega)]; exact Nat.div_add_mod _ _
      have ih' : ∀ (A : Option Addr) (c a : Nat) (B : Option Addr) (d b : Nat) (w : World), NatV w A c a → NatV w B d b → nl a ≤ k + 1 → nl b ≤ k + 1 → Calls Tryd.prog 17 #[.slice A (nl a) c, .slice B (nl b) d] w (RetN w (a * b)) :=
        fun A c a B d b w h1 h2 h3 h4 => ih (k + 1) (by omega) A c a B d b w h1 h2 h3 h4 (by omega)
      have IH := Lib.hid ih'
      have HS1 := hs1
      have HS2 := hs2
      replace HS1 := Lib.hid HS1
      replace HS2 := Lib.hid HS2
      clear ih' ih hs1 hs2 hk hmx hm
      go_enter Tryd.func17, Tryd.ntmps17
      go_wp2_with (fail)
      obtain ⟨a0, Ea0⟩ : ∃ z : Nat, z = cut a 0 k := ⟨_, rfl⟩
      have Ba0 : nl a0 ≤ k := by rw [Ea0]; exact nl_cut _ _ _
      refine (Calls.mono (R := RetN w a0) (by rw [Ea0]; exact part_e A c a _ _ 0 k w hA (by omega) (by omega) (by omega) (by omega)) ?_)
      replace Ea0 := Lib.hid Ea0
      rintro e W1 ⟨X1, c1, rfl, ha0, hb1⟩
      replace hA := hA.below hb1
      replace hB := hB.below hb1
      have HBT := hb1
      clear hb1
      go_wp2_with (fail)
      obtain ⟨a1, Ea1⟩ : ∃ z : Nat, z = cut a k (m - k) := ⟨_, rfl⟩
      have Ba1 : nl a1 ≤ (m - k) := by rw [Ea1]; exact nl_cut _ _ _
      refine (Calls.mono (R := RetN W1 a1) (by rw [Ea1]; exact part_e A c a _ _ k (m - k) W1 hA (by omega) (by omega) (by omega) (by omega)) ?_)
      replace Ea1 := Lib.hid Ea1
      rintro e W2 ⟨X2, c2, rfl, ha1, hb2⟩
      replace hA := hA.below hb2
      replace hB := hB.below hb2
      replace ha0 := ha0.below hb2
      replace HBT := Below.cons HBT hb2
      clear hb2
      go_wp2_with (fail)
      have HA1 := hA
      clear HA1
      clear hA
      obtain ⟨b0, Eb0⟩ : ∃ z : Nat, z = cut b 0 k := ⟨_, rfl⟩
      have Bb0 : nl b0 ≤ k := by rw [Eb0]; exact nl_cut _ _ _
      refine (Calls.mono (R := RetN W2 b0) (by rw [Eb0]; exact part_e B d b _ _ 0 k W2 hB (by omega) (by omega) (by omega) (by omega)) ?_)
      replace Eb0 := Lib.hid Eb0
      rintro e W3 ⟨X3, c3, rfl, hb0, hb3⟩
      replace hB := hB.below hb3
      replace ha0 := ha0.below hb3
      replace ha1 := ha1.below hb3
      replace HBT := Below.cons HBT hb3
      clear hb3
      go_wp2_with (fail)
      obtain ⟨b1, Eb1⟩ : ∃ z : Nat, z = cut b k (m - k) := ⟨_, rfl⟩
      have Bb1 : nl b1 ≤ (m - k) := by rw [Eb1]; exact nl_cut _ _ _
      refine (Calls.mono (R := RetN W3 b1) (by rw [Eb1]; exact part_e B d b _ _ k (m - k) W3 hB (by omega) (by omega) (by omega) (by omega)) ?_)
      replace Eb1 := Lib.hid Eb1
      rintro e W4 ⟨X4, c4, rfl, hb1, hb4⟩
      replace hB := hB.below hb4
      replace ha0 := ha0.below hb4
      replace ha1 := ha1.below hb4
      replace hb0 := hb0.below hb4
      replace HBT := Below.cons HBT hb4
      clear hb4
      go_wp2_with (fail)
      clear hB
      obtain ⟨low, Elow⟩ : ∃ z : Nat, z = a0 * b0 := ⟨_, rfl⟩
      have Blow : nl low ≤ 2 * k := by rw [Elow]; have := nl_mul a0 b0; omega
      refine (Calls.mono (R := RetN W4 low) (by rw [Elow]; exact IH.out X1 c1 a0 X3 c3 b0 W4 ha0 hb0 (by omega) (by omega)) ?_)
      replace Elow := Lib.hid Elow
      rintro e W5 ⟨X5, c5, rfl, hlow, hb5⟩
      replace ha0 := ha0.below hb5
      replace ha1 := ha1.below hb5
      replace hb0 := hb0.below hb5
      replace hb1 := hb1.below hb5
      replace HBT := Below.cons HBT hb5
      clear hb5
      go_wp2_with (fail)
      obtain ⟨high, Ehigh⟩ : ∃ z : Nat, z = a1 * b1 := ⟨_, rfl⟩
      have Bhigh : nl high ≤ 2 * k := by rw [Ehigh]; have := nl_mul a1 b1; omega
      refine (Calls.mono (R := RetN W5 high) (by rw [Ehigh]; exact IH.out X2 c2 a1 X4 c4 b1 W5 ha1 hb1 (by omega) (by omega)) ?_)
      replace Ehigh := Lib.hid Ehigh
      rintro e W6 ⟨X6, c6, rfl, hhigh, hb6⟩
      replace ha0 := ha0.below hb6
      replace ha1 := ha1.below hb6
      replace hb0 := hb0.below hb6
      replace hb1 := hb1.below hb6
      replace hlow := hlow.below hb6
      replace HBT := Below.cons HBT hb6
      clear hb6
      go_wp2_with (fail)
      obtain ⟨sa, Esa⟩ : ∃ z : Nat, z = a0 + a1 := ⟨_, rfl⟩
      have Bsa : nl sa ≤ k + 1 := by rw [Esa]; have := nl_add a0 a1; omega
      refine (Calls.mono (R := RetN W6 sa) (by rw [Esa]; exact add_c X1 c1 a0 X2 c2 a1 W6 ha0 ha1 (by omega) (by omega)) ?_)
      replace Esa := Lib.hid Esa
      rintro e W7 ⟨X7, c7, rfl, hsa, hb7⟩
      replace ha0 := ha0.below hb7
      replace ha1 := ha1.below hb7
      replace hb0 := hb0.below hb7
      replace hb1 := hb1.below hb7
      replace hlow := hlow.below hb7
      replace hhigh := hhigh.below hb7
      replace HBT := Below.cons HBT hb7
      clear hb7
      go_wp2_with (fail)
      obtain ⟨sb, Esb⟩ : ∃ z : Nat, z = b0 + b1 := ⟨_, rfl⟩
      have Bsb : nl sb ≤ k + 1 := by rw [Esb]; have := nl_add b0 b1; omega
      refine (Calls.mono (R := RetN W7 sb) (by rw [Esb]; exact add_c X3 c3 b0 X4 c4 b1 W7 hb0 hb1 (by omega) (by omega)) ?_)
      replace Esb := Lib.hid Esb
      rintro e W8 ⟨X8, c8, rfl, hsb, hb8⟩
      replace ha0 := ha0.below hb8
      replace ha1 := ha1.below hb8
      replace hb0 := hb0.below hb8
      replace hb1 := hb1.below hb8
      replace hlow := hlow.below hb8
      replace hhigh := hhigh.below hb8
      replace hsa := hsa.below hb8
      replace HBT := Below.cons HBT hb8
      clear hb8
      go_wp2_with (fail)
      clear ha0
      clear ha1
      clear hb0
      clear hb1
      obtain ⟨pr, Epr⟩ : ∃ z : Nat, z = sa * sb := ⟨_, rfl⟩
      have Bpr : nl pr ≤ 2 * k + 2 := by rw [Epr]; have := nl_mul sa sb; omega
      refine (Calls.mono (R := RetN W8 pr) (by rw [Epr]; exact IH.out X7 c7 sa X8 c8 sb W8 hsa hsb (by omega) (by omega)) ?_)
      replace Epr := Lib.hid Epr
      rintro e W9 ⟨X9, c9, rfl, hpr, hb9⟩
      replace hlow := hlow.below hb9
      replace hhigh := hhigh.below hb9
      replace hsa := hsa.below hb9
      replace hsb := hsb.below hb9
      replace HBT := Below.cons HBT hb9
      clear hb9
      go_wp2_with (fail)
      clear hsa
      clear hsb
      obtain ⟨lh, Elh⟩ : ∃ z : Nat, z = low + high := ⟨_, rfl⟩
      have Blh : nl lh ≤ 2 * k + 1 := by rw [Elh]; have := nl_add low high; omega
      refine (Calls.mono (R := RetN W9 lh) (by rw [Elh]; exact add_c X5 c5 low X6 c6 high W9 hlow hhigh (by omega) (by omega)) ?_)
      replace Elh := Lib.hid Elh
      rintro e W10 ⟨X10, c10, rfl, hlh, hb10⟩
      replace hlow := hlow.below hb10
      replace hhigh := hhigh.below hb10
      replace hpr := hpr.below hb10
      replace HBT := Below.cons HBT hb10
      clear hb10
      go_wp2_with (fail)
      have hle : lh ≤ pr := by
        have := (kar_math a b (2 ^ (32 * k)) a0 a1 b0 b1 (HS1.out a0 a1 Ea0.out Ea1.out) (HS2.out b0 b1 Eb0.out Eb1.out)).1
        rw [Elh.out, Epr.out, Elow.out, Ehigh.out, Esa.out, Esb.out]; exact this
      obtain ⟨mid, Emid⟩ : ∃ z : Nat, z = pr - lh := ⟨_, rfl⟩
      have Bmid : nl mid ≤ 2 * k + 2 := by rw [Emid]; have := nl_sub pr lh; omega
      refine (Calls.mono (R := RetN W10 mid) (by rw [Emid]; exact less_c X9 c9 pr X10 c10 lh W10 hpr hlh (by omega) (by omega) hle) ?_)
      replace Emid := Lib.hid Emid
      rintro e W11 ⟨X11, c11, rfl, hmid, hb11⟩
      replace hlow := hlow.below hb11
      replace hhigh := hhigh.below hb11
      replace hpr := hpr.below hb11
      replace hlh := hlh.below hb11
      replace HBT := Below.cons HBT hb11
      clear hb11
      go_wp2_with (fail)
      clear hpr
      clear hlh
      obtain ⟨ms, Ems⟩ : ∃ z : Nat, z = mid * 2 ^ (32 * k) := ⟨_, rfl⟩
      have Bms : nl ms ≤ 3 * k + 4 := by rw [Ems]; have := nl_shl mid (32 * k); omega
      refine (Calls.mono (R := RetN W11 ms) (by rw [Ems]; exact shl_e X11 c11 mid _ (32 * k) W11 hmid (by omega) (by omega) (by omega)) ?_)
      replace Ems := Lib.hid Ems
      rintro e W12 ⟨X12, c12, rfl, hms, hb12⟩
      replace hlow := hlow.below hb12
      replace hhigh := hhigh.below hb12
      replace hmid := hmid.below hb12
      replace HBT := Below.cons HBT hb12
      clear hb12
      go_wp2_with (fail)
      clear hmid
      obtain ⟨hs, Ehs⟩ : ∃ z : Nat, z = high * 2 ^ (64 * k) := ⟨_, rfl⟩
      have Bhs : nl hs ≤ 4 * k + 4 := by rw [Ehs]; have := nl_shl high (64 * k); omega
      refine (Calls.mono (R := RetN W12 hs) (by rw [Ehs]; exact shl_e X6 c6 high _ (64 * k) W12 hhigh (by omega) (by omega) (by omega)) ?_)
      replace Ehs := Lib.hid Ehs
      rintro e W13 ⟨X13, c13, rfl, hhs, hb13⟩
      replace hlow := hlow.below hb13
      replace hhigh := hhigh.below hb13
      replace hms := hms.below hb13
      replace HBT := Below.cons HBT hb13
      clear hb13
      go_wp2_with (fail)
      clear hhigh
      obtain ⟨mh, Emh⟩ : ∃ z : Nat, z = ms + hs := ⟨_, rfl⟩
      have Bmh : nl mh ≤ 4 * k + 5 := by rw [Emh]; have := nl_add ms hs; omega
      refine (Calls.mono (R := RetN W13 mh) (by rw [Emh]; exact add_c X12 c12 ms X13 c13 hs W13 hms hhs (by omega) (by omega)) ?_)
      replace Emh := Lib.hid Emh
      rintro e W14 ⟨X14, c14, rfl, hmh, hb14⟩
      replace hlow := hlow.below hb14
      replace hms := hms.below hb14
      replace hhs := hhs.below hb14
      replace HBT := Below.cons HBT hb14
      clear hb14
      go_wp2_with (fail)
      clear hms
      clear hhs
      obtain ⟨rs, Ers⟩ : ∃ z : Nat, z = low + mh := ⟨_, rfl⟩
      have Brs : nl rs ≤ 4 * k + 6 := by rw [Ers]; have := nl_add low mh; omega
      refine (Calls.mono (R := RetN W14 rs) (by rw [Ers]; exact add_c X5 c5 low X14 c14 mh W14 hlow hmh (by omega) (by omega)) ?_)
      replace Ers := Lib.hid Ers
      rintro e W15 ⟨X15, c15, rfl, hrs, hb15⟩
      replace hlow := hlow.below hb15
      replace hmh := hmh.below hb15
      replace HBT := Below.cons HBT hb15
      clear hb15
      go_wp2_with (fail)
      go_ret
      have hfin : rs = a * b := by
        have := (kar_math a b (2 ^ (32 * k)) a0 a1 b0 b1 (HS1.out a0 a1 Ea0.out Ea1.out) (HS2.out b0 b1 Eb0.out Eb1.out)).2
        rw [Ers.out, Emh.out, Ems.out, Ehs.out, Emid.out, Epr.out, Elh.out, Elow.out, Ehigh.out, Esa.out, Esb.out, show 64 * k = 32 * k + 32 * k by omega, Nat.pow_add]; exact this
      rw [← hfin]
      exact ⟨_, _, rfl, hrs, HBT⟩
end Go.Proofs.YtmcekbmmpdpbmaaDoor
