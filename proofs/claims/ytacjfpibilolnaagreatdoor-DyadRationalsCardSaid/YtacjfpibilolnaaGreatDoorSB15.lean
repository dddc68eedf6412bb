/- Toom's product: the walk. -/
import Derived.Test.YtacjfpibilolnaaGreatDoorSB14
set_option maxRecDepth 100000
set_option maxHeartbeats 4000000
set_option linter.unusedVariables false
set_option linter.unusedSimpArgs false
namespace Go.Proofs.YtacjfpibilolnaaGreatDoor
open Go.RowKit Go.Shelf
attribute [local go_sem] max2_i min2_i max_two min_two

/-- The sum of a row of naturals, each p bits further up. -/
def tsum (V : Nat → Nat) (p : Nat) : Nat → Nat
  | 0 => 0
  | i + 1 => tsum V p i + V i * 2 ^ (p * i)
theorem tsum5 (V : Nat → Nat) (p P : Nat) (hP : 2 ^ p = P) : tsum V p 5 = V 0 + V 1 * P + V 2 * (P * P) + V 3 * (P * P * P) + V 4 * (P * P * P * P) := by
  simp only [tsum, Nat.mul_zero, Nat.pow_zero, Nat.pow_mul, hP]
  grind
theorem toom_sum (x0 x1 x2 y0 y1 y2 P a b : Nat) (ha : x0 + P * x1 + P * P * x2 = a) (hb : y0 + P * y1 + P * P * y2 = b) :
    x0 * y0 + (x0 * y1 + x1 * y0) * P + (x0 * y2 + x1 * y1 + x2 * y0) * (P * P) + (x1 * y2 + x2 * y1) * (P * P * P) + x2 * y2 * (P * P * P * P) = a * b := by
  subst ha hb; grind

theorem toom_c (N : Nat) : ∀ (A : Option Addr) (c a : Nat) (B : Option Addr) (d b : Nat) (w : World), NatV w A c a → NatV w B d b → nl a ≤ N → nl b ≤ N → N ≤ 16777000 →
    Calls Tryz.prog 135 #[.slice A (nl a) c, .slice B (nl b) d] w (RetN w (a * b)) := by
  induction N using Nat.strongRecOn with
  | _ N ih =>
    intro A c a B d b w hA hB ha hb hN
    obtain ⟨n, hn⟩ : ∃ n, n = max (nl a) (nl b) := ⟨_, rfl⟩
    have hnI : max (nl a : Int) (nl b : Int) = (n : Int) := by omega
    have HN := Lib.hid hn
    have hna : nl a ≤ n := by omega
    have hnb : nl b ≤ n := by omega
    have hnN : n ≤ N := by omega
    have HBT : Below w.heap.size w (w.alloc (.cells #[.int .i64 (n : Int)] 3)) := (Below.refl _ _).alloc (Nat.le_refl _) _
    by_cases hm : min (nl a) (nl b) < 7
    · have hd : decide (min (nl a : Int) (nl b : Int) < 7) = true := by simp; omega
      clear hn
      replace hA := hA.below HBT
      replace hB := hB.below HBT
      go_enter Tryz.func135, Tryz.ntmps135
      go_wp2_with (fail)
      refine (karatsuba_c N A c a B d b _ hA hB ha hb (by omega)).mono ?_
      rintro e w1 ⟨X, cx, rfl, h1, h2⟩
      go_wp2_with (fail)
      go_ret
      exact ⟨X, cx, rfl, h1, HBT.cons h2⟩
    · have hd : decide (min (nl a : Int) (nl b : Int) < 7) = false := by simp; omega
      have hn7 : 7 ≤ n := by omega
      obtain ⟨k, hk⟩ : ∃ k, k = (n + 2) / 3 := ⟨_, rfl⟩
      have hkI : ((n : Int) + 2) / 3 = (k : Int) := by omega
      obtain ⟨m, hmk⟩ : ∃ m, n = 2 * k + m := ⟨n - 2 * k, by omega⟩
      have hkm : k + 3 < n ∧ m ≤ k ∧ 3 ≤ k := by omega
      have HK := Lib.hid hk
      have HMK := Lib.hid hmk
      have IH : ∀ (A : Option Addr) (c a : Nat) (B : Option Addr) (d b : Nat) (w : World), NatV w A c a → NatV w B d b → nl a ≤ k + 3 → nl b ≤ k + 3 → Calls Tryz.prog 135 #[.slice A (nl a) c, .slice B (nl b) d] w (RetN w (a * b)) :=
        fun A c a B d b w h1 h2 h3 h4 => ih (k + 3) (by omega) A c a B d b w h1 h2 h3 h4 (by omega)
      replace IH := Lib.hid IH
      clear ih hk hn hm hmk
      replace HBT := HBT.alloc (Nat.le_trans (Nat.le_refl _) HBT.size) (.cells #[.int .i64 (k : Int)] 3)
      replace hA := hA.below HBT
      replace hB := hB.below HBT
      have qn : ((w.alloc (.cells #[.int .i64 (n : Int)] 3)).alloc (.cells #[.int .i64 (k : Int)] 3)).cell? ⟨w.heap.size, 0, none⟩ = some (.int .i64 (n : Int)) := by
        unfold World.cell?
        rw [Below.heap_alloc _ _ _ (by simp), heap_alloc_new]
        rfl
      have qk : ((w.alloc (.cells #[.int .i64 (n : Int)] 3)).alloc (.cells #[.int .i64 (k : Int)] 3)).cell? ⟨w.heap.size + 1, 0, none⟩ = some (.int .i64 (k : Int)) := by
        have e : (w.alloc (.cells #[.int .i64 (n : Int)] 3)).heap.size = w.heap.size + 1 := by simp
        unfold World.cell?
        rw [← e, heap_alloc_new]
        rfl
      go_enter Tryz.func135, Tryz.ntmps135
      go_wp2_with (fail)
      generalize (w.alloc (.cells #[.int .i64 (n : Int)] 3)).alloc (.cells #[.int .i64 (k : Int)] 3) = W0 at *
      have hs3 : ∀ x : Nat, nl x ≤ n → (cut x 0 k) + 2 ^ (32 * k) * (cut x k k) + 2 ^ (32 * k) * 2 ^ (32 * k) * (cut x (2 * k) m) = x := fun x hx => cut_thirds (by have := HMK.out; omega)
      have HS := Lib.hid hs3
      clear hs3
      have hnl : ∀ x : Nat, nl (cut x 0 k) ≤ k ∧ nl (cut x k k) ≤ k ∧ nl (cut x (2 * k) m) ≤ k := fun x => ⟨nl_cut _ _ _, nl_cut _ _ _, Nat.le_trans (nl_cut _ _ _) (by omega)⟩
      have C1 := fun (W : World) (hA : NatV W A c a) (hk : W.cell? ⟨w.heap.size + 1, 0, none⟩ = some (.int .i64 k)) (hm : W.cell? ⟨w.heap.size, 0, none⟩ = some (.int .i64 ((2 * k + m : Nat) : Int))) => cut3_c A c a k m (w.heap.size + 1) w.heap.size W hA (by omega) hk hm (by omega)
      have C2 := fun (W : World) (hA : NatV W B d b) (hk : W.cell? ⟨w.heap.size + 1, 0, none⟩ = some (.int .i64 k)) (hm : W.cell? ⟨w.heap.size, 0, none⟩ = some (.int .i64 ((2 * k + m : Nat) : Int))) => cut3_c B d b k m (w.heap.size + 1) w.heap.size W hA (by omega) hk hm (by omega)
      rw [← HMK.out] at C1 C2
      obtain ⟨na0, na1, na2⟩ := hnl a
      obtain ⟨nb0, nb1, nb2⟩ := hnl b
      have SA := HS.out a hna
      have SB := HS.out b hnb
      generalize cut a 0 k = x0 at *
      generalize cut a k k = x1 at *
      generalize cut a (2 * k) m = x2 at *
      generalize cut b 0 k = y0 at *
      generalize cut b k k = y1 at *
      generalize cut b (2 * k) m = y2 at *
      replace SA := Lib.hid SA
      replace SB := Lib.hid SB
      replace C1 := Lib.hid C1
      replace C2 := Lib.hid C2
      clear hnl HS
      refine (C1.out W0 hA qk qn).mono ?_
      rintro e W1 ⟨X0, e0, X1, e1, X2, e2, rfl, hx0, hx1, hx2, hb1⟩
      replace hA := hA.below hb1
      replace hB := hB.below hb1
      replace qk := cbl hb1 qk
      replace qn := cbl hb1 qn
      replace HBT := HBT.cons hb1
      clear hb1
      go_wp2_with (fail)
      refine (C2.out W1 hB qk qn).mono ?_
      rintro e W2 ⟨Y0, g0, Y1, g1, Y2, g2, rfl, hy0, hy1, hy2, hb1⟩
      replace qk := cbl hb1 qk
      replace hx0 := hx0.below hb1
      replace hx1 := hx1.below hb1
      replace hx2 := hx2.below hb1
      replace HBT := HBT.cons hb1
      clear hb1 hA hB qn
      have hsz := HBT.size
      have hL : ∃ W3, W3 = (W2.alloc (.cells #[.slice X0 (nl x0) e0, .slice X1 (nl x1) e1, .slice X2 (nl x2) e2] 139)).alloc (.cells #[.slice Y0 (nl y0) g0, .slice Y1 (nl y1) g1, .slice Y2 (nl y2) g2] 139) := ⟨_, rfl⟩
      obtain ⟨W3, hW3⟩ := hL
      have hb3 : Below W2.heap.size W2 W3 := by
        rw [hW3]
        exact ((Below.refl _ _).alloc (Nat.le_refl _) _).alloc (by simp) _
      have ho1 : W3.heap[W2.heap.size]? = some (.cells #[.slice X0 (nl x0) e0, .slice X1 (nl x1) e1, .slice X2 (nl x2) e2] 139 (0, 0)) := by
        rw [hW3, Below.heap_alloc _ _ _ (by simp), heap_alloc_new]
      have ho2 : W3.heap[W2.heap.size + 1]? = some (.cells #[.slice Y0 (nl y0) g0, .slice Y1 (nl y1) g1, .slice Y2 (nl y2) g2] 139 (0, 0)) := by
        have e : (W2.alloc (.cells #[.slice X0 (nl x0) e0, .slice X1 (nl x1) e1, .slice X2 (nl x2) e2] 139)).heap.size = W2.heap.size + 1 := by simp
        rw [hW3, ← e, heap_alloc_new]
      obtain ⟨⟨p0, p1, p2⟩, _, _, _⟩ := at_cells ho1
      obtain ⟨⟨q0, q1, q2⟩, _, _, _⟩ := at_cells ho2
      have hu := Tryz.underlying139
      unfold arr3
      go_wp2_with (fail)
      rw [← hW3]
      replace qk := cbl hb3 qk
      replace hx0 := hx0.below hb3
      replace hx1 := hx1.below hb3
      replace hx2 := hx2.below hb3
      replace hy0 := hy0.below hb3
      replace hy1 := hy1.below hb3
      replace hy2 := hy2.below hb3
      replace HBT := HBT.cons hb3
      clear hW3 hb3 ho1 ho2
      have Z2 : IntKind.i64.wrap (32 * (k : Int)) = ((32 * k : Nat) : Int) := by rw [IntWalk.i64_in _ (by omega)]; omega
      refine (points_c X0 e0 x0 X1 e1 x1 X2 e2 x2 W3 hx0 hx1 hx2 (by omega) (by omega) (by omega)).mono ?_
      rintro e W4 ⟨V1, a1, f1, V2, am, f2, V3, a2, f3, rfl, ha1, ham, ha2, Ea1, Eam, Ea2, hb1⟩
      have Ba1 : nl a1 ≤ k + 3 := by rw [Ea1]; have h1 := nl_add (x0 + x2) x1; have h2 := nl_add x0 x2; omega
      have Bam : nl am ≤ k + 3 := by
        rw [Eam]
        have h1 := nl_add (x0 + x2 - x1) (x1 - (x0 + x2))
        have h2 := nl_add x0 x2
        have h3 := nl_sub (x0 + x2) x1
        have h4 := nl_sub x1 (x0 + x2)
        omega
      have Ba2 : nl a2 ≤ k + 3 := by
        rw [Ea2]
        have h1 := nl_add x0 (x1 * 2 + x2 * 4)
        have h2 := nl_add (x1 * 2) (x2 * 4)
        have h3 : nl (x1 * 2) ≤ _ := nl_shl x1 1
        have h4 : nl (x2 * 4) ≤ _ := nl_shl x2 2
        omega
      replace Ea1 := Lib.hid Ea1
      replace Eam := Lib.hid Eam
      replace Ea2 := Lib.hid Ea2
      replace qk := cbl hb1 qk
      replace p0 := cbl hb1 p0
      replace p1 := cbl hb1 p1
      replace p2 := cbl hb1 p2
      replace q0 := cbl hb1 q0
      replace q1 := cbl hb1 q1
      replace q2 := cbl hb1 q2
      replace hx0 := hx0.below hb1
      replace hx2 := hx2.below hb1
      replace hy0 := hy0.below hb1
      replace hy1 := hy1.below hb1
      replace hy2 := hy2.below hb1
      replace HBT := HBT.cons hb1
      clear hb1 hx1
      obtain ⟨an, Ean⟩ : ∃ z, z = decide (x0 + x2 < x1) := ⟨_, rfl⟩
      rw [← Ean]
      replace Ean := Lib.hid Ean
      go_wp2_with (fail)
      refine (points_c Y0 g0 y0 Y1 g1 y1 Y2 g2 y2 W4 hy0 hy1 hy2 (by omega) (by omega) (by omega)).mono ?_
      rintro e W5 ⟨U1, b1, l1, U2, bm, l2, U3, b2, l3, rfl, hb1', hbm', hb2', Eb1, Ebm, Eb2, hb1⟩
      have Bb1 : nl b1 ≤ k + 3 := by rw [Eb1]; have h1 := nl_add (y0 + y2) y1; have h2 := nl_add y0 y2; omega
      have Bbm : nl bm ≤ k + 3 := by
        rw [Ebm]
        have h1 := nl_add (y0 + y2 - y1) (y1 - (y0 + y2))
        have h2 := nl_add y0 y2
        have h3 := nl_sub (y0 + y2) y1
        have h4 := nl_sub y1 (y0 + y2)
        omega
      have Bb2 : nl b2 ≤ k + 3 := by
        rw [Eb2]
        have h1 := nl_add y0 (y1 * 2 + y2 * 4)
        have h2 := nl_add (y1 * 2) (y2 * 4)
        have h3 : nl (y1 * 2) ≤ _ := nl_shl y1 1
        have h4 : nl (y2 * 4) ≤ _ := nl_shl y2 2
        omega
      replace Eb1 := Lib.hid Eb1
      replace Ebm := Lib.hid Ebm
      replace Eb2 := Lib.hid Eb2
      replace qk := cbl hb1 qk
      replace p0 := cbl hb1 p0
      replace p2 := cbl hb1 p2
      replace q0 := cbl hb1 q0
      replace q2 := cbl hb1 q2
      replace hx0 := hx0.below hb1
      replace hx2 := hx2.below hb1
      replace hy0 := hy0.below hb1
      replace hy2 := hy2.below hb1
      replace ha1 := ha1.below hb1
      replace ham := ham.below hb1
      replace ha2 := ha2.below hb1
      replace HBT := HBT.cons hb1
      clear hb1 hy1 p1 q1
      obtain ⟨bn, Ebn⟩ : ∃ z, z = decide (y0 + y2 < y1) := ⟨_, rfl⟩
      rw [← Ebn]
      replace Ebn := Lib.hid Ebn
      have hkB : k ≤ 5600000 := by have := HK.out; omega
      clear hsz hna hnb hnN hnI hkI
      go_wp2_with (fail)
      have hd11 := drb (W5)
      replace qk := cbl hd11 qk
      replace p0 := cbl hd11 p0
      replace p2 := cbl hd11 p2
      replace q0 := cbl hd11 q0
      replace q2 := cbl hd11 q2
      replace hx0 := hx0.below hd11
      replace hx2 := hx2.below hd11
      replace hy0 := hy0.below hd11
      replace hy2 := hy2.below hd11
      replace ha1 := ha1.below hd11
      replace ham := ham.below hd11
      replace ha2 := ha2.below hd11
      replace hb1' := hb1'.below hd11
      replace hbm' := hbm'.below hd11
      replace hb2' := hb2'.below hd11
      replace HBT := Below.cons HBT hd11
      clear hd11
      obtain ⟨c0, Ec0⟩ : ∃ zq : Nat, zq = x0 * y0 := ⟨_, rfl⟩
      have Bc0 : nl c0 ≤ 2 * k := by rw [Ec0]; have := nl_mul x0 y0; omega
      have C11_0 := fun (W : World) (h1 : NatV W X0 e0 x0) (h2 : NatV W Y0 g0 y0) => IH.out X0 e0 x0 Y0 g0 y0 W h1 h2 (by omega) (by omega)
      simp only [← Ec0] at C11_0
      replace Ec0 := Lib.hid Ec0
      replace C11_0 := Lib.hid C11_0
      obtain ⟨c4, Ec4⟩ : ∃ zq : Nat, zq = x2 * y2 := ⟨_, rfl⟩
      have Bc4 : nl c4 ≤ 2 * k := by rw [Ec4]; have := nl_mul x2 y2; omega
      have C11_1 := fun (W : World) (h1 : NatV W X2 e2 x2) (h2 : NatV W Y2 g2 y2) => IH.out X2 e2 x2 Y2 g2 y2 W h1 h2 (by omega) (by omega)
      simp only [← Ec4] at C11_1
      replace Ec4 := Lib.hid Ec4
      replace C11_1 := Lib.hid C11_1
      go_region_held3 (fun W => W.cell? ⟨W2.heap.size, 0, none⟩ = some (.slice X0 (nl x0) e0) ∧ W.cell? ⟨W2.heap.size, 2, none⟩ = some (.slice X2 (nl x2) e2) ∧ W.cell? ⟨W2.heap.size + 1, 0, none⟩ = some (.slice Y0 (nl y0) g0) ∧ W.cell? ⟨W2.heap.size + 1, 2, none⟩ = some (.slice Y2 (nl y2) g2))
        (first
          | exact ⟨p0, p2, q0, q2⟩
          | exact ⟨p0_12, p2_12, q0_12, q2_12⟩
          | exact ⟨p0_13, p2_13, q0_13, q2_13⟩
          | go_keep)
        (first
          | (go_at_call 135; (with_reducible refine (C11_0.out _ hx0 hy0).mono ?_); rintro e W12 ⟨X12, c12, rfl, hc0, hb12⟩; have qk_12 := cbl hb12 qk; have p0_12 := cbl hb12 p0; have p2_12 := cbl hb12 p2; have q0_12 := cbl hb12 q0; have q2_12 := cbl hb12 q2; have hx0_12 := hx0.below hb12; have hx2_12 := hx2.below hb12; have hy0_12 := hy0.below hb12; have hy2_12 := hy2.below hb12; have ha1_12 := ha1.below hb12; have ham_12 := ham.below hb12; have ha2_12 := ha2.below hb12; have hb1'_12 := hb1'.below hb12; have hbm'_12 := hbm'.below hb12; have hb2'_12 := hb2'.below hb12; have HBT_12 := Below.cons HBT hb12)
          | (go_at_call 135; (with_reducible refine (C11_1.out _ hx2_12 hy2_12).mono ?_); rintro e W13 ⟨X13, c13, rfl, hc4, hb13⟩; have qk_13 := cbl hb13 qk_12; have p0_13 := cbl hb13 p0_12; have p2_13 := cbl hb13 p2_12; have q0_13 := cbl hb13 q0_12; have q2_13 := cbl hb13 q2_12; have hx0_13 := hx0_12.below hb13; have hx2_13 := hx2_12.below hb13; have hy0_13 := hy0_12.below hb13; have hy2_13 := hy2_12.below hb13; have ha1_13 := ha1_12.below hb13; have ham_13 := ham_12.below hb13; have ha2_13 := ha2_12.below hb13; have hb1'_13 := hb1'_12.below hb13; have hbm'_13 := hbm'_12.below hb13; have hb2'_13 := hb2'_12.below hb13; have hc0_13 := hc0.below hb13; have HBT_13 := Below.cons HBT_12 hb13))
      go_wp2_with (fail)
      clear p0_13
      clear p2_13
      clear q0_13
      clear q2_13
      clear hx0_13
      clear hx2_13
      clear hy0_13
      clear hy2_13
      obtain ⟨r1, Er1⟩ : ∃ zq : Nat, zq = a1 * b1 := ⟨_, rfl⟩
      have Br1 : nl r1 ≤ 2 * k + 6 := by rw [Er1]; have := nl_mul a1 b1; omega
      refine (Calls.mono (R := RetN W13 r1) (by rw [Er1]; exact IH.out V1 f1 a1 U1 l1 b1 W13 ha1_13 hb1'_13 (by omega) (by omega)) ?_)
      replace Er1 := Lib.hid Er1
      rintro e W14 ⟨X14, c14, rfl, hr1, hb14⟩
      replace qk_13 := cbl hb14 qk_13
      replace ha1_13 := ha1_13.below hb14
      replace ham_13 := ham_13.below hb14
      replace ha2_13 := ha2_13.below hb14
      replace hb1'_13 := hb1'_13.below hb14
      replace hbm'_13 := hbm'_13.below hb14
      replace hb2'_13 := hb2'_13.below hb14
      replace hc0_13 := hc0_13.below hb14
      replace hc4 := hc4.below hb14
      have HBT := Below.cons HBT_13 hb14
      clear hb14
      go_wp2_with (fail)
      clear ha1_13
      clear hb1'_13
      obtain ⟨rm, Erm⟩ : ∃ zq : Nat, zq = am * bm := ⟨_, rfl⟩
      have Brm : nl rm ≤ 2 * k + 6 := by rw [Erm]; have := nl_mul am bm; omega
      refine (Calls.mono (R := RetN W14 rm) (by rw [Erm]; exact IH.out V2 f2 am U2 l2 bm W14 ham_13 hbm'_13 (by omega) (by omega)) ?_)
      replace Erm := Lib.hid Erm
      rintro e W15 ⟨X15, c15, rfl, hrm, hb15⟩
      replace qk_13 := cbl hb15 qk_13
      replace ham_13 := ham_13.below hb15
      replace ha2_13 := ha2_13.below hb15
      replace hbm'_13 := hbm'_13.below hb15
      replace hb2'_13 := hb2'_13.below hb15
      replace hc0_13 := hc0_13.below hb15
      replace hc4 := hc4.below hb15
      replace hr1 := hr1.below hb15
      replace HBT := Below.cons HBT hb15
      clear hb15
      go_wp2_with (fail)
      clear ham_13
      clear hbm'_13
      obtain ⟨r2, Er2⟩ : ∃ zq : Nat, zq = a2 * b2 := ⟨_, rfl⟩
      have Br2 : nl r2 ≤ 2 * k + 6 := by rw [Er2]; have := nl_mul a2 b2; omega
      refine (Calls.mono (R := RetN W15 r2) (by rw [Er2]; exact IH.out V3 f3 a2 U3 l3 b2 W15 ha2_13 hb2'_13 (by omega) (by omega)) ?_)
      replace Er2 := Lib.hid Er2
      rintro e W16 ⟨X16, c16, rfl, hr2, hb16⟩
      replace qk_13 := cbl hb16 qk_13
      replace ha2_13 := ha2_13.below hb16
      replace hb2'_13 := hb2'_13.below hb16
      replace hc0_13 := hc0_13.below hb16
      replace hc4 := hc4.below hb16
      replace hr1 := hr1.below hb16
      replace hrm := hrm.below hb16
      replace HBT := Below.cons HBT hb16
      clear hb16
      go_wp2_with (fail)
      clear ha2_13
      clear hb2'_13
      have TP := toom_points x0 x1 x2 y0 y1 y2 am bm r1 rm r2 Eam.out Ebm.out (by rw [Er1.out, Ea1.out, Eb1.out]) Erm.out (by rw [Er2.out, Ea2.out, Eb2.out])
      rw [← Ean.out, ← Ebn.out, ← Ec0.out, ← Ec4.out] at TP
      obtain ⟨cc1, Ecc1⟩ : ∃ zq : Nat, zq = x0 * y1 + x1 * y0 := ⟨_, rfl⟩
      obtain ⟨cc2, Ecc2⟩ : ∃ zq : Nat, zq = x0 * y2 + x1 * y1 + x2 * y0 := ⟨_, rfl⟩
      obtain ⟨cc3, Ecc3⟩ : ∃ zq : Nat, zq = x1 * y2 + x2 * y1 := ⟨_, rfl⟩
      rw [← Ecc1, ← Ecc2, ← Ecc3] at TP
      replace Ecc1 := Lib.hid Ecc1
      replace Ecc2 := Lib.hid Ecc2
      replace Ecc3 := Lib.hid Ecc3
      obtain ⟨hle, TPE, TPN, TP2⟩ := TP
      replace TPE := Lib.hid TPE
      replace TPN := Lib.hid TPN
      replace TP2 := Lib.hid TP2
      obtain ⟨sm, Esm⟩ : ∃ zq : Nat, zq = r1 + rm := ⟨_, rfl⟩
      have Bsm : nl sm ≤ 2 * k + 7 := by rw [Esm]; have := nl_add r1 rm; omega
      refine (Calls.mono (R := RetN W16 sm) (by rw [Esm]; exact add_c X14 c14 r1 X15 c15 rm W16 hr1 hrm (by omega) (by omega)) ?_)
      replace Esm := Lib.hid Esm
      rintro e W17 ⟨X17, c17, rfl, hsm, hb17⟩
      replace qk_13 := cbl hb17 qk_13
      replace hc0_13 := hc0_13.below hb17
      replace hc4 := hc4.below hb17
      replace hr1 := hr1.below hb17
      replace hrm := hrm.below hb17
      replace hr2 := hr2.below hb17
      replace HBT := Below.cons HBT hb17
      clear hb17
      go_wp2_with (fail)
      obtain ⟨df, Edf⟩ : ∃ zq : Nat, zq = r1 - rm := ⟨_, rfl⟩
      have Bdf : nl df ≤ 2 * k + 7 := by rw [Edf]; have := nl_sub r1 rm; omega
      refine (Calls.mono (R := RetN W17 df) (by rw [Edf]; exact less_c X14 c14 r1 X15 c15 rm W17 hr1 hrm (by omega) (by omega) hle) ?_)
      replace Edf := Lib.hid Edf
      rintro e W18 ⟨X18, c18, rfl, hdf, hb18⟩
      replace qk_13 := cbl hb18 qk_13
      replace hc0_13 := hc0_13.below hb18
      replace hc4 := hc4.below hb18
      replace hr1 := hr1.below hb18
      replace hrm := hrm.below hb18
      replace hr2 := hr2.below hb18
      replace hsm := hsm.below hb18
      replace HBT := Below.cons HBT hb18
      clear hb18
      clear hle
      clear hr1
      clear hrm
      by_cases hs : an = bn
      · have hsb : (!an == bn) = false := by simp [hs]
        have TE := TPE.out hs
        rw [← Esm.out, ← Edf.out] at TE
        have VE : sm / 2 ^ 1 = c0 + cc2 + c4 := by omega
        have VO : df / 2 ^ 1 = cc1 + cc3 := by omega
        clear TE
        replace VE := Lib.hid VE
        replace VO := Lib.hid VO
        go_wp2_with (fail)
        obtain ⟨e2, Ee2⟩ : ∃ zq : Nat, zq = sm / 2 ^ (1) := ⟨_, rfl⟩
        have Be2 : nl e2 ≤ 2 * k + 7 := by rw [Ee2]; have := nl_div sm (2 ^ (1)); omega
        refine (Calls.mono (R := RetN W18 e2) (by rw [Ee2]; exact shr_e X17 c17 sm _ (1) W18 hsm (by omega) (by omega) (by omega)) ?_)
        replace Ee2 := Lib.hid Ee2
        rintro e W19 ⟨X19, c19, rfl, he2, hb19⟩
        replace qk_13 := cbl hb19 qk_13
        replace hc0_13 := hc0_13.below hb19
        replace hc4 := hc4.below hb19
        replace hr2 := hr2.below hb19
        replace hsm := hsm.below hb19
        replace hdf := hdf.below hb19
        replace HBT := Below.cons HBT hb19
        clear hb19
        go_wp2_with (fail)
        obtain ⟨o2, Eo2⟩ : ∃ zq : Nat, zq = df / 2 ^ (1) := ⟨_, rfl⟩
        have Bo2 : nl o2 ≤ 2 * k + 7 := by rw [Eo2]; have := nl_div df (2 ^ (1)); omega
        refine (Calls.mono (R := RetN W19 o2) (by rw [Eo2]; exact shr_e X18 c18 df _ (1) W19 hdf (by omega) (by omega) (by omega)) ?_)
        replace Eo2 := Lib.hid Eo2
        rintro e W20 ⟨X20, c20, rfl, ho2, hb20⟩
        replace qk_13 := cbl hb20 qk_13
        replace hc0_13 := hc0_13.below hb20
        replace hc4 := hc4.below hb20
        replace hr2 := hr2.below hb20
        replace hsm := hsm.below hb20
        replace hdf := hdf.below hb20
        replace he2 := he2.below hb20
        replace HBT := Below.cons HBT hb20
        clear hb20
        go_wp2_with (fail)
        clear hsm
        clear hdf
        have Ve2 : e2 = c0 + cc2 + c4 := by rw [Ee2.out]; exact VE.out
        replace Ve2 := Lib.hid Ve2
        have Vo2 : o2 = cc1 + cc3 := by rw [Eo2.out]; exact VO.out
        replace Vo2 := Lib.hid Vo2
        obtain ⟨c04, Ec04⟩ : ∃ zq : Nat, zq = c0 + c4 := ⟨_, rfl⟩
        have Bc04 : nl c04 ≤ 2 * k + 1 := by rw [Ec04]; have := nl_add c0 c4; omega
        refine (Calls.mono (R := RetN W20 c04) (by rw [Ec04]; exact add_c X12 c12 c0 X13 c13 c4 W20 hc0_13 hc4 (by omega) (by omega)) ?_)
        replace Ec04 := Lib.hid Ec04
        rintro e W21 ⟨X21, c21, rfl, hc04, hb21⟩
        replace qk_13 := cbl hb21 qk_13
        replace hc0_13 := hc0_13.below hb21
        replace hc4 := hc4.below hb21
        replace hr2 := hr2.below hb21
        replace he2 := he2.below hb21
        replace ho2 := ho2.below hb21
        replace HBT := Below.cons HBT hb21
        clear hb21
        go_wp2_with (fail)
        obtain ⟨z2, Ez2⟩ : ∃ zq : Nat, zq = e2 - c04 := ⟨_, rfl⟩
        have Bz2 : nl z2 ≤ 2 * k + 7 := by rw [Ez2]; have := nl_sub e2 c04; omega
        refine (Calls.mono (R := RetN W21 z2) (by rw [Ez2]; exact less_c X19 c19 e2 X21 c21 c04 W21 he2 hc04 (by omega) (by omega) (by have h1 := Ve2.out; have h2 := Ec04.out; omega)) ?_)
        replace Ez2 := Lib.hid Ez2
        rintro e W22 ⟨X22, c22, rfl, hz2, hb22⟩
        replace qk_13 := cbl hb22 qk_13
        replace hc0_13 := hc0_13.below hb22
        replace hc4 := hc4.below hb22
        replace hr2 := hr2.below hb22
        replace he2 := he2.below hb22
        replace ho2 := ho2.below hb22
        replace hc04 := hc04.below hb22
        replace HBT := Below.cons HBT hb22
        clear hb22
        go_wp2_with (fail)
        clear he2
        clear hc04
        have Vz2 : z2 = cc2 := by rw [Ez2.out, Ve2.out, Ec04.out]; omega
        replace Vz2 := Lib.hid Vz2
        obtain ⟨s2, Es2⟩ : ∃ zq : Nat, zq = z2 * 2 ^ (2) := ⟨_, rfl⟩
        have Bs2 : nl s2 ≤ 2 * k + 8 := by rw [Es2]; have := nl_shl z2 (2); omega
        refine (Calls.mono (R := RetN W22 s2) (by rw [Es2]; exact shl_e X22 c22 z2 _ (2) W22 hz2 (by omega) (by omega) (by omega)) ?_)
        replace Es2 := Lib.hid Es2
        rintro e W23 ⟨X23, c23, rfl, hs2, hb23⟩
        replace qk_13 := cbl hb23 qk_13
        replace hc0_13 := hc0_13.below hb23
        replace hc4 := hc4.below hb23
        replace hr2 := hr2.below hb23
        replace ho2 := ho2.below hb23
        replace hz2 := hz2.below hb23
        replace HBT := Below.cons HBT hb23
        clear hb23
        go_wp2_with (fail)
        obtain ⟨s4, Es4⟩ : ∃ zq : Nat, zq = c4 * 2 ^ (4) := ⟨_, rfl⟩
        have Bs4 : nl s4 ≤ 2 * k + 1 := by rw [Es4]; have := nl_shl c4 (4); omega
        refine (Calls.mono (R := RetN W23 s4) (by rw [Es4]; exact shl_e X13 c13 c4 _ (4) W23 hc4 (by omega) (by omega) (by omega)) ?_)
        replace Es4 := Lib.hid Es4
        rintro e W24 ⟨X24, c24, rfl, hs4, hb24⟩
        replace qk_13 := cbl hb24 qk_13
        replace hc0_13 := hc0_13.below hb24
        replace hc4 := hc4.below hb24
        replace hr2 := hr2.below hb24
        replace ho2 := ho2.below hb24
        replace hz2 := hz2.below hb24
        replace hs2 := hs2.below hb24
        replace HBT := Below.cons HBT hb24
        clear hb24
        go_wp2_with (fail)
        obtain ⟨s24, Es24⟩ : ∃ zq : Nat, zq = s2 + s4 := ⟨_, rfl⟩
        have Bs24 : nl s24 ≤ 2 * k + 9 := by rw [Es24]; have := nl_add s2 s4; omega
        refine (Calls.mono (R := RetN W24 s24) (by rw [Es24]; exact add_c X23 c23 s2 X24 c24 s4 W24 hs2 hs4 (by omega) (by omega)) ?_)
        replace Es24 := Lib.hid Es24
        rintro e W25 ⟨X25, c25, rfl, hs24, hb25⟩
        replace qk_13 := cbl hb25 qk_13
        replace hc0_13 := hc0_13.below hb25
        replace hc4 := hc4.below hb25
        replace hr2 := hr2.below hb25
        replace ho2 := ho2.below hb25
        replace hz2 := hz2.below hb25
        replace hs2 := hs2.below hb25
        replace hs4 := hs4.below hb25
        replace HBT := Below.cons HBT hb25
        clear hb25
        go_wp2_with (fail)
        obtain ⟨t24, Et24⟩ : ∃ zq : Nat, zq = c0 + s24 := ⟨_, rfl⟩
        have Bt24 : nl t24 ≤ 2 * k + 10 := by rw [Et24]; have := nl_add c0 s24; omega
        refine (Calls.mono (R := RetN W25 t24) (by rw [Et24]; exact add_c X12 c12 c0 X25 c25 s24 W25 hc0_13 hs24 (by omega) (by omega)) ?_)
        replace Et24 := Lib.hid Et24
        rintro e W26 ⟨X26, c26, rfl, ht24, hb26⟩
        replace qk_13 := cbl hb26 qk_13
        replace hc0_13 := hc0_13.below hb26
        replace hc4 := hc4.below hb26
        replace hr2 := hr2.below hb26
        replace ho2 := ho2.below hb26
        replace hz2 := hz2.below hb26
        replace hs2 := hs2.below hb26
        replace hs4 := hs4.below hb26
        replace hs24 := hs24.below hb26
        replace HBT := Below.cons HBT hb26
        clear hb26
        go_wp2_with (fail)
        have Vt24 : t24 = c0 + (cc2 * 4 + c4 * 16) := by rw [Et24.out, Es24.out, Es2.out, Es4.out, Vz2.out]
        replace Vt24 := Lib.hid Vt24
        obtain ⟨u, Eu⟩ : ∃ zq : Nat, zq = r2 - t24 := ⟨_, rfl⟩
        have Bu : nl u ≤ 2 * k + 6 := by rw [Eu]; have := nl_sub r2 t24; omega
        refine (Calls.mono (R := RetN W26 u) (by rw [Eu]; exact less_c X16 c16 r2 X26 c26 t24 W26 hr2 ht24 (by omega) (by omega) (by have h1 := Vt24.out; have h2 := TP2.out; omega)) ?_)
        replace Eu := Lib.hid Eu
        rintro e W27 ⟨X27, c27, rfl, hu, hb27⟩
        replace qk_13 := cbl hb27 qk_13
        replace hc0_13 := hc0_13.below hb27
        replace hc4 := hc4.below hb27
        replace hr2 := hr2.below hb27
        replace ho2 := ho2.below hb27
        replace hz2 := hz2.below hb27
        replace hs2 := hs2.below hb27
        replace hs4 := hs4.below hb27
        replace hs24 := hs24.below hb27
        replace ht24 := ht24.below hb27
        replace HBT := Below.cons HBT hb27
        clear hb27
        go_wp2_with (fail)
        clear hr2
        clear ht24
        clear hs24
        clear hs2
        clear hs4
        obtain ⟨u2, Eu2⟩ : ∃ zq : Nat, zq = u / 2 ^ (1) := ⟨_, rfl⟩
        have Bu2 : nl u2 ≤ 2 * k + 6 := by rw [Eu2]; have := nl_div u (2 ^ (1)); omega
        refine (Calls.mono (R := RetN W27 u2) (by rw [Eu2]; exact shr_e X27 c27 u _ (1) W27 hu (by omega) (by omega) (by omega)) ?_)
        replace Eu2 := Lib.hid Eu2
        rintro e W28 ⟨X28, c28, rfl, hu2, hb28⟩
        replace qk_13 := cbl hb28 qk_13
        replace hc0_13 := hc0_13.below hb28
        replace hc4 := hc4.below hb28
        replace ho2 := ho2.below hb28
        replace hz2 := hz2.below hb28
        replace hu := hu.below hb28
        replace HBT := Below.cons HBT hb28
        clear hb28
        go_wp2_with (fail)
        have Vu2 : u2 = cc1 + 4 * cc3 := by rw [Eu2.out, Eu.out, Vt24.out, TP2.out]; omega
        replace Vu2 := Lib.hid Vu2
        obtain ⟨v, Ev⟩ : ∃ zq : Nat, zq = u2 - o2 := ⟨_, rfl⟩
        have Bv : nl v ≤ 2 * k + 6 := by rw [Ev]; have := nl_sub u2 o2; omega
        refine (Calls.mono (R := RetN W28 v) (by rw [Ev]; exact less_c X28 c28 u2 X20 c20 o2 W28 hu2 ho2 (by omega) (by omega) (by have h1 := Vu2.out; have h2 := Vo2.out; omega)) ?_)
        replace Ev := Lib.hid Ev
        rintro e W29 ⟨X29, c29, rfl, hv, hb29⟩
        replace qk_13 := cbl hb29 qk_13
        replace hc0_13 := hc0_13.below hb29
        replace hc4 := hc4.below hb29
        replace ho2 := ho2.below hb29
        replace hz2 := hz2.below hb29
        replace hu := hu.below hb29
        replace hu2 := hu2.below hb29
        replace HBT := Below.cons HBT hb29
        clear hb29
        go_wp2_with (fail)
        clear hu
        clear hu2
        obtain ⟨z3, Ez3⟩ : ∃ zq : Nat, zq = v / 3 := ⟨_, rfl⟩
        have Bz3 : nl z3 ≤ 2 * k + 6 := by rw [Ez3]; have := nl_div v 3; omega
        refine (Calls.mono (R := RetN W29 z3) (by rw [Ez3]; exact third_c X29 c29 v W29 hv (by omega)) ?_)
        replace Ez3 := Lib.hid Ez3
        rintro e W30 ⟨X30, c30, rfl, hz3, hb30⟩
        replace qk_13 := cbl hb30 qk_13
        replace hc0_13 := hc0_13.below hb30
        replace hc4 := hc4.below hb30
        replace ho2 := ho2.below hb30
        replace hz2 := hz2.below hb30
        replace hv := hv.below hb30
        replace HBT := Below.cons HBT hb30
        clear hb30
        go_wp2_with (fail)
        have Vz3 : z3 = cc3 := by rw [Ez3.out, Ev.out, Vu2.out, Vo2.out]; omega
        replace Vz3 := Lib.hid Vz3
        clear hv
        obtain ⟨z1, Ez1⟩ : ∃ zq : Nat, zq = o2 - z3 := ⟨_, rfl⟩
        have Bz1 : nl z1 ≤ 2 * k + 7 := by rw [Ez1]; have := nl_sub o2 z3; omega
        refine (Calls.mono (R := RetN W30 z1) (by rw [Ez1]; exact less_c X20 c20 o2 X30 c30 z3 W30 ho2 hz3 (by omega) (by omega) (by have h1 := Vo2.out; have h2 := Vz3.out; omega)) ?_)
        replace Ez1 := Lib.hid Ez1
        rintro e W31 ⟨X31, c31, rfl, hz1, hb31⟩
        replace qk_13 := cbl hb31 qk_13
        replace hc0_13 := hc0_13.below hb31
        replace hc4 := hc4.below hb31
        replace ho2 := ho2.below hb31
        replace hz2 := hz2.below hb31
        replace hz3 := hz3.below hb31
        replace HBT := Below.cons HBT hb31
        clear hb31
        clear ho2
        have Vz1 : z1 = cc1 := by rw [Ez1.out, Vo2.out, Vz3.out]; omega
        replace Vz1 := Lib.hid Vz1
        go_wp2_with (fail)
        have hbA : Below W31.heap.size W31 (W31.alloc (.cells #[.slice X12 (nl c0) c12, .slice X31 (nl z1) c31, .slice X22 (nl z2) c22, .slice X30 (nl z3) c30, .slice X13 (nl c4) c13] 22)) := (Below.refl _ _).alloc (Nat.le_refl _) _
        have hoA := heap_alloc_new W31 (.cells #[.slice X12 (nl c0) c12, .slice X31 (nl z1) c31, .slice X22 (nl z2) c22, .slice X30 (nl z3) c30, .slice X13 (nl c4) c13] 22)
        replace qk_13 := cbl hbA qk_13
        replace hc0_13 := hc0_13.below hbA
        replace hc4 := hc4.below hbA
        replace hz2 := hz2.below hbA
        replace hz3 := hz3.below hbA
        replace hz1 := hz1.below hbA
        replace HBT := Below.cons HBT hbA
        obtain ⟨s, hsS⟩ : ∃ s, s = W31.heap.size := ⟨_, rfl⟩
        rw [← hsS] at hoA ⊢
        generalize W31.alloc (.cells #[.slice X12 (nl c0) c12, .slice X31 (nl z1) c31, .slice X22 (nl z2) c22, .slice X30 (nl z3) c30, .slice X13 (nl c4) c13] 22) = Wb at *
        clear hbA hsS
        obtain ⟨Af, cf, vf, hv0, hv1, hv2, hv3, hv4, hAf⟩ : ∃ (Af : Nat → Option Addr) (cf vf : Nat → Nat), vf 0 = c0 ∧ vf 1 = z1 ∧ vf 2 = z2 ∧ vf 3 = z3 ∧ vf 4 = c4 ∧ ∀ i, i < 5 → Wb.cell? ⟨s, i, none⟩ = some (.slice (Af i) (nl (vf i)) (cf i)) ∧ NatV Wb (Af i) (cf i) (vf i) ∧ nl (vf i) ≤ 2 * k + 7 := by
          refine ⟨(fun i => match i with | 0 => X12 | 1 => X31 | 2 => X22 | 3 => X30 | _ => X13), (fun i => match i with | 0 => c12 | 1 => c31 | 2 => c22 | 3 => c30 | _ => c13), (fun i => match i with | 0 => c0 | 1 => z1 | 2 => z2 | 3 => z3 | _ => c4), rfl, rfl, rfl, rfl, rfl, ?_⟩
          intro i hi
          rcases i with _ | _ | _ | _ | _ | i
          · exact ⟨by unfold World.cell?; rw [hoA]; rfl, hc0_13, Nat.le_trans Bc0 (by omega)⟩
          · exact ⟨by unfold World.cell?; rw [hoA]; rfl, hz1, Nat.le_trans Bz1 (by omega)⟩
          · exact ⟨by unfold World.cell?; rw [hoA]; rfl, hz2, Nat.le_trans Bz2 (by omega)⟩
          · exact ⟨by unfold World.cell?; rw [hoA]; rfl, hz3, Nat.le_trans Bz3 (by omega)⟩
          · exact ⟨by unfold World.cell?; rw [hoA]; rfl, hc4, Nat.le_trans Bc4 (by omega)⟩
          · omega
        replace hAf := Lib.hid hAf
        have HV := Lib.hid (And.intro hv0 (And.intro hv1 (And.intro hv2 (And.intro hv3 hv4))))
        clear hv0 hv1 hv2 hv3 hv4 hoA
        obtain ⟨p, hp⟩ : ∃ p, p = 32 * k := ⟨_, rfl⟩
        have Zp : 32 * (k : Int) = (p : Int) := by omega
        have HP := Lib.hid hp
        clear hp Z2
        have hpB : p ≤ 180000000 := by omega
        have hqk := qk_13
        go_loopw [29, 30, 31, 133] (fun vo vi vc ct wr => ∃ (i out : Nat) (Lo : Option Addr) (lc : Nat), ct = .int .i64 i ∧ vo = .slice Lo (nl out) lc ∧ i ≤ 5 ∧ NatV wr Lo lc out ∧ nl out ≤ 6 * k + 10 + i ∧ Below Wb.heap.size Wb wr ∧ Hid (out = tsum vf p i)) (fun vo vi vc ct wr => 5 - (intOf ct).toNat)
        case atStart => exact ⟨0, 0, none, 0, rfl, by rw [nl_zero], Nat.zero_le _, natV_nil _, by rw [nl_zero]; omega, Below.refl _ _, Lib.hid rfl⟩
        case round =>
          obtain ⟨i, out, Lo, lc, rfl, rfl, hi, hout, hno, hbr, heq⟩ := hrel
          by_cases hlt : i < 5
          · obtain ⟨hc, hN, hn⟩ := hAf.out i hlt
            replace hc := cbl hbr hc
            replace hN := hN.below hbr
            have hkr := cbl hbr hqk
            obtain ⟨q, hq⟩ : ∃ q, q = p * i := ⟨_, rfl⟩
            have hqI : (p : Int) * (i : Int) = (q : Int) := by rw [hq]; simp
            have hqB : q ≤ 900000000 := by rw [hq]; exact Nat.le_trans (Nat.mul_le_mul hpB (show i ≤ 4 by omega)) (by decide)
            have hq32 : q = 32 * (k * i) := by rw [hq, HP.out, Nat.mul_assoc]
            have hki : k * i ≤ 4 * k := by rw [Nat.mul_comm 4 k]; exact Nat.mul_le_mul_left _ (by omega)
            have hns : nl (vf i * 2 ^ q) ≤ 6 * k + 7 := by rw [hq32]; have := nl_shl32 (vf i) (k * i); omega
            have HQ := Lib.hid hq
            clear hq hq32 hki
            obtain ⟨v, hv⟩ : ∃ v, v = vf i := ⟨_, rfl⟩
            rw [← hv] at hc hN hn hns
            replace hv := Lib.hid hv
            obtain ⟨sv, hsv⟩ : ∃ z, z = v * 2 ^ q := ⟨_, rfl⟩
            rw [← hsv] at hns
            have CS := shl_e (Af i) (cf i) v (q : Int) q wr hN (by omega) rfl (by omega)
            rw [← hsv] at CS
            replace hsv := Lib.hid hsv
            replace CS := Lib.hid CS
            go_wp2_with (fail)
            refine CS.out.mono ?_
            rintro e Wx ⟨S, cs, rfl, hS, hbs⟩
            go_wp2_with (fail)
            refine (add_c Lo lc out S cs sv Wx (hout.below hbs) hS (by omega) (by omega)).mono ?_
            obtain ⟨o2', ho2'⟩ : ∃ z, z = out + sv := ⟨_, rfl⟩
            have hnO : nl o2' ≤ 6 * k + 10 + (i + 1) := by rw [ho2']; have := nl_add out sv; omega
            rw [← ho2']
            replace ho2' := Lib.hid ho2'
            rintro e Wy ⟨T, ctt, rfl, hT, hbt⟩
            go_wp2_with (fail)
            go_roundw
            case rel => exact ⟨i + 1, o2', T, ctt, by go_num, rfl, by omega, hT, hnO, hbr.trans ((hbs.cons hbt).mono hbr.size), Lib.hid (by rw [ho2'.out, hsv.out, hv.out, heq.out, HQ.out]; rfl)⟩
            case measure => simp [intOf] <;> omega
          · obtain rfl : i = 5 := by omega
            have hfin : out = a * b := by
              obtain ⟨h0, h1, h2, h3, h4⟩ := HV.out
              rw [heq.out, tsum5 vf p _ rfl, h0, h1, h2, h3, h4, Ec0.out, Ec4.out, Vz1.out, Vz2.out, Vz3.out, Ecc1.out, Ecc2.out, Ecc3.out, HP.out]
              exact toom_sum x0 x1 x2 y0 y1 y2 _ a b SA.out SB.out
            go_wp2_with (fail)
            go_ret
            rw [← hfin]
            exact ⟨_, _, rfl, hout, HBT.cons hbr⟩
      · have hsb : (!an == bn) = true := by simp [hs]
        have TE := TPN.out hs
        rw [← Esm.out, ← Edf.out] at TE
        have VE : df / 2 ^ 1 = c0 + cc2 + c4 := by omega
        have VO : sm / 2 ^ 1 = cc1 + cc3 := by omega
        clear TE
        replace VE := Lib.hid VE
        replace VO := Lib.hid VO
        go_wp2_with (fail)
        obtain ⟨e2, Ee2⟩ : ∃ zq : Nat, zq = df / 2 ^ (1) := ⟨_, rfl⟩
        have Be2 : nl e2 ≤ 2 * k + 7 := by rw [Ee2]; have := nl_div df (2 ^ (1)); omega
        refine (Calls.mono (R := RetN W18 e2) (by rw [Ee2]; exact shr_e X18 c18 df _ (1) W18 hdf (by omega) (by omega) (by omega)) ?_)
        replace Ee2 := Lib.hid Ee2
        rintro e W19 ⟨X19, c19, rfl, he2, hb19⟩
        replace qk_13 := cbl hb19 qk_13
        replace hc0_13 := hc0_13.below hb19
        replace hc4 := hc4.below hb19
        replace hr2 := hr2.below hb19
        replace hsm := hsm.below hb19
        replace hdf := hdf.below hb19
        replace HBT := Below.cons HBT hb19
        clear hb19
        go_wp2_with (fail)
        obtain ⟨o2, Eo2⟩ : ∃ zq : Nat, zq = sm / 2 ^ (1) := ⟨_, rfl⟩
        have Bo2 : nl o2 ≤ 2 * k + 7 := by rw [Eo2]; have := nl_div sm (2 ^ (1)); omega
        refine (Calls.mono (R := RetN W19 o2) (by rw [Eo2]; exact shr_e X17 c17 sm _ (1) W19 hsm (by omega) (by omega) (by omega)) ?_)
        replace Eo2 := Lib.hid Eo2
        rintro e W20 ⟨X20, c20, rfl, ho2, hb20⟩
        replace qk_13 := cbl hb20 qk_13
        replace hc0_13 := hc0_13.below hb20
        replace hc4 := hc4.below hb20
        replace hr2 := hr2.below hb20
        replace hsm := hsm.below hb20
        replace hdf := hdf.below hb20
        replace he2 := he2.below hb20
        replace HBT := Below.cons HBT hb20
        clear hb20
        go_wp2_with (fail)
        clear hsm
        clear hdf
        have Ve2 : e2 = c0 + cc2 + c4 := by rw [Ee2.out]; exact VE.out
        replace Ve2 := Lib.hid Ve2
        have Vo2 : o2 = cc1 + cc3 := by rw [Eo2.out]; exact VO.out
        replace Vo2 := Lib.hid Vo2
        obtain ⟨c04, Ec04⟩ : ∃ zq : Nat, zq = c0 + c4 := ⟨_, rfl⟩
        have Bc04 : nl c04 ≤ 2 * k + 1 := by rw [Ec04]; have := nl_add c0 c4; omega
        refine (Calls.mono (R := RetN W20 c04) (by rw [Ec04]; exact add_c X12 c12 c0 X13 c13 c4 W20 hc0_13 hc4 (by omega) (by omega)) ?_)
        replace Ec04 := Lib.hid Ec04
        rintro e W21 ⟨X21, c21, rfl, hc04, hb21⟩
        replace qk_13 := cbl hb21 qk_13
        replace hc0_13 := hc0_13.below hb21
        replace hc4 := hc4.below hb21
        replace hr2 := hr2.below hb21
        replace he2 := he2.below hb21
        replace ho2 := ho2.below hb21
        replace HBT := Below.cons HBT hb21
        clear hb21
        go_wp2_with (fail)
        obtain ⟨z2, Ez2⟩ : ∃ zq : Nat, zq = e2 - c04 := ⟨_, rfl⟩
        have Bz2 : nl z2 ≤ 2 * k + 7 := by rw [Ez2]; have := nl_sub e2 c04; omega
        refine (Calls.mono (R := RetN W21 z2) (by rw [Ez2]; exact less_c X19 c19 e2 X21 c21 c04 W21 he2 hc04 (by omega) (by omega) (by have h1 := Ve2.out; have h2 := Ec04.out; omega)) ?_)
        replace Ez2 := Lib.hid Ez2
        rintro e W22 ⟨X22, c22, rfl, hz2, hb22⟩
        replace qk_13 := cbl hb22 qk_13
        replace hc0_13 := hc0_13.below hb22
        replace hc4 := hc4.below hb22
        replace hr2 := hr2.below hb22
        replace he2 := he2.below hb22
        replace ho2 := ho2.below hb22
        replace hc04 := hc04.below hb22
        replace HBT := Below.cons HBT hb22
        clear hb22
        go_wp2_with (fail)
        clear he2
        clear hc04
        have Vz2 : z2 = cc2 := by rw [Ez2.out, Ve2.out, Ec04.out]; omega
        replace Vz2 := Lib.hid Vz2
        obtain ⟨s2, Es2⟩ : ∃ zq : Nat, zq = z2 * 2 ^ (2) := ⟨_, rfl⟩
        have Bs2 : nl s2 ≤ 2 * k + 8 := by rw [Es2]; have := nl_shl z2 (2); omega
        refine (Calls.mono (R := RetN W22 s2) (by rw [Es2]; exact shl_e X22 c22 z2 _ (2) W22 hz2 (by omega) (by omega) (by omega)) ?_)
        replace Es2 := Lib.hid Es2
        rintro e W23 ⟨X23, c23, rfl, hs2, hb23⟩
        replace qk_13 := cbl hb23 qk_13
        replace hc0_13 := hc0_13.below hb23
        replace hc4 := hc4.below hb23
        replace hr2 := hr2.below hb23
        replace ho2 := ho2.below hb23
        replace hz2 := hz2.below hb23
        replace HBT := Below.cons HBT hb23
        clear hb23
        go_wp2_with (fail)
        obtain ⟨s4, Es4⟩ : ∃ zq : Nat, zq = c4 * 2 ^ (4) := ⟨_, rfl⟩
        have Bs4 : nl s4 ≤ 2 * k + 1 := by rw [Es4]; have := nl_shl c4 (4); omega
        refine (Calls.mono (R := RetN W23 s4) (by rw [Es4]; exact shl_e X13 c13 c4 _ (4) W23 hc4 (by omega) (by omega) (by omega)) ?_)
        replace Es4 := Lib.hid Es4
        rintro e W24 ⟨X24, c24, rfl, hs4, hb24⟩
        replace qk_13 := cbl hb24 qk_13
        replace hc0_13 := hc0_13.below hb24
        replace hc4 := hc4.below hb24
        replace hr2 := hr2.below hb24
        replace ho2 := ho2.below hb24
        replace hz2 := hz2.below hb24
        replace hs2 := hs2.below hb24
        replace HBT := Below.cons HBT hb24
        clear hb24
        go_wp2_with (fail)
        obtain ⟨s24, Es24⟩ : ∃ zq : Nat, zq = s2 + s4 := ⟨_, rfl⟩
        have Bs24 : nl s24 ≤ 2 * k + 9 := by rw [Es24]; have := nl_add s2 s4; omega
        refine (Calls.mono (R := RetN W24 s24) (by rw [Es24]; exact add_c X23 c23 s2 X24 c24 s4 W24 hs2 hs4 (by omega) (by omega)) ?_)
        replace Es24 := Lib.hid Es24
        rintro e W25 ⟨X25, c25, rfl, hs24, hb25⟩
        replace qk_13 := cbl hb25 qk_13
        replace hc0_13 := hc0_13.below hb25
        replace hc4 := hc4.below hb25
        replace hr2 := hr2.below hb25
        replace ho2 := ho2.below hb25
        replace hz2 := hz2.below hb25
        replace hs2 := hs2.below hb25
        replace hs4 := hs4.below hb25
        replace HBT := Below.cons HBT hb25
        clear hb25
        go_wp2_with (fail)
        obtain ⟨t24, Et24⟩ : ∃ zq : Nat, zq = c0 + s24 := ⟨_, rfl⟩
        have Bt24 : nl t24 ≤ 2 * k + 10 := by rw [Et24]; have := nl_add c0 s24; omega
        refine (Calls.mono (R := RetN W25 t24) (by rw [Et24]; exact add_c X12 c12 c0 X25 c25 s24 W25 hc0_13 hs24 (by omega) (by omega)) ?_)
        replace Et24 := Lib.hid Et24
        rintro e W26 ⟨X26, c26, rfl, ht24, hb26⟩
        replace qk_13 := cbl hb26 qk_13
        replace hc0_13 := hc0_13.below hb26
        replace hc4 := hc4.below hb26
        replace hr2 := hr2.below hb26
        replace ho2 := ho2.below hb26
        replace hz2 := hz2.below hb26
        replace hs2 := hs2.below hb26
        replace hs4 := hs4.below hb26
        replace hs24 := hs24.below hb26
        replace HBT := Below.cons HBT hb26
        clear hb26
        go_wp2_with (fail)
        have Vt24 : t24 = c0 + (cc2 * 4 + c4 * 16) := by rw [Et24.out, Es24.out, Es2.out, Es4.out, Vz2.out]
        replace Vt24 := Lib.hid Vt24
        obtain ⟨u, Eu⟩ : ∃ zq : Nat, zq = r2 - t24 := ⟨_, rfl⟩
        have Bu : nl u ≤ 2 * k + 6 := by rw [Eu]; have := nl_sub r2 t24; omega
        refine (Calls.mono (R := RetN W26 u) (by rw [Eu]; exact less_c X16 c16 r2 X26 c26 t24 W26 hr2 ht24 (by omega) (by omega) (by have h1 := Vt24.out; have h2 := TP2.out; omega)) ?_)
        replace Eu := Lib.hid Eu
        rintro e W27 ⟨X27, c27, rfl, hu, hb27⟩
        replace qk_13 := cbl hb27 qk_13
        replace hc0_13 := hc0_13.below hb27
        replace hc4 := hc4.below hb27
        replace hr2 := hr2.below hb27
        replace ho2 := ho2.below hb27
        replace hz2 := hz2.below hb27
        replace hs2 := hs2.below hb27
        replace hs4 := hs4.below hb27
        replace hs24 := hs24.below hb27
        replace ht24 := ht24.below hb27
        replace HBT := Below.cons HBT hb27
        clear hb27
        go_wp2_with (fail)
        clear hr2
        clear ht24
        clear hs24
        clear hs2
        clear hs4
        obtain ⟨u2, Eu2⟩ : ∃ zq : Nat, zq = u / 2 ^ (1) := ⟨_, rfl⟩
        have Bu2 : nl u2 ≤ 2 * k + 6 := by rw [Eu2]; have := nl_div u (2 ^ (1)); omega
        refine (Calls.mono (R := RetN W27 u2) (by rw [Eu2]; exact shr_e X27 c27 u _ (1) W27 hu (by omega) (by omega) (by omega)) ?_)
        replace Eu2 := Lib.hid Eu2
        rintro e W28 ⟨X28, c28, rfl, hu2, hb28⟩
        replace qk_13 := cbl hb28 qk_13
        replace hc0_13 := hc0_13.below hb28
        replace hc4 := hc4.below hb28
        replace ho2 := ho2.below hb28
        replace hz2 := hz2.below hb28
        replace hu := hu.below hb28
        replace HBT := Below.cons HBT hb28
        clear hb28
        go_wp2_with (fail)
        have Vu2 : u2 = cc1 + 4 * cc3 := by rw [Eu2.out, Eu.out, Vt24.out, TP2.out]; omega
        replace Vu2 := Lib.hid Vu2
        obtain ⟨v, Ev⟩ : ∃ zq : Nat, zq = u2 - o2 := ⟨_, rfl⟩
        have Bv : nl v ≤ 2 * k + 6 := by rw [Ev]; have := nl_sub u2 o2; omega
        refine (Calls.mono (R := RetN W28 v) (by rw [Ev]; exact less_c X28 c28 u2 X20 c20 o2 W28 hu2 ho2 (by omega) (by omega) (by have h1 := Vu2.out; have h2 := Vo2.out; omega)) ?_)
        replace Ev := Lib.hid Ev
        rintro e W29 ⟨X29, c29, rfl, hv, hb29⟩
        replace qk_13 := cbl hb29 qk_13
        replace hc0_13 := hc0_13.below hb29
        replace hc4 := hc4.below hb29
        replace ho2 := ho2.below hb29
        replace hz2 := hz2.below hb29
        replace hu := hu.below hb29
        replace hu2 := hu2.below hb29
        replace HBT := Below.cons HBT hb29
        clear hb29
        go_wp2_with (fail)
        clear hu
        clear hu2
        obtain ⟨z3, Ez3⟩ : ∃ zq : Nat, zq = v / 3 := ⟨_, rfl⟩
        have Bz3 : nl z3 ≤ 2 * k + 6 := by rw [Ez3]; have := nl_div v 3; omega
        refine (Calls.mono (R := RetN W29 z3) (by rw [Ez3]; exact third_c X29 c29 v W29 hv (by omega)) ?_)
        replace Ez3 := Lib.hid Ez3
        rintro e W30 ⟨X30, c30, rfl, hz3, hb30⟩
        replace qk_13 := cbl hb30 qk_13
        replace hc0_13 := hc0_13.below hb30
        replace hc4 := hc4.below hb30
        replace ho2 := ho2.below hb30
        replace hz2 := hz2.below hb30
        replace hv := hv.below hb30
        replace HBT := Below.cons HBT hb30
        clear hb30
        go_wp2_with (fail)
        have Vz3 : z3 = cc3 := by rw [Ez3.out, Ev.out, Vu2.out, Vo2.out]; omega
        replace Vz3 := Lib.hid Vz3
        clear hv
        obtain ⟨z1, Ez1⟩ : ∃ zq : Nat, zq = o2 - z3 := ⟨_, rfl⟩
        have Bz1 : nl z1 ≤ 2 * k + 7 := by rw [Ez1]; have := nl_sub o2 z3; omega
        refine (Calls.mono (R := RetN W30 z1) (by rw [Ez1]; exact less_c X20 c20 o2 X30 c30 z3 W30 ho2 hz3 (by omega) (by omega) (by have h1 := Vo2.out; have h2 := Vz3.out; omega)) ?_)
        replace Ez1 := Lib.hid Ez1
        rintro e W31 ⟨X31, c31, rfl, hz1, hb31⟩
        replace qk_13 := cbl hb31 qk_13
        replace hc0_13 := hc0_13.below hb31
        replace hc4 := hc4.below hb31
        replace ho2 := ho2.below hb31
        replace hz2 := hz2.below hb31
        replace hz3 := hz3.below hb31
        replace HBT := Below.cons HBT hb31
        clear hb31
        clear ho2
        have Vz1 : z1 = cc1 := by rw [Ez1.out, Vo2.out, Vz3.out]; omega
        replace Vz1 := Lib.hid Vz1
        go_wp2_with (fail)
        have hbA : Below W31.heap.size W31 (W31.alloc (.cells #[.slice X12 (nl c0) c12, .slice X31 (nl z1) c31, .slice X22 (nl z2) c22, .slice X30 (nl z3) c30, .slice X13 (nl c4) c13] 22)) := (Below.refl _ _).alloc (Nat.le_refl _) _
        have hoA := heap_alloc_new W31 (.cells #[.slice X12 (nl c0) c12, .slice X31 (nl z1) c31, .slice X22 (nl z2) c22, .slice X30 (nl z3) c30, .slice X13 (nl c4) c13] 22)
        replace qk_13 := cbl hbA qk_13
        replace hc0_13 := hc0_13.below hbA
        replace hc4 := hc4.below hbA
        replace hz2 := hz2.below hbA
        replace hz3 := hz3.below hbA
        replace hz1 := hz1.below hbA
        replace HBT := Below.cons HBT hbA
        obtain ⟨s, hsS⟩ : ∃ s, s = W31.heap.size := ⟨_, rfl⟩
        rw [← hsS] at hoA ⊢
        generalize W31.alloc (.cells #[.slice X12 (nl c0) c12, .slice X31 (nl z1) c31, .slice X22 (nl z2) c22, .slice X30 (nl z3) c30, .slice X13 (nl c4) c13] 22) = Wb at *
        clear hbA hsS
        obtain ⟨Af, cf, vf, hv0, hv1, hv2, hv3, hv4, hAf⟩ : ∃ (Af : Nat → Option Addr) (cf vf : Nat → Nat), vf 0 = c0 ∧ vf 1 = z1 ∧ vf 2 = z2 ∧ vf 3 = z3 ∧ vf 4 = c4 ∧ ∀ i, i < 5 → Wb.cell? ⟨s, i, none⟩ = some (.slice (Af i) (nl (vf i)) (cf i)) ∧ NatV Wb (Af i) (cf i) (vf i) ∧ nl (vf i) ≤ 2 * k + 7 := by
          refine ⟨(fun i => match i with | 0 => X12 | 1 => X31 | 2 => X22 | 3 => X30 | _ => X13), (fun i => match i with | 0 => c12 | 1 => c31 | 2 => c22 | 3 => c30 | _ => c13), (fun i => match i with | 0 => c0 | 1 => z1 | 2 => z2 | 3 => z3 | _ => c4), rfl, rfl, rfl, rfl, rfl, ?_⟩
          intro i hi
          rcases i with _ | _ | _ | _ | _ | i
          · exact ⟨by unfold World.cell?; rw [hoA]; rfl, hc0_13, Nat.le_trans Bc0 (by omega)⟩
          · exact ⟨by unfold World.cell?; rw [hoA]; rfl, hz1, Nat.le_trans Bz1 (by omega)⟩
          · exact ⟨by unfold World.cell?; rw [hoA]; rfl, hz2, Nat.le_trans Bz2 (by omega)⟩
          · exact ⟨by unfold World.cell?; rw [hoA]; rfl, hz3, Nat.le_trans Bz3 (by omega)⟩
          · exact ⟨by unfold World.cell?; rw [hoA]; rfl, hc4, Nat.le_trans Bc4 (by omega)⟩
          · omega
        replace hAf := Lib.hid hAf
        have HV := Lib.hid (And.intro hv0 (And.intro hv1 (And.intro hv2 (And.intro hv3 hv4))))
        clear hv0 hv1 hv2 hv3 hv4 hoA
        obtain ⟨p, hp⟩ : ∃ p, p = 32 * k := ⟨_, rfl⟩
        have Zp : 32 * (k : Int) = (p : Int) := by omega
        have HP := Lib.hid hp
        clear hp Z2
        have hpB : p ≤ 180000000 := by omega
        have hqk := qk_13
        go_loopw [29, 30, 31, 133] (fun vo vi vc ct wr => ∃ (i out : Nat) (Lo : Option Addr) (lc : Nat), ct = .int .i64 i ∧ vo = .slice Lo (nl out) lc ∧ i ≤ 5 ∧ NatV wr Lo lc out ∧ nl out ≤ 6 * k + 10 + i ∧ Below Wb.heap.size Wb wr ∧ Hid (out = tsum vf p i)) (fun vo vi vc ct wr => 5 - (intOf ct).toNat)
        case atStart => exact ⟨0, 0, none, 0, rfl, by rw [nl_zero], Nat.zero_le _, natV_nil _, by rw [nl_zero]; omega, Below.refl _ _, Lib.hid rfl⟩
        case round =>
          obtain ⟨i, out, Lo, lc, rfl, rfl, hi, hout, hno, hbr, heq⟩ := hrel
          by_cases hlt : i < 5
          · obtain ⟨hc, hN, hn⟩ := hAf.out i hlt
            replace hc := cbl hbr hc
            replace hN := hN.below hbr
            have hkr := cbl hbr hqk
            obtain ⟨q, hq⟩ : ∃ q, q = p * i := ⟨_, rfl⟩
            have hqI : (p : Int) * (i : Int) = (q : Int) := by rw [hq]; simp
            have hqB : q ≤ 900000000 := by rw [hq]; exact Nat.le_trans (Nat.mul_le_mul hpB (show i ≤ 4 by omega)) (by decide)
            have hq32 : q = 32 * (k * i) := by rw [hq, HP.out, Nat.mul_assoc]
            have hki : k * i ≤ 4 * k := by rw [Nat.mul_comm 4 k]; exact Nat.mul_le_mul_left _ (by omega)
            have hns : nl (vf i * 2 ^ q) ≤ 6 * k + 7 := by rw [hq32]; have := nl_shl32 (vf i) (k * i); omega
            have HQ := Lib.hid hq
            clear hq hq32 hki
            obtain ⟨v, hv⟩ : ∃ v, v = vf i := ⟨_, rfl⟩
            rw [← hv] at hc hN hn hns
            replace hv := Lib.hid hv
            obtain ⟨sv, hsv⟩ : ∃ z, z = v * 2 ^ q := ⟨_, rfl⟩
            rw [← hsv] at hns
            have CS := shl_e (Af i) (cf i) v (q : Int) q wr hN (by omega) rfl (by omega)
            rw [← hsv] at CS
            replace hsv := Lib.hid hsv
            replace CS := Lib.hid CS
            go_wp2_with (fail)
            refine CS.out.mono ?_
            rintro e Wx ⟨S, cs, rfl, hS, hbs⟩
            go_wp2_with (fail)
            refine (add_c Lo lc out S cs sv Wx (hout.below hbs) hS (by omega) (by omega)).mono ?_
            obtain ⟨o2', ho2'⟩ : ∃ z, z = out + sv := ⟨_, rfl⟩
            have hnO : nl o2' ≤ 6 * k + 10 + (i + 1) := by rw [ho2']; have := nl_add out sv; omega
            rw [← ho2']
            replace ho2' := Lib.hid ho2'
            rintro e Wy ⟨T, ctt, rfl, hT, hbt⟩
            go_wp2_with (fail)
            go_roundw
            case rel => exact ⟨i + 1, o2', T, ctt, by go_num, rfl, by omega, hT, hnO, hbr.trans ((hbs.cons hbt).mono hbr.size), Lib.hid (by rw [ho2'.out, hsv.out, hv.out, heq.out, HQ.out]; rfl)⟩
            case measure => simp [intOf] <;> omega
          · obtain rfl : i = 5 := by omega
            have hfin : out = a * b := by
              obtain ⟨h0, h1, h2, h3, h4⟩ := HV.out
              rw [heq.out, tsum5 vf p _ rfl, h0, h1, h2, h3, h4, Ec0.out, Ec4.out, Vz1.out, Vz2.out, Vz3.out, Ecc1.out, Ecc2.out, Ecc3.out, HP.out]
              exact toom_sum x0 x1 x2 y0 y1 y2 _ a b SA.out SB.out
            go_wp2_with (fail)
            go_ret
            rw [← hfin]
            exact ⟨_, _, rfl, hout, HBT.cons hbr⟩
end Go.Proofs.YtacjfpibilolnaaGreatDoor
