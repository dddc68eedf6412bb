/- Products by transforms, by the best way, and powers. -/
import Derived.Test.YtfkagknikmibjaaDoorZC4
set_option linter.unusedVariables false
set_option linter.unusedSimpArgs false
namespace Go.Proofs.YtfkagknikmibjaaDoor
open Go.RowKit Go.Shelf
attribute [local go_sem] max2_i min2_i max_two min_two

set_option maxRecDepth 100000 in
set_option maxHeartbeats 1000000 in
theorem fast_c (A : Option Addr) (c a : Nat) (B : Option Addr) (d b : Nat) (w : World) (hA : NatV w A c a) (hB : NatV w B d b) (hG : Flds w) (ha : nl a ≤ 16384) (hb : nl b ≤ 16384) :
    Calls Tryd.prog 64 #[.slice A (nl a) c, .slice B (nl b) d] w (RetN w (a * b)) := by
  by_cases h : nl a < nl b
  · have hd : decide ((nl a : Int) < (nl b : Int)) = true := by simp; omega
    have hd2 : decide ((16384 : Int) < (nl b : Int)) = false := by simp; omega
    have CC := conv_c B d b A c a w hB hA hG hb ha
    replace CC := Lib.hid CC
    go_enter Tryd.func64, Tryd.ntmps64
    go_wp2_with (fail)
    refine CC.out.mono ?_
    rintro e w1 ⟨X, cx, n, L, rfl, hLl, hX, hLm, hnc, hn, hv, hb1⟩
    go_wp2_with (fail)
    refine (carry_c X n cx L w1 hLl hX hLm (by omega) hnc).mono ?_
    rintro e w2 ⟨Y, cy, rfl, h1, h2⟩
    go_wp2_with (fail)
    go_ret
    rw [Nat.mul_comm a b, ← hv]
    exact ⟨Y, cy, rfl, h1, hb1.cons h2⟩
  · have hd : decide ((nl a : Int) < (nl b : Int)) = false := by simp; omega
    have hd2 : decide ((16384 : Int) < (nl a : Int)) = false := by simp; omega
    have CC := conv_c A c a B d b w hA hB hG ha hb
    replace CC := Lib.hid CC
    go_enter Tryd.func64, Tryd.ntmps64
    go_wp2_with (fail)
    refine CC.out.mono ?_
    rintro e w1 ⟨X, cx, n, L, rfl, hLl, hX, hLm, hnc, hn, hv, hb1⟩
    go_wp2_with (fail)
    refine (carry_c X n cx L w1 hLl hX hLm (by omega) hnc).mono ?_
    rintro e w2 ⟨Y, cy, rfl, h1, h2⟩
    go_wp2_with (fail)
    go_ret
    rw [← hv]
    exact ⟨Y, cy, rfl, h1, hb1.cons h2⟩
end Go.Proofs.YtfkagknikmibjaaDoor

/- The product by whichever way is best; powers. -/
set_option linter.unusedVariables false
set_option linter.unusedSimpArgs false
namespace Go.Proofs.YtfkagknikmibjaaDoor
open Go.RowKit Go.Shelf
attribute [local go_sem] max2_i min2_i max_two min_two

set_option maxRecDepth 100000 in
set_option maxHeartbeats 2000000 in
theorem mul_c (A : Option Addr) (c a : Nat) (B : Option Addr) (d b : Nat) (w : World) (hA : NatV w A c a) (hB : NatV w B d b) (hG : Flds w) (ha : nl a ≤ 16384) (hb : nl b ≤ 16384) :
    Calls Tryd.prog 45 #[.slice A (nl a) c, .slice B (nl b) d] w (RetN w (a * b)) := by
  have hb0 : Below w.heap.size w (w.alloc (.cells #[.int .i64 48, .func (.func 64) #[] #[], .int .i64 14, .func (.func 65) #[] #[], .int .i64 8, .func (.func 66) #[] #[]] 70)) := (Below.refl _ _).alloc (Nat.le_refl _) _
  have hob := heap_alloc_new w (.cells #[.int .i64 48, .func (.func 64) #[] #[], .int .i64 14, .func (.func 65) #[] #[], .int .i64 8, .func (.func 66) #[] #[]] 70)
  have hu := Tryd.underlying70
  obtain ⟨m, hm⟩ : ∃ m, m = min (nl a) (nl b) := ⟨_, rfl⟩
  have hmI : min (nl a : Int) (nl b : Int) = (m : Int) := by omega
  have HM := Lib.hid hm
  clear hm
  go_enter Tryd.func45, Tryd.ntmps45
  go_wp2_with (fail)
  obtain ⟨s, hs⟩ : ∃ s, s = w.heap.size := ⟨_, rfl⟩
  rw [← hs] at hob ⊢
  replace hs := Lib.hid hs
  generalize w.alloc (.cells #[.int .i64 48, .func (.func 64) #[] #[], .int .i64 14, .func (.func 65) #[] #[], .int .i64 8, .func (.func 66) #[] #[]] 70) = W0 at *
  have k0 : W0.cell? ⟨s, 0, none⟩ = some (.int .i64 48) := by unfold World.cell?; rw [hob]; rfl
  have k1 : W0.cell? ⟨s, 1, none⟩ = some (.func (.func 64) #[] #[]) := by unfold World.cell?; rw [hob]; rfl
  have k2 : W0.cell? ⟨s, 2, none⟩ = some (.int .i64 14) := by unfold World.cell?; rw [hob]; rfl
  have k3 : W0.cell? ⟨s, 3, none⟩ = some (.func (.func 65) #[] #[]) := by unfold World.cell?; rw [hob]; rfl
  have k4 : W0.cell? ⟨s, 4, none⟩ = some (.int .i64 8) := by unfold World.cell?; rw [hob]; rfl
  have k5 : W0.cell? ⟨s, 5, none⟩ = some (.func (.func 66) #[] #[]) := by unfold World.cell?; rw [hob]; rfl
  clear hob
  go_loopw [6, 12] (fun v6 ct wr => ∃ i : Nat, ct = .int .i64 i ∧ i ≤ 3 ∧ Below W0.heap.size W0 wr) (fun v6 ct wr => 3 - (intOf ct).toNat)
  case atStart => exact ⟨0, rfl, by decide, .refl _ _⟩
  case round =>
    obtain ⟨i, rfl, hi, hbr⟩ := hrel
    have hbT := hb0.cons hbr
    by_cases hlt : i < 3
    · rcases i with _ | _ | _ | i
      · have hbB : Below wr.heap.size wr (wr.alloc (.cells #[.int .i64 48, .func (.func 64) #[] #[]] 70)) := (Below.refl _ _).alloc (Nat.le_refl _) _
        have hoB := heap_alloc_new wr (.cells #[.int .i64 48, .func (.func 64) #[] #[]] 70)
        have b0 : (wr.alloc (.cells #[.int .i64 48, .func (.func 64) #[] #[]] 70)).cell? ⟨wr.heap.size, 0, none⟩ = some (.int .i64 48) := by unfold World.cell?; rw [hoB]; rfl
        have b1 : (wr.alloc (.cells #[.int .i64 48, .func (.func 64) #[] #[]] 70)).cell? ⟨wr.heap.size, 1, none⟩ = some (.func (.func 64) #[] #[]) := by unfold World.cell?; rw [hoB]; rfl
        have q0 := cell_below hbr k0
        have q1 := cell_below hbr k1
        clear hoB
        by_cases hn : 48 ≤ m
        · have hd : decide ((48 : Int) ≤ (m : Int)) = true := by simp; omega
          have CC := fast_c A c a B d b _ ((hA.below hbT).below hbB) ((hB.below hbT).below hbB) ((hG.below hbT).below hbB) ha hb
          replace CC := Lib.hid CC
          go_wp2_with (fail)
          refine CC.out.mono ?_
          rintro e w2 ⟨Y, cy, rfl, h1, h2⟩
          go_wp2_with (fail)
          go_ret
          exact ⟨Y, cy, rfl, h1, (hbT.cons hbB).cons h2⟩
        · have hd : decide ((48 : Int) ≤ (m : Int)) = false := by simp; omega
          go_wp2_with (fail)
          go_roundw
          case rel => exact ⟨1, by go_num, by decide, hbr.cons hbB⟩
          case measure => simp only [intOf]; decide
      · have hbB : Below wr.heap.size wr (wr.alloc (.cells #[.int .i64 14, .func (.func 65) #[] #[]] 70)) := (Below.refl _ _).alloc (Nat.le_refl _) _
        have hoB := heap_alloc_new wr (.cells #[.int .i64 14, .func (.func 65) #[] #[]] 70)
        have b0 : (wr.alloc (.cells #[.int .i64 14, .func (.func 65) #[] #[]] 70)).cell? ⟨wr.heap.size, 0, none⟩ = some (.int .i64 14) := by unfold World.cell?; rw [hoB]; rfl
        have b1 : (wr.alloc (.cells #[.int .i64 14, .func (.func 65) #[] #[]] 70)).cell? ⟨wr.heap.size, 1, none⟩ = some (.func (.func 65) #[] #[]) := by unfold World.cell?; rw [hoB]; rfl
        have q0 := cell_below hbr k2
        have q1 := cell_below hbr k3
        clear hoB
        by_cases hn : 14 ≤ m
        · have hd : decide ((14 : Int) ≤ (m : Int)) = true := by simp; omega
          have CC := toom_c 16384 A c a B d b _ ((hA.below hbT).below hbB) ((hB.below hbT).below hbB) ha hb (by decide)
          replace CC := Lib.hid CC
          go_wp2_with (fail)
          refine CC.out.mono ?_
          rintro e w2 ⟨Y, cy, rfl, h1, h2⟩
          go_wp2_with (fail)
          go_ret
          exact ⟨Y, cy, rfl, h1, (hbT.cons hbB).cons h2⟩
        · have hd : decide ((14 : Int) ≤ (m : Int)) = false := by simp; omega
          go_wp2_with (fail)
          go_roundw
          case rel => exact ⟨2, by go_num, by decide, hbr.cons hbB⟩
          case measure => simp only [intOf]; decide
      · have hbB : Below wr.heap.size wr (wr.alloc (.cells #[.int .i64 8, .func (.func 66) #[] #[]] 70)) := (Below.refl _ _).alloc (Nat.le_refl _) _
        have hoB := heap_alloc_new wr (.cells #[.int .i64 8, .func (.func 66) #[] #[]] 70)
        have b0 : (wr.alloc (.cells #[.int .i64 8, .func (.func 66) #[] #[]] 70)).cell? ⟨wr.heap.size, 0, none⟩ = some (.int .i64 8) := by unfold World.cell?; rw [hoB]; rfl
        have b1 : (wr.alloc (.cells #[.int .i64 8, .func (.func 66) #[] #[]] 70)).cell? ⟨wr.heap.size, 1, none⟩ = some (.func (.func 66) #[] #[]) := by unfold World.cell?; rw [hoB]; rfl
        have q0 := cell_below hbr k4
        have q1 := cell_below hbr k5
        clear hoB
        by_cases hn : 8 ≤ m
        · have hd : decide ((8 : Int) ≤ (m : Int)) = true := by simp; omega
          have CC := karatsuba_c 16384 A c a B d b _ ((hA.below hbT).below hbB) ((hB.below hbT).below hbB) ha hb (by decide)
          replace CC := Lib.hid CC
          go_wp2_with (fail)
          refine CC.out.mono ?_
          rintro e w2 ⟨Y, cy, rfl, h1, h2⟩
          go_wp2_with (fail)
          go_ret
          exact ⟨Y, cy, rfl, h1, (hbT.cons hbB).cons h2⟩
        · have hd : decide ((8 : Int) ≤ (m : Int)) = false := by simp; omega
          go_wp2_with (fail)
          go_roundw
          case rel => exact ⟨3, by go_num, by decide, hbr.cons hbB⟩
          case measure => simp only [intOf]; decide
      · omega
    · obtain rfl : i = 3 := by omega
      have CC := school_c A c a B d b wr (hA.below hbT) (hB.below hbT) (by omega) (by omega)
      replace CC := Lib.hid CC
      go_wp2_with (fail)
      refine CC.out.mono ?_
      rintro e w2 ⟨Y, cy, rfl, h1, h2⟩
      go_wp2_with (fail)
      go_ret
      exact ⟨Y, cy, rfl, h1, hbT.cons h2⟩
end Go.Proofs.YtfkagknikmibjaaDoor
