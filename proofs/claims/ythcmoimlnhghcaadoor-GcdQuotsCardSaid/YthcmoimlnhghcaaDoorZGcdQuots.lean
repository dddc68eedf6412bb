/- For all inputs from the last one of Euclid's quotients on both numbers come again, times their divisor, each but the first is above 0, and the last one is above 1, if there are two: GcdQuots returns true and leaves its arguments as they were. Conditions: Each package-level variable that the row lists (ntt.fields) holds at the call what the program's text lays; the tie is given and covers the pruned copy of the repository. -/
import Derived.Test.YthcmoimlnhghcaaDoorG05
import Derived.Test.YthcmoimlnhghcaaDoorCards
import Derived.Test.YthcmoimlnhghcaaDoorTie
import Derived.SevenTiedAt
set_option maxRecDepth 100000
set_option maxHeartbeats 4000000
/- Laws of greatest common divisors: GcdQuots. -/
set_option linter.unusedVariables false
set_option linter.unusedSimpArgs false
namespace Go.Proofs.YthcmoimlnhghcaaDoor
open Go.RowKit Go.Shelf
attribute [local go_sem] max2_i min2_i max_two min_two

theorem nl_gcdq {a b L : Nat} (ha : nl a ≤ L) (hb : nl b ≤ L) : nl (Nat.gcd a b) ≤ L := nl_gcd ha hb
theorem nat_nil_at (w : World) (A : Option Addr) : NatV w A 0 0 := ⟨.inl (by simp [vals, limbs_zero]), by rw [nl_zero]; exact Nat.le_refl _, by decide⟩
theorem euq_start {a b n g : Nat} (hn : n = eun a b) (hg : g = Nat.gcd a b) : g = (euc a b n).1 ∧ 0 = (euc a b n).2 := by
  subst hn hg; exact ⟨(eun_gcd a b).symm, (eun_zero a b).symm⟩
theorem euq_b {a b n : Nat} (hn : n = eun a b) : n = 0 ↔ nl b = 0 := by
  subst hn; rw [eun_b0]
  constructor
  · rintro rfl; exact nl_zero
  · intro h
    rcases Nat.eq_zero_or_pos b with h0 | h0
    · exact h0
    · have := nl_pos.2 (show b ≠ 0 by omega); omega
theorem euq_len {a b n : Nat} (hn : n = eun a b) : (((n : Int) == 0) == ((nl b : Int) == 0)) = true := by
  have h := euq_b hn
  by_cases h0 : n = 0
  · rw [ieqT (by omega), ieqT (by have := h.1 h0; omega)]; rfl
  · rw [ieqF (by omega), ieqF (by have := fun e => h0 (h.2 e); omega)]; rfl
theorem euq_len2 {a b n : Nat} (hn : n = eun a b) : (n == 0) = (nl b == 0) := by
  have h := euq_b hn
  by_cases h0 : n = 0
  · rw [h0, h.1 h0]
  · have := fun e => h0 (h.2 e)
    simp only [beq_eq_false_iff_ne.2 h0, beq_eq_false_iff_ne.2 this]
theorem gcdQuots_c (A : Option Addr) (c : Nat) (l : List Nat) (B : Option Addr) (d : Nat) (m : List Nat)  (w : World) (hG : Flds w) (hl : Rd w A l) (Ll : Lim l) (Ql : l.length ≤ maxLen) (Cl : l.length ≤ c) (Zl : A = none → c = 0) (hm : Rd w B m) (Lm : Lim m) (Qm : m.length ≤ maxLen) (Cm : m.length ≤ d) (Zm : B = none → d = 0)  :
    Calls Tryd.prog 3 #[.slice A l.length c, .slice B m.length d] w fun e w' => e = .returned (.bool true) ∧ Below w.heap.size w w' := by
  replace Zl := Lib.hid Zl
  replace Zm := Lib.hid Zm
  go_enter Tryd.func3, Tryd.ntmps3
  go_wp2_with (fail)
  refine (Calls.mono (ghead_c _ hG) ?_)
  rintro e W1 ⟨rfl, hb1⟩
  replace hG := hG.below hb1
  replace hl := hl.below hb1
  replace hm := hm.below hb1
  have HBT := hb1
  clear hb1
  go_wp2_with (fail)
  obtain ⟨a, Ea⟩ : ∃ zq : Nat, zq = val (l.take 25) := ⟨_, rfl⟩
  have Ba : nl a ≤ 25 := by rw [Ea]; exact made_nl l Ll 25
  refine (Calls.mono (R := RetN W1 a) (by rw [Ea]; exact (made_n_c A c 25 l _ hl Ll Ql Cl Zl.out (by decide))) ?_)
  replace Ea := Lib.hid Ea
  rintro e W2 ⟨X2, c2, rfl, ha, hb2⟩
  replace hG := hG.below hb2
  replace hl := hl.below hb2
  replace hm := hm.below hb2
  replace HBT := Below.cons HBT hb2
  clear hb2
  go_wp2_with (fail)
  obtain ⟨b, Eb⟩ : ∃ zq : Nat, zq = val (m.take 25) := ⟨_, rfl⟩
  have Bb : nl b ≤ 25 := by rw [Eb]; exact made_nl m Lm 25
  refine (Calls.mono (R := RetN W2 b) (by rw [Eb]; exact (made_n_c B d 25 m _ hm Lm Qm Cm Zm.out (by decide))) ?_)
  replace Eb := Lib.hid Eb
  rintro e W3 ⟨X3, c3, rfl, hb, hb3⟩
  replace hG := hG.below hb3
  replace hl := hl.below hb3
  replace hm := hm.below hb3
  replace ha := ha.below hb3
  replace HBT := Below.cons HBT hb3
  clear hb3
  go_wp2_with (fail)
  obtain ⟨n, En⟩ : ∃ z : Nat, z = eun a b := ⟨_, rfl⟩
  obtain ⟨f, Ef⟩ : ∃ z : Nat → Nat, z = quo a b := ⟨_, rfl⟩
  have CQ := quots_c X2 c2 a X3 c3 b _ ha hb (by omega) (by omega)
  rw [← En, ← Ef] at CQ
  replace CQ := Lib.hid CQ
  replace En := Lib.hid En
  replace Ef := Lib.hid Ef
  refine (Calls.mono CQ.out ?_)
  clear CQ
  rintro e WQ ⟨V, cq, rfl, hq, hmx, hbq⟩
  replace hG := hG.below hbq
  replace hl := hl.below hbq
  replace hm := hm.below hbq
  replace ha := ha.below hbq
  replace hb := hb.below hbq
  replace HBT := Below.cons HBT hbq
  clear hbq
  go_wp2_with (fail)
  obtain ⟨g, Eg⟩ : ∃ zq : Nat, zq = Nat.gcd a b := ⟨_, rfl⟩
  have Bg : nl g ≤ 25 := by rw [Eg]; exact nl_gcdq (by omega) (by omega)
  refine (Calls.mono (R := RetN WQ g) (by rw [Eg]; exact (gcd_c X2 c2 a X3 c3 b _ ha hb (by omega) (by omega))) ?_)
  replace Eg := Lib.hid Eg
  rintro e W4 ⟨X4, c4, rfl, hg, hb4⟩
  replace hG := hG.below hb4
  replace hl := hl.below hb4
  replace hm := hm.below hb4
  replace ha := ha.below hb4
  replace hb := hb.below hb4
  replace hq := hq.below hb4
  replace HBT := Below.cons HBT hb4
  clear hb4
  obtain ⟨hA, hB, hq, hg, HBT⟩ : NatV W4 X2 c2 a ∧ NatV W4 X3 c3 b ∧ QL f W4 V n ∧ NatV W4 X4 c4 g ∧ Below w.heap.size w W4 := ⟨ha, hb, hq, hg, HBT⟩
  skip
  have HK : ∀ Z, Below W4.heap.size W4 Z → NatV Z X2 c2 a ∧ NatV Z X3 c3 b ∧ QL f Z V n ∧ Below w.heap.size w Z := fun Z h => ⟨hA.below h, hB.below h, hq.below h, HBT.cons h⟩
  replace HK := Lib.hid HK
  clear hA hB hq HBT
  have Wn : IntKind.i64.wrap ((n : Int) - 1) = (n : Int) - 1 := IntWalk.i64_in _ (by unfold maxLen at hmx; omega)
  go_wp2_with (fail)
  have ST := euq_start (a := a) (b := b) (n := n) (g := g) En.out Eg.out
  go_loopw [7, 8, 9] (fun v7 v8 v9 wr => ∃ (j x y : Nat) (X : Option Addr) (cx : Nat) (Y : Option Addr) (cy : Nat), v7 = .slice X (nl x) cx ∧ v8 = .slice Y (nl y) cy ∧ v9 = .int .i64 ((j : Int) - 1) ∧ j ≤ n ∧ NatV wr X cx x ∧ NatV wr Y cy y ∧ Hid (x = (euc a b j).1 ∧ y = (euc a b j).2) ∧ Below W4.heap.size W4 wr) (fun v7 v8 v9 wr => (intOf v9 + 1).toNat)
  case atStart => exact ⟨n, g, 0, X4, c4, _, 0, rfl, by rw [nl_zero], rfl, Nat.le_refl _, hg.below ((Below.refl _ _).alloc (Nat.le_refl _) _), nat_nil_at _ _, Lib.hid ST, (Below.refl _ _).alloc (Nat.le_refl _) _⟩
  case round =>
    obtain ⟨j, x, y, X, cx, Y, cy, rfl, rfl, rfl, hj, hX, hY, hxy, hbr⟩ := hrel
    clear hg ST
    cases j with
    | zero =>
      obtain ⟨KA, KB, KQ, HBT⟩ := HK.out wr hbr
      have hxa : x = a := hxy.out.1
      have hyb : y = b := hxy.out.2
      have t1 : decide (0 ≤ ((0 : Nat) : Int) - 1) = false := by decide
      have t2 : (((n : Int) == 0) == ((nl b : Int) == 0)) = true := euq_len En.out
      have hnb : (n == 0) = (nl b == 0) := euq_len2 En.out
      replace hxa := Lib.hid hxa
      replace hyb := Lib.hid hyb
      have Bx : nl x ≤ 25 := by rw [hxa.out]; exact Ba
      have By : nl y ≤ 25 := by rw [hyb.out]; exact Bb
      by_cases hn : 1 < n
      · obtain ⟨k, hk⟩ : ∃ k, n = k + 2 := ⟨n - 2, by omega⟩
        obtain ⟨ad, Xq, dq, rfl, hcq, hNq⟩ := KQ (k + 1) (by omega)
        obtain ⟨p, Ep⟩ : ∃ z, z = f (k + 1) := ⟨_, rfl⟩
        rw [← Ep] at hcq hNq
        have hp1 : p ≠ 1 := by rw [Ep, Ef.out]; exact quo_last (by rw [← hk]; exact En.out)
        have Bp : nl p ≤ 25 := by rw [Ep, Ef.out]; exact quo_nl (by rw [← En.out]; omega) (by omega) (by omega)
        have t3 : decide (1 < (n : Int)) = true := by simp; omega
        have t4 : decide (1 < n) = true := by simp; omega
        have I1 : (n : Int) - 1 = ((k + 1 : Nat) : Int) := by omega
        have L1 : k + 1 < n := by omega
        have KQ' := Lib.hid KQ
        clear KQ
        obtain ⟨m, Em⟩ : ∃ m, m = k + 1 := ⟨_, rfl⟩
        rw [← Em] at I1 L1 hcq Ep
        have Wm : IntKind.i64.wrap (m : Int) = (m : Int) := IntWalk.i64_in _ (by unfold maxLen at hmx; omega)
        replace Ep := Lib.hid Ep
        replace Em := Lib.hid Em
        replace hk := Lib.hid hk
        replace hn := Lib.hid hn
        replace hp1 := Lib.hid hp1
        go_wp2_with (fail)
        have hb41 : Below (wr).heap.size (wr) ((wr).alloc (.cells #[.int .u32 1] 29)) := (Below.refl _ _).alloc (Nat.le_refl _) _
        have ho := nlit (l := [1]) _ _ _ (heap_alloc_new (wr) (.cells #[.int .u32 1] 29)) rfl (by decide) (by decide) (by decide)
        obtain ⟨o, Eo⟩ : ∃ zq : Nat, zq = val [1] := ⟨_, rfl⟩
        rw [← Eo] at ho
        have No : nl o = 1 := by rw [Eo]; exact nl_lit (by decide) (by decide)
        have Vo : o = 1 := by rw [Eo]; decide
        have Bo : nl o ≤ 1 := Nat.le_of_eq No
        replace No := Lib.hid No
        replace Eo := Lib.hid Eo
        replace Vo := Lib.hid Vo
        replace KA := KA.below hb41
        replace KB := KB.below hb41
        replace hX := hX.below hb41
        replace hY := hY.below hb41
        replace hNq := hNq.below hb41
        replace HBT := Below.cons HBT hb41
        clear hb41
        skip
        have hpo : p ≠ o := by rw [Vo.out]; exact hp1.out
        replace hpo := Lib.hid hpo
        refine (Calls.mono (at_lenR No.out ((show Calls Tryd.prog 10 _ _ (fun e w' => e = .returned (.bool false) ∧ Below _ _ w') from by have hh := same1_c Xq dq p _ _ o _ hNq ho (by omega) (by omega); rw [decide_eq_false hpo.out] at hh; exact hh))) ?_)
        rintro e W42 ⟨rfl, hb42⟩
        replace KA := KA.below hb42
        replace KB := KB.below hb42
        replace hX := hX.below hb42
        replace hY := hY.below hb42
        replace hNq := hNq.below hb42
        replace ho := ho.below hb42
        replace HBT := Below.cons HBT hb42
        clear hb42
        go_wp2_with (fail)
        clear hNq
        clear ho
        refine (Calls.mono (same1_t X cx x X2 c2 a _ hX KA (by omega) (by omega) (by rw [hxa.out])) ?_)
        rintro e W43 ⟨rfl, hb43⟩
        replace KA := KA.below hb43
        replace KB := KB.below hb43
        replace hX := hX.below hb43
        replace hY := hY.below hb43
        replace HBT := Below.cons HBT hb43
        clear hb43
        rcases Nat.eq_zero_or_pos n with hn0 | hn0
        · have hb0 : nl b = 0 := by have := euq_b En.out; omega
          have u1 : ((n : Int) == 0) = true := ieqT (by omega)
          have u2 : ((nl b : Int) == 0) = true := ieqT (by omega)
          have u3 : (n == 0) = true := by simp; omega
          have u4 : (nl b == 0) = true := by simp; omega
          replace hn0 := Lib.hid hn0
          replace hb0 := Lib.hid hb0
          clear t2 hnb
          go_wp2_with (fail)
          refine (Calls.mono (same1_t Y cy y X3 c3 b _ hY KB (by omega) (by omega) (by rw [hyb.out])) ?_)
          rintro e W44 ⟨rfl, hb44⟩
          replace KA := KA.below hb44
          replace KB := KB.below hb44
          replace hX := hX.below hb44
          replace hY := hY.below hb44
          replace HBT := Below.cons HBT hb44
          clear hb44
          go_wp2_with (fail)
          go_ret
          exact ⟨rfl, HBT⟩
        · have hb0 : nl b ≠ 0 := by have := euq_b En.out; omega
          have u1 : ((n : Int) == 0) = false := ieqF (by omega)
          have u2 : ((nl b : Int) == 0) = false := ieqF (by omega)
          have u3 : (n == 0) = false := by simp; omega
          have u4 : (nl b == 0) = false := by simp; omega
          replace hn0 := Lib.hid hn0
          replace hb0 := Lib.hid hb0
          clear t2 hnb
          go_wp2_with (fail)
          refine (Calls.mono (same1_t Y cy y X3 c3 b _ hY KB (by omega) (by omega) (by rw [hyb.out])) ?_)
          rintro e W44 ⟨rfl, hb44⟩
          replace KA := KA.below hb44
          replace KB := KB.below hb44
          replace hX := hX.below hb44
          replace hY := hY.below hb44
          replace HBT := Below.cons HBT hb44
          clear hb44
          go_wp2_with (fail)
          go_ret
          exact ⟨rfl, HBT⟩
      · have t3 : decide (1 < (n : Int)) = false := by simp; omega
        have t4 : decide (1 < n) = false := by simp; omega
        replace hn := Lib.hid hn
        go_wp2_with (fail)
        clear KQ
        refine (Calls.mono (same1_t X cx x X2 c2 a _ hX KA (by omega) (by omega) (by rw [hxa.out])) ?_)
        rintro e W41 ⟨rfl, hb41⟩
        replace KA := KA.below hb41
        replace KB := KB.below hb41
        replace hX := hX.below hb41
        replace hY := hY.below hb41
        replace HBT := Below.cons HBT hb41
        clear hb41
        rcases Nat.eq_zero_or_pos n with hn0 | hn0
        · have hb0 : nl b = 0 := by have := euq_b En.out; omega
          have u1 : ((n : Int) == 0) = true := ieqT (by omega)
          have u2 : ((nl b : Int) == 0) = true := ieqT (by omega)
          have u3 : (n == 0) = true := by simp; omega
          have u4 : (nl b == 0) = true := by simp; omega
          replace hn0 := Lib.hid hn0
          replace hb0 := Lib.hid hb0
          clear t2 hnb
          go_wp2_with (fail)
          refine (Calls.mono (same1_t Y cy y X3 c3 b _ hY KB (by omega) (by omega) (by rw [hyb.out])) ?_)
          rintro e W42 ⟨rfl, hb42⟩
          replace KA := KA.below hb42
          replace KB := KB.below hb42
          replace hX := hX.below hb42
          replace hY := hY.below hb42
          replace HBT := Below.cons HBT hb42
          clear hb42
          go_wp2_with (fail)
          go_ret
          exact ⟨rfl, HBT⟩
        · have hb0 : nl b ≠ 0 := by have := euq_b En.out; omega
          have u1 : ((n : Int) == 0) = false := ieqF (by omega)
          have u2 : ((nl b : Int) == 0) = false := ieqF (by omega)
          have u3 : (n == 0) = false := by simp; omega
          have u4 : (nl b == 0) = false := by simp; omega
          replace hn0 := Lib.hid hn0
          replace hb0 := Lib.hid hb0
          clear t2 hnb
          go_wp2_with (fail)
          refine (Calls.mono (same1_t Y cy y X3 c3 b _ hY KB (by omega) (by omega) (by rw [hyb.out])) ?_)
          rintro e W42 ⟨rfl, hb42⟩
          replace KA := KA.below hb42
          replace KB := KB.below hb42
          replace hX := hX.below hb42
          replace hY := hY.below hb42
          replace HBT := Below.cons HBT hb42
          clear hb42
          go_wp2_with (fail)
          go_ret
          exact ⟨rfl, HBT⟩
    | succ j =>
      rw [show (((j + 1 : Nat) : Int) - 1) = (j : Int) by omega]
      have t1 : decide (0 ≤ (j : Int)) = true := by simp
      have Wj : IntKind.i64.wrap ((j : Int) - 1) = (j : Int) - 1 := IntWalk.i64_in _ (by unfold maxLen at hmx; omega)
      obtain ⟨KA, KB, KQ, HBT⟩ := HK.out wr hbr
      obtain ⟨ad, Xq, dq, rfl, hcq, hNq⟩ := KQ j (by omega)
      clear KA KB KQ HBT
      obtain ⟨p, Ep⟩ : ∃ z, z = f j := ⟨_, rfl⟩
      rw [← Ep] at hcq hNq
      have Epq : p = quo a b j := by rw [Ep, Ef.out]
      have Bp : nl p ≤ 25 := by rw [Epq]; exact quo_nl (by rw [← En.out]; omega) (by omega) (by omega)
      have NX := euc_nlk (a := a) (b := b) (k := j + 1) (L := 25) (by rw [← En.out]; omega) (by omega) (by omega)
      rw [← hxy.out.1, ← hxy.out.2] at NX
      obtain ⟨Bx, By⟩ := NX
      have L1 : j < n := by omega
      have BK : p * x + y = (euc a b j).1 := by rw [Epq, hxy.out.1, hxy.out.2]; exact euc_back a b j
      have X2 : x = (euc a b j).2 := by rw [hxy.out.1]; exact euc_one a b j
      have PQ : j ≠ 0 → p ≠ 0 := fun h0 => by obtain ⟨k, rfl⟩ : ∃ k, j = k + 1 := ⟨j - 1, by omega⟩; rw [Epq]; exact quo_pos (by rw [← En.out]; omega)
      replace Ep := Lib.hid Ep
      replace Epq := Lib.hid Epq
      replace BK := Lib.hid BK
      replace X2 := Lib.hid X2
      replace PQ := Lib.hid PQ
      go_wp2_with (fail)
      obtain ⟨u, Eu⟩ : ∃ zq : Nat, zq = p * x := ⟨_, rfl⟩
      have Bu : nl u ≤ 50 := by rw [Eu]; have := nl_mul p x; omega
      refine (Calls.mono (R := RetN wr u) (by rw [Eu]; exact (rmul_c Xq dq p X cx x _ hNq hX (by omega) (by omega))) ?_)
      replace Eu := Lib.hid Eu
      rintro e W61 ⟨X61, c61, rfl, hu, hb61⟩
      replace hX := hX.below hb61
      replace hY := hY.below hb61
      replace hNq := hNq.below hb61
      replace hcq := cbl hb61 hcq
      have HBT := Below.cons hbr hb61
      clear hb61
      go_wp2_with (fail)
      obtain ⟨z, Ez⟩ : ∃ zq : Nat, zq = u + y := ⟨_, rfl⟩
      have Bz : nl z ≤ 51 := by rw [Ez]; have := nl_add u y; omega
      refine (Calls.mono (R := RetN W61 z) (by rw [Ez]; exact (radd_c X61 c61 u Y cy y _ hu hY (by omega) (by omega))) ?_)
      replace Ez := Lib.hid Ez
      rintro e W62 ⟨X62, c62, rfl, hz, hb62⟩
      replace hX := hX.below hb62
      replace hY := hY.below hb62
      replace hNq := hNq.below hb62
      replace hcq := cbl hb62 hcq
      replace hu := hu.below hb62
      replace HBT := Below.cons HBT hb62
      clear hb62
      have ez : z = (euc a b j).1 := by rw [Ez.out, Eu.out]; exact BK.out
      replace ez := Lib.hid ez
      by_cases hj0 : j = 0
      · have t5 : decide (0 < (j : Int)) = false := by simp; omega
        have t6 : decide (0 < j) = false := by simp; omega
        replace hj0 := Lib.hid hj0
        go_wp2_with (fail)
        go_roundw
        case rel => exact ⟨j, z, x, X62, c62, X, cx, rfl, rfl, rfl, by omega, hz, hX, Lib.hid ⟨ez.out, X2.out⟩, HBT⟩
        case measure => simp only [intOf]; omega
      · have t5 : decide (0 < (j : Int)) = true := by simp; omega
        have t6 : decide (0 < j) = true := by simp; omega
        have pz := nl_pos.2 (PQ.out hj0)
        have t7 : ((nl p : Int) == 0) = false := ieqF (by omega)
        have t8 : (nl p == 0) = false := by simp; omega
        replace hj0 := Lib.hid hj0
        replace pz := Lib.hid pz
        go_wp2_with (fail)
        go_roundw
        case rel => exact ⟨j, z, x, X62, c62, X, cx, rfl, rfl, rfl, by omega, hz, hX, Lib.hid ⟨ez.out, X2.out⟩, HBT⟩
        case measure => simp only [intOf]; omega

end Go.Proofs.YthcmoimlnhghcaaDoor

set_option linter.unusedVariables false
set_option linter.unusedSimpArgs false
namespace Go.Proofs.YthcmoimlnhghcaaDoor
open Go.RowKit Go.ChangeShapes Go.WideShapes Go.ChangeAt

theorem gcdQuots_lifted (os : Os) (started : os.Started) (H : Type) (enc : TypeId × Value → H) :
    ReturnsInHanded {} Tryd.checked os 3 .any (fun w args => (Rows.gcdQuotsSpec.pre enc Tryd.prog Tryd.f3 [] false w args ∧ laidMetH Tryd.prog [("ziggurat/ntt.fields", Rows.laid_ziggurat_ntt_fields)] w) ∧ sizedMet enc Tryd.prog Tryd.f3 (OpenSpec.ofChange Rows.gcdQuotsSpec) false w args)
      (Rows.gcdQuotsSpec.post enc Tryd.prog Tryd.f3 false true false false) := by
  refine returnsInHanded_of_change_and (C := Tryd.checked) (X := fun w _ => laidMetH Tryd.prog [("ziggurat/ntt.fields", Rows.laid_ziggurat_ntt_fields)] w) (fun _ _ _ hh h => h.of_heap hh) row_own started (by kernel_rfl) Tryd.func3
    (ChangeSpec.witness_shaped (enc := enc) (C := Tryd.checked) (os := os) (X := fun w _ => laidMetH Tryd.prog [("ziggurat/ntt.fields", Rows.laid_ziggurat_ntt_fields)] w) false (World.doorLaid Tryd.prog 400 os) #[.slice none 0 0, .slice none 0 0] 8 rfl (World.shaped_of_RefB (by kernel_rfl) (by kernel_rfl)) (by kernel_rfl) (by kernel_rfl) (by kernel_rfl) (door_met os _)) ?_
  intro W base args ds gs before hval0 hW _ _ hL _
  have hval : ∀ (j : Nat) t v, Tryd.f3.params[j]? = some t → args[j]? = some v → Value.okWide Tryd.prog W .any base t v := hval0
  have hW' := hW
  obtain ⟨p, q, hA0, hV, rfl, hfz, hnd⟩ := hW
  have hA : DataW.TrodAll enc Tryd.prog W 0 (fun _ => true) true Tryd.f3.params.toList args.toList ds p := hA0
  rw [Tryd.params3] at hA hval
  obtain ⟨v0, vs0, d0, ds0, p0, q0, hargs, rfl, rfl, h0, r0⟩ := trodAll_cons hA
  obtain ⟨v1, vs1, d1, ds1, p1, q1, rfl, rfl, rfl, h1, r1⟩ := trodAll_cons r0
  obtain ⟨rfl, rfl, rfl⟩ := trodAll_nil r1
  obtain rfl : args = #[v0, v1] := by cases args; simp_all
  obtain ⟨rfl, rfl⟩ := trodVars_none hV
  have hG := flds_of_laid hL
  have k0 := h0
  have lt0 : ∀ x ∈ p0, x.block < W.heap.size := by obtain ⟨m, hm⟩ := k0; exact DataW.trod_lt m _ _ _ hm
  obtain ⟨A0, c0, l0, rfl, i0⟩ := open_natv (hval 0 22 v0 rfl rfl) h0
  have k1 := h1
  have lt1 : ∀ x ∈ p1, x.block < W.heap.size := by obtain ⟨m, hm⟩ := k1; exact DataW.trod_lt m _ _ _ hm
  obtain ⟨A1, c1, l1, rfl, i1⟩ := open_natv (hval 1 22 v1 rfl rfl) h1
  clear hA0 hval0 hval hL
  have hcall := gcdQuots_c A0 c0 l0 A1 c1 l1 W hG i0.1 i0.2.1 i0.2.2.1 i0.2.2.2.1 i0.2.2.2.2 i1.1 i1.2.1 i1.2.2.1 i1.2.2.2.1 i1.2.2.2.2
  refine hcall.mono fun e W' ⟨he, bel⟩ => ?_
  subst he
  exact ⟨_, rfl, _, _, _, [], _, [], hW', trodAll_mk1 (shut_bool Tryd.underlying4 _), (trodAll_cons_mk (Below.trod row_out (by kernel_rfl) (of_decide_eq_true (by kernel_rfl)) k0 bel lt0) (trodAll_cons_mk (Below.trod row_out (by kernel_rfl) (of_decide_eq_true (by kernel_rfl)) k1 bel lt1) trodAll_mk0)), rfl, bel.frame _, fun h => by cases h⟩
theorem gcdQuots_holds : Rows.GcdQuotsSaid :=
  OpenClaim.holds_of_wide 3 Tryd.f3 rfl rfl rfl rfl rfl rfl rfl ⟨rfl, rfl, rfl, rfl, rfl⟩ rfl rfl rfl rfl rfl (by kernel_rfl) Tryd.func3 (by kernel_rfl)
    (of_decide_eq_true (by kernel_rfl)) (by unfold Func.isWrapper; first | (rw [if_pos (by decide +kernel)]; kernel_rfl) | (rw [if_neg (by decide +kernel)]; exact ⟨rfl, rfl⟩))
    (fun os started H enc _ => gcdQuots_lifted os started H enc)

/-- The card, tied to the program's text. -/
theorem gcdQuots_card : Rows.GcdQuotsCardSaid :=
  Claim7.holds_tied_plain_at .later [] [.data] true (true, "c976c6376ce6d7edeb122e64acb01d9a139ea42f6c76165c59ea57d2d040d815") false
    gcdQuots_holds (fun _ h => by cases h) (by kernel_rfl) (fun _ h => by cases h) gcdQuots_row_tie rfl ⟨rfl, rfl⟩ (by kernel_rfl) rfl
    (fun f fn hf hfn => by
      obtain rfl : f = 3 := Option.some.inj ((show Tryd.prog.funcNamed "ziggurat/zigguratlaw07.GcdQuots" = some 3 by kernel_rfl).symm.trans hf) |>.symm
      obtain rfl : fn = Tryd.f3 := (Option.some.inj (Tryd.func3.symm.trans hfn)).symm
      exact ⟨by kernel_rfl, fun j t ht => by
        rw [Tryd.params3] at ht
        have hm : t ∈ [22, 22] := by simpa using Array.mem_of_getElem? ht
        have hall : ([22, 22].all fun u => !Tryd.prog.wantsStandIn u) = true := by kernel_rfl
        exact (show Tryd.prog.wantsStandIn t = false by simpa using List.all_eq_true.1 hall t hm)⟩)
    (by kernel_rfl)
#print axioms gcdQuots_card
end Go.Proofs.YthcmoimlnhghcaaDoor
