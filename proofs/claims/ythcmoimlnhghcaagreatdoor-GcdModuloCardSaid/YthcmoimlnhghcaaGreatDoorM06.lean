/- The document's rows of Euclid, walked. -/
import Derived.Test.YthcmoimlnhghcaaGreatDoorM05
set_option maxRecDepth 100000
set_option maxHeartbeats 4000000
set_option linter.unusedVariables false
set_option linter.unusedSimpArgs false
namespace Go.Proofs.YthcmoimlnhghcaaGreatDoor
open Go.RowKit Go.Shelf
attribute [local go_sem] max2_i min2_i max_two min_two

theorem zof0_c (w : World) : Calls Tryz.prog 51 #[.int .i64 0] w (RetI w 0) := zof_c 0 w (by decide) (by decide)
def lenOf : Value → Nat
  | .slice _ n _ => n
  | _ => 0
theorem rows_start (W : World) (s a b : Nat) (A : Option Addr) (c : Nat) (B : Option Addr) (d : Nat) (p1 : Int) (X1 : Option Addr) (c1 : Nat) (p0 : Int) (X0 : Option Addr) (c0 : Nat) (q0 : Int) (Y0 : Option Addr) (d0 : Nat) (q1 : Int) (Y1 : Option Addr) (d1 : Nat) (hs : s ≤ W.heap.size)
    (hA : NatV W A c a) (hB : NatV W B d b) (hp1 : NatV W X1 c1 (mg p1)) (hp0 : NatV W X0 c0 (mg p0)) (hq0 : NatV W Y0 d0 (mg q0)) (hq1 : NatV W Y1 d1 (mg q1)) (e1 : p1 = 1) (e2 : p0 = 0) (e3 : q0 = 0) (e4 : q1 = 1) :
    RowsI ((W.alloc (.cells #[.slice A (nl a) c, .bool (sg p1), .slice X1 (nl (mg p1)) c1, .bool (sg p0), .slice X0 (nl (mg p0)) c0, .slice B (nl b) d, .bool (sg q0), .slice Y0 (nl (mg q0)) d0, .bool (sg q1), .slice Y1 (nl (mg q1)) d1] 98)).alloc (.cells #[] 22)) s a b 0 (.slice (some ⟨W.heap.size, 0, none⟩) 2 2) ∧
    QuosI ((W.alloc (.cells #[.slice A (nl a) c, .bool (sg p1), .slice X1 (nl (mg p1)) c1, .bool (sg p0), .slice X0 (nl (mg p0)) c0, .slice B (nl b) d, .bool (sg q0), .slice Y0 (nl (mg q0)) d0, .bool (sg q1), .slice Y1 (nl (mg q1)) d1] 98)).alloc (.cells #[] 22)) s a b 0 (.slice (some ⟨W.heap.size + 1, 0, none⟩) 0 0) := by
  obtain ⟨cs, hcs⟩ : ∃ cs : Array Value, cs = #[.slice A (nl a) c, .bool (sg p1), .slice X1 (nl (mg p1)) c1, .bool (sg p0), .slice X0 (nl (mg p0)) c0, .slice B (nl b) d, .bool (sg q0), .slice Y0 (nl (mg q0)) d0, .bool (sg q1), .slice Y1 (nl (mg q1)) d1] := ⟨_, rfl⟩
  have hz : cs.size = 10 := by rw [hcs]; rfl
  have hl : cs.toList = [.slice A (nl a) c, .bool (sg p1), .slice X1 (nl (mg p1)) c1, .bool (sg p0), .slice X0 (nl (mg p0)) c0] ++ [.slice B (nl b) d, .bool (sg q0), .slice Y0 (nl (mg q0)) d0, .bool (sg q1), .slice Y1 (nl (mg q1)) d1] := by rw [hcs]; rfl
  have hu : ∀ u ∈ cs.toList, NotU u := by rw [hcs]; intro u hu; simp at hu; rcases hu with rfl | rfl | rfl | rfl | rfl | rfl | rfl | rfl | rfl | rfl <;> first | exact notU_bool _ | exact notU_slice _ _ _
  rw [← hcs]
  clear hcs
  have hb : Below W.heap.size W ((W.alloc (.cells cs 98)).alloc (.cells #[] 22)) := ((Below.refl _ _).alloc (Nat.le_refl _) _).alloc (by simp) _
  have hat : ((W.alloc (.cells cs 98)).alloc (.cells #[] 22)).heap[W.heap.size]? = some (.cells cs 98 (0, 0)) := at_old (by simp) (at_new rfl)
  have hat2 : ((W.alloc (.cells cs 98)).alloc (.cells #[] 22)).heap[W.heap.size + 1]? = some (.cells #[] 22 (0, 0)) := at_new (by simp)
  refine ⟨⟨cs.toList, [], _, _, ⟨by simp [hz], .inr ⟨W.heap.size, 2, cs, rfl, hs, hat, Nat.le_refl _, by decide, by rw [hz], List.take_of_length_le (by simp [hz])⟩⟩, fun g hg => ?_, by rw [List.nil_append]; exact hl, rfl, ⟨A, c, X1, c1, X0, c0, ?_, hA.below hb, ?_, ?_⟩, ⟨B, d, Y0, d0, Y1, d1, ?_, hB.below hb, ?_, ?_⟩⟩, ⟨[], ⟨rfl, .inr ⟨W.heap.size + 1, 0, #[], rfl, by omega, hat2, Nat.le_refl _, by decide, rfl, rfl⟩⟩, fun g hg => ?_, fun j hj => absurd hj (Nat.not_lt_zero j)⟩⟩
  · simp only [Value.ownBlock, Option.some.injEq] at hg; subst hg; exact ⟨cs, _, hat, hu⟩
  · simp only [euc, eum, Mx.one]; rw [e1, e2]
  · simp only [eum, Mx.one]; rw [← e1]; exact hp1.below hb
  · simp only [eum, Mx.one]; rw [← e2]; exact hp0.below hb
  · simp only [euc, eum, Mx.one]; rw [e3, e4]
  · simp only [eum, Mx.one]; rw [← e3]; exact hq0.below hb
  · simp only [eum, Mx.one]; rw [← e4]; exact hq1.below hb
  · simp only [Value.ownBlock, Option.some.injEq] at hg; subst hg; exact ⟨#[], _, hat2, fun u hu => by simp at hu⟩
theorem rows_c (A : Option Addr) (c a : Nat) (B : Option Addr) (d b : Nat) (w : World) (hA : NatV w A c a) (hB : NatV w B d b) (la : nl a ≤ 8192) (lb : nl b ≤ 8192) :
    Calls Tryz.prog 90 #[.slice A (nl a) c, .slice B (nl b) d] w (RetRows w a b) := by
  go_enter Tryz.func90, Tryz.ntmps90
  go_wp2_with (fail)
  obtain ⟨p1, Ep1⟩ : ∃ zq : Int, zq = 1 := ⟨_, rfl⟩
  refine (Calls.mono (R := RetI w p1) (by rw [Ep1]; with_reducible exact (zof1_c _)) ?_)
  replace Ep1 := Lib.hid Ep1
  rintro e W1 ⟨Xp1, cp1, rfl, hp1, hb1⟩
  replace hA := hA.below hb1
  replace hB := hB.below hb1
  have HBT := hb1
  clear hb1
  go_wp2_with (fail)
  obtain ⟨p0, Ep0⟩ : ∃ zq : Int, zq = 0 := ⟨_, rfl⟩
  refine (Calls.mono (R := RetI W1 p0) (by rw [Ep0]; with_reducible exact (zof0_c _)) ?_)
  replace Ep0 := Lib.hid Ep0
  rintro e W2 ⟨Xp0, cp0, rfl, hp0, hb2⟩
  replace hA := hA.below hb2
  replace hB := hB.below hb2
  replace hp1 := hp1.below hb2
  replace HBT := Below.cons HBT hb2
  clear hb2
  go_wp2_with (fail)
  obtain ⟨q0, Eq0⟩ : ∃ zq : Int, zq = 0 := ⟨_, rfl⟩
  refine (Calls.mono (R := RetI W2 q0) (by rw [Eq0]; with_reducible exact (zof0_c _)) ?_)
  replace Eq0 := Lib.hid Eq0
  rintro e W3 ⟨Xq0, cq0, rfl, hq0, hb3⟩
  replace hA := hA.below hb3
  replace hB := hB.below hb3
  replace hp1 := hp1.below hb3
  replace hp0 := hp0.below hb3
  replace HBT := Below.cons HBT hb3
  clear hb3
  go_wp2_with (fail)
  obtain ⟨q1, Eq1⟩ : ∃ zq : Int, zq = 1 := ⟨_, rfl⟩
  refine (Calls.mono (R := RetI W3 q1) (by rw [Eq1]; with_reducible exact (zof1_c _)) ?_)
  replace Eq1 := Lib.hid Eq1
  rintro e W4 ⟨Xq1, cq1, rfl, hq1, hb4⟩
  replace hA := hA.below hb4
  replace hB := hB.below hb4
  replace hp1 := hp1.below hb4
  replace hp0 := hp0.below hb4
  replace hq0 := hq0.below hb4
  replace HBT := Below.cons HBT hb4
  clear hb4
  go_wp2_with (fail)
  have ST := rows_start W4 w.heap.size a b A c B d p1 Xp1 cp1 p0 Xp0 cp0 q0 Xq0 cq0 q1 Xq1 cq1 HBT.size hA hB hp1 hp0 hq0 hq1 Ep1.out Ep0.out Eq0.out Eq1.out
  replace ST := Lib.hid ST
  have HB4 := HBT
  clear HBT
  go_loopw [6, 7] (fun v6 v7 wr => ∃ k, RowsI wr w.heap.size a b k v6 ∧ QuosI wr w.heap.size a b k v7 ∧ Hid (∀ i, i < k → (euc a b i).2 ≠ 0) ∧ Below w.heap.size w wr) (fun v6 v7 wr => 2 * bl b + 5 - lenOf v6)
  case atStart => exact ⟨0, ST.out.1, ST.out.2, Lib.hid (fun i hi => absurd hi (Nat.not_lt_zero i)), (HB4.alloc HB4.size _).alloc (by simp; exact Nat.le_succ_of_le HB4.size) _⟩
  case round =>
    clear hA hB hp1 hp0 hq0 hq1 HB4 ST
    obtain ⟨k, hR, hQ, hnz, hbr⟩ := hrel
    obtain ⟨g, cap, N, cn, X, cx, Y, cy, M, cm, U, cu, V, cv, rfl, hg, hmx, hcur, hN, hX, hY, hM, hU, hV, hr1, hr2⟩ := hR.cells
    have SZ := eum_sz la lb (by decide) k hnz.out
    obtain ⟨sa, sb, sc, sd⟩ := SZ
    obtain ⟨sx, sy⟩ := euc_nl la lb k
    obtain ⟨x, Ex⟩ : ∃ z : Nat, z = (euc a b k).1 := ⟨_, rfl⟩
    obtain ⟨y, Ey⟩ : ∃ z : Nat, z = (euc a b k).2 := ⟨_, rfl⟩
    obtain ⟨u0, Eu0⟩ : ∃ z : Int, z = (eum a b k).a := ⟨_, rfl⟩
    obtain ⟨v0, Ev0⟩ : ∃ z : Int, z = (eum a b k).b := ⟨_, rfl⟩
    obtain ⟨u1, Eu1⟩ : ∃ z : Int, z = (eum a b k).c := ⟨_, rfl⟩
    obtain ⟨v1, Ev1⟩ : ∃ z : Int, z = (eum a b k).d := ⟨_, rfl⟩
    rw [← Ex] at hN sx hr1
    rw [← Ey] at hM sy hr2
    rw [← Eu0] at hX sa hr1
    rw [← Ev0] at hY sb hr1
    rw [← Eu1] at hU sc hr2
    rw [← Ev1] at hV sd hr2
    obtain ⟨k1, Ek⟩ : ∃ z, z = k + 1 := ⟨_, rfl⟩
    obtain ⟨m, Em⟩ : ∃ z, z = k + 2 := ⟨_, rfl⟩
    rw [← Ek] at hr2
    rw [← Em] at hmx
    rw [← Em]
    have c10 : wr.cell? ⟨g, k * 5, none⟩ = some (.slice N (nl x) cn) := hr1 0 _ rfl
    have c11 : wr.cell? ⟨g, k * 5 + 1, none⟩ = some (.bool (sg u0)) := hr1 1 _ rfl
    have c12 : wr.cell? ⟨g, k * 5 + 2, none⟩ = some (.slice X (nl (mg u0)) cx) := hr1 2 _ rfl
    have c13 : wr.cell? ⟨g, k * 5 + 3, none⟩ = some (.bool (sg v0)) := hr1 3 _ rfl
    have c14 : wr.cell? ⟨g, k * 5 + 4, none⟩ = some (.slice Y (nl (mg v0)) cy) := hr1 4 _ rfl
    have c20 : wr.cell? ⟨g, k1 * 5, none⟩ = some (.slice M (nl y) cm) := hr2 0 _ rfl
    have c21 : wr.cell? ⟨g, k1 * 5 + 1, none⟩ = some (.bool (sg u1)) := hr2 1 _ rfl
    have c22 : wr.cell? ⟨g, k1 * 5 + 2, none⟩ = some (.slice U (nl (mg u1)) cu) := hr2 2 _ rfl
    have c23 : wr.cell? ⟨g, k1 * 5 + 3, none⟩ = some (.bool (sg v1)) := hr2 3 _ rfl
    have c24 : wr.cell? ⟨g, k1 * 5 + 4, none⟩ = some (.slice V (nl (mg v1)) cv) := hr2 4 _ rfl
    have I1 : (m : Int) - 1 = (k1 : Int) := by omega
    have I2 : (m : Int) - 2 = (k : Int) := by omega
    have L1 : k1 < m := by omega
    have L2 : k < m := by omega
    skip
    have Wk1 : IntKind.i64.wrap (k1 : Int) = (k1 : Int) := IntWalk.i64_in _ (by unfold maxLen at hmx; omega)
    have Wk : IntKind.i64.wrap (k : Int) = (k : Int) := IntWalk.i64_in _ (by unfold maxLen at hmx; omega)
    clear hr1 hr2
    replace Ex := Lib.hid Ex
    replace Ey := Lib.hid Ey
    replace Eu0 := Lib.hid Eu0
    replace Ev0 := Lib.hid Ev0
    replace Eu1 := Lib.hid Eu1
    replace Ev1 := Lib.hid Ev1
    replace Ek := Lib.hid Ek
    replace Em := Lib.hid Em
    replace hcur := Lib.hid hcur
    replace hR := Lib.hid hR
    replace hQ := Lib.hid hQ
    by_cases hy0 : y = 0
    · have t1 : decide (0 < (nl y : Int)) = false := by rw [hy0, nl_zero]; rfl
      have t2 : decide (0 < nl y) = false := by rw [hy0, nl_zero]; rfl
      have hke : k = eun a b := eun_eq (by rw [← Ey.out]; exact hy0) hnz.out
      replace hy0 := Lib.hid hy0
      replace hke := Lib.hid hke
      go_wp2_with (fail)
      refine bodyPost_ret (v := .tuple #[_, _]) (by simp [results, Tryz.results90, go_sem]; exact ⟨rfl, rfl⟩) rfl ?_
      refine ⟨_, _, rfl, ?_, ?_, hbr⟩
      · have h := hR.out; rw [← Em.out, hke.out] at h; exact h
      · have h := hQ.out; rw [hke.out] at h; exact h
    · have t1 : decide (0 < (nl y : Int)) = true := by have := nl_pos.2 hy0; simp; omega
      have t2 : decide (0 < nl y) = true := by have := nl_pos.2 hy0; simp; omega
      have hy1 : 0 < y := Nat.pos_of_ne_zero hy0
      have hnz1 : ∀ i, i < k + 1 → (euc a b i).2 ≠ 0 := fun i hi => by rcases Nat.lt_or_ge i k with h | h; exact hnz.out i h; rw [show i = k by omega, ← Ey.out]; exact hy0
      have hst := euc_steps hnz1
      have hbl := bl_le b
      have hm1 : m ≤ 600000 := by have := Em.out; omega
      replace hnz1 := Lib.hid hnz1
      replace hst := Lib.hid hst
      replace hbl := Lib.hid hbl
      replace hy0 := Lib.hid hy0
      replace hy1 := Lib.hid hy1
      replace hR := hR.out
      replace hQ := hQ.out
      obtain ⟨V7, c7, hV7⟩ := hQ.shape
      subst hV7
      have SW2 := (eum_sz la lb (by decide) (k + 1) hnz1.out).2.2.1
      have SW3 := (eum_sz la lb (by decide) (k + 1) hnz1.out).2.2.2
      replace SW2 := Lib.hid SW2
      replace SW3 := Lib.hid SW3
      go_wp2_with (fail)
      refine wp_region_inv (fun E a' w' => ∃ (u33 u34 u35 u36 u37 u38 u39 u40 u41 u42 u43 u44 u8 u9 : Value),
        a' = { tmps := #[.slice A (nl a) c, .slice B (nl b) d, undef, undef, .slice none 0 0, .slice none 0 0, .slice (some ⟨g, 0, none⟩) m cap, .slice V7 k c7, u8, u9, u10, u11, u12, u13, .slice A (nl a) c, .agg #[.bool (sg p1), .slice Xp1 (nl (mg p1)) cp1], .agg #[.bool (sg p0), .slice Xp0 (nl (mg p0)) cp0], .agg #[.slice A (nl a) c, .bool (sg p1), .slice Xp1 (nl (mg p1)) cp1, .bool (sg p0), .slice Xp0 (nl (mg p0)) cp0], .slice B (nl b) d, .agg #[.bool (sg q0), .slice Xq0 (nl (mg q0)) cq0], .agg #[.bool (sg q1), .slice Xq1 (nl (mg q1)) cq1], .agg #[.slice B (nl b) d, .bool (sg q0), .slice Xq0 (nl (mg q0)) cq0, .bool (sg q1), .slice Xq1 (nl (mg q1)) cq1], .slice (some ⟨W4.heap.size, 0, none⟩) 2 2, .slice (some ⟨W4.heap.size + 1, 0, none⟩) 0 0, .slice (some ⟨g, 0, none⟩) m cap, .slice (some ⟨g, 0, none⟩) m cap, .int .i64 m, .int .i64 k1, .pointer (some ⟨g, k1 * 5, none⟩), .pointer (some ⟨g, k1 * 5, none⟩), .slice M (nl y) cm, .int .i64 (nl y), .bool true, u33, u34, u35, u36, u37, u38, u39, u40, u41, u42, u43, u44, u45, u46, u47, u48, u49, u50, u51, u52, u53, u54, u55, u56, u57, u58, u59, u60, u61, u62, u63, u64, u65, u66, u67, u68, u69, u70, u71, u72, u73, u74, u75, u76, u77, u78, undef, undef], defers := [] } ∧
        (E 0 = true → u33 = .slice (some ⟨g, 0, none⟩) m cap) ∧
        (E 1 = true → u34 = .slice (some ⟨g, 0, none⟩) m cap) ∧
        (E 2 = true → u35 = .int .i64 m) ∧
        (E 3 = true → u36 = .int .i64 k) ∧
        (E 4 = true → u37 = .pointer (some ⟨g, k * 5, none⟩)) ∧
        (E 5 = true → u38 = .agg #[.slice N (nl x) cn, .bool (sg u0), .slice X (nl (mg u0)) cx, .bool (sg v0), .slice Y (nl (mg v0)) cy]) ∧
        (E 6 = true → u39 = .slice (some ⟨g, 0, none⟩) m cap) ∧
        (E 7 = true → u40 = .slice (some ⟨g, 0, none⟩) m cap) ∧
        (E 8 = true → u41 = .int .i64 m) ∧
        (E 9 = true → u42 = .int .i64 k1) ∧
        (E 10 = true → u43 = .pointer (some ⟨g, k1 * 5, none⟩)) ∧
        (E 11 = true → u44 = .agg #[.slice M (nl y) cm, .bool (sg u1), .slice U (nl (mg u1)) cu, .bool (sg v1), .slice V (nl (mg v1)) cv]) ∧
        (E 12 = true → PB5 98 wr.heap.size u8 w') ∧
        (E 13 = true → PB5 98 wr.heap.size u9 w') ∧
        (E 14 = true → PBV 98 wr.heap.size u8 #[.slice N (nl x) cn, .bool (sg u0), .slice X (nl (mg u0)) cx, .bool (sg v0), .slice Y (nl (mg v0)) cy] w') ∧
        (E 15 = true → PBV 98 wr.heap.size u9 #[.slice M (nl y) cm, .bool (sg u1), .slice U (nl (mg u1)) cu, .bool (sg v1), .slice V (nl (mg v1)) cv] w') ∧
        (E 14 = true → E 12 = true) ∧
        (E 15 = true → E 13 = true) ∧
        (E 12 = true → E 13 = true → u8 ≠ u9) ∧
        Below wr.heap.size wr w') (by kernel_rfl) (by kernel_rfl) ?init ?fin ?step
      case init => exact ⟨_, _, _, _, _, _, _, _, _, _, _, _, _, _, rfl, by simp, by simp, by simp, by simp, by simp, by simp, by simp, by simp, by simp, by simp, by simp, by simp, by simp, by simp, by simp, by simp, by simp, by simp, by simp, (Below.refl _ _).drew⟩
      case step =>
        rintro E a' w' i ⟨u33, u34, u35, u36, u37, u38, u39, u40, u41, u42, u43, u44, u8, u9, rfl, h0, h1, h2, h3, h4, h5, h6, h7, h8, h9, h10, h11, h12, h13, h14, h15, hD14, hD15, hN12_13, hB⟩ hi hEi hdep
        have c10 := cbl hB c10
        have c11 := cbl hB c11
        have c12 := cbl hB c12
        have c13 := cbl hB c13
        have c14 := cbl hB c14
        have c20 := cbl hB c20
        have c21 := cbl hB c21
        have c22 := cbl hB c22
        have c23 := cbl hB c23
        have c24 := cbl hB c24
        obtain rfl | rfl | rfl | rfl | rfl | rfl | rfl | rfl | rfl | rfl | rfl | rfl | rfl | rfl | rfl | rfl : i = 0 ∨ i = 1 ∨ i = 2 ∨ i = 3 ∨ i = 4 ∨ i = 5 ∨ i = 6 ∨ i = 7 ∨ i = 8 ∨ i = 9 ∨ i = 10 ∨ i = 11 ∨ i = 12 ∨ i = 13 ∨ i = 14 ∨ i = 15 := by simp at hi; omega
        · skip
          refine wpOp_step rfl (fun K' hK' => ?_)
          go_simp
          refine hK' _ _ ?_
          exact ⟨_, _, _, _, _, _, _, _, _, _, _, _, _, _, rfl, fun _ => rfl, keepD (by decide) h1, keepD (by decide) h2, keepD (by decide) h3, keepD (by decide) h4, keepD (by decide) h5, keepD (by decide) h6, keepD (by decide) h7, keepD (by decide) h8, keepD (by decide) h9, keepD (by decide) h10, keepD (by decide) h11, keepD (by decide) h12, keepD (by decide) h13, keepD (by decide) h14, keepD (by decide) h15, (fun h => by have := hD14 (by simpa using h); simpa using this), (fun h => by have := hD15 (by simpa using h); simpa using this), (fun h k => hN12_13 (by simpa using h) (by simpa using k)), hB⟩
        · skip
          refine wpOp_step rfl (fun K' hK' => ?_)
          go_simp
          refine hK' _ _ ?_
          exact ⟨_, _, _, _, _, _, _, _, _, _, _, _, _, _, rfl, keepD (by decide) h0, fun _ => rfl, keepD (by decide) h2, keepD (by decide) h3, keepD (by decide) h4, keepD (by decide) h5, keepD (by decide) h6, keepD (by decide) h7, keepD (by decide) h8, keepD (by decide) h9, keepD (by decide) h10, keepD (by decide) h11, keepD (by decide) h12, keepD (by decide) h13, keepD (by decide) h14, keepD (by decide) h15, (fun h => by have := hD14 (by simpa using h); simpa using this), (fun h => by have := hD15 (by simpa using h); simpa using this), (fun h k => hN12_13 (by simpa using h) (by simpa using k)), hB⟩
        · skip
          have d1 := hdep _ rfl ⟨1, .data⟩ (by simp) rfl
          obtain rfl := h1 d1
          refine wpOp_step rfl (fun K' hK' => ?_)
          go_simp
          refine hK' _ _ ?_
          exact ⟨_, _, _, _, _, _, _, _, _, _, _, _, _, _, rfl, keepD (by decide) h0, keepD (by decide) h1, fun _ => rfl, keepD (by decide) h3, keepD (by decide) h4, keepD (by decide) h5, keepD (by decide) h6, keepD (by decide) h7, keepD (by decide) h8, keepD (by decide) h9, keepD (by decide) h10, keepD (by decide) h11, keepD (by decide) h12, keepD (by decide) h13, keepD (by decide) h14, keepD (by decide) h15, (fun h => by have := hD14 (by simpa using h); simpa using this), (fun h => by have := hD15 (by simpa using h); simpa using this), (fun h k => hN12_13 (by simpa using h) (by simpa using k)), hB⟩
        · skip
          have d2 := hdep _ rfl ⟨2, .data⟩ (by simp) rfl
          obtain rfl := h2 d2
          refine wpOp_step rfl (fun K' hK' => ?_)
          go_simp
          refine hK' _ _ ?_
          exact ⟨_, _, _, _, _, _, _, _, _, _, _, _, _, _, rfl, keepD (by decide) h0, keepD (by decide) h1, keepD (by decide) h2, fun _ => rfl, keepD (by decide) h4, keepD (by decide) h5, keepD (by decide) h6, keepD (by decide) h7, keepD (by decide) h8, keepD (by decide) h9, keepD (by decide) h10, keepD (by decide) h11, keepD (by decide) h12, keepD (by decide) h13, keepD (by decide) h14, keepD (by decide) h15, (fun h => by have := hD14 (by simpa using h); simpa using this), (fun h => by have := hD15 (by simpa using h); simpa using this), (fun h k => hN12_13 (by simpa using h) (by simpa using k)), hB⟩
        · skip
          have d0 := hdep _ rfl ⟨0, .data⟩ (by simp) rfl
          obtain rfl := h0 d0
          have d3 := hdep _ rfl ⟨3, .data⟩ (by simp) rfl
          obtain rfl := h3 d3
          refine wpOp_step rfl (fun K' hK' => ?_)
          go_simp
          refine hK' _ _ ?_
          exact ⟨_, _, _, _, _, _, _, _, _, _, _, _, _, _, rfl, keepD (by decide) h0, keepD (by decide) h1, keepD (by decide) h2, keepD (by decide) h3, fun _ => rfl, keepD (by decide) h5, keepD (by decide) h6, keepD (by decide) h7, keepD (by decide) h8, keepD (by decide) h9, keepD (by decide) h10, keepD (by decide) h11, keepD (by decide) h12, keepD (by decide) h13, keepD (by decide) h14, keepD (by decide) h15, (fun h => by have := hD14 (by simpa using h); simpa using this), (fun h => by have := hD15 (by simpa using h); simpa using this), (fun h k => hN12_13 (by simpa using h) (by simpa using k)), hB⟩
        · skip
          have d4 := hdep _ rfl ⟨4, .data⟩ (by simp) rfl
          obtain rfl := h4 d4
          refine wpOp_step rfl (fun K' hK' => ?_)
          go_simp
          refine hK' _ _ ?_
          exact ⟨_, _, _, _, _, _, _, _, _, _, _, _, _, _, rfl, keepD (by decide) h0, keepD (by decide) h1, keepD (by decide) h2, keepD (by decide) h3, keepD (by decide) h4, fun _ => rfl, keepD (by decide) h6, keepD (by decide) h7, keepD (by decide) h8, keepD (by decide) h9, keepD (by decide) h10, keepD (by decide) h11, keepD (by decide) h12, keepD (by decide) h13, keepD (by decide) h14, keepD (by decide) h15, (fun h => by have := hD14 (by simpa using h); simpa using this), (fun h => by have := hD15 (by simpa using h); simpa using this), (fun h k => hN12_13 (by simpa using h) (by simpa using k)), hB⟩
        · skip
          refine wpOp_step rfl (fun K' hK' => ?_)
          go_simp
          refine hK' _ _ ?_
          exact ⟨_, _, _, _, _, _, _, _, _, _, _, _, _, _, rfl, keepD (by decide) h0, keepD (by decide) h1, keepD (by decide) h2, keepD (by decide) h3, keepD (by decide) h4, keepD (by decide) h5, fun _ => rfl, keepD (by decide) h7, keepD (by decide) h8, keepD (by decide) h9, keepD (by decide) h10, keepD (by decide) h11, keepD (by decide) h12, keepD (by decide) h13, keepD (by decide) h14, keepD (by decide) h15, (fun h => by have := hD14 (by simpa using h); simpa using this), (fun h => by have := hD15 (by simpa using h); simpa using this), (fun h k => hN12_13 (by simpa using h) (by simpa using k)), hB⟩
        · skip
          refine wpOp_step rfl (fun K' hK' => ?_)
          go_simp
          refine hK' _ _ ?_
          exact ⟨_, _, _, _, _, _, _, _, _, _, _, _, _, _, rfl, keepD (by decide) h0, keepD (by decide) h1, keepD (by decide) h2, keepD (by decide) h3, keepD (by decide) h4, keepD (by decide) h5, keepD (by decide) h6, fun _ => rfl, keepD (by decide) h8, keepD (by decide) h9, keepD (by decide) h10, keepD (by decide) h11, keepD (by decide) h12, keepD (by decide) h13, keepD (by decide) h14, keepD (by decide) h15, (fun h => by have := hD14 (by simpa using h); simpa using this), (fun h => by have := hD15 (by simpa using h); simpa using this), (fun h k => hN12_13 (by simpa using h) (by simpa using k)), hB⟩
        · skip
          have d7 := hdep _ rfl ⟨7, .data⟩ (by simp) rfl
          obtain rfl := h7 d7
          refine wpOp_step rfl (fun K' hK' => ?_)
          go_simp
          refine hK' _ _ ?_
          exact ⟨_, _, _, _, _, _, _, _, _, _, _, _, _, _, rfl, keepD (by decide) h0, keepD (by decide) h1, keepD (by decide) h2, keepD (by decide) h3, keepD (by decide) h4, keepD (by decide) h5, keepD (by decide) h6, keepD (by decide) h7, fun _ => rfl, keepD (by decide) h9, keepD (by decide) h10, keepD (by decide) h11, keepD (by decide) h12, keepD (by decide) h13, keepD (by decide) h14, keepD (by decide) h15, (fun h => by have := hD14 (by simpa using h); simpa using this), (fun h => by have := hD15 (by simpa using h); simpa using this), (fun h k => hN12_13 (by simpa using h) (by simpa using k)), hB⟩
        · skip
          have d8 := hdep _ rfl ⟨8, .data⟩ (by simp) rfl
          obtain rfl := h8 d8
          refine wpOp_step rfl (fun K' hK' => ?_)
          go_simp
          refine hK' _ _ ?_
          exact ⟨_, _, _, _, _, _, _, _, _, _, _, _, _, _, rfl, keepD (by decide) h0, keepD (by decide) h1, keepD (by decide) h2, keepD (by decide) h3, keepD (by decide) h4, keepD (by decide) h5, keepD (by decide) h6, keepD (by decide) h7, keepD (by decide) h8, fun _ => rfl, keepD (by decide) h10, keepD (by decide) h11, keepD (by decide) h12, keepD (by decide) h13, keepD (by decide) h14, keepD (by decide) h15, (fun h => by have := hD14 (by simpa using h); simpa using this), (fun h => by have := hD15 (by simpa using h); simpa using this), (fun h k => hN12_13 (by simpa using h) (by simpa using k)), hB⟩
        · skip
          have d6 := hdep _ rfl ⟨6, .data⟩ (by simp) rfl
          obtain rfl := h6 d6
          have d9 := hdep _ rfl ⟨9, .data⟩ (by simp) rfl
          obtain rfl := h9 d9
          refine wpOp_step rfl (fun K' hK' => ?_)
          go_simp
          refine hK' _ _ ?_
          exact ⟨_, _, _, _, _, _, _, _, _, _, _, _, _, _, rfl, keepD (by decide) h0, keepD (by decide) h1, keepD (by decide) h2, keepD (by decide) h3, keepD (by decide) h4, keepD (by decide) h5, keepD (by decide) h6, keepD (by decide) h7, keepD (by decide) h8, keepD (by decide) h9, fun _ => rfl, keepD (by decide) h11, keepD (by decide) h12, keepD (by decide) h13, keepD (by decide) h14, keepD (by decide) h15, (fun h => by have := hD14 (by simpa using h); simpa using this), (fun h => by have := hD15 (by simpa using h); simpa using this), (fun h k => hN12_13 (by simpa using h) (by simpa using k)), hB⟩
        · skip
          have d10 := hdep _ rfl ⟨10, .data⟩ (by simp) rfl
          obtain rfl := h10 d10
          refine wpOp_step rfl (fun K' hK' => ?_)
          go_simp
          refine hK' _ _ ?_
          exact ⟨_, _, _, _, _, _, _, _, _, _, _, _, _, _, rfl, keepD (by decide) h0, keepD (by decide) h1, keepD (by decide) h2, keepD (by decide) h3, keepD (by decide) h4, keepD (by decide) h5, keepD (by decide) h6, keepD (by decide) h7, keepD (by decide) h8, keepD (by decide) h9, keepD (by decide) h10, fun _ => rfl, keepD (by decide) h12, keepD (by decide) h13, keepD (by decide) h14, keepD (by decide) h15, (fun h => by have := hD14 (by simpa using h); simpa using this), (fun h => by have := hD15 (by simpa using h); simpa using this), (fun h k => hN12_13 (by simpa using h) (by simpa using k)), hB⟩
        · skip
          have kb : Below w'.heap.size w' (w'.alloc (.cells #[.slice none 0 0, .bool false, .slice none 0 0, .bool false, .slice none 0 0] 98)) := (Below.refl _ _).alloc (Nat.le_refl _) _
          refine wpOp_step rfl (fun K' hK' => ?_)
          go_simp
          refine hK' _ _ ?_
          exact ⟨_, _, _, _, _, _, _, _, _, _, _, _, _, _, rfl, keepD (by decide) h0, keepD (by decide) h1, keepD (by decide) h2, keepD (by decide) h3, keepD (by decide) h4, keepD (by decide) h5, keepD (by decide) h6, keepD (by decide) h7, keepD (by decide) h8, keepD (by decide) h9, keepD (by decide) h10, keepD (by decide) h11, fun _ => ⟨_, _, _, _, _, _, rfl, hB.size, ⟨at_new rfl⟩, notU_slice _ _ _, notU_bool _, notU_slice _ _ _, notU_bool _, notU_slice _ _ _⟩, keepP (by decide) h13 (fun h => h.below kb), (fun h => by have h2 := hD14 (by simpa using h); rw [hEi] at h2; cases h2), keepP (by decide) h15 (fun h => h.below kb), (fun _ => by simp), (fun h => by have := hD15 (by simpa using h); simpa using this), (fun _ h => by obtain ⟨n2, e2, l2⟩ := (h13 (by simpa using h)).lt; rw [e2]; intro e3; simp at e3 <;> omega), Below.cons hB kb⟩
        · skip
          have kb : Below w'.heap.size w' (w'.alloc (.cells #[.slice none 0 0, .bool false, .slice none 0 0, .bool false, .slice none 0 0] 98)) := (Below.refl _ _).alloc (Nat.le_refl _) _
          refine wpOp_step rfl (fun K' hK' => ?_)
          go_simp
          refine hK' _ _ ?_
          exact ⟨_, _, _, _, _, _, _, _, _, _, _, _, _, _, rfl, keepD (by decide) h0, keepD (by decide) h1, keepD (by decide) h2, keepD (by decide) h3, keepD (by decide) h4, keepD (by decide) h5, keepD (by decide) h6, keepD (by decide) h7, keepD (by decide) h8, keepD (by decide) h9, keepD (by decide) h10, keepD (by decide) h11, keepP (by decide) h12 (fun h => h.below kb), fun _ => ⟨_, _, _, _, _, _, rfl, hB.size, ⟨at_new rfl⟩, notU_slice _ _ _, notU_bool _, notU_slice _ _ _, notU_bool _, notU_slice _ _ _⟩, keepP (by decide) h14 (fun h => h.below kb), (fun h => by have h2 := hD15 (by simpa using h); rw [hEi] at h2; cases h2), (fun h => by have := hD14 (by simpa using h); simpa using this), (fun _ => by simp), (fun h _ => by obtain ⟨n2, e2, l2⟩ := (h12 (by simpa using h)).lt; rw [e2]; intro e3; simp at e3 <;> omega), Below.cons hB kb⟩
        · skip
          have d12 := hdep _ rfl ⟨12, .data⟩ (by simp) rfl
          obtain ⟨nb, z0, z1, z2, z3, z4, rfl, hn, hb, nz0, nz1, nz2, nz3, nz4⟩ := h12 d12
          have d5 := hdep _ rfl ⟨5, .data⟩ (by simp) rfl
          obtain rfl := h5 d5
          have fz0 := hb.f (i := 0)
          have cz0 := hb.c (i := 0) rfl
          have fz1 := hb.f (i := 1)
          have cz1 := hb.c (i := 1) rfl
          have fz2 := hb.f (i := 2)
          have cz2 := hb.c (i := 2) rfl
          have fz3 := hb.f (i := 3)
          have cz3 := hb.c (i := 3) rfl
          have fz4 := hb.f (i := 4)
          have cz4 := hb.c (i := 4) rfl
          have hp := hb.put5 (notU5 nz0 nz1 nz2 nz3 nz4) (.slice N (nl x) cn) (.bool (sg u0)) (.slice X (nl (mg u0)) cx) (.bool (sg v0)) (.slice Y (nl (mg v0)) cy)
          have hs := hb.store5 (.slice N (nl x) cn) (.bool (sg u0)) (.slice X (nl (mg u0)) cx) (.bool (sg v0)) (.slice Y (nl (mg v0)) cy)
          refine wpOp_step rfl (fun K' hK' => ?_)
          go_simp
          refine hK' _ _ ?_
          exact ⟨_, _, _, _, _, _, _, _, _, _, _, _, _, _, rfl, keepD (by decide) h0, keepD (by decide) h1, keepD (by decide) h2, keepD (by decide) h3, keepD (by decide) h4, keepD (by decide) h5, keepD (by decide) h6, keepD (by decide) h7, keepD (by decide) h8, keepD (by decide) h9, keepD (by decide) h10, keepD (by decide) h11, (fun _ => ⟨nb, _, _, _, _, _, rfl, hn, hs, notU_slice _ _ _, notU_bool _, notU_slice _ _ _, notU_bool _, notU_slice _ _ _⟩), keepP' (by decide) h13 (fun e h => h.put hp (fun e3 => hN12_13 d12 (by simpa using e) e3.symm)), fun _ => ⟨nb, rfl, hn, hs⟩, keepP' (by decide) h15 (fun e h => h.put hp (fun e3 => hN12_13 d12 (hD15 (by simpa using e)) e3.symm)), (fun _ => by simp [d12]), (fun h => by have := hD15 (by simpa using h); simpa using this), (fun h k => hN12_13 (by simpa using h) (by simpa using k)), Below.store5 hB hn⟩
        · skip
          have d13 := hdep _ rfl ⟨13, .data⟩ (by simp) rfl
          obtain ⟨nb, z0, z1, z2, z3, z4, rfl, hn, hb, nz0, nz1, nz2, nz3, nz4⟩ := h13 d13
          have d11 := hdep _ rfl ⟨11, .data⟩ (by simp) rfl
          obtain rfl := h11 d11
          have fz0 := hb.f (i := 0)
          have cz0 := hb.c (i := 0) rfl
          have fz1 := hb.f (i := 1)
          have cz1 := hb.c (i := 1) rfl
          have fz2 := hb.f (i := 2)
          have cz2 := hb.c (i := 2) rfl
          have fz3 := hb.f (i := 3)
          have cz3 := hb.c (i := 3) rfl
          have fz4 := hb.f (i := 4)
          have cz4 := hb.c (i := 4) rfl
          have hp := hb.put5 (notU5 nz0 nz1 nz2 nz3 nz4) (.slice M (nl y) cm) (.bool (sg u1)) (.slice U (nl (mg u1)) cu) (.bool (sg v1)) (.slice V (nl (mg v1)) cv)
          have hs := hb.store5 (.slice M (nl y) cm) (.bool (sg u1)) (.slice U (nl (mg u1)) cu) (.bool (sg v1)) (.slice V (nl (mg v1)) cv)
          refine wpOp_step rfl (fun K' hK' => ?_)
          go_simp
          refine hK' _ _ ?_
          exact ⟨_, _, _, _, _, _, _, _, _, _, _, _, _, _, rfl, keepD (by decide) h0, keepD (by decide) h1, keepD (by decide) h2, keepD (by decide) h3, keepD (by decide) h4, keepD (by decide) h5, keepD (by decide) h6, keepD (by decide) h7, keepD (by decide) h8, keepD (by decide) h9, keepD (by decide) h10, keepD (by decide) h11, keepP' (by decide) h12 (fun e h => h.put hp (hN12_13 (by simpa using e) d13)), (fun _ => ⟨nb, _, _, _, _, _, rfl, hn, hs, notU_slice _ _ _, notU_bool _, notU_slice _ _ _, notU_bool _, notU_slice _ _ _⟩), keepP' (by decide) h14 (fun e h => h.put hp (hN12_13 (hD14 (by simpa using e)) d13)), fun _ => ⟨nb, rfl, hn, hs⟩, (fun h => by have := hD14 (by simpa using h); simpa using this), (fun _ => by simp [d13]), (fun h k => hN12_13 (by simpa using h) (by simpa using k)), Below.store5 hB hn⟩
      case fin =>
        rintro E a' w' ⟨u33, u34, u35, u36, u37, u38, u39, u40, u41, u42, u43, u44, u8, u9, rfl, h0, h1, h2, h3, h4, h5, h6, h7, h8, h9, h10, h11, h12, h13, h14, h15, hD14, hD15, hN12_13, hB⟩ hall
        obtain ⟨nbx, rfl, hnx, Rbx⟩ := h14 (hall 14 (by simp))
        obtain ⟨nby, rfl, hny, Rby⟩ := h15 (hall 15 (by simp))
        clear hall h0 h1 h2 h3 h4 h5 h6 h7 h8 h9 h10 h11 h12 h13 hD14 hD15 hN12_13
        have hg0 : g < wr.heap.size := by obtain ⟨cur, h1, _⟩ := hcur.out; exact (Array.getElem?_eq_some_iff.1 h1).1
        have hgx : nbx ≠ g := by omega
        have hgy : nby ≠ g := by omega
        have hss : wr.heap.size ≤ w'.heap.size := hB.size
        clear c10
        clear c11
        clear c12
        clear c13
        clear c14
        clear c20
        clear c21
        clear c22
        clear c23
        clear c24
        replace hN := hN.below hB
        replace hX := hX.below hB
        replace hY := hY.below hB
        replace hM := hM.below hB
        replace hU := hU.below hB
        replace hV := hV.below hB
        replace hR := hR.below hB
        replace hQ := hQ.below hB
        have HBT := Below.cons hbr hB
        clear hB
        generalize hV1 : w' = V1 at *
        clear hV1
        have HBs := Below.refl V1.heap.size V1
        have qbx0 := Rbx.c (i := 0) rfl
        have qbx1 := Rbx.c (i := 1) rfl
        have qbx2 := Rbx.c (i := 2) rfl
        have qbx3 := Rbx.c (i := 3) rfl
        have qbx4 := Rbx.c (i := 4) rfl
        have qby0 := Rby.c (i := 0) rfl
        have qby1 := Rby.c (i := 1) rfl
        have qby2 := Rby.c (i := 2) rfl
        have qby3 := Rby.c (i := 3) rfl
        have qby4 := Rby.c (i := 4) rfl
        go_wp2_with (fail)
        obtain ⟨q, Eq⟩ : ∃ zq : Nat, zq = x / y := ⟨_, rfl⟩
        have Nq : nl q ≤ 8192 := by rw [Eq]; have := nl_div x y; omega
        obtain ⟨r, Er⟩ : ∃ zq : Nat, zq = x % y := ⟨_, rfl⟩
        have Nr : nl r ≤ 8192 := by rw [Er]; have := nl_mod_le x y; omega
        have CT81 := (rdiv_c N cn x M cm y _ hN hM (by omega) (by omega) hy1.out)
        rw [← Eq, ← Er] at CT81
        replace Eq := Lib.hid Eq
        replace Er := Lib.hid Er
        replace CT81 := Lib.hid CT81
        refine (Calls.mono CT81.out ?_)
        clear CT81
        rintro e W81 ⟨Xq, cq, Xr, cr, rfl, hq, hr, hb81⟩
        replace hN := hN.below hb81
        replace hX := hX.below hb81
        replace hY := hY.below hb81
        replace hM := hM.below hb81
        replace hU := hU.below hb81
        replace hV := hV.below hb81
        replace hR := hR.below hb81
        replace hQ := hQ.below hb81
        replace HBs := Below.cons HBs hb81
        replace Rbx := Rbx.below hb81
        replace qbx0 := cbl hb81 qbx0
        replace qbx1 := cbl hb81 qbx1
        replace qbx2 := cbl hb81 qbx2
        replace qbx3 := cbl hb81 qbx3
        replace qbx4 := cbl hb81 qbx4
        replace Rby := Rby.below hb81
        replace qby0 := cbl hb81 qby0
        replace qby1 := cbl hb81 qby1
        replace qby2 := cbl hb81 qby2
        replace qby3 := cbl hb81 qby3
        replace qby4 := cbl hb81 qby4
        replace HBT := Below.cons HBT hb81
        clear hb81
        go_wp2_with (fail)
        clear qbx0
        clear qby0
        clear Rbx
        clear Rby
        obtain ⟨z, Ez⟩ : ∃ zq : Int, zq = (q : Int) := ⟨_, rfl⟩
        have Nz : nl (mg z) ≤ 8192 := by rw [Ez, mg_nat]; exact Nq
        refine (Calls.mono (R := RetI W81 z) (by rw [Ez]; with_reducible exact (rz_f Xq cq q (q : Int) _ hq (by omega) (mg_nat q) (sg_f (Int.natCast_nonneg q)))) ?_)
        replace Ez := Lib.hid Ez
        rintro e W82 ⟨Xz, cz, rfl, hz, hb82⟩
        replace hN := hN.below hb82
        replace hX := hX.below hb82
        replace hY := hY.below hb82
        replace hM := hM.below hb82
        replace hU := hU.below hb82
        replace hV := hV.below hb82
        replace hR := hR.below hb82
        replace hQ := hQ.below hb82
        replace HBs := Below.cons HBs hb82
        replace qbx1 := cbl hb82 qbx1
        replace qbx2 := cbl hb82 qbx2
        replace qbx3 := cbl hb82 qbx3
        replace qbx4 := cbl hb82 qbx4
        replace qby1 := cbl hb82 qby1
        replace qby2 := cbl hb82 qby2
        replace qby3 := cbl hb82 qby3
        replace qby4 := cbl hb82 qby4
        replace hq := hq.below hb82
        replace hr := hr.below hb82
        replace HBT := Below.cons HBT hb82
        clear hb82
        have hz0 := HBs.size
        clear HBs
        obtain ⟨hb83, Rz⟩ := bx1 W82 #[.bool (sg z), .slice Xz (nl (mg z)) cz] 24
        replace hN := hN.below hb83
        replace hX := hX.below hb83
        replace hY := hY.below hb83
        replace hM := hM.below hb83
        replace hU := hU.below hb83
        replace hV := hV.below hb83
        replace hR := hR.below hb83
        replace hQ := hQ.below hb83
        replace qbx1 := cbl hb83 qbx1
        replace qbx2 := cbl hb83 qbx2
        replace qbx3 := cbl hb83 qbx3
        replace qbx4 := cbl hb83 qbx4
        replace qby1 := cbl hb83 qby1
        replace qby2 := cbl hb83 qby2
        replace qby3 := cbl hb83 qby3
        replace qby4 := cbl hb83 qby4
        replace hq := hq.below hb83
        replace hr := hr.below hb83
        replace hz := hz.below hb83
        replace HBT := Below.cons HBT hb83
        clear hb83
        have qz0 := Rz.c (i := 0) rfl
        have qz1 := Rz.c (i := 1) rfl
        go_wp2_with (fail)
        generalize hnz_ : W82.heap.size = nbz at *
        have hgz : nbz ≠ g := by omega
        generalize hV2 : (W82.alloc (.cells #[.bool (sg z), .slice Xz (nl (mg z)) cz] 24)) = V2 at *
        clear hV2 hnz_
        clear Rz
        obtain ⟨i0, hi0, hz00, hz01, hz02⟩ := info_parts info_row
        obtain ⟨j0, hj0, jz0, jz1, jz2⟩ := info_parts info_sl
        have hd84 := drb (V2)
        replace hN := hN.below hd84
        replace hX := hX.below hd84
        replace hY := hY.below hd84
        replace hM := hM.below hd84
        replace hU := hU.below hd84
        replace hV := hV.below hd84
        replace hR := hR.below hd84
        replace hQ := hQ.below hd84
        replace qbx1 := cbl hd84 qbx1
        replace qbx2 := cbl hd84 qbx2
        replace qbx3 := cbl hd84 qbx3
        replace qbx4 := cbl hd84 qbx4
        replace qby1 := cbl hd84 qby1
        replace qby2 := cbl hd84 qby2
        replace qby3 := cbl hd84 qby3
        replace qby4 := cbl hd84 qby4
        replace hq := hq.below hd84
        replace hr := hr.below hd84
        replace hz := hz.below hd84
        replace qz0 := cbl hd84 qz0
        replace qz1 := cbl hd84 qz1
        replace HBT := Below.cons HBT hd84
        clear hd84
        replace qbx1 : (V2).drew.cell? ⟨nbx, 1, none⟩ = some (.bool (sg u0)) := qbx1
        replace qbx2 : (V2).drew.cell? ⟨nbx, 2, none⟩ = some (.slice X (nl (mg u0)) cx) := qbx2
        replace qbx3 : (V2).drew.cell? ⟨nbx, 3, none⟩ = some (.bool (sg v0)) := qbx3
        replace qbx4 : (V2).drew.cell? ⟨nbx, 4, none⟩ = some (.slice Y (nl (mg v0)) cy) := qbx4
        replace qby1 : (V2).drew.cell? ⟨nby, 1, none⟩ = some (.bool (sg u1)) := qby1
        replace qby2 : (V2).drew.cell? ⟨nby, 2, none⟩ = some (.slice U (nl (mg u1)) cu) := qby2
        replace qby3 : (V2).drew.cell? ⟨nby, 3, none⟩ = some (.bool (sg v1)) := qby3
        replace qby4 : (V2).drew.cell? ⟨nby, 4, none⟩ = some (.slice V (nl (mg v1)) cv) := qby4
        replace qz0 : (V2).drew.cell? ⟨nbz, 0, none⟩ = some (.bool (sg z)) := qz0
        replace qz1 : (V2).drew.cell? ⟨nbz, 1, none⟩ = some (.slice Xz (nl (mg z)) cz) := qz1
        obtain ⟨m1, Em1⟩ : ∃ zq : Int, zq = z * u1 := ⟨_, rfl⟩
        have Nm1 : nl (mg m1) ≤ 16384 := by rw [Em1]; have := nl_imul z u1; omega
        have C84_0 := fun (W : World) (A : Option Addr) (c : Nat) (B : Option Addr) (d : Nat) (h1 : NatV W A c (mg z)) (h2 : NatV W B d (mg u1)) => zmul_c A c z B d u1 W h1 h2 (by omega) (by omega)
        simp only [← Em1] at C84_0
        replace Em1 := Lib.hid Em1
        replace C84_0 := Lib.hid C84_0
        obtain ⟨u2, Eu2⟩ : ∃ zq : Int, zq = u0 - m1 := ⟨_, rfl⟩
        have C84_1 := fun (W : World) (A : Option Addr) (c : Nat) (B : Option Addr) (d : Nat) (h1 : NatV W A c (mg u0)) (h2 : NatV W B d (mg m1)) => zsub_c A c u0 B d m1 W h1 h2 (by omega) (by omega)
        simp only [← Eu2] at C84_1
        replace Eu2 := Lib.hid Eu2
        replace C84_1 := Lib.hid C84_1
        obtain ⟨m2, Em2⟩ : ∃ zq : Int, zq = z * v1 := ⟨_, rfl⟩
        have Nm2 : nl (mg m2) ≤ 16384 := by rw [Em2]; have := nl_imul z v1; omega
        have C84_2 := fun (W : World) (A : Option Addr) (c : Nat) (B : Option Addr) (d : Nat) (h1 : NatV W A c (mg z)) (h2 : NatV W B d (mg v1)) => zmul_c A c z B d v1 W h1 h2 (by omega) (by omega)
        simp only [← Em2] at C84_2
        replace Em2 := Lib.hid Em2
        replace C84_2 := Lib.hid C84_2
        obtain ⟨v2, Ev2⟩ : ∃ zq : Int, zq = v0 - m2 := ⟨_, rfl⟩
        have C84_3 := fun (W : World) (A : Option Addr) (c : Nat) (B : Option Addr) (d : Nat) (h1 : NatV W A c (mg v0)) (h2 : NatV W B d (mg m2)) => zsub_c A c v0 B d m2 W h1 h2 (by omega) (by omega)
        simp only [← Ev2] at C84_3
        replace Ev2 := Lib.hid Ev2
        replace C84_3 := Lib.hid C84_3
        obtain ⟨S, hS⟩ : ∃ S : World → Prop, S = fun W => W.cell? ⟨nbx, 1, none⟩ = some (.bool (sg u0)) ∧ W.cell? ⟨nbx, 2, none⟩ = some (.slice X (nl (mg u0)) cx) ∧ W.cell? ⟨nbx, 3, none⟩ = some (.bool (sg v0)) ∧ W.cell? ⟨nbx, 4, none⟩ = some (.slice Y (nl (mg v0)) cy) ∧ W.cell? ⟨nby, 1, none⟩ = some (.bool (sg u1)) ∧ W.cell? ⟨nby, 2, none⟩ = some (.slice U (nl (mg u1)) cu) ∧ W.cell? ⟨nby, 3, none⟩ = some (.bool (sg v1)) ∧ W.cell? ⟨nby, 4, none⟩ = some (.slice V (nl (mg v1)) cv) ∧ W.cell? ⟨nbz, 0, none⟩ = some (.bool (sg z)) ∧ W.cell? ⟨nbz, 1, none⟩ = some (.slice Xz (nl (mg z)) cz) := ⟨_, rfl⟩
        have HSq : S (V2).drew := by rw [hS]; exact ⟨qbx1, qbx2, qbx3, qbx4, qby1, qby2, qby3, qby4, qz0, qz1⟩
        have hSb : ∀ W W' : World, Below W.heap.size W W' → S W → S W' := by rw [hS]; exact fun W W' hb h => ⟨cell_below hb h.1, cell_below hb h.2.1, cell_below hb h.2.2.1, cell_below hb h.2.2.2.1, cell_below hb h.2.2.2.2.1, cell_below hb h.2.2.2.2.2.1, cell_below hb h.2.2.2.2.2.2.1, cell_below hb h.2.2.2.2.2.2.2.1, cell_below hb h.2.2.2.2.2.2.2.2.1, cell_below hb h.2.2.2.2.2.2.2.2.2⟩
        replace hSb := Lib.hid hSb
        replace hS := Lib.hid hS
        refine wp_region_seq S [(0, true), (1, true), (2, true), (3, true), (4, true), (5, true), (6, true), (9, true), (10, true), (11, true), (12, true), (13, true), (7, false), (8, false), (14, false), (15, false), (16, true), (17, false), (18, false), (19, true)] (by kernel_rfl) (by kernel_rfl) (by kernel_rfl) HSq (fun hSq => ?_)
        clear hSq
        replace HSq := Lib.hid HSq
        clear qbx1 qbx2 qbx3 qbx4 qby1 qby2 qby3 qby4 qz0 qz1
        refine SeqP.take (v := ?_) rfl (fun _ _ _ h => h) (Or.inl ⟨by rfl, ?_⟩) ?_
        rotate_left 1
        · intro wq hSw; rw [hS.out] at hSw; (try dsimp only at hSw); go_simp; try with_reducible rfl
        try simp only [Act.put, List.setIfInBounds_toArray, List.set_cons_zero, List.set_cons_succ]
        refine SeqP.take (v := ?_) rfl (fun _ _ _ h => h) (Or.inl ⟨by rfl, ?_⟩) ?_
        rotate_left 1
        · intro wq hSw; rw [hS.out] at hSw; (try dsimp only at hSw); go_simp; try with_reducible rfl
        try simp only [Act.put, List.setIfInBounds_toArray, List.set_cons_zero, List.set_cons_succ]
        refine SeqP.take (v := ?_) rfl (fun _ _ _ h => h) (Or.inl ⟨by rfl, ?_⟩) ?_
        rotate_left 1
        · intro wq hSw; rw [hS.out] at hSw; (try dsimp only at hSw); go_simp; try with_reducible rfl
        try simp only [Act.put, List.setIfInBounds_toArray, List.set_cons_zero, List.set_cons_succ]
        refine SeqP.take (v := ?_) rfl (fun _ _ _ h => h) (Or.inl ⟨by rfl, ?_⟩) ?_
        rotate_left 1
        · intro wq hSw; rw [hS.out] at hSw; (try dsimp only at hSw); go_simp; try with_reducible rfl
        try simp only [Act.put, List.setIfInBounds_toArray, List.set_cons_zero, List.set_cons_succ]
        refine SeqP.take (v := ?_) rfl (fun _ _ _ h => h) (Or.inl ⟨by rfl, ?_⟩) ?_
        rotate_left 1
        · intro wq hSw; rw [hS.out] at hSw; (try dsimp only at hSw); go_simp; try with_reducible rfl
        try simp only [Act.put, List.setIfInBounds_toArray, List.set_cons_zero, List.set_cons_succ]
        refine SeqP.take (v := ?_) rfl (fun _ _ _ h => h) (Or.inl ⟨by rfl, ?_⟩) ?_
        rotate_left 1
        · intro wq hSw; rw [hS.out] at hSw; (try dsimp only at hSw); go_simp; try with_reducible rfl
        try simp only [Act.put, List.setIfInBounds_toArray, List.set_cons_zero, List.set_cons_succ]
        refine SeqP.take (v := ?_) rfl (fun _ _ _ h => h) (Or.inl ⟨by rfl, ?_⟩) ?_
        rotate_left 1
        · intro wq hSw; rw [hS.out] at hSw; (try dsimp only at hSw); go_simp; try with_reducible rfl
        try simp only [Act.put, List.setIfInBounds_toArray, List.set_cons_zero, List.set_cons_succ]
        refine SeqP.take (v := ?_) rfl (fun _ _ _ h => h) (Or.inl ⟨by rfl, ?_⟩) ?_
        rotate_left 1
        · intro wq hSw; rw [hS.out] at hSw; (try dsimp only at hSw); go_simp; try with_reducible rfl
        try simp only [Act.put, List.setIfInBounds_toArray, List.set_cons_zero, List.set_cons_succ]
        refine SeqP.take (v := ?_) rfl (fun _ _ _ h => h) (Or.inl ⟨by rfl, ?_⟩) ?_
        rotate_left 1
        · intro wq hSw; rw [hS.out] at hSw; (try dsimp only at hSw); go_simp; try with_reducible rfl
        try simp only [Act.put, List.setIfInBounds_toArray, List.set_cons_zero, List.set_cons_succ]
        refine SeqP.take (v := ?_) rfl (fun _ _ _ h => h) (Or.inl ⟨by rfl, ?_⟩) ?_
        rotate_left 1
        · intro wq hSw; rw [hS.out] at hSw; (try dsimp only at hSw); go_simp; try with_reducible rfl
        try simp only [Act.put, List.setIfInBounds_toArray, List.set_cons_zero, List.set_cons_succ]
        refine SeqP.take (v := ?_) rfl (fun _ _ _ h => h) (Or.inl ⟨by rfl, ?_⟩) ?_
        rotate_left 1
        · intro wq hSw; rw [hS.out] at hSw; (try dsimp only at hSw); go_simp; try with_reducible rfl
        try simp only [Act.put, List.setIfInBounds_toArray, List.set_cons_zero, List.set_cons_succ]
        refine SeqP.take (v := ?_) rfl (fun _ _ _ h => h) (Or.inl ⟨by rfl, ?_⟩) ?_
        rotate_left 1
        · intro wq hSw; rw [hS.out] at hSw; (try dsimp only at hSw); go_simp; try with_reducible rfl
        try simp only [Act.put, List.setIfInBounds_toArray, List.set_cons_zero, List.set_cons_succ]
        refine SeqP.call rfl (by rfl) (fun Kq hKq => ?_)
        go_simp
        go_at_call 121
        with_reducible refine (C84_0.out _ _ _ _ _ hz hU).mono ?_
        rintro e W85 ⟨Xm1, cm1, rfl, hm1, hb85⟩
        replace hN := hN.below hb85
        replace hX := hX.below hb85
        replace hY := hY.below hb85
        replace hM := hM.below hb85
        replace hU := hU.below hb85
        replace hV := hV.below hb85
        replace hR := hR.below hb85
        replace hQ := hQ.below hb85
        replace hq := hq.below hb85
        replace hr := hr.below hb85
        replace hz := hz.below hb85
        replace HBT := Below.cons HBT hb85
        replace HSq := Lib.hid (hSb.out _ _ hb85 HSq.out)
        clear hb85
        refine hKq.out _ _ HSq.out (fun hSq => ?_)
        clear hSq hKq Kq
        try simp only [Act.put, List.setIfInBounds_toArray, List.set_cons_zero, List.set_cons_succ]
        refine SeqP.call rfl (by rfl) (fun Kq hKq => ?_)
        go_simp
        go_at_call 140
        with_reducible refine (C84_1.out _ _ _ _ _ hX hm1).mono ?_
        rintro e W86 ⟨Xu2, cu2, rfl, hu2, hb86⟩
        replace hN := hN.below hb86
        replace hX := hX.below hb86
        replace hY := hY.below hb86
        replace hM := hM.below hb86
        replace hU := hU.below hb86
        replace hV := hV.below hb86
        replace hR := hR.below hb86
        replace hQ := hQ.below hb86
        replace hq := hq.below hb86
        replace hr := hr.below hb86
        replace hz := hz.below hb86
        replace HBT := Below.cons HBT hb86
        replace HSq := Lib.hid (hSb.out _ _ hb86 HSq.out)
        clear hb86
        refine hKq.out _ _ HSq.out (fun hSq => ?_)
        clear hSq hKq Kq
        try simp only [Act.put, List.setIfInBounds_toArray, List.set_cons_zero, List.set_cons_succ]
        refine SeqP.call rfl (by rfl) (fun Kq hKq => ?_)
        go_simp
        go_at_call 121
        with_reducible refine (C84_2.out _ _ _ _ _ hz hV).mono ?_
        rintro e W87 ⟨Xm2, cm2, rfl, hm2, hb87⟩
        replace hN := hN.below hb87
        replace hX := hX.below hb87
        replace hY := hY.below hb87
        replace hM := hM.below hb87
        replace hU := hU.below hb87
        replace hV := hV.below hb87
        replace hR := hR.below hb87
        replace hQ := hQ.below hb87
        replace hq := hq.below hb87
        replace hr := hr.below hb87
        replace hz := hz.below hb87
        replace hu2 := hu2.below hb87
        replace HBT := Below.cons HBT hb87
        replace HSq := Lib.hid (hSb.out _ _ hb87 HSq.out)
        clear hb87
        refine hKq.out _ _ HSq.out (fun hSq => ?_)
        clear hSq hKq Kq
        try simp only [Act.put, List.setIfInBounds_toArray, List.set_cons_zero, List.set_cons_succ]
        refine SeqP.call rfl (by rfl) (fun Kq hKq => ?_)
        go_simp
        go_at_call 140
        with_reducible refine (C84_3.out _ _ _ _ _ hY hm2).mono ?_
        rintro e W88 ⟨Xv2, cv2, rfl, hv2, hb88⟩
        replace hN := hN.below hb88
        replace hX := hX.below hb88
        replace hY := hY.below hb88
        replace hM := hM.below hb88
        replace hU := hU.below hb88
        replace hV := hV.below hb88
        replace hR := hR.below hb88
        replace hQ := hQ.below hb88
        replace hq := hq.below hb88
        replace hr := hr.below hb88
        replace hz := hz.below hb88
        replace hu2 := hu2.below hb88
        replace HBT := Below.cons HBT hb88
        replace HSq := Lib.hid (hSb.out _ _ hb88 HSq.out)
        clear hb88
        refine hKq.out _ _ HSq.out (fun hSq => ?_)
        clear hSq hKq Kq
        try simp only [Act.put, List.setIfInBounds_toArray, List.set_cons_zero, List.set_cons_succ]
        refine SeqP.take (v := ?_) rfl (fun _ _ _ h => h) (Or.inl ⟨by rfl, ?_⟩) ?_
        rotate_left 1
        · intro wq hSw; rw [hS.out] at hSw; (try dsimp only at hSw); go_simp; try with_reducible rfl
        try simp only [Act.put, List.setIfInBounds_toArray, List.set_cons_zero, List.set_cons_succ]
        refine SeqP.call rfl (by rfl) (fun Kq hKq => ?_)
        go_simp
        have hbA : Below W88.heap.size W88 (W88.alloc (.cells #[.slice Xr (nl r) cr, .bool (sg u2), .slice Xu2 (nl (mg u2)) cu2, .bool (sg v2), .slice Xv2 (nl (mg v2)) cv2] 98)) := (Below.refl _ _).alloc (Nat.le_refl _) _
        replace hN := hN.below hbA
        replace hX := hX.below hbA
        replace hY := hY.below hbA
        replace hM := hM.below hbA
        replace hU := hU.below hbA
        replace hV := hV.below hbA
        replace hR := hR.below hbA
        replace hQ := hQ.below hbA
        replace hq := hq.below hbA
        replace hr := hr.below hbA
        replace hz := hz.below hbA
        replace hu2 := hu2.below hbA
        replace hv2 := hv2.below hbA
        replace HBT := Below.cons HBT hbA
        replace HSq := Lib.hid (hSb.out _ _ hbA HSq.out)
        clear hbA
        have hnew : BoxA (W88.alloc (.cells #[.slice Xr (nl r) cr, .bool (sg u2), .slice Xu2 (nl (mg u2)) cu2, .bool (sg v2), .slice Xv2 (nl (mg v2)) cv2] 98)) W88.heap.size 98 #[.slice Xr (nl r) cr, .bool (sg u2), .slice Xu2 (nl (mg u2)) cu2, .bool (sg v2), .slice Xv2 (nl (mg v2)) cv2] := ⟨at_new rfl⟩
        refine hKq.out _ _ HSq.out (fun hSq => ?_)
        clear hSq hKq Kq
        try simp only [Act.put, List.setIfInBounds_toArray, List.set_cons_zero, List.set_cons_succ]
        refine SeqP.call rfl (by rfl) (fun Kq hKq => ?_)
        obtain ⟨xs, ys, r1, r2, hown, hnu, hxs, hys, hr5, hr6⟩ := hR
        rw [← Em.out] at hown
        have er : r = (euc a b (k + 1)).2 := by rw [Er.out, Ex.out, Ey.out]; simp only [euc]
        have eq1 : q = (euc a b k).1 / (euc a b k).2 := by rw [Eq.out, Ex.out, Ey.out]
        have eu : u2 = (eum a b (k + 1)).c := by rw [Eu2.out, Em1.out, Ez.out, eq1, Eu0.out, Eu1.out]; simp only [eum, Mx.nx]
        have ev : v2 = (eum a b (k + 1)).d := by rw [Ev2.out, Em2.out, Ez.out, eq1, Ev0.out, Ev1.out]; simp only [eum, Mx.nx]
        have hnews5 : Row5 (W88.alloc (.cells #[.slice Xr (nl r) cr, .bool (sg u2), .slice Xu2 (nl (mg u2)) cu2, .bool (sg v2), .slice Xv2 (nl (mg v2)) cv2] 98)) (euc a b (k + 1)).2 (eum a b (k + 1)).c (eum a b (k + 1)).d [.slice Xr (nl r) cr, .bool (sg u2), .slice Xu2 (nl (mg u2)) cu2, .bool (sg v2), .slice Xv2 (nl (mg v2)) cv2] := by rw [← er, ← eu, ← ev]; exact ⟨_, _, _, _, _, _, rfl, hr, hu2, hv2⟩
        have hnews : ∀ j u, ([.slice Xr (nl r) cr, .bool (sg u2), .slice Xu2 (nl (mg u2)) cu2, .bool (sg v2), .slice Xv2 (nl (mg v2)) cv2] : List Value)[j]? = some u → (W88.alloc (.cells #[.slice Xr (nl r) cr, .bool (sg u2), .slice Xu2 (nl (mg u2)) cu2, .bool (sg v2), .slice Xv2 (nl (mg v2)) cv2] 98)).cell? ((⟨W88.heap.size, 0, none⟩ : Addr).add j) = some u := fun j u hu => by rw [← row_at]; exact hnew.c (by simpa using hu)
        have hv5 : ∀ g', (Value.slice (some ⟨g, 0, none⟩) m cap).ownBlock = some g' → g' = g := fun g' h => by simpa [Value.ownBlock] using h.symm
        refine wp_append_nu _ (.tmp 56) (.tmp 73) 94 (by rfl) w.heap.size 98 i0 (.agg #[.slice none 0 0, .bool false, .slice none 0 0, .bool false, .slice none 0 0]) 5 88 Tryz.underlying94 hi0 hz00 hz01 hz02 rfl (by decide) _ m xs (by rfl) hown ⟨W88.heap.size, 0, none⟩ 1 1 [.slice Xr (nl r) cr, .bool (sg u2), .slice Xu2 (nl (mg u2)) cu2, .bool (sg v2), .slice Xv2 (nl (mg v2)) cv2] (by rfl) rfl hnews (by intro u hu; simp at hu; rcases hu with rfl | rfl | rfl | rfl | rfl <;> rfl) (by simp only [maxLen]; omega) (by omega) HBT.size (by decide) hnu (by intro u hu; simp [Value.cells] at hu; rcases hu with rfl | rfl | rfl | rfl | rfl <;> first | exact notU_bool _ | exact notU_slice _ _ _) (by intro u hu; simp at hu; rcases hu with rfl | rfl | rfl | rfl | rfl <;> first | exact notU_bool _ | exact notU_slice _ _ _) ?_
        intro v' w' ho hg hn
        have HS2 : S w' := by have h := HSq.out; rw [hS.out] at h ⊢; exact ⟨grown_cell hv5 hg h.1 hgx, grown_cell hv5 hg h.2.1 hgx, grown_cell hv5 hg h.2.2.1 hgx, grown_cell hv5 hg h.2.2.2.1 hgx, grown_cell hv5 hg h.2.2.2.2.1 hgy, grown_cell hv5 hg h.2.2.2.2.2.1 hgy, grown_cell hv5 hg h.2.2.2.2.2.2.1 hgy, grown_cell hv5 hg h.2.2.2.2.2.2.2.1 hgy, grown_cell hv5 hg h.2.2.2.2.2.2.2.2.1 hgz, grown_cell hv5 hg h.2.2.2.2.2.2.2.2.2 hgz⟩
        replace HSq := Lib.hid HS2
        clear HS2
        have hRn : RowsI w' w.heap.size a b (k + 1) v' := rows_next hnu hxs hys hr5 hr6 hnews5 (by rw [← Em.out]; exact ho) hg hn
        have HBn := HBT.grown hg HBT.size (fun k hk => own_base hown hk)
        have hQn := hQ.grown hown hnu hg
        have hqn := hq.grown hnu hg
        obtain ⟨V6, c6, rfl⟩ := own_shape ho
        clear hnews hnews5 hnew hown hnu hr5 hr6 hn hg ho er eu ev hN hX hY hM hU hV hq hr hz hu2 hv2
        clear HBT hQ
        refine hKq.out _ _ HSq.out (fun hSq => ?_)
        clear hSq hKq Kq
        try simp only [Act.put, List.setIfInBounds_toArray, List.set_cons_zero, List.set_cons_succ]
        refine SeqP.take (v := ?_) rfl (fun _ _ _ h => h) (Or.inl ⟨by rfl, ?_⟩) ?_
        rotate_left 1
        · intro wq hSw; rw [hS.out] at hSw; (try dsimp only at hSw); go_simp; try with_reducible rfl
        try simp only [Act.put, List.setIfInBounds_toArray, List.set_cons_zero, List.set_cons_succ]
        refine SeqP.done ?_
        clear hSb
        clear HSq
        have eqk : q = quo a b k := eq1
        obtain ⟨W3, hW3⟩ : ∃ W3, W3 = w'.alloc (.cells #[.slice Xq (nl q) cq] 22) := ⟨_, rfl⟩
        have hb3 : Below w'.heap.size w' W3 := by rw [hW3]; exact (Below.refl _ _).alloc (Nat.le_refl _) _
        have hnew : BoxA W3 w'.heap.size 22 #[.slice Xq (nl q) cq] := by rw [hW3]; exact ⟨at_new rfl⟩
        have HB3 := HBn.cons hb3
        have hR3 := hRn.below hb3
        have hQ3 := hQn.below hb3
        have hq3 := hqn.below hb3
        obtain ⟨qs, hq1, hq2, hqr⟩ := hQ3
        have hnews : ∀ j u, ([.slice Xq (nl q) cq] : List Value)[j]? = some u → W3.cell? ((⟨w'.heap.size, 0, none⟩ : Addr).add j) = some u := fun j u hu => by rw [← row_at]; exact hnew.c (by simpa using hu)
        have HX : ∀ (v' : Value) (w2 : World), w2.ownsRow w.heap.size 22 1 v' (k + 1) (qs ++ [.slice Xq (nl q) cq]) → W3.grownBy w2 (Value.slice V7 k c7).ownBlock → NU w2 v' → RowsI w2 w.heap.size a b (k + 1) (.slice V6 (m + 1) c6) ∧ QuosI w2 w.heap.size a b (k + 1) v' ∧ Below w.heap.size w w2 := by
          intro v' w2 ho2 hg2 hn2
          exact ⟨hR3.grown hq1 hq2 hg2, quos_next hq1 hq2 hqr (by rw [← eqk]; exact hq3) (by rw [← eqk]; exact ho2) hg2 hn2, HB3.grown hg2 HB3.size (fun k hk => own_base hq1 hk)⟩
        have hs3 := HB3.size
        have hk1 : k + 1 ≤ 600000 := by have := Em.out; omega
        replace HX := Lib.hid HX
        replace eqk := Lib.hid eqk
        replace eq1 := Lib.hid eq1
        clear hRn hQn HBn hqn hb3 HB3 hR3 hqr hq3 hnew
        go_wp2_with (at_builtin; rw [← hW3]; refine wpList_append_nu _ rfl (.tmp 75) (.tmp 77) 48 rfl w.heap.size 22 j0 (.slice none 0 0) 1 24 Tryz.underlying48 hj0 jz0 jz1 jz2 rfl (by decide) _ k qs rfl hq1 ⟨w'.heap.size, 0, none⟩ 1 1 [.slice Xq (nl q) cq] rfl rfl hnews (by intro u hu; simp at hu; subst hu; rfl) (by simp only [maxLen]; omega) (by omega) hs3 (by decide) hq2 (by intro u hu; simp [Value.cells] at hu; subst hu; exact notU_slice _ _ _) (by intro u hu; simp at hu; subst hu; exact notU_slice _ _ _) ?_; intro v' w2 hn1 hn2 hn3; obtain ⟨V8, c8, rfl⟩ := own_shape hn1; have HY := Lib.hid (HX.out _ w2 hn1 hn2 hn3); clear hn1 hn2 hn3)
        go_roundw
        case rel => exact ⟨k + 1, HY.out.1, HY.out.2.1, hnz1, HY.out.2.2⟩
        case measure => simp only [lenOf]; have := hst.out; have := Em.out; omega
end Go.Proofs.YthcmoimlnhghcaaGreatDoor

/- The document's quotients, cofactors. -/
set_option linter.unusedVariables false
set_option linter.unusedSimpArgs false
namespace Go.Proofs.YthcmoimlnhghcaaGreatDoor
open Go.RowKit Go.Shelf
attribute [local go_sem] max2_i min2_i max_two min_two

theorem rext_c (A : Option Addr) (c a : Nat) (B : Option Addr) (d b : Nat) (w : World) (hA : NatV w A c a) (hB : NatV w B d b) (la : nl a ≤ 8192) (lb : nl b ≤ 8192) :
    Calls Tryz.prog 35 #[.slice A (nl a) c, .slice B (nl b) d] w (RetExt w (Nat.gcd a b) (exu a b) (exv a b)) := by
  obtain ⟨hb1, Rr, Rs⟩ := bx2 w #[.bool false, .slice none 0 0] 24 #[.bool false, .slice none 0 0] 24
  replace hA := hA.below hb1
  replace hB := hB.below hb1
  have HBT := hb1
  clear hb1
  have qr0 := Rr.c (i := 0) rfl
  have qr1 := Rr.c (i := 1) rfl
  have qs0 := Rs.c (i := 0) rfl
  have qs1 := Rs.c (i := 1) rfl
  go_enter Tryz.func35, Tryz.ntmps35
  go_wp2_with (fail)
  refine (rows_c A c a B d b _ hA hB la lb).mono ?_
  rintro e W1 ⟨vr, vq, rfl, hR, hQ, hb1⟩
  clear hA
  clear hB
  replace Rr := Rr.below hb1
  replace qr0 := cbl hb1 qr0
  replace qr1 := cbl hb1 qr1
  replace Rs := Rs.below hb1
  replace qs0 := cbl hb1 qs0
  replace qs1 := cbl hb1 qs1
  replace HBT := Below.cons HBT hb1
  clear hb1
  have hsl := Lib.hid Rs.lt
  obtain ⟨V7, c7, rfl⟩ := hQ.shape
  clear hQ
  obtain ⟨k, Ek⟩ : ∃ k, k = eun a b := ⟨_, rfl⟩
  rw [← Ek] at hR ⊢
  obtain ⟨g, cap, N, cn, X, cx, Y, cy, M, cm, U, cu, V, cv, rfl, hg, hmx, hcur, hN, hX, hY, hM, hU, hV, hr1, hr2⟩ := hR.cells
  clear hM hU hV hr2 hcur hR hg
  obtain ⟨x, Ex⟩ : ∃ z : Nat, z = (euc a b k).1 := ⟨_, rfl⟩
  obtain ⟨u, Eu⟩ : ∃ z : Int, z = (eum a b k).a := ⟨_, rfl⟩
  obtain ⟨v, Ev⟩ : ∃ z : Int, z = (eum a b k).b := ⟨_, rfl⟩
  rw [← Ex] at hN hr1
  rw [← Eu] at hX hr1
  rw [← Ev] at hY hr1
  obtain ⟨m, Em⟩ : ∃ z, z = k + 2 := ⟨_, rfl⟩
  rw [← Em] at hmx ⊢
  have c10 : W1.cell? ⟨g, k * 5, none⟩ = some (.slice N (nl x) cn) := hr1 0 _ rfl
  have c11 : W1.cell? ⟨g, k * 5 + 1, none⟩ = some (.bool (sg u)) := hr1 1 _ rfl
  have c12 : W1.cell? ⟨g, k * 5 + 2, none⟩ = some (.slice X (nl (mg u)) cx) := hr1 2 _ rfl
  have c13 : W1.cell? ⟨g, k * 5 + 3, none⟩ = some (.bool (sg v)) := hr1 3 _ rfl
  have c14 : W1.cell? ⟨g, k * 5 + 4, none⟩ = some (.slice Y (nl (mg v)) cy) := hr1 4 _ rfl
  have I2 : (m : Int) - 2 = (k : Int) := by omega
  have L2 : k < m := by omega
  have Wk : IntKind.i64.wrap (k : Int) = (k : Int) := IntWalk.i64_in _ (by unfold maxLen at hmx; omega)
  clear hr1
  have RX : x = Nat.gcd a b := by rw [Ex, Ek]; exact eun_gcd a b
  have RU : u = exu a b := by rw [Eu, Ek]; rfl
  have RV : v = exv a b := by rw [Ev, Ek]; rfl
  replace Ex := Lib.hid Ex
  replace Eu := Lib.hid Eu
  replace Ev := Lib.hid Ev
  replace Em := Lib.hid Em
  replace Ek := Lib.hid Ek
  replace RX := Lib.hid RX
  replace RU := Lib.hid RU
  replace RV := Lib.hid RV
  obtain ⟨hb2, Rt⟩ := bx1 W1 #[.slice N (nl x) cn, .bool (sg u), .slice X (nl (mg u)) cx, .bool (sg v), .slice Y (nl (mg v)) cy] 98
  replace Rr := Rr.below hb2
  replace qr0 := cbl hb2 qr0
  replace qr1 := cbl hb2 qr1
  replace Rs := Rs.below hb2
  replace qs0 := cbl hb2 qs0
  replace qs1 := cbl hb2 qs1
  replace hN := hN.below hb2
  replace hX := hX.below hb2
  replace hY := hY.below hb2
  replace HBT := Below.cons HBT hb2
  clear hb2
  have qt0 := Rt.c (i := 0) rfl
  have qt1 := Rt.c (i := 1) rfl
  have qt2 := Rt.c (i := 2) rfl
  have qt3 := Rt.c (i := 3) rfl
  have qt4 := Rt.c (i := 4) rfl
  go_wp2_with (fail)
  clear qr0
  clear qr1
  clear qs0
  clear qs1
  clear Rt
  have net : W1.heap.size ≠ w.heap.size := by have := hsl.out; omega
  have nes : W1.heap.size ≠ (w.heap.size + 1) := by have := hsl.out; omega
  have hd3 := drb ((W1.alloc (.cells #[.slice N (nl x) cn, .bool (sg u), .slice X (nl (mg u)) cx, .bool (sg v), .slice Y (nl (mg v)) cy] 98)))
  replace Rr := Rr.below hd3
  replace Rs := Rs.below hd3
  replace hN := hN.below hd3
  replace hX := hX.below hd3
  replace hY := hY.below hd3
  replace qt0 := cbl hd3 qt0
  replace qt1 := cbl hd3 qt1
  replace qt2 := cbl hd3 qt2
  replace qt3 := cbl hd3 qt3
  replace qt4 := cbl hd3 qt4
  replace HBT := Below.cons HBT hd3
  clear hd3
  replace qt0 : ((W1.alloc (.cells #[.slice N (nl x) cn, .bool (sg u), .slice X (nl (mg u)) cx, .bool (sg v), .slice Y (nl (mg v)) cy] 98))).drew.cell? ⟨W1.heap.size, 0, none⟩ = some (.slice N (nl x) cn) := qt0
  replace qt1 : ((W1.alloc (.cells #[.slice N (nl x) cn, .bool (sg u), .slice X (nl (mg u)) cx, .bool (sg v), .slice Y (nl (mg v)) cy] 98))).drew.cell? ⟨W1.heap.size, 1, none⟩ = some (.bool (sg u)) := qt1
  replace qt2 : ((W1.alloc (.cells #[.slice N (nl x) cn, .bool (sg u), .slice X (nl (mg u)) cx, .bool (sg v), .slice Y (nl (mg v)) cy] 98))).drew.cell? ⟨W1.heap.size, 2, none⟩ = some (.slice X (nl (mg u)) cx) := qt2
  replace qt3 : ((W1.alloc (.cells #[.slice N (nl x) cn, .bool (sg u), .slice X (nl (mg u)) cx, .bool (sg v), .slice Y (nl (mg v)) cy] 98))).drew.cell? ⟨W1.heap.size, 3, none⟩ = some (.bool (sg v)) := qt3
  replace qt4 : ((W1.alloc (.cells #[.slice N (nl x) cn, .bool (sg u), .slice X (nl (mg u)) cx, .bool (sg v), .slice Y (nl (mg v)) cy] 98))).drew.cell? ⟨W1.heap.size, 4, none⟩ = some (.slice Y (nl (mg v)) cy) := qt4
  obtain ⟨S, hS⟩ : ∃ S : World → Prop, S = fun W => W.cell? ⟨W1.heap.size, 0, none⟩ = some (.slice N (nl x) cn) ∧ W.cell? ⟨W1.heap.size, 1, none⟩ = some (.bool (sg u)) ∧ W.cell? ⟨W1.heap.size, 2, none⟩ = some (.slice X (nl (mg u)) cx) ∧ W.cell? ⟨W1.heap.size, 3, none⟩ = some (.bool (sg v)) ∧ W.cell? ⟨W1.heap.size, 4, none⟩ = some (.slice Y (nl (mg v)) cy) := ⟨_, rfl⟩
  have HSq : S ((W1.alloc (.cells #[.slice N (nl x) cn, .bool (sg u), .slice X (nl (mg u)) cx, .bool (sg v), .slice Y (nl (mg v)) cy] 98))).drew := by rw [hS]; exact ⟨qt0, qt1, qt2, qt3, qt4⟩
  have hSb : ∀ W W' : World, Below W.heap.size W W' → S W → S W' := by rw [hS]; exact fun W W' hb h => ⟨cell_below hb h.1, cell_below hb h.2.1, cell_below hb h.2.2.1, cell_below hb h.2.2.2.1, cell_below hb h.2.2.2.2⟩
  replace hSb := Lib.hid hSb
  replace hS := Lib.hid hS
  refine wp_region_seq S [(0, true), (1, true), (2, true), (3, true), (4, true), (5, true), (6, true), (7, false), (8, false)] (by kernel_rfl) (by kernel_rfl) (by kernel_rfl) HSq (fun hSq => ?_)
  clear hSq
  replace HSq := Lib.hid HSq
  generalize hVd : ((W1.alloc (.cells #[.slice N (nl x) cn, .bool (sg u), .slice X (nl (mg u)) cx, .bool (sg v), .slice Y (nl (mg v)) cy] 98))).drew = Vd at *
  clear hVd
  clear qt0 qt1 qt2 qt3 qt4
  refine SeqP.take (v := ?_) rfl (fun _ _ _ h => h) (Or.inl ⟨by rfl, ?_⟩) ?_
  rotate_left 1
  · intro wq hSw; rw [hS.out] at hSw; (try dsimp only at hSw); go_simp; try with_reducible rfl
  try simp only [Act.put, List.setIfInBounds_toArray, List.set_cons_zero, List.set_cons_succ]
  refine SeqP.take (v := ?_) rfl (fun _ _ _ h => h) (Or.inl ⟨by rfl, ?_⟩) ?_
  rotate_left 1
  · intro wq hSw; rw [hS.out] at hSw; (try dsimp only at hSw); go_simp; try with_reducible rfl
  try simp only [Act.put, List.setIfInBounds_toArray, List.set_cons_zero, List.set_cons_succ]
  refine SeqP.take (v := ?_) rfl (fun _ _ _ h => h) (Or.inl ⟨by rfl, ?_⟩) ?_
  rotate_left 1
  · intro wq hSw; rw [hS.out] at hSw; (try dsimp only at hSw); go_simp; try with_reducible rfl
  try simp only [Act.put, List.setIfInBounds_toArray, List.set_cons_zero, List.set_cons_succ]
  refine SeqP.take (v := ?_) rfl (fun _ _ _ h => h) (Or.inl ⟨by rfl, ?_⟩) ?_
  rotate_left 1
  · intro wq hSw; rw [hS.out] at hSw; (try dsimp only at hSw); go_simp; try with_reducible rfl
  try simp only [Act.put, List.setIfInBounds_toArray, List.set_cons_zero, List.set_cons_succ]
  refine SeqP.take (v := ?_) rfl (fun _ _ _ h => h) (Or.inl ⟨by rfl, ?_⟩) ?_
  rotate_left 1
  · intro wq hSw; rw [hS.out] at hSw; (try dsimp only at hSw); go_simp; try with_reducible rfl
  try simp only [Act.put, List.setIfInBounds_toArray, List.set_cons_zero, List.set_cons_succ]
  refine SeqP.take (v := ?_) rfl (fun _ _ _ h => h) (Or.inl ⟨by rfl, ?_⟩) ?_
  rotate_left 1
  · intro wq hSw; rw [hS.out] at hSw; (try dsimp only at hSw); go_simp; try with_reducible rfl
  try simp only [Act.put, List.setIfInBounds_toArray, List.set_cons_zero, List.set_cons_succ]
  refine SeqP.take (v := ?_) rfl (fun _ _ _ h => h) (Or.inl ⟨by rfl, ?_⟩) ?_
  rotate_left 1
  · intro wq hSw; rw [hS.out] at hSw; (try dsimp only at hSw); go_simp; try with_reducible rfl
  try simp only [Act.put, List.setIfInBounds_toArray, List.set_cons_zero, List.set_cons_succ]
  have HSx := HSq.out
  rw [hS.out] at HSx
  obtain ⟨zx0, zx1, zx2, zx3, zx4⟩ := HSx
  have fz0_1 := Rr.f (i := 0)
  have cz0_1 := Rr.c (i := 0) rfl
  have fz1_1 := Rr.f (i := 1)
  have cz1_1 := Rr.c (i := 1) rfl
  have fr0_4 := Rr.f (i := 0)
  have fr1_4 := Rr.f (i := 1)
  have Rr_4 := Rr.store2 (.bool (sg u)) (.slice X (nl (mg u)) cx)
  have Rs_4 : BoxA ((Vd.setCell ⟨w.heap.size, 0, none⟩ (.bool (sg u))).setCell ⟨w.heap.size, 1, none⟩ (.slice X (nl (mg u)) cx)) _ _ _ := Rs.other2 (by simp <;> omega)
  have hN_4 := Rr.keep2 (v0 := .bool (sg u)) (v1 := .slice X (nl (mg u)) cx) (nuB rfl) hN
  have hX_4 := Rr.keep2 (v0 := .bool (sg u)) (v1 := .slice X (nl (mg u)) cx) (nuB rfl) hX
  have hY_4 := Rr.keep2 (v0 := .bool (sg u)) (v1 := .slice X (nl (mg u)) cx) (nuB rfl) hY
  have HBT_4 := Below.store2 (v0 := .bool (sg u)) (v1 := .slice X (nl (mg u)) cx) HBT (k := w.heap.size) (by first | exact Nat.le_refl _ | omega)
  refine SeqP.call rfl (by rfl) (fun Kq hKq => ?_)
  go_simp
  replace HSq := Lib.hid (show S ((Vd.setCell ⟨w.heap.size, 0, none⟩ (.bool (sg u))).setCell ⟨w.heap.size, 1, none⟩ (.slice X (nl (mg u)) cx)) by rw [hS.out]; exact ⟨cell_other2 zx0 (net), cell_other2 zx1 (net), cell_other2 zx2 (net), cell_other2 zx3 (net), cell_other2 zx4 (net)⟩)
  refine hKq.out _ _ HSq.out (fun hSq => ?_)
  clear hSq hKq Kq
  clear zx0 zx1 zx2 zx3 zx4
  try simp only [Act.put, List.setIfInBounds_toArray, List.set_cons_zero, List.set_cons_succ]
  have HSx := HSq.out
  rw [hS.out] at HSx
  obtain ⟨zx0, zx1, zx2, zx3, zx4⟩ := HSx
  have fz0_2 := Rs_4.f (i := 0)
  have cz0_2 := Rs_4.c (i := 0) rfl
  have fz1_2 := Rs_4.f (i := 1)
  have cz1_2 := Rs_4.c (i := 1) rfl
  have fs0_5 := Rs_4.f (i := 0)
  have fs1_5 := Rs_4.f (i := 1)
  have Rr_5 : BoxA ((((Vd.setCell ⟨w.heap.size, 0, none⟩ (.bool (sg u))).setCell ⟨w.heap.size, 1, none⟩ (.slice X (nl (mg u)) cx)).setCell ⟨(w.heap.size + 1), 0, none⟩ (.bool (sg v))).setCell ⟨(w.heap.size + 1), 1, none⟩ (.slice Y (nl (mg v)) cy)) _ _ _ := Rr_4.other2 (by simp <;> omega)
  have Rs_5 := Rs_4.store2 (.bool (sg v)) (.slice Y (nl (mg v)) cy)
  have hN_5 := Rs_4.keep2 (v0 := .bool (sg v)) (v1 := .slice Y (nl (mg v)) cy) (nuB rfl) hN_4
  have hX_5 := Rs_4.keep2 (v0 := .bool (sg v)) (v1 := .slice Y (nl (mg v)) cy) (nuB rfl) hX_4
  have hY_5 := Rs_4.keep2 (v0 := .bool (sg v)) (v1 := .slice Y (nl (mg v)) cy) (nuB rfl) hY_4
  have HBT_5 := Below.store2 (v0 := .bool (sg v)) (v1 := .slice Y (nl (mg v)) cy) HBT_4 (k := (w.heap.size + 1)) (by first | exact Nat.le_refl _ | omega)
  refine SeqP.call rfl (by rfl) (fun Kq hKq => ?_)
  go_simp
  replace HSq := Lib.hid (show S ((((Vd.setCell ⟨w.heap.size, 0, none⟩ (.bool (sg u))).setCell ⟨w.heap.size, 1, none⟩ (.slice X (nl (mg u)) cx)).setCell ⟨(w.heap.size + 1), 0, none⟩ (.bool (sg v))).setCell ⟨(w.heap.size + 1), 1, none⟩ (.slice Y (nl (mg v)) cy)) by rw [hS.out]; exact ⟨cell_other2 zx0 (nes), cell_other2 zx1 (nes), cell_other2 zx2 (nes), cell_other2 zx3 (nes), cell_other2 zx4 (nes)⟩)
  refine hKq.out _ _ HSq.out (fun hSq => ?_)
  clear hSq hKq Kq
  clear zx0 zx1 zx2 zx3 zx4
  try simp only [Act.put, List.setIfInBounds_toArray, List.set_cons_zero, List.set_cons_succ]
  refine SeqP.done ?_
  clear hSb
  clear HSq
  go_wp2_with (fail)
  have e0 := Rr_5.c (i := 0) rfl
  have g0 := Rs_5.c (i := 0) rfl
  have e1 := Rr_5.c (i := 1) rfl
  have g1 := Rs_5.c (i := 1) rfl
  refine bodyPost_ret (v := .tuple #[.slice N (nl x) cn, .agg #[.bool (sg u), .slice X (nl (mg u)) cx], .agg #[.bool (sg v), .slice Y (nl (mg v)) cy]]) (by simp [results, Tryz.results35, go_sem, e0, e1, g0, g1]) rfl ?_
  rw [← RX.out, ← RU.out, ← RV.out]
  exact ⟨_, _, _, _, _, _, rfl, hN_5, hX_5, hY_5, HBT_5⟩
end Go.Proofs.YthcmoimlnhghcaaGreatDoor

/- The document's inverses modulo a natural. -/
set_option linter.unusedVariables false
set_option linter.unusedSimpArgs false
namespace Go.Proofs.YthcmoimlnhghcaaGreatDoor
open Go.RowKit Go.Shelf
attribute [local go_sem] max2_i min2_i max_two min_two

theorem rnl_gcd {a b L : Nat} (ha : nl a ≤ L) (hb : nl b ≤ L) : nl (Nat.gcd a b) ≤ L := by
  by_cases h : a = 0
  · subst h; rw [Nat.gcd_zero_left]; exact hb
  · exact Nat.le_trans (nl_mono (Nat.le_of_dvd (by omega) (Nat.gcd_dvd_left a b))) ha
theorem rinverseNot_c (aA : Option Addr) (ac a : Nat) (mA : Option Addr) (mc m : Nat) (w : World) (ha : NatV w aA ac a) (hm : NatV w mA mc m) (la : nl a ≤ 8192) (lm : nl m ≤ 8192) (h : m = 0 ∨ Nat.gcd a m ≠ 1) :
    Calls Tryz.prog 44 #[.slice aA (nl a) ac, .slice mA (nl m) mc] w (RetNone w) := by
  replace h := Lib.hid h
  go_enter Tryz.func44, Tryz.ntmps44
  go_wp2_with (fail)
  have CX := rext_c aA ac a mA mc m _ ha hm la lm
  obtain ⟨g, Eg⟩ : ∃ z : Nat, z = Nat.gcd a m := ⟨_, rfl⟩
  obtain ⟨u, Eu⟩ : ∃ z : Int, z = exu a m := ⟨_, rfl⟩
  obtain ⟨v, Ev⟩ : ∃ z : Int, z = exv a m := ⟨_, rfl⟩
  obtain ⟨lu, lv⟩ := ex_sz (L := 8192) la lm (by decide)
  rw [← Eg, ← Eu, ← Ev] at CX
  rw [← Eu] at lu
  rw [← Ev] at lv
  have Bg : nl g ≤ 8192 := by rw [Eg]; exact rnl_gcd la lm
  replace CX := Lib.hid CX
  replace Eg := Lib.hid Eg
  replace Eu := Lib.hid Eu
  replace Ev := Lib.hid Ev
  refine (Calls.mono CX.out ?_)
  rintro e W1 ⟨Xg, cg, Xu, cu, Xv, cv, rfl, hg, hu, hv, hb1⟩
  replace ha := ha.below hb1
  replace hm := hm.below hb1
  have HBT := hb1
  clear hb1 CX
  obtain ⟨hb2, Ru, Rv⟩ := bx2 W1 #[.bool (sg u), .slice Xu (nl (mg u)) cu] 24 #[.bool (sg v), .slice Xv (nl (mg v)) cv] 24
  replace ha := ha.below hb2
  replace hm := hm.below hb2
  replace hg := hg.below hb2
  replace hu := hu.below hb2
  replace hv := hv.below hb2
  replace HBT := Below.cons HBT hb2
  clear hb2
  have qu0 := Ru.c (i := 0) rfl
  have qu1 := Ru.c (i := 1) rfl
  have qv0 := Rv.c (i := 0) rfl
  have qv1 := Rv.c (i := 1) rfl
  clear ha
  clear hm
  clear hu
  clear hv
  clear qu0
  clear qu1
  clear qv0
  clear qv1
  clear Ru
  clear Rv
  by_cases hm0 : m = 0
  · skip
    have t1 : ((nl m : Int) == 0) = true := ieqT (by rw [hm0, nl_zero]; rfl)
    have t1' : (nl m == 0) = true := by rw [hm0, nl_zero]; rfl
    replace hm0 := Lib.hid hm0
    go_wp2_with (fail)
    refine bodyPost_ret (v := .tuple #[.slice none 0 0, .int .i64 4]) (by simp [results, Tryz.results44, go_sem]) rfl ⟨rfl, HBT⟩
  · skip
    have t1 : ((nl m : Int) == 0) = false := ieqF (by have := nl_pos.2 hm0; omega)
    have t1' : (nl m == 0) = false := by have := nl_pos.2 hm0; simp; omega
    have hg1 : g ≠ 1 := by rw [Eg.out]; exact h.out.resolve_left hm0
    replace hm0 := Lib.hid hm0
    replace hg1 := Lib.hid hg1
    have hb3 : Below (((W1.alloc (.cells #[.bool (sg u), .slice Xu (nl (mg u)) cu] 24)).alloc (.cells #[.bool (sg v), .slice Xv (nl (mg v)) cv] 24))).heap.size (((W1.alloc (.cells #[.bool (sg u), .slice Xu (nl (mg u)) cu] 24)).alloc (.cells #[.bool (sg v), .slice Xv (nl (mg v)) cv] 24))) ((((W1.alloc (.cells #[.bool (sg u), .slice Xu (nl (mg u)) cu] 24)).alloc (.cells #[.bool (sg v), .slice Xv (nl (mg v)) cv] 24))).alloc (.cells #[.int .u32 1] 65)) := (Below.refl _ _).alloc (Nat.le_refl _) _
    have ho := nlit (l := [1]) _ _ _ (heap_alloc_new (((W1.alloc (.cells #[.bool (sg u), .slice Xu (nl (mg u)) cu] 24)).alloc (.cells #[.bool (sg v), .slice Xv (nl (mg v)) cv] 24))) (.cells #[.int .u32 1] 65)) rfl (by decide) (by decide) (by decide)
    obtain ⟨o, Eo⟩ : ∃ zq : Nat, zq = val [1] := ⟨_, rfl⟩
    rw [← Eo] at ho
    simp only [alloc_sz] at ho
    have No : nl o = 1 := by rw [Eo]; exact nl_lit (by decide) (by decide)
    have Vo : o = 1 := by rw [Eo]; decide
    have Bo : nl o ≤ 1 := Nat.le_of_eq No
    replace No := Lib.hid No
    replace Eo := Lib.hid Eo
    replace Vo := Lib.hid Vo
    replace hg := hg.below hb3
    replace HBT := Below.cons HBT hb3
    clear hb3
    go_wp2_with (fail)
    have hgo : g ≠ o := by rw [Vo.out]; exact hg1.out
    replace hgo := Lib.hid hgo
    refine (Calls.mono (at_lenR No.out ((show Calls Tryz.prog 38 _ _ (fun e w' => e = .returned (.bool false) ∧ Below _ _ w') from by have hh := same1_c Xg cg g _ _ o _ hg ho (by omega) (by omega); rw [decide_eq_false hgo.out] at hh; exact hh))) ?_)
    rintro e W4 ⟨rfl, hb4⟩
    replace hg := hg.below hb4
    replace ho := ho.below hb4
    replace HBT := Below.cons HBT hb4
    clear hb4
    go_wp2_with (fail)
    refine bodyPost_ret (v := .tuple #[.slice none 0 0, .int .i64 4]) (by simp [results, Tryz.results44, go_sem]) rfl ⟨rfl, HBT⟩
theorem rinverse_c (aA : Option Addr) (ac a : Nat) (mA : Option Addr) (mc m : Nat) (w : World) (ha : NatV w aA ac a) (hm : NatV w mA mc m) (la : nl a ≤ 8192) (lm : nl m ≤ 8192) (h0 : 0 < m) (h1 : Nat.gcd a m = 1) :
    Calls Tryz.prog 44 #[.slice aA (nl a) ac, .slice mA (nl m) mc] w (RetNE w (inv a m)) := by
  have t1 : ((nl m : Int) == 0) = false := ieqF (by have := nl_pos.2 (show m ≠ 0 by omega); omega)
  have t1' : (nl m == 0) = false := by have := nl_pos.2 (show m ≠ 0 by omega); simp; omega
  replace h1 := Lib.hid h1
  go_enter Tryz.func44, Tryz.ntmps44
  go_wp2_with (fail)
  have CX := rext_c aA ac a mA mc m _ ha hm la lm
  obtain ⟨g, Eg⟩ : ∃ z : Nat, z = Nat.gcd a m := ⟨_, rfl⟩
  obtain ⟨u, Eu⟩ : ∃ z : Int, z = exu a m := ⟨_, rfl⟩
  obtain ⟨v, Ev⟩ : ∃ z : Int, z = exv a m := ⟨_, rfl⟩
  obtain ⟨lu, lv⟩ := ex_sz (L := 8192) la lm (by decide)
  rw [← Eg, ← Eu, ← Ev] at CX
  rw [← Eu] at lu
  rw [← Ev] at lv
  have Bg : nl g ≤ 8192 := by rw [Eg]; exact rnl_gcd la lm
  replace CX := Lib.hid CX
  replace Eg := Lib.hid Eg
  replace Eu := Lib.hid Eu
  replace Ev := Lib.hid Ev
  refine (Calls.mono CX.out ?_)
  rintro e W1 ⟨Xg, cg, Xu, cu, Xv, cv, rfl, hg, hu, hv, hb1⟩
  replace ha := ha.below hb1
  replace hm := hm.below hb1
  have HBT := hb1
  clear hb1 CX
  obtain ⟨hb2, Ru, Rv⟩ := bx2 W1 #[.bool (sg u), .slice Xu (nl (mg u)) cu] 24 #[.bool (sg v), .slice Xv (nl (mg v)) cv] 24
  replace ha := ha.below hb2
  replace hm := hm.below hb2
  replace hg := hg.below hb2
  replace hu := hu.below hb2
  replace hv := hv.below hb2
  replace HBT := Below.cons HBT hb2
  clear hb2
  have qu0 := Ru.c (i := 0) rfl
  have qu1 := Ru.c (i := 1) rfl
  have qv0 := Rv.c (i := 0) rfl
  have qv1 := Rv.c (i := 1) rfl
  have hg1 : g = 1 := by rw [Eg.out]; exact h1.out
  replace hg1 := Lib.hid hg1
  clear ha
  clear hv
  clear qv0
  clear qv1
  clear Rv
  obtain ⟨o0, Eo0⟩ : ∃ n, n = (((W1.alloc (.cells #[.bool (sg u), .slice Xu (nl (mg u)) cu] 24)).alloc (.cells #[.bool (sg v), .slice Xv (nl (mg v)) cv] 24))).heap.size := ⟨_, rfl⟩
  have hb3 : Below (((W1.alloc (.cells #[.bool (sg u), .slice Xu (nl (mg u)) cu] 24)).alloc (.cells #[.bool (sg v), .slice Xv (nl (mg v)) cv] 24))).heap.size (((W1.alloc (.cells #[.bool (sg u), .slice Xu (nl (mg u)) cu] 24)).alloc (.cells #[.bool (sg v), .slice Xv (nl (mg v)) cv] 24))) ((((W1.alloc (.cells #[.bool (sg u), .slice Xu (nl (mg u)) cu] 24)).alloc (.cells #[.bool (sg v), .slice Xv (nl (mg v)) cv] 24))).alloc (.cells #[.int .u32 1] 65)) := (Below.refl _ _).alloc (Nat.le_refl _) _
  have ho := nlit (l := [1]) _ _ _ (heap_alloc_new (((W1.alloc (.cells #[.bool (sg u), .slice Xu (nl (mg u)) cu] 24)).alloc (.cells #[.bool (sg v), .slice Xv (nl (mg v)) cv] 24))) (.cells #[.int .u32 1] 65)) rfl (by decide) (by decide) (by decide)
  obtain ⟨o, Eo⟩ : ∃ zq : Nat, zq = val [1] := ⟨_, rfl⟩
  rw [← Eo] at ho
  simp only [alloc_sz] at ho
  have No : nl o = 1 := by rw [Eo]; exact nl_lit (by decide) (by decide)
  have Vo : o = 1 := by rw [Eo]; decide
  have Bo : nl o ≤ 1 := Nat.le_of_eq No
  replace No := Lib.hid No
  replace Eo := Lib.hid Eo
  replace Vo := Lib.hid Vo
  replace hm := hm.below hb3
  replace hg := hg.below hb3
  replace hu := hu.below hb3
  replace Ru := Ru.below hb3
  replace qu0 := cbl hb3 qu0
  replace qu1 := cbl hb3 qu1
  replace HBT := Below.cons HBT hb3
  clear hb3
  go_wp2_with (fail)
  refine (Calls.mono (at_lenR No.out (same1_t Xg cg g _ _ o _ hg ho (by omega) (by omega) (by rw [Vo.out]; exact hg1.out))) ?_)
  rintro e W4 ⟨rfl, hb4⟩
  replace hm := hm.below hb4
  replace hg := hg.below hb4
  replace hu := hu.below hb4
  replace Ru := Ru.below hb4
  replace qu0 := cbl hb4 qu0
  replace qu1 := cbl hb4 qu1
  replace ho := ho.below hb4
  replace HBT := Below.cons HBT hb4
  clear hb4
  clear ho
  clear hg
  obtain ⟨n, En⟩ : ∃ z : Int, z = (m : Int) := ⟨_, rfl⟩
  have Vn : mg n = m := by rw [En]; exact mg_nat m
  have Nn : nl (mg n) ≤ 8192 := by rw [Vn]; exact lm
  have n0 : n ≠ 0 := by rw [En]; omega
  have Sn : sg n = false := by rw [En]; exact sg_f (Int.natCast_nonneg m)
  have CW := fun (W : World) (h : NatV W mA mc m) => rz_f mA mc m n W h (by omega) Vn Sn
  obtain ⟨q, Eq⟩ : ∃ z : Int, z = u / n := ⟨_, rfl⟩
  obtain ⟨r, Er⟩ : ∃ z : Int, z = u % n := ⟨_, rfl⟩
  have CD := fun (W : World) (A : Option Addr) (c : Nat) (h1 : NatV W Xu cu (mg u)) (h2 : NatV W A c (mg n)) => zdiv_c Xu cu u A c n W h1 h2 (by omega) (by omega) n0
  rw [← Eq, ← Er] at CD
  have hvr : inv a m = mg r := by unfold inv; rw [Er, Eu.out, En]
  replace En := Lib.hid En
  replace CW := Lib.hid CW
  replace Eq := Lib.hid Eq
  replace Er := Lib.hid Er
  replace CD := Lib.hid CD
  replace hvr := Lib.hid hvr
  replace n0 := Lib.hid n0
  replace Vn := Lib.hid Vn
  replace Sn := Lib.hid Sn
  go_wp2_with (fail)
  skip
  refine wp_region_inv (fun E a' w' => ∃ (u29 u30 u31 u32 u28 u33 u34 u35 u9 u10 u11 : Value),
    a' = { tmps := #[.slice aA (nl a) ac, .slice mA (nl m) mc, undef, undef, .slice none 0 0, .int .i64 0, .slice Xg (nl g) cg, .pointer (some ⟨W1.heap.size, 0, none⟩), .pointer (some ⟨(W1.heap.size + 1), 0, none⟩), u9, u10, u11, .tuple #[.slice Xg (nl g) cg, .agg #[.bool (sg u), .slice Xu (nl (mg u)) cu], .agg #[.bool (sg v), .slice Xv (nl (mg v)) cv]], .slice aA (nl a) ac, .slice mA (nl m) mc, .tuple #[.slice Xg (nl g) cg, .agg #[.bool (sg u), .slice Xu (nl (mg u)) cu], .agg #[.bool (sg v), .slice Xv (nl (mg v)) cv]], .slice Xg (nl g) cg, .agg #[.bool (sg u), .slice Xu (nl (mg u)) cu], .agg #[.bool (sg v), .slice Xv (nl (mg v)) cv], .slice mA (nl m) mc, .int .i64 (nl m : Nat), .bool false, .bool false, .slice Xg (nl g) cg, .slice (some ⟨W1.heap.size + 1 + 1, 0, none⟩) 1 1, .bool true, .bool false, .bool false, u28, u29, u30, u31, u32, u33, u34, u35, undef, undef], defers := [] } ∧
    (E 0 = true → u29 = .agg #[.bool (sg u), .slice Xu (nl (mg u)) cu]) ∧
    (E 1 = true → u30 = .slice mA (nl m) mc) ∧
    (E 2 = true → PI u31 n w') ∧
    (E 3 = true → PII u32 q r w') ∧
    (E 4 = true → PII u28 q r w') ∧
    (E 5 = true → PI u33 q w') ∧
    (E 6 = true → PI u34 r w') ∧
    (E 7 = true → u35 = .int .i64 0) ∧
    (E 8 = true → PB2 24 W4.heap.size u9 w') ∧
    (E 9 = true → PB2 24 W4.heap.size u10 w') ∧
    (E 10 = true → PBI W4.heap.size u9 q w') ∧
    (E 11 = true → PBI W4.heap.size u10 r w') ∧
    (E 12 = true → u11 = .int .i64 0) ∧
    (E 10 = true → E 8 = true) ∧
    (E 11 = true → E 9 = true) ∧
    (E 8 = true → E 9 = true → u9 ≠ u10) ∧
    Below W4.heap.size W4 w') (by kernel_rfl) (by kernel_rfl) ?init ?fin ?step
  case init => exact ⟨_, _, _, _, _, _, _, _, _, _, _, rfl, by simp, by simp, by simp, by simp, by simp, by simp, by simp, by simp, by simp, by simp, by simp, by simp, by simp, by simp, by simp, by simp, (Below.refl _ _).drew⟩
  case step =>
    rintro E a' w' i ⟨u29, u30, u31, u32, u28, u33, u34, u35, u9, u10, u11, rfl, h0, h1, h2, h3, h4, h5, h6, h7, h8, h9, h10, h11, h12, hD10, hD11, hN8_9, hB⟩ hi hEi hdep
    have qu0 := cbl hB qu0
    have qu1 := cbl hB qu1
    obtain rfl | rfl | rfl | rfl | rfl | rfl | rfl | rfl | rfl | rfl | rfl | rfl | rfl : i = 0 ∨ i = 1 ∨ i = 2 ∨ i = 3 ∨ i = 4 ∨ i = 5 ∨ i = 6 ∨ i = 7 ∨ i = 8 ∨ i = 9 ∨ i = 10 ∨ i = 11 ∨ i = 12 := by simp at hi; omega
    · skip
      refine wpOp_step rfl (fun K' hK' => ?_)
      go_simp
      refine hK' _ _ ?_
      exact ⟨_, _, _, _, _, _, _, _, _, _, _, rfl, fun _ => rfl, keepD (by decide) h1, keepD (by decide) h2, keepD (by decide) h3, keepD (by decide) h4, keepD (by decide) h5, keepD (by decide) h6, keepD (by decide) h7, keepD (by decide) h8, keepD (by decide) h9, keepD (by decide) h10, keepD (by decide) h11, keepD (by decide) h12, (fun h => by have := hD10 (by simpa using h); simpa using this), (fun h => by have := hD11 (by simpa using h); simpa using this), (fun h k => hN8_9 (by simpa using h) (by simpa using k)), hB⟩
    · skip
      refine wpOp_step rfl (fun K' hK' => ?_)
      go_simp
      refine hK' _ _ ?_
      exact ⟨_, _, _, _, _, _, _, _, _, _, _, rfl, keepD (by decide) h0, fun _ => rfl, keepD (by decide) h2, keepD (by decide) h3, keepD (by decide) h4, keepD (by decide) h5, keepD (by decide) h6, keepD (by decide) h7, keepD (by decide) h8, keepD (by decide) h9, keepD (by decide) h10, keepD (by decide) h11, keepD (by decide) h12, (fun h => by have := hD10 (by simpa using h); simpa using this), (fun h => by have := hD11 (by simpa using h); simpa using this), (fun h k => hN8_9 (by simpa using h) (by simpa using k)), hB⟩
    · skip
      have d1 := hdep _ rfl ⟨1, .data⟩ (by simp) rfl
      obtain rfl := h1 d1
      refine wpOp_step rfl (fun K' hK' => ?_)
      go_simp
      refine (Calls.mono (CW.out w' (hm.below hB)) ?_)
      rintro e W1 ⟨Xr, cr, rfl, kr, kb⟩
      refine hK' _ _ ?_
      exact ⟨_, _, _, _, _, _, _, _, _, _, _, rfl, keepD (by decide) h0, keepD (by decide) h1, fun _ => ⟨Xr, cr, rfl, kr⟩, keepP (by decide) h3 (fun h => h.below kb), keepP (by decide) h4 (fun h => h.below kb), keepP (by decide) h5 (fun h => h.below kb), keepP (by decide) h6 (fun h => h.below kb), keepD (by decide) h7, keepP (by decide) h8 (fun h => h.below kb), keepP (by decide) h9 (fun h => h.below kb), keepP (by decide) h10 (fun h => h.below kb), keepP (by decide) h11 (fun h => h.below kb), keepD (by decide) h12, (fun h => by have := hD10 (by simpa using h); simpa using this), (fun h => by have := hD11 (by simpa using h); simpa using this), (fun h k => hN8_9 (by simpa using h) (by simpa using k)), Below.cons hB kb⟩
    · skip
      have d0 := hdep _ rfl ⟨0, .data⟩ (by simp) rfl
      obtain rfl := h0 d0
      have d2 := hdep _ rfl ⟨2, .data⟩ (by simp) rfl
      obtain ⟨X_2, c_2, rfl, k_2⟩ := h2 d2
      refine wpOp_step rfl (fun K' hK' => ?_)
      go_simp
      refine (Calls.mono (CD.out w' _ _ (hu.below hB) k_2) ?_)
      rintro e W1 ⟨Xr, cr, Yr, dr, rfl, kr, lr, kb⟩
      refine hK' _ _ ?_
      exact ⟨_, _, _, _, _, _, _, _, _, _, _, rfl, keepD (by decide) h0, keepD (by decide) h1, keepP (by decide) h2 (fun h => h.below kb), fun _ => ⟨Xr, cr, Yr, dr, rfl, kr, lr⟩, keepP (by decide) h4 (fun h => h.below kb), keepP (by decide) h5 (fun h => h.below kb), keepP (by decide) h6 (fun h => h.below kb), keepD (by decide) h7, keepP (by decide) h8 (fun h => h.below kb), keepP (by decide) h9 (fun h => h.below kb), keepP (by decide) h10 (fun h => h.below kb), keepP (by decide) h11 (fun h => h.below kb), keepD (by decide) h12, (fun h => by have := hD10 (by simpa using h); simpa using this), (fun h => by have := hD11 (by simpa using h); simpa using this), (fun h k => hN8_9 (by simpa using h) (by simpa using k)), Below.cons hB kb⟩
    · skip
      have d3 := hdep _ rfl ⟨3, .data⟩ (by simp) rfl
      obtain ⟨X_3, c_3, Y_3, d_3, rfl, k_3, l_3⟩ := h3 d3
      refine wpOp_step rfl (fun K' hK' => ?_)
      go_simp
      refine hK' _ _ ?_
      exact ⟨_, _, _, _, _, _, _, _, _, _, _, rfl, keepD (by decide) h0, keepD (by decide) h1, keepD (by decide) h2, keepD (by decide) h3, fun _ => ⟨X_3, c_3, Y_3, d_3, rfl, k_3, l_3⟩, keepD (by decide) h5, keepD (by decide) h6, keepD (by decide) h7, keepD (by decide) h8, keepD (by decide) h9, keepD (by decide) h10, keepD (by decide) h11, keepD (by decide) h12, (fun h => by have := hD10 (by simpa using h); simpa using this), (fun h => by have := hD11 (by simpa using h); simpa using this), (fun h k => hN8_9 (by simpa using h) (by simpa using k)), hB⟩
    · skip
      have d4 := hdep _ rfl ⟨4, .data⟩ (by simp) rfl
      obtain ⟨X_4, c_4, Y_4, d_4, rfl, k_4, l_4⟩ := h4 d4
      refine wpOp_step rfl (fun K' hK' => ?_)
      go_simp
      refine hK' _ _ ?_
      exact ⟨_, _, _, _, _, _, _, _, _, _, _, rfl, keepD (by decide) h0, keepD (by decide) h1, keepD (by decide) h2, keepD (by decide) h3, keepD (by decide) h4, fun _ => ⟨X_4, c_4, rfl, k_4⟩, keepD (by decide) h6, keepD (by decide) h7, keepD (by decide) h8, keepD (by decide) h9, keepD (by decide) h10, keepD (by decide) h11, keepD (by decide) h12, (fun h => by have := hD10 (by simpa using h); simpa using this), (fun h => by have := hD11 (by simpa using h); simpa using this), (fun h k => hN8_9 (by simpa using h) (by simpa using k)), hB⟩
    · skip
      have d4 := hdep _ rfl ⟨4, .data⟩ (by simp) rfl
      obtain ⟨X_4, c_4, Y_4, d_4, rfl, k_4, l_4⟩ := h4 d4
      refine wpOp_step rfl (fun K' hK' => ?_)
      go_simp
      refine hK' _ _ ?_
      exact ⟨_, _, _, _, _, _, _, _, _, _, _, rfl, keepD (by decide) h0, keepD (by decide) h1, keepD (by decide) h2, keepD (by decide) h3, keepD (by decide) h4, keepD (by decide) h5, fun _ => ⟨Y_4, d_4, rfl, l_4⟩, keepD (by decide) h7, keepD (by decide) h8, keepD (by decide) h9, keepD (by decide) h10, keepD (by decide) h11, keepD (by decide) h12, (fun h => by have := hD10 (by simpa using h); simpa using this), (fun h => by have := hD11 (by simpa using h); simpa using this), (fun h k => hN8_9 (by simpa using h) (by simpa using k)), hB⟩
    · skip
      have d4 := hdep _ rfl ⟨4, .data⟩ (by simp) rfl
      obtain ⟨X_4, c_4, Y_4, d_4, rfl, k_4, l_4⟩ := h4 d4
      refine wpOp_step rfl (fun K' hK' => ?_)
      go_simp
      refine hK' _ _ ?_
      exact ⟨_, _, _, _, _, _, _, _, _, _, _, rfl, keepD (by decide) h0, keepD (by decide) h1, keepD (by decide) h2, keepD (by decide) h3, keepD (by decide) h4, keepD (by decide) h5, keepD (by decide) h6, fun _ => rfl, keepD (by decide) h8, keepD (by decide) h9, keepD (by decide) h10, keepD (by decide) h11, keepD (by decide) h12, (fun h => by have := hD10 (by simpa using h); simpa using this), (fun h => by have := hD11 (by simpa using h); simpa using this), (fun h k => hN8_9 (by simpa using h) (by simpa using k)), hB⟩
    · skip
      have kb : Below w'.heap.size w' (w'.alloc (.cells #[.bool false, .slice none 0 0] 24)) := (Below.refl _ _).alloc (Nat.le_refl _) _
      refine wpOp_step rfl (fun K' hK' => ?_)
      go_simp
      refine hK' _ _ ?_
      exact ⟨_, _, _, _, _, _, _, _, _, _, _, rfl, keepD (by decide) h0, keepD (by decide) h1, keepP (by decide) h2 (fun h => h.below kb), keepP (by decide) h3 (fun h => h.below kb), keepP (by decide) h4 (fun h => h.below kb), keepP (by decide) h5 (fun h => h.below kb), keepP (by decide) h6 (fun h => h.below kb), keepD (by decide) h7, fun _ => ⟨_, _, _, rfl, hB.size, ⟨at_new rfl⟩, notU_bool _, notU_slice _ _ _⟩, keepP (by decide) h9 (fun h => h.below kb), (fun h => by have h2 := hD10 (by simpa using h); rw [hEi] at h2; cases h2), keepP (by decide) h11 (fun h => h.below kb), keepD (by decide) h12, (fun _ => by simp), (fun h => by have := hD11 (by simpa using h); simpa using this), (fun _ h => by obtain ⟨n2, e2, l2⟩ := (h9 (by simpa using h)).lt; rw [e2]; intro e3; simp at e3 <;> omega), Below.cons hB kb⟩
    · skip
      have kb : Below w'.heap.size w' (w'.alloc (.cells #[.bool false, .slice none 0 0] 24)) := (Below.refl _ _).alloc (Nat.le_refl _) _
      refine wpOp_step rfl (fun K' hK' => ?_)
      go_simp
      refine hK' _ _ ?_
      exact ⟨_, _, _, _, _, _, _, _, _, _, _, rfl, keepD (by decide) h0, keepD (by decide) h1, keepP (by decide) h2 (fun h => h.below kb), keepP (by decide) h3 (fun h => h.below kb), keepP (by decide) h4 (fun h => h.below kb), keepP (by decide) h5 (fun h => h.below kb), keepP (by decide) h6 (fun h => h.below kb), keepD (by decide) h7, keepP (by decide) h8 (fun h => h.below kb), fun _ => ⟨_, _, _, rfl, hB.size, ⟨at_new rfl⟩, notU_bool _, notU_slice _ _ _⟩, keepP (by decide) h10 (fun h => h.below kb), (fun h => by have h2 := hD11 (by simpa using h); rw [hEi] at h2; cases h2), keepD (by decide) h12, (fun h => by have := hD10 (by simpa using h); simpa using this), (fun _ => by simp), (fun h _ => by obtain ⟨n2, e2, l2⟩ := (h8 (by simpa using h)).lt; rw [e2]; intro e3; simp at e3 <;> omega), Below.cons hB kb⟩
    · skip
      have d8 := hdep _ rfl ⟨8, .data⟩ (by simp) rfl
      obtain ⟨nb, z0, z1, rfl, hn, hb, nz0, nz1⟩ := h8 d8
      have d5 := hdep _ rfl ⟨5, .data⟩ (by simp) rfl
      obtain ⟨X_5, c_5, rfl, k_5⟩ := h5 d5
      have fz0 := hb.f (i := 0)
      have cz0 := hb.c (i := 0) rfl
      have fz1 := hb.f (i := 1)
      have cz1 := hb.c (i := 1) rfl
      have hp := hb.put2 (notU2 nz0 nz1) (.bool (sg q)) (.slice X_5 (nl (mg q)) c_5)
      have hs := hb.store2 (.bool (sg q)) (.slice X_5 (nl (mg q)) c_5)
      refine wpOp_step rfl (fun K' hK' => ?_)
      go_simp
      refine hK' _ _ ?_
      exact ⟨_, _, _, _, _, _, _, _, _, _, _, rfl, keepD (by decide) h0, keepD (by decide) h1, keepP (by decide) h2 (fun h => h.put hp), keepP (by decide) h3 (fun h => h.put hp), keepP (by decide) h4 (fun h => h.put hp), keepP (by decide) h5 (fun h => h.put hp), keepP (by decide) h6 (fun h => h.put hp), keepD (by decide) h7, (fun _ => ⟨nb, _, _, rfl, hn, hs, notU_bool _, notU_slice _ _ _⟩), keepP' (by decide) h9 (fun e h => h.put hp (fun e3 => hN8_9 d8 (by simpa using e) e3.symm)), fun _ => ⟨nb, X_5, c_5, rfl, hn, hs, hp.nat k_5⟩, keepP' (by decide) h11 (fun e h => h.put hp (fun e3 => hN8_9 d8 (hD11 (by simpa using e)) e3.symm)), keepD (by decide) h12, (fun _ => by simp [d8]), (fun h => by have := hD11 (by simpa using h); simpa using this), (fun h k => hN8_9 (by simpa using h) (by simpa using k)), Below.store2 hB hn⟩
    · skip
      have d9 := hdep _ rfl ⟨9, .data⟩ (by simp) rfl
      obtain ⟨nb, z0, z1, rfl, hn, hb, nz0, nz1⟩ := h9 d9
      have d6 := hdep _ rfl ⟨6, .data⟩ (by simp) rfl
      obtain ⟨X_6, c_6, rfl, k_6⟩ := h6 d6
      have fz0 := hb.f (i := 0)
      have cz0 := hb.c (i := 0) rfl
      have fz1 := hb.f (i := 1)
      have cz1 := hb.c (i := 1) rfl
      have hp := hb.put2 (notU2 nz0 nz1) (.bool (sg r)) (.slice X_6 (nl (mg r)) c_6)
      have hs := hb.store2 (.bool (sg r)) (.slice X_6 (nl (mg r)) c_6)
      refine wpOp_step rfl (fun K' hK' => ?_)
      go_simp
      refine hK' _ _ ?_
      exact ⟨_, _, _, _, _, _, _, _, _, _, _, rfl, keepD (by decide) h0, keepD (by decide) h1, keepP (by decide) h2 (fun h => h.put hp), keepP (by decide) h3 (fun h => h.put hp), keepP (by decide) h4 (fun h => h.put hp), keepP (by decide) h5 (fun h => h.put hp), keepP (by decide) h6 (fun h => h.put hp), keepD (by decide) h7, keepP' (by decide) h8 (fun e h => h.put hp (hN8_9 (by simpa using e) d9)), (fun _ => ⟨nb, _, _, rfl, hn, hs, notU_bool _, notU_slice _ _ _⟩), keepP' (by decide) h10 (fun e h => h.put hp (hN8_9 (hD10 (by simpa using e)) d9)), fun _ => ⟨nb, X_6, c_6, rfl, hn, hs, hp.nat k_6⟩, keepD (by decide) h12, (fun h => by have := hD10 (by simpa using h); simpa using this), (fun _ => by simp [d9]), (fun h k => hN8_9 (by simpa using h) (by simpa using k)), Below.store2 hB hn⟩
    · skip
      have d7 := hdep _ rfl ⟨7, .data⟩ (by simp) rfl
      obtain rfl := h7 d7
      refine wpOp_step rfl (fun K' hK' => ?_)
      go_simp
      refine hK' _ _ ?_
      exact ⟨_, _, _, _, _, _, _, _, _, _, _, rfl, keepD (by decide) h0, keepD (by decide) h1, keepD (by decide) h2, keepD (by decide) h3, keepD (by decide) h4, keepD (by decide) h5, keepD (by decide) h6, keepD (by decide) h7, keepD (by decide) h8, keepD (by decide) h9, keepD (by decide) h10, keepD (by decide) h11, fun _ => rfl, (fun h => by have := hD10 (by simpa using h); simpa using this), (fun h => by have := hD11 (by simpa using h); simpa using this), (fun h k => hN8_9 (by simpa using h) (by simpa using k)), hB⟩
  case fin =>
    rintro E a' w' ⟨u29, u30, u31, u32, u28, u33, u34, u35, u9, u10, u11, rfl, h0, h1, h2, h3, h4, h5, h6, h7, h8, h9, h10, h11, h12, hD10, hD11, hN8_9, hB⟩ hall
    obtain ⟨nbr, Xr, cr, rfl, hnr, Rr, hr⟩ := h11 (hall 11 (by simp))
    replace hm := hm.below hB
    replace hu := hu.below hB
    replace Ru := Ru.below hB
    replace qu0 := cbl hB qu0
    replace qu1 := cbl hB qu1
    replace HBT := Below.cons HBT hB
    have kvr := hnr
    have qr0 := Rr.c (i := 0) rfl
    have qr1 := Rr.c (i := 1) rfl
    clear hall
    generalize hV1 : w' = V1 at *
    clear hV1
    go_wp2_with (fail)
    refine bodyPost_ret (v := .tuple #[.slice Xr (nl (mg r)) cr, .int .i64 0]) (by simp [results, Tryz.results44, go_sem]) rfl ?_
    rw [hvr.out]
    exact ⟨Xr, cr, rfl, hr, HBT⟩
end Go.Proofs.YthcmoimlnhghcaaGreatDoor
