/- Balls, walked: Of. -/
import Derived.Test.YtopigejgadnkaaaGreatDoorV04
import Derived.Test.YtopigejgadnkaaaGreatDoorV05
import Derived.Test.YtopigejgadnkaaaGreatDoorV03
import Derived.Test.YtopigejgadnkaaaGreatDoorV01
set_option maxRecDepth 100000
set_option maxHeartbeats 4000000
set_option linter.unusedVariables false
set_option linter.unusedSimpArgs false
namespace Go.Proofs.YtopigejgadnkaaaGreatDoor
open Go.RowKit Go.Shelf
attribute [local go_sem] max2_i min2_i max_two min_two

theorem ballof_c (qA : Option Addr) (qc : Nat) (qB : Option Addr) (qd : Nat) (q : Rat) (n : Int) (m r : Rat) (w : World) (hq : NatV w qA qc (mg q.num)) (gq : NatV w qB qd q.den) (hT : Tab w) (hG : Flds w) (Em : m = dval (rnd 4 (q * (2 : Rat) ^ n)) (-n)) (Er : r = dval (rnd 1 (dabs (q - m) * (2 : Rat) ^ n)) (-n)) (ln : -1000000 ≤ n ∧ n ≤ 1000000) (om : DOk m) (lq : nl (mg q.num) ≤ 7) (ld : nl q.den ≤ 7) (lm : nl (mg m.num) ≤ 8192) (mm : nl m.den ≤ 8192) (lx : nl (mg (q - m).num) ≤ 100000) (mx : nl (q - m).den ≤ 100000) :
    Calls Tryz.prog 13 #[.agg #[.bool (sg q.num), .slice qA (nl (mg q.num)) qc, .slice qB (nl q.den) qd], .int .i64 n] w (RetB w m r) := by
  have hT00 := hT
  have hG00 := hG
  obtain ⟨x, Ex⟩ : ∃ zq : Rat, zq = q - m := ⟨_, rfl⟩
  obtain ⟨y, Ey⟩ : ∃ zq : Rat, zq = dabs x := ⟨_, rfl⟩
  rw [← Ex] at Er lx mx
  rw [← Ey] at Er
  have ly : nl (mg y.num) ≤ 100000 ∧ nl y.den ≤ 100000 := by rw [Ey]; unfold dabs; split; (rw [Rat.neg_num, Rat.neg_den, mg_neg]; exact ⟨lx, mx⟩); exact ⟨lx, mx⟩
  have Cm := fun (W : World) (A : Option Addr) (k : Nat) (B : Option Addr) (j : Nat) (h1 : NatV W A k (mg q.num)) (h2 : NatV W B j q.den) (hT : Tab W) => cut_in A k B j q n 4 W h1 h2 hT (by omega) (by omega) (by decide) (by decide) ln
  rw [← Em] at Cm
  replace Cm := Lib.hid Cm
  have Cr := fun (W : World) (A : Option Addr) (k : Nat) (B : Option Addr) (j : Nat) (h1 : NatV W A k (mg y.num)) (h2 : NatV W B j y.den) (hT : Tab W) => cut_in A k B j y n 1 W h1 h2 hT ly.1 ly.2 (by decide) (by decide) ln
  rw [← Er] at Cr
  replace Cr := Lib.hid Cr
  have CD := fun (W : World) (A : Option Addr) (k : Nat) (h1 : NatV W A k (mg (dmn m))) => drat_c A k m W h1 om
  replace CD := Lib.hid CD
  have CX := fun (W : World) (A : Option Addr) (k : Nat) (B : Option Addr) (j : Nat) (h1 : NatV W A k (mg m.num)) (h2 : NatV W B j m.den) (h3 : NatV W qA qc (mg q.num)) (h4 : NatV W qB qd q.den) (hG : Flds W) => vsub_c qA qc qB qd q A k B j m W h3 h4 h1 h2 hG (by omega) (by omega) lm mm
  rw [← Ex] at CX
  replace CX := Lib.hid CX
  have CS := fun (W : World) (A : Option Addr) (k : Nat) (B : Option Addr) (j : Nat) (h1 : NatV W A k (mg x.num)) (h2 : NatV W B j x.den) => vsign_c A k B j x W h1 h2 (by omega)
  replace CS := Lib.hid CS
  have CN := fun (W : World) (A : Option Addr) (k : Nat) (B : Option Addr) (j : Nat) (h1 : NatV W A k (mg x.num)) (h2 : NatV W B j x.den) => vneg_c A k B j x W h1 h2 (by omega)
  replace CN := Lib.hid CN
  replace Em := Lib.hid Em
  replace Er := Lib.hid Er
  replace Ex := Lib.hid Ex
  replace Ey := Lib.hid Ey
  clear ly lx mx om lq ld lm mm ln
  obtain ⟨hb1, Rq, Rr⟩ := bx2 w #[.bool (sg q.num), .slice qA (nl (mg q.num)) qc, .slice qB (nl q.den) qd] 26 #[.bool false, .slice none 0 0, .int .i64 0, .bool false, .slice none 0 0, .int .i64 0] 40
  replace hq := hq.below hb1
  replace gq := gq.below hb1
  replace hT := hT.below hb1
  replace hG := hG.below hb1
  have HBT := hb1
  clear hb1
  have qq0 := Rq.c (i := 0) rfl
  have qq1 := Rq.c (i := 1) rfl
  have qq2 := Rq.c (i := 2) rfl
  have qr0 := Rr.c (i := 0) rfl
  have qr1 := Rr.c (i := 1) rfl
  have qr2 := Rr.c (i := 2) rfl
  have qr3 := Rr.c (i := 3) rfl
  have qr4 := Rr.c (i := 4) rfl
  have qr5 := Rr.c (i := 5) rfl
  go_enter Tryz.func13, Tryz.ntmps13
  go_wp2_with (fail)
  refine (Calls.mono (Cm.out _ qA qc qB qd  hq gq hT) ?_)
  rintro e W2 ⟨Xm, cm, rfl, hm, hb2⟩
  replace hq := hq.below hb2
  replace gq := gq.below hb2
  replace hT := hT.below hb2
  replace hG := hG.below hb2
  replace Rq := Rq.below hb2
  replace qq0 := cbl hb2 qq0
  replace qq1 := cbl hb2 qq1
  replace qq2 := cbl hb2 qq2
  replace Rr := Rr.below hb2
  replace qr0 := cbl hb2 qr0
  replace qr1 := cbl hb2 qr1
  replace qr2 := cbl hb2 qr2
  replace qr3 := cbl hb2 qr3
  replace qr4 := cbl hb2 qr4
  replace qr5 := cbl hb2 qr5
  replace HBT := Below.cons HBT hb2
  clear hb2
  have hlt2 := Lib.hid Rr.lt
  obtain ⟨hb3, Rvm⟩ := bx1 W2 #[.bool (sg (dmn m)), .slice Xm (nl (mg (dmn m))) cm, .int .i64 (dex m)] 33
  replace hq := hq.below hb3
  replace gq := gq.below hb3
  replace hT := hT.below hb3
  replace hG := hG.below hb3
  replace Rq := Rq.below hb3
  replace qq0 := cbl hb3 qq0
  replace qq1 := cbl hb3 qq1
  replace qq2 := cbl hb3 qq2
  replace Rr := Rr.below hb3
  replace qr0 := cbl hb3 qr0
  replace qr1 := cbl hb3 qr1
  replace qr2 := cbl hb3 qr2
  replace qr3 := cbl hb3 qr3
  replace qr4 := cbl hb3 qr4
  replace qr5 := cbl hb3 qr5
  replace hm := hm.below hb3
  replace HBT := Below.cons HBT hb3
  clear hb3
  have qvm0 := Rvm.c (i := 0) rfl
  have qvm1 := Rvm.c (i := 1) rfl
  have qvm2 := Rvm.c (i := 2) rfl
  go_wp2_with (fail)
  generalize hW0 : (W2.alloc (.cells #[.bool (sg (dmn m)), .slice Xm (nl (mg (dmn m))) cm, .int .i64 (dex m)] 33)) = W0 at *
  replace hW0 := Lib.hid hW0
  refine wp_region_fin 5 1 [.val (.agg #[.bool (sg q.num), .slice qA (nl (mg q.num)) qc, .slice qB (nl q.den) qd]), .val (.agg #[.bool (sg (dmn m)), .slice Xm (nl (mg (dmn m))) cm, .int .i64 (dex m)]), .rat m, .rat x, .box 26 W0.heap.size #[.bool false, .slice none 0 0, .slice none 0 0]] (by kernel_rfl) (by kernel_rfl) (by kernel_rfl) (by kernel_rfl) (by kernel_rfl) rfl ?_ ?_
  · skip
    refine ⟨?_, ?_⟩
    · intro Ew aw wc st hdep
      have t2 : aw.tmps[2]? = some (.pointer (some ⟨w.heap.size, 0, none⟩)) := (st.old 2 (by kernel_rfl)).trans (by rfl)
      have qq0 := cbl st.b qq0
      have qq1 := cbl st.b qq1
      have qq2 := cbl st.b qq2
      have e2 := tmp_of t2
      refine op_want rfl (by rfl) (fun K' hK' => ?_)
      go_simp
      exact hK'.out _ _ ⟨_, rfl, rfl, Below.refl _ _⟩
    refine ⟨?_, ?_⟩
    · intro Ew aw wc st hdep
      have t5 : aw.tmps[5]? = some (.pointer (some ⟨W2.heap.size, 0, none⟩)) := (st.old 5 (by kernel_rfl)).trans (by rfl)
      have qvm0 := cbl st.b qvm0
      have qvm1 := cbl st.b qvm1
      have qvm2 := cbl st.b qvm2
      have e5 := tmp_of t5
      refine op_want rfl (by rfl) (fun K' hK' => ?_)
      go_simp
      exact hK'.out _ _ ⟨_, rfl, rfl, Below.refl _ _⟩
    refine ⟨?_, ?_⟩
    · intro Ew aw wc st hdep
      obtain ⟨v17, t17, r17⟩ := st.nw hdep 1 17
      obtain rfl : v17 = .agg #[.bool (sg (dmn m)), .slice Xm (nl (mg (dmn m))) cm, .int .i64 (dex m)] := r17
      have e17 := tmp_of t17
      refine op_want rfl (by rfl) (fun K' hK' => ?_)
      go_simp
      refine (Calls.mono (R := RetR wc m) (CD.out wc _ _ (hm.below st.b)) ?_)
      rintro e W ⟨X, c, Y, d, rfl, hX, hY, kb⟩
      exact hK'.out _ _ ⟨_, rfl, ⟨X, c, Y, d, rfl, hX, hY⟩, kb⟩
    refine ⟨?_, ?_⟩
    · intro Ew aw wc st hdep
      obtain ⟨v16, t16, r16⟩ := st.nw hdep 0 16
      obtain rfl : v16 = .agg #[.bool (sg q.num), .slice qA (nl (mg q.num)) qc, .slice qB (nl q.den) qd] := r16
      obtain ⟨v18, t18, r18⟩ := st.nw hdep 2 18
      obtain ⟨X18, c18, Y18, d18, rfl, h18, g18⟩ := r18
      have e16 := tmp_of t16
      have e18 := tmp_of t18
      refine op_want rfl (by rfl) (fun K' hK' => ?_)
      go_simp
      refine (Calls.mono (R := RetR wc x) (CX.out wc _ _ _ _ h18 g18 (hq.below st.b) (gq.below st.b) (hG.below st.b)) ?_)
      rintro e W ⟨X, c, Y, d, rfl, hX, hY, kb⟩
      exact hK'.out _ _ ⟨_, rfl, ⟨X, c, Y, d, rfl, hX, hY⟩, kb⟩
    refine ⟨?_, ?_⟩
    · intro Ew aw wc st hdep
      refine op_want rfl (by rfl) (fun K' hK' => ?_)
      go_simp
      exact hK'.out _ _ ⟨_, rfl, ⟨_, rfl, st.b.size, ⟨at_new rfl⟩⟩, (Below.refl _ _).alloc (Nat.le_refl _) _⟩
    exact trivial
  intro vs wc hr hB
  obtain ⟨u16, r_16, rfl, k16, hr_16⟩ := hr.un
  obtain rfl : u16 = .agg #[.bool (sg q.num), .slice qA (nl (mg q.num)) qc, .slice qB (nl q.den) qd] := k16
  obtain ⟨u17, r_17, rfl, k17, hr_17⟩ := hr_16.un
  obtain rfl : u17 = .agg #[.bool (sg (dmn m)), .slice Xm (nl (mg (dmn m))) cm, .int .i64 (dex m)] := k17
  obtain ⟨u18, r_18, rfl, k18, hr_18⟩ := hr_17.un
  obtain ⟨X18, c18, Y18, d18, rfl, h18, g18⟩ := k18
  obtain ⟨u19, r_19, rfl, k19, hr_19⟩ := hr_18.un
  obtain ⟨X19, c19, Y19, d19, rfl, h19, g19⟩ := k19
  obtain ⟨u7, r_7, rfl, k7, hr_7⟩ := hr_19.un
  obtain ⟨nb7, rfl, hn7, h7⟩ := k7
  obtain rfl := hr_7.nil
  clear hr hr_16 hr_17 hr_18 hr_19 hr_7
  replace hq := hq.below hB
  replace gq := gq.below hB
  replace hT := hT.below hB
  replace hG := hG.below hB
  replace Rq := Rq.below hB
  replace qq0 := cbl hB qq0
  replace qq1 := cbl hB qq1
  replace qq2 := cbl hB qq2
  replace Rr := Rr.below hB
  replace qr0 := cbl hB qr0
  replace qr1 := cbl hB qr1
  replace qr2 := cbl hB qr2
  replace qr3 := cbl hB qr3
  replace qr4 := cbl hB qr4
  replace qr5 := cbl hB qr5
  replace hm := hm.below hB
  replace Rvm := Rvm.below hB
  replace qvm0 := cbl hB qvm0
  replace qvm1 := cbl hB qvm1
  replace qvm2 := cbl hB qvm2
  replace HBT := Below.cons HBT hB
  clear hB
  simp only [upTo, List.take_succ_cons, List.take_zero, putAll, Act.put, seq0, seq1, seq2]
  have Rx := h7
  clear h7
  have qx0 := Rx.c (i := 0) rfl
  have qx1 := Rx.c (i := 1) rfl
  have qx2 := Rx.c (i := 2) rfl
  clear hq gq
  clear Rq
  clear qq0
  clear qq1
  clear qq2
  clear hG
  have hz0 : w.heap.size + 1 < nb7 ∧ W2.heap.size < nb7 := by have h7 := hlt2.out; have h8 : w.heap.size + 1 < W0.heap.size := (by rw [← hW0.out]; simp; omega); have h9 : W2.heap.size < W0.heap.size := (by rw [← hW0.out]; simp <;> omega); exact ⟨by omega, by omega⟩
  have hz1 := hz0.1
  have hz2 := hz0.2
  have fx0_4 := Rx.f (i := 0)
  have fx1_4 := Rx.f (i := 1)
  have fx2_4 := Rx.f (i := 2)
  have Rr_4 : BoxA (((wc.setCell ⟨nb7, 0, none⟩ (.bool (sg x.num))).setCell ⟨nb7, 1, none⟩ (.slice X19 (nl (mg x.num)) c19)).setCell ⟨nb7, 2, none⟩ (.slice Y19 (nl x.den) d19)) _ _ _ := Rr.other3 (by first | omega | (simp; done) | (simp; omega))
  have Rvm_4 : BoxA (((wc.setCell ⟨nb7, 0, none⟩ (.bool (sg x.num))).setCell ⟨nb7, 1, none⟩ (.slice X19 (nl (mg x.num)) c19)).setCell ⟨nb7, 2, none⟩ (.slice Y19 (nl x.den) d19)) _ _ _ := Rvm.other3 (by first | omega | (simp; done) | (simp; omega))
  have Rx_4 := Rx.store3 (.bool (sg x.num)) (.slice X19 (nl (mg x.num)) c19) (.slice Y19 (nl x.den) d19)
  have qr0_4 := Rr_4.c (i := 0) rfl
  have qr1_4 := Rr_4.c (i := 1) rfl
  have qr2_4 := Rr_4.c (i := 2) rfl
  have qr3_4 := Rr_4.c (i := 3) rfl
  have qr4_4 := Rr_4.c (i := 4) rfl
  have qr5_4 := Rr_4.c (i := 5) rfl
  have hm_4 := Rx.keep3 (v0 := .bool (sg x.num)) (v1 := .slice X19 (nl (mg x.num)) c19) (v2 := .slice Y19 (nl x.den) d19) (nuB rfl) hm
  have qvm0_4 := Rvm_4.c (i := 0) rfl
  have qvm1_4 := Rvm_4.c (i := 1) rfl
  have qvm2_4 := Rvm_4.c (i := 2) rfl
  have h19_4 := Rx.keep3 (v0 := .bool (sg x.num)) (v1 := .slice X19 (nl (mg x.num)) c19) (v2 := .slice Y19 (nl x.den) d19) (nuB rfl) h19
  have g19_4 := Rx.keep3 (v0 := .bool (sg x.num)) (v1 := .slice X19 (nl (mg x.num)) c19) (v2 := .slice Y19 (nl x.den) d19) (nuB rfl) g19
  have qx0_4 := Rx_4.c (i := 0) rfl
  have qx1_4 := Rx_4.c (i := 1) rfl
  have qx2_4 := Rx_4.c (i := 2) rfl
  have HBT_4 := Below.store3 (v0 := .bool (sg x.num)) (v1 := .slice X19 (nl (mg x.num)) c19) (v2 := .slice Y19 (nl x.den) d19) HBT (k := nb7) (by first | exact Nat.le_refl _ | omega)
  have hT_4 := hT00.below HBT_4
  refine TailP.one rfl (by rfl) (fun K' hK' => ?_)
  go_simp
  refine hK'.out _ _ ?_
  try simp only [Act.put, seq0, seq1, seq2]
  refine TailP.done ?_
  clear fx0_4 fx1_4 fx2_4 Rr Rvm Rx hT qr0 qr1 qr2 qr3 qr4 qr5 hm qvm0 qvm1 qvm2 h19 g19 qx0 qx1 qx2 HBT
  generalize hV1 : (((wc.setCell ⟨nb7, 0, none⟩ (.bool (sg x.num))).setCell ⟨nb7, 1, none⟩ (.slice X19 (nl (mg x.num)) c19)).setCell ⟨nb7, 2, none⟩ (.slice Y19 (nl x.den) d19)) = V1 at *
  clear hV1
  go_wp2_with (fail)
  refine (Calls.mono (CS.out _ X19 c19 Y19 d19 h19_4 g19_4) ?_)
  rintro e W5 ⟨rfl, hb5⟩
  replace Rr_4 := Rr_4.below hb5
  replace Rvm_4 := Rvm_4.below hb5
  replace Rx_4 := Rx_4.below hb5
  replace hT_4 := hT_4.below hb5
  replace qr0_4 := cbl hb5 qr0_4
  replace qr1_4 := cbl hb5 qr1_4
  replace qr2_4 := cbl hb5 qr2_4
  replace qr3_4 := cbl hb5 qr3_4
  replace qr4_4 := cbl hb5 qr4_4
  replace qr5_4 := cbl hb5 qr5_4
  replace hm_4 := hm_4.below hb5
  replace qvm0_4 := cbl hb5 qvm0_4
  replace qvm1_4 := cbl hb5 qvm1_4
  replace qvm2_4 := cbl hb5 qvm2_4
  replace h19_4 := h19_4.below hb5
  replace g19_4 := g19_4.below hb5
  replace qx0_4 := cbl hb5 qx0_4
  replace qx1_4 := cbl hb5 qx1_4
  replace qx2_4 := cbl hb5 qx2_4
  have HBT := Below.cons HBT_4 hb5
  clear hb5
  by_cases h0 : x.num < 0
  · skip
    have t1 : decide (x.num < 0) = true := by simp [h0]
    have Ny : -x = y := by rw [Ey.out]; unfold dabs; rw [if_pos (num_neg.2 h0)]
    go_wp2_with (fail)
    have CN2 := CN.out _ X19 c19 Y19 d19 h19_4 g19_4
    rw [Ny] at CN2
    replace CN2 := Lib.hid CN2
    refine (Calls.mono CN2.out ?_)
    rintro e W6 ⟨Xy, cy, Yy, dy, rfl, hy, gy, hb6⟩
    clear CN2
    replace Rr_4 := Rr_4.below hb6
    replace Rvm_4 := Rvm_4.below hb6
    replace Rx_4 := Rx_4.below hb6
    replace hT_4 := hT_4.below hb6
    replace qr0_4 := cbl hb6 qr0_4
    replace qr1_4 := cbl hb6 qr1_4
    replace qr2_4 := cbl hb6 qr2_4
    replace qr3_4 := cbl hb6 qr3_4
    replace qr4_4 := cbl hb6 qr4_4
    replace qr5_4 := cbl hb6 qr5_4
    replace hm_4 := hm_4.below hb6
    replace qvm0_4 := cbl hb6 qvm0_4
    replace qvm1_4 := cbl hb6 qvm1_4
    replace qvm2_4 := cbl hb6 qvm2_4
    replace h19_4 := h19_4.below hb6
    replace g19_4 := g19_4.below hb6
    replace qx0_4 := cbl hb6 qx0_4
    replace qx1_4 := cbl hb6 qx1_4
    replace qx2_4 := cbl hb6 qx2_4
    replace HBT := Below.cons HBT hb6
    clear hb6
    have fx0_7 := Rx_4.f (i := 0)
    have fx1_7 := Rx_4.f (i := 1)
    have fx2_7 := Rx_4.f (i := 2)
    have Rr_7 : BoxA (((W6.setCell ⟨nb7, 0, none⟩ (.bool (sg y.num))).setCell ⟨nb7, 1, none⟩ (.slice Xy (nl (mg y.num)) cy)).setCell ⟨nb7, 2, none⟩ (.slice Yy (nl y.den) dy)) _ _ _ := Rr_4.other3 (by first | omega | (simp; done) | (simp; omega))
    have Rvm_7 : BoxA (((W6.setCell ⟨nb7, 0, none⟩ (.bool (sg y.num))).setCell ⟨nb7, 1, none⟩ (.slice Xy (nl (mg y.num)) cy)).setCell ⟨nb7, 2, none⟩ (.slice Yy (nl y.den) dy)) _ _ _ := Rvm_4.other3 (by first | omega | (simp; done) | (simp; omega))
    have Rx_7 := Rx_4.store3 (.bool (sg y.num)) (.slice Xy (nl (mg y.num)) cy) (.slice Yy (nl y.den) dy)
    have qr0_7 := Rr_7.c (i := 0) rfl
    have qr1_7 := Rr_7.c (i := 1) rfl
    have qr2_7 := Rr_7.c (i := 2) rfl
    have qr3_7 := Rr_7.c (i := 3) rfl
    have qr4_7 := Rr_7.c (i := 4) rfl
    have qr5_7 := Rr_7.c (i := 5) rfl
    have hm_7 := Rx_4.keep3 (v0 := .bool (sg y.num)) (v1 := .slice Xy (nl (mg y.num)) cy) (v2 := .slice Yy (nl y.den) dy) (nuB rfl) hm_4
    have qvm0_7 := Rvm_7.c (i := 0) rfl
    have qvm1_7 := Rvm_7.c (i := 1) rfl
    have qvm2_7 := Rvm_7.c (i := 2) rfl
    have h19_7 := Rx_4.keep3 (v0 := .bool (sg y.num)) (v1 := .slice Xy (nl (mg y.num)) cy) (v2 := .slice Yy (nl y.den) dy) (nuB rfl) h19_4
    have g19_7 := Rx_4.keep3 (v0 := .bool (sg y.num)) (v1 := .slice Xy (nl (mg y.num)) cy) (v2 := .slice Yy (nl y.den) dy) (nuB rfl) g19_4
    have qx0_7 := Rx_7.c (i := 0) rfl
    have qx1_7 := Rx_7.c (i := 1) rfl
    have qx2_7 := Rx_7.c (i := 2) rfl
    have hy_7 := Rx_4.keep3 (v0 := .bool (sg y.num)) (v1 := .slice Xy (nl (mg y.num)) cy) (v2 := .slice Yy (nl y.den) dy) (nuB rfl) hy
    have gy_7 := Rx_4.keep3 (v0 := .bool (sg y.num)) (v1 := .slice Xy (nl (mg y.num)) cy) (v2 := .slice Yy (nl y.den) dy) (nuB rfl) gy
    have HBT_7 := Below.store3 (v0 := .bool (sg y.num)) (v1 := .slice Xy (nl (mg y.num)) cy) (v2 := .slice Yy (nl y.den) dy) HBT (k := nb7) (by first | exact Nat.le_refl _ | omega)
    have hT_7 := hT00.below HBT_7
    go_wp2_with (fail)
    clear fx0_7 fx1_7 fx2_7 Rr_4 Rvm_4 Rx_4 hT_4 qr0_4 qr1_4 qr2_4 qr3_4 qr4_4 qr5_4 hm_4 qvm0_4 qvm1_4 qvm2_4 h19_4 g19_4 qx0_4 qx1_4 qx2_4 hy gy HBT
    generalize hV2 : (((W6.setCell ⟨nb7, 0, none⟩ (.bool (sg y.num))).setCell ⟨nb7, 1, none⟩ (.slice Xy (nl (mg y.num)) cy)).setCell ⟨nb7, 2, none⟩ (.slice Yy (nl y.den) dy)) = V2 at *
    clear hV2
    clear h19_7 g19_7
    refine (Calls.mono (Cr.out _ Xy cy Yy dy  hy_7 gy_7 hT_7) ?_)
    rintro e W8 ⟨Xr, cr, rfl, hr, hb8⟩
    replace Rr_7 := Rr_7.below hb8
    replace Rvm_7 := Rvm_7.below hb8
    replace Rx_7 := Rx_7.below hb8
    replace hT_7 := hT_7.below hb8
    replace qr0_7 := cbl hb8 qr0_7
    replace qr1_7 := cbl hb8 qr1_7
    replace qr2_7 := cbl hb8 qr2_7
    replace qr3_7 := cbl hb8 qr3_7
    replace qr4_7 := cbl hb8 qr4_7
    replace qr5_7 := cbl hb8 qr5_7
    replace hm_7 := hm_7.below hb8
    replace qvm0_7 := cbl hb8 qvm0_7
    replace qvm1_7 := cbl hb8 qvm1_7
    replace qvm2_7 := cbl hb8 qvm2_7
    replace qx0_7 := cbl hb8 qx0_7
    replace qx1_7 := cbl hb8 qx1_7
    replace qx2_7 := cbl hb8 qx2_7
    replace hy_7 := hy_7.below hb8
    replace gy_7 := gy_7.below hb8
    have HBT := Below.cons HBT_7 hb8
    clear hb8
    have hlt8 := Lib.hid Rr_7.lt
    obtain ⟨hb9, Rvr⟩ := bx1 W8 #[.bool (sg (dmn r)), .slice Xr (nl (mg (dmn r))) cr, .int .i64 (dex r)] 33
    replace Rr_7 := Rr_7.below hb9
    replace Rvm_7 := Rvm_7.below hb9
    replace Rx_7 := Rx_7.below hb9
    replace hT_7 := hT_7.below hb9
    replace qr0_7 := cbl hb9 qr0_7
    replace qr1_7 := cbl hb9 qr1_7
    replace qr2_7 := cbl hb9 qr2_7
    replace qr3_7 := cbl hb9 qr3_7
    replace qr4_7 := cbl hb9 qr4_7
    replace qr5_7 := cbl hb9 qr5_7
    replace hm_7 := hm_7.below hb9
    replace qvm0_7 := cbl hb9 qvm0_7
    replace qvm1_7 := cbl hb9 qvm1_7
    replace qvm2_7 := cbl hb9 qvm2_7
    replace qx0_7 := cbl hb9 qx0_7
    replace qx1_7 := cbl hb9 qx1_7
    replace qx2_7 := cbl hb9 qx2_7
    replace hy_7 := hy_7.below hb9
    replace gy_7 := gy_7.below hb9
    replace hr := hr.below hb9
    replace HBT := Below.cons HBT hb9
    clear hb9
    have qvr0 := Rvr.c (i := 0) rfl
    have qvr1 := Rvr.c (i := 1) rfl
    have qvr2 := Rvr.c (i := 2) rfl
    have fzr0 := Rr_7.f (i := 0)
    have fzr1 := Rr_7.f (i := 1)
    have fzr2 := Rr_7.f (i := 2)
    have fzr3 := Rr_7.f (i := 3)
    have fzr4 := Rr_7.f (i := 4)
    have fzr5 := Rr_7.f (i := 5)
    go_wp2_with (fail)
    have RS := Rr_7.store6 (.bool (sg (dmn m))) (.slice Xm (nl (mg (dmn m))) cm) (.int .i64 (dex m)) (.bool (sg (dmn r))) (.slice Xr (nl (mg (dmn r))) cr) (.int .i64 (dex r))
    have e0 := RS.c (i := 0) rfl
    have e1 := RS.c (i := 1) rfl
    have e2 := RS.c (i := 2) rfl
    have e3 := RS.c (i := 3) rfl
    have e4 := RS.c (i := 4) rfl
    have e5 := RS.c (i := 5) rfl
    refine bodyPost_ret (v := .agg #[.bool (sg (dmn m)), .slice Xm (nl (mg (dmn m))) cm, .int .i64 (dex m), .bool (sg (dmn r)), .slice Xr (nl (mg (dmn r))) cr, .int .i64 (dex r)]) (by simp [results, Tryz.results13, go_sem, e0, e1, e2, e3, e4, e5]) rfl ?_
    exact ⟨Xm, cm, Xr, cr, rfl, (Rr_7.keep6 (by intro u hu; simp at hu; rcases hu with rfl | rfl | rfl | rfl | rfl | rfl <;> first | exact notU_bool _ | exact notU_slice _ _ _ | exact notU_i64 _) hm_7), (Rr_7.keep6 (by intro u hu; simp at hu; rcases hu with rfl | rfl | rfl | rfl | rfl | rfl <;> first | exact notU_bool _ | exact notU_slice _ _ _ | exact notU_i64 _) hr), (Below.store6 HBT (by first | exact Nat.le_refl _ | omega))⟩
  · skip
    have t1 : decide (x.num < 0) = false := by simp [h0]
    have Ny : x = y := by rw [Ey.out]; unfold dabs; rw [if_neg (fun h => h0 (num_neg.1 h))]
    subst Ny
    go_wp2_with (fail)
    refine (Calls.mono (Cr.out _ X19 c19 Y19 d19  h19_4 g19_4 hT_4) ?_)
    rintro e W56 ⟨Xr, cr, rfl, hr, hb56⟩
    replace Rr_4 := Rr_4.below hb56
    replace Rvm_4 := Rvm_4.below hb56
    replace Rx_4 := Rx_4.below hb56
    replace hT_4 := hT_4.below hb56
    replace qr0_4 := cbl hb56 qr0_4
    replace qr1_4 := cbl hb56 qr1_4
    replace qr2_4 := cbl hb56 qr2_4
    replace qr3_4 := cbl hb56 qr3_4
    replace qr4_4 := cbl hb56 qr4_4
    replace qr5_4 := cbl hb56 qr5_4
    replace hm_4 := hm_4.below hb56
    replace qvm0_4 := cbl hb56 qvm0_4
    replace qvm1_4 := cbl hb56 qvm1_4
    replace qvm2_4 := cbl hb56 qvm2_4
    replace qx0_4 := cbl hb56 qx0_4
    replace qx1_4 := cbl hb56 qx1_4
    replace qx2_4 := cbl hb56 qx2_4
    replace h19_4 := h19_4.below hb56
    replace g19_4 := g19_4.below hb56
    replace HBT := Below.cons HBT hb56
    clear hb56
    have hlt56 := Lib.hid Rr_4.lt
    obtain ⟨hb57, Rvr⟩ := bx1 W56 #[.bool (sg (dmn r)), .slice Xr (nl (mg (dmn r))) cr, .int .i64 (dex r)] 33
    replace Rr_4 := Rr_4.below hb57
    replace Rvm_4 := Rvm_4.below hb57
    replace Rx_4 := Rx_4.below hb57
    replace hT_4 := hT_4.below hb57
    replace qr0_4 := cbl hb57 qr0_4
    replace qr1_4 := cbl hb57 qr1_4
    replace qr2_4 := cbl hb57 qr2_4
    replace qr3_4 := cbl hb57 qr3_4
    replace qr4_4 := cbl hb57 qr4_4
    replace qr5_4 := cbl hb57 qr5_4
    replace hm_4 := hm_4.below hb57
    replace qvm0_4 := cbl hb57 qvm0_4
    replace qvm1_4 := cbl hb57 qvm1_4
    replace qvm2_4 := cbl hb57 qvm2_4
    replace qx0_4 := cbl hb57 qx0_4
    replace qx1_4 := cbl hb57 qx1_4
    replace qx2_4 := cbl hb57 qx2_4
    replace h19_4 := h19_4.below hb57
    replace g19_4 := g19_4.below hb57
    replace hr := hr.below hb57
    replace HBT := Below.cons HBT hb57
    clear hb57
    have qvr0 := Rvr.c (i := 0) rfl
    have qvr1 := Rvr.c (i := 1) rfl
    have qvr2 := Rvr.c (i := 2) rfl
    have fzr0 := Rr_4.f (i := 0)
    have fzr1 := Rr_4.f (i := 1)
    have fzr2 := Rr_4.f (i := 2)
    have fzr3 := Rr_4.f (i := 3)
    have fzr4 := Rr_4.f (i := 4)
    have fzr5 := Rr_4.f (i := 5)
    go_wp2_with (fail)
    have RS := Rr_4.store6 (.bool (sg (dmn m))) (.slice Xm (nl (mg (dmn m))) cm) (.int .i64 (dex m)) (.bool (sg (dmn r))) (.slice Xr (nl (mg (dmn r))) cr) (.int .i64 (dex r))
    have e0 := RS.c (i := 0) rfl
    have e1 := RS.c (i := 1) rfl
    have e2 := RS.c (i := 2) rfl
    have e3 := RS.c (i := 3) rfl
    have e4 := RS.c (i := 4) rfl
    have e5 := RS.c (i := 5) rfl
    refine bodyPost_ret (v := .agg #[.bool (sg (dmn m)), .slice Xm (nl (mg (dmn m))) cm, .int .i64 (dex m), .bool (sg (dmn r)), .slice Xr (nl (mg (dmn r))) cr, .int .i64 (dex r)]) (by simp [results, Tryz.results13, go_sem, e0, e1, e2, e3, e4, e5]) rfl ?_
    exact ⟨Xm, cm, Xr, cr, rfl, (Rr_4.keep6 (by intro u hu; simp at hu; rcases hu with rfl | rfl | rfl | rfl | rfl | rfl <;> first | exact notU_bool _ | exact notU_slice _ _ _ | exact notU_i64 _) hm_4), (Rr_4.keep6 (by intro u hu; simp at hu; rcases hu with rfl | rfl | rfl | rfl | rfl | rfl <;> first | exact notU_bool _ | exact notU_slice _ _ _ | exact notU_i64 _) hr), (Below.store6 HBT (by first | exact Nat.le_refl _ | omega))⟩
theorem dokD {q : Rat} (m e : Int) (h : q = dval m e) (h2 : nl (mg (dmn q)) ≤ 100000 ∧ -1000000 ≤ dex q ∧ dex q ≤ 1000000) : DOk q := ⟨⟨m, e, h⟩, h2.1, h2.2⟩
theorem gi_b {l : List Int} (h : ∀ x ∈ l, -1000 ≤ x ∧ x ≤ 1000) (j : Nat) : -1000 ≤ gi l j ∧ gi l j ≤ 1000 := by
  unfold gi
  rw [List.getD_eq_getElem?_getD]
  cases hx : l[j]? with
  | none => decide
  | some x => exact h x (List.mem_of_getElem? hx)
def Kn.slb (n0 : Nat) (t : TypeId) (n : Nat) (vs : Array Value) : Kn := ⟨fun u w => ∃ g, u = .slice (some ⟨g, 0, none⟩) n n ∧ n0 ≤ g ∧ BoxA w g t vs, fun _ _ _ hb ⟨g, h1, h2, h3⟩ => ⟨g, h1, h2, h3.below hb⟩⟩
theorem hd_bm : (Rat.divInt 85 256) = dval (rnd 4 (Rat.divInt 1 3 * (2 : Rat) ^ (8 : Int))) (-8) := by decide +kernel
theorem hd_br : (Rat.divInt 1 256) = dval (rnd 1 (dabs (Rat.divInt 1 3 - Rat.divInt 85 256) * (2 : Rat) ^ (8 : Int))) (-8) := by decide +kernel
theorem hd_d7 : dval (rnd 4 (Rat.divInt 1 9 * (2 : Rat) ^ (8 : Int))) (-8) = Rat.divInt 7 64 := by decide +kernel
theorem hd_cm : Rat.divInt 85 256 * Rat.divInt 85 256 = Rat.divInt 7225 65536 := by decide +kernel
theorem hd_cr : (dabs (Rat.divInt 85 256) + Rat.divInt 1 256) * Rat.divInt 1 256 + dabs (Rat.divInt 85 256) * Rat.divInt 1 256 = Rat.divInt 171 65536 := by decide +kernel
theorem hd_vv : ∀ j, nl (mg (vv 1 3 (([-2, 0, 1] : List Int).drop j)).1) ≤ 16384 ∧ nl (mg (vv 1 3 (([-2, 0, 1] : List Int).drop j)).2) ≤ 16384 := by
  intro j
  rcases (show j = 0 ∨ j = 1 ∨ j = 2 ∨ 3 ≤ j by omega) with rfl | rfl | rfl | h
  · decide +kernel
  · decide +kernel
  · decide +kernel
  · rw [List.drop_eq_nil_of_le (by simpa using h)]; decide +kernel
theorem head13_c (w : World) (hT : Tab w) (hG : Flds w) : Calls Tryz.prog 5 #[] w (fun e w' => e = .returned (.bool true) ∧ Below w.heap.size w w') := by
  have hG0 := hG
  have hT0 := hT
  obtain ⟨p, Ep⟩ : ∃ z : List Int, z = [-2, 0, 1] := ⟨_, rfl⟩
  obtain ⟨b3, Eb3⟩ : ∃ z : List Int, z = [-3, 1] := ⟨_, rfl⟩
  obtain ⟨x9, Ex9⟩ : ∃ z : List Int, z = [-2, 9] := ⟨_, rfl⟩
  obtain ⟨t, Et⟩ : ∃ z : Rat, z = Rat.divInt 1 3 := ⟨_, rfl⟩
  obtain ⟨q9, Eq9⟩ : ∃ z : Rat, z = Rat.divInt 1 9 := ⟨_, rfl⟩
  obtain ⟨q4, Eq4⟩ : ∃ z : Rat, z = Rat.divInt 1 4 := ⟨_, rfl⟩
  obtain ⟨bm, Ebm⟩ : ∃ z : Rat, z = Rat.divInt 85 256 := ⟨_, rfl⟩
  obtain ⟨br, Ebr⟩ : ∃ z : Rat, z = Rat.divInt 1 256 := ⟨_, rfl⟩
  obtain ⟨cm, Ecm⟩ : ∃ z : Rat, z = Rat.divInt 7225 65536 := ⟨_, rfl⟩
  obtain ⟨cr, Ecr⟩ : ∃ z : Rat, z = Rat.divInt 171 65536 := ⟨_, rfl⟩
  obtain ⟨d7, Ed7⟩ : ∃ z : Rat, z = Rat.divInt 7 64 := ⟨_, rfl⟩
  obtain ⟨vq, Evq⟩ : ∃ z : Rat, z = Rat.divInt (-17) 9 := ⟨_, rfl⟩
  obtain ⟨sev, Esev⟩ : ∃ z : Int, z = 7 := ⟨_, rfl⟩
  obtain ⟨nin, Enin⟩ : ∃ z : Int, z = 9 := ⟨_, rfl⟩
  obtain ⟨mtw, Emtw⟩ : ∃ z : Int, z = -2 := ⟨_, rfl⟩
  have np : p.length = 3 := by rw [Ep]; rfl
  have nb3 : b3.length = 2 := by rw [Eb3]; rfl
  have nx9 : x9.length = 2 := by rw [Ex9]; rfl
  have CW1 : ∀ (W : World) (g : Nat), W.cell? ⟨g, 0, none⟩ = some (.int .i64 (-2)) → W.cell? ⟨g, 1, none⟩ = some (.int .i64 0) → W.cell? ⟨g, 2, none⟩ = some (.int .i64 1) → Calls Tryz.prog 25 #[.slice (some ⟨g, 0, none⟩) 3 3] W (RetP W p) := fun W g h0 h1 h2 => (hrow_c g 3 3 p W np (by decide) (by decide) (by rw [Ep]; intro j hj; rcases (show j = 0 ∨ j = 1 ∨ j = 2 by omega) with rfl | rfl | rfl; exact h0; exact h1; exact h2) (by rw [Ep]; exact gi_b (by decide))).mono (fun e w' h => retC_P h)
  have CW2 : ∀ (W : World) (g : Nat), W.cell? ⟨g, 0, none⟩ = some (.int .i64 (-3)) → W.cell? ⟨g, 1, none⟩ = some (.int .i64 1) → Calls Tryz.prog 25 #[.slice (some ⟨g, 0, none⟩) 2 2] W (RetP W b3) := fun W g h0 h1 => (hrow_c g 2 2 b3 W nb3 (by decide) (by decide) (by rw [Eb3]; intro j hj; rcases (show j = 0 ∨ j = 1 by omega) with rfl | rfl; exact h0; exact h1) (by rw [Eb3]; exact gi_b (by decide))).mono (fun e w' h => retC_P h)
  have CQ3 : ∀ (W : World), Calls Tryz.prog 26 #[.int .i64 1, .int .i64 3] W (RetR W t) := fun W => quot_c 1 3 t W (by decide) (by decide) (by decide) (by decide) Et
  have CQ9 : ∀ (W : World), Calls Tryz.prog 26 #[.int .i64 1, .int .i64 9] W (RetR W q9) := fun W => quot_c 1 9 q9 W (by decide) (by decide) (by decide) (by decide) Eq9
  have CQ4 : ∀ (W : World), Calls Tryz.prog 26 #[.int .i64 1, .int .i64 4] W (RetR W q4) := fun W => quot_c 1 4 q4 W (by decide) (by decide) (by decide) (by decide) Eq4
  have CB : ∀ (W : World) (A : Option Addr) (c : Nat) (B : Option Addr) (d : Nat), NatV W A c (mg t.num) → NatV W B d t.den → Tab W → Flds W → Calls Tryz.prog 13 #[.agg #[.bool (sg t.num), .slice A (nl (mg t.num)) c, .slice B (nl t.den) d], .int .i64 8] W (RetB W bm br) := fun W A c B d h0 h1 h2 h3 => ballof_c A c B d t 8 bm br W h0 h1 h2 h3 (by rw [Ebm, Et]; exact hd_bm) (by rw [Ebr, Ebm, Et]; exact hd_br) (by decide) (by rw [Ebm]; exact dokD 85 (-8) (by decide +kernel) (by decide +kernel)) (by rw [Et]; decide +kernel) (by rw [Et]; decide +kernel) (by rw [Ebm]; decide +kernel) (by rw [Ebm]; decide +kernel) (by rw [Et, Ebm]; decide +kernel) (by rw [Et, Ebm]; decide +kernel)
  have CM : ∀ (W : World) (A : Option Addr) (c : Nat) (B : Option Addr) (d : Nat), NatV W A c (mg (dmn bm)) → NatV W B d (mg (dmn br)) → Tab W → Flds W → Calls Tryz.prog 27 #[.agg #[.bool (sg (dmn bm)), .slice A (nl (mg (dmn bm))) c, .int .i64 (dex bm), .bool (sg (dmn br)), .slice B (nl (mg (dmn br))) d, .int .i64 (dex br)], .agg #[.bool (sg (dmn bm)), .slice A (nl (mg (dmn bm))) c, .int .i64 (dex bm), .bool (sg (dmn br)), .slice B (nl (mg (dmn br))) d, .int .i64 (dex br)]] W (RetB W cm cr) := fun W A c B d h0 h1 h2 h3 => by have c := bmul_c A c bm B d br A c bm B d br W h0 h1 h0 h1 (by rw [Ebm]; exact dokD 85 (-8) (by decide +kernel) (by decide +kernel)) (by rw [Ebr]; exact dokD 1 (-8) (by decide +kernel) (by decide +kernel)) (by rw [Ebm]; exact dokD 85 (-8) (by decide +kernel) (by decide +kernel)) (by rw [Ebr]; exact dokD 1 (-8) (by decide +kernel) (by decide +kernel)) (by rw [Ebm, Ebr]; exact dokD 43 (-7) (by decide +kernel) (by decide +kernel)) (by rw [Ebm, Ebr]; decide +kernel) (by rw [Ebm, Ebr]; exact dokD 43 (-15) (by decide +kernel) (by decide +kernel)) (by rw [Ebm, Ebr]; exact dokD 85 (-16) (by decide +kernel) (by decide +kernel)) (by rw [Ebm]; exact dokD 85 (-8) (by decide +kernel) (by decide +kernel)) (by rw [Ebm]; exact dokD 85 (-8) (by decide +kernel) (by decide +kernel)) (by rw [Ebm]; decide +kernel) (by rw [Ebr]; decide +kernel) (by rw [Ebm]; decide +kernel) (by rw [Ebr]; decide +kernel) (by rw [Ebm]; decide +kernel) h2 h3; rw [show bm * bm = cm by rw [Ebm, Ecm]; exact hd_cm, show (dabs bm + br) * br + dabs bm * br = cr by rw [Ebm, Ebr, Ecr]; exact hd_cr] at c; exact c
  have CC : ∀ (W : World) (A : Option Addr) (c : Nat) (B : Option Addr) (d : Nat), NatV W A c (mg q9.num) → NatV W B d q9.den → Tab W → Calls Tryz.prog 10 #[.agg #[.bool (sg q9.num), .slice A (nl (mg q9.num)) c, .slice B (nl q9.den) d], .int .i64 8, .int .i64 4] W (RetDe W d7 0) := fun W A c B d h0 h1 h2 => by have c := cut_in A c B d q9 8 4 W h0 h1 h2 (by rw [Eq9]; decide +kernel) (by rw [Eq9]; decide +kernel) (by decide) (by decide) (by decide); rw [show dval (rnd 4 (q9 * (2 : Rat) ^ (8 : Int))) (-8) = d7 by rw [Eq9, Ed7]; exact hd_d7] at c; exact c
  have CE : ∀ (W : World) (V : Option Addr) (cp : Nat) (A : Option Addr) (c : Nat) (B : Option Addr) (d : Nat), PolV W V cp p → NatV W A c (mg t.num) → NatV W B d t.den → Flds W → Calls Tryz.prog 23 #[.slice V 3 cp, .agg #[.bool (sg t.num), .slice A (nl (mg t.num)) c, .slice B (nl t.den) d]] W (RetR W vq) := fun W V cp A c B d h0 h1 h2 h3 => by have c := eval_c V cp p A c B d t W h0 h1 h2 h3 (by rw [np]; decide) (by rw [np]; decide) (by rw [Et]; decide +kernel) (by rw [Et, Ep]; decide +kernel) (by rw [Ep]; exact gi_nl (by decide +kernel)) (by rw [Et]; decide +kernel) (by rw [Et, np]; decide +kernel) (by rw [Et, Ep]; exact hd_vv); rw [np, show Rat.divInt (vv t.num (t.den : Int) p).1 ((t.den : Int) ^ (3 - 1)) = vq by rw [Et, Ep, Evq]; decide +kernel] at c; exact c
  have CT : ∀ (W : World) (A : Option Addr) (c : Nat) (B : Option Addr) (d : Nat), NatV W A c (mg vq.num) → NatV W B d vq.den → Calls Tryz.prog 28 #[.agg #[.bool (sg vq.num), .slice A (nl (mg vq.num)) c, .slice B (nl vq.den) d]] W (RetP W x9) := fun W A c B d h0 h1 => by rw [Ex9]; exact (terms_c A c B d vq W h0 h1 (by rw [Evq]; decide +kernel) (by rw [Evq]; decide +kernel)).mono (fun e w' h => retC_P h)
  have CR : ∀ (W : World) (V : Option Addr) (cp : Nat) (U : Option Addr) (cu : Nat), PolV W V cp p → PolV W U cu b3 → Flds W → Calls Tryz.prog 30 #[.slice V 3 cp, .slice U b3.length cu] W (RetI W sev) := fun W V cp U cu h0 h1 h2 => by rw [nb3, Esev]; exact res_c V cp U cu W (Ep ▸ h0) (Eb3 ▸ h1) h2
  have CZ7 : ∀ (W : World), Calls Tryz.prog 9 #[.int .i64 7] W (RetI W sev) := fun W => by rw [Esev]; exact zof_c 7 W (by decide) (by decide)
  have CZ9 : ∀ (W : World), Calls Tryz.prog 9 #[.int .i64 9] W (RetI W nin) := fun W => by rw [Enin]; exact zof_c 9 W (by decide) (by decide)
  have CZ2 : ∀ (W : World), Calls Tryz.prog 9 #[.int .i64 (-2)] W (RetI W mtw) := fun W => by rw [Emtw]; exact zof_c (-2) W (by decide) (by decide)
  have CS7 : ∀ (W : World) (A : Option Addr) (c : Nat) (B : Option Addr) (d : Nat), NatV W A c (mg sev) → NatV W B d (mg sev) → Calls Tryz.prog 29 #[.agg #[.bool (sg sev), .slice A (nl (mg sev)) c], .agg #[.bool (sg sev), .slice B (nl (mg sev)) d]] W ((fun e w' => e = .returned (.bool true) ∧ Below W.heap.size W w')) := fun W A c B d h0 h1 => zsameT_c A c sev B d sev W h0 h1 (by rw [Esev]; decide +kernel) rfl
  have CS9 : ∀ (W : World) (A : Option Addr) (c : Nat) (B : Option Addr) (d : Nat), NatV W A c (mg nin) → NatV W B d (mg nin) → Calls Tryz.prog 29 #[.agg #[.bool (sg nin), .slice A (nl (mg nin)) c], .agg #[.bool (sg nin), .slice B (nl (mg nin)) d]] W ((fun e w' => e = .returned (.bool true) ∧ Below W.heap.size W w')) := fun W A c B d h0 h1 => zsameT_c A c nin B d nin W h0 h1 (by rw [Enin]; decide +kernel) rfl
  have CS2 : ∀ (W : World) (A : Option Addr) (c : Nat) (B : Option Addr) (d : Nat), NatV W A c (mg mtw) → NatV W B d (mg mtw) → Calls Tryz.prog 29 #[.agg #[.bool (sg mtw), .slice A (nl (mg mtw)) c], .agg #[.bool (sg mtw), .slice B (nl (mg mtw)) d]] W ((fun e w' => e = .returned (.bool true) ∧ Below W.heap.size W w')) := fun W A c B d h0 h1 => zsameT_c A c mtw B d mtw W h0 h1 (by rw [Emtw]; decide +kernel) rfl
  have CH9 : ∀ (W : World) (A : Option Addr) (c : Nat) (B : Option Addr) (d : Nat) (A1 : Option Addr) (c1 : Nat) (B1 : Option Addr) (d1 : Nat), NatV W A c (mg (dmn cm)) → NatV W B d (mg (dmn cr)) → NatV W A1 c1 (mg q9.num) → NatV W B1 d1 q9.den → Tab W → Flds W → Calls Tryz.prog 17 #[.agg #[.bool (sg (dmn cm)), .slice A (nl (mg (dmn cm))) c, .int .i64 (dex cm), .bool (sg (dmn cr)), .slice B (nl (mg (dmn cr))) d, .int .i64 (dex cr)], .agg #[.bool (sg q9.num), .slice A1 (nl (mg q9.num)) c1, .slice B1 (nl q9.den) d1]] W ((fun e w' => e = .returned (.bool true) ∧ Below W.heap.size W w')) := fun W A c B d A1 c1 B1 d1 h0 h1 h2 h3 h4 h5 => bhas_c A c cm B d cr A1 c1 B1 d1 q9 true W h0 h1 h2 h3 (by rw [Ecm]; exact dokD 7225 (-16) (by decide +kernel) (by decide +kernel)) (by rw [Ecr]; exact dokD 171 (-16) (by decide +kernel) (by decide +kernel)) (by rw [Ecm, Ecr]; exact dokD 3527 (-15) (by decide +kernel) (by decide +kernel)) (by rw [Ecm, Ecr]; exact dokD 1849 (-14) (by decide +kernel) (by decide +kernel)) (by rw [Ecm, Ecr]; decide +kernel) (by rw [Ecm, Ecr]; decide +kernel) (by rw [Ecm, Ecr]; decide +kernel) (by rw [Ecm, Ecr]; decide +kernel) (by rw [Eq9]; decide +kernel) (by rw [Eq9]; decide +kernel) (by rw [Ecm, Ecr, Eq9]; decide +kernel) (by rw [Ecm, Ecr, Eq9]; decide +kernel) h4 h5
  have CH4 : ∀ (W : World) (A : Option Addr) (c : Nat) (B : Option Addr) (d : Nat) (A1 : Option Addr) (c1 : Nat) (B1 : Option Addr) (d1 : Nat), NatV W A c (mg (dmn cm)) → NatV W B d (mg (dmn cr)) → NatV W A1 c1 (mg q4.num) → NatV W B1 d1 q4.den → Tab W → Flds W → Calls Tryz.prog 17 #[.agg #[.bool (sg (dmn cm)), .slice A (nl (mg (dmn cm))) c, .int .i64 (dex cm), .bool (sg (dmn cr)), .slice B (nl (mg (dmn cr))) d, .int .i64 (dex cr)], .agg #[.bool (sg q4.num), .slice A1 (nl (mg q4.num)) c1, .slice B1 (nl q4.den) d1]] W ((fun e w' => e = .returned (.bool false) ∧ Below W.heap.size W w')) := fun W A c B d A1 c1 B1 d1 h0 h1 h2 h3 h4 h5 => bhas_c A c cm B d cr A1 c1 B1 d1 q4 false W h0 h1 h2 h3 (by rw [Ecm]; exact dokD 7225 (-16) (by decide +kernel) (by decide +kernel)) (by rw [Ecr]; exact dokD 171 (-16) (by decide +kernel) (by decide +kernel)) (by rw [Ecm, Ecr]; exact dokD 3527 (-15) (by decide +kernel) (by decide +kernel)) (by rw [Ecm, Ecr]; exact dokD 1849 (-14) (by decide +kernel) (by decide +kernel)) (by rw [Ecm, Ecr]; decide +kernel) (by rw [Ecm, Ecr]; decide +kernel) (by rw [Ecm, Ecr]; decide +kernel) (by rw [Ecm, Ecr]; decide +kernel) (by rw [Eq4]; decide +kernel) (by rw [Eq4]; decide +kernel) (by rw [Ecm, Ecr, Eq4]; decide +kernel) (by rw [Ecm, Ecr, Eq4]; decide +kernel) h4 h5
  have CG : ∀ (W : World) (A : Option Addr) (c : Nat), NatV W A c (mg (dmn d7)) → Calls Tryz.prog 31 #[.agg #[.bool (sg (dmn d7)), .slice A (nl (mg (dmn d7))) c, .int .i64 (dex d7)]] W ((fun e w' => e = .returned (.int .i64 1) ∧ Below W.heap.size W w')) := fun W A c h0 => by have c := dsign_c A c d7 W h0; rw [show (dmn d7).sign = 1 by rw [Ed7]; decide +kernel] at c; exact c
  have g0 : gi x9 0 = mtw := by rw [Ex9, Emtw]; rfl
  have g1 : gi x9 1 = nin := by rw [Ex9, Enin]; rfl
  replace Ep := Lib.hid Ep
  replace Eb3 := Lib.hid Eb3
  replace Ex9 := Lib.hid Ex9
  replace Et := Lib.hid Et
  replace Eq9 := Lib.hid Eq9
  replace Eq4 := Lib.hid Eq4
  replace Ebm := Lib.hid Ebm
  replace Ebr := Lib.hid Ebr
  replace Ecm := Lib.hid Ecm
  replace Ecr := Lib.hid Ecr
  replace Ed7 := Lib.hid Ed7
  replace Evq := Lib.hid Evq
  replace Esev := Lib.hid Esev
  replace Enin := Lib.hid Enin
  replace Emtw := Lib.hid Emtw
  replace np := Lib.hid np
  replace nb3 := Lib.hid nb3
  replace nx9 := Lib.hid nx9
  replace g0 := Lib.hid g0
  replace g1 := Lib.hid g1
  replace CW1 := Lib.hid CW1
  replace CW2 := Lib.hid CW2
  replace CQ3 := Lib.hid CQ3
  replace CQ9 := Lib.hid CQ9
  replace CQ4 := Lib.hid CQ4
  replace CB := Lib.hid CB
  replace CM := Lib.hid CM
  replace CC := Lib.hid CC
  replace CE := Lib.hid CE
  replace CT := Lib.hid CT
  replace CR := Lib.hid CR
  replace CZ7 := Lib.hid CZ7
  replace CZ9 := Lib.hid CZ9
  replace CZ2 := Lib.hid CZ2
  replace CS7 := Lib.hid CS7
  replace CS9 := Lib.hid CS9
  replace CS2 := Lib.hid CS2
  replace CH9 := Lib.hid CH9
  replace CH4 := Lib.hid CH4
  replace CG := Lib.hid CG
  obtain ⟨hb1, Rl0⟩ := bx1 w #[.int .i64 (-2), .int .i64 0, .int .i64 1] 2
  replace hT := hT.below hb1
  replace hG := hG.below hb1
  have HBT := hb1
  clear hb1
  have ql00 := Rl0.c (i := 0) rfl
  have ql01 := Rl0.c (i := 1) rfl
  have ql02 := Rl0.c (i := 2) rfl
  go_enter Tryz.func5, Tryz.ntmps5
  go_wp2_with (fail)
  refine (Calls.mono (CW1.out _ w.heap.size ql00 ql01 ql02) ?_)
  rintro e W2 ⟨Xp, cp, rfl, hp, hb2⟩
  replace hT := hT.below hb2
  replace hG := hG.below hb2
  replace Rl0 := Rl0.below hb2
  replace ql00 := cbl hb2 ql00
  replace ql01 := cbl hb2 ql01
  replace ql02 := cbl hb2 ql02
  replace HBT := Below.cons HBT hb2
  clear hb2
  rw [np.out]
  clear Rl0
  clear ql00
  clear ql01
  clear ql02
  go_wp2_with (fail)
  refine (Calls.mono (CQ3.out _) ?_)
  rintro e W3 ⟨Xt, ct, Yt, dt, rfl, ht, gt, hb3⟩
  replace hT := hT.below hb3
  replace hG := hG.below hb3
  replace hp := hp.below hb3
  replace HBT := Below.cons HBT hb3
  clear hb3
  go_wp2_with (fail)
  refine (Calls.mono (CB.out _ _ _ _ _ ht gt hT hG) ?_)
  rintro e W4 ⟨Xbm, cbm, Xbr, cbr, rfl, hbm, hbr, hb4⟩
  replace hT := hT.below hb4
  replace hG := hG.below hb4
  replace hp := hp.below hb4
  replace ht := ht.below hb4
  replace gt := gt.below hb4
  replace HBT := Below.cons HBT hb4
  clear hb4
  clear ht gt
  obtain ⟨hb5, Rb⟩ := bx1 W4 #[.bool (sg (dmn bm)), .slice Xbm (nl (mg (dmn bm))) cbm, .int .i64 (dex bm), .bool (sg (dmn br)), .slice Xbr (nl (mg (dmn br))) cbr, .int .i64 (dex br)] 40
  replace hT := hT.below hb5
  replace hG := hG.below hb5
  replace hp := hp.below hb5
  replace hbm := hbm.below hb5
  replace hbr := hbr.below hb5
  replace HBT := Below.cons HBT hb5
  clear hb5
  have qb0 := Rb.c (i := 0) rfl
  have qb1 := Rb.c (i := 1) rfl
  have qb2 := Rb.c (i := 2) rfl
  have qb3 := Rb.c (i := 3) rfl
  have qb4 := Rb.c (i := 4) rfl
  have qb5 := Rb.c (i := 5) rfl
  go_wp2_with (fail)
  refine (Calls.mono (CM.out _ _ _ _ _ hbm hbr hT hG) ?_)
  rintro e W6 ⟨Xcm, ccm, Xcr, ccr, rfl, hcm, hcr, hb6⟩
  replace hT := hT.below hb6
  replace hG := hG.below hb6
  replace hp := hp.below hb6
  replace hbm := hbm.below hb6
  replace hbr := hbr.below hb6
  replace Rb := Rb.below hb6
  replace qb0 := cbl hb6 qb0
  replace qb1 := cbl hb6 qb1
  replace qb2 := cbl hb6 qb2
  replace qb3 := cbl hb6 qb3
  replace qb4 := cbl hb6 qb4
  replace qb5 := cbl hb6 qb5
  replace HBT := Below.cons HBT hb6
  clear hb6
  clear hbm
  clear hbr
  clear Rb
  clear qb0
  clear qb1
  clear qb2
  clear qb3
  clear qb4
  clear qb5
  obtain ⟨hb7, Rc⟩ := bx1 W6 #[.bool (sg (dmn cm)), .slice Xcm (nl (mg (dmn cm))) ccm, .int .i64 (dex cm), .bool (sg (dmn cr)), .slice Xcr (nl (mg (dmn cr))) ccr, .int .i64 (dex cr)] 40
  replace hT := hT.below hb7
  replace hG := hG.below hb7
  replace hp := hp.below hb7
  replace hcm := hcm.below hb7
  replace hcr := hcr.below hb7
  replace HBT := Below.cons HBT hb7
  clear hb7
  have qc0 := Rc.c (i := 0) rfl
  have qc1 := Rc.c (i := 1) rfl
  have qc2 := Rc.c (i := 2) rfl
  have qc3 := Rc.c (i := 3) rfl
  have qc4 := Rc.c (i := 4) rfl
  have qc5 := Rc.c (i := 5) rfl
  go_wp2_with (fail)
  refine (Calls.mono (CQ9.out _) ?_)
  rintro e W8 ⟨Xq9, cq9, Yq9, dq9, rfl, hq9, gq9, hb8⟩
  replace hT := hT.below hb8
  replace hG := hG.below hb8
  replace hp := hp.below hb8
  replace hcm := hcm.below hb8
  replace hcr := hcr.below hb8
  replace Rc := Rc.below hb8
  replace qc0 := cbl hb8 qc0
  replace qc1 := cbl hb8 qc1
  replace qc2 := cbl hb8 qc2
  replace qc3 := cbl hb8 qc3
  replace qc4 := cbl hb8 qc4
  replace qc5 := cbl hb8 qc5
  replace HBT := Below.cons HBT hb8
  clear hb8
  go_wp2_with (fail)
  refine (Calls.mono (CC.out _ _ _ _ _ hq9 gq9 hT) ?_)
  rintro e W9 ⟨Xd7, cd7, rfl, hd7, hb9⟩
  replace hT := hT.below hb9
  replace hG := hG.below hb9
  replace hp := hp.below hb9
  replace hcm := hcm.below hb9
  replace hcr := hcr.below hb9
  replace Rc := Rc.below hb9
  replace qc0 := cbl hb9 qc0
  replace qc1 := cbl hb9 qc1
  replace qc2 := cbl hb9 qc2
  replace qc3 := cbl hb9 qc3
  replace qc4 := cbl hb9 qc4
  replace qc5 := cbl hb9 qc5
  replace hq9 := hq9.below hb9
  replace gq9 := gq9.below hb9
  replace HBT := Below.cons HBT hb9
  clear hb9
  clear hq9 gq9
  obtain ⟨hb10, Rd⟩ := bx1 W9 #[.bool (sg (dmn d7)), .slice Xd7 (nl (mg (dmn d7))) cd7, .int .i64 (dex d7)] 33
  replace hT := hT.below hb10
  replace hG := hG.below hb10
  replace hp := hp.below hb10
  replace hcm := hcm.below hb10
  replace hcr := hcr.below hb10
  replace Rc := Rc.below hb10
  replace qc0 := cbl hb10 qc0
  replace qc1 := cbl hb10 qc1
  replace qc2 := cbl hb10 qc2
  replace qc3 := cbl hb10 qc3
  replace qc4 := cbl hb10 qc4
  replace qc5 := cbl hb10 qc5
  replace hd7 := hd7.below hb10
  replace HBT := Below.cons HBT hb10
  clear hb10
  have qd0 := Rd.c (i := 0) rfl
  have qd1 := Rd.c (i := 1) rfl
  have qd2 := Rd.c (i := 2) rfl
  go_wp2_with (fail)
  refine (Calls.mono (CQ3.out _) ?_)
  rintro e W11 ⟨Xt, ct, Yt, dt, rfl, ht, gt, hb11⟩
  replace hT := hT.below hb11
  replace hG := hG.below hb11
  replace hp := hp.below hb11
  replace hcm := hcm.below hb11
  replace hcr := hcr.below hb11
  replace Rc := Rc.below hb11
  replace qc0 := cbl hb11 qc0
  replace qc1 := cbl hb11 qc1
  replace qc2 := cbl hb11 qc2
  replace qc3 := cbl hb11 qc3
  replace qc4 := cbl hb11 qc4
  replace qc5 := cbl hb11 qc5
  replace hd7 := hd7.below hb11
  replace Rd := Rd.below hb11
  replace qd0 := cbl hb11 qd0
  replace qd1 := cbl hb11 qd1
  replace qd2 := cbl hb11 qd2
  replace HBT := Below.cons HBT hb11
  clear hb11
  go_wp2_with (fail)
  refine (Calls.mono (CE.out _ _ _ _ _ _ _ hp ht gt hG) ?_)
  rintro e W12 ⟨Xvq, cvq, Yvq, dvq, rfl, hvq, gvq, hb12⟩
  replace hT := hT.below hb12
  replace hG := hG.below hb12
  replace hp := hp.below hb12
  replace hcm := hcm.below hb12
  replace hcr := hcr.below hb12
  replace Rc := Rc.below hb12
  replace qc0 := cbl hb12 qc0
  replace qc1 := cbl hb12 qc1
  replace qc2 := cbl hb12 qc2
  replace qc3 := cbl hb12 qc3
  replace qc4 := cbl hb12 qc4
  replace qc5 := cbl hb12 qc5
  replace hd7 := hd7.below hb12
  replace Rd := Rd.below hb12
  replace qd0 := cbl hb12 qd0
  replace qd1 := cbl hb12 qd1
  replace qd2 := cbl hb12 qd2
  replace ht := ht.below hb12
  replace gt := gt.below hb12
  replace HBT := Below.cons HBT hb12
  clear hb12
  go_wp2_with (fail)
  clear ht gt
  refine (Calls.mono (CT.out _ _ _ _ _ hvq gvq) ?_)
  rintro e W13 ⟨Xx, cx, rfl, hx, hb13⟩
  replace hT := hT.below hb13
  replace hG := hG.below hb13
  replace hp := hp.below hb13
  replace hcm := hcm.below hb13
  replace hcr := hcr.below hb13
  replace Rc := Rc.below hb13
  replace qc0 := cbl hb13 qc0
  replace qc1 := cbl hb13 qc1
  replace qc2 := cbl hb13 qc2
  replace qc3 := cbl hb13 qc3
  replace qc4 := cbl hb13 qc4
  replace qc5 := cbl hb13 qc5
  replace hd7 := hd7.below hb13
  replace Rd := Rd.below hb13
  replace qd0 := cbl hb13 qd0
  replace qd1 := cbl hb13 qd1
  replace qd2 := cbl hb13 qd2
  replace hvq := hvq.below hb13
  replace gvq := gvq.below hb13
  replace HBT := Below.cons HBT hb13
  clear hb13
  clear hvq gvq
  rw [nx9.out]
  obtain ⟨ad, X1, d1, rfl, c10, c11, h1_⟩ := hx.a 0 (by rw [nx9.out]; decide)
  obtain ⟨ad2, X2, d2, e2, c20, c21, h2_⟩ := hx.a 1 (by rw [nx9.out]; decide)
  cases e2
  rw [g0.out] at c10 c11 h1_
  rw [g1.out] at c20 c21 h2_
  clear hx
  have z1 : ad.add (0 * 2) = ad := by unfold Addr.add; simp
  rw [z1] at c10 c11
  clear z1
  have z2 : ad.add (1 * 2) = ⟨ad.block, ad.off + 2, none⟩ := by unfold Addr.add; simp
  rw [z2] at c20 c21
  clear z2
  go_wp2_with (fail)
  generalize hW0 : W13 = W0 at *
  replace hW0 := Lib.hid hW0
  refine wp_region_fin 45 1 [.val (.slice Xp 3 cp), .slb W0.heap.size 2 2 #[.int .i64 (-3), .int .i64 1], .pol b3, .int sev, .int sev, .val (.bool true), .val (.bool true), .val (.agg #[.bool (sg (dmn cm)), .slice Xcm (nl (mg (dmn cm))) ccm, .int .i64 (dex cm), .bool (sg (dmn cr)), .slice Xcr (nl (mg (dmn cr))) ccr, .int .i64 (dex cr)]), .rat q9, .val (.bool true), .val (.bool true), .val (.bool true), .val (.agg #[.bool (sg (dmn cm)), .slice Xcm (nl (mg (dmn cm))) ccm, .int .i64 (dex cm), .bool (sg (dmn cr)), .slice Xcr (nl (mg (dmn cr))) ccr, .int .i64 (dex cr)]), .rat q4, .val (.bool false), .val (.bool true), .val (.bool true), .val (.bool true), .val (.int .i64 0), .val (.bool true), .val (.bool true), .val (.bool true), .val (.agg #[.bool (sg (dmn d7)), .slice Xd7 (nl (mg (dmn d7))) cd7, .int .i64 (dex d7)]), .val (.int .i64 1), .val (.bool true), .val (.bool true), .val (.bool true), .val (.slice (some ad) 2 cx), .val (.int .i64 2), .val (.bool true), .val (.bool true), .val (.bool true), .val (.slice (some ad) 2 cx), .val (.pointer (some ad)), .val (.agg #[.bool (sg mtw), .slice X1 (nl (mg mtw)) d1]), .int mtw, .val (.bool true), .val (.bool true), .val (.bool true), .val (.slice (some ad) 2 cx), .val (.pointer (some ⟨ad.block, ad.off + 2, none⟩)), .val (.agg #[.bool (sg nin), .slice X2 (nl (mg nin)) d2]), .int nin, .val (.bool true), .val (.bool true)] (by kernel_rfl) (by kernel_rfl) (by kernel_rfl) (by kernel_rfl) (by kernel_rfl) rfl ?_ ?_
  · skip
    refine ⟨?_, ?_⟩
    · intro Ew aw wc st hdep
      have t1 : aw.tmps[1]? = some (.slice Xp 3 cp) := (st.old 1 (by kernel_rfl)).trans (by rfl)
      have e1 := tmp_of t1
      refine op_want rfl (by rfl) (fun K' hK' => ?_)
      go_simp
      exact hK'.out _ _ ⟨_, rfl, rfl, Below.refl _ _⟩
    refine ⟨?_, ?_⟩
    · intro Ew aw wc st hdep
      refine op_want rfl (by rfl) (fun K' hK' => ?_)
      go_simp
      exact hK'.out _ _ ⟨_, rfl, ⟨_, rfl, st.b.size, ⟨at_new rfl⟩⟩, (Below.refl _ _).alloc (Nat.le_refl _) _⟩
    refine ⟨?_, ?_⟩
    · intro Ew aw wc st hdep
      obtain ⟨v24, t24, r24⟩ := st.nw hdep 1 24
      obtain ⟨gs24, rfl, hn24, h24⟩ := r24
      have e24 := tmp_of t24
      refine op_want rfl (by rfl) (fun K' hK' => ?_)
      go_simp
      refine (Calls.mono (R := RetP wc b3) (CW2.out wc _ (h24.c (i := 0) rfl) (h24.c (i := 1) rfl)) ?_)
      rintro e W ⟨X, c, rfl, hX, kb⟩
      exact hK'.out _ _ ⟨_, rfl, ⟨X, c, rfl, hX⟩, kb⟩
    refine ⟨?_, ?_⟩
    · intro Ew aw wc st hdep
      obtain ⟨v23, t23, r23⟩ := st.nw hdep 0 23
      obtain rfl : v23 = .slice Xp 3 cp := r23
      obtain ⟨v25, t25, r25⟩ := st.nw hdep 2 25
      obtain ⟨X25, c25, rfl, h25⟩ := r25
      have e23 := tmp_of t23
      have e25 := tmp_of t25
      refine op_want rfl (by rfl) (fun K' hK' => ?_)
      go_simp
      refine (Calls.mono (R := RetI wc sev) (CR.out wc _ _ _ _ (hp.below st.b) h25 (hG.below st.b)) ?_)
      rintro e W ⟨X, c, rfl, hX, kb⟩
      exact hK'.out _ _ ⟨_, rfl, ⟨X, c, rfl, hX⟩, kb⟩
    refine ⟨?_, ?_⟩
    · intro Ew aw wc st hdep
      refine op_want rfl (by rfl) (fun K' hK' => ?_)
      go_simp
      refine (Calls.mono (R := RetI wc sev) (CZ7.out wc) ?_)
      rintro e W ⟨X, c, rfl, hX, kb⟩
      exact hK'.out _ _ ⟨_, rfl, ⟨X, c, rfl, hX⟩, kb⟩
    refine ⟨?_, ?_⟩
    · intro Ew aw wc st hdep
      obtain ⟨v26, t26, r26⟩ := st.nw hdep 3 26
      obtain ⟨X26, c26, rfl, h26⟩ := r26
      obtain ⟨v27, t27, r27⟩ := st.nw hdep 4 27
      obtain ⟨X27, c27, rfl, h27⟩ := r27
      have e26 := tmp_of t26
      have e27 := tmp_of t27
      refine op_want rfl (by rfl) (fun K' hK' => ?_)
      go_simp
      refine (Calls.mono (CS7.out wc _ _ _ _ h26 h27) ?_)
      rintro e W ⟨rfl, kb⟩
      exact hK'.out _ _ ⟨_, rfl, rfl, kb⟩
    refine ⟨?_, ?_⟩
    · intro Ew aw wc st hdep
      obtain ⟨v28, t28, r28⟩ := st.nw hdep 5 28
      obtain rfl : v28 = .bool true := r28
      have e28 := tmp_of t28
      refine op_want rfl (by rfl) (fun K' hK' => ?_)
      go_simp
      exact hK'.out _ _ ⟨_, rfl, rfl, Below.refl _ _⟩
    refine ⟨?_, ?_⟩
    · intro Ew aw wc st hdep
      have t3 : aw.tmps[3]? = some (.pointer (some ⟨W6.heap.size, 0, none⟩)) := (st.old 3 (by kernel_rfl)).trans (by rfl)
      obtain ⟨v29, t29, r29⟩ := st.nw hdep 6 29
      obtain rfl : v29 = .bool true := r29
      have qc0 := cbl st.b qc0
      have qc1 := cbl st.b qc1
      have qc2 := cbl st.b qc2
      have qc3 := cbl st.b qc3
      have qc4 := cbl st.b qc4
      have qc5 := cbl st.b qc5
      have e3 := tmp_of t3
      refine op_want rfl (want_of (by rfl) (by rfl) t29) (fun K' hK' => ?_)
      go_simp
      exact hK'.out _ _ ⟨_, rfl, rfl, Below.refl _ _⟩
    refine ⟨?_, ?_⟩
    · intro Ew aw wc st hdep
      obtain ⟨v29, t29, r29⟩ := st.nw hdep 6 29
      obtain rfl : v29 = .bool true := r29
      refine op_want rfl (want_of (by rfl) (by rfl) t29) (fun K' hK' => ?_)
      go_simp
      refine (Calls.mono (R := RetR wc q9) (CQ9.out wc) ?_)
      rintro e W ⟨X, c, Y, d, rfl, hX, hY, kb⟩
      exact hK'.out _ _ ⟨_, rfl, ⟨X, c, Y, d, rfl, hX, hY⟩, kb⟩
    refine ⟨?_, ?_⟩
    · intro Ew aw wc st hdep
      obtain ⟨v30, t30, r30⟩ := st.nw hdep 7 30
      obtain rfl : v30 = .agg #[.bool (sg (dmn cm)), .slice Xcm (nl (mg (dmn cm))) ccm, .int .i64 (dex cm), .bool (sg (dmn cr)), .slice Xcr (nl (mg (dmn cr))) ccr, .int .i64 (dex cr)] := r30
      obtain ⟨v31, t31, r31⟩ := st.nw hdep 8 31
      obtain ⟨X31, c31, Y31, d31, rfl, h31, g31⟩ := r31
      obtain ⟨v29, t29, r29⟩ := st.nw hdep 6 29
      obtain rfl : v29 = .bool true := r29
      have e30 := tmp_of t30
      have e31 := tmp_of t31
      refine op_want rfl (want_of (by rfl) (by rfl) t29) (fun K' hK' => ?_)
      go_simp
      refine (Calls.mono (CH9.out wc _ _ _ _ _ _ _ _ (hcm.below st.b) (hcr.below st.b) h31 g31 (hT.below st.b) (hG.below st.b)) ?_)
      rintro e W ⟨rfl, kb⟩
      exact hK'.out _ _ ⟨_, rfl, rfl, kb⟩
    refine ⟨?_, ?_⟩
    · intro Ew aw wc st hdep
      obtain ⟨v29, t29, r29⟩ := st.nw hdep 6 29
      obtain rfl : v29 = .bool true := r29
      obtain ⟨v32, t32, r32⟩ := st.nw hdep 9 32
      obtain rfl : v32 = .bool true := r32
      have e29 := tmp_of t29
      have e32 := tmp_of t32
      refine op_want rfl (by rfl) (fun K' hK' => ?_)
      go_simp
      exact hK'.out _ _ ⟨_, rfl, rfl, Below.refl _ _⟩
    refine ⟨?_, ?_⟩
    · intro Ew aw wc st hdep
      obtain ⟨v33, t33, r33⟩ := st.nw hdep 10 33
      obtain rfl : v33 = .bool true := r33
      have e33 := tmp_of t33
      refine op_want rfl (by rfl) (fun K' hK' => ?_)
      go_simp
      exact hK'.out _ _ ⟨_, rfl, rfl, Below.refl _ _⟩
    refine ⟨?_, ?_⟩
    · intro Ew aw wc st hdep
      have t3 : aw.tmps[3]? = some (.pointer (some ⟨W6.heap.size, 0, none⟩)) := (st.old 3 (by kernel_rfl)).trans (by rfl)
      obtain ⟨v34, t34, r34⟩ := st.nw hdep 11 34
      obtain rfl : v34 = .bool true := r34
      have qc0 := cbl st.b qc0
      have qc1 := cbl st.b qc1
      have qc2 := cbl st.b qc2
      have qc3 := cbl st.b qc3
      have qc4 := cbl st.b qc4
      have qc5 := cbl st.b qc5
      have e3 := tmp_of t3
      refine op_want rfl (want_of (by rfl) (by rfl) t34) (fun K' hK' => ?_)
      go_simp
      exact hK'.out _ _ ⟨_, rfl, rfl, Below.refl _ _⟩
    refine ⟨?_, ?_⟩
    · intro Ew aw wc st hdep
      obtain ⟨v34, t34, r34⟩ := st.nw hdep 11 34
      obtain rfl : v34 = .bool true := r34
      refine op_want rfl (want_of (by rfl) (by rfl) t34) (fun K' hK' => ?_)
      go_simp
      refine (Calls.mono (R := RetR wc q4) (CQ4.out wc) ?_)
      rintro e W ⟨X, c, Y, d, rfl, hX, hY, kb⟩
      exact hK'.out _ _ ⟨_, rfl, ⟨X, c, Y, d, rfl, hX, hY⟩, kb⟩
    refine ⟨?_, ?_⟩
    · intro Ew aw wc st hdep
      obtain ⟨v35, t35, r35⟩ := st.nw hdep 12 35
      obtain rfl : v35 = .agg #[.bool (sg (dmn cm)), .slice Xcm (nl (mg (dmn cm))) ccm, .int .i64 (dex cm), .bool (sg (dmn cr)), .slice Xcr (nl (mg (dmn cr))) ccr, .int .i64 (dex cr)] := r35
      obtain ⟨v36, t36, r36⟩ := st.nw hdep 13 36
      obtain ⟨X36, c36, Y36, d36, rfl, h36, g36⟩ := r36
      obtain ⟨v34, t34, r34⟩ := st.nw hdep 11 34
      obtain rfl : v34 = .bool true := r34
      have e35 := tmp_of t35
      have e36 := tmp_of t36
      refine op_want rfl (want_of (by rfl) (by rfl) t34) (fun K' hK' => ?_)
      go_simp
      refine (Calls.mono (CH4.out wc _ _ _ _ _ _ _ _ (hcm.below st.b) (hcr.below st.b) h36 g36 (hT.below st.b) (hG.below st.b)) ?_)
      rintro e W ⟨rfl, kb⟩
      exact hK'.out _ _ ⟨_, rfl, rfl, kb⟩
    refine ⟨?_, ?_⟩
    · intro Ew aw wc st hdep
      obtain ⟨v37, t37, r37⟩ := st.nw hdep 14 37
      obtain rfl : v37 = .bool false := r37
      obtain ⟨v34, t34, r34⟩ := st.nw hdep 11 34
      obtain rfl : v34 = .bool true := r34
      have e37 := tmp_of t37
      refine op_want rfl (want_of (by rfl) (by rfl) t34) (fun K' hK' => ?_)
      go_simp
      exact hK'.out _ _ ⟨_, rfl, rfl, Below.refl _ _⟩
    refine ⟨?_, ?_⟩
    · intro Ew aw wc st hdep
      obtain ⟨v34, t34, r34⟩ := st.nw hdep 11 34
      obtain rfl : v34 = .bool true := r34
      obtain ⟨v38, t38, r38⟩ := st.nw hdep 15 38
      obtain rfl : v38 = .bool true := r38
      have e34 := tmp_of t34
      have e38 := tmp_of t38
      refine op_want rfl (by rfl) (fun K' hK' => ?_)
      go_simp
      exact hK'.out _ _ ⟨_, rfl, rfl, Below.refl _ _⟩
    refine ⟨?_, ?_⟩
    · intro Ew aw wc st hdep
      obtain ⟨v39, t39, r39⟩ := st.nw hdep 16 39
      obtain rfl : v39 = .bool true := r39
      have e39 := tmp_of t39
      refine op_want rfl (by rfl) (fun K' hK' => ?_)
      go_simp
      exact hK'.out _ _ ⟨_, rfl, rfl, Below.refl _ _⟩
    refine ⟨?_, ?_⟩
    · intro Ew aw wc st hdep
      have t5 : aw.tmps[5]? = some (.int .i64 0) := (st.old 5 (by kernel_rfl)).trans (by rfl)
      obtain ⟨v40, t40, r40⟩ := st.nw hdep 17 40
      obtain rfl : v40 = .bool true := r40
      have e5 := tmp_of t5
      refine op_want rfl (want_of (by rfl) (by rfl) t40) (fun K' hK' => ?_)
      go_simp
      exact hK'.out _ _ ⟨_, rfl, rfl, Below.refl _ _⟩
    refine ⟨?_, ?_⟩
    · intro Ew aw wc st hdep
      obtain ⟨v41, t41, r41⟩ := st.nw hdep 18 41
      obtain rfl : v41 = .int .i64 0 := r41
      obtain ⟨v40, t40, r40⟩ := st.nw hdep 17 40
      obtain rfl : v40 = .bool true := r40
      have e41 := tmp_of t41
      refine op_want rfl (want_of (by rfl) (by rfl) t40) (fun K' hK' => ?_)
      go_simp
      exact hK'.out _ _ ⟨_, rfl, rfl, Below.refl _ _⟩
    refine ⟨?_, ?_⟩
    · intro Ew aw wc st hdep
      obtain ⟨v40, t40, r40⟩ := st.nw hdep 17 40
      obtain rfl : v40 = .bool true := r40
      obtain ⟨v42, t42, r42⟩ := st.nw hdep 19 42
      obtain rfl : v42 = .bool true := r42
      have e40 := tmp_of t40
      have e42 := tmp_of t42
      refine op_want rfl (by rfl) (fun K' hK' => ?_)
      go_simp
      exact hK'.out _ _ ⟨_, rfl, rfl, Below.refl _ _⟩
    refine ⟨?_, ?_⟩
    · intro Ew aw wc st hdep
      obtain ⟨v43, t43, r43⟩ := st.nw hdep 20 43
      obtain rfl : v43 = .bool true := r43
      have e43 := tmp_of t43
      refine op_want rfl (by rfl) (fun K' hK' => ?_)
      go_simp
      exact hK'.out _ _ ⟨_, rfl, rfl, Below.refl _ _⟩
    refine ⟨?_, ?_⟩
    · intro Ew aw wc st hdep
      have t4 : aw.tmps[4]? = some (.pointer (some ⟨W9.heap.size, 0, none⟩)) := (st.old 4 (by kernel_rfl)).trans (by rfl)
      obtain ⟨v44, t44, r44⟩ := st.nw hdep 21 44
      obtain rfl : v44 = .bool true := r44
      have qd0 := cbl st.b qd0
      have qd1 := cbl st.b qd1
      have qd2 := cbl st.b qd2
      have e4 := tmp_of t4
      refine op_want rfl (want_of (by rfl) (by rfl) t44) (fun K' hK' => ?_)
      go_simp
      exact hK'.out _ _ ⟨_, rfl, rfl, Below.refl _ _⟩
    refine ⟨?_, ?_⟩
    · intro Ew aw wc st hdep
      obtain ⟨v45, t45, r45⟩ := st.nw hdep 22 45
      obtain rfl : v45 = .agg #[.bool (sg (dmn d7)), .slice Xd7 (nl (mg (dmn d7))) cd7, .int .i64 (dex d7)] := r45
      obtain ⟨v44, t44, r44⟩ := st.nw hdep 21 44
      obtain rfl : v44 = .bool true := r44
      have e45 := tmp_of t45
      refine op_want rfl (want_of (by rfl) (by rfl) t44) (fun K' hK' => ?_)
      go_simp
      refine (Calls.mono (CG.out wc _ _ (hd7.below st.b)) ?_)
      rintro e W ⟨rfl, kb⟩
      exact hK'.out _ _ ⟨_, rfl, rfl, kb⟩
    refine ⟨?_, ?_⟩
    · intro Ew aw wc st hdep
      obtain ⟨v46, t46, r46⟩ := st.nw hdep 23 46
      obtain rfl : v46 = .int .i64 1 := r46
      obtain ⟨v44, t44, r44⟩ := st.nw hdep 21 44
      obtain rfl : v44 = .bool true := r44
      have e46 := tmp_of t46
      refine op_want rfl (want_of (by rfl) (by rfl) t44) (fun K' hK' => ?_)
      go_simp
      exact hK'.out _ _ ⟨_, rfl, rfl, Below.refl _ _⟩
    refine ⟨?_, ?_⟩
    · intro Ew aw wc st hdep
      obtain ⟨v44, t44, r44⟩ := st.nw hdep 21 44
      obtain rfl : v44 = .bool true := r44
      obtain ⟨v47, t47, r47⟩ := st.nw hdep 24 47
      obtain rfl : v47 = .bool true := r47
      have e44 := tmp_of t44
      have e47 := tmp_of t47
      refine op_want rfl (by rfl) (fun K' hK' => ?_)
      go_simp
      exact hK'.out _ _ ⟨_, rfl, rfl, Below.refl _ _⟩
    refine ⟨?_, ?_⟩
    · intro Ew aw wc st hdep
      obtain ⟨v48, t48, r48⟩ := st.nw hdep 25 48
      obtain rfl : v48 = .bool true := r48
      have e48 := tmp_of t48
      refine op_want rfl (by rfl) (fun K' hK' => ?_)
      go_simp
      exact hK'.out _ _ ⟨_, rfl, rfl, Below.refl _ _⟩
    refine ⟨?_, ?_⟩
    · intro Ew aw wc st hdep
      have t6 : aw.tmps[6]? = some (.slice (some ad) 2 cx) := (st.old 6 (by kernel_rfl)).trans (by rfl)
      obtain ⟨v49, t49, r49⟩ := st.nw hdep 26 49
      obtain rfl : v49 = .bool true := r49
      have e6 := tmp_of t6
      refine op_want rfl (want_of (by rfl) (by rfl) t49) (fun K' hK' => ?_)
      go_simp
      exact hK'.out _ _ ⟨_, rfl, rfl, Below.refl _ _⟩
    refine ⟨?_, ?_⟩
    · intro Ew aw wc st hdep
      obtain ⟨v50, t50, r50⟩ := st.nw hdep 27 50
      obtain rfl : v50 = .slice (some ad) 2 cx := r50
      obtain ⟨v49, t49, r49⟩ := st.nw hdep 26 49
      obtain rfl : v49 = .bool true := r49
      have e50 := tmp_of t50
      refine op_want rfl (want_of (by rfl) (by rfl) t49) (fun K' hK' => ?_)
      go_simp
      exact hK'.out _ _ ⟨_, rfl, rfl, Below.refl _ _⟩
    refine ⟨?_, ?_⟩
    · intro Ew aw wc st hdep
      obtain ⟨v51, t51, r51⟩ := st.nw hdep 28 51
      obtain rfl : v51 = .int .i64 2 := r51
      obtain ⟨v49, t49, r49⟩ := st.nw hdep 26 49
      obtain rfl : v49 = .bool true := r49
      have e51 := tmp_of t51
      refine op_want rfl (want_of (by rfl) (by rfl) t49) (fun K' hK' => ?_)
      go_simp
      exact hK'.out _ _ ⟨_, rfl, rfl, Below.refl _ _⟩
    refine ⟨?_, ?_⟩
    · intro Ew aw wc st hdep
      obtain ⟨v49, t49, r49⟩ := st.nw hdep 26 49
      obtain rfl : v49 = .bool true := r49
      obtain ⟨v52, t52, r52⟩ := st.nw hdep 29 52
      obtain rfl : v52 = .bool true := r52
      have e49 := tmp_of t49
      have e52 := tmp_of t52
      refine op_want rfl (by rfl) (fun K' hK' => ?_)
      go_simp
      exact hK'.out _ _ ⟨_, rfl, rfl, Below.refl _ _⟩
    refine ⟨?_, ?_⟩
    · intro Ew aw wc st hdep
      obtain ⟨v53, t53, r53⟩ := st.nw hdep 30 53
      obtain rfl : v53 = .bool true := r53
      have e53 := tmp_of t53
      refine op_want rfl (by rfl) (fun K' hK' => ?_)
      go_simp
      exact hK'.out _ _ ⟨_, rfl, rfl, Below.refl _ _⟩
    refine ⟨?_, ?_⟩
    · intro Ew aw wc st hdep
      have t6 : aw.tmps[6]? = some (.slice (some ad) 2 cx) := (st.old 6 (by kernel_rfl)).trans (by rfl)
      obtain ⟨v54, t54, r54⟩ := st.nw hdep 31 54
      obtain rfl : v54 = .bool true := r54
      have e6 := tmp_of t6
      refine op_want rfl (want_of (by rfl) (by rfl) t54) (fun K' hK' => ?_)
      go_simp
      exact hK'.out _ _ ⟨_, rfl, rfl, Below.refl _ _⟩
    refine ⟨?_, ?_⟩
    · intro Ew aw wc st hdep
      obtain ⟨v55, t55, r55⟩ := st.nw hdep 32 55
      obtain rfl : v55 = .slice (some ad) 2 cx := r55
      obtain ⟨v54, t54, r54⟩ := st.nw hdep 31 54
      obtain rfl : v54 = .bool true := r54
      have e55 := tmp_of t55
      refine op_want rfl (want_of (by rfl) (by rfl) t54) (fun K' hK' => ?_)
      go_simp
      exact hK'.out _ _ ⟨_, rfl, rfl, Below.refl _ _⟩
    refine ⟨?_, ?_⟩
    · intro Ew aw wc st hdep
      obtain ⟨v56, t56, r56⟩ := st.nw hdep 33 56
      obtain rfl : v56 = .pointer (some ad) := r56
      obtain ⟨v54, t54, r54⟩ := st.nw hdep 31 54
      obtain rfl : v54 = .bool true := r54
      have c10 := cbl st.b c10
      have c11 := cbl st.b c11
      have e56 := tmp_of t56
      refine op_want rfl (want_of (by rfl) (by rfl) t54) (fun K' hK' => ?_)
      go_simp
      exact hK'.out _ _ ⟨_, rfl, rfl, Below.refl _ _⟩
    refine ⟨?_, ?_⟩
    · intro Ew aw wc st hdep
      obtain ⟨v54, t54, r54⟩ := st.nw hdep 31 54
      obtain rfl : v54 = .bool true := r54
      refine op_want rfl (want_of (by rfl) (by rfl) t54) (fun K' hK' => ?_)
      go_simp
      refine (Calls.mono (R := RetI wc mtw) (CZ2.out wc) ?_)
      rintro e W ⟨X, c, rfl, hX, kb⟩
      exact hK'.out _ _ ⟨_, rfl, ⟨X, c, rfl, hX⟩, kb⟩
    refine ⟨?_, ?_⟩
    · intro Ew aw wc st hdep
      obtain ⟨v57, t57, r57⟩ := st.nw hdep 34 57
      obtain rfl : v57 = .agg #[.bool (sg mtw), .slice X1 (nl (mg mtw)) d1] := r57
      obtain ⟨v58, t58, r58⟩ := st.nw hdep 35 58
      obtain ⟨X58, c58, rfl, h58⟩ := r58
      obtain ⟨v54, t54, r54⟩ := st.nw hdep 31 54
      obtain rfl : v54 = .bool true := r54
      have e57 := tmp_of t57
      have e58 := tmp_of t58
      refine op_want rfl (want_of (by rfl) (by rfl) t54) (fun K' hK' => ?_)
      go_simp
      refine (Calls.mono (CS2.out wc _ _ _ _ (h1_.below st.b) h58) ?_)
      rintro e W ⟨rfl, kb⟩
      exact hK'.out _ _ ⟨_, rfl, rfl, kb⟩
    refine ⟨?_, ?_⟩
    · intro Ew aw wc st hdep
      obtain ⟨v54, t54, r54⟩ := st.nw hdep 31 54
      obtain rfl : v54 = .bool true := r54
      obtain ⟨v59, t59, r59⟩ := st.nw hdep 36 59
      obtain rfl : v59 = .bool true := r59
      have e54 := tmp_of t54
      have e59 := tmp_of t59
      refine op_want rfl (by rfl) (fun K' hK' => ?_)
      go_simp
      exact hK'.out _ _ ⟨_, rfl, rfl, Below.refl _ _⟩
    refine ⟨?_, ?_⟩
    · intro Ew aw wc st hdep
      obtain ⟨v60, t60, r60⟩ := st.nw hdep 37 60
      obtain rfl : v60 = .bool true := r60
      have e60 := tmp_of t60
      refine op_want rfl (by rfl) (fun K' hK' => ?_)
      go_simp
      exact hK'.out _ _ ⟨_, rfl, rfl, Below.refl _ _⟩
    refine ⟨?_, ?_⟩
    · intro Ew aw wc st hdep
      have t6 : aw.tmps[6]? = some (.slice (some ad) 2 cx) := (st.old 6 (by kernel_rfl)).trans (by rfl)
      obtain ⟨v61, t61, r61⟩ := st.nw hdep 38 61
      obtain rfl : v61 = .bool true := r61
      have e6 := tmp_of t6
      refine op_want rfl (want_of (by rfl) (by rfl) t61) (fun K' hK' => ?_)
      go_simp
      exact hK'.out _ _ ⟨_, rfl, rfl, Below.refl _ _⟩
    refine ⟨?_, ?_⟩
    · intro Ew aw wc st hdep
      obtain ⟨v62, t62, r62⟩ := st.nw hdep 39 62
      obtain rfl : v62 = .slice (some ad) 2 cx := r62
      obtain ⟨v61, t61, r61⟩ := st.nw hdep 38 61
      obtain rfl : v61 = .bool true := r61
      have e62 := tmp_of t62
      refine op_want rfl (want_of (by rfl) (by rfl) t61) (fun K' hK' => ?_)
      go_simp
      exact hK'.out _ _ ⟨_, rfl, rfl, Below.refl _ _⟩
    refine ⟨?_, ?_⟩
    · intro Ew aw wc st hdep
      obtain ⟨v63, t63, r63⟩ := st.nw hdep 40 63
      obtain rfl : v63 = .pointer (some ⟨ad.block, ad.off + 2, none⟩) := r63
      obtain ⟨v61, t61, r61⟩ := st.nw hdep 38 61
      obtain rfl : v61 = .bool true := r61
      have c20 := cbl st.b c20
      have c21 := cbl st.b c21
      have e63 := tmp_of t63
      refine op_want rfl (want_of (by rfl) (by rfl) t61) (fun K' hK' => ?_)
      go_simp
      exact hK'.out _ _ ⟨_, rfl, rfl, Below.refl _ _⟩
    refine ⟨?_, ?_⟩
    · intro Ew aw wc st hdep
      obtain ⟨v61, t61, r61⟩ := st.nw hdep 38 61
      obtain rfl : v61 = .bool true := r61
      refine op_want rfl (want_of (by rfl) (by rfl) t61) (fun K' hK' => ?_)
      go_simp
      refine (Calls.mono (R := RetI wc nin) (CZ9.out wc) ?_)
      rintro e W ⟨X, c, rfl, hX, kb⟩
      exact hK'.out _ _ ⟨_, rfl, ⟨X, c, rfl, hX⟩, kb⟩
    refine ⟨?_, ?_⟩
    · intro Ew aw wc st hdep
      obtain ⟨v64, t64, r64⟩ := st.nw hdep 41 64
      obtain rfl : v64 = .agg #[.bool (sg nin), .slice X2 (nl (mg nin)) d2] := r64
      obtain ⟨v65, t65, r65⟩ := st.nw hdep 42 65
      obtain ⟨X65, c65, rfl, h65⟩ := r65
      obtain ⟨v61, t61, r61⟩ := st.nw hdep 38 61
      obtain rfl : v61 = .bool true := r61
      have e64 := tmp_of t64
      have e65 := tmp_of t65
      refine op_want rfl (want_of (by rfl) (by rfl) t61) (fun K' hK' => ?_)
      go_simp
      refine (Calls.mono (CS9.out wc _ _ _ _ (h2_.below st.b) h65) ?_)
      rintro e W ⟨rfl, kb⟩
      exact hK'.out _ _ ⟨_, rfl, rfl, kb⟩
    refine ⟨?_, ?_⟩
    · intro Ew aw wc st hdep
      obtain ⟨v61, t61, r61⟩ := st.nw hdep 38 61
      obtain rfl : v61 = .bool true := r61
      obtain ⟨v66, t66, r66⟩ := st.nw hdep 43 66
      obtain rfl : v66 = .bool true := r66
      have e61 := tmp_of t61
      have e66 := tmp_of t66
      refine op_want rfl (by rfl) (fun K' hK' => ?_)
      go_simp
      exact hK'.out _ _ ⟨_, rfl, rfl, Below.refl _ _⟩
    exact trivial
  intro vs wc hr hB
  obtain ⟨u23, r_23, rfl, k23, hr_23⟩ := hr.un
  obtain rfl : u23 = .slice Xp 3 cp := k23
  obtain ⟨u24, r_24, rfl, k24, hr_24⟩ := hr_23.un
  obtain ⟨gs24, rfl, hn24, h24⟩ := k24
  obtain ⟨u25, r_25, rfl, k25, hr_25⟩ := hr_24.un
  obtain ⟨X25, c25, rfl, h25⟩ := k25
  obtain ⟨u26, r_26, rfl, k26, hr_26⟩ := hr_25.un
  obtain ⟨X26, c26, rfl, h26⟩ := k26
  obtain ⟨u27, r_27, rfl, k27, hr_27⟩ := hr_26.un
  obtain ⟨X27, c27, rfl, h27⟩ := k27
  obtain ⟨u28, r_28, rfl, k28, hr_28⟩ := hr_27.un
  obtain rfl : u28 = .bool true := k28
  obtain ⟨u29, r_29, rfl, k29, hr_29⟩ := hr_28.un
  obtain rfl : u29 = .bool true := k29
  obtain ⟨u30, r_30, rfl, k30, hr_30⟩ := hr_29.un
  obtain rfl : u30 = .agg #[.bool (sg (dmn cm)), .slice Xcm (nl (mg (dmn cm))) ccm, .int .i64 (dex cm), .bool (sg (dmn cr)), .slice Xcr (nl (mg (dmn cr))) ccr, .int .i64 (dex cr)] := k30
  obtain ⟨u31, r_31, rfl, k31, hr_31⟩ := hr_30.un
  obtain ⟨X31, c31, Y31, d31, rfl, h31, g31⟩ := k31
  obtain ⟨u32, r_32, rfl, k32, hr_32⟩ := hr_31.un
  obtain rfl : u32 = .bool true := k32
  obtain ⟨u33, r_33, rfl, k33, hr_33⟩ := hr_32.un
  obtain rfl : u33 = .bool true := k33
  obtain ⟨u34, r_34, rfl, k34, hr_34⟩ := hr_33.un
  obtain rfl : u34 = .bool true := k34
  obtain ⟨u35, r_35, rfl, k35, hr_35⟩ := hr_34.un
  obtain rfl : u35 = .agg #[.bool (sg (dmn cm)), .slice Xcm (nl (mg (dmn cm))) ccm, .int .i64 (dex cm), .bool (sg (dmn cr)), .slice Xcr (nl (mg (dmn cr))) ccr, .int .i64 (dex cr)] := k35
  obtain ⟨u36, r_36, rfl, k36, hr_36⟩ := hr_35.un
  obtain ⟨X36, c36, Y36, d36, rfl, h36, g36⟩ := k36
  obtain ⟨u37, r_37, rfl, k37, hr_37⟩ := hr_36.un
  obtain rfl : u37 = .bool false := k37
  obtain ⟨u38, r_38, rfl, k38, hr_38⟩ := hr_37.un
  obtain rfl : u38 = .bool true := k38
  obtain ⟨u39, r_39, rfl, k39, hr_39⟩ := hr_38.un
  obtain rfl : u39 = .bool true := k39
  obtain ⟨u40, r_40, rfl, k40, hr_40⟩ := hr_39.un
  obtain rfl : u40 = .bool true := k40
  obtain ⟨u41, r_41, rfl, k41, hr_41⟩ := hr_40.un
  obtain rfl : u41 = .int .i64 0 := k41
  obtain ⟨u42, r_42, rfl, k42, hr_42⟩ := hr_41.un
  obtain rfl : u42 = .bool true := k42
  obtain ⟨u43, r_43, rfl, k43, hr_43⟩ := hr_42.un
  obtain rfl : u43 = .bool true := k43
  obtain ⟨u44, r_44, rfl, k44, hr_44⟩ := hr_43.un
  obtain rfl : u44 = .bool true := k44
  obtain ⟨u45, r_45, rfl, k45, hr_45⟩ := hr_44.un
  obtain rfl : u45 = .agg #[.bool (sg (dmn d7)), .slice Xd7 (nl (mg (dmn d7))) cd7, .int .i64 (dex d7)] := k45
  obtain ⟨u46, r_46, rfl, k46, hr_46⟩ := hr_45.un
  obtain rfl : u46 = .int .i64 1 := k46
  obtain ⟨u47, r_47, rfl, k47, hr_47⟩ := hr_46.un
  obtain rfl : u47 = .bool true := k47
  obtain ⟨u48, r_48, rfl, k48, hr_48⟩ := hr_47.un
  obtain rfl : u48 = .bool true := k48
  obtain ⟨u49, r_49, rfl, k49, hr_49⟩ := hr_48.un
  obtain rfl : u49 = .bool true := k49
  obtain ⟨u50, r_50, rfl, k50, hr_50⟩ := hr_49.un
  obtain rfl : u50 = .slice (some ad) 2 cx := k50
  obtain ⟨u51, r_51, rfl, k51, hr_51⟩ := hr_50.un
  obtain rfl : u51 = .int .i64 2 := k51
  obtain ⟨u52, r_52, rfl, k52, hr_52⟩ := hr_51.un
  obtain rfl : u52 = .bool true := k52
  obtain ⟨u53, r_53, rfl, k53, hr_53⟩ := hr_52.un
  obtain rfl : u53 = .bool true := k53
  obtain ⟨u54, r_54, rfl, k54, hr_54⟩ := hr_53.un
  obtain rfl : u54 = .bool true := k54
  obtain ⟨u55, r_55, rfl, k55, hr_55⟩ := hr_54.un
  obtain rfl : u55 = .slice (some ad) 2 cx := k55
  obtain ⟨u56, r_56, rfl, k56, hr_56⟩ := hr_55.un
  obtain rfl : u56 = .pointer (some ad) := k56
  obtain ⟨u57, r_57, rfl, k57, hr_57⟩ := hr_56.un
  obtain rfl : u57 = .agg #[.bool (sg mtw), .slice X1 (nl (mg mtw)) d1] := k57
  obtain ⟨u58, r_58, rfl, k58, hr_58⟩ := hr_57.un
  obtain ⟨X58, c58, rfl, h58⟩ := k58
  obtain ⟨u59, r_59, rfl, k59, hr_59⟩ := hr_58.un
  obtain rfl : u59 = .bool true := k59
  obtain ⟨u60, r_60, rfl, k60, hr_60⟩ := hr_59.un
  obtain rfl : u60 = .bool true := k60
  obtain ⟨u61, r_61, rfl, k61, hr_61⟩ := hr_60.un
  obtain rfl : u61 = .bool true := k61
  obtain ⟨u62, r_62, rfl, k62, hr_62⟩ := hr_61.un
  obtain rfl : u62 = .slice (some ad) 2 cx := k62
  obtain ⟨u63, r_63, rfl, k63, hr_63⟩ := hr_62.un
  obtain rfl : u63 = .pointer (some ⟨ad.block, ad.off + 2, none⟩) := k63
  obtain ⟨u64, r_64, rfl, k64, hr_64⟩ := hr_63.un
  obtain rfl : u64 = .agg #[.bool (sg nin), .slice X2 (nl (mg nin)) d2] := k64
  obtain ⟨u65, r_65, rfl, k65, hr_65⟩ := hr_64.un
  obtain ⟨X65, c65, rfl, h65⟩ := k65
  obtain ⟨u66, r_66, rfl, k66, hr_66⟩ := hr_65.un
  obtain rfl : u66 = .bool true := k66
  obtain ⟨u67, r_67, rfl, k67, hr_67⟩ := hr_66.un
  obtain rfl : u67 = .bool true := k67
  obtain rfl := hr_67.nil
  clear hr hr_23 hr_24 hr_25 hr_26 hr_27 hr_28 hr_29 hr_30 hr_31 hr_32 hr_33 hr_34 hr_35 hr_36 hr_37 hr_38 hr_39 hr_40 hr_41 hr_42 hr_43 hr_44 hr_45 hr_46 hr_47 hr_48 hr_49 hr_50 hr_51 hr_52 hr_53 hr_54 hr_55 hr_56 hr_57 hr_58 hr_59 hr_60 hr_61 hr_62 hr_63 hr_64 hr_65 hr_66 hr_67
  replace hT := hT.below hB
  replace hG := hG.below hB
  replace hp := hp.below hB
  replace hcm := hcm.below hB
  replace hcr := hcr.below hB
  replace Rc := Rc.below hB
  replace qc0 := cbl hB qc0
  replace qc1 := cbl hB qc1
  replace qc2 := cbl hB qc2
  replace qc3 := cbl hB qc3
  replace qc4 := cbl hB qc4
  replace qc5 := cbl hB qc5
  replace hd7 := hd7.below hB
  replace Rd := Rd.below hB
  replace qd0 := cbl hB qd0
  replace qd1 := cbl hB qd1
  replace qd2 := cbl hB qd2
  replace h1_ := h1_.below hB
  replace h2_ := h2_.below hB
  replace c10 := cbl hB c10
  replace c11 := cbl hB c11
  replace c20 := cbl hB c20
  replace c21 := cbl hB c21
  replace HBT := Below.cons HBT hB
  clear hB
  simp only [upTo, List.take_succ_cons, List.take_zero, putAll, Act.put, seq0, seq1, seq2]
  refine TailP.one rfl (by rfl) (fun K' hK' => ?_)
  go_simp
  refine hK'.out _ _ ?_
  try simp only [Act.put, seq0, seq1, seq2]
  refine TailP.done ?_
  go_wp2_with (fail)
  exact bodyPost_ret (v := .bool true) (by simp [results, Tryz.results5, go_sem]) rfl ⟨rfl, HBT⟩
end Go.Proofs.YtopigejgadnkaaaGreatDoor

namespace Go.Proofs.YtopigejgadnkaaaGreatDoor
open Go.RowKit Go.Shelf
end Go.Proofs.YtopigejgadnkaaaGreatDoor
