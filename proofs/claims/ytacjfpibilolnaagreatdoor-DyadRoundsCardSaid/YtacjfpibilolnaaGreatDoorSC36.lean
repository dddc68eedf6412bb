/- The document's rationals, walked: Cmp, Sub, Floor, Ceil, Same. -/
import Derived.Test.YtacjfpibilolnaaGreatDoorSC35
set_option maxRecDepth 100000
set_option maxHeartbeats 4000000
set_option linter.unusedVariables false
set_option linter.unusedSimpArgs false
namespace Go.Proofs.YtacjfpibilolnaaGreatDoor
open Go.RowKit Go.Shelf
attribute [local go_sem] max2_i min2_i max_two min_two

theorem r9cmp_c (aA : Option Addr) (ac : Nat) (aB : Option Addr) (ad : Nat) (a : Rat) (bA : Option Addr) (bc : Nat) (bB : Option Addr) (bd : Nat) (b : Rat) (w : World) (ha : NatV w aA ac (mg a.num)) (ga : NatV w aB ad a.den) (hb : NatV w bA bc (mg b.num)) (gb : NatV w bB bd b.den) (la : nl (mg a.num) ≤ 262144) (ma : nl a.den ≤ 262144) (lb : nl (mg b.num) ≤ 262144) (mb : nl b.den ≤ 262144) :
    Calls Tryz.prog 35 #[.agg #[.bool (sg a.num), .slice aA (nl (mg a.num)) ac, .slice aB (nl a.den) ad], .agg #[.bool (sg b.num), .slice bA (nl (mg b.num)) bc, .slice bB (nl b.den) bd]] w (fun e w' => e = .returned (.int .i64 (rcmp a b)) ∧ Below w.heap.size w w') := by
  have hd := rcmp_icmp a b
  replace hd := Lib.hid hd
  obtain ⟨hb1, Ra, Rb⟩ := bx2 w #[.bool (sg a.num), .slice aA (nl (mg a.num)) ac, .slice aB (nl a.den) ad] 26 #[.bool (sg b.num), .slice bA (nl (mg b.num)) bc, .slice bB (nl b.den) bd] 26
  replace ha := ha.below hb1
  replace ga := ga.below hb1
  replace hb := hb.below hb1
  replace gb := gb.below hb1
  have HBT := hb1
  clear hb1
  have qa0 := Ra.c (i := 0) rfl
  have qa1 := Ra.c (i := 1) rfl
  have qa2 := Ra.c (i := 2) rfl
  have qb0 := Rb.c (i := 0) rfl
  have qb1 := Rb.c (i := 1) rfl
  have qb2 := Rb.c (i := 2) rfl
  go_enter Tryz.func35, Tryz.ntmps35
  go_wp2_with (fail)
  have hd2 := drb (((w.alloc (.cells #[.bool (sg a.num), .slice aA (nl (mg a.num)) ac, .slice aB (nl a.den) ad] 26)).alloc (.cells #[.bool (sg b.num), .slice bA (nl (mg b.num)) bc, .slice bB (nl b.den) bd] 26)))
  replace ha := ha.below hd2
  replace ga := ga.below hd2
  replace hb := hb.below hd2
  replace gb := gb.below hd2
  replace Ra := Ra.below hd2
  replace qa0 := cbl hd2 qa0
  replace qa1 := cbl hd2 qa1
  replace qa2 := cbl hd2 qa2
  replace Rb := Rb.below hd2
  replace qb0 := cbl hd2 qb0
  replace qb1 := cbl hd2 qb1
  replace qb2 := cbl hd2 qb2
  replace HBT := Below.cons HBT hd2
  clear hd2
  obtain ⟨v, Ev⟩ : ∃ zq : Int, zq = (b.den : Int) := ⟨_, rfl⟩
  have Nv : nl (mg v) ≤ 262144 := by rw [Ev, mg_nat]; exact mb
  have C2_0 := fun (W : World) (h1 : NatV W bB bd b.den) => r9nat_c bB bd b.den W h1
  simp only [← Ev] at C2_0
  replace Ev := Lib.hid Ev
  replace C2_0 := Lib.hid C2_0
  obtain ⟨n1, En1⟩ : ∃ zq : Int, zq = a.num * v := ⟨_, rfl⟩
  have Nn1 : nl (mg n1) ≤ 524288 := by rw [En1, mg_mul]; have := nl_mul (mg a.num) (mg v); omega
  have C2_1 := fun (W : World) (A : Option Addr) (c : Nat) (h1 : NatV W aA ac (mg a.num)) (h2 : NatV W A c (mg v)) => zmul_c aA ac a.num A c v W h1 h2 (by omega) (by omega)
  simp only [← En1] at C2_1
  replace En1 := Lib.hid En1
  replace C2_1 := Lib.hid C2_1
  obtain ⟨u, Eu⟩ : ∃ zq : Int, zq = (a.den : Int) := ⟨_, rfl⟩
  have Nu : nl (mg u) ≤ 262144 := by rw [Eu, mg_nat]; exact ma
  have C2_2 := fun (W : World) (h1 : NatV W aB ad a.den) => r9nat_c aB ad a.den W h1
  simp only [← Eu] at C2_2
  replace Eu := Lib.hid Eu
  replace C2_2 := Lib.hid C2_2
  obtain ⟨n2, En2⟩ : ∃ zq : Int, zq = b.num * u := ⟨_, rfl⟩
  have Nn2 : nl (mg n2) ≤ 524288 := by rw [En2, mg_mul]; have := nl_mul (mg b.num) (mg u); omega
  have C2_3 := fun (W : World) (A : Option Addr) (c : Nat) (h1 : NatV W bA bc (mg b.num)) (h2 : NatV W A c (mg u)) => zmul_c bA bc b.num A c u W h1 h2 (by omega) (by omega)
  simp only [← En2] at C2_3
  replace En2 := Lib.hid En2
  replace C2_3 := Lib.hid C2_3
  have C2_4 := fun (W : World) (A : Option Addr) (c : Nat) (B : Option Addr) (d : Nat) (h1 : NatV W A c (mg n1)) (h2 : NatV W B d (mg n2)) => zcmp_c A c n1 B d n2 W h1 h2 (by omega) (by omega)
  replace C2_4 := Lib.hid C2_4
  go_region_held3 (fun W => W.cell? ⟨w.heap.size, 0, none⟩ = some (.bool (sg a.num)) ∧ W.cell? ⟨w.heap.size, 1, none⟩ = some (.slice aA (nl (mg a.num)) ac) ∧ W.cell? ⟨w.heap.size, 2, none⟩ = some (.slice aB (nl a.den) ad) ∧ W.cell? ⟨(w.heap.size + 1), 0, none⟩ = some (.bool (sg b.num)) ∧ W.cell? ⟨(w.heap.size + 1), 1, none⟩ = some (.slice bA (nl (mg b.num)) bc) ∧ W.cell? ⟨(w.heap.size + 1), 2, none⟩ = some (.slice bB (nl b.den) bd))
    (first
      | exact ⟨qa0, qa1, qa2, qb0, qb1, qb2⟩
      | exact ⟨qa0_3, qa1_3, qa2_3, qb0_3, qb1_3, qb2_3⟩
      | exact ⟨qa0_4, qa1_4, qa2_4, qb0_4, qb1_4, qb2_4⟩
      | exact ⟨qa0_5, qa1_5, qa2_5, qb0_5, qb1_5, qb2_5⟩
      | exact ⟨qa0_6, qa1_6, qa2_6, qb0_6, qb1_6, qb2_6⟩
      | exact ⟨qa0_7, qa1_7, qa2_7, qb0_7, qb1_7, qb2_7⟩
      | go_keep)
    (first
      | (go_at_call 61; (with_reducible refine (C2_0.out _ gb).mono ?_); rintro e W3 ⟨Xv, cv, rfl, hv, hb3⟩; have ha_3 := ha.below hb3; have ga_3 := ga.below hb3; have hb_3 := hb.below hb3; have gb_3 := gb.below hb3; have Ra_3 := Ra.below hb3; have qa0_3 := cbl hb3 qa0; have qa1_3 := cbl hb3 qa1; have qa2_3 := cbl hb3 qa2; have Rb_3 := Rb.below hb3; have qb0_3 := cbl hb3 qb0; have qb1_3 := cbl hb3 qb1; have qb2_3 := cbl hb3 qb2; have HBT_3 := Below.cons HBT hb3)
      | (go_at_call 81; (with_reducible refine (C2_1.out _ _ _ ha_3 hv).mono ?_); rintro e W4 ⟨Xn1, cn1, rfl, hn1, hb4⟩; have ha_4 := ha_3.below hb4; have ga_4 := ga_3.below hb4; have hb_4 := hb_3.below hb4; have gb_4 := gb_3.below hb4; have Ra_4 := Ra_3.below hb4; have qa0_4 := cbl hb4 qa0_3; have qa1_4 := cbl hb4 qa1_3; have qa2_4 := cbl hb4 qa2_3; have Rb_4 := Rb_3.below hb4; have qb0_4 := cbl hb4 qb0_3; have qb1_4 := cbl hb4 qb1_3; have qb2_4 := cbl hb4 qb2_3; have hv_4 := hv.below hb4; have HBT_4 := Below.cons HBT_3 hb4)
      | (go_at_call 61; (with_reducible refine (C2_2.out _ ga_4).mono ?_); rintro e W5 ⟨Xu, cu, rfl, hu, hb5⟩; have ha_5 := ha_4.below hb5; have ga_5 := ga_4.below hb5; have hb_5 := hb_4.below hb5; have gb_5 := gb_4.below hb5; have Ra_5 := Ra_4.below hb5; have qa0_5 := cbl hb5 qa0_4; have qa1_5 := cbl hb5 qa1_4; have qa2_5 := cbl hb5 qa2_4; have Rb_5 := Rb_4.below hb5; have qb0_5 := cbl hb5 qb0_4; have qb1_5 := cbl hb5 qb1_4; have qb2_5 := cbl hb5 qb2_4; have hv_5 := hv_4.below hb5; have hn1_5 := hn1.below hb5; have HBT_5 := Below.cons HBT_4 hb5)
      | (go_at_call 81; (with_reducible refine (C2_3.out _ _ _ hb_5 hu).mono ?_); rintro e W6 ⟨Xn2, cn2, rfl, hn2, hb6⟩; have ha_6 := ha_5.below hb6; have ga_6 := ga_5.below hb6; have hb_6 := hb_5.below hb6; have gb_6 := gb_5.below hb6; have Ra_6 := Ra_5.below hb6; have qa0_6 := cbl hb6 qa0_5; have qa1_6 := cbl hb6 qa1_5; have qa2_6 := cbl hb6 qa2_5; have Rb_6 := Rb_5.below hb6; have qb0_6 := cbl hb6 qb0_5; have qb1_6 := cbl hb6 qb1_5; have qb2_6 := cbl hb6 qb2_5; have hv_6 := hv_5.below hb6; have hn1_6 := hn1_5.below hb6; have hu_6 := hu.below hb6; have HBT_6 := Below.cons HBT_5 hb6)
      | (go_at_call 69; (with_reducible refine (C2_4.out _ _ _ _ _ hn1_6 hn2).mono ?_); rintro e W7 ⟨rfl, hb7⟩; have ha_7 := ha_6.below hb7; have ga_7 := ga_6.below hb7; have hb_7 := hb_6.below hb7; have gb_7 := gb_6.below hb7; have Ra_7 := Ra_6.below hb7; have qa0_7 := cbl hb7 qa0_6; have qa1_7 := cbl hb7 qa1_6; have qa2_7 := cbl hb7 qa2_6; have Rb_7 := Rb_6.below hb7; have qb0_7 := cbl hb7 qb0_6; have qb1_7 := cbl hb7 qb1_6; have qb2_7 := cbl hb7 qb2_6; have hv_7 := hv_6.below hb7; have hn1_7 := hn1_6.below hb7; have hu_7 := hu_6.below hb7; have hn2_7 := hn2.below hb7; have HBT_7 := Below.cons HBT_6 hb7))
  all_goals (try go_wp2_with (fail))
  go_ret
  exact ⟨by rw [En1.out, En2.out, Eu.out, Ev.out, hd.out]; rfl, HBT_7⟩
theorem r9sub_c (aA : Option Addr) (ac : Nat) (aB : Option Addr) (ad : Nat) (a : Rat) (bA : Option Addr) (bc : Nat) (bB : Option Addr) (bd : Nat) (b : Rat) (w : World) (ha : NatV w aA ac (mg a.num)) (ga : NatV w aB ad a.den) (hb : NatV w bA bc (mg b.num)) (gb : NatV w bB bd b.den) (la : nl (mg a.num) ≤ 262144) (ma : nl a.den ≤ 262144) (lb : nl (mg b.num) ≤ 262144) (mb : nl b.den ≤ 262144) :
    Calls Tryz.prog 32 #[.agg #[.bool (sg a.num), .slice aA (nl (mg a.num)) ac, .slice aB (nl a.den) ad], .agg #[.bool (sg b.num), .slice bA (nl (mg b.num)) bc, .slice bB (nl b.den) bd]] w (RetR w (a - b)) := by
  have e1 : nl (mg (-b).num) ≤ 262144 := by rw [Rat.neg_num, mg_neg]; exact lb
  have e2 : nl (-b).den ≤ 262144 := by rw [Rat.neg_den]; exact mb
  obtain ⟨hb1, Ra, Rb, Rr⟩ := bx3 w #[.bool (sg a.num), .slice aA (nl (mg a.num)) ac, .slice aB (nl a.den) ad] 26 #[.bool (sg b.num), .slice bA (nl (mg b.num)) bc, .slice bB (nl b.den) bd] 26 #[.bool false, .slice none 0 0, .slice none 0 0] 26
  replace ha := ha.below hb1
  replace ga := ga.below hb1
  replace hb := hb.below hb1
  replace gb := gb.below hb1
  have HBT := hb1
  clear hb1
  have qa0 := Ra.c (i := 0) rfl
  have qa1 := Ra.c (i := 1) rfl
  have qa2 := Ra.c (i := 2) rfl
  have qb0 := Rb.c (i := 0) rfl
  have qb1 := Rb.c (i := 1) rfl
  have qb2 := Rb.c (i := 2) rfl
  have qr0 := Rr.c (i := 0) rfl
  have qr1 := Rr.c (i := 1) rfl
  have qr2 := Rr.c (i := 2) rfl
  go_enter Tryz.func32, Tryz.ntmps32
  go_wp2_with (fail)
  have hd2 := drb ((((w.alloc (.cells #[.bool (sg a.num), .slice aA (nl (mg a.num)) ac, .slice aB (nl a.den) ad] 26)).alloc (.cells #[.bool (sg b.num), .slice bA (nl (mg b.num)) bc, .slice bB (nl b.den) bd] 26)).alloc (.cells #[.bool false, .slice none 0 0, .slice none 0 0] 26)))
  replace ha := ha.below hd2
  replace ga := ga.below hd2
  replace hb := hb.below hd2
  replace gb := gb.below hd2
  replace Ra := Ra.below hd2
  replace qa0 := cbl hd2 qa0
  replace qa1 := cbl hd2 qa1
  replace qa2 := cbl hd2 qa2
  replace Rb := Rb.below hd2
  replace qb0 := cbl hd2 qb0
  replace qb1 := cbl hd2 qb1
  replace qb2 := cbl hd2 qb2
  replace Rr := Rr.below hd2
  replace qr0 := cbl hd2 qr0
  replace qr1 := cbl hd2 qr1
  replace qr2 := cbl hd2 qr2
  replace HBT := Below.cons HBT hd2
  clear hd2
  obtain ⟨m, Em⟩ : ∃ zq : Rat, zq = -b := ⟨_, rfl⟩
  rw [← Em] at e1 e2
  have C2_0 := fun (W : World) (h1 : NatV W bA bc (mg b.num)) (h2 : NatV W bB bd b.den) => r9neg_c bA bc bB bd b W h1 h2 (by omega)
  simp only [← Em] at C2_0
  replace Em := Lib.hid Em
  replace C2_0 := Lib.hid C2_0
  obtain ⟨q, Eq⟩ : ∃ zq : Rat, zq = a + m := ⟨_, rfl⟩
  have C2_1 := fun (W : World) (A : Option Addr) (c : Nat) (B : Option Addr) (d : Nat) (h1 : NatV W aA ac (mg a.num)) (h2 : NatV W aB ad a.den) (h3 : NatV W A c (mg m.num)) (h4 : NatV W B d m.den) => r9add_c aA ac aB ad a A c B d m W h1 h2 h3 h4 la ma e1 e2
  simp only [← Eq] at C2_1
  replace Eq := Lib.hid Eq
  replace C2_1 := Lib.hid C2_1
  go_region_held3 (fun W => W.cell? ⟨w.heap.size, 0, none⟩ = some (.bool (sg a.num)) ∧ W.cell? ⟨w.heap.size, 1, none⟩ = some (.slice aA (nl (mg a.num)) ac) ∧ W.cell? ⟨w.heap.size, 2, none⟩ = some (.slice aB (nl a.den) ad) ∧ W.cell? ⟨(w.heap.size + 1), 0, none⟩ = some (.bool (sg b.num)) ∧ W.cell? ⟨(w.heap.size + 1), 1, none⟩ = some (.slice bA (nl (mg b.num)) bc) ∧ W.cell? ⟨(w.heap.size + 1), 2, none⟩ = some (.slice bB (nl b.den) bd))
    (first
      | exact ⟨qa0, qa1, qa2, qb0, qb1, qb2⟩
      | exact ⟨qa0_3, qa1_3, qa2_3, qb0_3, qb1_3, qb2_3⟩
      | exact ⟨qa0_4, qa1_4, qa2_4, qb0_4, qb1_4, qb2_4⟩
      | exact ⟨((Ra_4.other3 (by simp <;> omega)).c (i := 0) rfl), ((Ra_4.other3 (by simp <;> omega)).c (i := 1) rfl), ((Ra_4.other3 (by simp <;> omega)).c (i := 2) rfl), ((Rb_4.other3 (by simp <;> omega)).c (i := 0) rfl), ((Rb_4.other3 (by simp <;> omega)).c (i := 1) rfl), ((Rb_4.other3 (by simp <;> omega)).c (i := 2) rfl)⟩
      | go_keep)
    (first
      | (go_at_call 34; (with_reducible refine (C2_0.out _ hb gb).mono ?_); rintro e W3 ⟨Xm, cm, Ym, dm, rfl, hm, gm, hb3⟩; have ha_3 := ha.below hb3; have ga_3 := ga.below hb3; have hb_3 := hb.below hb3; have gb_3 := gb.below hb3; have Ra_3 := Ra.below hb3; have qa0_3 := cbl hb3 qa0; have qa1_3 := cbl hb3 qa1; have qa2_3 := cbl hb3 qa2; have Rb_3 := Rb.below hb3; have qb0_3 := cbl hb3 qb0; have qb1_3 := cbl hb3 qb1; have qb2_3 := cbl hb3 qb2; have Rr_3 := Rr.below hb3; have qr0_3 := cbl hb3 qr0; have qr1_3 := cbl hb3 qr1; have qr2_3 := cbl hb3 qr2; have HBT_3 := Below.cons HBT hb3)
      | (go_at_call 36; (with_reducible refine (C2_1.out _ _ _ _ _ ha_3 ga_3 hm gm).mono ?_); rintro e W4 ⟨Xq, cq, Yq, dq, rfl, hq, gq, hb4⟩; have ha_4 := ha_3.below hb4; have ga_4 := ga_3.below hb4; have hb_4 := hb_3.below hb4; have gb_4 := gb_3.below hb4; have Ra_4 := Ra_3.below hb4; have qa0_4 := cbl hb4 qa0_3; have qa1_4 := cbl hb4 qa1_3; have qa2_4 := cbl hb4 qa2_3; have Rb_4 := Rb_3.below hb4; have qb0_4 := cbl hb4 qb0_3; have qb1_4 := cbl hb4 qb1_3; have qb2_4 := cbl hb4 qb2_3; have Rr_4 := Rr_3.below hb4; have qr0_4 := cbl hb4 qr0_3; have qr1_4 := cbl hb4 qr1_3; have qr2_4 := cbl hb4 qr2_3; have hm_4 := hm.below hb4; have gm_4 := gm.below hb4; have HBT_4 := Below.cons HBT_3 hb4; have fz0 := Rr_4.f (i := 0); have fz1 := Rr_4.f (i := 1); have fz2 := Rr_4.f (i := 2)))
  all_goals (try go_wp2_with (fail))
  have hzq : q = a - b := by rw [Eq.out, Em.out, Rat.sub_eq_add_neg]
  subst hzq
  have RS := Rr_4.store3 (.bool (sg ((a - b)).num)) (.slice Xq (nl (mg ((a - b)).num)) cq) (.slice Yq (nl ((a - b)).den) dq)
  have e0 := RS.c (i := 0) rfl
  have e1 := RS.c (i := 1) rfl
  have e2 := RS.c (i := 2) rfl
  refine bodyPost_ret (v := .agg #[.bool (sg ((a - b)).num), .slice Xq (nl (mg ((a - b)).num)) cq, .slice Yq (nl ((a - b)).den) dq]) (by simp [results, Tryz.results32, go_sem, e0, e1, e2]) rfl ?_
  exact ⟨Xq, cq, Yq, dq, rfl, (Rr_4.keep3 (nuB rfl) hq), (Rr_4.keep3 (nuB rfl) gq), (Below.store3 HBT_4 (by first | exact Nat.le_refl _ | omega))⟩
theorem r9floor_c (aA : Option Addr) (ac : Nat) (aB : Option Addr) (ad : Nat) (a : Rat) (w : World) (ha : NatV w aA ac (mg a.num)) (ga : NatV w aB ad a.den) (la : nl (mg a.num) ≤ 1048576) (ma : nl a.den ≤ 1048576) :
    Calls Tryz.prog 70 #[.agg #[.bool (sg a.num), .slice aA (nl (mg a.num)) ac, .slice aB (nl a.den) ad]] w (RetI w a.floor) := by
  obtain ⟨d, Ed⟩ : ∃ z : Int, z = (a.den : Int) := ⟨_, rfl⟩
  have d0 : d ≠ 0 := by rw [Ed]; have := a.den_nz; omega
  have ld : nl (mg d) ≤ 1048576 := by rw [Ed, mg_nat]; exact ma
  have CN := fun (W : World) (h1 : NatV W aB ad a.den) => r9nat_c aB ad a.den W h1
  rw [← Ed] at CN
  obtain ⟨q, Eq⟩ : ∃ z : Int, z = a.num / d := ⟨_, rfl⟩
  obtain ⟨r, Er⟩ : ∃ z : Int, z = a.num % d := ⟨_, rfl⟩
  have CD := fun (W : World) (A : Option Addr) (c : Nat) (h1 : NatV W aA ac (mg a.num)) (h2 : NatV W A c (mg d)) => zdiv_c aA ac a.num A c d W h1 h2 la ld d0
  rw [← Eq, ← Er] at CD
  have eqz : q = a.floor := by rw [Eq, Ed, Rat.floor_def]
  replace CN := Lib.hid CN
  replace CD := Lib.hid CD
  replace Ed := Lib.hid Ed
  replace Eq := Lib.hid Eq
  replace Er := Lib.hid Er
  replace eqz := Lib.hid eqz
  obtain ⟨hb1, Ra, Rr⟩ := bx2 w #[.bool (sg a.num), .slice aA (nl (mg a.num)) ac, .slice aB (nl a.den) ad] 26 #[.bool false, .slice none 0 0] 24
  replace ha := ha.below hb1
  replace ga := ga.below hb1
  have HBT := hb1
  clear hb1
  have qa0 := Ra.c (i := 0) rfl
  have qa1 := Ra.c (i := 1) rfl
  have qa2 := Ra.c (i := 2) rfl
  have qr0 := Rr.c (i := 0) rfl
  have qr1 := Rr.c (i := 1) rfl
  go_enter Tryz.func70, Tryz.ntmps70
  go_wp2_with (fail)
  generalize hW0 : ((w.alloc (.cells #[.bool (sg a.num), .slice aA (nl (mg a.num)) ac, .slice aB (nl a.den) ad] 26)).alloc (.cells #[.bool false, .slice none 0 0] 24)) = W0 at *
  replace hW0 := Lib.hid hW0
  refine wp_region_inv (fun E a' w' => ∃ (u7 u8 u9 u10 u11 u12 u6 u13 u14 u15 u3 u4 u5 : Value),
    a' = { tmps := #[.agg #[.bool (sg a.num), .slice aA (nl (mg a.num)) ac, .slice aB (nl a.den) ad], .pointer (some ⟨w.heap.size, 0, none⟩), .pointer (some ⟨(w.heap.size + 1), 0, none⟩), u3, u4, u5, u6, u7, u8, u9, u10, u11, u12, u13, u14, u15, undef], defers := [] } ∧
    (E 0 = true → u7 = .pointer (some ⟨w.heap.size, 0, none⟩)) ∧
    (E 1 = true → u8 = .agg #[.bool (sg a.num), .slice aA (nl (mg a.num)) ac]) ∧
    (E 2 = true → u9 = .pointer (some ⟨w.heap.size, 2, none⟩)) ∧
    (E 3 = true → u10 = .slice aB (nl a.den) ad) ∧
    (E 4 = true → PI u11 d w') ∧
    (E 5 = true → PII u12 q r w') ∧
    (E 6 = true → PII u6 q r w') ∧
    (E 7 = true → PI u13 q w') ∧
    (E 8 = true → PI u14 r w') ∧
    (E 9 = true → u15 = .int .i64 0) ∧
    (E 10 = true → PB2 24 W0.heap.size u3 w') ∧
    (E 11 = true → PB2 24 W0.heap.size u4 w') ∧
    (E 12 = true → PBI W0.heap.size u3 q w') ∧
    (E 13 = true → PBI W0.heap.size u4 r w') ∧
    (E 14 = true → u5 = .int .i64 0) ∧
    (E 12 = true → E 10 = true) ∧
    (E 13 = true → E 11 = true) ∧
    (E 10 = true → E 11 = true → u3 ≠ u4) ∧
    Below W0.heap.size W0 w') (by kernel_rfl) (by kernel_rfl) ?init ?fin ?step
  case init => exact ⟨_, _, _, _, _, _, _, _, _, _, _, _, _, rfl, by simp, by simp, by simp, by simp, by simp, by simp, by simp, by simp, by simp, by simp, by simp, by simp, by simp, by simp, by simp, by simp, by simp, by simp, (Below.refl _ _).drew⟩
  case step =>
    rintro E a' w' i ⟨u7, u8, u9, u10, u11, u12, u6, u13, u14, u15, u3, u4, u5, rfl, h0, h1, h2, h3, h4, h5, h6, h7, h8, h9, h10, h11, h12, h13, h14, hD12, hD13, hN10_11, hB⟩ hi hEi hdep
    have qa0 := cbl hB qa0
    have qa1 := cbl hB qa1
    have qa2 := cbl hB qa2
    obtain rfl | rfl | rfl | rfl | rfl | rfl | rfl | rfl | rfl | rfl | rfl | rfl | rfl | rfl | rfl : i = 0 ∨ i = 1 ∨ i = 2 ∨ i = 3 ∨ i = 4 ∨ i = 5 ∨ i = 6 ∨ i = 7 ∨ i = 8 ∨ i = 9 ∨ i = 10 ∨ i = 11 ∨ i = 12 ∨ i = 13 ∨ i = 14 := by simp at hi; omega
    · skip
      refine wpOp_step rfl (fun K' hK' => ?_)
      go_simp
      refine hK' _ _ ?_
      exact ⟨_, _, _, _, _, _, _, _, _, _, _, _, _, rfl, fun _ => rfl, keepD (by decide) h1, keepD (by decide) h2, keepD (by decide) h3, keepD (by decide) h4, keepD (by decide) h5, keepD (by decide) h6, keepD (by decide) h7, keepD (by decide) h8, keepD (by decide) h9, keepD (by decide) h10, keepD (by decide) h11, keepD (by decide) h12, keepD (by decide) h13, keepD (by decide) h14, (fun h => by have := hD12 (by simpa using h); simpa using this), (fun h => by have := hD13 (by simpa using h); simpa using this), (fun h k => hN10_11 (by simpa using h) (by simpa using k)), hB⟩
    · skip
      have d0 := hdep _ rfl ⟨0, .data⟩ (by simp) rfl
      obtain rfl := h0 d0
      refine wpOp_step rfl (fun K' hK' => ?_)
      go_simp
      refine hK' _ _ ?_
      exact ⟨_, _, _, _, _, _, _, _, _, _, _, _, _, rfl, keepD (by decide) h0, fun _ => rfl, keepD (by decide) h2, keepD (by decide) h3, keepD (by decide) h4, keepD (by decide) h5, keepD (by decide) h6, keepD (by decide) h7, keepD (by decide) h8, keepD (by decide) h9, keepD (by decide) h10, keepD (by decide) h11, keepD (by decide) h12, keepD (by decide) h13, keepD (by decide) h14, (fun h => by have := hD12 (by simpa using h); simpa using this), (fun h => by have := hD13 (by simpa using h); simpa using this), (fun h k => hN10_11 (by simpa using h) (by simpa using k)), hB⟩
    · skip
      refine wpOp_step rfl (fun K' hK' => ?_)
      go_simp
      refine hK' _ _ ?_
      exact ⟨_, _, _, _, _, _, _, _, _, _, _, _, _, rfl, keepD (by decide) h0, keepD (by decide) h1, fun _ => rfl, keepD (by decide) h3, keepD (by decide) h4, keepD (by decide) h5, keepD (by decide) h6, keepD (by decide) h7, keepD (by decide) h8, keepD (by decide) h9, keepD (by decide) h10, keepD (by decide) h11, keepD (by decide) h12, keepD (by decide) h13, keepD (by decide) h14, (fun h => by have := hD12 (by simpa using h); simpa using this), (fun h => by have := hD13 (by simpa using h); simpa using this), (fun h k => hN10_11 (by simpa using h) (by simpa using k)), hB⟩
    · skip
      have d2 := hdep _ rfl ⟨2, .data⟩ (by simp) rfl
      obtain rfl := h2 d2
      refine wpOp_step rfl (fun K' hK' => ?_)
      go_simp
      refine hK' _ _ ?_
      exact ⟨_, _, _, _, _, _, _, _, _, _, _, _, _, rfl, keepD (by decide) h0, keepD (by decide) h1, keepD (by decide) h2, fun _ => rfl, keepD (by decide) h4, keepD (by decide) h5, keepD (by decide) h6, keepD (by decide) h7, keepD (by decide) h8, keepD (by decide) h9, keepD (by decide) h10, keepD (by decide) h11, keepD (by decide) h12, keepD (by decide) h13, keepD (by decide) h14, (fun h => by have := hD12 (by simpa using h); simpa using this), (fun h => by have := hD13 (by simpa using h); simpa using this), (fun h k => hN10_11 (by simpa using h) (by simpa using k)), hB⟩
    · skip
      have d3 := hdep _ rfl ⟨3, .data⟩ (by simp) rfl
      obtain rfl := h3 d3
      refine wpOp_step rfl (fun K' hK' => ?_)
      go_simp
      refine (Calls.mono (CN.out w' (ga.below hB)) ?_)
      rintro e W1 ⟨Xr, cr, rfl, kr, kb⟩
      refine hK' _ _ ?_
      exact ⟨_, _, _, _, _, _, _, _, _, _, _, _, _, rfl, keepD (by decide) h0, keepD (by decide) h1, keepD (by decide) h2, keepD (by decide) h3, fun _ => ⟨Xr, cr, rfl, kr⟩, keepP (by decide) h5 (fun h => h.below kb), keepP (by decide) h6 (fun h => h.below kb), keepP (by decide) h7 (fun h => h.below kb), keepP (by decide) h8 (fun h => h.below kb), keepD (by decide) h9, keepP (by decide) h10 (fun h => h.below kb), keepP (by decide) h11 (fun h => h.below kb), keepP (by decide) h12 (fun h => h.below kb), keepP (by decide) h13 (fun h => h.below kb), keepD (by decide) h14, (fun h => by have := hD12 (by simpa using h); simpa using this), (fun h => by have := hD13 (by simpa using h); simpa using this), (fun h k => hN10_11 (by simpa using h) (by simpa using k)), Below.cons hB kb⟩
    · skip
      have d1 := hdep _ rfl ⟨1, .data⟩ (by simp) rfl
      obtain rfl := h1 d1
      have d4 := hdep _ rfl ⟨4, .data⟩ (by simp) rfl
      obtain ⟨X_4, c_4, rfl, k_4⟩ := h4 d4
      refine wpOp_step rfl (fun K' hK' => ?_)
      go_simp
      refine (Calls.mono (CD.out w' _ _ (ha.below hB) k_4) ?_)
      rintro e W1 ⟨Xr, cr, Yr, dr, rfl, kr, lr, kb⟩
      refine hK' _ _ ?_
      exact ⟨_, _, _, _, _, _, _, _, _, _, _, _, _, rfl, keepD (by decide) h0, keepD (by decide) h1, keepD (by decide) h2, keepD (by decide) h3, keepP (by decide) h4 (fun h => h.below kb), fun _ => ⟨Xr, cr, Yr, dr, rfl, kr, lr⟩, keepP (by decide) h6 (fun h => h.below kb), keepP (by decide) h7 (fun h => h.below kb), keepP (by decide) h8 (fun h => h.below kb), keepD (by decide) h9, keepP (by decide) h10 (fun h => h.below kb), keepP (by decide) h11 (fun h => h.below kb), keepP (by decide) h12 (fun h => h.below kb), keepP (by decide) h13 (fun h => h.below kb), keepD (by decide) h14, (fun h => by have := hD12 (by simpa using h); simpa using this), (fun h => by have := hD13 (by simpa using h); simpa using this), (fun h k => hN10_11 (by simpa using h) (by simpa using k)), Below.cons hB kb⟩
    · skip
      have d5 := hdep _ rfl ⟨5, .data⟩ (by simp) rfl
      obtain ⟨X_5, c_5, Y_5, d_5, rfl, k_5, l_5⟩ := h5 d5
      refine wpOp_step rfl (fun K' hK' => ?_)
      go_simp
      refine hK' _ _ ?_
      exact ⟨_, _, _, _, _, _, _, _, _, _, _, _, _, rfl, keepD (by decide) h0, keepD (by decide) h1, keepD (by decide) h2, keepD (by decide) h3, keepD (by decide) h4, keepD (by decide) h5, fun _ => ⟨X_5, c_5, Y_5, d_5, rfl, k_5, l_5⟩, keepD (by decide) h7, keepD (by decide) h8, keepD (by decide) h9, keepD (by decide) h10, keepD (by decide) h11, keepD (by decide) h12, keepD (by decide) h13, keepD (by decide) h14, (fun h => by have := hD12 (by simpa using h); simpa using this), (fun h => by have := hD13 (by simpa using h); simpa using this), (fun h k => hN10_11 (by simpa using h) (by simpa using k)), hB⟩
    · skip
      have d6 := hdep _ rfl ⟨6, .data⟩ (by simp) rfl
      obtain ⟨X_6, c_6, Y_6, d_6, rfl, k_6, l_6⟩ := h6 d6
      refine wpOp_step rfl (fun K' hK' => ?_)
      go_simp
      refine hK' _ _ ?_
      exact ⟨_, _, _, _, _, _, _, _, _, _, _, _, _, rfl, keepD (by decide) h0, keepD (by decide) h1, keepD (by decide) h2, keepD (by decide) h3, keepD (by decide) h4, keepD (by decide) h5, keepD (by decide) h6, fun _ => ⟨X_6, c_6, rfl, k_6⟩, keepD (by decide) h8, keepD (by decide) h9, keepD (by decide) h10, keepD (by decide) h11, keepD (by decide) h12, keepD (by decide) h13, keepD (by decide) h14, (fun h => by have := hD12 (by simpa using h); simpa using this), (fun h => by have := hD13 (by simpa using h); simpa using this), (fun h k => hN10_11 (by simpa using h) (by simpa using k)), hB⟩
    · skip
      have d6 := hdep _ rfl ⟨6, .data⟩ (by simp) rfl
      obtain ⟨X_6, c_6, Y_6, d_6, rfl, k_6, l_6⟩ := h6 d6
      refine wpOp_step rfl (fun K' hK' => ?_)
      go_simp
      refine hK' _ _ ?_
      exact ⟨_, _, _, _, _, _, _, _, _, _, _, _, _, rfl, keepD (by decide) h0, keepD (by decide) h1, keepD (by decide) h2, keepD (by decide) h3, keepD (by decide) h4, keepD (by decide) h5, keepD (by decide) h6, keepD (by decide) h7, fun _ => ⟨Y_6, d_6, rfl, l_6⟩, keepD (by decide) h9, keepD (by decide) h10, keepD (by decide) h11, keepD (by decide) h12, keepD (by decide) h13, keepD (by decide) h14, (fun h => by have := hD12 (by simpa using h); simpa using this), (fun h => by have := hD13 (by simpa using h); simpa using this), (fun h k => hN10_11 (by simpa using h) (by simpa using k)), hB⟩
    · skip
      have d6 := hdep _ rfl ⟨6, .data⟩ (by simp) rfl
      obtain ⟨X_6, c_6, Y_6, d_6, rfl, k_6, l_6⟩ := h6 d6
      refine wpOp_step rfl (fun K' hK' => ?_)
      go_simp
      refine hK' _ _ ?_
      exact ⟨_, _, _, _, _, _, _, _, _, _, _, _, _, rfl, keepD (by decide) h0, keepD (by decide) h1, keepD (by decide) h2, keepD (by decide) h3, keepD (by decide) h4, keepD (by decide) h5, keepD (by decide) h6, keepD (by decide) h7, keepD (by decide) h8, fun _ => rfl, keepD (by decide) h10, keepD (by decide) h11, keepD (by decide) h12, keepD (by decide) h13, keepD (by decide) h14, (fun h => by have := hD12 (by simpa using h); simpa using this), (fun h => by have := hD13 (by simpa using h); simpa using this), (fun h k => hN10_11 (by simpa using h) (by simpa using k)), hB⟩
    · skip
      have kb : Below w'.heap.size w' (w'.alloc (.cells #[.bool false, .slice none 0 0] 24)) := (Below.refl _ _).alloc (Nat.le_refl _) _
      refine wpOp_step rfl (fun K' hK' => ?_)
      go_simp
      refine hK' _ _ ?_
      exact ⟨_, _, _, _, _, _, _, _, _, _, _, _, _, rfl, keepD (by decide) h0, keepD (by decide) h1, keepD (by decide) h2, keepD (by decide) h3, keepP (by decide) h4 (fun h => h.below kb), keepP (by decide) h5 (fun h => h.below kb), keepP (by decide) h6 (fun h => h.below kb), keepP (by decide) h7 (fun h => h.below kb), keepP (by decide) h8 (fun h => h.below kb), keepD (by decide) h9, fun _ => ⟨_, _, _, rfl, hB.size, ⟨at_new rfl⟩, notU_bool _, notU_slice _ _ _⟩, keepP (by decide) h11 (fun h => h.below kb), (fun h => by have h2 := hD12 (by simpa using h); rw [hEi] at h2; cases h2), keepP (by decide) h13 (fun h => h.below kb), keepD (by decide) h14, (fun _ => by simp), (fun h => by have := hD13 (by simpa using h); simpa using this), (fun _ h => by obtain ⟨n2, e2, l2⟩ := (h11 (by simpa using h)).lt; rw [e2]; intro e3; simp at e3 <;> omega), Below.cons hB kb⟩
    · skip
      have kb : Below w'.heap.size w' (w'.alloc (.cells #[.bool false, .slice none 0 0] 24)) := (Below.refl _ _).alloc (Nat.le_refl _) _
      refine wpOp_step rfl (fun K' hK' => ?_)
      go_simp
      refine hK' _ _ ?_
      exact ⟨_, _, _, _, _, _, _, _, _, _, _, _, _, rfl, keepD (by decide) h0, keepD (by decide) h1, keepD (by decide) h2, keepD (by decide) h3, keepP (by decide) h4 (fun h => h.below kb), keepP (by decide) h5 (fun h => h.below kb), keepP (by decide) h6 (fun h => h.below kb), keepP (by decide) h7 (fun h => h.below kb), keepP (by decide) h8 (fun h => h.below kb), keepD (by decide) h9, keepP (by decide) h10 (fun h => h.below kb), fun _ => ⟨_, _, _, rfl, hB.size, ⟨at_new rfl⟩, notU_bool _, notU_slice _ _ _⟩, keepP (by decide) h12 (fun h => h.below kb), (fun h => by have h2 := hD13 (by simpa using h); rw [hEi] at h2; cases h2), keepD (by decide) h14, (fun h => by have := hD12 (by simpa using h); simpa using this), (fun _ => by simp), (fun h _ => by obtain ⟨n2, e2, l2⟩ := (h10 (by simpa using h)).lt; rw [e2]; intro e3; simp at e3 <;> omega), Below.cons hB kb⟩
    · skip
      have d10 := hdep _ rfl ⟨10, .data⟩ (by simp) rfl
      obtain ⟨nb, z0, z1, rfl, hn, hb, nz0, nz1⟩ := h10 d10
      have d7 := hdep _ rfl ⟨7, .data⟩ (by simp) rfl
      obtain ⟨X_7, c_7, rfl, k_7⟩ := h7 d7
      have fz0 := hb.f (i := 0)
      have cz0 := hb.c (i := 0) rfl
      have fz1 := hb.f (i := 1)
      have cz1 := hb.c (i := 1) rfl
      have hp := hb.put2 (notU2 nz0 nz1) (.bool (sg q)) (.slice X_7 (nl (mg q)) c_7)
      have hs := hb.store2 (.bool (sg q)) (.slice X_7 (nl (mg q)) c_7)
      refine wpOp_step rfl (fun K' hK' => ?_)
      go_simp
      refine hK' _ _ ?_
      exact ⟨_, _, _, _, _, _, _, _, _, _, _, _, _, rfl, keepD (by decide) h0, keepD (by decide) h1, keepD (by decide) h2, keepD (by decide) h3, keepP (by decide) h4 (fun h => h.put hp), keepP (by decide) h5 (fun h => h.put hp), keepP (by decide) h6 (fun h => h.put hp), keepP (by decide) h7 (fun h => h.put hp), keepP (by decide) h8 (fun h => h.put hp), keepD (by decide) h9, (fun _ => ⟨nb, _, _, rfl, hn, hs, notU_bool _, notU_slice _ _ _⟩), keepP' (by decide) h11 (fun e h => h.put hp (fun e3 => hN10_11 d10 (by simpa using e) e3.symm)), fun _ => ⟨nb, X_7, c_7, rfl, hn, hs, hp.nat k_7⟩, keepP' (by decide) h13 (fun e h => h.put hp (fun e3 => hN10_11 d10 (hD13 (by simpa using e)) e3.symm)), keepD (by decide) h14, (fun _ => by simp [d10]), (fun h => by have := hD13 (by simpa using h); simpa using this), (fun h k => hN10_11 (by simpa using h) (by simpa using k)), Below.store2 hB hn⟩
    · skip
      have d11 := hdep _ rfl ⟨11, .data⟩ (by simp) rfl
      obtain ⟨nb, z0, z1, rfl, hn, hb, nz0, nz1⟩ := h11 d11
      have d8 := hdep _ rfl ⟨8, .data⟩ (by simp) rfl
      obtain ⟨X_8, c_8, rfl, k_8⟩ := h8 d8
      have fz0 := hb.f (i := 0)
      have cz0 := hb.c (i := 0) rfl
      have fz1 := hb.f (i := 1)
      have cz1 := hb.c (i := 1) rfl
      have hp := hb.put2 (notU2 nz0 nz1) (.bool (sg r)) (.slice X_8 (nl (mg r)) c_8)
      have hs := hb.store2 (.bool (sg r)) (.slice X_8 (nl (mg r)) c_8)
      refine wpOp_step rfl (fun K' hK' => ?_)
      go_simp
      refine hK' _ _ ?_
      exact ⟨_, _, _, _, _, _, _, _, _, _, _, _, _, rfl, keepD (by decide) h0, keepD (by decide) h1, keepD (by decide) h2, keepD (by decide) h3, keepP (by decide) h4 (fun h => h.put hp), keepP (by decide) h5 (fun h => h.put hp), keepP (by decide) h6 (fun h => h.put hp), keepP (by decide) h7 (fun h => h.put hp), keepP (by decide) h8 (fun h => h.put hp), keepD (by decide) h9, keepP' (by decide) h10 (fun e h => h.put hp (hN10_11 (by simpa using e) d11)), (fun _ => ⟨nb, _, _, rfl, hn, hs, notU_bool _, notU_slice _ _ _⟩), keepP' (by decide) h12 (fun e h => h.put hp (hN10_11 (hD12 (by simpa using e)) d11)), fun _ => ⟨nb, X_8, c_8, rfl, hn, hs, hp.nat k_8⟩, keepD (by decide) h14, (fun h => by have := hD12 (by simpa using h); simpa using this), (fun _ => by simp [d11]), (fun h k => hN10_11 (by simpa using h) (by simpa using k)), Below.store2 hB hn⟩
    · skip
      have d9 := hdep _ rfl ⟨9, .data⟩ (by simp) rfl
      obtain rfl := h9 d9
      refine wpOp_step rfl (fun K' hK' => ?_)
      go_simp
      refine hK' _ _ ?_
      exact ⟨_, _, _, _, _, _, _, _, _, _, _, _, _, rfl, keepD (by decide) h0, keepD (by decide) h1, keepD (by decide) h2, keepD (by decide) h3, keepD (by decide) h4, keepD (by decide) h5, keepD (by decide) h6, keepD (by decide) h7, keepD (by decide) h8, keepD (by decide) h9, keepD (by decide) h10, keepD (by decide) h11, keepD (by decide) h12, keepD (by decide) h13, fun _ => rfl, (fun h => by have := hD12 (by simpa using h); simpa using this), (fun h => by have := hD13 (by simpa using h); simpa using this), (fun h k => hN10_11 (by simpa using h) (by simpa using k)), hB⟩
  case fin =>
    rintro E a' w' ⟨u7, u8, u9, u10, u11, u12, u6, u13, u14, u15, u3, u4, u5, rfl, h0, h1, h2, h3, h4, h5, h6, h7, h8, h9, h10, h11, h12, h13, h14, hD12, hD13, hN10_11, hB⟩ hall
    obtain ⟨nbq, Xq, cq, rfl, hnq, Rq, hq⟩ := h12 (hall 12 (by simp))
    replace ha := ha.below hB
    replace ga := ga.below hB
    replace Ra := Ra.below hB
    replace qa0 := cbl hB qa0
    replace qa1 := cbl hB qa1
    replace qa2 := cbl hB qa2
    replace Rr := Rr.below hB
    replace qr0 := cbl hB qr0
    replace qr1 := cbl hB qr1
    replace HBT := Below.cons HBT hB
    have kvq := hnq
    have qq0 := Rq.c (i := 0) rfl
    have qq1 := Rq.c (i := 1) rfl
    have hz : w.heap.size + 2 = W0.heap.size := by rw [← hW0.out]; simp
    have fzr0 := Rr.f (i := 0)
    have fzr1 := Rr.f (i := 1)
    go_wp2_with (fail)
    have hzq : q = a.floor := by exact eqz.out
    subst hzq
    have RS := Rr.store2 (.bool (sg (a.floor))) (.slice Xq (nl (mg (a.floor))) cq)
    have e0 := RS.c (i := 0) rfl
    have e1 := RS.c (i := 1) rfl
    refine bodyPost_ret (v := .agg #[.bool (sg (a.floor)), .slice Xq (nl (mg (a.floor))) cq]) (by simp [results, Tryz.results70, go_sem, e0, e1]) rfl ?_
    exact ⟨Xq, cq, rfl, (Rr.keep2 (nuB rfl) hq), (Below.store2 HBT (by first | exact Nat.le_refl _ | omega))⟩
theorem r9ceil_c (aA : Option Addr) (ac : Nat) (aB : Option Addr) (ad : Nat) (a : Rat) (w : World) (ha : NatV w aA ac (mg a.num)) (ga : NatV w aB ad a.den) (la : nl (mg a.num) ≤ 1048576) (ma : nl a.den ≤ 1048576) (lf : nl (mg a.ceil) ≤ 1048576) :
    Calls Tryz.prog 111 #[.agg #[.bool (sg a.num), .slice aA (nl (mg a.num)) ac, .slice aB (nl a.den) ad]] w (RetI w a.ceil) := by
  have e1 : nl (mg (-a).num) ≤ 1048576 := by rw [Rat.neg_num, mg_neg]; exact la
  have e2 : nl (-a).den ≤ 1048576 := by rw [Rat.neg_den]; exact ma
  have e3 := Rat.ceil_eq_neg_floor_neg a
  have e4 : mg (-a).floor = mg a.ceil := by rw [e3, mg_neg]
  replace e3 := Lib.hid e3
  replace e4 := Lib.hid e4
  obtain ⟨hb1, Ra, Rr⟩ := bx2 w #[.bool (sg a.num), .slice aA (nl (mg a.num)) ac, .slice aB (nl a.den) ad] 26 #[.bool false, .slice none 0 0] 24
  replace ha := ha.below hb1
  replace ga := ga.below hb1
  have HBT := hb1
  clear hb1
  have qa0 := Ra.c (i := 0) rfl
  have qa1 := Ra.c (i := 1) rfl
  have qa2 := Ra.c (i := 2) rfl
  have qr0 := Rr.c (i := 0) rfl
  have qr1 := Rr.c (i := 1) rfl
  go_enter Tryz.func111, Tryz.ntmps111
  go_wp2_with (fail)
  obtain ⟨m, Em⟩ : ∃ zq : Rat, zq = -a := ⟨_, rfl⟩
  refine (Calls.mono (R := RetR ((w.alloc (.cells #[.bool (sg a.num), .slice aA (nl (mg a.num)) ac, .slice aB (nl a.den) ad] 26)).alloc (.cells #[.bool false, .slice none 0 0] 24)) m) (by rw [Em]; with_reducible exact (r9neg_c aA ac aB ad a _ ha ga (by omega))) ?_)
  replace Em := Lib.hid Em
  rintro e W2 ⟨Xm, cm, Ym, dm, rfl, hm, gm, hb2⟩
  replace ha := ha.below hb2
  replace ga := ga.below hb2
  replace Ra := Ra.below hb2
  replace qa0 := cbl hb2 qa0
  replace qa1 := cbl hb2 qa1
  replace qa2 := cbl hb2 qa2
  replace Rr := Rr.below hb2
  replace qr0 := cbl hb2 qr0
  replace qr1 := cbl hb2 qr1
  replace HBT := Below.cons HBT hb2
  clear hb2
  go_wp2_with (fail)
  rw [← Em.out] at e1 e2
  obtain ⟨f, Ef⟩ : ∃ zq : Int, zq = m.floor := ⟨_, rfl⟩
  have lf2 : nl (mg f) ≤ 1048576 := by rw [Ef, Em.out, e4.out]; exact lf
  refine (Calls.mono (R := RetI W2 f) (by rw [Ef]; with_reducible exact (r9floor_c Xm cm Ym dm m _ hm gm e1 e2)) ?_)
  replace Ef := Lib.hid Ef
  rintro e W3 ⟨Xf, cf, rfl, hf, hb3⟩
  replace ha := ha.below hb3
  replace ga := ga.below hb3
  replace Ra := Ra.below hb3
  replace qa0 := cbl hb3 qa0
  replace qa1 := cbl hb3 qa1
  replace qa2 := cbl hb3 qa2
  replace Rr := Rr.below hb3
  replace qr0 := cbl hb3 qr0
  replace qr1 := cbl hb3 qr1
  replace hm := hm.below hb3
  replace gm := gm.below hb3
  replace HBT := Below.cons HBT hb3
  clear hb3
  go_wp2_with (fail)
  obtain ⟨z, Ez⟩ : ∃ zq : Int, zq = -f := ⟨_, rfl⟩
  refine (Calls.mono (R := RetI W3 z) (by rw [Ez]; with_reducible exact (zneg_c Xf cf f _ hf (by omega))) ?_)
  replace Ez := Lib.hid Ez
  rintro e W4 ⟨Xz, cz, rfl, hz, hb4⟩
  replace ha := ha.below hb4
  replace ga := ga.below hb4
  replace Ra := Ra.below hb4
  replace qa0 := cbl hb4 qa0
  replace qa1 := cbl hb4 qa1
  replace qa2 := cbl hb4 qa2
  replace Rr := Rr.below hb4
  replace qr0 := cbl hb4 qr0
  replace qr1 := cbl hb4 qr1
  replace hm := hm.below hb4
  replace gm := gm.below hb4
  replace hf := hf.below hb4
  replace HBT := Below.cons HBT hb4
  clear hb4
  have fzr0 := Rr.f (i := 0)
  have fzr1 := Rr.f (i := 1)
  go_wp2_with (fail)
  have hzz : z = a.ceil := by rw [Ez.out, Ef.out, Em.out]; exact e3.out.symm
  subst hzz
  have RS := Rr.store2 (.bool (sg (a.ceil))) (.slice Xz (nl (mg (a.ceil))) cz)
  have e0 := RS.c (i := 0) rfl
  have e1 := RS.c (i := 1) rfl
  refine bodyPost_ret (v := .agg #[.bool (sg (a.ceil)), .slice Xz (nl (mg (a.ceil))) cz]) (by simp [results, Tryz.results111, go_sem, e0, e1]) rfl ?_
  exact ⟨Xz, cz, rfl, (Rr.keep2 (nuB rfl) hz), (Below.store2 HBT (by first | exact Nat.le_refl _ | omega))⟩
theorem rat_same {a b : Rat} (h : a.num = b.num) : (a = b) ↔ a.den = b.den := ⟨fun e => by rw [e], fun e => Rat.ext h e⟩
theorem r9same_y (aA : Option Addr) (ac : Nat) (aB : Option Addr) (ad : Nat) (a : Rat) (bA : Option Addr) (bc : Nat) (bB : Option Addr) (bd : Nat) (b : Rat) (w : World) (ha : NatV w aA ac (mg a.num)) (ga : NatV w aB ad a.den) (hb : NatV w bA bc (mg b.num)) (gb : NatV w bB bd b.den) (la : nl (mg a.num) ≤ 1073741824) (ma : nl a.den ≤ 1073741824) (lb : nl (mg b.num) ≤ 1073741824) (mb : nl b.den ≤ 1073741824) (h0 : a.num = b.num) :
    Calls Tryz.prog 54 #[.agg #[.bool (sg a.num), .slice aA (nl (mg a.num)) ac, .slice aB (nl a.den) ad], .agg #[.bool (sg b.num), .slice bA (nl (mg b.num)) bc, .slice bB (nl b.den) bd]] w (fun e w' => e = .returned (.bool (decide (a.den = b.den))) ∧ Below w.heap.size w w') := by
  have ds : decide (a.num = b.num) = true := by simp; exact h0
  replace h0 := Lib.hid h0
  have kk : cmpN a.den b.den = 0 ↔ a.den = b.den := by unfold cmpN; split <;> (try split) <;> omega
  have eb : ((cmpN a.den b.den) == 0) = decide (a.den = b.den) := by rw [Bool.eq_iff_iff]; simp [kk]
  clear kk
  obtain ⟨cc, Ecc⟩ : ∃ z, z = cmpN a.den b.den := ⟨_, rfl⟩
  rw [← Ecc] at eb
  obtain ⟨hb1, Ra, Rb⟩ := bx2 w #[.bool (sg a.num), .slice aA (nl (mg a.num)) ac, .slice aB (nl a.den) ad] 26 #[.bool (sg b.num), .slice bA (nl (mg b.num)) bc, .slice bB (nl b.den) bd] 26
  replace ha := ha.below hb1
  replace ga := ga.below hb1
  replace hb := hb.below hb1
  replace gb := gb.below hb1
  have HBT := hb1
  clear hb1
  have qa0 := Ra.c (i := 0) rfl
  have qa1 := Ra.c (i := 1) rfl
  have qa2 := Ra.c (i := 2) rfl
  have qb0 := Rb.c (i := 0) rfl
  have qb1 := Rb.c (i := 1) rfl
  have qb2 := Rb.c (i := 2) rfl
  have CS := fun (W : World) (h1 : NatV W aA ac (mg a.num)) (h2 : NatV W bA bc (mg b.num)) => zsame_c aA ac a.num bA bc b.num W h1 h2 la lb
  rw [ds] at CS
  replace CS := Lib.hid CS
  have CC := fun (W : World) (h1 : NatV W aB ad a.den) (h2 : NatV W bB bd b.den) => rcmp_c aB ad a.den bB bd b.den W h1 h2 ma mb
  rw [← Ecc] at CC
  replace CC := Lib.hid CC
  replace Ecc := Lib.hid Ecc
  go_enter Tryz.func54, Tryz.ntmps54
  go_wp2_with (fail)
  refine (Calls.mono (CS.out _ ha hb) ?_)
  rintro e W2 ⟨rfl, hb2⟩
  replace ha := ha.below hb2
  replace ga := ga.below hb2
  replace hb := hb.below hb2
  replace gb := gb.below hb2
  replace Ra := Ra.below hb2
  replace qa0 := cbl hb2 qa0
  replace qa1 := cbl hb2 qa1
  replace qa2 := cbl hb2 qa2
  replace Rb := Rb.below hb2
  replace qb0 := cbl hb2 qb0
  replace qb1 := cbl hb2 qb1
  replace qb2 := cbl hb2 qb2
  replace HBT := Below.cons HBT hb2
  clear hb2
  go_wp2_with (fail)
  refine (Calls.mono (CC.out _ ga gb) ?_)
  rintro e w' ⟨rfl, hw⟩
  subst hw
  go_wp2_with (fail)
  go_ret
  exact ⟨rfl, HBT⟩
theorem r9same_n (aA : Option Addr) (ac : Nat) (aB : Option Addr) (ad : Nat) (a : Rat) (bA : Option Addr) (bc : Nat) (bB : Option Addr) (bd : Nat) (b : Rat) (w : World) (ha : NatV w aA ac (mg a.num)) (ga : NatV w aB ad a.den) (hb : NatV w bA bc (mg b.num)) (gb : NatV w bB bd b.den) (la : nl (mg a.num) ≤ 1073741824) (ma : nl a.den ≤ 1073741824) (lb : nl (mg b.num) ≤ 1073741824) (mb : nl b.den ≤ 1073741824) (h0 : a.num ≠ b.num) :
    Calls Tryz.prog 54 #[.agg #[.bool (sg a.num), .slice aA (nl (mg a.num)) ac, .slice aB (nl a.den) ad], .agg #[.bool (sg b.num), .slice bA (nl (mg b.num)) bc, .slice bB (nl b.den) bd]] w (fun e w' => e = .returned (.bool false) ∧ Below w.heap.size w w') := by
  have ds : decide (a.num = b.num) = false := by simp; exact h0
  replace h0 := Lib.hid h0
  obtain ⟨hb1, Ra, Rb⟩ := bx2 w #[.bool (sg a.num), .slice aA (nl (mg a.num)) ac, .slice aB (nl a.den) ad] 26 #[.bool (sg b.num), .slice bA (nl (mg b.num)) bc, .slice bB (nl b.den) bd] 26
  replace ha := ha.below hb1
  replace ga := ga.below hb1
  replace hb := hb.below hb1
  replace gb := gb.below hb1
  have HBT := hb1
  clear hb1
  have qa0 := Ra.c (i := 0) rfl
  have qa1 := Ra.c (i := 1) rfl
  have qa2 := Ra.c (i := 2) rfl
  have qb0 := Rb.c (i := 0) rfl
  have qb1 := Rb.c (i := 1) rfl
  have qb2 := Rb.c (i := 2) rfl
  have CS := fun (W : World) (h1 : NatV W aA ac (mg a.num)) (h2 : NatV W bA bc (mg b.num)) => zsame_c aA ac a.num bA bc b.num W h1 h2 la lb
  rw [ds] at CS
  replace CS := Lib.hid CS
  go_enter Tryz.func54, Tryz.ntmps54
  go_wp2_with (fail)
  refine (Calls.mono (CS.out _ ha hb) ?_)
  rintro e W2 ⟨rfl, hb2⟩
  replace ha := ha.below hb2
  replace ga := ga.below hb2
  replace hb := hb.below hb2
  replace gb := gb.below hb2
  replace Ra := Ra.below hb2
  replace qa0 := cbl hb2 qa0
  replace qa1 := cbl hb2 qa1
  replace qa2 := cbl hb2 qa2
  replace Rb := Rb.below hb2
  replace qb0 := cbl hb2 qb0
  replace qb1 := cbl hb2 qb1
  replace qb2 := cbl hb2 qb2
  replace HBT := Below.cons HBT hb2
  clear hb2
  go_wp2_with (fail)
  go_ret
  exact ⟨rfl, HBT⟩
theorem r9same_c (aA : Option Addr) (ac : Nat) (aB : Option Addr) (ad : Nat) (a : Rat) (bA : Option Addr) (bc : Nat) (bB : Option Addr) (bd : Nat) (b : Rat) (w : World) (ha : NatV w aA ac (mg a.num)) (ga : NatV w aB ad a.den) (hb : NatV w bA bc (mg b.num)) (gb : NatV w bB bd b.den) (la : nl (mg a.num) ≤ 1073741824) (ma : nl a.den ≤ 1073741824) (lb : nl (mg b.num) ≤ 1073741824) (mb : nl b.den ≤ 1073741824) :
    Calls Tryz.prog 54 #[.agg #[.bool (sg a.num), .slice aA (nl (mg a.num)) ac, .slice aB (nl a.den) ad], .agg #[.bool (sg b.num), .slice bA (nl (mg b.num)) bc, .slice bB (nl b.den) bd]] w fun e w' => e = .returned (.bool (decide (a = b))) ∧ Below w.heap.size w w' := by
  by_cases h : a.num = b.num
  · rw [show decide (a = b) = decide (a.den = b.den) by rw [decide_eq_decide]; exact rat_same h]; exact r9same_y aA ac aB ad a bA bc bB bd b w ha ga hb gb la ma lb mb h
  · rw [decide_eq_false (fun e => h (by rw [e]))]; exact r9same_n aA ac aB ad a bA bc bB bd b w ha ga hb gb la ma lb mb h
end Go.Proofs.YtacjfpibilolnaaGreatDoor
