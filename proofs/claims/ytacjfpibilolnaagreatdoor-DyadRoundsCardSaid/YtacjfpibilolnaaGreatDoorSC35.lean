/- The document's rationals, walked: Mul, Add, Cmp. -/
import Derived.Test.YtacjfpibilolnaaGreatDoorSC34
set_option maxRecDepth 100000
set_option maxHeartbeats 4000000
set_option linter.unusedVariables false
set_option linter.unusedSimpArgs false
namespace Go.Proofs.YtacjfpibilolnaaGreatDoor
open Go.RowKit Go.Shelf
attribute [local go_sem] max2_i min2_i max_two min_two

theorem divInt_add (a b : Rat) : Rat.divInt (a.num * (b.den : Int) + b.num * (a.den : Int)) ((a.den : Int) * (b.den : Int)) = a + b := by
  rw [Rat.add_def', ← Int.natCast_mul, Rat.divInt_ofNat]
theorem divInt_mul (a b : Rat) : Rat.divInt (a.num * b.num) ((a.den : Int) * (b.den : Int)) = a * b := by
  rw [Rat.mul_def', ← Int.natCast_mul, Rat.divInt_ofNat]
theorem add_nl {x y : Int} (hx : nl (mg x) ≤ 524288) (hy : nl (mg y) ≤ 524288) : nl (mg (x + y)) ≤ 524289 := by
  have h1 : mg (x + y) ≤ mg x + mg y := Int.natAbs_add_le x y
  have h2 := nl_add (mg x) (mg y)
  have h3 := nl_mono h1
  omega
theorem rcmp_icmp (a b : Rat) : icmp (a.num * (b.den : Int)) (b.num * (a.den : Int)) = rcmp a b := by
  unfold icmp rcmp
  simp only [Rat.lt_iff]
theorem r9mul_c (aA : Option Addr) (ac : Nat) (aB : Option Addr) (ad : Nat) (a : Rat) (bA : Option Addr) (bc : Nat) (bB : Option Addr) (bd : Nat) (b : Rat) (w : World) (ha : NatV w aA ac (mg a.num)) (ga : NatV w aB ad a.den) (hb : NatV w bA bc (mg b.num)) (gb : NatV w bB bd b.den) (la : nl (mg a.num) ≤ 262144) (ma : nl a.den ≤ 262144) (lb : nl (mg b.num) ≤ 262144) (mb : nl b.den ≤ 262144) :
    Calls Tryz.prog 56 #[.agg #[.bool (sg a.num), .slice aA (nl (mg a.num)) ac, .slice aB (nl a.den) ad], .agg #[.bool (sg b.num), .slice bA (nl (mg b.num)) bc, .slice bB (nl b.den) bd]] w (RetR w (a * b)) := by
  have hd := divInt_mul a b
  replace hd := Lib.hid hd
  obtain ⟨hb1, Ra, Rb, Rr⟩ := bx3 w #[.bool (sg a.num), .slice aA (nl (mg a.num)) ac, .slice aB (nl a.den) ad] 26 #[.bool (sg b.num), .slice bA (nl (mg b.num)) bc, .slice bB (nl b.den) bd] 26 #[.bool false, .slice none 0 0, .slice none 0 0] 26
  replace ha := ha.below hb1
  replace ga := ga.below hb1
  replace hb := hb.below hb1
  replace gb := gb.below hb1
  have HBT := hb1
  clear hb1
  have qa0 := Ra.c (i := 0) rfl
  have qa1 := Ra.c (i := 1) rfl
  have qa2 := Ra.c (i := 2) rfl
  have qb0 := Rb.c (i := 0) rfl
  have qb1 := Rb.c (i := 1) rfl
  have qb2 := Rb.c (i := 2) rfl
  have qr0 := Rr.c (i := 0) rfl
  have qr1 := Rr.c (i := 1) rfl
  have qr2 := Rr.c (i := 2) rfl
  go_enter Tryz.func56, Tryz.ntmps56
  go_wp2_with (fail)
  have hd2 := drb ((((w.alloc (.cells #[.bool (sg a.num), .slice aA (nl (mg a.num)) ac, .slice aB (nl a.den) ad] 26)).alloc (.cells #[.bool (sg b.num), .slice bA (nl (mg b.num)) bc, .slice bB (nl b.den) bd] 26)).alloc (.cells #[.bool false, .slice none 0 0, .slice none 0 0] 26)))
  replace ha := ha.below hd2
  replace ga := ga.below hd2
  replace hb := hb.below hd2
  replace gb := gb.below hd2
  replace Ra := Ra.below hd2
  replace qa0 := cbl hd2 qa0
  replace qa1 := cbl hd2 qa1
  replace qa2 := cbl hd2 qa2
  replace Rb := Rb.below hd2
  replace qb0 := cbl hd2 qb0
  replace qb1 := cbl hd2 qb1
  replace qb2 := cbl hd2 qb2
  replace Rr := Rr.below hd2
  replace qr0 := cbl hd2 qr0
  replace qr1 := cbl hd2 qr1
  replace qr2 := cbl hd2 qr2
  replace HBT := Below.cons HBT hd2
  clear hd2
  obtain ⟨n, En⟩ : ∃ zq : Int, zq = a.num * b.num := ⟨_, rfl⟩
  have Nn : nl (mg n) ≤ 524288 := by rw [En, mg_mul]; have := nl_mul (mg a.num) (mg b.num); omega
  have C2_0 := fun (W : World) (h1 : NatV W aA ac (mg a.num)) (h2 : NatV W bA bc (mg b.num)) => zmul_c aA ac a.num bA bc b.num W h1 h2 (by omega) (by omega)
  simp only [← En] at C2_0
  replace En := Lib.hid En
  replace C2_0 := Lib.hid C2_0
  obtain ⟨u, Eu⟩ : ∃ zq : Int, zq = (a.den : Int) := ⟨_, rfl⟩
  have Nu : nl (mg u) ≤ 262144 := by rw [Eu, mg_nat]; exact ma
  have C2_1 := fun (W : World) (h1 : NatV W aB ad a.den) => r9nat_c aB ad a.den W h1
  simp only [← Eu] at C2_1
  replace Eu := Lib.hid Eu
  replace C2_1 := Lib.hid C2_1
  obtain ⟨v, Ev⟩ : ∃ zq : Int, zq = (b.den : Int) := ⟨_, rfl⟩
  have Nv : nl (mg v) ≤ 262144 := by rw [Ev, mg_nat]; exact mb
  have C2_2 := fun (W : World) (h1 : NatV W bB bd b.den) => r9nat_c bB bd b.den W h1
  simp only [← Ev] at C2_2
  replace Ev := Lib.hid Ev
  replace C2_2 := Lib.hid C2_2
  obtain ⟨p, Ep⟩ : ∃ zq : Int, zq = u * v := ⟨_, rfl⟩
  have Np : nl (mg p) ≤ 524288 := by rw [Ep, mg_mul]; have := nl_mul (mg u) (mg v); omega
  have P0 : 0 < p := by rw [Ep, Eu.out, Ev.out]; have := a.den_nz; have := b.den_nz; exact Int.mul_pos (by omega) (by omega)
  have C2_3 := fun (W : World) (A : Option Addr) (c : Nat) (B : Option Addr) (d : Nat) (h1 : NatV W A c (mg u)) (h2 : NatV W B d (mg v)) => zmul_c A c u B d v W h1 h2 (by omega) (by omega)
  simp only [← Ep] at C2_3
  replace Ep := Lib.hid Ep
  replace C2_3 := Lib.hid C2_3
  obtain ⟨q, Eq⟩ : ∃ zq : Rat, zq = Rat.divInt n p := ⟨_, rfl⟩
  have C2_4 := fun (W : World) (A : Option Addr) (c : Nat) (B : Option Addr) (d : Nat) (h1 : NatV W A c (mg n)) (h2 : NatV W B d (mg p)) => r9over_c A c n B d p W h1 h2 (by omega) (by omega) P0
  simp only [← Eq] at C2_4
  replace Eq := Lib.hid Eq
  replace C2_4 := Lib.hid C2_4
  go_region_held3 (fun W => W.cell? ⟨w.heap.size, 0, none⟩ = some (.bool (sg a.num)) ∧ W.cell? ⟨w.heap.size, 1, none⟩ = some (.slice aA (nl (mg a.num)) ac) ∧ W.cell? ⟨w.heap.size, 2, none⟩ = some (.slice aB (nl a.den) ad) ∧ W.cell? ⟨(w.heap.size + 1), 0, none⟩ = some (.bool (sg b.num)) ∧ W.cell? ⟨(w.heap.size + 1), 1, none⟩ = some (.slice bA (nl (mg b.num)) bc) ∧ W.cell? ⟨(w.heap.size + 1), 2, none⟩ = some (.slice bB (nl b.den) bd))
    (first
      | exact ⟨qa0, qa1, qa2, qb0, qb1, qb2⟩
      | exact ⟨qa0_3, qa1_3, qa2_3, qb0_3, qb1_3, qb2_3⟩
      | exact ⟨qa0_4, qa1_4, qa2_4, qb0_4, qb1_4, qb2_4⟩
      | exact ⟨qa0_5, qa1_5, qa2_5, qb0_5, qb1_5, qb2_5⟩
      | exact ⟨qa0_6, qa1_6, qa2_6, qb0_6, qb1_6, qb2_6⟩
      | exact ⟨qa0_7, qa1_7, qa2_7, qb0_7, qb1_7, qb2_7⟩
      | exact ⟨((Ra_7.other3 (by simp <;> omega)).c (i := 0) rfl), ((Ra_7.other3 (by simp <;> omega)).c (i := 1) rfl), ((Ra_7.other3 (by simp <;> omega)).c (i := 2) rfl), ((Rb_7.other3 (by simp <;> omega)).c (i := 0) rfl), ((Rb_7.other3 (by simp <;> omega)).c (i := 1) rfl), ((Rb_7.other3 (by simp <;> omega)).c (i := 2) rfl)⟩
      | go_keep)
    (first
      | (go_at_call 81; (with_reducible refine (C2_0.out _ ha hb).mono ?_); rintro e W3 ⟨Xn, cn, rfl, hn, hb3⟩; have ha_3 := ha.below hb3; have ga_3 := ga.below hb3; have hb_3 := hb.below hb3; have gb_3 := gb.below hb3; have Ra_3 := Ra.below hb3; have qa0_3 := cbl hb3 qa0; have qa1_3 := cbl hb3 qa1; have qa2_3 := cbl hb3 qa2; have Rb_3 := Rb.below hb3; have qb0_3 := cbl hb3 qb0; have qb1_3 := cbl hb3 qb1; have qb2_3 := cbl hb3 qb2; have Rr_3 := Rr.below hb3; have qr0_3 := cbl hb3 qr0; have qr1_3 := cbl hb3 qr1; have qr2_3 := cbl hb3 qr2; have HBT_3 := Below.cons HBT hb3)
      | (go_at_call 61; (with_reducible refine (C2_1.out _ ga_3).mono ?_); rintro e W4 ⟨Xu, cu, rfl, hu, hb4⟩; have ha_4 := ha_3.below hb4; have ga_4 := ga_3.below hb4; have hb_4 := hb_3.below hb4; have gb_4 := gb_3.below hb4; have Ra_4 := Ra_3.below hb4; have qa0_4 := cbl hb4 qa0_3; have qa1_4 := cbl hb4 qa1_3; have qa2_4 := cbl hb4 qa2_3; have Rb_4 := Rb_3.below hb4; have qb0_4 := cbl hb4 qb0_3; have qb1_4 := cbl hb4 qb1_3; have qb2_4 := cbl hb4 qb2_3; have Rr_4 := Rr_3.below hb4; have qr0_4 := cbl hb4 qr0_3; have qr1_4 := cbl hb4 qr1_3; have qr2_4 := cbl hb4 qr2_3; have hn_4 := hn.below hb4; have HBT_4 := Below.cons HBT_3 hb4)
      | (go_at_call 61; (with_reducible refine (C2_2.out _ gb_4).mono ?_); rintro e W5 ⟨Xv, cv, rfl, hv, hb5⟩; have ha_5 := ha_4.below hb5; have ga_5 := ga_4.below hb5; have hb_5 := hb_4.below hb5; have gb_5 := gb_4.below hb5; have Ra_5 := Ra_4.below hb5; have qa0_5 := cbl hb5 qa0_4; have qa1_5 := cbl hb5 qa1_4; have qa2_5 := cbl hb5 qa2_4; have Rb_5 := Rb_4.below hb5; have qb0_5 := cbl hb5 qb0_4; have qb1_5 := cbl hb5 qb1_4; have qb2_5 := cbl hb5 qb2_4; have Rr_5 := Rr_4.below hb5; have qr0_5 := cbl hb5 qr0_4; have qr1_5 := cbl hb5 qr1_4; have qr2_5 := cbl hb5 qr2_4; have hn_5 := hn_4.below hb5; have hu_5 := hu.below hb5; have HBT_5 := Below.cons HBT_4 hb5)
      | (go_at_call 81; (with_reducible refine (C2_3.out _ _ _ _ _ hu_5 hv).mono ?_); rintro e W6 ⟨Xp, cp, rfl, hp, hb6⟩; have ha_6 := ha_5.below hb6; have ga_6 := ga_5.below hb6; have hb_6 := hb_5.below hb6; have gb_6 := gb_5.below hb6; have Ra_6 := Ra_5.below hb6; have qa0_6 := cbl hb6 qa0_5; have qa1_6 := cbl hb6 qa1_5; have qa2_6 := cbl hb6 qa2_5; have Rb_6 := Rb_5.below hb6; have qb0_6 := cbl hb6 qb0_5; have qb1_6 := cbl hb6 qb1_5; have qb2_6 := cbl hb6 qb2_5; have Rr_6 := Rr_5.below hb6; have qr0_6 := cbl hb6 qr0_5; have qr1_6 := cbl hb6 qr1_5; have qr2_6 := cbl hb6 qr2_5; have hn_6 := hn_5.below hb6; have hu_6 := hu_5.below hb6; have hv_6 := hv.below hb6; have HBT_6 := Below.cons HBT_5 hb6)
      | (go_at_call 60; (with_reducible refine (C2_4.out _ _ _ _ _ hn_6 hp).mono ?_); rintro e W7 ⟨Xq, cq, Yq, dq, rfl, hq, gq, hb7⟩; have ha_7 := ha_6.below hb7; have ga_7 := ga_6.below hb7; have hb_7 := hb_6.below hb7; have gb_7 := gb_6.below hb7; have Ra_7 := Ra_6.below hb7; have qa0_7 := cbl hb7 qa0_6; have qa1_7 := cbl hb7 qa1_6; have qa2_7 := cbl hb7 qa2_6; have Rb_7 := Rb_6.below hb7; have qb0_7 := cbl hb7 qb0_6; have qb1_7 := cbl hb7 qb1_6; have qb2_7 := cbl hb7 qb2_6; have Rr_7 := Rr_6.below hb7; have qr0_7 := cbl hb7 qr0_6; have qr1_7 := cbl hb7 qr1_6; have qr2_7 := cbl hb7 qr2_6; have hn_7 := hn_6.below hb7; have hu_7 := hu_6.below hb7; have hv_7 := hv_6.below hb7; have hp_7 := hp.below hb7; have HBT_7 := Below.cons HBT_6 hb7; have fz0 := Rr_7.f (i := 0); have fz1 := Rr_7.f (i := 1); have fz2 := Rr_7.f (i := 2)))
  all_goals (try go_wp2_with (fail))
  have hzq : q = a * b := by rw [Eq.out, En.out, Ep.out, Eu.out, Ev.out]; exact hd.out
  subst hzq
  have RS := Rr_7.store3 (.bool (sg ((a * b)).num)) (.slice Xq (nl (mg ((a * b)).num)) cq) (.slice Yq (nl ((a * b)).den) dq)
  have e0 := RS.c (i := 0) rfl
  have e1 := RS.c (i := 1) rfl
  have e2 := RS.c (i := 2) rfl
  refine bodyPost_ret (v := .agg #[.bool (sg ((a * b)).num), .slice Xq (nl (mg ((a * b)).num)) cq, .slice Yq (nl ((a * b)).den) dq]) (by simp [results, Tryz.results56, go_sem, e0, e1, e2]) rfl ?_
  exact ⟨Xq, cq, Yq, dq, rfl, (Rr_7.keep3 (nuB rfl) hq), (Rr_7.keep3 (nuB rfl) gq), (Below.store3 HBT_7 (by first | exact Nat.le_refl _ | omega))⟩
end Go.Proofs.YtacjfpibilolnaaGreatDoor

/- The document's rationals, walked: Mul, Add, Cmp. -/
set_option linter.unusedVariables false
set_option linter.unusedSimpArgs false
namespace Go.Proofs.YtacjfpibilolnaaGreatDoor
open Go.RowKit Go.Shelf
attribute [local go_sem] max2_i min2_i max_two min_two

theorem r9add_c (aA : Option Addr) (ac : Nat) (aB : Option Addr) (ad : Nat) (a : Rat) (bA : Option Addr) (bc : Nat) (bB : Option Addr) (bd : Nat) (b : Rat) (w : World) (ha : NatV w aA ac (mg a.num)) (ga : NatV w aB ad a.den) (hb : NatV w bA bc (mg b.num)) (gb : NatV w bB bd b.den) (la : nl (mg a.num) ≤ 262144) (ma : nl a.den ≤ 262144) (lb : nl (mg b.num) ≤ 262144) (mb : nl b.den ≤ 262144) :
    Calls Tryz.prog 36 #[.agg #[.bool (sg a.num), .slice aA (nl (mg a.num)) ac, .slice aB (nl a.den) ad], .agg #[.bool (sg b.num), .slice bA (nl (mg b.num)) bc, .slice bB (nl b.den) bd]] w (RetR w (a + b)) := by
  have hd := divInt_add a b
  replace hd := Lib.hid hd
  obtain ⟨hb1, Ra, Rb, Rr⟩ := bx3 w #[.bool (sg a.num), .slice aA (nl (mg a.num)) ac, .slice aB (nl a.den) ad] 26 #[.bool (sg b.num), .slice bA (nl (mg b.num)) bc, .slice bB (nl b.den) bd] 26 #[.bool false, .slice none 0 0, .slice none 0 0] 26
  replace ha := ha.below hb1
  replace ga := ga.below hb1
  replace hb := hb.below hb1
  replace gb := gb.below hb1
  have HBT := hb1
  clear hb1
  have qa0 := Ra.c (i := 0) rfl
  have qa1 := Ra.c (i := 1) rfl
  have qa2 := Ra.c (i := 2) rfl
  have qb0 := Rb.c (i := 0) rfl
  have qb1 := Rb.c (i := 1) rfl
  have qb2 := Rb.c (i := 2) rfl
  have qr0 := Rr.c (i := 0) rfl
  have qr1 := Rr.c (i := 1) rfl
  have qr2 := Rr.c (i := 2) rfl
  go_enter Tryz.func36, Tryz.ntmps36
  go_wp2_with (fail)
  have hd2 := drb ((((w.alloc (.cells #[.bool (sg a.num), .slice aA (nl (mg a.num)) ac, .slice aB (nl a.den) ad] 26)).alloc (.cells #[.bool (sg b.num), .slice bA (nl (mg b.num)) bc, .slice bB (nl b.den) bd] 26)).alloc (.cells #[.bool false, .slice none 0 0, .slice none 0 0] 26)))
  replace ha := ha.below hd2
  replace ga := ga.below hd2
  replace hb := hb.below hd2
  replace gb := gb.below hd2
  replace Ra := Ra.below hd2
  replace qa0 := cbl hd2 qa0
  replace qa1 := cbl hd2 qa1
  replace qa2 := cbl hd2 qa2
  replace Rb := Rb.below hd2
  replace qb0 := cbl hd2 qb0
  replace qb1 := cbl hd2 qb1
  replace qb2 := cbl hd2 qb2
  replace Rr := Rr.below hd2
  replace qr0 := cbl hd2 qr0
  replace qr1 := cbl hd2 qr1
  replace qr2 := cbl hd2 qr2
  replace HBT := Below.cons HBT hd2
  clear hd2
  obtain ⟨v, Ev⟩ : ∃ zq : Int, zq = (b.den : Int) := ⟨_, rfl⟩
  have Nv : nl (mg v) ≤ 262144 := by rw [Ev, mg_nat]; exact mb
  have C2_0 := fun (W : World) (h1 : NatV W bB bd b.den) => r9nat_c bB bd b.den W h1
  simp only [← Ev] at C2_0
  replace Ev := Lib.hid Ev
  replace C2_0 := Lib.hid C2_0
  obtain ⟨n1, En1⟩ : ∃ zq : Int, zq = a.num * v := ⟨_, rfl⟩
  have Nn1 : nl (mg n1) ≤ 524288 := by rw [En1, mg_mul]; have := nl_mul (mg a.num) (mg v); omega
  have C2_1 := fun (W : World) (A : Option Addr) (c : Nat) (h1 : NatV W aA ac (mg a.num)) (h2 : NatV W A c (mg v)) => zmul_c aA ac a.num A c v W h1 h2 (by omega) (by omega)
  simp only [← En1] at C2_1
  replace En1 := Lib.hid En1
  replace C2_1 := Lib.hid C2_1
  obtain ⟨u, Eu⟩ : ∃ zq : Int, zq = (a.den : Int) := ⟨_, rfl⟩
  have Nu : nl (mg u) ≤ 262144 := by rw [Eu, mg_nat]; exact ma
  have C2_2 := fun (W : World) (h1 : NatV W aB ad a.den) => r9nat_c aB ad a.den W h1
  simp only [← Eu] at C2_2
  replace Eu := Lib.hid Eu
  replace C2_2 := Lib.hid C2_2
  obtain ⟨n2, En2⟩ : ∃ zq : Int, zq = b.num * u := ⟨_, rfl⟩
  have Nn2 : nl (mg n2) ≤ 524288 := by rw [En2, mg_mul]; have := nl_mul (mg b.num) (mg u); omega
  have C2_3 := fun (W : World) (A : Option Addr) (c : Nat) (h1 : NatV W bA bc (mg b.num)) (h2 : NatV W A c (mg u)) => zmul_c bA bc b.num A c u W h1 h2 (by omega) (by omega)
  simp only [← En2] at C2_3
  replace En2 := Lib.hid En2
  replace C2_3 := Lib.hid C2_3
  obtain ⟨n, En⟩ : ∃ zq : Int, zq = n1 + n2 := ⟨_, rfl⟩
  have Nn : nl (mg n) ≤ 524289 := by rw [En]; exact add_nl Nn1 Nn2
  have C2_4 := fun (W : World) (A : Option Addr) (c : Nat) (B : Option Addr) (d : Nat) (h1 : NatV W A c (mg n1)) (h2 : NatV W B d (mg n2)) => zadd_c A c n1 B d n2 W h1 h2 (by omega) (by omega)
  simp only [← En] at C2_4
  replace En := Lib.hid En
  replace C2_4 := Lib.hid C2_4
  obtain ⟨u2, Eu2⟩ : ∃ zq : Int, zq = (a.den : Int) := ⟨_, rfl⟩
  have Nu2 : nl (mg u2) ≤ 262144 := by rw [Eu2, mg_nat]; exact ma
  have C2_5 := fun (W : World) (h1 : NatV W aB ad a.den) => r9nat_c aB ad a.den W h1
  simp only [← Eu2] at C2_5
  replace Eu2 := Lib.hid Eu2
  replace C2_5 := Lib.hid C2_5
  obtain ⟨v2, Ev2⟩ : ∃ zq : Int, zq = (b.den : Int) := ⟨_, rfl⟩
  have Nv2 : nl (mg v2) ≤ 262144 := by rw [Ev2, mg_nat]; exact mb
  have C2_6 := fun (W : World) (h1 : NatV W bB bd b.den) => r9nat_c bB bd b.den W h1
  simp only [← Ev2] at C2_6
  replace Ev2 := Lib.hid Ev2
  replace C2_6 := Lib.hid C2_6
  obtain ⟨p, Ep⟩ : ∃ zq : Int, zq = u2 * v2 := ⟨_, rfl⟩
  have Np : nl (mg p) ≤ 524288 := by rw [Ep, mg_mul]; have := nl_mul (mg u2) (mg v2); omega
  have P0 : 0 < p := by rw [Ep, Eu2.out, Ev2.out]; have := a.den_nz; have := b.den_nz; exact Int.mul_pos (by omega) (by omega)
  have C2_7 := fun (W : World) (A : Option Addr) (c : Nat) (B : Option Addr) (d : Nat) (h1 : NatV W A c (mg u2)) (h2 : NatV W B d (mg v2)) => zmul_c A c u2 B d v2 W h1 h2 (by omega) (by omega)
  simp only [← Ep] at C2_7
  replace Ep := Lib.hid Ep
  replace C2_7 := Lib.hid C2_7
  obtain ⟨q, Eq⟩ : ∃ zq : Rat, zq = Rat.divInt n p := ⟨_, rfl⟩
  have C2_8 := fun (W : World) (A : Option Addr) (c : Nat) (B : Option Addr) (d : Nat) (h1 : NatV W A c (mg n)) (h2 : NatV W B d (mg p)) => r9over_c A c n B d p W h1 h2 (by omega) (by omega) P0
  simp only [← Eq] at C2_8
  replace Eq := Lib.hid Eq
  replace C2_8 := Lib.hid C2_8
  go_region_held3 (fun W => W.cell? ⟨w.heap.size, 0, none⟩ = some (.bool (sg a.num)) ∧ W.cell? ⟨w.heap.size, 1, none⟩ = some (.slice aA (nl (mg a.num)) ac) ∧ W.cell? ⟨w.heap.size, 2, none⟩ = some (.slice aB (nl a.den) ad) ∧ W.cell? ⟨(w.heap.size + 1), 0, none⟩ = some (.bool (sg b.num)) ∧ W.cell? ⟨(w.heap.size + 1), 1, none⟩ = some (.slice bA (nl (mg b.num)) bc) ∧ W.cell? ⟨(w.heap.size + 1), 2, none⟩ = some (.slice bB (nl b.den) bd))
    (first
      | exact ⟨qa0, qa1, qa2, qb0, qb1, qb2⟩
      | exact ⟨qa0_3, qa1_3, qa2_3, qb0_3, qb1_3, qb2_3⟩
      | exact ⟨qa0_4, qa1_4, qa2_4, qb0_4, qb1_4, qb2_4⟩
      | exact ⟨qa0_5, qa1_5, qa2_5, qb0_5, qb1_5, qb2_5⟩
      | exact ⟨qa0_6, qa1_6, qa2_6, qb0_6, qb1_6, qb2_6⟩
      | exact ⟨qa0_7, qa1_7, qa2_7, qb0_7, qb1_7, qb2_7⟩
      | exact ⟨qa0_8, qa1_8, qa2_8, qb0_8, qb1_8, qb2_8⟩
      | exact ⟨qa0_9, qa1_9, qa2_9, qb0_9, qb1_9, qb2_9⟩
      | exact ⟨qa0_10, qa1_10, qa2_10, qb0_10, qb1_10, qb2_10⟩
      | exact ⟨qa0_11, qa1_11, qa2_11, qb0_11, qb1_11, qb2_11⟩
      | exact ⟨((Ra_11.other3 (by simp <;> omega)).c (i := 0) rfl), ((Ra_11.other3 (by simp <;> omega)).c (i := 1) rfl), ((Ra_11.other3 (by simp <;> omega)).c (i := 2) rfl), ((Rb_11.other3 (by simp <;> omega)).c (i := 0) rfl), ((Rb_11.other3 (by simp <;> omega)).c (i := 1) rfl), ((Rb_11.other3 (by simp <;> omega)).c (i := 2) rfl)⟩
      | go_keep)
    (first
      | (go_at_call 61; (with_reducible refine (C2_0.out _ gb).mono ?_); rintro e W3 ⟨Xv, cv, rfl, hv, hb3⟩; have ha_3 := ha.below hb3; have ga_3 := ga.below hb3; have hb_3 := hb.below hb3; have gb_3 := gb.below hb3; have Ra_3 := Ra.below hb3; have qa0_3 := cbl hb3 qa0; have qa1_3 := cbl hb3 qa1; have qa2_3 := cbl hb3 qa2; have Rb_3 := Rb.below hb3; have qb0_3 := cbl hb3 qb0; have qb1_3 := cbl hb3 qb1; have qb2_3 := cbl hb3 qb2; have Rr_3 := Rr.below hb3; have qr0_3 := cbl hb3 qr0; have qr1_3 := cbl hb3 qr1; have qr2_3 := cbl hb3 qr2; have HBT_3 := Below.cons HBT hb3)
      | (go_at_call 81; (with_reducible refine (C2_1.out _ _ _ ha_3 hv).mono ?_); rintro e W4 ⟨Xn1, cn1, rfl, hn1, hb4⟩; have ha_4 := ha_3.below hb4; have ga_4 := ga_3.below hb4; have hb_4 := hb_3.below hb4; have gb_4 := gb_3.below hb4; have Ra_4 := Ra_3.below hb4; have qa0_4 := cbl hb4 qa0_3; have qa1_4 := cbl hb4 qa1_3; have qa2_4 := cbl hb4 qa2_3; have Rb_4 := Rb_3.below hb4; have qb0_4 := cbl hb4 qb0_3; have qb1_4 := cbl hb4 qb1_3; have qb2_4 := cbl hb4 qb2_3; have Rr_4 := Rr_3.below hb4; have qr0_4 := cbl hb4 qr0_3; have qr1_4 := cbl hb4 qr1_3; have qr2_4 := cbl hb4 qr2_3; have hv_4 := hv.below hb4; have HBT_4 := Below.cons HBT_3 hb4)
      | (go_at_call 61; (with_reducible refine (C2_2.out _ ga_4).mono ?_); rintro e W5 ⟨Xu, cu, rfl, hu, hb5⟩; have ha_5 := ha_4.below hb5; have ga_5 := ga_4.below hb5; have hb_5 := hb_4.below hb5; have gb_5 := gb_4.below hb5; have Ra_5 := Ra_4.below hb5; have qa0_5 := cbl hb5 qa0_4; have qa1_5 := cbl hb5 qa1_4; have qa2_5 := cbl hb5 qa2_4; have Rb_5 := Rb_4.below hb5; have qb0_5 := cbl hb5 qb0_4; have qb1_5 := cbl hb5 qb1_4; have qb2_5 := cbl hb5 qb2_4; have Rr_5 := Rr_4.below hb5; have qr0_5 := cbl hb5 qr0_4; have qr1_5 := cbl hb5 qr1_4; have qr2_5 := cbl hb5 qr2_4; have hv_5 := hv_4.below hb5; have hn1_5 := hn1.below hb5; have HBT_5 := Below.cons HBT_4 hb5)
      | (go_at_call 81; (with_reducible refine (C2_3.out _ _ _ hb_5 hu).mono ?_); rintro e W6 ⟨Xn2, cn2, rfl, hn2, hb6⟩; have ha_6 := ha_5.below hb6; have ga_6 := ga_5.below hb6; have hb_6 := hb_5.below hb6; have gb_6 := gb_5.below hb6; have Ra_6 := Ra_5.below hb6; have qa0_6 := cbl hb6 qa0_5; have qa1_6 := cbl hb6 qa1_5; have qa2_6 := cbl hb6 qa2_5; have Rb_6 := Rb_5.below hb6; have qb0_6 := cbl hb6 qb0_5; have qb1_6 := cbl hb6 qb1_5; have qb2_6 := cbl hb6 qb2_5; have Rr_6 := Rr_5.below hb6; have qr0_6 := cbl hb6 qr0_5; have qr1_6 := cbl hb6 qr1_5; have qr2_6 := cbl hb6 qr2_5; have hv_6 := hv_5.below hb6; have hn1_6 := hn1_5.below hb6; have hu_6 := hu.below hb6; have HBT_6 := Below.cons HBT_5 hb6)
      | (go_at_call 38; (with_reducible refine (C2_4.out _ _ _ _ _ hn1_6 hn2).mono ?_); rintro e W7 ⟨Xn, cn, rfl, hn, hb7⟩; have ha_7 := ha_6.below hb7; have ga_7 := ga_6.below hb7; have hb_7 := hb_6.below hb7; have gb_7 := gb_6.below hb7; have Ra_7 := Ra_6.below hb7; have qa0_7 := cbl hb7 qa0_6; have qa1_7 := cbl hb7 qa1_6; have qa2_7 := cbl hb7 qa2_6; have Rb_7 := Rb_6.below hb7; have qb0_7 := cbl hb7 qb0_6; have qb1_7 := cbl hb7 qb1_6; have qb2_7 := cbl hb7 qb2_6; have Rr_7 := Rr_6.below hb7; have qr0_7 := cbl hb7 qr0_6; have qr1_7 := cbl hb7 qr1_6; have qr2_7 := cbl hb7 qr2_6; have hv_7 := hv_6.below hb7; have hn1_7 := hn1_6.below hb7; have hu_7 := hu_6.below hb7; have hn2_7 := hn2.below hb7; have HBT_7 := Below.cons HBT_6 hb7)
      | (go_at_call 61; (with_reducible refine (C2_5.out _ ga_7).mono ?_); rintro e W8 ⟨Xu2, cu2, rfl, hu2, hb8⟩; have ha_8 := ha_7.below hb8; have ga_8 := ga_7.below hb8; have hb_8 := hb_7.below hb8; have gb_8 := gb_7.below hb8; have Ra_8 := Ra_7.below hb8; have qa0_8 := cbl hb8 qa0_7; have qa1_8 := cbl hb8 qa1_7; have qa2_8 := cbl hb8 qa2_7; have Rb_8 := Rb_7.below hb8; have qb0_8 := cbl hb8 qb0_7; have qb1_8 := cbl hb8 qb1_7; have qb2_8 := cbl hb8 qb2_7; have Rr_8 := Rr_7.below hb8; have qr0_8 := cbl hb8 qr0_7; have qr1_8 := cbl hb8 qr1_7; have qr2_8 := cbl hb8 qr2_7; have hv_8 := hv_7.below hb8; have hn1_8 := hn1_7.below hb8; have hu_8 := hu_7.below hb8; have hn2_8 := hn2_7.below hb8; have hn_8 := hn.below hb8; have HBT_8 := Below.cons HBT_7 hb8)
      | (go_at_call 61; (with_reducible refine (C2_6.out _ gb_8).mono ?_); rintro e W9 ⟨Xv2, cv2, rfl, hv2, hb9⟩; have ha_9 := ha_8.below hb9; have ga_9 := ga_8.below hb9; have hb_9 := hb_8.below hb9; have gb_9 := gb_8.below hb9; have Ra_9 := Ra_8.below hb9; have qa0_9 := cbl hb9 qa0_8; have qa1_9 := cbl hb9 qa1_8; have qa2_9 := cbl hb9 qa2_8; have Rb_9 := Rb_8.below hb9; have qb0_9 := cbl hb9 qb0_8; have qb1_9 := cbl hb9 qb1_8; have qb2_9 := cbl hb9 qb2_8; have Rr_9 := Rr_8.below hb9; have qr0_9 := cbl hb9 qr0_8; have qr1_9 := cbl hb9 qr1_8; have qr2_9 := cbl hb9 qr2_8; have hv_9 := hv_8.below hb9; have hn1_9 := hn1_8.below hb9; have hu_9 := hu_8.below hb9; have hn2_9 := hn2_8.below hb9; have hn_9 := hn_8.below hb9; have hu2_9 := hu2.below hb9; have HBT_9 := Below.cons HBT_8 hb9)
      | (go_at_call 81; (with_reducible refine (C2_7.out _ _ _ _ _ hu2_9 hv2).mono ?_); rintro e W10 ⟨Xp, cp, rfl, hp, hb10⟩; have ha_10 := ha_9.below hb10; have ga_10 := ga_9.below hb10; have hb_10 := hb_9.below hb10; have gb_10 := gb_9.below hb10; have Ra_10 := Ra_9.below hb10; have qa0_10 := cbl hb10 qa0_9; have qa1_10 := cbl hb10 qa1_9; have qa2_10 := cbl hb10 qa2_9; have Rb_10 := Rb_9.below hb10; have qb0_10 := cbl hb10 qb0_9; have qb1_10 := cbl hb10 qb1_9; have qb2_10 := cbl hb10 qb2_9; have Rr_10 := Rr_9.below hb10; have qr0_10 := cbl hb10 qr0_9; have qr1_10 := cbl hb10 qr1_9; have qr2_10 := cbl hb10 qr2_9; have hv_10 := hv_9.below hb10; have hn1_10 := hn1_9.below hb10; have hu_10 := hu_9.below hb10; have hn2_10 := hn2_9.below hb10; have hn_10 := hn_9.below hb10; have hu2_10 := hu2_9.below hb10; have hv2_10 := hv2.below hb10; have HBT_10 := Below.cons HBT_9 hb10)
      | (go_at_call 60; (with_reducible refine (C2_8.out _ _ _ _ _ hn_10 hp).mono ?_); rintro e W11 ⟨Xq, cq, Yq, dq, rfl, hq, gq, hb11⟩; have ha_11 := ha_10.below hb11; have ga_11 := ga_10.below hb11; have hb_11 := hb_10.below hb11; have gb_11 := gb_10.below hb11; have Ra_11 := Ra_10.below hb11; have qa0_11 := cbl hb11 qa0_10; have qa1_11 := cbl hb11 qa1_10; have qa2_11 := cbl hb11 qa2_10; have Rb_11 := Rb_10.below hb11; have qb0_11 := cbl hb11 qb0_10; have qb1_11 := cbl hb11 qb1_10; have qb2_11 := cbl hb11 qb2_10; have Rr_11 := Rr_10.below hb11; have qr0_11 := cbl hb11 qr0_10; have qr1_11 := cbl hb11 qr1_10; have qr2_11 := cbl hb11 qr2_10; have hv_11 := hv_10.below hb11; have hn1_11 := hn1_10.below hb11; have hu_11 := hu_10.below hb11; have hn2_11 := hn2_10.below hb11; have hn_11 := hn_10.below hb11; have hu2_11 := hu2_10.below hb11; have hv2_11 := hv2_10.below hb11; have hp_11 := hp.below hb11; have HBT_11 := Below.cons HBT_10 hb11; have fz0 := Rr_11.f (i := 0); have fz1 := Rr_11.f (i := 1); have fz2 := Rr_11.f (i := 2)))
  all_goals (try go_wp2_with (fail))
  have hzq : q = a + b := by rw [Eq.out, En.out, En1.out, En2.out, Ep.out, Eu.out, Ev.out, Eu2.out, Ev2.out]; exact hd.out
  subst hzq
  have RS := Rr_11.store3 (.bool (sg ((a + b)).num)) (.slice Xq (nl (mg ((a + b)).num)) cq) (.slice Yq (nl ((a + b)).den) dq)
  have e0 := RS.c (i := 0) rfl
  have e1 := RS.c (i := 1) rfl
  have e2 := RS.c (i := 2) rfl
  refine bodyPost_ret (v := .agg #[.bool (sg ((a + b)).num), .slice Xq (nl (mg ((a + b)).num)) cq, .slice Yq (nl ((a + b)).den) dq]) (by simp [results, Tryz.results36, go_sem, e0, e1, e2]) rfl ?_
  exact ⟨Xq, cq, Yq, dq, rfl, (Rr_11.keep3 (nuB rfl) hq), (Rr_11.keep3 (nuB rfl) gq), (Below.store3 HBT_11 (by first | exact Nat.le_refl _ | omega))⟩
end Go.Proofs.YtacjfpibilolnaaGreatDoor
