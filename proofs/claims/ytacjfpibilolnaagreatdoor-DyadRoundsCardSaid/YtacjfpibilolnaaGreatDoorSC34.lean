/- The document's rationals, walked: nat, Whole, Make, over, Sign, Neg. -/
import Derived.Test.YtacjfpibilolnaaGreatDoorSC33
set_option maxRecDepth 100000
set_option maxHeartbeats 4000000
set_option linter.unusedVariables false
set_option linter.unusedSimpArgs false
namespace Go.Proofs.YtacjfpibilolnaaGreatDoor
open Go.RowKit Go.Shelf
attribute [local go_sem] max2_i min2_i max_two min_two

def PIb (u : Value) (q : Int) (W : World) : Prop := ∃ X c, u = .tuple #[.agg #[.bool (sg q), .slice X (nl (mg q)) c], .bool true] ∧ NatV W X c (mg q)
theorem PIb.below {W W' : World} {u : Value} {q : Int} (h : PIb u q W) (hb : Below W.heap.size W W') : PIb u q W' := by
  obtain ⟨X, c, h1, h2⟩ := h; exact ⟨X, c, h1, h2.below hb⟩
theorem PIb.put {W W' : World} {u : Value} {q : Int} {k : Nat} (h : PIb u q W) (hp : Put W W' k) : PIb u q W' := by
  obtain ⟨X, c, h1, h2⟩ := h; exact ⟨X, c, h1, hp.nat h2⟩
theorem sg_natc (n : Nat) : sg (n : Int) = false := sg_f (Int.natCast_nonneg n)
theorem r9nat_c (aA : Option Addr) (ac a : Nat) (w : World) (ha : NatV w aA ac a)  :
    Calls Tryz.prog 61 #[.slice aA (nl a) ac] w (RetI w (a : Int)) := by
  obtain ⟨hb1, Rr⟩ := bx1 w #[.bool false, .slice aA (nl a) ac] 24
  replace ha := ha.below hb1
  have HBT := hb1
  clear hb1
  have qr0 := Rr.c (i := 0) rfl
  have qr1 := Rr.c (i := 1) rfl
  go_enter Tryz.func61, Tryz.ntmps61
  go_wp2_with (fail)
  have e0 := Rr.c (i := 0) rfl
  have e1 := Rr.c (i := 1) rfl
  refine bodyPost_ret (v := .agg #[.bool false, .slice aA (nl a) ac]) (by simp [results, Tryz.results61, go_sem, e0, e1]) rfl ?_
  exact ⟨aA, ac, by rw [sg_natc, mg_nat], by rw [mg_nat]; exact ha, HBT⟩
theorem r9whole_c (aA : Option Addr) (ac : Nat) (a : Int) (w : World) (ha : NatV w aA ac (mg a))  :
    Calls Tryz.prog 78 #[.agg #[.bool (sg a), .slice aA (nl (mg a)) ac]] w (RetR w (a : Rat)) := by
  go_enter Tryz.func78, Tryz.ntmps78
  go_wp2_with (fail)
  obtain ⟨hb1, Ra, Rr, Rl⟩ := bx3 w #[.bool (sg a), .slice aA (nl (mg a)) ac] 24 #[.bool (sg a), .slice aA (nl (mg a)) ac, .slice (some ⟨w.heap.size + 1 + 1, 0, none⟩) 1 1] 26 #[.int .u32 1] 58
  replace ha := ha.below hb1
  have HBT := hb1
  clear hb1
  have qa0 := Ra.c (i := 0) rfl
  have qa1 := Ra.c (i := 1) rfl
  have qr0 := Rr.c (i := 0) rfl
  have qr1 := Rr.c (i := 1) rfl
  have qr2 := Rr.c (i := 2) rfl
  have ql0 := Rl.c (i := 0) rfl
  have hone := nat_one _ _ Rl.at_
  refine bodyPost_ret (v := .agg #[.bool (sg a), .slice aA (nl (mg a)) ac, .slice (some ⟨w.heap.size + 1 + 1, 0, none⟩) 1 1]) (by simp [results, Tryz.results78, go_sem, qr0, qr1, qr2]) rfl ?_
  exact ⟨aA, ac, some ⟨w.heap.size + 1 + 1, 0, none⟩, 1, by rw [Rat.num_intCast, Rat.den_intCast, nl_one], by rw [Rat.num_intCast]; exact ha, by rw [Rat.den_intCast]; exact hone, HBT⟩
theorem r9make_c (aA : Option Addr) (ac : Nat) (a : Int) (bA : Option Addr) (bc : Nat) (b : Int) (w : World) (ha : NatV w aA ac (mg a)) (hb : NatV w bA bc (mg b)) (la : nl (mg a) ≤ 1048576) (lb : nl (mg b) ≤ 1048576) (hb0 : 0 < b) :
    Calls Tryz.prog 97 #[.agg #[.bool (sg a), .slice aA (nl (mg a)) ac], .agg #[.bool (sg b), .slice bA (nl (mg b)) bc]] w (RetRe w (Rat.divInt a b)) := by
  obtain ⟨p1, p2, p3, p4, p5, p6, p7⟩ := gcd_parts (n := a) hb0
  have hne : b ≠ 0 := by omega
  have sb : sg b = false := sg_f (by omega)
  have t0 : ((nl (mg b) : Int) == 0) = false := ieqF (by have := nl_pos.2 (show mg b ≠ 0 from fun e => hne (mg_zero.1 e)); omega)
  have t1 : (nl (mg b) == 0) = false := by have := nl_pos.2 (show mg b ≠ 0 from fun e => hne (mg_zero.1 e)); simp; omega
  obtain ⟨g, Eg⟩ : ∃ g, g = Nat.gcd (mg a) (mg b) := ⟨_, rfl⟩
  rw [← Eg] at p1 p2 p3 p4 p5 p6 p7
  have lg : nl g ≤ 1048576 := by rw [Eg]; exact Nat.le_trans (nl_mono (Nat.gcd_le_right _ (mg_pos.2 hne))) lb
  have hg0 : (g : Int) ≠ 0 := by omega
  have lg2 : nl (mg (g : Int)) ≤ 1048576 := by rw [mg_nat]; omega
  have bm : ((mg b : Nat) : Int) = b := by unfold mg; omega
  obtain ⟨v, Ev⟩ : ∃ z : Int, z = b / (g : Int) := ⟨_, rfl⟩
  have CX := fun (W : World) (A : Option Addr) (c : Nat) (G : Option Addr) (x : Nat) (h1 : NatV W A c (mg b)) (h2 : NatV W G x (mg (g : Int))) => zexact_c A c b G x (g : Int) W h1 h2 lb lg2 hg0 p2
  rw [← Ev] at CX
  have CN := fun (W : World) (h1 : NatV W bA bc (mg b)) => r9nat_c bA bc (mg b) W h1
  rw [bm] at CN
  replace p1 := Lib.hid p1
  replace p2 := Lib.hid p2
  replace p4 := Lib.hid p4
  replace p5 := Lib.hid p5
  replace p6 := Lib.hid p6
  replace p7 := Lib.hid p7
  replace hb0 := Lib.hid hb0
  replace Ev := Lib.hid Ev
  replace CX := Lib.hid CX
  replace CN := Lib.hid CN
  replace bm := Lib.hid bm
  obtain ⟨hb1, Ra, Rb, Rr⟩ := bx3 w #[.bool (sg a), .slice aA (nl (mg a)) ac] 24 #[.bool false, .slice bA (nl (mg b)) bc] 24 #[.bool false, .slice none 0 0, .slice none 0 0] 26
  replace ha := ha.below hb1
  replace hb := hb.below hb1
  have HBT := hb1
  clear hb1
  have qa0 := Ra.c (i := 0) rfl
  have qa1 := Ra.c (i := 1) rfl
  have qb0 := Rb.c (i := 0) rfl
  have qb1 := Rb.c (i := 1) rfl
  have qr0 := Rr.c (i := 0) rfl
  have qr1 := Rr.c (i := 1) rfl
  have qr2 := Rr.c (i := 2) rfl
  go_enter Tryz.func97, Tryz.ntmps97
  go_wp2_with (fail)
  have CC := rgcd_c aA ac (mg a) bA bc (mg b) (((w.alloc (.cells #[.bool (sg a), .slice aA (nl (mg a)) ac] 24)).alloc (.cells #[.bool false, .slice bA (nl (mg b)) bc] 24)).alloc (.cells #[.bool false, .slice none 0 0, .slice none 0 0] 26)) ha hb (by omega) (by omega)
  rw [← Eg] at CC
  replace CC := Lib.hid CC
  replace Eg := Lib.hid Eg
  refine (Calls.mono CC.out ?_)
  rintro e W2 ⟨Xg, cg, rfl, hg, hb2⟩
  replace ha := ha.below hb2
  replace hb := hb.below hb2
  replace Ra := Ra.below hb2
  replace qa0 := cbl hb2 qa0
  replace qa1 := cbl hb2 qa1
  replace Rb := Rb.below hb2
  replace qb0 := cbl hb2 qb0
  replace qb1 := cbl hb2 qb1
  replace Rr := Rr.below hb2
  replace qr0 := cbl hb2 qr0
  replace qr1 := cbl hb2 qr1
  replace qr2 := cbl hb2 qr2
  replace HBT := Below.cons HBT hb2
  clear hb2
  go_wp2_with (fail)
  obtain ⟨gi, Egi⟩ : ∃ zq : Int, zq = (g : Int) := ⟨_, rfl⟩
  refine (Calls.mono (R := RetI W2 gi) (by rw [Egi]; with_reducible exact (r9nat_c Xg cg g _ hg)) ?_)
  replace Egi := Lib.hid Egi
  rintro e W3 ⟨Xgi, cgi, rfl, hgi, hb3⟩
  replace ha := ha.below hb3
  replace hb := hb.below hb3
  replace Ra := Ra.below hb3
  replace qa0 := cbl hb3 qa0
  replace qa1 := cbl hb3 qa1
  replace Rb := Rb.below hb3
  replace qb0 := cbl hb3 qb0
  replace qb1 := cbl hb3 qb1
  replace Rr := Rr.below hb3
  replace qr0 := cbl hb3 qr0
  replace qr1 := cbl hb3 qr1
  replace qr2 := cbl hb3 qr2
  replace hg := hg.below hb3
  replace HBT := Below.cons HBT hb3
  clear hb3
  have hzgi : gi = (g : Int) := by exact Egi.out
  subst hzgi
  have szr := Rr.lt
  obtain ⟨hb4, Rg⟩ := bx1 W3 #[.bool (sg (((g : Int)))), .slice Xgi (nl (mg (((g : Int))))) cgi] 24
  replace ha := ha.below hb4
  replace hb := hb.below hb4
  replace Ra := Ra.below hb4
  replace qa0 := cbl hb4 qa0
  replace qa1 := cbl hb4 qa1
  replace Rb := Rb.below hb4
  replace qb0 := cbl hb4 qb0
  replace qb1 := cbl hb4 qb1
  replace Rr := Rr.below hb4
  replace qr0 := cbl hb4 qr0
  replace qr1 := cbl hb4 qr1
  replace qr2 := cbl hb4 qr2
  replace hg := hg.below hb4
  replace hgi := hgi.below hb4
  replace HBT := Below.cons HBT hb4
  clear hb4
  have qg0 := Rg.c (i := 0) rfl
  have qg1 := Rg.c (i := 1) rfl
  go_wp2_with (fail)
  obtain ⟨u, Eu⟩ : ∃ zq : Int, zq = a / (g : Int) := ⟨_, rfl⟩
  have CE := zexact_c aA ac a Xgi cgi (g : Int) (W3.alloc (.cells #[.bool (sg (((g : Int)))), .slice Xgi (nl (mg (((g : Int))))) cgi] 24)) ha hgi la lg2 hg0 p1.out
  rw [← Eu] at CE
  replace Eu := Lib.hid Eu
  replace CE := Lib.hid CE
  refine (Calls.mono CE.out ?_)
  clear CE
  rintro e W5 ⟨Xu, cu, rfl, hu, hb5⟩
  replace ha := ha.below hb5
  replace hb := hb.below hb5
  replace Ra := Ra.below hb5
  replace qa0 := cbl hb5 qa0
  replace qa1 := cbl hb5 qa1
  replace Rb := Rb.below hb5
  replace qb0 := cbl hb5 qb0
  replace qb1 := cbl hb5 qb1
  replace Rr := Rr.below hb5
  replace qr0 := cbl hb5 qr0
  replace qr1 := cbl hb5 qr1
  replace qr2 := cbl hb5 qr2
  replace hg := hg.below hb5
  replace hgi := hgi.below hb5
  replace Rg := Rg.below hb5
  replace qg0 := cbl hb5 qg0
  replace qg1 := cbl hb5 qg1
  replace HBT := Below.cons HBT hb5
  clear hb5
  have szg := Rg.lt
  obtain ⟨hb6, Ru⟩ := bx1 W5 #[.bool (sg u), .slice Xu (nl (mg u)) cu] 24
  replace ha := ha.below hb6
  replace hb := hb.below hb6
  replace Ra := Ra.below hb6
  replace qa0 := cbl hb6 qa0
  replace qa1 := cbl hb6 qa1
  replace Rb := Rb.below hb6
  replace qb0 := cbl hb6 qb0
  replace qb1 := cbl hb6 qb1
  replace Rr := Rr.below hb6
  replace qr0 := cbl hb6 qr0
  replace qr1 := cbl hb6 qr1
  replace qr2 := cbl hb6 qr2
  replace hg := hg.below hb6
  replace hgi := hgi.below hb6
  replace Rg := Rg.below hb6
  replace qg0 := cbl hb6 qg0
  replace qg1 := cbl hb6 qg1
  replace hu := hu.below hb6
  replace HBT := Below.cons HBT hb6
  clear hb6
  have qu0 := Ru.c (i := 0) rfl
  have qu1 := Ru.c (i := 1) rfl
  go_wp2_with (fail)
  clear t0 t1
  replace sb := Lib.hid sb
  have szu := Ru.lt
  generalize hW0 : (W5.alloc (.cells #[.bool (sg u), .slice Xu (nl (mg u)) cu] 24)) = W0 at *
  replace hW0 := Lib.hid hW0
  refine wp_region_inv (fun E a' w' => ∃ (u29 u30 u31 u32 u33 u28 u34 u35 u9 u10 : Value),
    a' = { tmps := #[.agg #[.bool (sg a), .slice aA (nl (mg a)) ac], .agg #[.bool false, .slice bA (nl (mg b)) bc], .pointer (some ⟨w.heap.size, 0, none⟩), .pointer (some ⟨(w.heap.size + 1), 0, none⟩), .pointer (some ⟨(w.heap.size + 1 + 1), 0, none⟩), .int .i64 0, .pointer (some ⟨W3.heap.size, 0, none⟩), .pointer (some ⟨W5.heap.size, 0, none⟩), .bool true, u9, u10, .pointer (some ⟨(w.heap.size + 1), 1, none⟩), .slice bA (nl (mg b)) bc, .int .i64 (nl (mg b)), .bool false, undef, .pointer (some ⟨w.heap.size, 1, none⟩), .slice aA (nl (mg a)) ac, .pointer (some ⟨(w.heap.size + 1), 1, none⟩), .slice bA (nl (mg b)) bc, .slice Xg (nl g) cg, .agg #[.bool (sg (((g : Int)))), .slice Xgi (nl (mg (((g : Int))))) cgi], .tuple #[.agg #[.bool (sg u), .slice Xu (nl (mg u)) cu], .bool true], .agg #[.bool (sg a), .slice aA (nl (mg a)) ac], .agg #[.bool (sg (((g : Int)))), .slice Xgi (nl (mg (((g : Int))))) cgi], .tuple #[.agg #[.bool (sg u), .slice Xu (nl (mg u)) cu], .bool true], .agg #[.bool (sg u), .slice Xu (nl (mg u)) cu], .bool true, u28, u29, u30, u31, u32, u33, u34, u35, undef, undef, undef, undef, undef, undef, undef, undef], defers := [] } ∧
    (E 0 = true → u29 = .pointer (some ⟨(w.heap.size + 1), 1, none⟩)) ∧
    (E 1 = true → u30 = .slice bA (nl (mg b)) bc) ∧
    (E 2 = true → PI u31 b w') ∧
    (E 3 = true → u32 = .agg #[.bool (sg (((g : Int)))), .slice Xgi (nl (mg (((g : Int))))) cgi]) ∧
    (E 4 = true → PIb u33 v w') ∧
    (E 5 = true → PIb u28 v w') ∧
    (E 6 = true → PI u34 v w') ∧
    (E 7 = true → u35 = .bool true) ∧
    (E 8 = true → PB2 24 W0.heap.size u9 w') ∧
    (E 9 = true → PBI W0.heap.size u9 v w') ∧
    (E 10 = true → u10 = .bool true) ∧
    (E 9 = true → E 8 = true) ∧
    Below W0.heap.size W0 w') (by kernel_rfl) (by kernel_rfl) ?init ?fin ?step
  case init => exact ⟨_, _, _, _, _, _, _, _, _, _, rfl, by simp, by simp, by simp, by simp, by simp, by simp, by simp, by simp, by simp, by simp, by simp, by simp, (Below.refl _ _).drew⟩
  case step =>
    rintro E a' w' i ⟨u29, u30, u31, u32, u33, u28, u34, u35, u9, u10, rfl, h0, h1, h2, h3, h4, h5, h6, h7, h8, h9, h10, hD9, hB⟩ hi hEi hdep
    have qb1 := cbl hB qb1
    have qg0 := cbl hB qg0
    have qg1 := cbl hB qg1
    obtain rfl | rfl | rfl | rfl | rfl | rfl | rfl | rfl | rfl | rfl | rfl : i = 0 ∨ i = 1 ∨ i = 2 ∨ i = 3 ∨ i = 4 ∨ i = 5 ∨ i = 6 ∨ i = 7 ∨ i = 8 ∨ i = 9 ∨ i = 10 := by simp at hi; omega
    · skip
      refine wpOp_step rfl (fun K' hK' => ?_)
      go_simp
      refine hK' _ _ ?_
      exact ⟨_, _, _, _, _, _, _, _, _, _, rfl, fun _ => rfl, keepD (by decide) h1, keepD (by decide) h2, keepD (by decide) h3, keepD (by decide) h4, keepD (by decide) h5, keepD (by decide) h6, keepD (by decide) h7, keepD (by decide) h8, keepD (by decide) h9, keepD (by decide) h10, (fun h => by have := hD9 (by simpa using h); simpa using this), hB⟩
    · skip
      have d0 := hdep _ rfl ⟨0, .data⟩ (by simp) rfl
      obtain rfl := h0 d0
      refine wpOp_step rfl (fun K' hK' => ?_)
      go_simp
      refine hK' _ _ ?_
      exact ⟨_, _, _, _, _, _, _, _, _, _, rfl, keepD (by decide) h0, fun _ => rfl, keepD (by decide) h2, keepD (by decide) h3, keepD (by decide) h4, keepD (by decide) h5, keepD (by decide) h6, keepD (by decide) h7, keepD (by decide) h8, keepD (by decide) h9, keepD (by decide) h10, (fun h => by have := hD9 (by simpa using h); simpa using this), hB⟩
    · skip
      have d1 := hdep _ rfl ⟨1, .data⟩ (by simp) rfl
      obtain rfl := h1 d1
      refine wpOp_step rfl (fun K' hK' => ?_)
      go_simp
      refine (Calls.mono (CN.out w' (hb.below hB)) ?_)
      rintro e W1 ⟨Xr, cr, rfl, kr, kb⟩
      refine hK' _ _ ?_
      exact ⟨_, _, _, _, _, _, _, _, _, _, rfl, keepD (by decide) h0, keepD (by decide) h1, fun _ => ⟨Xr, cr, rfl, kr⟩, keepD (by decide) h3, keepP (by decide) h4 (fun h => h.below kb), keepP (by decide) h5 (fun h => h.below kb), keepP (by decide) h6 (fun h => h.below kb), keepD (by decide) h7, keepP (by decide) h8 (fun h => h.below kb), keepP (by decide) h9 (fun h => h.below kb), keepD (by decide) h10, (fun h => by have := hD9 (by simpa using h); simpa using this), Below.cons hB kb⟩
    · skip
      refine wpOp_step rfl (fun K' hK' => ?_)
      go_simp
      refine hK' _ _ ?_
      exact ⟨_, _, _, _, _, _, _, _, _, _, rfl, keepD (by decide) h0, keepD (by decide) h1, keepD (by decide) h2, fun _ => rfl, keepD (by decide) h4, keepD (by decide) h5, keepD (by decide) h6, keepD (by decide) h7, keepD (by decide) h8, keepD (by decide) h9, keepD (by decide) h10, (fun h => by have := hD9 (by simpa using h); simpa using this), hB⟩
    · skip
      have d2 := hdep _ rfl ⟨2, .data⟩ (by simp) rfl
      obtain ⟨X_2, c_2, rfl, k_2⟩ := h2 d2
      have d3 := hdep _ rfl ⟨3, .data⟩ (by simp) rfl
      obtain rfl := h3 d3
      refine wpOp_step rfl (fun K' hK' => ?_)
      go_simp
      refine (Calls.mono (CX.out w' X_2 c_2 Xgi cgi k_2 (hgi.below hB)) ?_)
      rintro e W1 ⟨Xr, cr, rfl, kr, kb⟩
      refine hK' _ _ ?_
      exact ⟨_, _, _, _, _, _, _, _, _, _, rfl, keepD (by decide) h0, keepD (by decide) h1, keepP (by decide) h2 (fun h => h.below kb), keepD (by decide) h3, fun _ => ⟨Xr, cr, rfl, kr⟩, keepP (by decide) h5 (fun h => h.below kb), keepP (by decide) h6 (fun h => h.below kb), keepD (by decide) h7, keepP (by decide) h8 (fun h => h.below kb), keepP (by decide) h9 (fun h => h.below kb), keepD (by decide) h10, (fun h => by have := hD9 (by simpa using h); simpa using this), Below.cons hB kb⟩
    · skip
      have d4 := hdep _ rfl ⟨4, .data⟩ (by simp) rfl
      obtain ⟨X_4, c_4, rfl, k_4⟩ := h4 d4
      refine wpOp_step rfl (fun K' hK' => ?_)
      go_simp
      refine hK' _ _ ?_
      exact ⟨_, _, _, _, _, _, _, _, _, _, rfl, keepD (by decide) h0, keepD (by decide) h1, keepD (by decide) h2, keepD (by decide) h3, keepD (by decide) h4, fun _ => ⟨X_4, c_4, rfl, k_4⟩, keepD (by decide) h6, keepD (by decide) h7, keepD (by decide) h8, keepD (by decide) h9, keepD (by decide) h10, (fun h => by have := hD9 (by simpa using h); simpa using this), hB⟩
    · skip
      have d5 := hdep _ rfl ⟨5, .data⟩ (by simp) rfl
      obtain ⟨X_5, c_5, rfl, k_5⟩ := h5 d5
      refine wpOp_step rfl (fun K' hK' => ?_)
      go_simp
      refine hK' _ _ ?_
      exact ⟨_, _, _, _, _, _, _, _, _, _, rfl, keepD (by decide) h0, keepD (by decide) h1, keepD (by decide) h2, keepD (by decide) h3, keepD (by decide) h4, keepD (by decide) h5, fun _ => ⟨X_5, c_5, rfl, k_5⟩, keepD (by decide) h7, keepD (by decide) h8, keepD (by decide) h9, keepD (by decide) h10, (fun h => by have := hD9 (by simpa using h); simpa using this), hB⟩
    · skip
      have d5 := hdep _ rfl ⟨5, .data⟩ (by simp) rfl
      obtain ⟨X_5, c_5, rfl, k_5⟩ := h5 d5
      refine wpOp_step rfl (fun K' hK' => ?_)
      go_simp
      refine hK' _ _ ?_
      exact ⟨_, _, _, _, _, _, _, _, _, _, rfl, keepD (by decide) h0, keepD (by decide) h1, keepD (by decide) h2, keepD (by decide) h3, keepD (by decide) h4, keepD (by decide) h5, keepD (by decide) h6, fun _ => rfl, keepD (by decide) h8, keepD (by decide) h9, keepD (by decide) h10, (fun h => by have := hD9 (by simpa using h); simpa using this), hB⟩
    · skip
      have kb : Below w'.heap.size w' (w'.alloc (.cells #[.bool false, .slice none 0 0] 24)) := (Below.refl _ _).alloc (Nat.le_refl _) _
      refine wpOp_step rfl (fun K' hK' => ?_)
      go_simp
      refine hK' _ _ ?_
      exact ⟨_, _, _, _, _, _, _, _, _, _, rfl, keepD (by decide) h0, keepD (by decide) h1, keepP (by decide) h2 (fun h => h.below kb), keepD (by decide) h3, keepP (by decide) h4 (fun h => h.below kb), keepP (by decide) h5 (fun h => h.below kb), keepP (by decide) h6 (fun h => h.below kb), keepD (by decide) h7, fun _ => ⟨_, _, _, rfl, hB.size, ⟨at_new rfl⟩, notU_bool _, notU_slice _ _ _⟩, (fun h => by have h2 := hD9 (by simpa using h); rw [hEi] at h2; cases h2), keepD (by decide) h10, (fun _ => by simp), Below.cons hB kb⟩
    · skip
      have d8 := hdep _ rfl ⟨8, .data⟩ (by simp) rfl
      obtain ⟨nb, z0, z1, rfl, hn, hb, nz0, nz1⟩ := h8 d8
      have d6 := hdep _ rfl ⟨6, .data⟩ (by simp) rfl
      obtain ⟨X_6, c_6, rfl, k_6⟩ := h6 d6
      have fz0 := hb.f (i := 0)
      have cz0 := hb.c (i := 0) rfl
      have fz1 := hb.f (i := 1)
      have cz1 := hb.c (i := 1) rfl
      have hp := hb.put2 (notU2 nz0 nz1) (.bool (sg v)) (.slice X_6 (nl (mg v)) c_6)
      have hs := hb.store2 (.bool (sg v)) (.slice X_6 (nl (mg v)) c_6)
      refine wpOp_step rfl (fun K' hK' => ?_)
      go_simp
      refine hK' _ _ ?_
      exact ⟨_, _, _, _, _, _, _, _, _, _, rfl, keepD (by decide) h0, keepD (by decide) h1, keepP (by decide) h2 (fun h => h.put hp), keepD (by decide) h3, keepP (by decide) h4 (fun h => h.put hp), keepP (by decide) h5 (fun h => h.put hp), keepP (by decide) h6 (fun h => h.put hp), keepD (by decide) h7, (fun _ => ⟨nb, _, _, rfl, hn, hs, notU_bool _, notU_slice _ _ _⟩), fun _ => ⟨nb, X_6, c_6, rfl, hn, hs, hp.nat k_6⟩, keepD (by decide) h10, (fun _ => by simp [d8]), Below.store2 hB hn⟩
    · skip
      have d7 := hdep _ rfl ⟨7, .data⟩ (by simp) rfl
      obtain rfl := h7 d7
      refine wpOp_step rfl (fun K' hK' => ?_)
      go_simp
      refine hK' _ _ ?_
      exact ⟨_, _, _, _, _, _, _, _, _, _, rfl, keepD (by decide) h0, keepD (by decide) h1, keepD (by decide) h2, keepD (by decide) h3, keepD (by decide) h4, keepD (by decide) h5, keepD (by decide) h6, keepD (by decide) h7, keepD (by decide) h8, keepD (by decide) h9, fun _ => rfl, (fun h => by have := hD9 (by simpa using h); simpa using this), hB⟩
  case fin =>
    rintro E a' w' ⟨u29, u30, u31, u32, u33, u28, u34, u35, u9, u10, rfl, h0, h1, h2, h3, h4, h5, h6, h7, h8, h9, h10, hD9, hB⟩ hall
    obtain ⟨nbv, Xv, cv, rfl, hnv, Rv, hv⟩ := h9 (hall 9 (by simp))
    replace ha := ha.below hB
    replace hb := hb.below hB
    replace Ra := Ra.below hB
    replace qa0 := cbl hB qa0
    replace qa1 := cbl hB qa1
    replace Rb := Rb.below hB
    replace qb0 := cbl hB qb0
    replace qb1 := cbl hB qb1
    replace Rr := Rr.below hB
    replace qr0 := cbl hB qr0
    replace qr1 := cbl hB qr1
    replace qr2 := cbl hB qr2
    replace hg := hg.below hB
    replace hgi := hgi.below hB
    replace Rg := Rg.below hB
    replace qg0 := cbl hB qg0
    replace qg1 := cbl hB qg1
    replace hu := hu.below hB
    replace Ru := Ru.below hB
    replace qu0 := cbl hB qu0
    replace qu1 := cbl hB qu1
    replace HBT := Below.cons HBT hB
    have kvv := hnv
    have qv0 := Rv.c (i := 0) rfl
    have qv1 := Rv.c (i := 1) rfl
    have fzr0 := Rr.f (i := 0)
    have fzr1 := Rr.f (i := 1)
    have fzr2 := Rr.f (i := 2)
    go_wp2_with (fail)
    have hnum : u = (Rat.divInt a b).num := by rw [Eu.out]; exact p4.out.symm
    have hden : mg v = (Rat.divInt a b).den := by rw [Ev.out]; exact p6.out.symm
    have RS := Rr.store3 (.bool (sg u)) (.slice Xu (nl (mg u)) cu) (.slice Xv (nl (mg v)) cv)
    have e0 := RS.c (i := 0) rfl
    have e1 := RS.c (i := 1) rfl
    have e2 := RS.c (i := 2) rfl
    refine bodyPost_ret (v := .tuple #[.agg #[.bool (sg u), .slice Xu (nl (mg u)) cu, .slice Xv (nl (mg v)) cv], .int .i64 0]) (by simp [results, Tryz.results97, go_sem, e0, e1, e2]) rfl ?_
    exact ⟨Xu, cu, Xv, cv, by rw [← hnum, ← hden], by rw [← hnum]; exact Rr.keep3 (nuB rfl) hu, by rw [← hden]; exact Rr.keep3 (nuB rfl) hv, Below.store3 HBT (by omega)⟩
theorem r9over_c (aA : Option Addr) (ac : Nat) (a : Int) (bA : Option Addr) (bc : Nat) (b : Int) (w : World) (ha : NatV w aA ac (mg a)) (hb : NatV w bA bc (mg b)) (la : nl (mg a) ≤ 1048576) (lb : nl (mg b) ≤ 1048576) (hb0 : 0 < b) :
    Calls Tryz.prog 60 #[.agg #[.bool (sg a), .slice aA (nl (mg a)) ac], .agg #[.bool (sg b), .slice bA (nl (mg b)) bc]] w (RetR w (Rat.divInt a b)) := by
  obtain ⟨hb1, Ra, Rb, Rr⟩ := bx3 w #[.bool (sg a), .slice aA (nl (mg a)) ac] 24 #[.bool (sg b), .slice bA (nl (mg b)) bc] 24 #[.bool false, .slice none 0 0, .slice none 0 0] 26
  replace ha := ha.below hb1
  replace hb := hb.below hb1
  have HBT := hb1
  clear hb1
  have qa0 := Ra.c (i := 0) rfl
  have qa1 := Ra.c (i := 1) rfl
  have qb0 := Rb.c (i := 0) rfl
  have qb1 := Rb.c (i := 1) rfl
  have qr0 := Rr.c (i := 0) rfl
  have qr1 := Rr.c (i := 1) rfl
  have qr2 := Rr.c (i := 2) rfl
  go_enter Tryz.func60, Tryz.ntmps60
  go_wp2_with (fail)
  obtain ⟨q, Eq⟩ : ∃ z : Rat, z = Rat.divInt a b := ⟨_, rfl⟩
  have CM := r9make_c aA ac a bA bc b (((w.alloc (.cells #[.bool (sg a), .slice aA (nl (mg a)) ac] 24)).alloc (.cells #[.bool (sg b), .slice bA (nl (mg b)) bc] 24)).alloc (.cells #[.bool false, .slice none 0 0, .slice none 0 0] 26)) ha hb la lb hb0
  rw [← Eq] at CM
  replace CM := Lib.hid CM
  replace Eq := Lib.hid Eq
  refine (Calls.mono CM.out ?_)
  clear CM
  rintro e W2 ⟨Xq, cq, Yq, dq, rfl, hq, gq, hb2⟩
  replace ha := ha.below hb2
  replace hb := hb.below hb2
  replace Ra := Ra.below hb2
  replace qa0 := cbl hb2 qa0
  replace qa1 := cbl hb2 qa1
  replace Rb := Rb.below hb2
  replace qb0 := cbl hb2 qb0
  replace qb1 := cbl hb2 qb1
  replace Rr := Rr.below hb2
  replace qr0 := cbl hb2 qr0
  replace qr1 := cbl hb2 qr1
  replace qr2 := cbl hb2 qr2
  replace HBT := Below.cons HBT hb2
  clear hb2
  obtain ⟨hb3, Rq⟩ := bx1 W2 #[.bool (sg q.num), .slice Xq (nl (mg q.num)) cq, .slice Yq (nl q.den) dq] 26
  replace ha := ha.below hb3
  replace hb := hb.below hb3
  replace Ra := Ra.below hb3
  replace qa0 := cbl hb3 qa0
  replace qa1 := cbl hb3 qa1
  replace Rb := Rb.below hb3
  replace qb0 := cbl hb3 qb0
  replace qb1 := cbl hb3 qb1
  replace Rr := Rr.below hb3
  replace qr0 := cbl hb3 qr0
  replace qr1 := cbl hb3 qr1
  replace qr2 := cbl hb3 qr2
  replace hq := hq.below hb3
  replace gq := gq.below hb3
  replace HBT := Below.cons HBT hb3
  clear hb3
  have qq0 := Rq.c (i := 0) rfl
  have qq1 := Rq.c (i := 1) rfl
  have qq2 := Rq.c (i := 2) rfl
  have fzr0 := Rr.f (i := 0)
  have fzr1 := Rr.f (i := 1)
  have fzr2 := Rr.f (i := 2)
  go_wp2_with (fail)
  have hzq : q = (Rat.divInt a b) := by exact Eq.out
  subst hzq
  have RS := Rr.store3 (.bool (sg (((Rat.divInt a b))).num)) (.slice Xq (nl (mg (((Rat.divInt a b))).num)) cq) (.slice Yq (nl (((Rat.divInt a b))).den) dq)
  have e0 := RS.c (i := 0) rfl
  have e1 := RS.c (i := 1) rfl
  have e2 := RS.c (i := 2) rfl
  refine bodyPost_ret (v := .agg #[.bool (sg (((Rat.divInt a b))).num), .slice Xq (nl (mg (((Rat.divInt a b))).num)) cq, .slice Yq (nl (((Rat.divInt a b))).den) dq]) (by simp [results, Tryz.results60, go_sem, e0, e1, e2]) rfl ?_
  exact ⟨Xq, cq, Yq, dq, rfl, (Rr.keep3 (nuB rfl) hq), (Rr.keep3 (nuB rfl) gq), (Below.store3 HBT (by first | exact Nat.le_refl _ | omega))⟩
theorem r9sign_c (aA : Option Addr) (ac : Nat) (aB : Option Addr) (ad : Nat) (a : Rat) (w : World) (ha : NatV w aA ac (mg a.num)) (ga : NatV w aB ad a.den) (la : nl (mg a.num) ≤ 1073741824) :
    Calls Tryz.prog 33 #[.agg #[.bool (sg a.num), .slice aA (nl (mg a.num)) ac, .slice aB (nl a.den) ad]] w (fun e w' => e = .returned (.int .i64 a.num.sign) ∧ Below w.heap.size w w') := by
  obtain ⟨hb1, Ra⟩ := bx1 w #[.bool (sg a.num), .slice aA (nl (mg a.num)) ac, .slice aB (nl a.den) ad] 26
  replace ha := ha.below hb1
  replace ga := ga.below hb1
  have HBT := hb1
  clear hb1
  have qa0 := Ra.c (i := 0) rfl
  have qa1 := Ra.c (i := 1) rfl
  have qa2 := Ra.c (i := 2) rfl
  go_enter Tryz.func33, Tryz.ntmps33
  go_wp2_with (fail)
  refine (Calls.mono (zsign_c aA ac a.num _ ha la) ?_)
  rintro e W2 ⟨rfl, hb2⟩
  replace ha := ha.below hb2
  replace ga := ga.below hb2
  replace Ra := Ra.below hb2
  replace qa0 := cbl hb2 qa0
  replace qa1 := cbl hb2 qa1
  replace qa2 := cbl hb2 qa2
  replace HBT := Below.cons HBT hb2
  clear hb2
  go_wp2_with (fail)
  go_ret
  exact ⟨rfl, HBT⟩
theorem r9neg_c (aA : Option Addr) (ac : Nat) (aB : Option Addr) (ad : Nat) (a : Rat) (w : World) (ha : NatV w aA ac (mg a.num)) (ga : NatV w aB ad a.den) (la : nl (mg a.num) ≤ 1073741824) :
    Calls Tryz.prog 34 #[.agg #[.bool (sg a.num), .slice aA (nl (mg a.num)) ac, .slice aB (nl a.den) ad]] w (RetR w (-a)) := by
  have e1 : (-a).num = -a.num := Rat.neg_num a
  have e2 : (-a).den = a.den := Rat.neg_den a
  replace e1 := Lib.hid e1
  replace e2 := Lib.hid e2
  obtain ⟨hb1, Ra, Rr⟩ := bx2 w #[.bool (sg a.num), .slice aA (nl (mg a.num)) ac, .slice aB (nl a.den) ad] 26 #[.bool false, .slice none 0 0, .slice none 0 0] 26
  replace ha := ha.below hb1
  replace ga := ga.below hb1
  have HBT := hb1
  clear hb1
  have qa0 := Ra.c (i := 0) rfl
  have qa1 := Ra.c (i := 1) rfl
  have qa2 := Ra.c (i := 2) rfl
  have qr0 := Rr.c (i := 0) rfl
  have qr1 := Rr.c (i := 1) rfl
  have qr2 := Rr.c (i := 2) rfl
  go_enter Tryz.func34, Tryz.ntmps34
  go_wp2_with (fail)
  have hd2 := drb (((w.alloc (.cells #[.bool (sg a.num), .slice aA (nl (mg a.num)) ac, .slice aB (nl a.den) ad] 26)).alloc (.cells #[.bool false, .slice none 0 0, .slice none 0 0] 26)))
  replace ha := ha.below hd2
  replace ga := ga.below hd2
  replace Ra := Ra.below hd2
  replace qa0 := cbl hd2 qa0
  replace qa1 := cbl hd2 qa1
  replace qa2 := cbl hd2 qa2
  replace Rr := Rr.below hd2
  replace qr0 := cbl hd2 qr0
  replace qr1 := cbl hd2 qr1
  replace qr2 := cbl hd2 qr2
  replace HBT := Below.cons HBT hd2
  clear hd2
  obtain ⟨z, Ez⟩ : ∃ zq : Int, zq = -a.num := ⟨_, rfl⟩
  have C2_0 := fun (W : World) (h1 : NatV W aA ac (mg a.num)) => zneg_c aA ac a.num W h1 la
  simp only [← Ez] at C2_0
  replace Ez := Lib.hid Ez
  replace C2_0 := Lib.hid C2_0
  go_region_held3 (fun W => W.cell? ⟨w.heap.size, 0, none⟩ = some (.bool (sg a.num)) ∧ W.cell? ⟨w.heap.size, 1, none⟩ = some (.slice aA (nl (mg a.num)) ac) ∧ W.cell? ⟨w.heap.size, 2, none⟩ = some (.slice aB (nl a.den) ad))
    (first
      | exact ⟨qa0, qa1, qa2⟩
      | exact ⟨qa0_3, qa1_3, qa2_3⟩
      | exact ⟨((Ra_3.other3 (by simp <;> omega)).c (i := 0) rfl), ((Ra_3.other3 (by simp <;> omega)).c (i := 1) rfl), ((Ra_3.other3 (by simp <;> omega)).c (i := 2) rfl)⟩
      | go_keep)
    (first
      | (go_at_call 80; (with_reducible refine (C2_0.out _ ha).mono ?_); rintro e W3 ⟨Xz, cz, rfl, hz, hb3⟩; have ha_3 := ha.below hb3; have ga_3 := ga.below hb3; have Ra_3 := Ra.below hb3; have qa0_3 := cbl hb3 qa0; have qa1_3 := cbl hb3 qa1; have qa2_3 := cbl hb3 qa2; have Rr_3 := Rr.below hb3; have qr0_3 := cbl hb3 qr0; have qr1_3 := cbl hb3 qr1; have qr2_3 := cbl hb3 qr2; have HBT_3 := Below.cons HBT hb3; have fz0 := Rr_3.f (i := 0); have fz1 := Rr_3.f (i := 1); have fz2 := Rr_3.f (i := 2)))
  all_goals (try go_wp2_with (fail))
  have RS := Rr_3.store3 (.bool (sg z)) (.slice Xz (nl (mg z)) cz) (.slice aB (nl a.den) ad)
  have g0 := RS.c (i := 0) rfl
  have g1 := RS.c (i := 1) rfl
  have g2 := RS.c (i := 2) rfl
  refine bodyPost_ret (v := .agg #[.bool (sg z), .slice Xz (nl (mg z)) cz, .slice aB (nl a.den) ad]) (by simp [results, Tryz.results34, go_sem, g0, g1, g2]) rfl ?_
  have ez : z = (-a).num := by rw [Ez.out, e1.out]
  exact ⟨Xz, cz, aB, ad, by rw [← ez, e2.out], by rw [← ez]; exact Rr_3.keep3 (nuB rfl) hz, by rw [e2.out]; exact Rr_3.keep3 (nuB rfl) ga_3, Below.store3 HBT_3 (by omega)⟩
end Go.Proofs.YtacjfpibilolnaaGreatDoor
