/- What these laws ask beside the texts that are there. -/
import Derived.Test.YtpaffggdeedopaaGreatDoorG01
import Derived.Test.YtpaffggdeedopaaGreatDoorG02
import Derived.Test.YtpaffggdeedopaaGreatDoorG03
import Derived.Test.YtpaffggdeedopaaGreatDoorG04
import Derived.Test.YtpaffggdeedopaaGreatDoorG05
import Derived.Test.YtpaffggdeedopaaGreatDoorRows
import Derived.ProofKit
import Derived.LaidMore
import Derived.OpenShut
import Derived.Stop.Joined
import Derived.Deep.Slices
import Derived.Below
import Derived.Carry
set_option maxRecDepth 100000
set_option maxHeartbeats 4000000
set_option linter.unusedVariables false
set_option linter.unusedSimpArgs false
namespace Go.Proofs.YtpaffggdeedopaaGreatDoor
open Go.RowKit Go.Shelf




attribute [local go_sem] max2_i min2_i max_two min_two


theorem cmpN_pos {a b : Nat} : 0 < cmpN a b ↔ b < a := by unfold cmpN; split <;> (try split) <;> omega




end Go.Proofs.YtpaffggdeedopaaGreatDoor

set_option linter.unusedVariables false
set_option linter.unusedSimpArgs false
namespace Go.Proofs.YtpaffggdeedopaaGreatDoor
open Go.RowKit Go.Shelf
attribute [local go_sem] max2_i min2_i max_two min_two

theorem rsub_c (A : Option Addr) (c a : Nat) (B : Option Addr) (d b : Nat) (w : World) (hA : NatV w A c a) (hB : NatV w B d b) (ha : nl a ≤ 1073741824) (hb : nl b ≤ 1073741824) (h : b ≤ a) :
    Calls Tryz.prog 72 #[.slice A (nl a) c, .slice B (nl b) d] w fun e w' => ∃ X cx, e = .returned (.tuple #[.slice X (nl (a - b)) cx, .bool true]) ∧ NatV w' X cx (a - b) ∧ Below w.heap.size w w' :=
  (rsub_f A c a B d b w hA hB ha hb h).mono fun _ _ ⟨X, cx, h1, h2, h3, _⟩ => ⟨X, cx, h1, h2, h3⟩
theorem rshl_c (A : Option Addr) (c a n : Nat) (w : World) (hA : NatV w A c a) (ha : nl a ≤ 1073741824) (hn : n ≤ 1073741824) :
    Calls Tryz.prog 73 #[.slice A (nl a) c, .int .i64 (n : Nat)] w (RetN w (a * 2 ^ n)) :=
  (rshl_f A c a n w hA ha hn).mono fun _ _ h => h.toN
end Go.Proofs.YtpaffggdeedopaaGreatDoor

set_option linter.unusedVariables false
set_option linter.unusedSimpArgs false
namespace Go.Proofs.YtpaffggdeedopaaGreatDoor
open Go.RowKit Go.Shelf
attribute [local go_sem] max2_i min2_i max_two min_two

theorem rright_c (A : Option Addr) (c a : Nat) (w : World) (hA : NatV w A c a) (ha : nl a ≤ 65536) :
    Calls Tryz.prog 131 #[.slice A (nl a) c] w fun e w' => e = .returned (.bool true) ∧ w' = w := by
  by_cases h : nl a = 0
  · rw [h]
    go_enter Tryz.func131, Tryz.ntmps131
    go_wp2_with (fail)
    go_ret
    exact ⟨rfl, rfl⟩
  · obtain ⟨k, hk⟩ : ∃ k, nl a = k + 1 := ⟨nl a - 1, by omega⟩
    obtain ⟨ad, rfl, hcx⟩ := hA.rd.get k (by show k < nl a; omega)
    have hne : gl (limbs a) k ≠ 0 := by
      have h2 := limbs_last a (fun e => h (by rw [e, nl_zero]))
      rwa [hk, Nat.add_sub_cancel] at h2
    obtain ⟨x, hx⟩ : ∃ x, x = gl (limbs a) k := ⟨_, rfl⟩
    rw [← hx] at hcx hne
    have h1 : ((nl a : Int) == 0) = false := ieqF (by omega)
    have hkI : (nl a : Int) - 1 = (k : Int) := by omega
    have hkl : k < nl a := by omega
    have h2 : ((x : Int) != 0) = true := ineT (by omega)
    have h3 : decide ((nl a : Int) ≤ 65536) = true := by simp; omega
    replace hx := Lib.hid hx
    clear hne h hk
    go_enter Tryz.func131, Tryz.ntmps131
    go_wp2_with (fail)
    go_ret
    exact ⟨rfl, rfl⟩

end Go.Proofs.YtpaffggdeedopaaGreatDoor

set_option linter.unusedVariables false
set_option linter.unusedSimpArgs false
namespace Go.Proofs.YtpaffggdeedopaaGreatDoor
open Go.RowKit Go.Shelf
attribute [local go_sem] max2_i min2_i max_two min_two

theorem rmake1_c (W : World) (s m : Nat) (h : W.heap[s]? = some (.cells #[.int .u32 (m : Nat)] 72 (0, 0))) (hm : m < 4294967296) :
    Calls Tryz.prog 71 #[.slice (some ⟨s, 0, none⟩) 1 1] W (RetN W m) := by
  have := rmake_c (some ⟨s, 0, none⟩) 1 1 [m] W rfl (rd_one W s m h) (Lim.one hm) (by decide) (Nat.le_refl _) (fun e => by cases e)
  rwa [show val [m] = m by simp [val]] at this
end Go.Proofs.YtpaffggdeedopaaGreatDoor

set_option linter.unusedVariables false
set_option linter.unusedSimpArgs false
namespace Go.Proofs.YtpaffggdeedopaaGreatDoor

theorem mg_zero {z : Int} : mg z = 0 ↔ z = 0 := Int.natAbs_eq_zero


end Go.Proofs.YtpaffggdeedopaaGreatDoor

set_option linter.unusedVariables false
set_option linter.unusedSimpArgs false
namespace Go.Proofs.YtpaffggdeedopaaGreatDoor
open Go.RowKit


theorem ex_le {a b : Nat} (ha : a ≠ 0) (hb : b ≠ 0) : mg (exu a b) * Nat.gcd a b ≤ b ∧ mg (exv a b) * Nat.gcd a b ≤ a := by
  unfold exu exv
  have g := eun_gcd a b
  obtain ⟨n, hn⟩ : ∃ n, n = eun a b := ⟨_, rfl⟩
  have nz := eun_nz a b
  rw [← hn] at g nz ⊢
  cases n with
  | zero => have := eun_zero a b; rw [← hn] at this; exact absurd (by simpa [euc] using this) hb
  | succ k =>
    obtain ⟨h1, h2⟩ := eum_le a b k
    have hg : (euc a b k).2 = Nat.gcd a b := g
    have hx : Nat.gcd a b ≤ (euc a b k).1 := by
      have h3 := euc_gcd a b k (fun i hi => nz i (by omega))
      have h4 := Nat.gcd_dvd_left (euc a b k).1 (euc a b k).2
      rw [h3] at h4
      refine Nat.le_of_dvd ?_ h4
      cases k with
      | zero => simp only [euc]; omega
      | succ j => have := nz j (by omega); simp only [euc]; omega
    have e1 := Nat.mul_le_mul_left (mg (eum a b k).c) hx
    have e2 := Nat.mul_le_mul_left (mg (eum a b k).d) hx
    simp only [eum, Mx.nx]
    exact ⟨Nat.le_trans e1 (by omega), Nat.le_trans e2 (by omega)⟩

end Go.Proofs.YtpaffggdeedopaaGreatDoor

set_option linter.unusedVariables false
set_option linter.unusedSimpArgs false
namespace Go.Proofs.YtpaffggdeedopaaGreatDoor
open Go.RowKit Go.Shelf
attribute [local go_sem] max2_i min2_i max_two min_two

theorem zadd_same (aA : Option Addr) (ac : Nat) (a : Int) (bA : Option Addr) (bc : Nat) (b : Int) (w : World) (ha : NatV w aA ac (mg a)) (hb : NatV w bA bc (mg b)) (la : nl (mg a) ≤ 1048576) (lb : nl (mg b) ≤ 1048576) (hs : sg a = sg b) :
    Calls Tryz.prog 65 #[.agg #[.bool (sg a), .slice aA (nl (mg a)) ac], .agg #[.bool (sg b), .slice bA (nl (mg b)) bc]] w (RetI w (a + b)) := by
  have t1 : (sg a == sg b) = true := beq_iff_eq.mpr hs
  have hv := ival_add hs
  replace hv := Lib.hid hv
  replace hs := Lib.hid hs
  obtain ⟨hb1, Ra, Rb, Rr⟩ := bx3 w #[.bool (sg a), .slice aA (nl (mg a)) ac] 24 #[.bool (sg b), .slice bA (nl (mg b)) bc] 24 #[.bool false, .slice none 0 0] 24
  replace ha := ha.below hb1
  replace hb := hb.below hb1
  have HBT := hb1
  clear hb1
  have qa0 := Ra.c (i := 0) rfl
  have qa1 := Ra.c (i := 1) rfl
  have qb0 := Rb.c (i := 0) rfl
  have qb1 := Rb.c (i := 1) rfl
  have qr0 := Rr.c (i := 0) rfl
  have qr1 := Rr.c (i := 1) rfl
  go_enter Tryz.func65, Tryz.ntmps65
  go_wp2_with (fail)
  have hd2 := drb ((((w.alloc (.cells #[.bool (sg a), .slice aA (nl (mg a)) ac] 24)).alloc (.cells #[.bool (sg b), .slice bA (nl (mg b)) bc] 24)).alloc (.cells #[.bool false, .slice none 0 0] 24)))
  replace ha := ha.below hd2
  replace hb := hb.below hd2
  replace Ra := Ra.below hd2
  replace qa0 := cbl hd2 qa0
  replace qa1 := cbl hd2 qa1
  replace Rb := Rb.below hd2
  replace qb0 := cbl hd2 qb0
  replace qb1 := cbl hd2 qb1
  replace Rr := Rr.below hd2
  replace qr0 := cbl hd2 qr0
  replace qr1 := cbl hd2 qr1
  replace HBT := Below.cons HBT hd2
  clear hd2
  obtain ⟨n, En⟩ : ∃ zq : Nat, zq = mg a + mg b := ⟨_, rfl⟩
  have Bn : nl n ≤ 2097154 := by rw [En]; have := nl_add (mg a) (mg b); omega
  have C2_0 := fun (W : World) (h1 : NatV W aA ac (mg a)) (h2 : NatV W bA bc (mg b)) => radd_c aA ac (mg a) bA bc (mg b) W h1 h2 (by omega) (by omega)
  simp only [← En] at C2_0
  replace En := Lib.hid En
  replace C2_0 := Lib.hid C2_0
  obtain ⟨z, Ez⟩ : ∃ zq : Int, zq = ival (sg a) n := ⟨_, rfl⟩
  have C2_1 := fun (W : World) (A : Option Addr) (c : Nat) (h1 : NatV W A c n) => rz_c (sg a) A c n W h1 (by omega)
  simp only [← Ez] at C2_1
  replace Ez := Lib.hid Ez
  replace C2_1 := Lib.hid C2_1
  go_region_held3 (fun W => W.cell? ⟨w.heap.size, 0, none⟩ = some (.bool (sg a)) ∧ W.cell? ⟨w.heap.size, 1, none⟩ = some (.slice aA (nl (mg a)) ac) ∧ W.cell? ⟨(w.heap.size + 1), 1, none⟩ = some (.slice bA (nl (mg b)) bc))
    (first
      | exact ⟨qa0, qa1, qb1⟩
      | exact ⟨qa0_3, qa1_3, qb1_3⟩
      | exact ⟨qa0_4, qa1_4, qb1_4⟩
      | exact ⟨((Ra_4.other2 (by simp <;> omega)).c (i := 0) rfl), ((Ra_4.other2 (by simp <;> omega)).c (i := 1) rfl), ((Rb_4.other2 (by simp <;> omega)).c (i := 1) rfl)⟩
      | go_keep)
    (first
      | (go_at_call 64; (with_reducible refine (C2_0.out _ ha hb).mono ?_); rintro e W3 ⟨Xn, cn, rfl, hn, hb3⟩; have ha_3 := ha.below hb3; have hb_3 := hb.below hb3; have Ra_3 := Ra.below hb3; have qa0_3 := cbl hb3 qa0; have qa1_3 := cbl hb3 qa1; have Rb_3 := Rb.below hb3; have qb0_3 := cbl hb3 qb0; have qb1_3 := cbl hb3 qb1; have Rr_3 := Rr.below hb3; have qr0_3 := cbl hb3 qr0; have qr1_3 := cbl hb3 qr1; have HBT_3 := Below.cons HBT hb3)
      | (go_at_call 67; (with_reducible refine (C2_1.out _ _ _ hn).mono ?_); rintro e W4 ⟨Xz, cz, rfl, hz, hb4⟩; have ha_4 := ha_3.below hb4; have hb_4 := hb_3.below hb4; have Ra_4 := Ra_3.below hb4; have qa0_4 := cbl hb4 qa0_3; have qa1_4 := cbl hb4 qa1_3; have Rb_4 := Rb_3.below hb4; have qb0_4 := cbl hb4 qb0_3; have qb1_4 := cbl hb4 qb1_3; have Rr_4 := Rr_3.below hb4; have qr0_4 := cbl hb4 qr0_3; have qr1_4 := cbl hb4 qr1_3; have hn_4 := hn.below hb4; have HBT_4 := Below.cons HBT_3 hb4; have fz0 := Rr_4.f (i := 0); have fz1 := Rr_4.f (i := 1)))
  all_goals (try go_wp2_with (fail))
  have hzz : z = a + b := by rw [Ez.out, En.out]; exact hv.out
  subst hzz
  have RS := Rr_4.store2 (.bool (sg ((a + b)))) (.slice Xz (nl (mg ((a + b)))) cz)
  have e0 := RS.c (i := 0) rfl
  have e1 := RS.c (i := 1) rfl
  refine bodyPost_ret (v := .agg #[.bool (sg ((a + b))), .slice Xz (nl (mg ((a + b)))) cz]) (by simp [results, Tryz.results65, go_sem, e0, e1]) rfl ?_
  exact ⟨Xz, cz, rfl, (Rr_4.keep2 (nuB rfl) hz), (Below.store2 HBT_4 (by first | exact Nat.le_refl _ | omega))⟩
theorem zadd_ge (aA : Option Addr) (ac : Nat) (a : Int) (bA : Option Addr) (bc : Nat) (b : Int) (w : World) (ha : NatV w aA ac (mg a)) (hb : NatV w bA bc (mg b)) (la : nl (mg a) ≤ 1048576) (lb : nl (mg b) ≤ 1048576) (hs : sg a ≠ sg b) (hle : mg b ≤ mg a) :
    Calls Tryz.prog 65 #[.agg #[.bool (sg a), .slice aA (nl (mg a)) ac], .agg #[.bool (sg b), .slice bA (nl (mg b)) bc]] w (RetI w (a + b)) := by
  have t1 : (sg a == sg b) = false := beq_eq_false_iff_ne.mpr hs
  have hv := ival_sub hs hle
  replace hv := Lib.hid hv
  replace hs := Lib.hid hs
  obtain ⟨hb1, Ra, Rb, Rr⟩ := bx3 w #[.bool (sg a), .slice aA (nl (mg a)) ac] 24 #[.bool (sg b), .slice bA (nl (mg b)) bc] 24 #[.bool false, .slice none 0 0] 24
  replace ha := ha.below hb1
  replace hb := hb.below hb1
  have HBT := hb1
  clear hb1
  have qa0 := Ra.c (i := 0) rfl
  have qa1 := Ra.c (i := 1) rfl
  have qb0 := Rb.c (i := 0) rfl
  have qb1 := Rb.c (i := 1) rfl
  have qr0 := Rr.c (i := 0) rfl
  have qr1 := Rr.c (i := 1) rfl
  go_enter Tryz.func65, Tryz.ntmps65
  go_wp2_with (fail)
  obtain ⟨n, En⟩ : ∃ zq : Nat, zq = mg a - mg b := ⟨_, rfl⟩
  have Bn : nl n ≤ 1048576 := by rw [En]; have := nl_sub (mg a) (mg b); omega
  have CS := rsub_c aA ac (mg a) bA bc (mg b) _ ha hb (by omega) (by omega) hle
  rw [← En] at CS
  replace En := Lib.hid En
  refine (Calls.mono CS ?_)
  rintro e W2 ⟨Xn, cn, rfl, hn, hb2⟩
  clear CS
  replace ha := ha.below hb2
  replace hb := hb.below hb2
  replace Ra := Ra.below hb2
  replace qa0 := cbl hb2 qa0
  replace qa1 := cbl hb2 qa1
  replace Rb := Rb.below hb2
  replace qb0 := cbl hb2 qb0
  replace qb1 := cbl hb2 qb1
  replace Rr := Rr.below hb2
  replace qr0 := cbl hb2 qr0
  replace qr1 := cbl hb2 qr1
  replace HBT := Below.cons HBT hb2
  clear hb2
  go_wp2_with (fail)
  obtain ⟨z, Ez⟩ : ∃ zq : Int, zq = ival (sg a) n := ⟨_, rfl⟩
  refine (Calls.mono (R := RetI W2 z) (by rw [Ez]; with_reducible exact (rz_c (sg a) Xn cn n _ hn (by omega))) ?_)
  replace Ez := Lib.hid Ez
  rintro e W3 ⟨Xz, cz, rfl, hz, hb3⟩
  replace ha := ha.below hb3
  replace hb := hb.below hb3
  replace Ra := Ra.below hb3
  replace qa0 := cbl hb3 qa0
  replace qa1 := cbl hb3 qa1
  replace Rb := Rb.below hb3
  replace qb0 := cbl hb3 qb0
  replace qb1 := cbl hb3 qb1
  replace Rr := Rr.below hb3
  replace qr0 := cbl hb3 qr0
  replace qr1 := cbl hb3 qr1
  replace hn := hn.below hb3
  replace HBT := Below.cons HBT hb3
  clear hb3
  have fzr0 := Rr.f (i := 0)
  have fzr1 := Rr.f (i := 1)
  go_wp2_with (fail)
  have hzz : z = a + b := by rw [Ez.out, En.out]; exact hv.out
  subst hzz
  have RS := Rr.store2 (.bool (sg ((a + b)))) (.slice Xz (nl (mg ((a + b)))) cz)
  have e0 := RS.c (i := 0) rfl
  have e1 := RS.c (i := 1) rfl
  refine bodyPost_ret (v := .agg #[.bool (sg ((a + b))), .slice Xz (nl (mg ((a + b)))) cz]) (by simp [results, Tryz.results65, go_sem, e0, e1]) rfl ?_
  exact ⟨Xz, cz, rfl, (Rr.keep2 (nuB rfl) hz), (Below.store2 HBT (by first | exact Nat.le_refl _ | omega))⟩
theorem zadd_lt (aA : Option Addr) (ac : Nat) (a : Int) (bA : Option Addr) (bc : Nat) (b : Int) (w : World) (ha : NatV w aA ac (mg a)) (hb : NatV w bA bc (mg b)) (la : nl (mg a) ≤ 1048576) (lb : nl (mg b) ≤ 1048576) (hs : sg a ≠ sg b) (hlt : mg a < mg b) :
    Calls Tryz.prog 65 #[.agg #[.bool (sg a), .slice aA (nl (mg a)) ac], .agg #[.bool (sg b), .slice bA (nl (mg b)) bc]] w (RetI w (a + b)) := by
  have t1 : (sg a == sg b) = false := beq_eq_false_iff_ne.mpr hs
  have hle : mg a ≤ mg b := Nat.le_of_lt hlt
  have hv := (ival_sub (fun e => hs e.symm) hle).trans (Int.add_comm b a)
  replace hv := Lib.hid hv
  replace hs := Lib.hid hs
  obtain ⟨hb1, Ra, Rb, Rr⟩ := bx3 w #[.bool (sg a), .slice aA (nl (mg a)) ac] 24 #[.bool (sg b), .slice bA (nl (mg b)) bc] 24 #[.bool false, .slice none 0 0] 24
  replace ha := ha.below hb1
  replace hb := hb.below hb1
  have HBT := hb1
  clear hb1
  have qa0 := Ra.c (i := 0) rfl
  have qa1 := Ra.c (i := 1) rfl
  have qb0 := Rb.c (i := 0) rfl
  have qb1 := Rb.c (i := 1) rfl
  have qr0 := Rr.c (i := 0) rfl
  have qr1 := Rr.c (i := 1) rfl
  go_enter Tryz.func65, Tryz.ntmps65
  go_wp2_with (fail)
  refine (Calls.mono (rsubNot_c aA ac (mg a) bA bc (mg b) _ ha hb (by omega) (by omega) hlt) ?_)
  rintro e w' ⟨rfl, hw⟩
  subst hw
  go_wp2_with (fail)
  obtain ⟨n, En⟩ : ∃ zq : Nat, zq = mg b - mg a := ⟨_, rfl⟩
  have Bn : nl n ≤ 1048576 := by rw [En]; have := nl_sub (mg b) (mg a); omega
  have CS := rsub_c bA bc (mg b) aA ac (mg a) _ hb ha (by omega) (by omega) hle
  rw [← En] at CS
  replace En := Lib.hid En
  refine (Calls.mono CS ?_)
  rintro e W2 ⟨Xn, cn, rfl, hn, hb2⟩
  clear CS
  replace ha := ha.below hb2
  replace hb := hb.below hb2
  replace Ra := Ra.below hb2
  replace qa0 := cbl hb2 qa0
  replace qa1 := cbl hb2 qa1
  replace Rb := Rb.below hb2
  replace qb0 := cbl hb2 qb0
  replace qb1 := cbl hb2 qb1
  replace Rr := Rr.below hb2
  replace qr0 := cbl hb2 qr0
  replace qr1 := cbl hb2 qr1
  replace HBT := Below.cons HBT hb2
  clear hb2
  go_wp2_with (fail)
  obtain ⟨z, Ez⟩ : ∃ zq : Int, zq = ival (sg b) n := ⟨_, rfl⟩
  refine (Calls.mono (R := RetI W2 z) (by rw [Ez]; with_reducible exact (rz_c (sg b) Xn cn n _ hn (by omega))) ?_)
  replace Ez := Lib.hid Ez
  rintro e W3 ⟨Xz, cz, rfl, hz, hb3⟩
  replace ha := ha.below hb3
  replace hb := hb.below hb3
  replace Ra := Ra.below hb3
  replace qa0 := cbl hb3 qa0
  replace qa1 := cbl hb3 qa1
  replace Rb := Rb.below hb3
  replace qb0 := cbl hb3 qb0
  replace qb1 := cbl hb3 qb1
  replace Rr := Rr.below hb3
  replace qr0 := cbl hb3 qr0
  replace qr1 := cbl hb3 qr1
  replace hn := hn.below hb3
  replace HBT := Below.cons HBT hb3
  clear hb3
  have fzr0 := Rr.f (i := 0)
  have fzr1 := Rr.f (i := 1)
  go_wp2_with (fail)
  have hzz : z = a + b := by rw [Ez.out, En.out]; exact hv.out
  subst hzz
  have RS := Rr.store2 (.bool (sg ((a + b)))) (.slice Xz (nl (mg ((a + b)))) cz)
  have e0 := RS.c (i := 0) rfl
  have e1 := RS.c (i := 1) rfl
  refine bodyPost_ret (v := .agg #[.bool (sg ((a + b))), .slice Xz (nl (mg ((a + b)))) cz]) (by simp [results, Tryz.results65, go_sem, e0, e1]) rfl ?_
  exact ⟨Xz, cz, rfl, (Rr.keep2 (nuB rfl) hz), (Below.store2 HBT (by first | exact Nat.le_refl _ | omega))⟩
theorem zadd_c (aA : Option Addr) (ac : Nat) (a : Int) (bA : Option Addr) (bc : Nat) (b : Int) (w : World) (ha : NatV w aA ac (mg a)) (hb : NatV w bA bc (mg b)) (la : nl (mg a) ≤ 1048576) (lb : nl (mg b) ≤ 1048576) :
    Calls Tryz.prog 65 #[.agg #[.bool (sg a), .slice aA (nl (mg a)) ac], .agg #[.bool (sg b), .slice bA (nl (mg b)) bc]] w (RetI w (a + b)) := by
  by_cases h : sg a = sg b
  · exact zadd_same aA ac a bA bc b w ha hb la lb h
  · by_cases h2 : mg b ≤ mg a
    · exact zadd_ge aA ac a bA bc b w ha hb la lb h h2
    · exact zadd_lt aA ac a bA bc b w ha hb la lb h (by omega)
theorem zmul_c (aA : Option Addr) (ac : Nat) (a : Int) (bA : Option Addr) (bc : Nat) (b : Int) (w : World) (ha : NatV w aA ac (mg a)) (hb : NatV w bA bc (mg b)) (la : nl (mg a) ≤ 1048576) (lb : nl (mg b) ≤ 1048576) :
    Calls Tryz.prog 66 #[.agg #[.bool (sg a), .slice aA (nl (mg a)) ac], .agg #[.bool (sg b), .slice bA (nl (mg b)) bc]] w (RetI w (a * b)) := by
  obtain ⟨ns, Ens⟩ : ∃ x, x = (sg a != sg b) := ⟨_, rfl⟩
  have Ins : (sg a != sg b) = ns := Ens.symm
  have Ins2 : (!(sg a == sg b)) = ns := Ens.symm
  have hv := ival_mul a b
  rw [Ins] at hv
  replace hv := Lib.hid hv
  replace Ens := Lib.hid Ens
  obtain ⟨hb1, Ra, Rb, Rr⟩ := bx3 w #[.bool (sg a), .slice aA (nl (mg a)) ac] 24 #[.bool (sg b), .slice bA (nl (mg b)) bc] 24 #[.bool false, .slice none 0 0] 24
  replace ha := ha.below hb1
  replace hb := hb.below hb1
  have HBT := hb1
  clear hb1
  have qa0 := Ra.c (i := 0) rfl
  have qa1 := Ra.c (i := 1) rfl
  have qb0 := Rb.c (i := 0) rfl
  have qb1 := Rb.c (i := 1) rfl
  have qr0 := Rr.c (i := 0) rfl
  have qr1 := Rr.c (i := 1) rfl
  go_enter Tryz.func66, Tryz.ntmps66
  go_wp2_with (fail)
  have hd2 := drb ((((w.alloc (.cells #[.bool (sg a), .slice aA (nl (mg a)) ac] 24)).alloc (.cells #[.bool (sg b), .slice bA (nl (mg b)) bc] 24)).alloc (.cells #[.bool false, .slice none 0 0] 24)))
  replace ha := ha.below hd2
  replace hb := hb.below hd2
  replace Ra := Ra.below hd2
  replace qa0 := cbl hd2 qa0
  replace qa1 := cbl hd2 qa1
  replace Rb := Rb.below hd2
  replace qb0 := cbl hd2 qb0
  replace qb1 := cbl hd2 qb1
  replace Rr := Rr.below hd2
  replace qr0 := cbl hd2 qr0
  replace qr1 := cbl hd2 qr1
  replace HBT := Below.cons HBT hd2
  clear hd2
  obtain ⟨n, En⟩ : ∃ zq : Nat, zq = mg a * mg b := ⟨_, rfl⟩
  have Bn : nl n ≤ 2097154 := by rw [En]; have := nl_mul (mg a) (mg b); omega
  have C2_0 := fun (W : World) (h1 : NatV W aA ac (mg a)) (h2 : NatV W bA bc (mg b)) => rmul_c aA ac (mg a) bA bc (mg b) W h1 h2 (by omega) (by omega)
  simp only [← En] at C2_0
  replace En := Lib.hid En
  replace C2_0 := Lib.hid C2_0
  obtain ⟨z, Ez⟩ : ∃ zq : Int, zq = ival ns n := ⟨_, rfl⟩
  have C2_1 := fun (W : World) (A : Option Addr) (c : Nat) (h1 : NatV W A c n) => rz_c ns A c n W h1 (by omega)
  simp only [← Ez] at C2_1
  replace Ez := Lib.hid Ez
  replace C2_1 := Lib.hid C2_1
  go_region_held3 (fun W => W.cell? ⟨w.heap.size, 0, none⟩ = some (.bool (sg a)) ∧ W.cell? ⟨(w.heap.size + 1), 0, none⟩ = some (.bool (sg b)) ∧ W.cell? ⟨w.heap.size, 1, none⟩ = some (.slice aA (nl (mg a)) ac) ∧ W.cell? ⟨(w.heap.size + 1), 1, none⟩ = some (.slice bA (nl (mg b)) bc))
    (first
      | exact ⟨qa0, qb0, qa1, qb1⟩
      | exact ⟨qa0_3, qb0_3, qa1_3, qb1_3⟩
      | exact ⟨qa0_4, qb0_4, qa1_4, qb1_4⟩
      | exact ⟨((Ra_4.other2 (by simp <;> omega)).c (i := 0) rfl), ((Rb_4.other2 (by simp <;> omega)).c (i := 0) rfl), ((Ra_4.other2 (by simp <;> omega)).c (i := 1) rfl), ((Rb_4.other2 (by simp <;> omega)).c (i := 1) rfl)⟩
      | go_keep)
    (first
      | (go_at_call 62; (with_reducible refine (C2_0.out _ ha hb).mono ?_); rintro e W3 ⟨Xn, cn, rfl, hn, hb3⟩; have ha_3 := ha.below hb3; have hb_3 := hb.below hb3; have Ra_3 := Ra.below hb3; have qa0_3 := cbl hb3 qa0; have qa1_3 := cbl hb3 qa1; have Rb_3 := Rb.below hb3; have qb0_3 := cbl hb3 qb0; have qb1_3 := cbl hb3 qb1; have Rr_3 := Rr.below hb3; have qr0_3 := cbl hb3 qr0; have qr1_3 := cbl hb3 qr1; have HBT_3 := Below.cons HBT hb3)
      | (go_at_call 67; (with_reducible refine (C2_1.out _ _ _ hn).mono ?_); rintro e W4 ⟨Xz, cz, rfl, hz, hb4⟩; have ha_4 := ha_3.below hb4; have hb_4 := hb_3.below hb4; have Ra_4 := Ra_3.below hb4; have qa0_4 := cbl hb4 qa0_3; have qa1_4 := cbl hb4 qa1_3; have Rb_4 := Rb_3.below hb4; have qb0_4 := cbl hb4 qb0_3; have qb1_4 := cbl hb4 qb1_3; have Rr_4 := Rr_3.below hb4; have qr0_4 := cbl hb4 qr0_3; have qr1_4 := cbl hb4 qr1_3; have hn_4 := hn.below hb4; have HBT_4 := Below.cons HBT_3 hb4; have fz0 := Rr_4.f (i := 0); have fz1 := Rr_4.f (i := 1)))
  all_goals (try go_wp2_with (fail))
  have hzz : z = a * b := by rw [Ez.out, En.out]; exact hv.out
  subst hzz
  have RS := Rr_4.store2 (.bool (sg ((a * b)))) (.slice Xz (nl (mg ((a * b)))) cz)
  have e0 := RS.c (i := 0) rfl
  have e1 := RS.c (i := 1) rfl
  refine bodyPost_ret (v := .agg #[.bool (sg ((a * b))), .slice Xz (nl (mg ((a * b)))) cz]) (by simp [results, Tryz.results66, go_sem, e0, e1]) rfl ?_
  exact ⟨Xz, cz, rfl, (Rr_4.keep2 (nuB rfl) hz), (Below.store2 HBT_4 (by first | exact Nat.le_refl _ | omega))⟩
end Go.Proofs.YtpaffggdeedopaaGreatDoor

set_option linter.unusedVariables false
set_option linter.unusedSimpArgs false
namespace Go.Proofs.YtpaffggdeedopaaGreatDoor
open Go.RowKit Go.Shelf
attribute [local go_sem] max2_i min2_i max_two min_two

theorem zright_n (aA : Option Addr) (ac : Nat) (a : Int) (w : World) (ha : NatV w aA ac (mg a)) (la : nl (mg a) ≤ 65536) (h0 : a < 0) :
    Calls Tryz.prog 68 #[.agg #[.bool (sg a), .slice aA (nl (mg a)) ac]] w (fun e w' => e = .returned (.bool true) ∧ Below w.heap.size w w') := by
  have ts : sg a = true := sg_t h0
  have m0 : mg a ≠ 0 := fun k => by have := mg_zero.1 k; omega
  have t1 : ((nl (mg a) : Int) == 0) = false := ieqF (by have := nl_pos.2 m0; omega)
  have t2 : (nl (mg a) == 0) = false := by have := nl_pos.2 m0; simp; omega
  have t5 : decide (0 < (nl (mg a) : Int)) = true := by have := nl_pos.2 m0; simp; omega
  have t6 : decide (0 < nl (mg a)) = true := by have := nl_pos.2 m0; simp; omega
  replace h0 := Lib.hid h0
  obtain ⟨hb1, Ra⟩ := bx1 w #[.bool true, .slice aA (nl (mg a)) ac] 24
  replace ha := ha.below hb1
  have HBT := hb1
  clear hb1
  have qa0 := Ra.c (i := 0) rfl
  have qa1 := Ra.c (i := 1) rfl
  go_enter Tryz.func68, Tryz.ntmps68
  go_wp2_with (fail)
  refine (Calls.mono (rright_c aA ac (mg a) _ ha la) ?_)
  rintro e w' ⟨rfl, hw⟩
  subst hw
  go_wp2_with (fail)
  go_ret
  exact ⟨rfl, HBT⟩
theorem zright_z (aA : Option Addr) (ac : Nat) (a : Int) (w : World) (ha : NatV w aA ac (mg a)) (la : nl (mg a) ≤ 65536) (h0 : a = 0) :
    Calls Tryz.prog 68 #[.agg #[.bool (sg a), .slice aA (nl (mg a)) ac]] w (fun e w' => e = .returned (.bool true) ∧ Below w.heap.size w w') := by
  have ts : sg a = false := sg_f (by omega)
  replace h0 := Lib.hid h0
  obtain ⟨hb1, Ra⟩ := bx1 w #[.bool false, .slice aA (nl (mg a)) ac] 24
  replace ha := ha.below hb1
  have HBT := hb1
  clear hb1
  have qa0 := Ra.c (i := 0) rfl
  have qa1 := Ra.c (i := 1) rfl
  go_enter Tryz.func68, Tryz.ntmps68
  go_wp2_with (fail)
  refine (Calls.mono (rright_c aA ac (mg a) _ ha la) ?_)
  rintro e w' ⟨rfl, hw⟩
  subst hw
  go_wp2_with (fail)
  go_ret
  exact ⟨rfl, HBT⟩
theorem zright_p (aA : Option Addr) (ac : Nat) (a : Int) (w : World) (ha : NatV w aA ac (mg a)) (la : nl (mg a) ≤ 65536) (h0 : 0 < a) :
    Calls Tryz.prog 68 #[.agg #[.bool (sg a), .slice aA (nl (mg a)) ac]] w (fun e w' => e = .returned (.bool true) ∧ Below w.heap.size w w') := by
  have ts : sg a = false := sg_f (by omega)
  replace h0 := Lib.hid h0
  obtain ⟨hb1, Ra⟩ := bx1 w #[.bool false, .slice aA (nl (mg a)) ac] 24
  replace ha := ha.below hb1
  have HBT := hb1
  clear hb1
  have qa0 := Ra.c (i := 0) rfl
  have qa1 := Ra.c (i := 1) rfl
  go_enter Tryz.func68, Tryz.ntmps68
  go_wp2_with (fail)
  refine (Calls.mono (rright_c aA ac (mg a) _ ha la) ?_)
  rintro e w' ⟨rfl, hw⟩
  subst hw
  go_wp2_with (fail)
  go_ret
  exact ⟨rfl, HBT⟩
theorem zright_c (aA : Option Addr) (ac : Nat) (a : Int) (w : World) (ha : NatV w aA ac (mg a)) (la : nl (mg a) ≤ 65536) :
    Calls Tryz.prog 68 #[.agg #[.bool (sg a), .slice aA (nl (mg a)) ac]] w fun e w' => e = .returned (.bool true) ∧ Below w.heap.size w w' := by
  obtain h | h | h : a < 0 ∨ a = 0 ∨ 0 < a := by omega
  · exact zright_n aA ac a w ha la h
  · exact zright_z aA ac a w ha la h
  · exact zright_p aA ac a w ha la h
end Go.Proofs.YtpaffggdeedopaaGreatDoor

set_option linter.unusedVariables false
set_option linter.unusedSimpArgs false
namespace Go.Proofs.YtpaffggdeedopaaGreatDoor
open Go.RowKit Go.Shelf
theorem at_len1 {f : Nat} {A : Option Addr} {c a la : Nat} {xs : List Value} {w : World} {R : Ending → World → Prop} (ha : nl a = la) (h : Calls Tryz.prog f (.slice A (nl a) c :: xs).toArray w R) : Calls Tryz.prog f (.slice A la c :: xs).toArray w R := by
  subst ha; exact h
end Go.Proofs.YtpaffggdeedopaaGreatDoor

set_option linter.unusedVariables false
set_option linter.unusedSimpArgs false
namespace Go.Proofs.YtpaffggdeedopaaGreatDoor
open Go.RowKit Go.ChangeShapes Go.WideShapes Go.ChangeAt

theorem row_cellsS : Tryz.prog.cellsOf 22 = 1 := by kernel_rfl

section
variable {H : Type} {enc : TypeId × Value → H} {W : World} {base : Nat} {sp : Nat → Bool} {held : Bool}


theorem open_two {r : Reach} {b0 : Nat} {v : Value} {d : DataW H} {ps : List MemPlace} (hv : Value.okWide Tryz.prog W r b0 75 v) (h : DataW.Trod enc Tryz.prog W base sp held 75 v d ps) :
    ∃ A c l B d m, v = .agg #[.slice A l.length c, .slice B m.length d] ∧ IsL W A c l ∧ IsL W B d m := by
  simp only [Value.okWide, Tryz.underlying75] at hv
  obtain ⟨cs, rfl, hcs, _⟩ := hv
  obtain ⟨fuel, hf⟩ := h
  obtain ⟨xs, n, _, _, hl, hx, he⟩ := DataW.trod_array Tryz.underlying75 hf
  have h2 : Tryz.prog.cellsOf 75 = 2 := by kernel_rfl
  rw [h2] at hcs
  obtain ⟨cl⟩ := cs
  match cl, hcs with
  | [c0, c1], _ =>
    have e0 := he 0 (by decide)
    have e1 := he 1 (by decide)
    rw [row_cellsS] at e0 e1
    match xs, hx with
    | [x0, x1], _ =>
      obtain ⟨A, c, l, k0, i0⟩ := open_nat (show DataW.trod enc Tryz.prog W base sp held n 22 [c0] = some x0 from e0)
      obtain ⟨B, d, m, k1, i1⟩ := open_nat (show DataW.trod enc Tryz.prog W base sp held n 22 [c1] = some x1 from e1)
      simp only [List.cons.injEq, and_true] at k0 k1
      subst k0 k1
      exact ⟨A, c, l, B, d, m, rfl, i0, i1⟩

end

end Go.Proofs.YtpaffggdeedopaaGreatDoor

set_option linter.unusedVariables false
set_option linter.unusedSimpArgs false
namespace Go.Proofs.YtpaffggdeedopaaGreatDoor

theorem no_inj : ∀ (m : Nat) (f : Nat → Nat), (∀ x, x < m + 1 → f x < m) → (∀ x y, x < m + 1 → y < m + 1 → f x = f y → x = y) → False
  | 0, f, h, _ => absurd (h 0 (by omega)) (by omega)
  | m + 1, f, h, hi => by
    have hv : ∀ z, z < m + 1 → f z ≠ f (m + 1) := fun z hz e => by have := hi z (m + 1) (by omega) (by omega) e; omega
    refine no_inj m (fun x => if f x = m then f (m + 1) else f x) ?_ ?_
    · intro x hx
      have h1 := h x (by omega)
      have h2 := h (m + 1) (by omega)
      have h3 := hv x hx
      show (if f x = m then f (m + 1) else f x) < m
      split <;> omega
    · intro x y hx hy e
      have h1 := hv x hx
      have h2 := hv y hy
      (try simp only at e)
      split at e <;> split at e
      · exact hi x y (by omega) (by omega) (by omega)
      · exact absurd e.symm h2
      · exact absurd e h1
      · exact hi x y (by omega) (by omega) e
theorem inj_onto (m : Nat) (f : Nat → Nat) (h : ∀ x, x < m → f x < m) (hi : ∀ x y, x < m → y < m → f x = f y → x = y) (y : Nat) (hy : y < m) : ∃ x, x < m ∧ f x = y := by
  by_cases hh : ∃ x, x < m ∧ f x = y
  · exact hh
  · exfalso
    have hn : ∀ x, x < m → f x ≠ y := fun x hx e => hh ⟨x, hx, e⟩
    cases m with
    | zero => omega
    | succ m =>
      refine no_inj m (fun x => if f x = m then y else f x) ?_ ?_
      · intro x hx
        have h1 := h x hx
        have h2 := hn x hx
        show (if f x = m then y else f x) < m
        split <;> omega
      · intro x z hx hz e
        have h1 := hn x hx
        have h2 := hn z hz
        (try simp only at e)
        split at e <;> split at e
        · exact hi x z hx hz (by omega)
        · exact absurd e.symm h2
        · exact absurd e h1
        · exact hi x z hx hz e
theorem pow_one_mul {n g a : Nat} (h : g ^ a % n = 1 % n) (k : Nat) : g ^ (a * k) % n = 1 % n := by
  rw [Nat.pow_mul, Nat.pow_mod, h, ← Nat.pow_mod, Nat.one_pow]
theorem pow_gcd {n g : Nat} (a b : Nat) : g ^ a % n = 1 % n → g ^ b % n = 1 % n → g ^ (Nat.gcd a b) % n = 1 % n := by
  induction a, b using Nat.gcd.induction with
  | H0 b => intro _ h; rw [Nat.gcd_zero_left]; exact h
  | H1 a b ha ih =>
    intro h1 h2
    rw [Nat.gcd_rec]
    refine ih ?_ h1
    have e : g ^ b = g ^ (a * (b / a)) * g ^ (b % a) := by rw [← Nat.pow_add, Nat.div_add_mod]
    rw [e, Nat.mul_mod, pow_one_mul h1, ← Nat.mul_mod, Nat.one_mul] at h2
    exact h2
/-- A prime: only 1 and itself divide it. -/
def IsP (q : Nat) : Prop := 1 < q ∧ ∀ d, d ∣ q → d = 1 ∨ d = q
def prodL : List Nat → Nat
  | [] => 1
  | q :: l => q * prodL l
theorem cop_prod {t : Nat} : ∀ {l : List Nat}, (∀ q, q ∈ l → Nat.gcd t q = 1) → Nat.gcd t (prodL l) = 1
  | [], _ => Nat.gcd_one_right t
  | q :: l, h => by
    have h1 := h q (by simp)
    have h2 := cop_prod (l := l) (fun x hx => h x (by simp [hx]))
    exact Nat.Coprime.mul_right h1 h2
theorem lucas {n g : Nat} (fs : List Nat) (h1 : 1 < n) (hf : ∀ q, q ∈ fs → IsP q) (hp : prodL fs = n - 1) (hg : g ^ (n - 1) % n = 1) (hq : ∀ q, q ∈ fs → g ^ ((n - 1) / q) % n ≠ 1) :
    ∀ a, 0 < a → a < n → ∃ k, k < n - 1 ∧ g ^ k % n = a := by
  have e1 : 1 % n = 1 := Nat.mod_eq_of_lt h1
  have hnz : ∀ k, k < n - 1 → g ^ k % n ≠ 0 := by
    intro k hk e
    have h2 : g ^ (n - 1) = g ^ k * g ^ (n - 1 - k) := by rw [← Nat.pow_add]; congr 1; omega
    rw [h2, Nat.mul_mod, e, Nat.zero_mul, Nat.zero_mod] at hg
    exact absurd hg (by omega)
  have ord : ∀ d, 0 < d → d < n - 1 → g ^ d % n ≠ 1 := by
    intro d h0 hd e
    have ht := pow_gcd d (n - 1) (by rw [e, e1]) (by rw [hg, e1])
    obtain ⟨t, et⟩ : ∃ t, t = Nat.gcd d (n - 1) := ⟨_, rfl⟩
    rw [← et, e1] at ht
    have htd : t ∣ n - 1 := by rw [et]; exact Nat.gcd_dvd_right _ _
    have htl : t ≤ d := by rw [et]; exact Nat.le_of_dvd h0 (Nat.gcd_dvd_left _ _)
    obtain ⟨u, hu⟩ := htd
    have ht0 : 0 < t := by rcases Nat.eq_zero_or_pos t with z | z; (rw [z, Nat.zero_mul] at hu; omega); exact z
    have hu1 : 1 < u := by
      rcases Nat.lt_or_ge 1 u with z | z
      · exact z
      · have := Nat.mul_le_mul_left t z; omega
    have hex : ∃ q, q ∈ fs ∧ q ∣ u := by
      by_cases hh : ∃ q, q ∈ fs ∧ q ∣ u
      · exact hh
      · exfalso
        have hc : Nat.gcd u (prodL fs) = 1 := by
          apply cop_prod
          intro q hq2
          rcases (hf q hq2).2 (Nat.gcd u q) (Nat.gcd_dvd_right _ _) with z | z
          · exact z
          · exact absurd ⟨q, hq2, by rw [← z]; exact Nat.gcd_dvd_left _ _⟩ hh
        rw [hp, hu, Nat.mul_comm, Nat.gcd_mul_right_right] at hc
        omega
    obtain ⟨q, hq1, v, hv⟩ := hex
    have hq0 : 0 < q := by have := (hf q hq1).1; omega
    refine hq q hq1 ?_
    have : (n - 1) / q = t * v := by
      rw [hu, hv]
      exact Nat.div_eq_of_eq_mul_right hq0 (by rw [Nat.mul_left_comm])
    rw [this, pow_one_mul (by rw [ht, e1]), e1]
  intro a ha hal
  obtain ⟨x, hx, e⟩ := inj_onto (n - 1) (fun k => g ^ k % n - 1) (fun x hx => by have := Nat.mod_lt (g ^ x) (show n > 0 by omega); have := hnz x hx; (try simp only); omega) (by
    have key : ∀ x y, x < y → y < n - 1 → g ^ x % n = g ^ y % n → False := by
      intro x y hxy hy e
      refine ord (y - x) (by omega) (by omega) ?_
      have h2 : g ^ (n - 1) = g ^ x * g ^ (n - 1 - x) := by rw [← Nat.pow_add]; congr 1; omega
      have h3 : g ^ y * g ^ (n - 1 - x) = g ^ (n - 1) * g ^ (y - x) := by rw [← Nat.pow_add, ← Nat.pow_add]; congr 1; omega
      have h4 : (g ^ x * g ^ (n - 1 - x)) % n = (g ^ y * g ^ (n - 1 - x)) % n := by rw [Nat.mul_mod, e, ← Nat.mul_mod]
      rw [← h2, hg, h3, Nat.mul_mod, hg, Nat.one_mul, Nat.mod_mod] at h4
      exact h4.symm
    intro x y hx hy e
    have a1 := hnz x hx
    have a2 := hnz y hy
    (try simp only at e)
    have e2 : g ^ x % n = g ^ y % n := by omega
    rcases Nat.lt_trichotomy x y with z | z | z
    · exact (key x y z hy e2).elim
    · exact z
    · exact (key y x z hx e2.symm).elim) (a - 1) (by omega)
  refine ⟨x, hx, ?_⟩
  have := hnz x hx
  (try simp only at e)
  omega
theorem lucas_fermat {n g : Nat} (h1 : 1 < n) (hg : g ^ (n - 1) % n = 1) (h : ∀ a, 0 < a → a < n → ∃ k, k < n - 1 ∧ g ^ k % n = a) {a : Nat} (ha : a % n ≠ 0) : a ^ (n - 1) % n = 1 := by
  obtain ⟨k, _, e⟩ := h (a % n) (by omega) (Nat.mod_lt _ (by omega))
  rw [Nat.pow_mod, ← e, ← Nat.pow_mod, ← Nat.pow_mul, Nat.mul_comm, Nat.pow_mul, Nat.pow_mod, hg, Nat.one_pow, Nat.mod_eq_of_lt h1]
theorem lucas_prime {n g : Nat} (h1 : 1 < n) (hg : g ^ (n - 1) % n = 1) (h : ∀ a, 0 < a → a < n → ∃ k, k < n - 1 ∧ g ^ k % n = a) : IsP n := by
  refine ⟨h1, fun d hd => ?_⟩
  have hl := Nat.le_of_dvd (by omega) hd
  rcases Nat.lt_or_ge d n with z | z
  · left
    have hd0 : 0 < d := Nat.pos_of_dvd_of_pos hd (by omega)
    obtain ⟨k, hk, e⟩ := h d hd0 z
    have h2 : d ∣ g ^ k := by
      rw [← Nat.div_add_mod (g ^ k) n, e]
      exact Nat.dvd_add (Nat.dvd_trans hd (Nat.dvd_mul_right _ _)) (Nat.dvd_refl _)
    have h3 : d ∣ g ^ (n - 1) := Nat.dvd_trans h2 (Nat.pow_dvd_pow g (by omega))
    have h4 := Nat.div_add_mod (g ^ (n - 1)) n
    rw [hg] at h4
    have h5 : d ∣ 1 := by
      rw [← h4] at h3
      exact (Nat.dvd_add_right (Nat.dvd_trans hd (Nat.dvd_mul_right _ _))).1 h3
    exact Nat.dvd_one.1 h5
  · right; omega
/-- A power modulo a number, by its exponent's bits. -/
def pmod (n : Nat) : Nat → Nat → Nat → Nat
  | 0, _, _ => 1 % n
  | f + 1, g, e => bif (e % 2).beq 1 then pmod n f (g * g % n) (e / 2) * g % n else pmod n f (g * g % n) (e / 2)
theorem pmod_eq (n : Nat) : ∀ (f g e : Nat), e < 2 ^ f → pmod n f g e = g ^ e % n
  | 0, g, e, h => by
    have : e = 0 := by simpa using h
    subst this; simp [pmod]
  | f + 1, g, e, h => by
    have h1 : e / 2 < 2 ^ f := by rw [Nat.pow_succ] at h; omega
    have ih := pmod_eq n f (g * g % n) (e / 2) h1
    have e2 : (g * g % n) ^ (e / 2) % n = g ^ (2 * (e / 2)) % n := by
      rw [← Nat.pow_mod, Nat.pow_mul, show g ^ 2 = g * g from Nat.pow_two g]
    simp only [pmod]
    rw [ih, e2]
    by_cases hb : e % 2 = 1
    · rw [show (e % 2).beq 1 = true by rw [hb]; rfl, cond_true, ← Nat.mul_mod_mod, Nat.mod_mul_mod, Nat.mul_mod_mod]
      rw [← Nat.pow_succ]; congr 2; omega
    · rw [show (e % 2).beq 1 = false by rw [show e % 2 = 0 by omega]; rfl, cond_false]
      congr 2; omega
theorem isP_small {q : Nat} (h1 : 1 < q) (m : Nat) (hm : q < m * m) (h : (List.range m).all (fun d => Nat.ble d 1 || !(Nat.beq (q % d) 0)) = true) : IsP q := by
  have hd : ∀ d, 1 < d → d < m → ¬ d ∣ q := by
    intro d h2 h3 h4
    have := List.all_eq_true.1 h d (List.mem_range.2 h3)
    rw [Nat.mod_eq_zero_of_dvd h4] at this
    simp at this
    omega
  refine ⟨h1, fun d hdq => ?_⟩
  have hd0 : 0 < d := Nat.pos_of_dvd_of_pos hdq (by omega)
  obtain ⟨e, he⟩ := hdq
  rcases Nat.lt_or_ge d m with z | z
  · left
    rcases Nat.lt_or_ge 1 d with y | y
    · exact absurd ⟨e, he⟩ (hd d y z)
    · omega
  · right
    have he0 : 0 < e := by rcases Nat.eq_zero_or_pos e with y | y; (rw [y, Nat.mul_zero] at he; omega); exact y
    rcases Nat.lt_or_ge e m with y | y
    · rcases Nat.lt_or_ge 1 e with x | x
      · exact absurd ⟨d, by rw [he, Nat.mul_comm]⟩ (hd e x y)
      · have : e = 1 := by omega
        rw [he, this, Nat.mul_one]
    · have := Nat.mul_le_mul z y
      omega
/-- What is asked of a modulus, in one. -/
def lucasOk (n g f : Nat) (fs : List Nat) : Bool := Nat.ble 2 n && Nat.beq (prodL fs) (n - 1) && Nat.ble n (2 ^ f) && Nat.beq (pmod n f g (n - 1)) 1 && fs.all (fun q => !(Nat.beq (pmod n f g ((n - 1) / q)) 1))
theorem lucas_ok {n g f : Nat} {fs : List Nat} (hf : ∀ q, q ∈ fs → IsP q) (h : lucasOk n g f fs = true) : IsP n ∧ ∀ a, a % n ≠ 0 → a ^ (n - 1) % n = 1 := by
  simp only [lucasOk, Bool.and_eq_true] at h
  obtain ⟨⟨⟨⟨h1, h2⟩, h3⟩, h4⟩, h5⟩ := h
  have g1 : 1 < n := Nat.le_of_ble_eq_true h1
  have g2 : prodL fs = n - 1 := Nat.eq_of_beq_eq_true h2
  have g3 : n ≤ 2 ^ f := Nat.le_of_ble_eq_true h3
  have g4 : g ^ (n - 1) % n = 1 := by rw [← pmod_eq n f g (n - 1) (by omega)]; exact Nat.eq_of_beq_eq_true h4
  have g5 : ∀ q, q ∈ fs → g ^ ((n - 1) / q) % n ≠ 1 := by
    intro q hq e
    have hl : (n - 1) / q < 2 ^ f := by have := Nat.div_le_self (n - 1) q; omega
    rw [← pmod_eq n f g _ hl] at e
    have := List.all_eq_true.1 h5 q hq
    rw [e] at this
    cases this
  have L := lucas fs g1 hf g2 g4 g5
  exact ⟨lucas_prime g1 g4 L, fun a ha => lucas_fermat g1 g4 L ha⟩
theorem isP_2 : IsP 2 := isP_small (by decide) 2 (by decide) (by kernel_rfl)
theorem isP_3 : IsP 3 := isP_small (by decide) 2 (by decide) (by kernel_rfl)
theorem isP_5 : IsP 5 := isP_small (by decide) 3 (by decide) (by kernel_rfl)
theorem isP_7 : IsP 7 := isP_small (by decide) 3 (by decide) (by kernel_rfl)
theorem isP_11 : IsP 11 := isP_small (by decide) 4 (by decide) (by kernel_rfl)
theorem isP_13 : IsP 13 := isP_small (by decide) 4 (by decide) (by kernel_rfl)
theorem isP_17 : IsP 17 := isP_small (by decide) 5 (by decide) (by kernel_rfl)
theorem isP_19 : IsP 19 := isP_small (by decide) 5 (by decide) (by kernel_rfl)
theorem isP_23 : IsP 23 := isP_small (by decide) 5 (by decide) (by kernel_rfl)
theorem isP_31 : IsP 31 := isP_small (by decide) 6 (by decide) (by kernel_rfl)
theorem isP_41 : IsP 41 := isP_small (by decide) 7 (by decide) (by kernel_rfl)
theorem isP_43 : IsP 43 := isP_small (by decide) 7 (by decide) (by kernel_rfl)
theorem isP_61 : IsP 61 := isP_small (by decide) 8 (by decide) (by kernel_rfl)
theorem isP_73 : IsP 73 := isP_small (by decide) 9 (by decide) (by kernel_rfl)
theorem isP_89 : IsP 89 := isP_small (by decide) 10 (by decide) (by kernel_rfl)
theorem isP_127 : IsP 127 := isP_small (by decide) 12 (by decide) (by kernel_rfl)
theorem isP_151 : IsP 151 := isP_small (by decide) 13 (by decide) (by kernel_rfl)
theorem isP_331 : IsP 331 := isP_small (by decide) 19 (by decide) (by kernel_rfl)
theorem isP_337 : IsP 337 := isP_small (by decide) 19 (by decide) (by kernel_rfl)
theorem isP_353 : IsP 353 := isP_small (by decide) 19 (by decide) (by kernel_rfl)
theorem isP_397 : IsP 397 := isP_small (by decide) 20 (by decide) (by kernel_rfl)
theorem isP_683 : IsP 683 := isP_small (by decide) 27 (by decide) (by kernel_rfl)
theorem isP_1321 : IsP 1321 := isP_small (by decide) 37 (by decide) (by kernel_rfl)
theorem isP_1913 : IsP 1913 := isP_small (by decide) 44 (by decide) (by kernel_rfl)
theorem isP_2113 : IsP 2113 := isP_small (by decide) 46 (by decide) (by kernel_rfl)
theorem isP_5419 : IsP 5419 := isP_small (by decide) 74 (by decide) (by kernel_rfl)
theorem isP_8707 : IsP 8707 := isP_small (by decide) 94 (by decide) (by kernel_rfl)
theorem isP_92737 : IsP 92737 := isP_small (by decide) 305 (by decide) (by kernel_rfl)
theorem isP_649657 : IsP 649657 := isP_small (by decide) 807 (by decide) (by kernel_rfl)
theorem isP_699053 : IsP 699053 := isP_small (by decide) 837 (by decide) (by kernel_rfl)
theorem fer_77158673929 : IsP 77158673929 ∧ ∀ a, a % 77158673929 ≠ 0 → a ^ (77158673929 - 1) % 77158673929 = 1 := lucas_ok (g := 11) (f := 37) (fs := [2, 2, 2, 3, 3, 3, 7, 73, 699053]) (by
  intro q hq
  simp only [List.mem_cons, List.not_mem_nil, or_false] at hq
  rcases hq with rfl | rfl | rfl | rfl | rfl | rfl | rfl | rfl | rfl
  · exact isP_2
  · exact isP_2
  · exact isP_2
  · exact isP_3
  · exact isP_3
  · exact isP_3
  · exact isP_7
  · exact isP_73
  · exact isP_699053) (by kernel_rfl)
theorem fer_2931542417 : IsP 2931542417 ∧ ∀ a, a % 2931542417 ≠ 0 → a ^ (2931542417 - 1) % 2931542417 = 1 := lucas_ok (g := 3) (f := 32) (fs := [2, 2, 2, 2, 11, 1913, 8707]) (by
  intro q hq
  simp only [List.mem_cons, List.not_mem_nil, or_false] at hq
  rcases hq with rfl | rfl | rfl | rfl | rfl | rfl | rfl
  · exact isP_2
  · exact isP_2
  · exact isP_2
  · exact isP_2
  · exact isP_11
  · exact isP_1913
  · exact isP_8707) (by kernel_rfl)
theorem fer_65537 : IsP 65537 ∧ ∀ a, a % 65537 ≠ 0 → a ^ (65537 - 1) % 65537 = 1 := lucas_ok (g := 3) (f := 17) (fs := [2, 2, 2, 2, 2, 2, 2, 2, 2, 2, 2, 2, 2, 2, 2, 2]) (by
  intro q hq
  simp only [List.mem_cons, List.not_mem_nil, or_false] at hq
  rcases hq with rfl | rfl | rfl | rfl | rfl | rfl | rfl | rfl | rfl | rfl | rfl | rfl | rfl | rfl | rfl | rfl
  · exact isP_2
  · exact isP_2
  · exact isP_2
  · exact isP_2
  · exact isP_2
  · exact isP_2
  · exact isP_2
  · exact isP_2
  · exact isP_2
  · exact isP_2
  · exact isP_2
  · exact isP_2
  · exact isP_2
  · exact isP_2
  · exact isP_2
  · exact isP_2) (by kernel_rfl)
theorem fer_2147483647 : IsP 2147483647 ∧ ∀ a, a % 2147483647 ≠ 0 → a ^ (2147483647 - 1) % 2147483647 = 1 := lucas_ok (g := 7) (f := 31) (fs := [2, 3, 3, 7, 11, 31, 151, 331]) (by
  intro q hq
  simp only [List.mem_cons, List.not_mem_nil, or_false] at hq
  rcases hq with rfl | rfl | rfl | rfl | rfl | rfl | rfl | rfl
  · exact isP_2
  · exact isP_3
  · exact isP_3
  · exact isP_7
  · exact isP_11
  · exact isP_31
  · exact isP_151
  · exact isP_331) (by kernel_rfl)
theorem fer_2305843009213693951 : IsP 2305843009213693951 ∧ ∀ a, a % 2305843009213693951 ≠ 0 → a ^ (2305843009213693951 - 1) % 2305843009213693951 = 1 := lucas_ok (g := 37) (f := 61) (fs := [2, 3, 3, 5, 5, 7, 11, 13, 31, 41, 61, 151, 331, 1321]) (by
  intro q hq
  simp only [List.mem_cons, List.not_mem_nil, or_false] at hq
  rcases hq with rfl | rfl | rfl | rfl | rfl | rfl | rfl | rfl | rfl | rfl | rfl | rfl | rfl | rfl
  · exact isP_2
  · exact isP_3
  · exact isP_3
  · exact isP_5
  · exact isP_5
  · exact isP_7
  · exact isP_11
  · exact isP_13
  · exact isP_31
  · exact isP_41
  · exact isP_61
  · exact isP_151
  · exact isP_331
  · exact isP_1321) (by kernel_rfl)
theorem fer_618970019642690137449562111 : IsP 618970019642690137449562111 ∧ ∀ a, a % 618970019642690137449562111 ≠ 0 → a ^ (618970019642690137449562111 - 1) % 618970019642690137449562111 = 1 := lucas_ok (g := 3) (f := 89) (fs := [2, 3, 5, 17, 23, 89, 353, 397, 683, 2113, 2931542417]) (by
  intro q hq
  simp only [List.mem_cons, List.not_mem_nil, or_false] at hq
  rcases hq with rfl | rfl | rfl | rfl | rfl | rfl | rfl | rfl | rfl | rfl | rfl
  · exact isP_2
  · exact isP_3
  · exact isP_5
  · exact isP_17
  · exact isP_23
  · exact isP_89
  · exact isP_353
  · exact isP_397
  · exact isP_683
  · exact isP_2113
  · exact fer_2931542417.1) (by kernel_rfl)
theorem fer_170141183460469231731687303715884105727 : IsP 170141183460469231731687303715884105727 ∧ ∀ a, a % 170141183460469231731687303715884105727 ≠ 0 → a ^ (170141183460469231731687303715884105727 - 1) % 170141183460469231731687303715884105727 = 1 := lucas_ok (g := 43) (f := 127) (fs := [2, 3, 3, 3, 7, 7, 19, 43, 73, 127, 337, 5419, 92737, 649657, 77158673929]) (by
  intro q hq
  simp only [List.mem_cons, List.not_mem_nil, or_false] at hq
  rcases hq with rfl | rfl | rfl | rfl | rfl | rfl | rfl | rfl | rfl | rfl | rfl | rfl | rfl | rfl | rfl
  · exact isP_2
  · exact isP_3
  · exact isP_3
  · exact isP_3
  · exact isP_7
  · exact isP_7
  · exact isP_19
  · exact isP_43
  · exact isP_73
  · exact isP_127
  · exact isP_337
  · exact isP_5419
  · exact isP_92737
  · exact isP_649657
  · exact fer_77158673929.1) (by kernel_rfl)
end Go.Proofs.YtpaffggdeedopaaGreatDoor
