/- Whole numbers, walked: Of, Sign, Cmp, Neg. -/
import Derived.Test.YtacjfpibilolnaaGreatDoorSC07
import Derived.Test.YtacjfpibilolnaaGreatDoorSC12
set_option maxRecDepth 100000
set_option maxHeartbeats 4000000
set_option linter.unusedVariables false
set_option linter.unusedSimpArgs false
namespace Go.Proofs.YtacjfpibilolnaaGreatDoor
open Go.RowKit Go.Shelf
attribute [local go_sem] max2_i min2_i max_two min_two

theorem rd_two (W : World) (s a b : Nat) (h : W.heap[s]? = some (.cells #[.int .u32 (a : Nat), .int .u32 (b : Nat)] 58 (0, 0))) : Rd W (some ⟨s, 0, none⟩) [a, b] := by
  refine .inr ⟨_, rfl, fun i u hu => ?_⟩
  unfold World.cell?
  have e : (Addr.add ⟨s, 0, none⟩ i) = ⟨s, i, none⟩ := by simp only [Addr.add]; split <;> simp_all
  rw [e]
  simp only [h]
  match i, hu with
  | 0, hu => simpa [vals] using hu
  | 1, hu => simpa [vals] using hu
theorem two_limbs {n : Nat} (h : n < 18446744073709551616) : val [n % 4294967296, n / 4294967296] = n := by simp [val]; omega
theorem nof_c (n : Nat) (w : World) (hn : n < 18446744073709551616) :
    Calls Tryz.prog 112 #[.int .u64 (n : Nat)] w (RetN w n) := by
  obtain ⟨a, Ea⟩ : ∃ a, a = n % 4294967296 := ⟨_, rfl⟩
  obtain ⟨b, Eb⟩ : ∃ b, b = n / 4294967296 := ⟨_, rfl⟩
  have Ia : (n : Int) % 4294967296 = (a : Int) := by omega
  have Ib : (n : Int) / 4294967296 = (b : Int) := by omega
  have Ba : a < 4294967296 := by omega
  have Bb : b < 4294967296 := by omega
  have Jb : (b : Int) % 4294967296 = (b : Int) := by omega
  have ev : val [a, b] = n := by rw [Ea, Eb]; exact two_limbs hn
  replace ev := Lib.hid ev
  replace Ea := Lib.hid Ea
  replace Eb := Lib.hid Eb
  have hb0 : Below w.heap.size w (w.alloc (.cells #[.int .u32 (a : Nat), .int .u32 (b : Nat)] 58)) := (Below.refl _ _).alloc (Nat.le_refl _) _
  have hr := rd_two _ _ a b (heap_alloc_new w (.cells #[.int .u32 (a : Nat), .int .u32 (b : Nat)] 58))
  have C := make_c _ 2 2 [a, b] _ rfl hr (Lim.cons Ba (Lim.cons Bb Lim.nil)) (by decide) (Nat.le_refl _)
  rw [ev.out] at C
  replace C := Lib.hid C
  have HBT := hb0
  go_enter Tryz.func112, Tryz.ntmps112
  go_wp2_with (fail)
  refine C.out.mono ?_
  rintro e W1 ⟨X, cx, rfl, hX, hb1⟩
  replace HBT := Below.cons HBT hb1
  go_wp2_with (fail)
  go_ret
  exact ⟨X, cx, rfl, hX, HBT⟩
theorem ione_c (w : World) :
    Calls Tryz.prog 108 #[] w (RetN w 1) := by
  have b1 : Below w.heap.size w (w.alloc (.cells #[.int .u32 1] 58)) := (Below.refl _ _).alloc (Nat.le_refl _) _
  have h1 := nat_one _ _ (heap_alloc_new w (.cells #[.int .u32 1] 58))
  replace h1 := Lib.hid h1
  go_enter Tryz.func108, Tryz.ntmps108
  go_wp2_with (fail)
  go_ret
  exact ⟨some ⟨w.heap.size, 0, none⟩, 1, by rw [nl_one]; rfl, h1.out, b1⟩
theorem iof_c (n : Nat) (w : World) (hn : n < 9223372036854775808) :
    Calls Tryz.prog 68 #[.int .i64 (n : Nat)] w (RetI w n) := by
  have t1 : decide ((n : Int) < 0) = false := by simp
  have I1 : (n : Int) % 18446744073709551616 = (n : Int) := by omega
  obtain ⟨hb1, Rr⟩ := bx1 w #[.bool false, .slice none 0 0] 24
  have HBT := hb1
  clear hb1
  have qr0 := Rr.c (i := 0) rfl
  have qr1 := Rr.c (i := 1) rfl
  have W1' : IntKind.u64.wrap (n : Int) = (n : Int) := by simp [IntKind.wrap, IntKind.signed, IntKind.bits]; omega
  go_enter Tryz.func68, Tryz.ntmps68
  go_wp2_with (fail)
  obtain ⟨m, Em⟩ : ∃ zq : Nat, zq = n := ⟨_, rfl⟩
  have Bm : nl m ≤ 2 := by rw [Em]; exact nl_le.2 (Nat.lt_trans hn (by decide))
  refine (Calls.mono (R := RetN (w.alloc (.cells #[.bool false, .slice none 0 0] 24)) m) (by rw [Em]; exact (nof_c n _  (by omega))) ?_)
  replace Em := Lib.hid Em
  rintro e W2 ⟨Xm, cm, rfl, hm, hb2⟩
  replace Rr := Rr.below hb2
  replace qr0 := cbl hb2 qr0
  replace qr1 := cbl hb2 qr1
  replace HBT := Below.cons HBT hb2
  clear hb2
  go_wp2_with (fail)
  obtain ⟨z, Ez⟩ : ∃ zq : Int, zq = ival false m := ⟨_, rfl⟩
  refine (Calls.mono (R := RetI W2 z) (by rw [Ez]; exact (imake_c false Xm cm m _ hm (by omega))) ?_)
  replace Ez := Lib.hid Ez
  rintro e W3 ⟨Xz, cz, rfl, hz, hb3⟩
  replace Rr := Rr.below hb3
  replace qr0 := cbl hb3 qr0
  replace qr1 := cbl hb3 qr1
  replace hm := hm.below hb3
  replace HBT := Below.cons HBT hb3
  clear hb3
  have fr0 := Rr.f (i := 0)
  have fr1 := Rr.f (i := 1)
  go_wp2_with (fail)
  have RS := Rr.store2 (.bool (sg z)) (.slice Xz (nl (mg z)) cz)
  have e0 := RS.c (i := 0) rfl
  have e1 := RS.c (i := 1) rfl
  refine bodyPost_ret (v := .agg #[.bool (sg z), .slice Xz (nl (mg z)) cz]) (by simp [results, Tryz.results68, go_sem, e0, e1]) rfl ?_
  have hz : z = (n : Int) := by rw [Ez.out, Em.out]; rfl
  subst hz
  exact ⟨Xz, cz, rfl, (Rr.keep2 (nuB rfl) hz), (Below.store2 HBT (by first | exact Nat.le_refl _ | omega))⟩
theorem isign_c (aA : Option Addr) (ac : Nat) (a : Int) (w : World) :
    Calls Tryz.prog 77 #[.agg #[.bool (sg a), .slice aA (nl (mg a)) ac]] w fun e w' => e = .returned (.int .i64 a.sign) ∧ Below w.heap.size w w' := by
  obtain hc | hc | hc : a = 0 ∨ a < 0 ∨ 0 < a := by omega
  · have t1 : ((nl (mg a) : Int) == 0) = true := ieqT (by rw [show mg a = 0 from mg_zero.2 hc, nl_zero]; rfl)
    have t3 : a.sign = 0 := by rw [hc]; rfl
    rw [t3]
    obtain ⟨hb1, Ra⟩ := bx1 w #[.bool (sg a), .slice aA (nl (mg a)) ac] 24
    have HBT := hb1
    clear hb1
    have qa0 := Ra.c (i := 0) rfl
    have qa1 := Ra.c (i := 1) rfl
    replace hc := Lib.hid hc
    go_enter Tryz.func77, Tryz.ntmps77
    go_wp2_with (fail)
    go_ret
    exact ⟨rfl, HBT⟩
  · have t1 : ((nl (mg a) : Int) == 0) = false := ieqF (by have := nl_pos.2 (show mg a ≠ 0 from fun e => by have := mg_zero.1 e; omega); omega)
    have t2 : sg a = true := sg_t hc
    have t3 : a.sign = -1 := by exact Int.sign_eq_neg_one_of_neg hc
    rw [t3]
    obtain ⟨hb1, Ra⟩ := bx1 w #[.bool true, .slice aA (nl (mg a)) ac] 24
    have HBT := hb1
    clear hb1
    have qa0 := Ra.c (i := 0) rfl
    have qa1 := Ra.c (i := 1) rfl
    replace hc := Lib.hid hc
    go_enter Tryz.func77, Tryz.ntmps77
    go_wp2_with (fail)
    go_ret
    exact ⟨rfl, HBT⟩
  · have t1 : ((nl (mg a) : Int) == 0) = false := ieqF (by have := nl_pos.2 (show mg a ≠ 0 from fun e => by have := mg_zero.1 e; omega); omega)
    have t2 : sg a = false := sg_f (by omega)
    have t3 : a.sign = 1 := by exact Int.sign_eq_one_of_pos hc
    rw [t3]
    obtain ⟨hb1, Ra⟩ := bx1 w #[.bool false, .slice aA (nl (mg a)) ac] 24
    have HBT := hb1
    clear hb1
    have qa0 := Ra.c (i := 0) rfl
    have qa1 := Ra.c (i := 1) rfl
    replace hc := Lib.hid hc
    go_enter Tryz.func77, Tryz.ntmps77
    go_wp2_with (fail)
    go_ret
    exact ⟨rfl, HBT⟩
/-- Which one is less. -/
def icmp (a b : Int) : Int := if a < b then -1 else if b < a then 1 else 0
theorem icmp_zero {a b : Int} : icmp a b = 0 ↔ a = b := by unfold icmp; split <;> (try split) <;> omega
theorem icmp_nn {a b : Int} (ha : 0 ≤ a) (hb : 0 ≤ b) : icmp a b = cmpN (mg a) (mg b) := by
  unfold icmp cmpN mg
  have h1 : (a < b) ↔ (a.natAbs < b.natAbs) := by omega
  have h2 : (b < a) ↔ (b.natAbs < a.natAbs) := by omega
  simp only [h1, h2]
theorem icmp_bb {a b : Int} (ha : a < 0) (hb : b < 0) : icmp a b = cmpN (mg b) (mg a) := by
  unfold icmp cmpN mg
  have h1 : (a < b) ↔ (b.natAbs < a.natAbs) := by omega
  have h2 : (b < a) ↔ (a.natAbs < b.natAbs) := by omega
  simp only [h1, h2]
theorem icmp_c (aA : Option Addr) (ac : Nat) (a : Int) (bA : Option Addr) (bc : Nat) (b : Int) (w : World) (ha : NatV w aA ac (mg a)) (hb : NatV w bA bc (mg b)) (la : nl (mg a) ≤ 1073741824) (lb : nl (mg b) ≤ 1073741824) :
    Calls Tryz.prog 87 #[.agg #[.bool (sg a), .slice aA (nl (mg a)) ac], .agg #[.bool (sg b), .slice bA (nl (mg b)) bc]] w fun e w' => e = .returned (.int .i64 (icmp a b)) ∧ Below w.heap.size w w' := by
  by_cases h1 : a < 0
  · by_cases h2 : b < 0
    · have ta : sg a = true := sg_t h1
      have tb : sg b = true := sg_t h2
      rw [icmp_bb h1 h2]
      obtain ⟨hb1, Ra, Rb⟩ := bx2 w #[.bool true, .slice aA (nl (mg a)) ac] 24 #[.bool true, .slice bA (nl (mg b)) bc] 24
      replace ha := ha.below hb1
      replace hb := hb.below hb1
      have HBT := hb1
      clear hb1
      have qa0 := Ra.c (i := 0) rfl
      have qa1 := Ra.c (i := 1) rfl
      have qb0 := Rb.c (i := 0) rfl
      have qb1 := Rb.c (i := 1) rfl
      replace h1 := Lib.hid h1
      replace h2 := Lib.hid h2
      go_enter Tryz.func87, Tryz.ntmps87
      go_wp2_with (fail)
      refine (Calls.mono (cmp_c bA bc (mg b) aA ac (mg a) _ hb ha (by omega) (by omega)) ?_)
      rintro e W2 ⟨rfl, hb2⟩
      replace ha := ha.below hb2
      replace hb := hb.below hb2
      replace Ra := Ra.below hb2
      replace qa0 := cbl hb2 qa0
      replace qa1 := cbl hb2 qa1
      replace Rb := Rb.below hb2
      replace qb0 := cbl hb2 qb0
      replace qb1 := cbl hb2 qb1
      replace HBT := Below.cons HBT hb2
      clear hb2
      go_wp2_with (fail)
      go_ret
      exact ⟨rfl, HBT⟩
    · have ta : sg a = true := sg_t h1
      have tb : sg b = false := sg_f (by omega)
      rw [show icmp a b = -1 by unfold icmp; rw [if_pos (by omega)]]
      obtain ⟨hb1, Ra, Rb⟩ := bx2 w #[.bool true, .slice aA (nl (mg a)) ac] 24 #[.bool false, .slice bA (nl (mg b)) bc] 24
      replace ha := ha.below hb1
      replace hb := hb.below hb1
      have HBT := hb1
      clear hb1
      have qa0 := Ra.c (i := 0) rfl
      have qa1 := Ra.c (i := 1) rfl
      have qb0 := Rb.c (i := 0) rfl
      have qb1 := Rb.c (i := 1) rfl
      replace h1 := Lib.hid h1
      replace h2 := Lib.hid h2
      go_enter Tryz.func87, Tryz.ntmps87
      go_wp2_with (fail)
      go_ret
      exact ⟨rfl, HBT⟩
  · by_cases h2 : b < 0
    · have ta : sg a = false := sg_f (by omega)
      have tb : sg b = true := sg_t h2
      rw [show icmp a b = 1 by unfold icmp; rw [if_neg (by omega), if_pos (by omega)]]
      obtain ⟨hb1, Ra, Rb⟩ := bx2 w #[.bool false, .slice aA (nl (mg a)) ac] 24 #[.bool true, .slice bA (nl (mg b)) bc] 24
      replace ha := ha.below hb1
      replace hb := hb.below hb1
      have HBT := hb1
      clear hb1
      have qa0 := Ra.c (i := 0) rfl
      have qa1 := Ra.c (i := 1) rfl
      have qb0 := Rb.c (i := 0) rfl
      have qb1 := Rb.c (i := 1) rfl
      replace h1 := Lib.hid h1
      replace h2 := Lib.hid h2
      go_enter Tryz.func87, Tryz.ntmps87
      go_wp2_with (fail)
      go_ret
      exact ⟨rfl, HBT⟩
    · have ta : sg a = false := sg_f (by omega)
      have tb : sg b = false := sg_f (by omega)
      rw [icmp_nn (by omega) (by omega)]
      obtain ⟨hb1, Ra, Rb⟩ := bx2 w #[.bool false, .slice aA (nl (mg a)) ac] 24 #[.bool false, .slice bA (nl (mg b)) bc] 24
      replace ha := ha.below hb1
      replace hb := hb.below hb1
      have HBT := hb1
      clear hb1
      have qa0 := Ra.c (i := 0) rfl
      have qa1 := Ra.c (i := 1) rfl
      have qb0 := Rb.c (i := 0) rfl
      have qb1 := Rb.c (i := 1) rfl
      replace h1 := Lib.hid h1
      replace h2 := Lib.hid h2
      go_enter Tryz.func87, Tryz.ntmps87
      go_wp2_with (fail)
      refine (Calls.mono (cmp_c aA ac (mg a) bA bc (mg b) _ ha hb (by omega) (by omega)) ?_)
      rintro e W2 ⟨rfl, hb2⟩
      replace ha := ha.below hb2
      replace hb := hb.below hb2
      replace Ra := Ra.below hb2
      replace qa0 := cbl hb2 qa0
      replace qa1 := cbl hb2 qa1
      replace Rb := Rb.below hb2
      replace qb0 := cbl hb2 qb0
      replace qb1 := cbl hb2 qb1
      replace HBT := Below.cons HBT hb2
      clear hb2
      go_wp2_with (fail)
      go_ret
      exact ⟨rfl, HBT⟩
end Go.Proofs.YtacjfpibilolnaaGreatDoor
