/- Division by school, walked: a digit guessed. -/
import Derived.Test.YtacjfpibilolnaaGreatDoorSB11
import Derived.Test.YtacjfpibilolnaaGreatDoorSB06
import Derived.WalkMore
import Derived.Test.YtacjfpibilolnaaGreatDoorSB03
import Derived.Test.YtacjfpibilolnaaGreatDoorSB07
set_option maxRecDepth 100000
set_option maxHeartbeats 4000000
set_option linter.unusedVariables false
set_option linter.unusedSimpArgs false
namespace Go.Proofs.YtacjfpibilolnaaGreatDoor
open Go.RowKit Go.Shelf
attribute [local go_sem] max2_i min2_i max_two min_two

theorem guess_c (x2 x1 x0 y1 y0 : Nat) (w : World) (h2 : x2 < 4294967296) (h1 : x1 < 4294967296) (h0 : x0 < 4294967296) (g1 : y1 < 4294967296) (g0 : y0 < 4294967296) (hy : 0 < y1) (hxy : x2 ≤ y1) :
    Calls Tryz.prog 143 #[.int .u32 x2, .int .u32 x1, .int .u32 x0, .int .u32 y1, .int .u32 y0] w fun e w' => e = .returned (.int .u64 (dig3 x2 x1 x0 y1 y0 : Nat)) ∧ Below w.heap.size w w' := by
  obtain ⟨t, ht⟩ : ∃ t, t = x2 * 4294967296 + x1 := ⟨_, rfl⟩
  have hor := or64 x2 x1 h2 h1
  rw [← ht] at hor
  have htl : t < 18446744073709551616 := by omega
  have h2I : (x2 : Int) < 4294967296 := by omega
  have h2J : (0 : Int) ≤ (x2 : Int) := by omega
  obtain ⟨q0, hq0⟩ : ∃ z, z = t / y1 := ⟨_, rfl⟩
  obtain ⟨r0, hr0⟩ : ∃ z, z = t % y1 := ⟨_, rfl⟩
  have hq0I : (t : Int) / (y1 : Int) = (q0 : Int) := by rw [hq0]; exact (Int.natCast_ediv t y1).symm
  have hr0I : (t : Int) % (y1 : Int) = (r0 : Int) := by rw [hr0]; exact (Int.natCast_emod t y1).symm
  have hq0T : (t : Int).tdiv (y1 : Int) = (q0 : Int) := by rw [Int.tdiv_eq_ediv_of_nonneg (by omega)]; exact hq0I
  have hr0T : (t : Int).tmod (y1 : Int) = (r0 : Int) := by rw [Int.tmod_eq_emod_of_nonneg (by omega)]; exact hr0I
  have hq0l : q0 < 18446744073709551616 := by rw [hq0]; exact Nat.lt_of_le_of_lt (Nat.div_le_self _ _) htl
  have hr0l : r0 < 4294967296 := by rw [hr0]; exact Nat.lt_trans (Nat.mod_lt _ hy) g1
  have hq0W : IntKind.u64.wrap (q0 : Int) = (q0 : Int) := IntWalk.u64_in _ (by omega)
  have hr0W : IntKind.u64.wrap (r0 : Int) = (r0 : Int) := IntWalk.u64_in _ (by omega)
  have htW : IntKind.u64.wrap (t : Int) = (t : Int) := IntWalk.u64_in _ (by omega)
  have hyW : IntKind.u64.wrap (y1 : Int) = (y1 : Int) := IntWalk.u64_in _ (by omega)
  have hz : ((y1 : Int) == 0) = false := ieqF (by omega)
  have hz2 : ¬ (y1 : Int) = 0 := by omega
  have hz3 : ¬ y1 = 0 := by omega
  obtain ⟨D, hD⟩ : ∃ D, D = dig3 x2 x1 x0 y1 y0 := ⟨_, rfl⟩
  have hstart : D ≤ q0 := by rw [hD, hq0, ht]; exact dig3_start hy h0
  have hinv : q0 * y1 + r0 = x2 * 4294967296 + x1 := by rw [hq0, hr0, ← ht, Nat.mul_comm]; exact Nat.div_add_mod t y1
  have hstep : ∀ q r, q * y1 + r = x2 * 4294967296 + x1 → D ≤ q → (4294967296 ≤ q ∨ r * 4294967296 + x0 < q * y0) → 1 ≤ q ∧ D ≤ q - 1 ∧ (q - 1) * y1 + (r + y1) = x2 * 4294967296 + x1 := fun q r a b c => by rw [hD] at b ⊢; exact dig3_step a b c hy
  have hdone : ∀ q r, q * y1 + r = x2 * 4294967296 + x1 → D ≤ q → q < 4294967296 → q * y0 ≤ r * 4294967296 + x0 → q = D := fun q r a b c d => by rw [hD] at b ⊢; exact dig3_done a b c d hy
  have hbrk : ∀ q r, q * y1 + r = x2 * 4294967296 + x1 → D ≤ q → 4294967296 ≤ r → q = D := fun q r a b c => by rw [hD] at b ⊢; exact dig3_brk a b c hxy h1 g0 hy
  rw [← hD]
  replace hstep := Lib.hid hstep
  replace hdone := Lib.hid hdone
  replace hbrk := Lib.hid hbrk
  replace hinv := Lib.hid hinv
  replace hstart := Lib.hid hstart
  replace hD := Lib.hid hD
  replace ht := Lib.hid ht
  replace hq0 := Lib.hid hq0
  replace hr0 := Lib.hid hr0
  go_enter Tryz.func143, Tryz.ntmps143
  go_wp2_with (fail)
  go_step3
  go_wp2_with (fail)
  go_quiet (fail)
  clear hq0I hr0I hq0T hr0T hq0W hr0W htW hyW hz hz2 hz3 hor
  go_wp2_with (fail)
  go_step3
  go_wp2_with (fail)
  go_loopw [12, 13] (fun vq vr wr => ∃ q r : Nat, vq = .int .u64 q ∧ vr = .int .u64 r ∧ r < 4294967296 ∧ q < 18446744073709551616 ∧ Hid (q * y1 + r = x2 * 4294967296 + x1) ∧ Hid (D ≤ q) ∧ Below w.heap.size w wr) (fun vq vr wr => (intOf vq).toNat)
  case atStart => exact ⟨q0, r0, rfl, rfl, hr0l, hq0l, hinv, hstart, (Below.refl _ _).drewN _⟩
  case round =>
    obtain ⟨q, r, rfl, rfl, hrl, hql, hi, hd, hbr⟩ := hrel
    obtain ⟨p, hp⟩ : ∃ p, p = q * y0 := ⟨_, rfl⟩
    have hpI : (q : Int) * (y0 : Int) = (p : Int) := by rw [hp]; exact (Int.natCast_mul q y0).symm
    have hor := or64 r x0 hrl h0
    obtain ⟨u, hu⟩ : ∃ u, u = r * 4294967296 + x0 := ⟨_, rfl⟩
    rw [← hu] at hor
    have hul : u < 18446744073709551616 := by omega
    obtain ⟨r', hr'⟩ : ∃ z, z = r + y1 := ⟨_, rfl⟩
    have hrI : (r : Int) + (y1 : Int) = (r' : Int) := by omega
    have hrl' : r' < 8589934592 := by omega
    have hrJ : (r : Int) < 4294967296 := by omega
    have hrS : IntKind.u64.wrap ((r : Int) * 4294967296) = (r : Int) * 4294967296 := IntWalk.u64_in _ (by omega)
    have hrK : (r : Int) ≤ 4294967295 := by omega
    by_cases hc : 4294967296 ≤ q ∨ u < p
    · obtain ⟨e1, e2, e3⟩ := hstep.out q r hi.out hd.out (by rw [← hu, ← hp]; exact hc)
      obtain ⟨q', hq'⟩ : ∃ z, z = q - 1 := ⟨_, rfl⟩
      have hqI : (q : Int) - 1 = (q' : Int) := by omega
      have hql' : q' < 18446744073709551616 := by omega
      have hqq : q' < q := by omega
      rw [← hq', ← hr'] at e3
      rw [← hq'] at e2
      have hb := hbrk.out q' r' e3 e2
      have qW : IntKind.u64.wrap (q' : Int) = (q' : Int) := IntWalk.u64_in _ (by omega)
      replace hql' := Lib.hid hql'
      replace hql := Lib.hid hql
      replace hul := Lib.hid hul
      replace hq0l := Lib.hid hq0l
      replace htl := Lib.hid htl
      replace e2 := Lib.hid e2
      replace e3 := Lib.hid e3
      replace hb := Lib.hid hb
      replace hu := Lib.hid hu
      replace hq' := Lib.hid hq'
      replace hr' := Lib.hid hr'
      by_cases hq4 : 4294967296 ≤ q
      · have d1 : decide ((4294967296 : Int) ≤ (q : Int)) = true := by simp; omega
        clear hpI hc
        replace hp := Lib.hid hp
        replace hq4 := Lib.hid hq4
        by_cases hr4 : 4294967296 ≤ r'
        · have d3 : decide ((4294967296 : Int) ≤ (r' : Int)) = true := by simp; omega
          replace hr4 := Lib.hid hr4
          go_wp2_with (fail)
          (try rw [Exit.noGoto_ret])
          go_ret
          exact ⟨by rw [hb.out hr4.out]; rfl, hbr⟩
        · have d3 : decide ((4294967296 : Int) ≤ (r' : Int)) = false := by simp; omega
          replace hr4 := Lib.hid hr4
          go_wp2_with (fail)
          go_roundw
          case rel => exact ⟨q', r', by first | rfl | trivial, by first | rfl | trivial, by have := hr4.out; omega, hql'.out, e3, e2, hbr⟩
          case measure => simp only [intOf]; omega
      · have hup : u < p := by omega
        have d1 : decide ((4294967296 : Int) ≤ (q : Int)) = false := by simp; omega
        have d2 : decide ((u : Int) < (p : Int)) = true := by simp; omega
        have d2n : decide (u < p) = true := by simp; omega
        have hpl : p ≤ 18446744065119617025 := by rw [hp]; exact mul_bd (by omega) g0
        have pM : IntKind.u64.wrap ((q : Int) * (y0 : Int)) = (p : Int) := by rw [hpI]; exact IntWalk.u64_in _ (by omega)
        have pW : IntKind.u64.wrap (p : Int) = (p : Int) := IntWalk.u64_in _ (by omega)
        clear hc
        have hpJ : (p : Int) ≤ 18446744073709551615 := by omega
        replace hpl := Lib.hid hpl
        replace hp := Lib.hid hp
        replace hup := Lib.hid hup
        replace hq4 := Lib.hid hq4
        by_cases hr4 : 4294967296 ≤ r'
        · have d3 : decide ((4294967296 : Int) ≤ (r' : Int)) = true := by simp; omega
          replace hr4 := Lib.hid hr4
          go_wp2_with (fail)
          (try rw [Exit.noGoto_ret])
          go_ret
          exact ⟨by rw [hb.out hr4.out]; rfl, hbr⟩
        · have d3 : decide ((4294967296 : Int) ≤ (r' : Int)) = false := by simp; omega
          replace hr4 := Lib.hid hr4
          go_wp2_with (fail)
          go_roundw
          case rel => exact ⟨q', r', by first | rfl | trivial, by first | rfl | trivial, by have := hr4.out; omega, hql'.out, e3, e2, hbr⟩
          case measure => simp only [intOf]; omega
    · have hq4 : q < 4294967296 := by omega
      have hup : ¬ u < p := by omega
      have hpl : p ≤ 18446744065119617025 := by rw [hp]; exact mul_bd hq4 g0
      have hfin := hdone.out q r hi.out hd.out hq4 (by rw [← hu, ← hp]; omega)
      have pM : IntKind.u64.wrap ((q : Int) * (y0 : Int)) = (p : Int) := by rw [hpI]; exact IntWalk.u64_in _ (by omega)
      have pW : IntKind.u64.wrap (p : Int) = (p : Int) := IntWalk.u64_in _ (by omega)
      have d1 : decide ((4294967296 : Int) ≤ (q : Int)) = false := by simp; omega
      have d2 : decide ((u : Int) < (p : Int)) = false := by simp; omega
      have d2n : decide (u < p) = false := by simp; omega
      clear hc
      replace hq4 := Lib.hid hq4
      replace hup := Lib.hid hup
      have hpJ : (p : Int) ≤ 18446744073709551615 := by omega
      replace hpl := Lib.hid hpl
      replace hql := Lib.hid hql
      replace hul := Lib.hid hul
      replace hq0l := Lib.hid hq0l
      replace htl := Lib.hid htl
      replace hfin := Lib.hid hfin
      replace hp := Lib.hid hp
      replace hu := Lib.hid hu
      clear hrI
      replace hr' := Lib.hid hr'
      go_wp2_with (fail)
      (try rw [Exit.noGoto_ret])
      go_ret
      exact ⟨by rw [hfin.out]; rfl, hbr⟩
end Go.Proofs.YtacjfpibilolnaaGreatDoor

/- Limbs from the last to the first: slices.Backward as a range-over-func; a division of two words by one. -/
set_option linter.unusedVariables false
set_option linter.unusedSimpArgs false
namespace Go.Proofs.YtacjfpibilolnaaGreatDoor
open Go.RowKit Go.Shelf

attribute [local go_sem] Oper.semAt_some

/-- So many places, from the last one down. -/
def upto (n : Nat) : Nat → List {x : Nat // x < n}
  | 0 => []
  | d + 1 => upto n d ++ (if h : n - 1 - d < n then [⟨n - 1 - d, h⟩] else [])
theorem upto_step {n k : Nat} (h : k < n) : upto n (n - (k + 1)) ++ [⟨k, h⟩] = upto n (n - k) := by
  obtain ⟨d, hd⟩ : ∃ d, d = n - (k + 1) := ⟨_, rfl⟩
  rw [show n - k = d + 1 by omega, ← hd]
  have e : n - 1 - d = k := by omega
  subst e
  rw [upto, dif_pos (by omega)]
theorem upto_len {n d : Nat} (h : d ≤ n) : (upto n d).length = d := by
  induction d with
  | zero => rfl
  | succ d ih => rw [upto, dif_pos (by omega), List.length_append, ih (by omega)]; rfl
theorem backward_c (A : Option Addr) (n c : Nat) (w : World) :
    Calls Tryz.prog 156 #[.slice A n c] w fun e w' =>
      e = .returned (.func (.func 167) #[] #[.pointer (some ⟨w.heap.size, 0, none⟩)]) ∧ w' = w.alloc (.cells #[.slice A n c] 22) := by
  go_enter Tryz.func156, Tryz.ntmps156
  go_wp2_with (fail)
  go_ret
  exact ⟨rfl, rfl⟩
theorem backward1_in (l Ba : Nat) (S : Nat → Prop) (A : Option Addr) (na ca : Nat) (a : List Nat)
    (hna : a.length = na) (hla : na ≤ 1099511627776)
    (hSa : S Ba) (hSA : ∀ ad i, A = some ad → i < a.length → S (ad.add i).block)
    (J Jx : List {x : Nat // x < na} → World → Prop) (hJd : ∀ pre W, J pre W → J pre W.drew)
    (hY : ∀ pre x W, J pre W → pre.length < na → YieldAt Fence.wide 2 Tryz.prog l #[.int .i64 (x.1 : Nat), .int .u32 (gl a x.1 : Nat)] W fun e W' =>
      (e = .returned (.bool true) ∧ J (pre ++ [x]) W' ∧ KeepC S W W') ∨ (e = .returned (.bool false) ∧ Jx (pre ++ [x]) W'))
    (W : World) (h1 : W.cell? ⟨Ba, 0, none⟩ = some (.slice A na ca)) (hA : Rd W A a) (h0 : J [] W) :
    CallsIn Fence.wide 3 Tryz.prog 167 #[.func (.yield l) #[] #[], .pointer (some ⟨Ba, 0, none⟩)] W fun e W' =>
      (∃ v, e = .returned v) ∧ ((∃ xs, xs = upto na na ∧ J xs W') ∨ (∃ pre, pre.length ≤ na ∧ Jx pre W')) := by
  refine callsIn_of_wp Tryz.func167 rfl trivial ?_ rfl
  simp only [Tryz.ntmps167, List.size_toArray, List.length_cons, List.length_nil, Nat.reduceAdd, Nat.reduceSub, Array.replicate_succ, Array.replicate_zero, List.push_toArray, List.append_toArray, List.nil_append, List.cons_append]
  have HY := Lib.hid hY
  clear hY
  gi_wp2_with (fail)
  gi_loopw [3] (fun i wr => ∃ k : Nat, i = .int .i64 ((k : Int) - 1) ∧ k ≤ na ∧ J (upto na (na - k)) wr ∧ KeepC S W wr) (fun i wr => (intOf i + 1).toNat)
  case atStart => exact ⟨na, rfl, Nat.le_refl _, by rw [Nat.sub_self]; exact h0, fun p v _ h => h⟩
  case round =>
    obtain ⟨k, rfl, hk, hJ, hK⟩ := hrel
    cases k with
    | zero =>
      gi_wp2_with (fail)
      refine bodyPost_end (results_none rfl _ _ _) rfl ?_
      exact ⟨⟨_, rfl⟩, .inl ⟨_, rfl, hJ⟩⟩
    | succ k =>
      rw [show (((k + 1 : Nat) : Int) - 1) = (k : Int) by omega]
      have hkna : k < na := by omega
      have g1 := hK _ _ hSa h1
      have HA : Rd wr A a := hK.rd hSA hA
      obtain ⟨ad, rfl, hc⟩ := HA.get k (by omega)
      obtain ⟨fn, tmps, assign, body, hy, hR⟩ := HY.out _ (⟨k, hkna⟩ : {x : Nat // x < na}) wr hJ (by rw [upto_len (by omega)]; omega)
      have HR := Lib.hid (hR.mono (R' := fun e W' => ∃ b, e = .returned (.bool b) ∧ Hid ((b = true ∧ J (upto na (na - (k + 1)) ++ [(⟨k, hkna⟩ : {x : Nat // x < na})]) W' ∧ KeepC S wr W') ∨ (b = false ∧ Jx (upto na (na - (k + 1)) ++ [(⟨k, hkna⟩ : {x : Nat // x < na})]) W'))) (by
        rintro e W' (⟨rfl, h⟩ | ⟨rfl, h⟩)
        · exact ⟨true, rfl, Lib.hid (.inl ⟨rfl, h⟩)⟩
        · exact ⟨false, rfl, Lib.hid (.inr ⟨rfl, h⟩)⟩))
      have HK := Lib.hid hK
      have hlen : (upto na (na - (k + 1)) ++ [(⟨k, hkna⟩ : {x : Nat // x < na})]).length ≤ na := by rw [upto_step hkna, upto_len (by omega)]; omega
      clear hA hK hR hSA hJ hJd HA
      gi_wp2_with (first | (refine (Hid.out HR).mono ?_; rintro e W' ⟨y, rfl, hy⟩))
      · cases y with
        | true => exact absurd ‹(!true) = true› (by decide)
        | false =>
          obtain ⟨h, _⟩ | ⟨_, hx⟩ := hy.out
          · cases h
          · refine bodyPost_ret (results_none rfl _ _ _) rfl ?_
            exact ⟨⟨_, rfl⟩, .inr ⟨_, hlen, hx⟩⟩
      · cases y with
        | true =>
          obtain ⟨_, hJ2, hK2⟩ | ⟨h, _⟩ := hy.out
          · go_roundw
            case rel => exact ⟨k, rfl, by omega, by rw [← upto_step hkna]; exact hJ2, HK.out.t hK2⟩
            case measure => simp only [intOf]; omega
          · cases h
        | false => first | exact absurd ‹(!false) = false› (by decide) | simp_all
theorem backward_stops (Ba : Nat) (S : Nat → Prop) (A : Option Addr) (na ca : Nat) (a : List Nat) (w : World)
    (hna : a.length = na) (hla : na ≤ 1099511627776) (hSa : S Ba) (hSA : ∀ ad i, A = some ad → i < a.length → S (ad.add i).block)
    (h1 : w.cell? ⟨Ba, 0, none⟩ = some (.slice A na ca)) (hA : Rd w A a) :
    SeqStopsK Fence.wide 3 Tryz.prog 167 #[.pointer (some ⟨Ba, 0, none⟩)]
      (fun x : {x : Nat // x < na} => #[.int .i64 (x.1 : Nat), .int .u32 (gl a x.1 : Nat)]) (KeepC S) (fun xs => xs = upto na na) (fun pre => pre.length ≤ na) na w := fun l J Jx W hW hJ _ hY h0 =>
  backward1_in l Ba S A na ca a hna hla hSa hSA J Jx (fun pre W h => hJ pre W W.drew none h ⟨rfl, rfl, rfl, Nat.le_refl _, fun _ _ _ => rfl⟩ (fun r e => by cases e))
    hY W (cell_below hW h1) (hA.below hW) h0
theorem div32_c (h x m : Nat) (w : World) (hh : h < m) (hx : x < 4294967296) (hm : m < 4294967296) :
    Calls Tryz.prog 157 #[.int .u32 h, .int .u32 x, .int .u32 m] w fun e w' =>
      e = .returned (.tuple #[.int .u32 (((h * 4294967296 + x) / m : Nat) : Int), .int .u32 (((h * 4294967296 + x) % m : Nat) : Int)]) ∧ ∃ k, w' = w.drewN k := by
  obtain ⟨t, ht⟩ : ∃ t, t = h * 4294967296 + x := ⟨_, rfl⟩
  have hor := or64 h x (by omega) hx
  rw [← ht] at hor ⊢
  have htl : t < 18446744073709551616 := by omega
  obtain ⟨q, hq⟩ : ∃ q, q = t / m := ⟨_, rfl⟩
  obtain ⟨r, hr⟩ : ∃ r, r = t % m := ⟨_, rfl⟩
  rw [← hq, ← hr]
  have hqI : (t : Int) / (m : Int) = (q : Int) := by rw [hq]; exact (Int.natCast_ediv t m).symm
  have hrI : (t : Int) % (m : Int) = (r : Int) := by rw [hr]; exact (Int.natCast_emod t m).symm
  have hrl : r < 4294967296 := by rw [hr]; exact Nat.lt_trans (Nat.mod_lt _ (by omega)) hm
  have hql : q < 4294967296 := by
    rw [hq, Nat.div_lt_iff_lt_mul (by omega), ht]
    have h1 : (h + 1) * 4294967296 ≤ m * 4294967296 := Nat.mul_le_mul_right _ (by omega)
    rw [Nat.mul_comm 4294967296 m]
    omega
  have hm0 : ¬ (m : Int) = 0 := by omega
  have hm0N : ¬ m = 0 := by omega
  have hmb : ((m : Int) == 0) = false := ieqF (by omega)
  have hmh : decide (m ≤ h) = false := by simp; omega
  have hmh2 : ¬ m ≤ h := by omega
  replace ht := Lib.hid ht
  replace hq := Lib.hid hq
  replace hr := Lib.hid hr
  go_enter Tryz.func157, Tryz.ntmps157
  go_wp2_with (fail)
  go_quiet (fail)
  go_wp2_with (fail)
  exact bodyPost_ret (v := .tuple #[.int .u32 (q : Nat), .int .u32 (r : Nat)]) (by simp [results, Tryz.results157, go_sem]) rfl ⟨rfl, _, rfl⟩
end Go.Proofs.YtacjfpibilolnaaGreatDoor
