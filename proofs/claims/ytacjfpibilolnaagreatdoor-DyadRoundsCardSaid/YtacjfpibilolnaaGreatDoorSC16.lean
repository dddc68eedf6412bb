/- Limbs from the last to the first: slices.Backward as a range-over-func; a division of two words by one. -/
import Derived.Test.YtacjfpibilolnaaGreatDoorSC04
import Derived.Test.YtacjfpibilolnaaGreatDoorSC09
import Derived.Test.YtacjfpibilolnaaGreatDoorSC15
set_option maxRecDepth 100000
set_option maxHeartbeats 4000000
set_option linter.unusedVariables false
set_option linter.unusedSimpArgs false
namespace Go.Proofs.YtacjfpibilolnaaGreatDoor
open Go.RowKit Go.Shelf

attribute [local go_sem] Oper.semAt_some

/-- So many places, from the last one down. -/
def upto (n : Nat) : Nat → List {x : Nat // x < n}
  | 0 => []
  | d + 1 => upto n d ++ (if h : n - 1 - d < n then [⟨n - 1 - d, h⟩] else [])
theorem upto_step {n k : Nat} (h : k < n) : upto n (n - (k + 1)) ++ [⟨k, h⟩] = upto n (n - k) := by
  obtain ⟨d, hd⟩ : ∃ d, d = n - (k + 1) := ⟨_, rfl⟩
  rw [show n - k = d + 1 by omega, ← hd]
  have e : n - 1 - d = k := by omega
  subst e
  rw [upto, dif_pos (by omega)]
theorem upto_len {n d : Nat} (h : d ≤ n) : (upto n d).length = d := by
  induction d with
  | zero => rfl
  | succ d ih => rw [upto, dif_pos (by omega), List.length_append, ih (by omega)]; rfl
theorem backward_c (A : Option Addr) (n c : Nat) (w : World) :
    Calls Tryz.prog 156 #[.slice A n c] w fun e w' =>
      e = .returned (.func (.func 167) #[] #[.pointer (some ⟨w.heap.size, 0, none⟩)]) ∧ w' = w.alloc (.cells #[.slice A n c] 22) := by
  go_enter Tryz.func156, Tryz.ntmps156
  go_wp2_with (fail)
  go_ret
  exact ⟨rfl, rfl⟩
theorem backward1_in (l Ba : Nat) (S : Nat → Prop) (A : Option Addr) (na ca : Nat) (a : List Nat)
    (hna : a.length = na) (hla : na ≤ 1099511627776)
    (hSa : S Ba) (hSA : ∀ ad i, A = some ad → i < a.length → S (ad.add i).block)
    (J Jx : List {x : Nat // x < na} → World → Prop) (hJd : ∀ pre W, J pre W → J pre W.drew)
    (hY : ∀ pre x W, J pre W → pre.length < na → YieldAt Fence.wide 2 Tryz.prog l #[.int .i64 (x.1 : Nat), .int .u32 (gl a x.1 : Nat)] W fun e W' =>
      (e = .returned (.bool true) ∧ J (pre ++ [x]) W' ∧ KeepC S W W') ∨ (e = .returned (.bool false) ∧ Jx (pre ++ [x]) W'))
    (W : World) (h1 : W.cell? ⟨Ba, 0, none⟩ = some (.slice A na ca)) (hA : Rd W A a) (h0 : J [] W) :
    CallsIn Fence.wide 3 Tryz.prog 167 #[.func (.yield l) #[] #[], .pointer (some ⟨Ba, 0, none⟩)] W fun e W' =>
      (∃ v, e = .returned v) ∧ ((∃ xs, xs = upto na na ∧ J xs W') ∨ (∃ pre, pre.length ≤ na ∧ Jx pre W')) := by
  refine callsIn_of_wp Tryz.func167 rfl trivial ?_ rfl
  simp only [Tryz.ntmps167, List.size_toArray, List.length_cons, List.length_nil, Nat.reduceAdd, Nat.reduceSub, Array.replicate_succ, Array.replicate_zero, List.push_toArray, List.append_toArray, List.nil_append, List.cons_append]
  have HY := Lib.hid hY
  clear hY
  gi_wp2_with (fail)
  gi_loopw [3] (fun i wr => ∃ k : Nat, i = .int .i64 ((k : Int) - 1) ∧ k ≤ na ∧ J (upto na (na - k)) wr ∧ KeepC S W wr) (fun i wr => (intOf i + 1).toNat)
  case atStart => exact ⟨na, rfl, Nat.le_refl _, by rw [Nat.sub_self]; exact h0, fun p v _ h => h⟩
  case round =>
    obtain ⟨k, rfl, hk, hJ, hK⟩ := hrel
    cases k with
    | zero =>
      gi_wp2_with (fail)
      refine bodyPost_end (results_none rfl _ _ _) rfl ?_
      exact ⟨⟨_, rfl⟩, .inl ⟨_, rfl, hJ⟩⟩
    | succ k =>
      rw [show (((k + 1 : Nat) : Int) - 1) = (k : Int) by omega]
      have hkna : k < na := by omega
      have g1 := hK _ _ hSa h1
      have HA : Rd wr A a := hK.rd hSA hA
      obtain ⟨ad, rfl, hc⟩ := HA.get k (by omega)
      obtain ⟨fn, tmps, assign, body, hy, hR⟩ := HY.out _ (⟨k, hkna⟩ : {x : Nat // x < na}) wr hJ (by rw [upto_len (by omega)]; omega)
      have HR := Lib.hid (hR.mono (R' := fun e W' => ∃ b, e = .returned (.bool b) ∧ Hid ((b = true ∧ J (upto na (na - (k + 1)) ++ [(⟨k, hkna⟩ : {x : Nat // x < na})]) W' ∧ KeepC S wr W') ∨ (b = false ∧ Jx (upto na (na - (k + 1)) ++ [(⟨k, hkna⟩ : {x : Nat // x < na})]) W'))) (by
        rintro e W' (⟨rfl, h⟩ | ⟨rfl, h⟩)
        · exact ⟨true, rfl, Lib.hid (.inl ⟨rfl, h⟩)⟩
        · exact ⟨false, rfl, Lib.hid (.inr ⟨rfl, h⟩)⟩))
      have HK := Lib.hid hK
      have hlen : (upto na (na - (k + 1)) ++ [(⟨k, hkna⟩ : {x : Nat // x < na})]).length ≤ na := by rw [upto_step hkna, upto_len (by omega)]; omega
      clear hA hK hR hSA hJ hJd HA
      gi_wp2_with (first | (refine (Hid.out HR).mono ?_; rintro e W' ⟨y, rfl, hy⟩))
      · cases y with
        | true => exact absurd ‹(!true) = true› (by decide)
        | false =>
          obtain ⟨h, _⟩ | ⟨_, hx⟩ := hy.out
          · cases h
          · refine bodyPost_ret (results_none rfl _ _ _) rfl ?_
            exact ⟨⟨_, rfl⟩, .inr ⟨_, hlen, hx⟩⟩
      · cases y with
        | true =>
          obtain ⟨_, hJ2, hK2⟩ | ⟨h, _⟩ := hy.out
          · go_roundw
            case rel => exact ⟨k, rfl, by omega, by rw [← upto_step hkna]; exact hJ2, HK.out.t hK2⟩
            case measure => simp only [intOf]; omega
          · cases h
        | false => first | exact absurd ‹(!false) = false› (by decide) | simp_all
theorem backward_stops (Ba : Nat) (S : Nat → Prop) (A : Option Addr) (na ca : Nat) (a : List Nat) (w : World)
    (hna : a.length = na) (hla : na ≤ 1099511627776) (hSa : S Ba) (hSA : ∀ ad i, A = some ad → i < a.length → S (ad.add i).block)
    (h1 : w.cell? ⟨Ba, 0, none⟩ = some (.slice A na ca)) (hA : Rd w A a) :
    SeqStopsK Fence.wide 3 Tryz.prog 167 #[.pointer (some ⟨Ba, 0, none⟩)]
      (fun x : {x : Nat // x < na} => #[.int .i64 (x.1 : Nat), .int .u32 (gl a x.1 : Nat)]) (KeepC S) (fun xs => xs = upto na na) (fun pre => pre.length ≤ na) na w := fun l J Jx W hW hJ _ hY h0 =>
  backward1_in l Ba S A na ca a hna hla hSa hSA J Jx (fun pre W h => hJ pre W W.drew none h ⟨rfl, rfl, rfl, Nat.le_refl _, fun _ _ _ => rfl⟩ (fun r e => by cases e))
    hY W (cell_below hW h1) (hA.below hW) h0
theorem div32_c (h x m : Nat) (w : World) (hh : h < m) (hx : x < 4294967296) (hm : m < 4294967296) :
    Calls Tryz.prog 157 #[.int .u32 h, .int .u32 x, .int .u32 m] w fun e w' =>
      e = .returned (.tuple #[.int .u32 (((h * 4294967296 + x) / m : Nat) : Int), .int .u32 (((h * 4294967296 + x) % m : Nat) : Int)]) ∧ ∃ k, w' = w.drewN k := by
  obtain ⟨t, ht⟩ : ∃ t, t = h * 4294967296 + x := ⟨_, rfl⟩
  have hor := or64 h x (by omega) hx
  rw [← ht] at hor ⊢
  have htl : t < 18446744073709551616 := by omega
  obtain ⟨q, hq⟩ : ∃ q, q = t / m := ⟨_, rfl⟩
  obtain ⟨r, hr⟩ : ∃ r, r = t % m := ⟨_, rfl⟩
  rw [← hq, ← hr]
  have hqI : (t : Int) / (m : Int) = (q : Int) := by rw [hq]; exact (Int.natCast_ediv t m).symm
  have hrI : (t : Int) % (m : Int) = (r : Int) := by rw [hr]; exact (Int.natCast_emod t m).symm
  have hrl : r < 4294967296 := by rw [hr]; exact Nat.lt_trans (Nat.mod_lt _ (by omega)) hm
  have hql : q < 4294967296 := by
    rw [hq, Nat.div_lt_iff_lt_mul (by omega), ht]
    have h1 : (h + 1) * 4294967296 ≤ m * 4294967296 := Nat.mul_le_mul_right _ (by omega)
    rw [Nat.mul_comm 4294967296 m]
    omega
  have hm0 : ¬ (m : Int) = 0 := by omega
  have hm0N : ¬ m = 0 := by omega
  have hmb : ((m : Int) == 0) = false := ieqF (by omega)
  have hmh : decide (m ≤ h) = false := by simp; omega
  have hmh2 : ¬ m ≤ h := by omega
  replace ht := Lib.hid ht
  replace hq := Lib.hid hq
  replace hr := Lib.hid hr
  go_enter Tryz.func157, Tryz.ntmps157
  go_wp2_with (fail)
  go_quiet (fail)
  go_wp2_with (fail)
  exact bodyPost_ret (v := .tuple #[.int .u32 (q : Nat), .int .u32 (r : Nat)]) (by simp [results, Tryz.results157, go_sem]) rfl ⟨rfl, _, rfl⟩
end Go.Proofs.YtacjfpibilolnaaGreatDoor
