/- Powers. -/
import Derived.Test.YtmcekbmmpdpbmaaDoorMulB
import Derived.Lib.RabinKarpLaws
set_option linter.unusedVariables false
set_option linter.unusedSimpArgs false
namespace Go.Proofs.YtmcekbmmpdpbmaaDoor
open Go.RowKit Go.Shelf

theorem pw2_step (o b e : Nat) (he : 0 < e) : (if e % 2 = 1 then o * b else o) * (b * b) ^ (e / 2) = o * b ^ e := by
  have h : b ^ e = b ^ (e % 2) * (b * b) ^ (e / 2) := by
    rw [← Nat.pow_two, ← Nat.pow_mul, ← Nat.pow_add]
    congr 1; omega
  split
  · rename_i h1
    rw [h, h1, Nat.pow_one, ← Nat.mul_assoc]
  · have h1 : e % 2 = 0 := by omega
    rw [h, h1, Nat.pow_zero, Nat.one_mul]
theorem bound_step (x k : Nat) : 2 * x * (k / 2) + (k % 2) * x ≤ x * k := by
  have h := Nat.div_add_mod k 2
  have e : x * k = x * (2 * (k / 2)) + x * (k % 2) := by rw [← Nat.mul_add, h]
  rw [e, Nat.mul_comm (k % 2) x, Nat.mul_comm 2 x, Nat.mul_assoc]
  exact Nat.le_refl _
theorem nat_one (W : World) (s : Nat) (h : W.heap[s]? = some (.cells #[.int .u32 1] 35 (0, 0))) : NatV W (some ⟨s, 0, none⟩) 1 1 := by
  have e : limbs 1 = [1] := by rw [limbs_pos (by decide)]; simp [limbs_zero]
  refine ⟨?_, by rw [nl_one]; exact Nat.le_refl _, by decide⟩
  rw [e]
  refine .inr ⟨_, rfl, fun i u hu => ?_⟩
  rcases i with _ | i
  · unfold World.cell?
    rw [show (Addr.add ⟨s, 0, none⟩ 0) = ⟨s, 0, none⟩ from rfl, h]
    simpa [vals] using hu
  · simp [vals] at hu

set_option maxHeartbeats 2000000 in
theorem pow_c (A : Option Addr) (c a n : Nat) (w : World) (hA : NatV w A c a) (hG : Flds w) (hb : nl a * n ≤ 16000) (ha : nl a ≤ 16000) (hn : n ≤ 1073741824) :
    Calls Tryd.prog 22 #[.slice A (nl a) c, .int .i64 (n : Nat)] w (RetN w (a ^ n)) := by
  have hb0 : Below w.heap.size w (w.alloc (.cells #[.int .u32 1] 35)) := (Below.refl _ _).alloc (Nat.le_refl _) _
  have h1 := nat_one _ _ (heap_alloc_new w (.cells #[.int .u32 1] 35))
  have HB := Lib.hid hb
  clear hb
  go_enter Tryd.func22, Tryd.ntmps22
  go_wp2_with (fail)
  go_loopw [0, 1, 5] (fun va vn vo wr => ∃ (x k o : Nat) (X : Option Addr) (cx : Nat) (O : Option Addr) (co : Nat), va = .slice X (nl x) cx ∧ vn = .int .i64 k ∧ vo = .slice O (nl o) co ∧ k ≤ n ∧ NatV wr X cx x ∧ NatV wr O co o ∧ Below w.heap.size w wr ∧ Hid (o * x ^ k = a ^ n) ∧ Hid (nl x * k + nl o ≤ 16001) ∧ nl o ≤ 16001 ∧ nl x ≤ 16001) (fun va vn vo wr => (intOf vn).toNat)
  case atStart => exact ⟨a, n, 1, A, c, _, 1, rfl, rfl, by rw [nl_one], Nat.le_refl _, hA.below hb0, h1, hb0, Lib.hid (by rw [Nat.one_mul]), Lib.hid (by rw [nl_one]; have := HB.out; omega), by rw [nl_one]; omega, by omega⟩
  case round =>
    obtain ⟨x, k, o, X, cx, O, co, rfl, rfl, rfl, hk, hX, hO, hbr, heq, hbd, ho, hx⟩ := hrel
    by_cases hk0 : 0 < k
    · have hG1 := hG.below hbr
      have hst := pw2_step o x k hk0
      have hbs := bound_step (nl x) k
      have hbd' := hbd.out
      have hxk : nl x ≤ nl x * k := Nat.le_mul_of_pos_right _ hk0
      by_cases hodd : k % 2 = 1
      · have hand : bits .and .i64 (k : Int) 1 = 1 := by rw [Go.Proofs.and_one k (by omega)]; omega
        rw [if_pos hodd] at hst
        rw [hodd, Nat.one_mul] at hbs
        have hno := nl_mul o x
        have hoB : nl (o * x) ≤ 16001 := by omega
        replace hst := Lib.hid hst
        have CM := mul_c O co o X cx x wr hO hX hG1 (by omega) (by omega)
        replace CM := Lib.hid CM
        by_cases hk1 : 1 < k
        · have h2 : decide ((1 : Int) < (k : Int)) = true := by simp; omega
          have hxx := nl_mul x x
          have hx2 : 2 * nl x ≤ 2 * nl x * (k / 2) := Nat.le_mul_of_pos_right _ (by omega)
          have hmm : nl (x * x) * (k / 2) ≤ 2 * nl x * (k / 2) := Nat.mul_le_mul_right _ (by omega)
          have hbN : nl (x * x) * (k / 2) + nl (o * x) ≤ 16001 := by omega
          have hxxb : nl (x * x) ≤ 16001 := by have := Nat.le_mul_of_pos_right (nl (x * x)) (show 0 < k / 2 by omega); omega
          replace hbN := Lib.hid hbN
          clear hbs hbd' hxk hmm
          go_wp2_with (fail)
          refine CM.out.mono ?_
          rintro e w1 ⟨Y, cy, rfl, hY, hb1⟩
          go_wp2_with (fail)
          refine (mul_c X cx x X cx x w1 (hX.below hb1) (hX.below hb1) (hG1.below hb1) (by omega) (by omega)).mono ?_
          rintro e w2 ⟨Z, cz, rfl, hZ, hb2⟩
          go_wp2_with (fail)
          go_roundw
          case rel => exact ⟨x * x, k / 2, o * x, Z, cz, Y, cy, rfl, by congr 1, rfl, by omega, hZ, hY.below hb2, (hbr.cons hb1).cons hb2, Lib.hid (by rw [hst.out, heq.out]), hbN, hoB, hxxb⟩
          case measure => simp only [intOf]; omega
        · have h2 : decide ((1 : Int) < (k : Int)) = false := by simp; omega
          have hk1' : k = 1 := by omega
          have hbN : nl x * (k / 2) + nl (o * x) ≤ 16001 := by rw [hk1']; simpa using hoB
          have heq2 : o * x * x ^ (k / 2) = a ^ n := by
            have := heq.out
            rw [hk1'] at this ⊢
            simpa using this
          replace hbN := Lib.hid hbN
          replace heq2 := Lib.hid heq2
          replace hk1' := Lib.hid hk1'
          clear hbs hbd' hxk
          go_wp2_with (fail)
          refine CM.out.mono ?_
          rintro e w1 ⟨Y, cy, rfl, hY, hb1⟩
          go_wp2_with (fail)
          go_roundw
          case rel => exact ⟨x, k / 2, o * x, X, cx, Y, cy, rfl, by congr 1, rfl, by omega, hX.below hb1, hY, hbr.cons hb1, heq2, hbN, hoB, hx⟩
          case measure => simp only [intOf]; omega
      · have hand : bits .and .i64 (k : Int) 1 = 0 := by rw [Go.Proofs.and_one k (by omega)]; omega
        rw [if_neg hodd] at hst
        have h0 : k % 2 = 0 := by omega
        rw [h0, Nat.zero_mul, Nat.add_zero] at hbs
        replace hst := Lib.hid hst
        have h2 : decide ((1 : Int) < (k : Int)) = true := by simp; omega
        have hxx := nl_mul x x
        have hx2 : 2 * nl x ≤ 2 * nl x * (k / 2) := Nat.le_mul_of_pos_right _ (by omega)
        have hmm : nl (x * x) * (k / 2) ≤ 2 * nl x * (k / 2) := Nat.mul_le_mul_right _ (by omega)
        have hbN : nl (x * x) * (k / 2) + nl o ≤ 16001 := by omega
        have hxxb : nl (x * x) ≤ 16001 := by have := Nat.le_mul_of_pos_right (nl (x * x)) (show 0 < k / 2 by omega); omega
        replace hbN := Lib.hid hbN
        replace h0 := Lib.hid h0
        clear hbs hbd' hxk hmm
        go_wp2_with (fail)
        refine (mul_c X cx x X cx x wr hX hX hG1 (by omega) (by omega)).mono ?_
        rintro e w2 ⟨Z, cz, rfl, hZ, hb2⟩
        go_wp2_with (fail)
        go_roundw
        case rel => exact ⟨x * x, k / 2, o, Z, cz, O, co, rfl, by congr 1, rfl, by omega, hZ, hO.below hb2, hbr.cons hb2, Lib.hid (by rw [hst.out, heq.out]), hbN, ho, hxxb⟩
        case measure => simp only [intOf]; omega
    · obtain rfl : k = 0 := by omega
      go_wp2_with (fail)
      go_ret
      have := heq.out
      rw [Nat.pow_zero, Nat.mul_one] at this
      rw [← this]
      exact ⟨O, co, rfl, hO, hbr⟩
end Go.Proofs.YtmcekbmmpdpbmaaDoor
