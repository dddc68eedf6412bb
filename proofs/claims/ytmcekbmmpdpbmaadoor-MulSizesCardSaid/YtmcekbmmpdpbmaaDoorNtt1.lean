/- Reckoning modulo a prime: the functions of ntt.field. -/
import Derived.Test.YtmcekbmmpdpbmaaDoorMul7
import Derived.WalkSmall
set_option linter.unusedVariables false
set_option linter.unusedSimpArgs false
namespace Go.Proofs.YtmcekbmmpdpbmaaDoor
open Go.RowKit Go.Shelf

/-- A field's value. -/
def fld (p : Nat) : Value := .agg #[.int .u64 (p : Nat)]
/-- A call that only answers a number. -/
def RetU (w : World) (n : Nat) (e : Ending) (w' : World) : Prop := e = .returned (.int .u64 (n : Nat)) ∧ Below w.heap.size w w'

theorem mulI {a b m : Nat} (ha : a < m) (hb : b < m) : 0 ≤ (a : Int) * (b : Int) ∧ (a : Int) * (b : Int) ≤ ((m - 1) * (m - 1) : Nat) := by
  refine ⟨Int.mul_nonneg (by omega) (by omega), ?_⟩
  rw [← Int.natCast_mul]
  exact_mod_cast Nat.mul_le_mul (show a ≤ m - 1 by omega) (show b ≤ m - 1 by omega)

set_option maxHeartbeats 400000 in
theorem fmul_c (p a b : Nat) (w : World) (hp : 0 < p) (hp2 : p < 4294967296) (ha : a < 4294967296) (hb : b < 4294967296) :
    Calls Tryd.prog 50 #[fld p, .int .u64 (a : Nat), .int .u64 (b : Nat)] w (RetU w (a * b % p)) := by
  obtain ⟨h1, h2⟩ := mulI ha hb
  have hb0 : Below w.heap.size w (w.alloc (.cells #[.int .u64 (p : Nat)] 66)) := (Below.refl _ _).alloc (Nat.le_refl _) _
  have hp0 : ((p : Int) == 0) = false := ieqF (by omega)
  unfold fld
  go_enter Tryd.func50, Tryd.ntmps50
  go_wp2_with (fail)
  go_ret
  exact ⟨by simp, hb0⟩

set_option maxHeartbeats 400000 in
theorem fsub_c (p a b : Nat) (w : World) (hp : 0 < p) (hp2 : p < 4294967296) (ha : a < p) (hb : b < p) :
    Calls Tryd.prog 51 #[fld p, .int .u64 (a : Nat), .int .u64 (b : Nat)] w (RetU w ((a + p - b) % p)) := by
  have hb0 : Below w.heap.size w (w.alloc (.cells #[.int .u64 (p : Nat)] 66)) := (Below.refl _ _).alloc (Nat.le_refl _) _
  have hp0 : ((p : Int) == 0) = false := ieqF (by omega)
  have e : ((a : Int) + (p : Int) - (b : Int)) = ((a + p - b : Nat) : Int) := by omega
  unfold fld
  go_enter Tryd.func51, Tryd.ntmps51
  go_wp2_with (fail)
  go_ret
  exact ⟨by simp, hb0⟩

theorem pow_step (o b e p : Nat) (he : 0 < e) : (if e % 2 = 1 then o * b % p else o) * (b * b % p) ^ (e / 2) % p = o * b ^ e % p := by
  have h : b ^ e = b ^ (e % 2) * (b * b) ^ (e / 2) := by
    rw [← Nat.pow_two, ← Nat.pow_mul, ← Nat.pow_add]
    congr 1; omega
  rw [Nat.mul_mod, ← Nat.pow_mod, ← Nat.mul_mod]
  split
  · rename_i h1
    rw [h, h1, Nat.pow_one, ← Nat.mul_assoc, Nat.mod_mul_mod]
  · have h1 : e % 2 = 0 := by omega
    rw [h, h1, Nat.pow_zero, Nat.one_mul]

set_option maxHeartbeats 1000000 in
theorem fpow_c (p b e : Nat) (w : World) (hp : 1 < p) (hp2 : p < 4294967296) (hb : b < 18446744073709551616) (he : e < 18446744073709551616) :
    Calls Tryd.prog 62 #[fld p, .int .u64 (b : Nat), .int .u64 (e : Nat)] w (RetU w (b ^ e % p)) := by
  have hb0 : Below w.heap.size w (w.alloc (.cells #[.int .u64 (p : Nat)] 66)) := (Below.refl _ _).alloc (Nat.le_refl _) _
  have hp0 : ((p : Int) == 0) = false := ieqF (by omega)
  have hc0 : (w.alloc (.cells #[.int .u64 (p : Nat)] 66)).cell? ⟨w.heap.size, 0, none⟩ = some (.int .u64 (p : Nat)) := by
    unfold World.cell?; rw [heap_alloc_new]; rfl
  have hu := Tryd.underlying66
  unfold fld
  go_enter Tryd.func62, Tryd.ntmps62
  go_wp2_with (fail)
  go_loopw [1, 2, 8] (fun vb ve vo wr => ∃ (y z o : Nat), vb = .int .u64 y ∧ ve = .int .u64 z ∧ vo = .int .u64 o ∧ y < p ∧ o < p ∧ z ≤ e ∧ Below w.heap.size w wr ∧ Hid (o * y ^ z % p = b ^ e % p)) (fun vb ve vo wr => (intOf ve).toNat)
  case atStart =>
    exact ⟨b % p, e, 1, by simp, rfl, rfl, Nat.mod_lt _ (by omega), hp, Nat.le_refl _, hb0, Lib.hid (by rw [Nat.one_mul, ← Nat.pow_mod])⟩
  case round =>
    obtain ⟨y, z, o, rfl, rfl, rfl, hy, ho, hz, hbw, heq⟩ := hrel
    by_cases hz0 : 0 < z
    · have hst := pow_step o y z p hz0
      by_cases hodd : z % 2 = 1
      · have hand : bits .and .u64 (z : Int) 1 = 1 := by rw [and_one_u64 _ (by omega) (by omega)]; omega
        rw [if_pos hodd] at hst
        have HST := Lib.hid hst
        clear hst
        have hpp : 0 < p := by omega
        go_wp2_with (fail)
        refine (fmul_c p o y wr hpp hp2 (by omega) (by omega)).mono ?_
        rintro en w1 ⟨rfl, hb1⟩
        go_wp2_with (fail)
        refine (fmul_c p y y w1 hpp hp2 (by omega) (by omega)).mono ?_
        rintro en w2 ⟨rfl, hb2⟩
        go_wp2_with (fail)
        go_roundw
        case rel => exact ⟨y * y % p, z / 2, o * y % p, rfl, by congr 1, rfl, Nat.mod_lt _ hpp, Nat.mod_lt _ hpp, by omega, (hbw.cons hb1).cons hb2, Lib.hid (by rw [HST.out, heq.out])⟩
        case measure => simp only [intOf]; omega
      · have hand : bits .and .u64 (z : Int) 1 = 0 := by rw [and_one_u64 _ (by omega) (by omega)]; omega
        rw [if_neg hodd] at hst
        have HST := Lib.hid hst
        clear hst
        have hpp : 0 < p := by omega
        go_wp2_with (fail)
        refine (fmul_c p y y wr hpp hp2 (by omega) (by omega)).mono ?_
        rintro en w2 ⟨rfl, hb2⟩
        go_wp2_with (fail)
        go_roundw
        case rel => exact ⟨y * y % p, z / 2, o, rfl, by congr 1, rfl, Nat.mod_lt _ hpp, ho, by omega, hbw.cons hb2, Lib.hid (by rw [HST.out, heq.out])⟩
        case measure => simp only [intOf]; omega
    · obtain rfl : z = 0 := by omega
      go_wp2_with (fail)
      go_ret
      have := heq.out
      rw [Nat.pow_zero, Nat.mul_one, Nat.mod_eq_of_lt ho] at this
      rw [← this]
      exact ⟨rfl, hbw⟩

set_option maxHeartbeats 400000 in
theorem finv_c (p a : Nat) (w : World) (hp : 2 < p) (hp2 : p < 4294967296) (ha : a < 18446744073709551616) :
    Calls Tryd.prog 49 #[fld p, .int .u64 (a : Nat)] w (RetU w (a ^ (p - 2) % p)) := by
  have hb0 : Below w.heap.size w (w.alloc (.cells #[.int .u64 (p : Nat)] 66)) := (Below.refl _ _).alloc (Nat.le_refl _) _
  have hc0 : (w.alloc (.cells #[.int .u64 (p : Nat)] 66)).cell? ⟨w.heap.size, 0, none⟩ = some (.int .u64 (p : Nat)) := by
    unfold World.cell?; rw [heap_alloc_new]; rfl
  have hu := Tryd.underlying66
  have e : ((p : Int) - 2) = ((p - 2 : Nat) : Int) := by omega
  have hc := fpow_c p a (p - 2) (w.alloc (.cells #[.int .u64 (p : Nat)] 66)) (by omega) hp2 ha (by omega)
  have HC := Lib.hid hc
  clear hc
  unfold fld at *
  go_enter Tryd.func49, Tryd.ntmps49
  go_wp2_with (fail)
  refine HC.out.mono ?_
  rintro en w1 ⟨rfl, hb1⟩
  go_wp2_with (fail)
  go_ret
  exact ⟨rfl, hb0.cons hb1⟩

set_option maxHeartbeats 400000 in
theorem froot_c (p k : Nat) (w : World) (hp : 2 < p) (hp2 : p < 4294967296) (hk : k ≤ 20) :
    Calls Tryd.prog 60 #[fld p, .int .i64 (k : Nat)] w (RetU w (3 ^ ((p - 1) / 2 ^ k) % p)) := by
  have hb0 : Below w.heap.size w (w.alloc (.cells #[.int .u64 (p : Nat)] 66)) := (Below.refl _ _).alloc (Nat.le_refl _) _
  have hc0 : (w.alloc (.cells #[.int .u64 (p : Nat)] 66)).cell? ⟨w.heap.size, 0, none⟩ = some (.int .u64 (p : Nat)) := by
    unfold World.cell?; rw [heap_alloc_new]; rfl
  have hu := Tryd.underlying66
  obtain ⟨r, hr⟩ : ∃ r, r = p - 1 := ⟨_, rfl⟩
  rw [← hr]
  have e : ((p : Int) - 1) = (r : Int) := by omega
  have hd : 0 < 2 ^ k := Nat.two_pow_pos k
  have hb1 := hb0.drew
  have hc1 : (w.alloc (.cells #[.int .u64 (p : Nat)] 66)).drew.cell? ⟨w.heap.size, 0, none⟩ = some (.int .u64 (p : Nat)) := hc0
  have z1 : IntKind.u64.wrap (r : Int) = (r : Int) := IntWalk.u64_in _ (by omega)
  obtain ⟨q, hq⟩ : ∃ q, q = r / 2 ^ k := ⟨_, rfl⟩
  have hql : q ≤ r := by rw [hq]; exact Nat.div_le_self _ _
  have z2 : (r : Int) / (2 : Int) ^ k = (q : Int) := by rw [hq]; simp
  rw [← hq]
  have hc := fpow_c p 3 q (w.alloc (.cells #[.int .u64 (p : Nat)] 66)).drew (by omega) hp2 (by decide) (by omega)
  rw [show ((3 : Nat) : Int) = 3 from rfl] at hc
  have HC := Lib.hid hc
  clear hc
  have HR := Lib.hid hr
  have HQ := Lib.hid hq
  have hrB : r < 4294967296 := by omega
  clear hr hq
  unfold fld at *
  go_enter Tryd.func60, Tryd.ntmps60
  go_wp2_with (fail)
  go_region_held3 (fun W => W.cell? ⟨w.heap.size, 0, none⟩ = some (.int .u64 (p : Nat)))
    (first
      | exact hc1
      | exact hc2
      | go_keep)
    (first
      | (go_at_call 62; (with_reducible refine (HC.out).mono ?_); rintro en w1 ⟨rfl, hb2⟩; have hc2 := cell_below hb2 hc1))
  go_wp2_with (fail)
  go_ret
  exact ⟨rfl, hb1.cons hb2⟩
end Go.Proofs.YtmcekbmmpdpbmaaDoor
