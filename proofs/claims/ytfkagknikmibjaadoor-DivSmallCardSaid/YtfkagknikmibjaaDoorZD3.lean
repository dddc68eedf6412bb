/- The document's naturals, walked: Bits, Bit, Low, Right, Mul. -/
import Derived.Test.YtfkagknikmibjaaDoorZD2
import Derived.Test.YtfkagknikmibjaaDoorZD1
import Derived.Stop.RegionWithIn
set_option linter.unusedVariables false
set_option linter.unusedSimpArgs false
namespace Go.Proofs.YtfkagknikmibjaaDoor
open Go.RowKit Go.Shelf
attribute [local go_sem] max2_i min2_i max_two min_two

theorem bitLen_half2 {x : Nat} (h0 : x ≠ 0) (h : x < 4294967296) : Lib.bitLen x = 1 + Lib.bitLen (x / 2) := Lib.bitLen_half x h0 (Nat.lt_trans h (by decide))
set_option maxRecDepth 100000 in
set_option maxHeartbeats 1000000 in
theorem rbits_c (A : Option Addr) (c a : Nat) (w : World) (hA : NatV w A c a) (ha : nl a ≤ 1073741824) :
    Calls Tryd.prog 31 #[.slice A (nl a) c] w fun e w' => e = .returned (.int .i64 (bl a : Nat)) ∧ Below w.heap.size w w' := by
  by_cases h : nl a = 0
  · have h0 : a = 0 := nl_eq_zero.1 h
    have hb : bl a = 0 := by unfold bl; rw [if_pos h0]
    rw [h, hb]
    go_enter Tryd.func31, Tryd.ntmps31
    go_wp2_with (fail)
    go_ret
    exact ⟨rfl, Below.refl _ _⟩
  · obtain ⟨k, hk⟩ : ∃ k, nl a = k + 1 := ⟨nl a - 1, by omega⟩
    obtain ⟨ad, rfl, hcx⟩ := hA.rd.get k (by show k < nl a; omega)
    obtain ⟨x, hx⟩ : ∃ x, x = gl (limbs a) k := ⟨_, rfl⟩
    have hxl := (lim_limbs a).gl k
    rw [← hx] at hcx hxl
    have h1 : ((nl a : Int) == 0) = false := ieqF (by omega)
    have hkI : (nl a : Int) - 1 = (k : Int) := by omega
    have hkl : k < nl a := by omega
    have hb : bl a = 32 * k + Lib.bitLen x := by unfold bl; rw [if_neg (fun e => h (by rw [e, nl_zero])), hk, Nat.add_sub_cancel, ← hx]
    have hb32 : Lib.bitLen x ≤ 32 := Lib.bitLen_le x 32 (by decide) hxl
    rw [hb]
    obtain ⟨v, hv⟩ : ∃ v, v = Lib.bitLen x := ⟨_, rfl⟩
    rw [← hv] at hb32 ⊢
    replace hx := Lib.hid hx
    replace hv := Lib.hid hv
    clear h hb
    replace hk := Lib.hid hk
    go_enter Tryd.func31, Tryd.ntmps31
    go_wp2_with (fail)
    go_quiet (fail)
    go_wp2_with (fail)
    go_loopw [3, 4] (fun vn vt w2 => ∃ m t : Nat, vn = .int .i64 m ∧ vt = .int .u32 t ∧ t < 4294967296 ∧ m ≤ v ∧ Hid (m + Lib.bitLen t = v) ∧ Below w.heap.size w w2) (fun vn vt w2 => (intOf vt).toNat)
    case atStart => exact ⟨0, x, rfl, rfl, hxl, Nat.zero_le _, Lib.hid (by rw [Nat.zero_add, hv.out]), (Below.refl _ _).drewN _⟩
    case round =>
      obtain ⟨m, t, rfl, rfl, ht, hm, hmt, hb2⟩ := hrel
      by_cases ht0 : 0 < t
      · have h2 := bitLen_half2 (show t ≠ 0 by omega) ht
        have h3 := hmt.out
        have h4 : m + 1 + Lib.bitLen (t / 2) = v := by omega
        have h5 : m + 1 ≤ v := by omega
        replace h4 := Lib.hid h4
        clear h2 h3
        go_wp2_with (fail)
        go_roundw
        case rel => exact ⟨m + 1, t / 2, by go_num, by first | rfl | (congr 1), by omega, h5, h4, hb2⟩
        case measure => simp only [intOf]; omega
      · have h2 : t = 0 := by omega
        have h3 := hmt.out
        rw [h2] at h3
        have h4 : Lib.bitLen 0 = 0 := rfl
        have h5 : m = v := by omega
        clear h3 h4
        subst h5
        replace h2 := Lib.hid h2
        go_wp2_with (fail)
        go_ret
        exact ⟨by congr 1, hb2⟩
theorem bit_mid (a q s : Nat) (hs : s < 32) : a / 4294967296 ^ q % 4294967296 / 2 ^ s % 2 = a / 2 ^ (32 * q + s) % 2 := by
  rw [Nat.pow_add, pow32, ← Nat.div_div_eq_div_mul]
  generalize a / 4294967296 ^ q = t
  have e2 : (4294967296 : Nat) = 2 ^ s * (2 * 2 ^ (31 - s)) := by rw [← Nat.pow_succ', ← Nat.pow_add, show s + (31 - s).succ = 32 by omega]
  have h1 := Nat.div_add_mod t 4294967296
  conv => rhs; rw [← h1]; arg 1; arg 1; arg 1; arg 1; rw [e2]
  rw [Nat.mul_assoc, Nat.mul_add_div (Nat.two_pow_pos s), Nat.mul_assoc, Nat.mul_add_mod]
set_option maxRecDepth 100000 in
set_option maxHeartbeats 1000000 in
theorem rbit_c (A : Option Addr) (c a i : Nat) (w : World) (hA : NatV w A c a) (ha : nl a ≤ 1073741824) (hi1 : i ≤ 1099511627776) :
    Calls Tryd.prog 33 #[.slice A (nl a) c, .int .i64 (i : Nat)] w fun e w' => e = .returned (.int .u32 (a / 2 ^ i % 2 : Nat)) ∧ w = w' := by
  obtain ⟨q, hq⟩ : ∃ q, q = i / 32 := ⟨_, rfl⟩
  obtain ⟨s, hs⟩ : ∃ s, s = i % 32 := ⟨_, rfl⟩
  have hqI : (i : Int) / 32 = (q : Int) := by omega
  have hsI : (i : Int) % 32 = (s : Int) := by omega
  have hsl : s < 32 := by omega
  have his : i = 32 * q + s := by omega
  have hv := bit_mid a q s hsl
  rw [← his] at hv
  obtain ⟨v, hvv⟩ : ∃ v, v = a / 2 ^ i % 2 := ⟨_, rfl⟩
  have hv2 : v < 2 := by rw [hvv]; exact Nat.mod_lt _ (by decide)
  rw [← hvv] at hv ⊢
  by_cases hj : q < nl a
  · obtain ⟨ad, rfl, hc⟩ := hA.rd.get q hj
    obtain ⟨x, hx⟩ : ∃ x, x = gl (limbs a) q := ⟨_, rfl⟩
    have hxl := (lim_limbs a).gl q
    rw [← hx] at hc hxl
    rw [limbs_gl] at hx
    rw [← hx] at hv
    have hd : decide ((nl a : Int) ≤ (q : Int)) = false := by simp; omega
    replace hx := Lib.hid hx
    replace hv := Lib.hid hv
    replace hvv := Lib.hid hvv
    replace hq := Lib.hid hq
    replace hs := Lib.hid hs
    replace his := Lib.hid his
    go_enter Tryd.func33, Tryd.ntmps33
    go_wp2_with (fail)
    go_loop [5, 6] (fun vx vi => ∃ j t : Nat, vx = .int .u32 t ∧ vi = .int .i64 j ∧ t < 4294967296 ∧ j ≤ s ∧ Hid (t = x / 2 ^ j)) (fun vx vi => s - (intOf vi).toNat)
    case atStart => exact ⟨0, x, rfl, rfl, hxl, Nat.zero_le _, Lib.hid (by simp)⟩
    case round =>
      obtain ⟨j, t, rfl, rfl, ht, hj2, hjt⟩ := hrel
      by_cases hjs : j < s
      · have h2 : t / 2 = x / 2 ^ (j + 1) := by rw [hjt.out, Nat.pow_succ, Nat.div_div_eq_div_mul]
        replace h2 := Lib.hid h2
        go_wp2_with (fail)
        go_round
        case rel => exact ⟨j + 1, t / 2, by first | rfl | (congr 1), by go_num, by omega, by omega, h2⟩
        case measure => simp only [intOf]; omega
      · obtain rfl : j = s := by omega
        have h3 : t % 2 = v := by rw [hjt.out, hv.out]
        have h4 : (t : Int) % 2 = (v : Int) := by omega
        clear h3
        go_wp2_with (fail)
        go_ret
        exact ⟨by first | rfl | (rw [h4]; rfl), rfl⟩
  · have h0 : v = 0 := by rw [← hv, div_nl (by omega)]; simp
    have hd : decide ((nl a : Int) ≤ (q : Int)) = true := by simp; omega
    replace hv := Lib.hid hv
    replace hvv := Lib.hid hvv
    replace h0 := Lib.hid h0
    replace hq := Lib.hid hq
    replace hs := Lib.hid hs
    replace his := Lib.hid his
    go_enter Tryd.func33, Tryd.ntmps33
    go_wp2_with (fail)
    go_ret
    exact ⟨by rw [h0.out]; rfl, rfl⟩
set_option maxRecDepth 100000 in
set_option maxHeartbeats 1000000 in
theorem rlow_c (A : Option Addr) (c a : Nat) (w : World) (hA : NatV w A c a) (ha : nl a ≤ 2) :
    Calls Tryd.prog 56 #[.slice A (nl a) c] w fun e w' => e = .returned (.tuple #[.int .u64 (a : Nat), .bool true]) ∧ w = w' := by
  have hd : decide ((2 : Int) < (nl a : Int)) = false := by simp; omega
  have hal : a < 18446744073709551616 := nl_le.1 ha
  go_enter Tryd.func56, Tryd.ntmps56
  go_wp2_with (fail)
  go_loop [4, 5] (fun vn vi => ∃ k n : Nat, vn = .int .u64 n ∧ vi = .int .i64 ((k : Int) - 1) ∧ k ≤ nl a ∧ Hid (n = a / 4294967296 ^ k)) (fun vn vi => (intOf vi + 1).toNat)
  case atStart => exact ⟨nl a, 0, rfl, rfl, Nat.le_refl _, Lib.hid (div_nl (Nat.le_refl _)).symm⟩
  case round =>
    obtain ⟨k, n, rfl, rfl, hk, hn⟩ := hrel
    cases k with
    | zero =>
      have h2 : n = a := by have := hn.out; simpa using this
      subst h2
      go_wp2_with (fail)
      exact bodyPost_ret (v := .tuple #[.int .u64 (n : Nat), .bool true]) (by simp [results, Tryd.results56, go_sem]) rfl ⟨rfl, rfl⟩
    | succ k =>
      rw [show (((k + 1 : Nat) : Int) - 1) = (k : Int) by omega]
      obtain ⟨ad, rfl, hc⟩ := hA.rd.get k hk
      obtain ⟨x, hx⟩ : ∃ x, x = gl (limbs a) k := ⟨_, rfl⟩
      have hxl := (lim_limbs a).gl k
      rw [← hx] at hc hxl
      have h1 := div_dig a k
      rw [limbs_gl] at hx
      rw [← hn.out, ← hx] at h1
      have h2 : a / 4294967296 ^ k ≤ a := Nat.div_le_self _ _
      obtain ⟨t, ht⟩ : ∃ t, t = a / 4294967296 ^ k := ⟨_, rfl⟩
      rw [← ht] at h1 h2
      have htI : (n : Int) * 4294967296 + (x : Int) = (t : Int) := by omega
      have hnl : n < 4294967296 := by omega
      replace hx := Lib.hid hx
      replace ht := Lib.hid ht
      clear h1
      go_wp2_with (fail)
      go_round
      case rel => exact ⟨k, t, by first | rfl | (rw [htI]), rfl, by omega, ht⟩
      case measure => simp only [intOf]; omega
set_option maxRecDepth 100000 in
set_option maxHeartbeats 1000000 in
theorem rright_c (A : Option Addr) (c a : Nat) (w : World) (hA : NatV w A c a) (ha : nl a ≤ 65536) :
    Calls Tryd.prog 29 #[.slice A (nl a) c] w fun e w' => e = .returned (.bool true) ∧ w' = w := by
  by_cases h : nl a = 0
  · rw [h]
    go_enter Tryd.func29, Tryd.ntmps29
    go_wp2_with (fail)
    go_ret
    exact ⟨rfl, rfl⟩
  · obtain ⟨k, hk⟩ : ∃ k, nl a = k + 1 := ⟨nl a - 1, by omega⟩
    obtain ⟨ad, rfl, hcx⟩ := hA.rd.get k (by show k < nl a; omega)
    have hne : gl (limbs a) k ≠ 0 := by
      have h2 := limbs_last a (fun e => h (by rw [e, nl_zero]))
      rwa [hk, Nat.add_sub_cancel] at h2
    obtain ⟨x, hx⟩ : ∃ x, x = gl (limbs a) k := ⟨_, rfl⟩
    rw [← hx] at hcx hne
    have h1 : ((nl a : Int) == 0) = false := ieqF (by omega)
    have hkI : (nl a : Int) - 1 = (k : Int) := by omega
    have hkl : k < nl a := by omega
    have h2 : ((x : Int) != 0) = true := ineT (by omega)
    have h3 : decide ((nl a : Int) ≤ 65536) = true := by simp; omega
    replace hx := Lib.hid hx
    clear hne h hk
    go_enter Tryd.func29, Tryd.ntmps29
    go_wp2_with (fail)
    go_ret
    exact ⟨rfl, rfl⟩

set_option maxHeartbeats 1000000 in
theorem rmul_c (A : Option Addr) (c a : Nat) (B : Option Addr) (d b : Nat) (w : World) (hA : NatV w A c a) (hB : NatV w B d b) (ha : nl a ≤ 1073741824) (hb : nl b ≤ 1073741824) :
    Calls Tryd.prog 26 #[.slice A (nl a) c, .slice B (nl b) d] w (RetN w (a * b)) := by
  have CC := rschool_c A c a B d b w hA hB ha hb
  replace CC := Lib.hid CC
  go_enter Tryd.func26, Tryd.ntmps26
  go_wp2_with (fail)
  refine CC.out.mono ?_
  rintro e w1 ⟨X, cx, rfl, h1, h2⟩
  go_wp2_with (fail)
  go_ret
  exact ⟨X, cx, rfl, h1, h2⟩
end Go.Proofs.YtfkagknikmibjaaDoor

/- The document's division, bit by bit, walked. -/
set_option linter.unusedVariables false
set_option linter.unusedSimpArgs false
namespace Go.Proofs.YtfkagknikmibjaaDoor
open Go.RowKit Go.Shelf
attribute [local go_sem] max2_i min2_i max_two min_two

theorem nat_one (W : World) (s : Nat) (h : W.heap[s]? = some (.cells #[.int .u32 1] 23 (0, 0))) : NatV W (some ⟨s, 0, none⟩) 1 1 := by
  have e : limbs 1 = [1] := by rw [limbs_pos (by decide)]; simp [limbs_zero]
  refine ⟨?_, by rw [nl_one]; exact Nat.le_refl _, by decide⟩
  rw [e]
  refine .inr ⟨_, rfl, fun i u hu => ?_⟩
  rcases i with _ | i
  · unfold World.cell?
    rw [show (Addr.add ⟨s, 0, none⟩ 0) = ⟨s, 0, none⟩ from rfl, h]
    simpa [vals] using hu
  · simp [vals] at hu
theorem own_below {w w' : World} {b n : Nat} {v : Value} {xs : List Value} (h : w.ownsRow b 23 1 v n xs) (hb : Below w.heap.size w w') : w'.ownsRow b 23 1 v n xs := by
  rcases h with ⟨h1, h2 | ⟨g, cap, cur, e, h3, h4, h5⟩⟩
  · exact ⟨h1, .inl h2⟩
  · exact ⟨h1, .inr ⟨g, cap, cur, e, h3, (hb.block g (Array.getElem?_eq_some_iff.1 h4).1).trans h4, h5⟩⟩
/-- A quotient and a rest, without an error. -/
def RetQR (w : World) (q r : Nat) (e : Ending) (w' : World) : Prop := ∃ X cx Y cy, e = .returned (.tuple #[.slice X (nl q) cx, .slice Y (nl r) cy, .int .i64 0]) ∧ NatV w' X cx q ∧ NatV w' Y cy r ∧ Below w.heap.size w w'
/-- What divides by nothing. -/
def RetQZ (w : World) (e : Ending) (w' : World) : Prop := e = .returned (.tuple #[.slice none 0 0, .slice none 0 0, .int .i64 3]) ∧ Below w.heap.size w w'
theorem bit_div (a k : Nat) : a / 2 ^ k = 2 * (a / 2 ^ (k + 1)) + a / 2 ^ k % 2 := by
  rw [Nat.pow_succ, ← Nat.div_div_eq_div_mul]; omega
/-- One bit of a row of limbs is set, where none stands so low. -/
theorem set_bit {L : List Nat} (hL : Lim L) {Q k n : Nat} (hl : L.length = n) (hv : val L = Q * 2 ^ (k + 1)) (hk : k / 32 < n) :
    gl L (k / 32) + 2 ^ (k % 32) < 4294967296 ∧ val (L.set (k / 32) (gl L (k / 32) + 2 ^ (k % 32))) = (2 * Q + 1) * 2 ^ k := by
  have hs : k % 32 < 32 := Nat.mod_lt _ (by decide)
  have e1 : 2 ^ k = 4294967296 ^ (k / 32) * 2 ^ (k % 32) := by
    rw [← pow32, ← Nat.pow_add]; congr 1; omega
  constructor
  · rw [val_gl hL, hv, Nat.pow_succ, e1]
    have e2 : Q * (4294967296 ^ (k / 32) * 2 ^ (k % 32) * 2) / 4294967296 ^ (k / 32) = 2 ^ (k % 32) * 2 * Q := by
      rw [show Q * (4294967296 ^ (k / 32) * 2 ^ (k % 32) * 2) = 4294967296 ^ (k / 32) * (2 ^ (k % 32) * 2 * Q) by grind]
      exact Nat.mul_div_cancel_left _ (Nat.pow_pos (by decide))
    rw [e2]
    have e3 : (4294967296 : Nat) = 2 ^ (k % 32) * 2 * 2 ^ (31 - k % 32) := by
      rw [← Nat.pow_succ, ← Nat.pow_add]
      rw [show (k % 32).succ + (31 - k % 32) = 32 by omega]
    generalize 2 ^ (k % 32) = p at *
    rw [e3, Nat.mul_mod_mul_left]
    have h1 := Nat.mod_lt Q (Nat.two_pow_pos (31 - k % 32))
    have hp : 0 < p := by
      rcases Nat.eq_zero_or_pos p with h | h
      · subst h; simp at e3
      · exact h
    have h2 := Nat.mul_le_mul_left (p * 2) (Nat.succ_le_of_lt h1)
    rw [Nat.mul_succ] at h2
    omega
  · have h := val_set (k / 32) (gl L (k / 32) + 2 ^ (k % 32)) (by rw [hl]; exact hk)
    rw [← gl_eq, Nat.mul_add, ← e1, hv] at h
    rw [Nat.pow_succ] at h
    generalize 2 ^ k = P at *
    have : Q * (P * 2) + P = (2 * Q + 1) * P := by grind
    omega
set_option maxRecDepth 100000 in
set_option maxHeartbeats 1000000 in
theorem rdivZ_c (A : Option Addr) (c a : Nat) (B : Option Addr) (d b : Nat) (w : World) (hA : NatV w A c a) (hB : NatV w B d b) (h : b = 0) :
    Calls Tryd.prog 15 #[.slice A (nl a) c, .slice B (nl b) d] w (RetQZ w) := by
  have h1 : ((nl b : Int) == 0) = true := ieqT (by rw [h, nl_zero]; rfl)
  replace h := Lib.hid h
  go_enter Tryd.func15, Tryd.ntmps15
  go_wp2_with (fail)
  exact bodyPost_ret (v := .tuple #[.slice none 0 0, .slice none 0 0, .int .i64 3]) (by simp [results, Tryd.results15, go_sem]) rfl ⟨rfl, Below.refl _ _⟩
theorem NatV.set {W : World} {X : Option Addr} {c n g : Nat} (h : NatV W X c n) (far : ∀ ad, X = some ad → ad.block ≠ g) (j : Nat) (u : Value) : NatV (W.setCell ⟨g, j, none⟩ u) X c n := by
  refine ⟨?_, h.cap, h.cmax⟩
  rcases h.rd with h1 | ⟨ad, rfl, h1⟩
  · exact .inl h1
  · refine .inr ⟨ad, rfl, fun i v hv => ?_⟩
    have h2 := h1 i v hv
    refine (World.cell?_of_block (w := W) (a := ad.add i) ?_).trans h2
    refine Below.heap_setCell W ⟨g, j, none⟩ u _ ?_
    show (Addr.add ad i).block ≠ g
    unfold Addr.add; split <;> exact far ad rfl
theorem own_lt {w : World} {b g n c : Nat} {xs : List Value} (h : w.ownsRow b 23 1 (.slice (some ⟨g, 0, none⟩) n c) n xs) : g < w.heap.size := by
  rcases h.2 with ⟨e, _⟩ | ⟨g', cap, cur, e, _, h4, _⟩
  · simp at e
  · simp only [Value.slice.injEq, Option.some.injEq, Addr.mk.injEq, and_true, true_and] at e
    obtain ⟨rfl, _⟩ := e
    exact (Array.getElem?_eq_some_iff.1 h4).1
set_option maxRecDepth 100000 in
set_option maxHeartbeats 1000000 in
theorem rdiv_c (A : Option Addr) (c a : Nat) (B : Option Addr) (d b : Nat) (w : World) (hA : NatV w A c a) (hB : NatV w B d b) (ha : nl a ≤ 16777216) (hb : nl b ≤ 16777216) (hb0 : 0 < b) :
    Calls Tryd.prog 15 #[.slice A (nl a) c, .slice B (nl b) d] w (RetQR w (a / b) (a % b)) := by
  have hn1 : ((nl b : Int) == 0) = false := ieqF (by have := nl_pos.2 (show b ≠ 0 by omega); omega)
  have hmk := mk32 (nl a) (nl a) (by omega) (by omega) (by omega)
  rw [Int.toNat_natCast] at hmk
  have hown0 := ownsMade32 w w.heap.size (nl a) (Nat.le_refl _) (by omega)
  have hb1 : Below w.heap.size w (w.alloc (.cells (madeCells #[.int .u32 0] (nl a)) 23)) := (Below.refl _ _).alloc (Nat.le_refl _) _
  have hb2 : Below w.heap.size w ((w.alloc (.cells (madeCells #[.int .u32 0] (nl a)) 23)).alloc (.cells #[] 23)) := hb1.alloc hb1.size _
  replace hown0 := own_below hown0 ((Below.refl _ _).alloc (Nat.le_refl _) (.cells #[] 23))
  have CB := rbits_c A c a _ (hA.below hb2) (by omega)
  have hbl := bl_le a
  obtain ⟨K, hK⟩ : ∃ K, K = bl a := ⟨_, rfl⟩
  have hK0 : a / 2 ^ K = 0 := by rw [hK]; exact Nat.div_eq_of_lt (bl_lt a)
  rw [← hK] at CB hbl
  replace CB := Lib.hid CB
  replace hK := Lib.hid hK
  replace hK0 := Lib.hid hK0
  go_enter Tryd.func15, Tryd.ntmps15
  go_wp2_with (fail)
  refine CB.out.mono ?_
  rintro e WB ⟨rfl, hbB⟩
  replace hown0 := own_below hown0 hbB
  replace hb2 := Below.cons hb2 hbB
  have hRN : NatV WB (some ⟨w.heap.size + 1, 0, none⟩) 0 0 := ⟨by rw [limbs_zero]; exact Rd.nil, by rw [nl_zero]; exact Nat.le_refl _, by decide⟩
  clear hmk
  go_wp2_with (fail)
  go_loopw [8, 9, 10, 11] (fun v8 v9 v10 v11 wr => ∃ (k r : Nat) (L : List Nat) (R : Option Addr) (cr Q : Nat), v8 = .slice R (nl r) cr ∧ v9 = .int .i64 ((k : Int) - 1) ∧ k ≤ K ∧ NatV wr R cr r ∧ r < b ∧ Below w.heap.size w wr ∧ wr.ownsRow w.heap.size 23 1 (.slice (some ⟨w.heap.size, 0, none⟩) (nl a) (nl a)) (nl a) (vals L) ∧ Hid (L.length = nl a) ∧ Lim L ∧ Hid (val L = Q * 2 ^ k ∧ a / 2 ^ k = Q * b + r) ∧ Fr (w.heap.size + 1) R cr) (fun v8 v9 v10 v11 wr => (intOf v9 + 1).toNat)
  case atStart => exact ⟨K, 0, List.replicate (nl a) 0, some ⟨w.heap.size + 1, 0, none⟩, 0, 0, by rw [nl_zero], rfl, Nat.le_refl _, hRN, hb0, hb2, hown0, Lib.hid (by simp), Lim.replicate _ _ (by decide), Lib.hid ⟨by rw [val_replicate]; simp, by rw [hK0.out]; simp⟩, ⟨fun ad e => by cases e; exact Nat.le_refl _, fun e => by cases e⟩⟩
  case round =>
    obtain ⟨k, r, L, R, cr, Q, rfl, rfl, hk, hR, hrb, hbr, hown, hlen, hlim, hQR, hFr⟩ := hrel
    have hsz := own_lt hown
    cases k with
    | zero =>
      have h1 := hQR.out
      rw [Nat.pow_zero, Nat.mul_one, Nat.div_one] at h1
      have e1 : Q = a / b := by
        rw [h1.2, Nat.mul_comm, Nat.mul_add_div hb0, Nat.div_eq_of_lt hrb]; omega
      have e2 : r = a % b := by rw [h1.2, Nat.mul_comm, Nat.mul_add_mod, Nat.mod_eq_of_lt hrb]
      obtain ⟨X, cx, e, hcx, hcm, hrd⟩ := ownV_rd hown
      cases e
      have CM := rmake_c _ (nl a) (nl a) L wr hlen.out hrd hlim (by omega) (Nat.le_refl _) (fun e => by cases e)
      rw [h1.1, e1] at CM
      have CN := fun (W : World) (hW : NatV W R cr r) => rmake_c R (nl r) cr (limbs r) W rfl hW.rd (lim_limbs r) (by have := nl_mono (Nat.le_of_lt hrb); omega) hW.cap hFr.2
      rw [val_limbs, e2] at CN
      rw [← e2] at CN
      replace CM := Lib.hid CM
      replace CN := Lib.hid CN
      clear h1 e1
      replace e2 := Lib.hid e2
      go_wp2_with (fail)
      refine CM.out.mono ?_
      rintro e w2 ⟨X2, x2, rfl, k1, k2⟩
      go_wp2_with (fail)
      refine (CN.out w2 (hR.below k2)).mono ?_
      rintro e w3 ⟨X3, x3, rfl, k3, k4⟩
      go_wp2_with (fail)
      refine bodyPost_ret (v := .tuple #[.slice X2 (nl (a / b)) x2, .slice X3 (nl r) x3, .int .i64 0]) (by simp [results, Tryd.results15, go_sem]) rfl ?_
      rw [e2.out] at k3 ⊢
      exact ⟨X2, x2, X3, x3, rfl, k1.below k4, k3, (hbr.cons k2).cons k4⟩
    | succ k =>
      rw [show (((k + 1 : Nat) : Int) - 1) = (k : Int) by omega]
      have hA0 := hA.below hbr
      have hB0 := hB.below hbr
      have ho0 := hown
      have hb0' := hbr
      have hrl := nl_mono (Nat.le_of_lt hrb)
      have hk32 : k / 32 < nl a := by omega
      obtain ⟨t, ht⟩ : ∃ t, t = a / 2 ^ k % 2 := ⟨_, rfl⟩
      have ht2 : t = 0 ∨ t = 1 := by omega
      rcases ht2 with ht0 | ht1
      · skip
        have C1 := rshl_f R cr r 1 wr hR (by omega) (by decide)
        obtain ⟨r1, hr1⟩ : ∃ z, z = r * 2 ^ 1 := ⟨_, rfl⟩
        rw [← hr1] at C1
        have hr1l : nl r1 ≤ nl b + 2 := by rw [hr1]; have := nl_shl r 1; omega
        replace C1 := Lib.hid C1
        replace hr1 := Lib.hid hr1
        have htt : ((t : Int) == 1) = false := ieqF (by omega)
        replace ht := Lib.hid ht
        go_wp2_with (fail)
        refine C1.out.mono ?_
        rintro e W1 ⟨X1, c1, rfl, h1, b1, f1⟩
        have zb1 := b1.size
        have hB1 := hB0.below b1
        have hA1 := hA0.below b1
        have ho1 := own_below ho0 b1
        have hb1 := Below.cons hb0' b1
        have C2 := rbit_c A c a k W1 hA1 (by omega) (by omega)
        rw [← ht.out] at C2
        replace C2 := Lib.hid C2
        go_wp2_with (fail)
        refine C2.out.mono ?_
        rintro e w' ⟨rfl, rfl⟩
        have hrr : r1 = 2 * r + t := by rw [hr1.out, ht0]; omega
        have hk1 := bit_div a k
        rw [← ht.out, hQR.out.2] at hk1
        by_cases hge : b ≤ r1
        · have C4 := rsub_f X1 c1 r1 B d b W1 h1 hB1 (by omega) (by omega) hge
          obtain ⟨r3, hr3⟩ : ∃ z, z = r1 - b := ⟨_, rfl⟩
          rw [← hr3] at C4
          replace C4 := Lib.hid C4
          have hr3b : r3 < b := by omega
          have hfin : a / 2 ^ k = (2 * Q + 1) * b + r3 := by rw [hk1, hr3, Nat.add_mul, Nat.mul_add, Nat.mul_assoc]; omega
          obtain ⟨s1, s2⟩ := set_bit hlim hlen.out hQR.out.1 hk32
          obtain ⟨old, hold⟩ : ∃ z, z = gl L (k / 32) := ⟨_, rfl⟩
          rw [← hold] at s1 s2
          obtain ⟨pw', hpw⟩ : ∃ z, z = 2 ^ (k % 32) := ⟨_, rfl⟩
          rw [← hpw] at s1 s2
          obtain ⟨new, hnew⟩ : ∃ z, z = old + pw' := ⟨_, rfl⟩
          rw [← hnew] at s1 s2
          obtain ⟨kq, hkq⟩ : ∃ z, z = k / 32 := ⟨_, rfl⟩
          obtain ⟨ks, hks⟩ : ∃ z, z = k % 32 := ⟨_, rfl⟩
          rw [← hkq] at s2 hold
          rw [← hks] at hpw
          have hksl : ks < 32 := by omega
          have hkql : kq < nl a := by omega
          have kqI : (k : Int) / 32 = (kq : Int) := by omega
          have ksI : (k : Int) % 32 = (ks : Int) := by omega
          have pwI : (2 : Int) ^ ks = (pw' : Int) := by rw [hpw]; simp
          have pwl : pw' ≤ 2147483648 := by rw [hpw]; exact Nat.pow_le_pow_right (by decide) (show ks ≤ 31 by omega)
          have kqT : (k : Int).tdiv 32 = (kq : Int) := by rw [Int.tdiv_eq_ediv_of_nonneg (by omega)]; exact kqI
          have ksT : (k : Int).tmod 32 = (ks : Int) := by rw [Int.tmod_eq_emod_of_nonneg (by omega)]; exact ksI
          have kqW : IntKind.i64.wrap (kq : Int) = (kq : Int) := IntWalk.i64_in _ (by omega)
          have ksW : IntKind.i64.wrap (ks : Int) = (ks : Int) := IntWalk.i64_in _ (by omega)
          have pwW : IntKind.u32.wrap (pw' : Int) = (pw' : Int) := IntWalk.u32_in _ (by omega)
          have nwW : IntKind.u32.wrap (new : Int) = (new : Int) := IntWalk.u32_in _ (by omega)
          have nwO : IntKind.u32.wrap ((old : Int) + (pw' : Int)) = (new : Int) := by rw [show (old : Int) + (pw' : Int) = (new : Int) by omega]; exact nwW
          have nwI : (old : Int) + (pw' : Int) = (new : Int) := by omega
          replace hfin := Lib.hid hfin
          replace s2 := Lib.hid s2
          replace hold := Lib.hid hold
          replace hpw := Lib.hid hpw
          replace hnew := Lib.hid hnew
          replace hkq := Lib.hid hkq
          replace hks := Lib.hid hks
          replace hr3 := Lib.hid hr3
          clear hk1 hrr hge
          go_wp2_with (fail)
          refine C4.out.mono ?_
          rintro e W5 ⟨X5, c5, rfl, h5, b5, f5⟩
          have hB5 := hB1.below b5
          have hA5 := hA1.below b5
          have ho5 := own_below ho1 b5
          have hb5 := Below.cons hb1 b5
          have hcell : W5.drew.cell? ⟨w.heap.size, kq, none⟩ = some (.int .u32 (old : Nat)) := by
            have hz := ho5.cellAt kq (by omega)
            rw [vals_get L kq (by rw [hlen.out]; exact hkql), ← hold.out] at hz
            exact hz
          have hfz : W5.drew.frozen? ⟨w.heap.size, kq, none⟩ = false := ho5.frozenAt kq
          have ho5d := own_below ho5 (Below.refl _ _).drew
          obtain ⟨st1, st2⟩ := ho5d.stored kq (.int .u32 (new : Nat))
          have z5 := b5.size
          go_wp2_with (fail)
          go_region_with (fail)
          all_goals
            go_wp2_with (fail)
            go_roundw
            case rel =>
              refine ⟨k, r3, L.set kq new, X5, c5, 2 * Q + 1, by first | rfl | trivial, by first | rfl | trivial, by omega, ?_, hr3b, ?_, ?_, Lib.hid (by rw [List.length_set]; exact hlen.out), hlim.set _ _ s1, Lib.hid ⟨s2.out, hfin.out⟩, f5.le (by omega)⟩
              · exact (h5.below (Below.refl _ _).drew).set (fun ad e => by have := f5.1 ad e; omega) _ _
              · exact (hb5.drew).setCell (p := ⟨w.heap.size, kq, none⟩) (Nat.le_refl _) _
              · rw [vals_set]; exact st1
            case measure => simp only [intOf]; omega
        · have C4 := rsubNot_c X1 c1 r1 B d b W1 h1 hB1 (by omega) (by omega) (by omega)
          replace C4 := Lib.hid C4
          have hrb : r1 < b := by omega
          have hfin : a / 2 ^ k = 2 * Q * b + r1 := by rw [hk1, hrr, Nat.mul_add, Nat.mul_assoc]; omega
          have hvv : val L = 2 * Q * 2 ^ k := by rw [hQR.out.1, Nat.pow_succ, Nat.mul_comm (2 ^ k) 2, ← Nat.mul_assoc, Nat.mul_comm Q 2]
          replace hfin := Lib.hid hfin
          replace hvv := Lib.hid hvv
          clear hk1 hrr hge
          go_wp2_with (fail)
          refine C4.out.mono ?_
          rintro e w' ⟨rfl, rfl⟩
          go_wp2_with (fail)
          go_roundw
          case rel => exact ⟨k, r1, L, X1, c1, 2 * Q, by first | rfl | trivial, by first | rfl | trivial, by omega, h1, hrb, hb1, ho1, hlen, hlim, Lib.hid ⟨hvv.out, hfin.out⟩, f1.le (by omega)⟩
          case measure => simp only [intOf]; omega
      · skip
        have C1 := rshl_f R cr r 1 wr hR (by omega) (by decide)
        obtain ⟨r1, hr1⟩ : ∃ z, z = r * 2 ^ 1 := ⟨_, rfl⟩
        rw [← hr1] at C1
        have hr1l : nl r1 ≤ nl b + 2 := by rw [hr1]; have := nl_shl r 1; omega
        replace C1 := Lib.hid C1
        replace hr1 := Lib.hid hr1
        have htt : ((t : Int) == 1) = true := ieqT (by omega)
        replace ht := Lib.hid ht
        go_wp2_with (fail)
        refine C1.out.mono ?_
        rintro e W1 ⟨X1, c1, rfl, h1, b1, f1⟩
        have zb1 := b1.size
        have hB1 := hB0.below b1
        have hA1 := hA0.below b1
        have ho1 := own_below ho0 b1
        have hb1 := Below.cons hb0' b1
        have C2 := rbit_c A c a k W1 hA1 (by omega) (by omega)
        rw [← ht.out] at C2
        replace C2 := Lib.hid C2
        go_wp2_with (fail)
        refine C2.out.mono ?_
        rintro e w' ⟨rfl, rfl⟩
        have b2 : Below W1.heap.size W1 (W1.alloc (.cells #[.int .u32 1] 23)) := (Below.refl _ _).alloc (Nat.le_refl _) _
        have h2 := nat_one _ _ (heap_alloc_new W1 (.cells #[.int .u32 1] 23))
        have h1' := h1.below b2
        have zb2 := b2.size
        have hB2 := hB1.below b2
        have hA2 := hA1.below b2
        have ho2 := own_below ho1 b2
        have hb2 := Below.cons hb1 b2
        obtain ⟨r2, hr2⟩ : ∃ z, z = r1 + 1 := ⟨_, rfl⟩
        have hr2l : nl r2 ≤ nl b + 3 := by rw [hr2]; have := nl_add r1 1; rw [nl_one] at this; omega
        have C3 := radd_f X1 c1 r1 _ 1 1 _ h1' h2 (by omega) (by rw [nl_one]; decide)
        rw [← hr2, nl_one] at C3
        replace C3 := Lib.hid C3
        replace hr2 := Lib.hid hr2
        go_wp2_with (fail)
        refine C3.out.mono ?_
        rintro e W3 ⟨X3, c3, rfl, h3, b3, f3⟩
        have zb3 := b3.size
        have hB3 := hB2.below b3
        have hA3 := hA2.below b3
        have ho3 := own_below ho2 b3
        have hb3 := Below.cons hb2 b3
        have hrr : r2 = 2 * r + t := by rw [hr2.out, hr1.out, ht1]; omega
        have hk1 := bit_div a k
        rw [← ht.out, hQR.out.2] at hk1
        by_cases hge : b ≤ r2
        · have C4 := rsub_f X3 c3 r2 B d b W3 h3 hB3 (by omega) (by omega) hge
          obtain ⟨r3, hr3⟩ : ∃ z, z = r2 - b := ⟨_, rfl⟩
          rw [← hr3] at C4
          replace C4 := Lib.hid C4
          have hr3b : r3 < b := by omega
          have hfin : a / 2 ^ k = (2 * Q + 1) * b + r3 := by rw [hk1, hr3, Nat.add_mul, Nat.mul_add, Nat.mul_assoc]; omega
          obtain ⟨s1, s2⟩ := set_bit hlim hlen.out hQR.out.1 hk32
          obtain ⟨old, hold⟩ : ∃ z, z = gl L (k / 32) := ⟨_, rfl⟩
          rw [← hold] at s1 s2
          obtain ⟨pw', hpw⟩ : ∃ z, z = 2 ^ (k % 32) := ⟨_, rfl⟩
          rw [← hpw] at s1 s2
          obtain ⟨new, hnew⟩ : ∃ z, z = old + pw' := ⟨_, rfl⟩
          rw [← hnew] at s1 s2
          obtain ⟨kq, hkq⟩ : ∃ z, z = k / 32 := ⟨_, rfl⟩
          obtain ⟨ks, hks⟩ : ∃ z, z = k % 32 := ⟨_, rfl⟩
          rw [← hkq] at s2 hold
          rw [← hks] at hpw
          have hksl : ks < 32 := by omega
          have hkql : kq < nl a := by omega
          have kqI : (k : Int) / 32 = (kq : Int) := by omega
          have ksI : (k : Int) % 32 = (ks : Int) := by omega
          have pwI : (2 : Int) ^ ks = (pw' : Int) := by rw [hpw]; simp
          have pwl : pw' ≤ 2147483648 := by rw [hpw]; exact Nat.pow_le_pow_right (by decide) (show ks ≤ 31 by omega)
          have kqT : (k : Int).tdiv 32 = (kq : Int) := by rw [Int.tdiv_eq_ediv_of_nonneg (by omega)]; exact kqI
          have ksT : (k : Int).tmod 32 = (ks : Int) := by rw [Int.tmod_eq_emod_of_nonneg (by omega)]; exact ksI
          have kqW : IntKind.i64.wrap (kq : Int) = (kq : Int) := IntWalk.i64_in _ (by omega)
          have ksW : IntKind.i64.wrap (ks : Int) = (ks : Int) := IntWalk.i64_in _ (by omega)
          have pwW : IntKind.u32.wrap (pw' : Int) = (pw' : Int) := IntWalk.u32_in _ (by omega)
          have nwW : IntKind.u32.wrap (new : Int) = (new : Int) := IntWalk.u32_in _ (by omega)
          have nwO : IntKind.u32.wrap ((old : Int) + (pw' : Int)) = (new : Int) := by rw [show (old : Int) + (pw' : Int) = (new : Int) by omega]; exact nwW
          have nwI : (old : Int) + (pw' : Int) = (new : Int) := by omega
          replace hfin := Lib.hid hfin
          replace s2 := Lib.hid s2
          replace hold := Lib.hid hold
          replace hpw := Lib.hid hpw
          replace hnew := Lib.hid hnew
          replace hkq := Lib.hid hkq
          replace hks := Lib.hid hks
          replace hr3 := Lib.hid hr3
          clear hk1 hrr hge
          go_wp2_with (fail)
          refine C4.out.mono ?_
          rintro e W5 ⟨X5, c5, rfl, h5, b5, f5⟩
          have hB5 := hB3.below b5
          have hA5 := hA3.below b5
          have ho5 := own_below ho3 b5
          have hb5 := Below.cons hb3 b5
          have hcell : W5.drew.cell? ⟨w.heap.size, kq, none⟩ = some (.int .u32 (old : Nat)) := by
            have hz := ho5.cellAt kq (by omega)
            rw [vals_get L kq (by rw [hlen.out]; exact hkql), ← hold.out] at hz
            exact hz
          have hfz : W5.drew.frozen? ⟨w.heap.size, kq, none⟩ = false := ho5.frozenAt kq
          have ho5d := own_below ho5 (Below.refl _ _).drew
          obtain ⟨st1, st2⟩ := ho5d.stored kq (.int .u32 (new : Nat))
          have z5 := b5.size
          go_wp2_with (fail)
          go_region_with (fail)
          all_goals
            go_wp2_with (fail)
            go_roundw
            case rel =>
              refine ⟨k, r3, L.set kq new, X5, c5, 2 * Q + 1, by first | rfl | trivial, by first | rfl | trivial, by omega, ?_, hr3b, ?_, ?_, Lib.hid (by rw [List.length_set]; exact hlen.out), hlim.set _ _ s1, Lib.hid ⟨s2.out, hfin.out⟩, f5.le (by omega)⟩
              · exact (h5.below (Below.refl _ _).drew).set (fun ad e => by have := f5.1 ad e; omega) _ _
              · exact (hb5.drew).setCell (p := ⟨w.heap.size, kq, none⟩) (Nat.le_refl _) _
              · rw [vals_set]; exact st1
            case measure => simp only [intOf]; omega
        · have C4 := rsubNot_c X3 c3 r2 B d b W3 h3 hB3 (by omega) (by omega) (by omega)
          replace C4 := Lib.hid C4
          have hrb : r2 < b := by omega
          have hfin : a / 2 ^ k = 2 * Q * b + r2 := by rw [hk1, hrr, Nat.mul_add, Nat.mul_assoc]; omega
          have hvv : val L = 2 * Q * 2 ^ k := by rw [hQR.out.1, Nat.pow_succ, Nat.mul_comm (2 ^ k) 2, ← Nat.mul_assoc, Nat.mul_comm Q 2]
          replace hfin := Lib.hid hfin
          replace hvv := Lib.hid hvv
          clear hk1 hrr hge
          go_wp2_with (fail)
          refine C4.out.mono ?_
          rintro e w' ⟨rfl, rfl⟩
          go_wp2_with (fail)
          go_roundw
          case rel => exact ⟨k, r2, L, X3, c3, 2 * Q, by first | rfl | trivial, by first | rfl | trivial, by omega, h3, hrb, hb3, ho3, hlen, hlim, Lib.hid ⟨hvv.out, hfin.out⟩, f3.le (by omega)⟩
          case measure => simp only [intOf]; omega
end Go.Proofs.YtfkagknikmibjaaDoor

/- The document's Recip, Small, walked. -/
set_option linter.unusedVariables false
set_option linter.unusedSimpArgs false
namespace Go.Proofs.YtfkagknikmibjaaDoor
open Go.RowKit Go.Shelf
attribute [local go_sem] max2_i min2_i max_two min_two

/-- A quotient alone, without an error; and what divides by nothing. -/
def RetQe (w : World) (q : Nat) (e : Ending) (w' : World) : Prop := ∃ X cx, e = .returned (.tuple #[.slice X (nl q) cx, .int .i64 0]) ∧ NatV w' X cx q ∧ Below w.heap.size w w'
def RetZe (w : World) (e : Ending) (w' : World) : Prop := e = .returned (.tuple #[.slice none 0 0, .int .i64 3]) ∧ Below w.heap.size w w'
/-- A quotient and a limb. -/
def RetS (w : World) (q r : Nat) (e : Ending) (w' : World) : Prop := ∃ X cx, e = .returned (.tuple #[.slice X (nl q) cx, .int .u32 (r : Nat), .int .i64 0]) ∧ NatV w' X cx q ∧ Below w.heap.size w w'
def RetSZ (w : World) (e : Ending) (w' : World) : Prop := e = .returned (.tuple #[.slice none 0 0, .int .u32 0, .int .i64 3]) ∧ Below w.heap.size w w'
set_option maxRecDepth 100000 in
set_option maxHeartbeats 1000000 in
theorem rrecip_c (B : Option Addr) (d b n : Nat) (w : World) (hB : NatV w B d b) (hb : nl b ≤ 1048576) (hn : n ≤ 16777216) (h0 : 0 < b) :
    Calls Tryd.prog 21 #[.slice B (nl b) d, .int .i64 (n : Nat)] w (RetQe w (2 ^ n / b)) := by
  have b1 : Below w.heap.size w (w.alloc (.cells #[.int .u32 1] 23)) := (Below.refl _ _).alloc (Nat.le_refl _) _
  have h1 := nat_one _ _ (heap_alloc_new w (.cells #[.int .u32 1] 23))
  have hB1 := hB.below b1
  have C1 := rshl_c _ 1 1 n _ h1 (by rw [nl_one]; decide) (by omega)
  rw [Nat.one_mul, nl_one] at C1
  obtain ⟨p, hp⟩ : ∃ z, z = 2 ^ n := ⟨_, rfl⟩
  have hpl : nl p ≤ n / 32 + 1 := by rw [hp, nl_two_pow]; exact Nat.le_refl _
  rw [← hp] at C1
  obtain ⟨q, hq⟩ : ∃ z, z = p / b := ⟨_, rfl⟩
  have hqq : 2 ^ n / b = q := by rw [hq, hp]
  obtain ⟨r, hr⟩ : ∃ z, z = p % b := ⟨_, rfl⟩
  rw [hqq]
  replace C1 := Lib.hid C1
  replace hp := Lib.hid hp
  replace hq := Lib.hid hq
  replace hr := Lib.hid hr
  clear hqq
  go_enter Tryd.func21, Tryd.ntmps21
  go_wp2_with (fail)
  refine C1.out.mono ?_
  rintro e w1 ⟨X, cx, rfl, k1, k2⟩
  have C2 := rdiv_c X cx p B d b w1 k1 (hB1.below k2) (by omega) (by omega) h0
  rw [← hq.out, ← hr.out] at C2
  replace C2 := Lib.hid C2
  go_wp2_with (fail)
  refine C2.out.mono ?_
  rintro e w2 ⟨Y, cy, Z, cz, rfl, m1, m2, m3⟩
  go_wp2_with (fail)
  exact bodyPost_ret (v := .tuple #[.slice Y (nl q) cy, .int .i64 0]) (by simp [results, Tryd.results21, go_sem]) rfl ⟨Y, cy, rfl, m1, (b1.cons k2).cons m3⟩
set_option maxRecDepth 100000 in
set_option maxHeartbeats 1000000 in
theorem rrecipZ_c (B : Option Addr) (d b n : Nat) (w : World) (hB : NatV w B d b) (hb : nl b ≤ 1048576) (hn : n ≤ 16777216) (h0 : b = 0) :
    Calls Tryd.prog 21 #[.slice B (nl b) d, .int .i64 (n : Nat)] w (RetZe w) := by
  have b1 : Below w.heap.size w (w.alloc (.cells #[.int .u32 1] 23)) := (Below.refl _ _).alloc (Nat.le_refl _) _
  have h1 := nat_one _ _ (heap_alloc_new w (.cells #[.int .u32 1] 23))
  have hB1 := hB.below b1
  have C1 := rshl_c _ 1 1 n _ h1 (by rw [nl_one]; decide) (by omega)
  rw [Nat.one_mul, nl_one] at C1
  obtain ⟨p, hp⟩ : ∃ z, z = 2 ^ n := ⟨_, rfl⟩
  rw [← hp] at C1
  replace C1 := Lib.hid C1
  replace hp := Lib.hid hp
  replace h0 := Lib.hid h0
  go_enter Tryd.func21, Tryd.ntmps21
  go_wp2_with (fail)
  refine C1.out.mono ?_
  rintro e w1 ⟨X, cx, rfl, k1, k2⟩
  have C2 := rdivZ_c X cx p B d b w1 k1 (hB1.below k2) h0.out
  replace C2 := Lib.hid C2
  go_wp2_with (fail)
  refine C2.out.mono ?_
  rintro e w2 ⟨rfl, m3⟩
  go_wp2_with (fail)
  exact bodyPost_ret (v := .tuple #[.slice none 0 0, .int .i64 3]) (by simp [results, Tryd.results21, go_sem]) rfl ⟨rfl, (b1.cons k2).cons m3⟩
theorem rd_one (W : World) (s m : Nat) (h : W.heap[s]? = some (.cells #[.int .u32 (m : Nat)] 23 (0, 0))) : Rd W (some ⟨s, 0, none⟩) [m] := by
  refine .inr ⟨_, rfl, fun i u hu => ?_⟩
  rcases i with _ | i
  · unfold World.cell?
    rw [show (Addr.add ⟨s, 0, none⟩ 0) = ⟨s, 0, none⟩ from rfl, h]
    simpa [vals] using hu
  · simp [vals] at hu
theorem rmake1_c (W : World) (s m : Nat) (h : W.heap[s]? = some (.cells #[.int .u32 (m : Nat)] 23 (0, 0))) (hm : m < 4294967296) :
    Calls Tryd.prog 32 #[.slice (some ⟨s, 0, none⟩) 1 1] W (RetN W m) := by
  have := rmake_c (some ⟨s, 0, none⟩) 1 1 [m] W rfl (rd_one W s m h) (Lim.one hm) (by decide) (Nat.le_refl _) (fun e => by cases e)
  rwa [show val [m] = m by simp [val]] at this
theorem nl_limb {m : Nat} (h : m < 4294967296) : nl m ≤ 1 := nl_le.2 (by simpa using h)
set_option maxRecDepth 100000 in
set_option maxHeartbeats 1000000 in
theorem rsmall_c (A : Option Addr) (c a m : Nat) (w : World) (hA : NatV w A c a) (ha : nl a ≤ 1048576) (hm : m < 4294967296) (h0 : 0 < m) :
    Calls Tryd.prog 23 #[.slice A (nl a) c, .int .u32 (m : Nat)] w (RetS w (a / m) (a % m)) := by
  have b1 : Below w.heap.size w (w.alloc (.cells #[.int .u32 (m : Nat)] 23)) := (Below.refl _ _).alloc (Nat.le_refl _) _
  have C1 := rmake1_c _ _ m (heap_alloc_new w (.cells #[.int .u32 (m : Nat)] 23)) hm
  have hA1 := hA.below b1
  obtain ⟨q, hq⟩ : ∃ z, z = a / m := ⟨_, rfl⟩
  obtain ⟨r, hr⟩ : ∃ z, z = a % m := ⟨_, rfl⟩
  have hrl : r < 4294967296 := by rw [hr]; exact Nat.lt_trans (Nat.mod_lt _ h0) hm
  have hml := nl_limb hm
  have hr1 := nl_limb hrl
  rw [← hq, ← hr]
  replace C1 := Lib.hid C1
  replace hq := Lib.hid hq
  replace hr := Lib.hid hr
  go_enter Tryd.func23, Tryd.ntmps23
  go_wp2_with (fail)
  refine C1.out.mono ?_
  rintro e w1 ⟨X, cx, rfl, k1, k2⟩
  have C2 := rdiv_c A c a X cx m w1 (hA1.below k2) k1 (by omega) (by omega) h0
  rw [← hq.out, ← hr.out] at C2
  replace C2 := Lib.hid C2
  go_wp2_with (fail)
  refine C2.out.mono ?_
  rintro e w2 ⟨Y, cy, Z, cz, rfl, m1, m2, m3⟩
  have C3 := rlow_c Z cz r w2 m2 (by omega)
  replace C3 := Lib.hid C3
  go_wp2_with (fail)
  refine C3.out.mono ?_
  rintro e w' ⟨rfl, rfl⟩
  go_wp2_with (fail)
  exact bodyPost_ret (v := .tuple #[.slice Y (nl q) cy, .int .u32 (r : Nat), .int .i64 0]) (by simp [results, Tryd.results23, go_sem]) rfl ⟨Y, cy, rfl, m1, (b1.cons k2).cons m3⟩
set_option maxRecDepth 100000 in
set_option maxHeartbeats 1000000 in
theorem rsmallZ_c (A : Option Addr) (c a m : Nat) (w : World) (hA : NatV w A c a) (ha : nl a ≤ 1048576) (h0 : m = 0) :
    Calls Tryd.prog 23 #[.slice A (nl a) c, .int .u32 (m : Nat)] w (RetSZ w) := by
  have b1 : Below w.heap.size w (w.alloc (.cells #[.int .u32 (m : Nat)] 23)) := (Below.refl _ _).alloc (Nat.le_refl _) _
  have C1 := rmake1_c _ _ m (heap_alloc_new w (.cells #[.int .u32 (m : Nat)] 23)) (by omega)
  have hA1 := hA.below b1
  have C3 := fun (W : World) => rlow_c none 0 0 W (natV_nil W) (by rw [nl_zero]; decide)
  rw [nl_zero] at C3
  replace C1 := Lib.hid C1
  replace C3 := Lib.hid C3
  replace h0 := Lib.hid h0
  go_enter Tryd.func23, Tryd.ntmps23
  go_wp2_with (fail)
  refine C1.out.mono ?_
  rintro e w1 ⟨X, cx, rfl, k1, k2⟩
  have C2 := rdivZ_c A c a X cx m w1 (hA1.below k2) k1 h0.out
  replace C2 := Lib.hid C2
  go_wp2_with (fail)
  refine C2.out.mono ?_
  rintro e w2 ⟨rfl, m3⟩
  go_wp2_with (fail)
  refine (C3.out w2).mono ?_
  rintro e w' ⟨rfl, rfl⟩
  go_wp2_with (fail)
  exact bodyPost_ret (v := .tuple #[.slice none 0 0, .int .u32 0, .int .i64 3]) (by simp [results, Tryd.results23, go_sem]) rfl ⟨rfl, (b1.cons k2).cons m3⟩
end Go.Proofs.YtfkagknikmibjaaDoor
