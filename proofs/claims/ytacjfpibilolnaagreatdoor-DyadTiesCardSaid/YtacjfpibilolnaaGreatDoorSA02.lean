/- The layer of naturals: shifts. -/
import Derived.Test.YtacjfpibilolnaaGreatDoorSA01
import Derived.Deep.RegionHeld3
import Derived.Laws.AppendOwnNone
import Derived.Shelf.Small.Bits
import Derived.Shelf.Spec.BitsCarry
import Derived.Shelf.Bits.Mul64
import Derived.Test.YtacjfpibilolnaaGreatDoorProg
import Derived.Lib.ItoaNum
set_option linter.unusedVariables false
set_option linter.unusedSimpArgs false
namespace Go.Proofs.YtacjfpibilolnaaGreatDoor
open Go.RowKit Go.Shelf
attribute [local go_sem] max2_i min2_i max_two min_two

theorem or_low (x low s : Nat) (hx : x < 4294967296) (hs : s < 32) (hl : low < 2 ^ s) :
    bits .or .u32 ((x : Int) * 2 ^ s % 4294967296) (low : Int) = ((x * 2 ^ s % 4294967296 + low : Nat) : Int) ∧ x * 2 ^ s % 4294967296 + low < 4294967296 := by
  have hp : (2 : Nat) ^ s ≤ 2 ^ 31 := Nat.pow_le_pow_right (by decide) (by omega)
  have e1 : ((x : Int) * 2 ^ s % 4294967296) = ((x * 2 ^ s % 4294967296 : Nat) : Int) := by simp
  have hm : x * 2 ^ s % 4294967296 < 4294967296 := Nat.mod_lt _ (by decide)
  have e2 : (2 : Nat) ^ 32 = 2 ^ (32 - s) * 2 ^ s := by rw [← Nat.pow_add]; congr 1; omega
  have e3 : x * 2 ^ s % 4294967296 = 2 ^ s * (x % 2 ^ (32 - s)) := by
    rw [show 4294967296 = 2 ^ 32 from rfl, e2, Nat.mul_mod_mul_right, Nat.mul_comm]
  have h1 : x % 2 ^ (32 - s) + 1 ≤ 2 ^ (32 - s) := Nat.mod_lt _ (Nat.pow_pos (by decide))
  have h2 := Nat.mul_le_mul_left (2 ^ s) h1
  rw [← Nat.pow_add, show s + (32 - s) = 32 by omega, Nat.mul_add] at h2
  refine ⟨?_, ?_⟩
  · rw [e1, u32_or_nat _ _ hm (by omega), e3, ← Nat.two_pow_add_eq_or_of_lt hl]
  · rw [e3]; omega
theorem hi_low (x s : Nat) (hx : x < 4294967296) (hs : s < 32) : x * 2 ^ s / 4294967296 < 2 ^ s := by
  rw [Nat.div_lt_iff_lt_mul (by decide), Nat.mul_comm]
  exact Nat.mul_lt_mul_of_pos_left hx (Nat.pow_pos (by decide))

set_option maxRecDepth 100000 in
set_option maxHeartbeats 400000 in
theorem shl_c (A : Option Addr) (c a : Nat) (n : Nat) (w : World) (hA : NatV w A c a) (ha : nl a ≤ 1073741824) (hn : n ≤ 1073741824) (h0 : a ≠ 0) :
    Calls Tryz.prog 104 #[.slice A (nl a) c, .int .i64 (n : Int)] w (RetN w (a * 2 ^ n)) := by
  have hp := nl_pos.2 h0
  have hb0 : ((nl a : Int) == 0) = false := ieqF (by omega)
  have hmk := mk32 ((n : Int) / 32) ((n : Int) / 32 + nl a + 1) (by omega) (by omega) (by omega)
  obtain ⟨i0, hi, hz0, hz1, hz2⟩ := info_parts info_u32
  go_enter Tryz.func104, Tryz.ntmps104
  go_wp2_with (fail)
  have hs := Nat.mod_lt n (show 0 < 32 by decide)
  go_loopw [5, 7, 9, 26] (fun o lo x i wr => ∃ (k low : Nat) (L : List Nat), o = .slice (some ⟨w.heap.size, 0, none⟩) (n / 32 + k) (n / 32 + nl a + 1) ∧ i = .int .i64 k ∧ lo = .int .u32 low ∧ k ≤ nl a ∧ Below w.heap.size w wr ∧
    wr.ownsRow w.heap.size 58 1 (.slice (some ⟨w.heap.size, 0, none⟩) (n / 32 + k) (n / 32 + nl a + 1)) (n / 32 + k) (vals L) ∧ L.length = n / 32 + k ∧ Lim L ∧ Hid (val L + 4294967296 ^ (n / 32 + k) * low = val ((limbs a).take k) * 2 ^ (n % 32) * 4294967296 ^ (n / 32)) ∧ low < 2 ^ (n % 32)) (fun o lo x i wr => nl a - (intOf i).toNat)
  case atStart =>
    have e1 : ((n : Int) / 32).toNat = n / 32 := by omega
    have e2 : ((n : Int) / 32 + nl a + 1).toNat = n / 32 + nl a + 1 := by omega
    refine ⟨0, 0, List.replicate (n / 32) 0, by simp, rfl, rfl, Nat.zero_le _, ((Below.refl _ _).alloc (Nat.le_refl _) _), ?_, by simp, Lim.replicate _ _ (by decide), Lib.hid (by rw [val_replicate]; simp [val]), Nat.pow_pos (by decide)⟩
    simp only [Nat.add_zero, e2]
    refine ⟨by simp [vals], .inr ⟨w.heap.size, n / 32 + nl a + 1, _, rfl, Nat.le_refl _, heap_alloc_new w _, by omega, by simp only [maxLen]; omega, by rw [size_madeCells, Nat.mul_one], ?_⟩⟩
    rw [toList_madeCells_one, List.take_replicate, Nat.min_eq_left (by omega)]
    simp [vals]
  case round =>
    obtain ⟨k, low, L, rfl, rfl, rfl, hk, hb, hown, hlen, hlim, hval, hlow⟩ := hrel
    by_cases hlt : k < nl a
    · obtain ⟨ad, rfl, hc⟩ := (hA.rd.below hb).get k hlt
      obtain ⟨x, hx⟩ : ∃ x, gl (limbs a) k = x := ⟨_, rfl⟩
      have hxl := (lim_limbs a).gl k
      rw [hx] at hc hxl
      obtain ⟨hor, hvl⟩ := or_low x low (n % 32) hxl hs hlow
      generalize hv : x * 2 ^ (n % 32) % 4294967296 + low = v at *
      have HV := Lib.hid hv
      have HX := Lib.hid hx
      have HL := Lib.hid hlen
      clear hv hx hlen
      have hxl2 : (x : Int) < 4294967296 := by omega
      go_wp2_with (at_builtin; refine wpList_append_fits _ rfl _ _ 22 rfl w.heap.size 58 i0 1 Tryz.underlying22 hi hz1 w.heap.size (n / 32 + k) (n / 32 + nl a + 1) (vals L) rfl (hown.alloc _) ⟨wr.heap.size, 0, none⟩ 1 1 [.int .u32 (v : Nat)] rfl rfl (cell_one_new _ _ _) (by simp [Value.oneCell']) (by omega) ?_)
      intro w1 hown1 hg1
      go_wp2_with (fail)
      go_roundw
      case rel =>
        have hq : x * 2 ^ (n % 32) / 4294967296 < 2 ^ (n % 32) := hi_low x _ hxl hs
        refine ⟨k + 1, x * 2 ^ (n % 32) / 4294967296, L ++ [v], by rw [Nat.add_assoc], by go_num, ?_, by omega, ?_, ?_, ?_, ?_, Lib.hid ?_, hq⟩
        · have hp31 : (2 : Nat) ^ (n % 32) ≤ 2 ^ 31 := Nat.pow_le_pow_right (by decide) (by omega)
          have h64 : x * 2 ^ (n % 32) ≤ 4294967296 * 2 ^ 31 := Nat.mul_le_mul (by omega) hp31
          have e1 : ((x : Int) * 2 ^ (n % 32)) = ((x * 2 ^ (n % 32) : Nat) : Int) := by simp
          congr 1
          rw [e1]
          generalize x * 2 ^ (n % 32) = y at *
          have : IntKind.u64.wrap (y : Int) = (y : Int) := by
            simp only [IntKind.wrap, IntKind.bits, IntKind.signed]
            simp
            omega
          rw [this]
          omega
        · exact (hb.alloc hb.size _).grown hg1 (by simp; have := hb.size; omega) (fun k e => by cases e; exact Nat.le_refl _)
        · rw [vals_append]; exact hown1
        · simp [HL.out]; omega
        · exact hlim.append (Lim.cons hvl Lim.nil)
        · have hval := hval.out
          have hv := HV.out
          have hx := HX.out
          rw [val_snoc, HL.out, val_take_succ _ _ hlt, hx, ← hv]
          have e := Nat.div_add_mod (x * 2 ^ (n % 32)) 4294967296
          generalize x * 2 ^ (n % 32) / 4294967296 = d at *
          rw [← Nat.add_assoc, Nat.pow_succ]
          rw [Nat.pow_add] at hval ⊢
          generalize val ((limbs a).take k) = t at *
          generalize 4294967296 ^ k = p at *
          generalize 4294967296 ^ (n / 32) = r at *
          generalize x * 2 ^ (n % 32) % 4294967296 = m at *
          generalize 2 ^ (n % 32) = z at *
          grind
      case measure => simp [intOf] <;> omega
    · obtain rfl : k = nl a := by omega
      have HV := hval
      go_wp2_with (first
        | (go_at_call 109; fail)
        | (at_builtin; refine wpList_append_fits _ rfl _ _ 22 rfl w.heap.size 58 i0 1 Tryz.underlying22 hi hz1 w.heap.size (n / 32 + nl a) (n / 32 + nl a + 1) (vals L) rfl (hown.alloc _) ⟨wr.heap.size, 0, none⟩ 1 1 [.int .u32 (low : Nat)] rfl rfl (cell_one_new _ _ _) (by simp [Value.oneCell']) (by omega) ?_))
      intro w1 hown1 hg1
      obtain ⟨Y, cy, hYe, hcy, hcm, hrd⟩ := ownV_rd hown1
      cases hYe
      have hll : low < 4294967296 := by
        have : (2 : Nat) ^ (n % 32) ≤ 2 ^ 31 := Nat.pow_le_pow_right (by decide) (by omega)
        omega
      have hb2 : Below w.heap.size w w1 := (hb.alloc hb.size _).grown hg1 (by simp; have := hb.size; omega) (fun k e => by cases e; exact Nat.le_refl _)
      have hmake := make_c (some ⟨w.heap.size, 0, none⟩) (n / 32 + nl a + 1) (n / 32 + nl a + 1) (L ++ [low]) w1 (by simp [hlen]) (by unfold Rd; rw [vals_append]; exact hrd) (hlim.append (Lim.cons hll Lim.nil)) (by omega) (Nat.le_refl _)
      have hvv : val (L ++ [low]) = a * 2 ^ n := by
        have h := HV.out
        rw [take_limbs (Nat.le_refl _)] at h
        rw [val_snoc, hlen, h, Nat.mul_assoc, ← pow32, ← Nat.pow_add]
        congr 2
        omega
      rw [hvv] at hmake
      have HM := Lib.hid hmake
      clear hmake hown1 hown hrd hg1 hval hlen
      go_wp2_with (fail)
      refine HM.out.mono ?_
      rintro e w2 ⟨X, cx, rfl, h1, h2⟩
      go_wp2_with (fail)
      go_ret
      exact ⟨X, cx, rfl, h1, hb2.trans (h2.mono hb2.size)⟩
theorem nat_mod_pow_split (t s : Nat) (hs : s ≤ 32) : t / 2 ^ s % 4294967296 = t % 4294967296 / 2 ^ s + (t / 4294967296 % 4294967296) * 2 ^ (32 - s) % 4294967296 := by
  have e2 : (4294967296 : Nat) = 2 ^ s * 2 ^ (32 - s) := by rw [← Nat.pow_add, show s + (32 - s) = 32 by omega]
  have h1 : t % 4294967296 / 2 ^ s = t / 2 ^ s % 2 ^ (32 - s) := by
    rw [e2, Nat.mod_mul_right_div_self]
  have h2 : (t / 4294967296 % 4294967296) * 2 ^ (32 - s) % 4294967296 = (t / 4294967296 % 2 ^ s) * 2 ^ (32 - s) := by
    generalize t / 4294967296 = u
    rw [e2, Nat.mul_mod_mul_right, Nat.mod_mul_right_mod]
  have h3 : t / 2 ^ s % 4294967296 = t / 2 ^ s % 2 ^ (32 - s) + 2 ^ (32 - s) * (t / 2 ^ s / 2 ^ (32 - s) % 2 ^ s) := by
    rw [show (4294967296 : Nat) = 2 ^ (32 - s) * 2 ^ s by rw [Nat.mul_comm]; exact e2, Nat.mod_mul]
  rw [h1, h2, h3, Nat.div_div_eq_div_mul, ← e2, Nat.mul_comm (2 ^ (32 - s))]
theorem or_high (x y s : Nat) (hx : x < 4294967296) (hs : s ≤ 32) :
    x / 2 ^ s ||| y * 2 ^ (32 - s) % 4294967296 = x / 2 ^ s + y * 2 ^ (32 - s) % 4294967296 := by
  have e2 : (4294967296 : Nat) = 2 ^ s * 2 ^ (32 - s) := by rw [← Nat.pow_add, show s + (32 - s) = 32 by omega]
  have h1 : x / 2 ^ s < 2 ^ (32 - s) := by rw [Nat.div_lt_iff_lt_mul (Nat.pow_pos (by decide)), Nat.mul_comm, ← e2]; exact hx
  have h2 : y * 2 ^ (32 - s) % 4294967296 = 2 ^ (32 - s) * (y % 2 ^ s) := by rw [e2, Nat.mul_mod_mul_right, Nat.mul_comm]
  rw [h2, Nat.or_comm, ← Nat.two_pow_add_eq_or_of_lt h1, Nat.add_comm]

/-- The lowest m limbs of a number. -/
def digs (n m : Nat) : List Nat := (List.range m).map fun i => n / 4294967296 ^ i % 4294967296
theorem digs_len (n m) : (digs n m).length = m := by simp [digs]
theorem digs_succ (n m) : digs n (m + 1) = digs n m ++ [n / 4294967296 ^ m % 4294967296] := by simp [digs, List.range_succ]
theorem digs_lim (n m) : Lim (digs n m) := fun x hx => by
  obtain ⟨i, _, rfl⟩ := List.mem_map.1 hx
  exact Nat.mod_lt _ (by decide)
theorem digs_val (n m : Nat) : val (digs n m) = n % 4294967296 ^ m := by
  induction m with
  | zero => simp [digs, val, Nat.mod_one]
  | succ m ih => rw [digs_succ, val_snoc, digs_len, ih, Nat.pow_succ, Nat.mod_mul]

theorem shr_or (x y s : Nat) (hx : x < 4294967296) (hy : y < 4294967296) (hs : s < 32) :
    bits .or .u32 ((x : Int) / 2 ^ s) (IntKind.u32.wrap (IntKind.u64.wrap (IntKind.u64.wrap (y : Int) * 4294967296) / 2 ^ s)) = ((x / 2 ^ s + y * 2 ^ (32 - s) % 4294967296 : Nat) : Int) := by
  have w1 : IntKind.u64.wrap (y : Int) = (y : Int) := by
    simp only [IntKind.wrap, IntKind.bits, IntKind.signed]; simp; omega
  have w2 : IntKind.u64.wrap ((y : Int) * 4294967296) = ((y * 4294967296 : Nat) : Int) := by
    simp only [IntKind.wrap, IntKind.bits, IntKind.signed]; simp; omega
  have e2 : (4294967296 : Nat) = 2 ^ (32 - s) * 2 ^ s := by rw [← Nat.pow_add, show (32 - s) + s = 32 by omega]
  have w3 : (((y * 4294967296 : Nat) : Int) / 2 ^ s) = ((y * 2 ^ (32 - s) : Nat) : Int) := by
    have : ((y * 4294967296 : Nat) : Int) / 2 ^ s = ((y * 4294967296 / 2 ^ s : Nat) : Int) := by simp
    rw [this]
    congr 1
    conv => lhs; rw [e2]
    rw [← Nat.mul_assoc, Nat.mul_div_cancel _ (Nat.pow_pos (by decide))]
  have w4 : ((x : Int) / 2 ^ s) = ((x / 2 ^ s : Nat) : Int) := by simp
  have w5 : IntKind.u32.wrap ((y * 2 ^ (32 - s) : Nat) : Int) = ((y * 2 ^ (32 - s) % 4294967296 : Nat) : Int) := by
    rw [IntKind.wrap_u32]; omega
  have hx2 : x / 2 ^ s < 4294967296 := Nat.lt_of_le_of_lt (Nat.div_le_self _ _) hx
  rw [w1, w2, w3, w4, w5, u32_or_nat _ _ hx2 (Nat.mod_lt _ (by decide)), or_high x y s hx (by omega)]
set_option maxRecDepth 100000 in
set_option maxHeartbeats 400000 in
theorem shr_c0 (A : Option Addr) (c a : Nat) (n q s : Nat) (w : World) (hA : NatV w A c a) (ha : nl a ≤ 1073741824) (hs : s < 32) (hn : n = 32 * q + s) (hq : q < nl a) :
    Calls Tryz.prog 105 #[.slice A (nl a) c, .int .i64 (n : Int)] w (RetN w (a / 2 ^ n)) := by
  obtain ⟨i0, hi, hz0, hz1, hz2⟩ := info_parts info_u32
  have hn1 : (n : Int) / 32 = (q : Int) := by omega
  have hn2 : (n : Int) % 32 = (s : Int) := by omega
  have hn3 : n / 32 = q := by omega
  have hn4 : n % 32 = s := by omega
  have hb0 : decide ((nl a : Int) ≤ (q : Int)) = false := by simp; omega
  have hb1 : decide (nl a ≤ q) = false := by simp; omega
  have HN := Lib.hid hn
  clear hn
  go_enter Tryz.func105, Tryz.ntmps105
  go_wp2_with (fail)
  simp only [hn2]
  go_loopw [7, 8, 21] (fun o j i wr => ∃ k : Nat, i = .int .i64 k ∧ k ≤ nl a - q ∧ Below w.heap.size w wr ∧ wr.ownsRow w.heap.size 58 1 o k (vals (digs (a / 2 ^ n) k))) (fun o j i wr => nl a - q - (intOf i).toNat)
  case atStart => exact ⟨0, rfl, Nat.zero_le _, Below.refl _ _, World.ownsRow_nil _ _ _ _⟩
  case round =>
    obtain ⟨k, rfl, hk, hb, hown⟩ := hrel
    obtain ⟨X, cx, rfl, hcx, hcm, _⟩ := ownV_rd hown
    by_cases hlt : k < nl a - q
    · have hA1 := hA.below hb
      obtain ⟨ad, rfl, hc⟩ := hA1.rd.get (q + k) (by unfold nl at *; omega)
      have HAT := Lib.hid (at_c (some ad) (nl a) c (limbs a) (q + k + 1) wr.drew rfl hA1.rd (by omega) (by omega))
      have i2 : q + k < nl a := by omega
      have i3 : (q : Int) + (k : Int) < (nl a : Int) := by omega
      have i4 : (0 : Int) ≤ (q : Int) + (k : Int) := by omega
      obtain ⟨x, hx⟩ : ∃ x, gl (limbs a) (q + k) = x := ⟨_, rfl⟩
      obtain ⟨y, hy⟩ : ∃ y, gl (limbs a) (q + k + 1) = y := ⟨_, rfl⟩
      rw [hx] at hc
      rw [hy] at HAT
      have hxl := (lim_limbs a).gl (q + k)
      have hyl := (lim_limbs a).gl (q + k + 1)
      rw [hx] at hxl
      rw [hy] at hyl
      have HX := Lib.hid hx
      have HY := Lib.hid hy
      clear hx hy
      have hd : (k : Int) < (nl a : Int) - (q : Int) := by omega
      have z1 : IntKind.i64.wrap ((q : Int) + (k : Int)) = (q : Int) + (k : Int) := IntWalk.i64_in _ (by omega)
      have z2 : ((q : Int) + (k : Int)).toNat = q + k := by omega
      have z3 : IntKind.i64.wrap ((q : Int) + (k : Int) + 1) = (q : Int) + (k : Int) + 1 := IntWalk.i64_in _ (by omega)
      have hor := shr_or x y s hxl hyl hs
      obtain ⟨v, hv⟩ : ∃ v, x / 2 ^ s + y * 2 ^ (32 - s) % 4294967296 = v := ⟨_, rfl⟩
      rw [hv] at hor
      have HV := Lib.hid hv
      clear hv
      have hown2 := (hown.alloc (.cells #[.int .u32 (v : Nat)] 58)).drew
      have KP2 : some (ad.add (q + k)).block ≠ (Value.slice X k cx).ownBlock := fun e => by
        have h1 := own_base' hown _ e.symm
        obtain ⟨ad', e', hc'⟩ := hA.rd.get (q + k) (by unfold nl at *; omega)
        cases e'
        have h2 := World.block_lt_of_cell? w _ hc'
        omega
      have KP1 : (ad.add (q + k)).block < ((wr.alloc (.cells #[.int .u32 (v : Nat)] 58)).drew).heap.size := by
        have := World.block_lt_of_cell? wr _ hc
        show _ < (wr.alloc _).heap.size
        simp; omega
      have HB := Lib.hid hb
      clear hb
      go_wp2_with (fail)
      go_region_held3 (fun w' => w'.cell? (ad.add (q + k)) = some (.int .u32 (x : Nat))) (first | go_keep | (rw [hgrow.cell_far _ KP1 KP2]; assumption)) (first
        | (go_at_call 127; refine (Hid.out HAT).mono ?_; rintro e w' ⟨rfl, rfl⟩)
        | (refine step_append_lies _ (by rfl) _ _ _ (by rfl) w.heap.size 58 i0 _ 1 4 Tryz.underlying22 hi hz0 hz1 hz2 rfl (by omega) (.slice X k cx) k _ (by rfl) hown2 ⟨wr.heap.size, 0, none⟩ 1 1 [.int .u32 (v : Nat)] (by rfl) (by rfl) (World.news_of_block (cs := #[.int .u32 (v : Nat)]) (t := 58) (fr := (0, 0)) (heap_alloc_new wr _)) (by simp [Value.oneCell']) (by omega) (by simp only [maxLen]; omega) (by omega) (by simp; have := HB.out.size; omega) (wr.heap.size + 1) (by simp) ?_; intro gg cap w1 hown1 hgrow hat hlt))
      go_wp2_with (fail)
      go_roundw
      case rel =>
        have r1 : Below w.heap.size w w1 := ((HB.out.alloc HB.out.size _).drew).grown hgrow (by show _ ≤ (wr.alloc _).heap.size; simp; have := HB.out.size; omega) (own_base' hown)
        have e : a / 2 ^ n / 4294967296 ^ k % 4294967296 = v := by
          rw [← HV.out, ← HX.out, ← HY.out, limbs_gl, limbs_gl, HN.out, Nat.pow_add, pow32, Nat.div_div_eq_div_mul, show 4294967296 ^ q * 2 ^ s * 4294967296 ^ k = 4294967296 ^ (q + k) * 2 ^ s by rw [Nat.pow_add]; grind, ← Nat.div_div_eq_div_mul, nat_mod_pow_split _ s (by omega), Nat.pow_succ, ← Nat.div_div_eq_div_mul]
        have r2 : w1.ownsRow w.heap.size 58 1 (.slice (some ⟨gg, 0, none⟩) (k + 1) cap) (k + 1) (vals (digs (a / 2 ^ n) (k + 1))) := by
          rw [digs_succ, vals_append, e]; exact hown1
        exact ⟨k + 1, by go_num, by omega, r1, r2⟩
      case measure => simp [intOf] <;> omega
    · obtain rfl : k = nl a - q := by omega
      have hmake := make_c X (nl a - q) cx (digs (a / 2 ^ n) (nl a - q)) wr (digs_len _ _) (by obtain ⟨A', c', e, _, _, h⟩ := ownV_rd hown; cases e; exact h) (digs_lim _ _) (by omega) hcx
      have hv : val (digs (a / 2 ^ n) (nl a - q)) = a / 2 ^ n := by
        rw [digs_val, Nat.mod_eq_of_lt]
        rw [HN.out, Nat.pow_add, ← Nat.div_div_eq_div_mul]
        refine Nat.lt_of_le_of_lt (Nat.div_le_self _ _) ?_
        exact nl_le.1 (nl_shr32 a q)
      rw [hv] at hmake
      have HM := Lib.hid hmake
      have HD : (((nl a - q : Nat) : Int)) = (nl a : Int) - (q : Int) := by omega
      have HDD := Lib.hid HD
      clear hmake hown hv HD
      have hd : decide ((((nl a - q : Nat) : Int)) < (nl a : Int) - (q : Int)) = false := by simp; omega
      go_wp2_with (fail)
      refine HM.out.mono ?_
      rintro e w2 ⟨Y, cy, rfl, h1, h2⟩
      go_wp2_with (fail)
      go_ret
      exact ⟨Y, cy, rfl, h1, hb.trans (h2.mono hb.size)⟩

theorem natV_nil (w : World) : NatV w none 0 0 := ⟨by rw [limbs_zero]; exact Rd.nil, by rw [nl_zero]; exact Nat.le_refl _, by decide⟩
theorem retN_nil (w : World) : RetN w 0 (.returned (.slice none 0 0)) w := ⟨none, 0, by rw [nl_zero], natV_nil w, Below.refl _ _⟩
theorem shl_ci (A : Option Addr) (c a : Nat) (n : Int) (w : World) (hA : NatV w A c a) (ha : nl a ≤ 1073741824) (h0 : 0 ≤ n) (hn : n ≤ 1073741824) :
    Calls Tryz.prog 104 #[.slice A (nl a) c, .int .i64 n] w (RetN w (a * 2 ^ n.toNat)) := by
  obtain ⟨m, rfl⟩ := Int.eq_ofNat_of_zero_le h0
  rw [Int.toNat_natCast]
  by_cases h : a = 0
  · subst h
    have hb0 : ((nl 0 : Int) == 0) = true := ieqT (by rw [nl_zero]; rfl)
    go_enter Tryz.func104, Tryz.ntmps104
    go_wp2_with (fail)
    go_ret
    rw [Nat.zero_mul]
    exact retN_nil w
  · exact shl_c A c a m w hA ha (by omega) h
theorem shr_ci (A : Option Addr) (c a : Nat) (n : Int) (w : World) (hA : NatV w A c a) (ha : nl a ≤ 1073741824) (h0 : 0 ≤ n) (hn : n ≤ 1099511627776) :
    Calls Tryz.prog 105 #[.slice A (nl a) c, .int .i64 n] w (RetN w (a / 2 ^ n.toNat)) := by
  obtain ⟨m, rfl⟩ := Int.eq_ofNat_of_zero_le h0
  rw [Int.toNat_natCast]
  by_cases h : m / 32 < nl a
  · exact shr_c0 A c a m (m / 32) (m % 32) w hA ha (Nat.mod_lt _ (by decide)) (by omega) h
  · have hn1 : (m : Int) / 32 = ((m / 32 : Nat) : Int) := by omega
    have hb0 : decide ((nl a : Int) ≤ ((m / 32 : Nat) : Int)) = true := by simp; omega
    have hb1 : decide (nl a ≤ m / 32) = true := by simp; omega
    have e : a / 2 ^ m = 0 := by
      rw [Nat.div_eq_of_lt]
      refine Nat.lt_of_lt_of_le (nl_lt a) ?_
      rw [← pow32]
      exact Nat.pow_le_pow_right (by decide) (by omega)
    rw [e]
    have HN := Lib.hid hn1
    clear hn1
    have hb2 : decide ((nl a : Int) ≤ (m : Int) / 32) = true := by simp; omega
    go_enter Tryz.func105, Tryz.ntmps105
    go_wp2_with (fail)
    go_ret
    exact retN_nil w
end Go.Proofs.YtacjfpibilolnaaGreatDoor

/- Whole numbers, walked: what all walks over them use; Make. -/
set_option linter.unusedVariables false
set_option linter.unusedSimpArgs false
namespace Go.Proofs.YtacjfpibilolnaaGreatDoor
open Go.RowKit Go.Shelf
attribute [local go_sem] max2_i min2_i max_two min_two

def RetI (w : World) (z : Int) (e : Ending) (w' : World) : Prop := ∃ A c, e = .returned (.agg #[.bool (sg z), .slice A (nl (mg z)) c]) ∧ NatV w' A c (mg z) ∧ Below w.heap.size w w'
theorem heap_below {w w1 : World} {k : Nat} {o : Obj} (h : Below w.heap.size w w1) (hk : w.heap[k]? = some o) : w1.heap[k]? = some o := (h.block k (Array.getElem?_eq_some_iff.1 hk).1).trans hk
/-- No limb. -/
def NotU (u : Value) : Prop := ∀ x : Nat, u ≠ .int .u32 (x : Nat)
theorem notU_bool (b : Bool) : NotU (.bool b) := fun _ h => by cases h
theorem notU_slice (A : Option Addr) (n c : Nat) : NotU (.slice A n c) := fun _ h => by cases h
theorem notU_i64 (z : Int) : NotU (.int .i64 z) := fun _ h => by cases h
/-- A variable of some cells in memory. -/
structure BoxA (W : World) (k : Nat) (t : TypeId) (us : Array Value) : Prop where
  at_ : W.heap[k]? = some (.cells us t (0, 0))
section
variable {W W' : World} {k : Nat} {t : TypeId} {us : Array Value}
theorem BoxA.below (h : BoxA W k t us) (hb : Below W.heap.size W W') : BoxA W' k t us := ⟨heap_below hb h.at_⟩
theorem BoxA.c {i : Nat} {u : Value} (h : BoxA W k t us) (hi : us[i]? = some u) : W.cell? ⟨k, i, none⟩ = some u := by simp [World.cell?, h.at_, hi]
theorem BoxA.f {i : Nat} (h : BoxA W k t us) : W.frozen? ⟨k, i, none⟩ = false := by simp [World.frozen?, h.at_]
theorem BoxA.lt (h : BoxA W k t us) : k < W.heap.size := (Array.getElem?_eq_some_iff.1 h.at_).1
/-- Naturals lie where they lay when that variable is written. -/
theorem BoxA.keep (h : BoxA W k t us) (hu : ∀ u ∈ us.toList, NotU u) (hW : ∀ j, j ≠ k → W'.heap[j]? = W.heap[j]?) {A : Option Addr} {c n : Nat} (hN : NatV W A c n) : NatV W' A c n := by
  refine ⟨?_, hN.cap, hN.cmax⟩
  rcases hN.rd with h1 | ⟨ad, rfl, h1⟩
  · exact .inl h1
  · refine .inr ⟨ad, rfl, fun i u hi => ?_⟩
    have h2 := h1 i u hi
    obtain ⟨hl, he⟩ := List.getElem?_eq_some_iff.1 hi
    have hil : i < (limbs n).length := by simpa [vals] using hl
    rw [vals_get _ i hil] at hi
    cases hi
    have hne : (ad.add i).block ≠ k := fun e => by
      unfold World.cell? at h2
      rw [e, h.at_] at h2
      simp only at h2
      split at h2
      · cases h2
      · have hm := Array.mem_of_getElem? h2
        exact hu _ (Array.mem_def.1 hm) _ rfl
    rw [World.cell?_of_block (w := W) (a := ad.add i) (hW _ hne)]
    exact h2
theorem set2_far {v0 v1 : Value} (j : Nat) (hj : j ≠ k) : ((W.setCell ⟨k, 0, none⟩ v0).setCell ⟨k, 1, none⟩ v1).heap[j]? = W.heap[j]? := by
  rw [Below.heap_setCell _ _ _ _ (by simpa using hj), Below.heap_setCell _ _ _ _ (by simpa using hj)]
theorem set3_far {v0 v1 v2 : Value} (j : Nat) (hj : j ≠ k) : (((W.setCell ⟨k, 0, none⟩ v0).setCell ⟨k, 1, none⟩ v1).setCell ⟨k, 2, none⟩ v2).heap[j]? = W.heap[j]? := by
  rw [Below.heap_setCell _ _ _ _ (by simpa using hj), Below.heap_setCell _ _ _ _ (by simpa using hj), Below.heap_setCell _ _ _ _ (by simpa using hj)]
theorem BoxA.store2 {u0 u1 : Value} (h : BoxA W k t #[u0, u1]) (v0 v1 : Value) : BoxA ((W.setCell ⟨k, 0, none⟩ v0).setCell ⟨k, 1, none⟩ v1) k t #[v0, v1] := by
  have h0 := heap_setCell_same W k 0 _ _ v0 h.at_
  have h1 := heap_setCell_same _ k 1 _ _ v1 h0
  exact ⟨by simpa using h1⟩
theorem BoxA.store3 {u0 u1 u2 : Value} (h : BoxA W k t #[u0, u1, u2]) (v0 v1 v2 : Value) : BoxA (((W.setCell ⟨k, 0, none⟩ v0).setCell ⟨k, 1, none⟩ v1).setCell ⟨k, 2, none⟩ v2) k t #[v0, v1, v2] := by
  have h0 := heap_setCell_same W k 0 _ _ v0 h.at_
  have h1 := heap_setCell_same _ k 1 _ _ v1 h0
  have h2 := heap_setCell_same _ k 2 _ _ v2 h1
  exact ⟨by simpa using h2⟩
theorem BoxA.keep2 {u0 u1 v0 v1 : Value} (h : BoxA W k t #[u0, u1]) (hu : ∀ u ∈ (#[u0, u1] : Array Value).toList, NotU u) {A : Option Addr} {c n : Nat} (hN : NatV W A c n) : NatV ((W.setCell ⟨k, 0, none⟩ v0).setCell ⟨k, 1, none⟩ v1) A c n := h.keep hu (fun j hj => set2_far j hj) hN
theorem BoxA.keep3 {u0 u1 u2 v0 v1 v2 : Value} (h : BoxA W k t #[u0, u1, u2]) (hu : ∀ u ∈ (#[u0, u1, u2] : Array Value).toList, NotU u) {A : Option Addr} {c n : Nat} (hN : NatV W A c n) : NatV (((W.setCell ⟨k, 0, none⟩ v0).setCell ⟨k, 1, none⟩ v1).setCell ⟨k, 2, none⟩ v2) A c n := h.keep hu (fun j hj => set3_far j hj) hN
theorem Below.store2 {w : World} {v0 v1 : Value} (h : Below w.heap.size w W) (hk : w.heap.size ≤ k) : Below w.heap.size w ((W.setCell ⟨k, 0, none⟩ v0).setCell ⟨k, 1, none⟩ v1) := (h.setCell (p := ⟨k, 0, none⟩) hk _).setCell (p := ⟨k, 1, none⟩) hk _
theorem Below.store3 {w : World} {v0 v1 v2 : Value} (h : Below w.heap.size w W) (hk : w.heap.size ≤ k) : Below w.heap.size w (((W.setCell ⟨k, 0, none⟩ v0).setCell ⟨k, 1, none⟩ v1).setCell ⟨k, 2, none⟩ v2) := ((h.setCell (p := ⟨k, 0, none⟩) hk _).setCell (p := ⟨k, 1, none⟩) hk _).setCell (p := ⟨k, 2, none⟩) hk _
end

set_option maxRecDepth 100000 in
set_option maxHeartbeats 4000000 in
theorem imake_t (aA : Option Addr) (ac a : Nat) (z : Int) (w : World) (ha : NatV w aA ac a) (hl : nl a ≤ 1073741824) (hz : mg z = a) (hs : sg z = decide (0 < nl a)) :
    Calls Tryz.prog 64 #[.bool true, .slice aA (nl a) ac] w (RetI w z) := by
  replace hz := Lib.hid hz
  replace hs := Lib.hid hs
  have hb1 : Below (w).heap.size (w) (w.alloc (.cells #[.bool false, .slice none 0 0] 24)) := (Below.alloc (Below.refl _ _) (Nat.le_refl _) _)
  replace ha := ha.below hb1
  have HBT := hb1
  clear hb1
  have Rr : BoxA (w.alloc (.cells #[.bool false, .slice none 0 0] 24)) w.heap.size 24 #[.bool false, .slice none 0 0] := ⟨by repeat (first | exact at_new (by simp) | refine at_old (by simp <;> omega) ?_)⟩
  have qr0 := Rr.c (i := 0) rfl
  have qr1 := Rr.c (i := 1) rfl
  have C := make_c aA (nl a) ac (limbs a) _ rfl ha.rd (lim_limbs a) (by omega) ha.cap
  rw [val_limbs] at C
  replace C := Lib.hid C
  go_enter Tryz.func64, Tryz.ntmps64
  go_wp2_with (fail)
  refine C.out.mono ?_
  clear C
  rintro e W1 ⟨X, cx, rfl, hX, hb1⟩
  replace ha := ha.below hb1
  replace Rr := Rr.below hb1
  replace qr0 := cell_below hb1 qr0
  replace qr1 := cell_below hb1 qr1
  replace HBT := Below.cons HBT hb1
  clear hb1
  have fr0 := Rr.f (i := 0)
  have fr1 := Rr.f (i := 1)
  go_wp2_with (fail)
  have RS := Rr.store2 (.bool (decide (0 < nl a))) (.slice X (nl a) cx)
  have e0 := RS.c (i := 0) rfl
  have e1 := RS.c (i := 1) rfl
  refine bodyPost_ret (v := .agg #[.bool (decide (0 < nl a)), .slice X (nl a) cx]) (by simp [results, Tryz.results64, go_sem, e0, e1]) rfl ?_
  exact ⟨X, cx, by rw [hz.out, hs.out], by rw [hz.out]; exact (Rr.keep2 (by intro u hu; simp at hu; rcases hu with rfl | rfl <;> first | exact notU_bool _ | exact notU_slice _ _ _ | exact notU_i64 _) hX), (Below.store2 HBT (by first | exact Nat.le_refl _ | omega))⟩
set_option maxRecDepth 100000 in
set_option maxHeartbeats 4000000 in
theorem imake_f (aA : Option Addr) (ac a : Nat) (z : Int) (w : World) (ha : NatV w aA ac a) (hl : nl a ≤ 1073741824) (hz : mg z = a) (hs : sg z = false) :
    Calls Tryz.prog 64 #[.bool false, .slice aA (nl a) ac] w (RetI w z) := by
  replace hz := Lib.hid hz
  replace hs := Lib.hid hs
  have hb1 : Below (w).heap.size (w) (w.alloc (.cells #[.bool false, .slice none 0 0] 24)) := (Below.alloc (Below.refl _ _) (Nat.le_refl _) _)
  replace ha := ha.below hb1
  have HBT := hb1
  clear hb1
  have Rr : BoxA (w.alloc (.cells #[.bool false, .slice none 0 0] 24)) w.heap.size 24 #[.bool false, .slice none 0 0] := ⟨by repeat (first | exact at_new (by simp) | refine at_old (by simp <;> omega) ?_)⟩
  have qr0 := Rr.c (i := 0) rfl
  have qr1 := Rr.c (i := 1) rfl
  have C := make_c aA (nl a) ac (limbs a) _ rfl ha.rd (lim_limbs a) (by omega) ha.cap
  rw [val_limbs] at C
  replace C := Lib.hid C
  go_enter Tryz.func64, Tryz.ntmps64
  go_wp2_with (fail)
  refine C.out.mono ?_
  clear C
  rintro e W1 ⟨X, cx, rfl, hX, hb1⟩
  replace ha := ha.below hb1
  replace Rr := Rr.below hb1
  replace qr0 := cell_below hb1 qr0
  replace qr1 := cell_below hb1 qr1
  replace HBT := Below.cons HBT hb1
  clear hb1
  have fr0 := Rr.f (i := 0)
  have fr1 := Rr.f (i := 1)
  go_wp2_with (fail)
  have RS := Rr.store2 (.bool false) (.slice X (nl a) cx)
  have e0 := RS.c (i := 0) rfl
  have e1 := RS.c (i := 1) rfl
  refine bodyPost_ret (v := .agg #[.bool false, .slice X (nl a) cx]) (by simp [results, Tryz.results64, go_sem, e0, e1]) rfl ?_
  exact ⟨X, cx, by rw [hz.out, hs.out], by rw [hz.out]; exact (Rr.keep2 (by intro u hu; simp at hu; rcases hu with rfl | rfl <;> first | exact notU_bool _ | exact notU_slice _ _ _ | exact notU_i64 _) hX), (Below.store2 HBT (by first | exact Nat.le_refl _ | omega))⟩
/-- What Make makes of a sign and a natural. -/
def ival (s : Bool) (a : Nat) : Int := if s then -(a : Int) else a
theorem mg_ival (s : Bool) (a : Nat) : mg (ival s a) = a := by
  unfold mg ival; cases s <;> simp
theorem sg_ival_t (a : Nat) : sg (ival true a) = decide (0 < nl a) := by
  unfold sg ival
  have := @nl_pos a
  simp only [if_true]
  rw [decide_eq_decide, this]; omega
theorem sg_ival_f (a : Nat) : sg (ival false a) = false := by
  unfold sg ival; simp
theorem imake_c (s : Bool) (aA : Option Addr) (ac a : Nat) (w : World) (ha : NatV w aA ac a) (hl : nl a ≤ 1073741824) :
    Calls Tryz.prog 64 #[.bool s, .slice aA (nl a) ac] w (RetI w (ival s a)) := by
  cases s
  · exact imake_f aA ac a _ w ha hl (mg_ival _ _) (sg_ival_f a)
  · exact imake_t aA ac a _ w ha hl (mg_ival _ _) (sg_ival_t a)
theorem ival_sm (z : Int) : ival (sg z) (mg z) = z := by
  unfold ival sg mg
  by_cases h : z < 0
  · simp [h]; omega
  · simp [h]; omega
end Go.Proofs.YtacjfpibilolnaaGreatDoor

/- Products, limb by limb; parts; differences. -/
set_option linter.unusedVariables false
set_option linter.unusedSimpArgs false
namespace Go.Proofs.YtacjfpibilolnaaGreatDoor
open Go.RowKit Go.Shelf
attribute [local go_sem] max2_i min2_i max_two min_two

theorem gl_set_ne {l : List Nat} {i j x : Nat} (h : i ≠ j) : gl (l.set i x) j = gl l j := by
  simp [gl, List.getD_eq_getElem?_getD, List.getElem?_set_ne h]
theorem vals_set (l : List Nat) (i x : Nat) : vals (l.set i x) = (vals l).set i (.int .u32 (x : Nat)) := by simp [vals, List.map_set]
theorem mul_bdI {x y : Nat} (hx : x < 4294967296) (hy : y < 4294967296) : 0 ≤ (x : Int) * (y : Int) ∧ (x : Int) * (y : Int) ≤ 18446744065119617025 := by
  have h : x * y ≤ 18446744065119617025 := Nat.mul_le_mul (show x ≤ 4294967295 by omega) (show y ≤ 4294967295 by omega)
  rw [← Int.natCast_mul]
  generalize x * y = z at *
  omega
theorem mul_bd {x y : Nat} (hx : x < 4294967296) (hy : y < 4294967296) : x * y ≤ 18446744065119617025 :=
  Nat.mul_le_mul (show x ≤ 4294967295 by omega) (show y ≤ 4294967295 by omega)




end Go.Proofs.YtacjfpibilolnaaGreatDoor

/- Products by halves and by thirds: what they are made of. -/
set_option linter.unusedVariables false
set_option linter.unusedSimpArgs false
namespace Go.Proofs.YtacjfpibilolnaaGreatDoor
open Go.RowKit Go.Shelf
attribute [local go_sem] max2_i min2_i max_two min_two

theorem shl_e (A : Option Addr) (c a : Nat) (n : Int) (m : Nat) (w : World) (hA : NatV w A c a) (ha : nl a ≤ 1073741824) (hn : n = (m : Int)) (hm : m ≤ 1073741824) :
    Calls Tryz.prog 104 #[.slice A (nl a) c, .int .i64 n] w (RetN w (a * 2 ^ m)) := by
  subst hn
  have := shl_ci A c a (m : Int) w hA ha (by omega) (by omega)
  rwa [Int.toNat_natCast] at this
theorem shr_e (A : Option Addr) (c a : Nat) (n : Int) (m : Nat) (w : World) (hA : NatV w A c a) (ha : nl a ≤ 1073741824) (hn : n = (m : Int)) (hm : m ≤ 1099511627776) :
    Calls Tryz.prog 105 #[.slice A (nl a) c, .int .i64 n] w (RetN w (a / 2 ^ m)) := by
  subst hn
  have := shr_ci A c a (m : Int) w hA ha (by omega) (by omega)
  rwa [Int.toNat_natCast] at this



end Go.Proofs.YtacjfpibilolnaaGreatDoor

/- Plain numbers for division: windows of a row of limbs, a digit guessed of leading limbs, one step of division by school. No Go in it. -/
set_option linter.unusedVariables false
set_option linter.unusedSimpArgs false
namespace Go.Proofs.YtacjfpibilolnaaGreatDoor

/-- The value of m limbs of a row, from place i on (0 beyond its end). -/
def wnd (X : List Nat) (i : Nat) : Nat → Nat
  | 0 => 0
  | m + 1 => wnd X i m + 4294967296 ^ m * gl X (i + m)
theorem wnd_lt {X : List Nat} (h : Lim X) (i m : Nat) : wnd X i m < 4294967296 ^ m := by
  induction m with
  | zero => simp [wnd]
  | succ m ih =>
    have := h.gl (i + m)
    have h2 := Nat.mul_le_mul_left (4294967296 ^ m) (show gl X (i + m) + 1 ≤ 4294967296 by omega)
    rw [wnd, Nat.pow_succ]
    rw [Nat.mul_add, Nat.mul_one] at h2
    omega
theorem wnd_congr {X Y : List Nat} {i m : Nat} (h : ∀ j, j < m → gl X (i + j) = gl Y (i + j)) : wnd X i m = wnd Y i m := by
  induction m with
  | zero => rfl
  | succ m ih => rw [wnd, wnd, ih (fun j hj => h j (by omega)), h m (by omega)]
theorem wnd_add (X : List Nat) (i m k : Nat) : wnd X i (m + k) = wnd X i m + 4294967296 ^ m * wnd X (i + m) k := by
  induction k with
  | zero => simp [wnd]
  | succ k ih => rw [← Nat.add_assoc, wnd, ih, wnd, Nat.mul_add, Nat.pow_add, Nat.add_assoc i m k]; grind
theorem wnd_val (X : List Nat) (m : Nat) (h : X.length ≤ m) : wnd X 0 m = val X := by
  have key : ∀ m, m ≤ X.length → wnd X 0 m = val (X.take m) := by
    intro m
    induction m with
    | zero => intro _; simp [wnd, val]
    | succ m ih => intro hm; rw [wnd, ih (by omega), val_take_succ _ _ (by omega), Nat.zero_add]
  have h0 : ∀ k, wnd X X.length k = 0 := by
    intro k
    induction k with
    | zero => rfl
    | succ k ih => rw [wnd, ih, gl_of_le (by omega)]; simp
  obtain ⟨k, rfl⟩ : ∃ k, m = X.length + k := ⟨m - X.length, by omega⟩
  rw [wnd_add, Nat.zero_add, h0, key _ (Nat.le_refl _), List.take_of_length_le (Nat.le_refl _)]; simp
theorem wnd_zero {X : List Nat} {i m : Nat} (h : ∀ j, j < m → gl X (i + j) = 0) : wnd X i m = 0 := by
  induction m with
  | zero => rfl
  | succ m ih => rw [wnd, ih (fun j hj => h j (by omega)), h m (by omega)]; simp
theorem wnd_eq_div {X : List Nat} (h : Lim X) (i m : Nat) (hz : ∀ j, i + m ≤ j → gl X j = 0) : wnd X i m = val X / 4294967296 ^ i := by
  have e : val X = wnd X 0 i + 4294967296 ^ i * wnd X i m := by
    rw [← wnd_val X (i + m + X.length) (by omega), wnd_add, wnd_add, Nat.zero_add, Nat.zero_add, wnd_zero (i := i + m) (fun j _ => hz _ (by omega))]; simp
  have hl := wnd_lt h 0 i
  rw [e, Nat.add_mul_div_left _ _ (Nat.pow_pos (by decide)), Nat.div_eq_of_lt hl]; omega

/-! A digit, guessed of three limbs and two. -/
def dig3 (x2 x1 x0 y1 y0 : Nat) : Nat := min ((x2 * 4294967296 * 4294967296 + x1 * 4294967296 + x0) / (y1 * 4294967296 + y0)) 4294967295
theorem dig3_lt (x2 x1 x0 y1 y0 : Nat) : dig3 x2 x1 x0 y1 y0 < 4294967296 := by unfold dig3; omega
theorem dig3_start {x2 x1 x0 y1 y0 : Nat} (hy : 0 < y1) (hx0 : x0 < 4294967296) : dig3 x2 x1 x0 y1 y0 ≤ (x2 * 4294967296 + x1) / y1 := by
  refine Nat.le_trans (Nat.min_le_left _ _) ?_
  have h1 : (x2 * 4294967296 * 4294967296 + x1 * 4294967296 + x0) / (y1 * 4294967296 + y0) ≤ (x2 * 4294967296 * 4294967296 + x1 * 4294967296 + x0) / (y1 * 4294967296) := Nat.div_le_div_left (by omega) (by omega)
  refine Nat.le_trans h1 ?_
  rw [Nat.mul_comm y1, ← Nat.div_div_eq_div_mul]
  have e : (x2 * 4294967296 * 4294967296 + x1 * 4294967296 + x0) / 4294967296 = x2 * 4294967296 + x1 := by omega
  rw [e]; exact Nat.le_refl _
theorem dig3_step {q r x2 x1 x0 y1 y0 : Nat} (hi : q * y1 + r = x2 * 4294967296 + x1) (hq : dig3 x2 x1 x0 y1 y0 ≤ q) (h : 4294967296 ≤ q ∨ r * 4294967296 + x0 < q * y0) (hy : 0 < y1) :
    1 ≤ q ∧ dig3 x2 x1 x0 y1 y0 ≤ q - 1 ∧ (q - 1) * y1 + (r + y1) = x2 * 4294967296 + x1 := by
  have h1 : 1 ≤ q := by
    rcases h with h | h
    · omega
    · rcases Nat.eq_zero_or_pos q with e | e
      · subst e; simp at h
      · exact e
  refine ⟨h1, ?_, ?_⟩
  · have : dig3 x2 x1 x0 y1 y0 < q := by
      rcases h with h | h
      · have := dig3_lt x2 x1 x0 y1 y0; omega
      · refine Nat.lt_of_le_of_lt (Nat.min_le_left _ _) ?_
        rw [Nat.div_lt_iff_lt_mul (by omega), Nat.mul_add, ← Nat.mul_assoc q y1]
        generalize q * y1 = u at *
        generalize q * y0 = v at *
        have e : x2 * 4294967296 * 4294967296 + x1 * 4294967296 = u * 4294967296 + r * 4294967296 := by rw [← Nat.add_mul, ← hi, Nat.add_mul]
        rw [e, Nat.add_assoc]
        exact Nat.add_lt_add_left h _
    omega
  · obtain ⟨k, rfl⟩ : ∃ k, q = k + 1 := ⟨q - 1, by omega⟩
    rw [Nat.add_sub_cancel, ← hi, Nat.succ_mul]; omega
theorem dig3_done {q r x2 x1 x0 y1 y0 : Nat} (hi : q * y1 + r = x2 * 4294967296 + x1) (hq : dig3 x2 x1 x0 y1 y0 ≤ q) (h : q < 4294967296) (h2 : q * y0 ≤ r * 4294967296 + x0) (hy : 0 < y1) : q = dig3 x2 x1 x0 y1 y0 := by
  refine Nat.le_antisymm ?_ hq
  unfold dig3
  rw [Nat.le_min]
  refine ⟨?_, by omega⟩
  rw [Nat.le_div_iff_mul_le (by omega), Nat.mul_add, ← Nat.mul_assoc q y1]
  generalize q * y1 = u at *
  generalize q * y0 = v at *
  omega
theorem dig3_brk {q r x2 x1 x0 y1 y0 : Nat} (hi : q * y1 + r = x2 * 4294967296 + x1) (hq : dig3 x2 x1 x0 y1 y0 ≤ q) (h : 4294967296 ≤ r) (hx : x2 ≤ y1) (hx1 : x1 < 4294967296) (hy0 : y0 < 4294967296) (hy : 0 < y1) : q = dig3 x2 x1 x0 y1 y0 := by
  have h1 : q * y1 < 4294967296 * y1 := by omega
  have h2 : q < 4294967296 := Nat.lt_of_mul_lt_mul_right h1
  refine dig3_done hi hq h2 ?_ hy
  have := Nat.mul_le_mul (show q ≤ 4294967295 by omega) (show y0 ≤ 4294967295 by omega)
  omega
/-- The guessed digit is the digit, or one more. -/
theorem dig3_ok {W y x2 x1 x0 y1 y0 P wl yl : Nat} (hW : W = (x2 * 4294967296 * 4294967296 + x1 * 4294967296 + x0) * P + wl) (hy : y = (y1 * 4294967296 + y0) * P + yl) (hwl : wl < P) (hyl : yl < P) (h1 : 0 < y1) (hlt : W < y * 4294967296) :
    W / y ≤ dig3 x2 x1 x0 y1 y0 ∧ dig3 x2 x1 x0 y1 y0 ≤ W / y + 1 := by
  obtain ⟨X, hX⟩ : ∃ X, X = x2 * 4294967296 * 4294967296 + x1 * 4294967296 + x0 := ⟨_, rfl⟩
  obtain ⟨Y, hY⟩ : ∃ Y, Y = y1 * 4294967296 + y0 := ⟨_, rfl⟩
  have hYb : 4294967296 ≤ Y := by omega
  have hP : 0 < P := by omega
  unfold dig3
  rw [← hX] at hW ⊢
  rw [← hY] at hy ⊢
  clear hX hY
  have hy0 : 0 < y := by rw [hy]; have := Nat.mul_pos (show 0 < Y by omega) hP; omega
  constructor
  · rw [Nat.le_min]
    refine ⟨?_, ?_⟩
    · rw [Nat.le_div_iff_mul_le (by omega)]
      have h2 := Nat.div_mul_le_self W y
      generalize W / y = Q at *
      have h3 : Q * Y * P ≤ X * P + wl := by
        rw [← hW, Nat.mul_assoc]
        refine Nat.le_trans (Nat.mul_le_mul_left Q (show Y * P ≤ y by omega)) h2
      have h4 : Q * Y * P < (X + 1) * P := by rw [Nat.succ_mul]; omega
      have := Nat.lt_of_mul_lt_mul_right h4
      omega
    · have : W / y < 4294967296 := (Nat.div_lt_iff_lt_mul hy0).2 (by rw [Nat.mul_comm]; exact hlt)
      omega
  · obtain ⟨g, hg⟩ : ∃ g, g = min (X / Y) 4294967295 := ⟨_, rfl⟩
    rw [← hg]
    by_cases g0 : g = 0
    · rw [g0]; exact Nat.zero_le _
    have g1 : g ≤ X / Y := by omega
    have g2 : g ≤ 4294967295 := by omega
    have g3 : g * Y ≤ X := (Nat.le_div_iff_mul_le (by omega)).1 g1
    have : g - 1 ≤ W / y := by
      rw [Nat.le_div_iff_mul_le hy0]
      obtain ⟨k, rfl⟩ : ∃ k, g = k + 1 := ⟨g - 1, by omega⟩
      rw [Nat.add_sub_cancel, hy, hW, Nat.mul_add]
      rw [Nat.succ_mul] at g3
      have h5 : k * yl ≤ k * P := Nat.mul_le_mul_left k (by omega)
      have h6 : k * (Y * P) + k * P ≤ X * P := by
        rw [← Nat.mul_assoc, ← Nat.add_mul]
        exact Nat.mul_le_mul_right P (by omega)
      omega
    omega
/-! One step of division by school. -/
theorem take_fin0 {W y g w : Nat} (h : w + g * y = W) (h1 : W / y ≤ g) (hy : 0 < y) : g = W / y ∧ w = W % y := by
  have h2 : g ≤ W / y := by rw [Nat.le_div_iff_mul_le hy]; omega
  have e : g = W / y := Nat.le_antisymm h2 h1
  refine ⟨e, ?_⟩
  have h3 := Nat.div_add_mod W y
  rw [← e, Nat.mul_comm] at h3
  omega
theorem take_fin1 {W y g w w2 c P : Nat} (h : w + g * y = W + P) (hw : w < P) (h1 : g ≤ W / y + 1) (hb : w2 + P * c = w + y) (hw2 : w2 < P) (hyP : y ≤ P) (hy : 0 < y) : 1 ≤ g ∧ g - 1 = W / y ∧ w2 = W % y := by
  have h2 : W / y < g := by
    rw [Nat.div_lt_iff_lt_mul hy]; omega
  have e : g = W / y + 1 := by omega
  have h3 := Nat.div_add_mod W y
  have h4 := Nat.mod_lt W hy
  rw [Nat.mul_comm] at h3
  rw [e, Nat.succ_mul] at h
  generalize W / y * y = z at *
  have h5 : w + y = W % y + P := by omega
  refine ⟨by rw [e]; exact Nat.le_add_left 1 _, by rw [e, Nat.add_sub_cancel], ?_⟩
  rw [h5] at hb
  have hc : c = 1 := by
    rcases c with _ | _ | c
    · simp at hb; omega
    · rfl
    · rw [Nat.mul_add, Nat.mul_add] at hb
      have := Nat.zero_le (P * c)
      omega
  subst hc
  omega
theorem digit_split (V y P : Nat) : V = V / P / y * y * P + (V % P + P * (V / P % y)) := by
  have h1 := Nat.div_add_mod V P
  have h2 := Nat.div_add_mod (V / P) y
  generalize V % P = r at *
  generalize V / P % y = s at *
  generalize V / P / y = q at *
  generalize V / P = d at *
  rw [← h1, ← h2]
  grind
theorem digit_less {V y P : Nat} (hy : 0 < y) (hP : 0 < P) : V % P + P * (V / P % y) < y * P := by
  have h1 := Nat.mod_lt V hP
  have h2 := Nat.mod_lt (V / P) hy
  generalize V % P = r at *
  generalize V / P % y = s at *
  have := Nat.mul_le_mul_right P (show s + 1 ≤ y from h2)
  rw [Nat.succ_mul] at this
  rw [Nat.mul_comm P s]
  omega
theorem rest_shift {a b Q R s : Nat} (h : a * 2 ^ s = Q * (b * 2 ^ s) + R) (hR : R < b * 2 ^ s) (hb : 0 < b) : Q = a / b ∧ R / 2 ^ s = a % b := by
  have hp := Nat.two_pow_pos s
  have h1 : a * 2 ^ s / (b * 2 ^ s) = Q := by
    rw [h, Nat.mul_comm Q, Nat.mul_add_div (by exact Nat.mul_pos hb hp), Nat.div_eq_of_lt hR]; omega
  have h2 : a * 2 ^ s % (b * 2 ^ s) = R := by rw [h, Nat.mul_comm Q, Nat.mul_add_mod, Nat.mod_eq_of_lt hR]
  rw [Nat.mul_div_mul_right _ _ hp] at h1
  rw [Nat.mul_mod_mul_right] at h2
  exact ⟨h1.symm, by rw [← h2, Nat.mul_div_cancel _ hp]⟩
end Go.Proofs.YtacjfpibilolnaaGreatDoor

/- Naturals that lie in memory of their own: Clone, Make, Shl, with who owns what they make. -/
set_option linter.unusedVariables false
set_option linter.unusedSimpArgs false
namespace Go.Proofs.YtacjfpibilolnaaGreatDoor
open Go.RowKit Go.Shelf
attribute [local go_sem] max2_i min2_i max_two min_two

/-- What a call that makes a natural leaves: it owns its memory. -/
def RetO (w : World) (n : Nat) (e : Ending) (w' : World) : Prop := ∃ v, e = .returned v ∧ w'.ownsRow w.heap.size 58 1 v (nl n) (vals (limbs n)) ∧ Below w.heap.size w w'
theorem own_le {w : World} {b b' n : Nat} {v : Value} {xs : List Value} (h : w.ownsRow b 58 1 v n xs) (hb : b' ≤ b) : w.ownsRow b' 58 1 v n xs := by
  rcases h with ⟨h1, h2 | ⟨g, cap, cur, e, h3, h4⟩⟩
  · exact ⟨h1, .inl h2⟩
  · exact ⟨h1, .inr ⟨g, cap, cur, e, Nat.le_trans hb h3, h4⟩⟩
set_option maxRecDepth 100000 in
set_option maxHeartbeats 400000 in
theorem clone_o (A : Option Addr) (n c : Nat) (l : List Nat) (w : World) (hn : l.length = n) (h : Rd w A l) (hl : n ≤ 1099511627776) :
  Calls Tryz.prog 130 #[.slice A n c] w fun e w' => ∃ v, e = .returned v ∧ w'.ownsRow w.heap.size 58 1 v n (vals l) ∧ Below w.heap.size w w' := by
  subst hn
  have hnil := fun (a : Option Addr) (n : Nat) (w : World) => Lib.run_eql_slice_nil (P := Tryz.prog) w 22 58 a n c 0 0 Tryz.underlying22
  obtain ⟨i0, hi, hz0, hz1, hz2⟩ := info_parts info_u32
  cases A with
  | none =>
    have hl0 : l = [] := by
      rcases h with h | ⟨ad, e, _⟩
      · exact List.map_eq_nil_iff.1 h
      · cases e
    subst hl0
    go_enter Tryz.func130, Tryz.ntmps130
    go_wp2
    go_ret
    exact ⟨.slice none 0 0, rfl, World.ownsRow_nil _ _ _ _, Below.refl _ _⟩
  | some ad =>
    go_enter Tryz.func130, Tryz.ntmps130
    have hb1 : Below w.heap.size w (w.alloc (.cells #[] 58)) := (Below.refl _ _).alloc (Nat.le_refl _) _
    go_wp2_with (at_builtin; refine wpList_append_own_at _ rfl _ _ 22 rfl w.heap.size 58 i0 (.int .u32 0) 1 4 Tryz.underlying22 hi hz0 hz1 hz2 rfl (by decide) _ 0 [] rfl (World.ownsRow_lit w #[] 0 (Nat.le_refl _) (by decide) rfl) ad l.length c (vals l) rfl (by simp [vals]) (h.below hb1).cells (vals_one l) (by simp only [maxLen]; omega) (by omega) (by simp) ?_)
    intro v' w1 hown hg _ _
    (try simp only [Nat.zero_add, List.nil_append] at hown)
    have HOWN := Lib.hid hown
    clear hown
    have hb2 : Below w.heap.size w w1 := hb1.grown hg (by simp) (fun k hk => by simp [Value.ownBlock] at hk; omega)
    clear hg
    go_wp2
    go_ret
    exact ⟨_, rfl, HOWN.out, hb2⟩

set_option maxRecDepth 100000 in
set_option maxHeartbeats 400000 in
theorem make_o (A : Option Addr) (n c : Nat) (l : List Nat) (w : World) (hn : l.length = n) (h : Rd w A l) (hL : Lim l) (hl : n ≤ 1099511627776) (hc : n ≤ c) :
    Calls Tryz.prog 109 #[.slice A n c] w (RetO w (val l)) := by
  subst hn
  have fin : ∀ k, k ≤ l.length → (∀ i, k ≤ i → i < l.length → gl l i = 0) → (k = 0 ∨ gl l (k - 1) ≠ 0) → Calls Tryz.prog 130 #[.slice A k c] w (RetO w (val l)) := fun k hk h0 h1 => by
    have e := take_make hL hk h0 h1
    have e2 : k = nl (val l) := by unfold nl; rw [← e, List.length_take, Nat.min_eq_left hk]
    refine (clone_o A k c (l.take k) w (by simp [hk]) ?_ (by omega)).mono ?_
    · rcases h with h | ⟨ad, rfl, h⟩
      · exact .inl (by simp [vals] at h ⊢; simp [h])
      · refine .inr ⟨ad, rfl, fun i u hu => h i u ?_⟩
        simp only [vals, List.map_take] at hu ⊢
        by_cases hik : i < k
        · rwa [List.getElem?_take_of_lt hik] at hu
        · rw [List.getElem?_take_eq_none (by omega)] at hu; cases hu
    · rintro e' w' ⟨v, rfl, h3, h4⟩
      exact ⟨v, rfl, by rw [← e2, ← e]; exact h3, h4⟩
  go_enter Tryz.func109, Tryz.ntmps109
  go_wp2_with (fail)
  go_loop [3] (fun v => ∃ k : Nat, v = .int .i64 k ∧ k ≤ l.length ∧ ∀ i, k ≤ i → i < l.length → gl l i = 0) (fun v => (intOf v).toNat)
  case atStart => exact ⟨l.length, rfl, Nat.le_refl _, fun i h1 h2 => by omega⟩
  case round =>
    obtain ⟨k, rfl, hk, h0⟩ := hrel
    have H0 := Lib.hid h0
    have FIN := Lib.hid fin
    clear h0 fin
    cases k with
    | zero =>
      go_wp2_with (fail)
      refine (FIN.out 0 (by omega) H0.out (.inl rfl)).mono ?_
      rintro e w1 ⟨v, rfl, h1, h2⟩
      replace h1 := Lib.hid h1
      go_wp2_with (fail)
      go_ret
      exact ⟨v, rfl, h1.out, h2⟩
    | succ k =>
      obtain ⟨ad, rfl, hcell⟩ := h.get k (by omega)
      by_cases hz : gl l k = 0
      · have hb : ((gl l k : Int) == 0) = true := ieqT (by omega)
        have HZ := Lib.hid hz
        clear hz
        go_wp2_with (fail)
        go_round
        case rel => exact ⟨k, by go_num, by omega, fun i h1 h2 => by
          by_cases e : i = k
          · rw [e]; exact HZ.out
          · exact H0.out i (by omega) h2⟩
        case measure => simp [intOf] <;> omega
      · have hb : ((gl l k : Int) == 0) = false := ieqF (by omega)
        go_wp2_with (fail)
        refine (FIN.out (k + 1) (by omega) H0.out (.inr hz)).mono ?_
        rintro e w1 ⟨v, rfl, h1, h2⟩
        replace h1 := Lib.hid h1
        go_wp2_with (fail)
        go_ret
        exact ⟨v, rfl, h1.out, h2⟩
set_option maxRecDepth 100000 in
set_option maxHeartbeats 400000 in
theorem shl_o (A : Option Addr) (c a : Nat) (n : Nat) (w : World) (hA : NatV w A c a) (ha : nl a ≤ 1073741824) (hn : n ≤ 1073741824) (h0 : a ≠ 0) :
    Calls Tryz.prog 104 #[.slice A (nl a) c, .int .i64 (n : Int)] w (RetO w (a * 2 ^ n)) := by
  have hp := nl_pos.2 h0
  have hb0 : ((nl a : Int) == 0) = false := ieqF (by omega)
  have hmk := mk32 ((n : Int) / 32) ((n : Int) / 32 + nl a + 1) (by omega) (by omega) (by omega)
  obtain ⟨i0, hi, hz0, hz1, hz2⟩ := info_parts info_u32
  go_enter Tryz.func104, Tryz.ntmps104
  go_wp2_with (fail)
  have hs := Nat.mod_lt n (show 0 < 32 by decide)
  go_loopw [5, 7, 9, 26] (fun o lo x i wr => ∃ (k low : Nat) (L : List Nat), o = .slice (some ⟨w.heap.size, 0, none⟩) (n / 32 + k) (n / 32 + nl a + 1) ∧ i = .int .i64 k ∧ lo = .int .u32 low ∧ k ≤ nl a ∧ Below w.heap.size w wr ∧
    wr.ownsRow w.heap.size 58 1 (.slice (some ⟨w.heap.size, 0, none⟩) (n / 32 + k) (n / 32 + nl a + 1)) (n / 32 + k) (vals L) ∧ L.length = n / 32 + k ∧ Lim L ∧ Hid (val L + 4294967296 ^ (n / 32 + k) * low = val ((limbs a).take k) * 2 ^ (n % 32) * 4294967296 ^ (n / 32)) ∧ low < 2 ^ (n % 32)) (fun o lo x i wr => nl a - (intOf i).toNat)
  case atStart =>
    have e1 : ((n : Int) / 32).toNat = n / 32 := by omega
    have e2 : ((n : Int) / 32 + nl a + 1).toNat = n / 32 + nl a + 1 := by omega
    refine ⟨0, 0, List.replicate (n / 32) 0, by simp, rfl, rfl, Nat.zero_le _, ((Below.refl _ _).alloc (Nat.le_refl _) _), ?_, by simp, Lim.replicate _ _ (by decide), Lib.hid (by rw [val_replicate]; simp [val]), Nat.pow_pos (by decide)⟩
    simp only [Nat.add_zero, e2]
    refine ⟨by simp [vals], .inr ⟨w.heap.size, n / 32 + nl a + 1, _, rfl, Nat.le_refl _, heap_alloc_new w _, by omega, by simp only [maxLen]; omega, by rw [size_madeCells, Nat.mul_one], ?_⟩⟩
    rw [toList_madeCells_one, List.take_replicate, Nat.min_eq_left (by omega)]
    simp [vals]
  case round =>
    obtain ⟨k, low, L, rfl, rfl, rfl, hk, hb, hown, hlen, hlim, hval, hlow⟩ := hrel
    by_cases hlt : k < nl a
    · obtain ⟨ad, rfl, hc⟩ := (hA.rd.below hb).get k hlt
      obtain ⟨x, hx⟩ : ∃ x, gl (limbs a) k = x := ⟨_, rfl⟩
      have hxl := (lim_limbs a).gl k
      rw [hx] at hc hxl
      obtain ⟨hor, hvl⟩ := or_low x low (n % 32) hxl hs hlow
      generalize hv : x * 2 ^ (n % 32) % 4294967296 + low = v at *
      have HV := Lib.hid hv
      have HX := Lib.hid hx
      have HL := Lib.hid hlen
      clear hv hx hlen
      have hxl2 : (x : Int) < 4294967296 := by omega
      go_wp2_with (at_builtin; refine wpList_append_fits _ rfl _ _ 22 rfl w.heap.size 58 i0 1 Tryz.underlying22 hi hz1 w.heap.size (n / 32 + k) (n / 32 + nl a + 1) (vals L) rfl (hown.alloc _) ⟨wr.heap.size, 0, none⟩ 1 1 [.int .u32 (v : Nat)] rfl rfl (cell_one_new _ _ _) (by simp [Value.oneCell']) (by omega) ?_)
      intro w1 hown1 hg1
      go_wp2_with (fail)
      go_roundw
      case rel =>
        have hq : x * 2 ^ (n % 32) / 4294967296 < 2 ^ (n % 32) := hi_low x _ hxl hs
        refine ⟨k + 1, x * 2 ^ (n % 32) / 4294967296, L ++ [v], by rw [Nat.add_assoc], by go_num, ?_, by omega, ?_, ?_, ?_, ?_, Lib.hid ?_, hq⟩
        · have hp31 : (2 : Nat) ^ (n % 32) ≤ 2 ^ 31 := Nat.pow_le_pow_right (by decide) (by omega)
          have h64 : x * 2 ^ (n % 32) ≤ 4294967296 * 2 ^ 31 := Nat.mul_le_mul (by omega) hp31
          have e1 : ((x : Int) * 2 ^ (n % 32)) = ((x * 2 ^ (n % 32) : Nat) : Int) := by simp
          congr 1
          rw [e1]
          generalize x * 2 ^ (n % 32) = y at *
          have : IntKind.u64.wrap (y : Int) = (y : Int) := by
            simp only [IntKind.wrap, IntKind.bits, IntKind.signed]
            simp
            omega
          rw [this]
          omega
        · exact (hb.alloc hb.size _).grown hg1 (by simp; have := hb.size; omega) (fun k e => by cases e; exact Nat.le_refl _)
        · rw [vals_append]; exact hown1
        · simp [HL.out]; omega
        · exact hlim.append (Lim.cons hvl Lim.nil)
        · have hval := hval.out
          have hv := HV.out
          have hx := HX.out
          rw [val_snoc, HL.out, val_take_succ _ _ hlt, hx, ← hv]
          have e := Nat.div_add_mod (x * 2 ^ (n % 32)) 4294967296
          generalize x * 2 ^ (n % 32) / 4294967296 = d at *
          rw [← Nat.add_assoc, Nat.pow_succ]
          rw [Nat.pow_add] at hval ⊢
          generalize val ((limbs a).take k) = t at *
          generalize 4294967296 ^ k = p at *
          generalize 4294967296 ^ (n / 32) = r at *
          generalize x * 2 ^ (n % 32) % 4294967296 = m at *
          generalize 2 ^ (n % 32) = z at *
          grind
      case measure => simp [intOf] <;> omega
    · obtain rfl : k = nl a := by omega
      have HV := hval
      go_wp2_with (first
        | (go_at_call 109; fail)
        | (at_builtin; refine wpList_append_fits _ rfl _ _ 22 rfl w.heap.size 58 i0 1 Tryz.underlying22 hi hz1 w.heap.size (n / 32 + nl a) (n / 32 + nl a + 1) (vals L) rfl (hown.alloc _) ⟨wr.heap.size, 0, none⟩ 1 1 [.int .u32 (low : Nat)] rfl rfl (cell_one_new _ _ _) (by simp [Value.oneCell']) (by omega) ?_))
      intro w1 hown1 hg1
      obtain ⟨Y, cy, hYe, hcy, hcm, hrd⟩ := ownV_rd hown1
      cases hYe
      have hll : low < 4294967296 := by
        have : (2 : Nat) ^ (n % 32) ≤ 2 ^ 31 := Nat.pow_le_pow_right (by decide) (by omega)
        omega
      have hb2 : Below w.heap.size w w1 := (hb.alloc hb.size _).grown hg1 (by simp; have := hb.size; omega) (fun k e => by cases e; exact Nat.le_refl _)
      have hmake := make_o (some ⟨w.heap.size, 0, none⟩) (n / 32 + nl a + 1) (n / 32 + nl a + 1) (L ++ [low]) w1 (by simp [hlen]) (by unfold Rd; rw [vals_append]; exact hrd) (hlim.append (Lim.cons hll Lim.nil)) (by omega) (Nat.le_refl _)
      have hvv : val (L ++ [low]) = a * 2 ^ n := by
        have h := HV.out
        rw [take_limbs (Nat.le_refl _)] at h
        rw [val_snoc, hlen, h, Nat.mul_assoc, ← pow32, ← Nat.pow_add]
        congr 2
        omega
      rw [hvv] at hmake
      have HM := Lib.hid hmake
      clear hmake hown1 hown hrd hg1 hval hlen
      go_wp2_with (fail)
      refine HM.out.mono ?_
      rintro e w2 ⟨v, rfl, h1, h2⟩
      replace h1 := Lib.hid (own_le h1 hb2.size)
      go_wp2_with (fail)
      go_ret
      exact ⟨v, rfl, h1.out, hb2.trans (h2.mono hb2.size)⟩
end Go.Proofs.YtacjfpibilolnaaGreatDoor

/- The document's answers, walked: naturals made, and held equal. -/
set_option linter.unusedVariables false
set_option linter.unusedSimpArgs false
namespace Go.Proofs.YtacjfpibilolnaaGreatDoor
open Go.RowKit Go.Shelf
attribute [local go_sem] max2_i min2_i max_two min_two

/-- New memory, from block b on. -/
def Fr (b : Nat) (A : Option Addr) (c : Nat) : Prop := (∀ ad, A = some ad → b ≤ ad.block) ∧ (A = none → c = 0)
theorem Fr.le {b b' : Nat} {A : Option Addr} {c : Nat} (h : Fr b A c) (hb : b' ≤ b) : Fr b' A c := ⟨fun ad e => Nat.le_trans hb (h.1 ad e), h.2⟩
theorem Fr.own {w : World} {base n c : Nat} {X : Option Addr} {xs : List Value} (h : w.ownsRow base 58 1 (.slice X n c) n xs) : Fr base X c := by
  refine ⟨fun ad e => own_base' h _ (by subst e; rfl), fun e => ?_⟩
  subst e
  rcases h.2 with ⟨e, _⟩ | ⟨_, _, _, e, _⟩
  · simp only [Value.slice.injEq] at e; exact e.2.2
  · simp at e
/-- What a call that makes a natural leaves: it lies in new memory. -/
def RetF (w : World) (n : Nat) (e : Ending) (w' : World) : Prop := ∃ A c, e = .returned (.slice A (nl n) c) ∧ NatV w' A c n ∧ Below w.heap.size w w' ∧ Fr w.heap.size A c
theorem RetF.toN {w w' : World} {n : Nat} {e : Ending} (h : RetF w n e w') : RetN w n e w' := by
  obtain ⟨A, c, h1, h2, h3, _⟩ := h
  exact ⟨A, c, h1, h2, h3⟩
set_option maxRecDepth 100000 in
set_option maxHeartbeats 1000000 in
theorem rmake_f (A : Option Addr) (n c : Nat) (l : List Nat) (w : World) (hn : l.length = n) (h : Rd w A l) (hL : Lim l) (hl : n ≤ 1099511627776) (hc : n ≤ c) (hnil : A = none → c = 0) :
    Calls Tryz.prog 98 #[.slice A n c] w (RetF w (val l)) := by
  subst hn
  obtain ⟨i0, hi, hz0, hz1, hz2⟩ := info_parts info_u32
  have fin : ∀ k, k ≤ l.length → (∀ i, k ≤ i → i < l.length → gl l i = 0) → (k = 0 ∨ gl l (k - 1) ≠ 0) → l.take k = limbs (val l) ∧ k = nl (val l) := fun k hk h0 h1 => by
    have e := take_make hL hk h0 h1
    exact ⟨e, by unfold nl; rw [← e, List.length_take, Nat.min_eq_left hk]⟩
  have hb1 : Below w.heap.size w (w.alloc (.cells #[] 58)) := (Below.refl _ _).alloc (Nat.le_refl _) _
  go_enter Tryz.func98, Tryz.ntmps98
  go_wp2_with (fail)
  go_loop [3] (fun v => ∃ k : Nat, v = .int .i64 k ∧ k ≤ l.length ∧ ∀ i, k ≤ i → i < l.length → gl l i = 0) (fun v => (intOf v).toNat)
  case atStart => exact ⟨l.length, rfl, Nat.le_refl _, fun i h1 h2 => by omega⟩
  case round =>
    obtain ⟨k, rfl, hk, h0⟩ := hrel
    have H0 := Lib.hid h0
    have FIN := Lib.hid fin
    clear h0 fin
    cases k with
    | zero =>
      obtain ⟨e1, e2⟩ := FIN.out 0 (by omega) H0.out (.inl rfl)
      have ev : val l = 0 := nl_eq_zero.1 e2.symm
      replace ev := Lib.hid ev
      clear e1 e2
      rcases A with _ | ad
      · obtain rfl : c = 0 := hnil rfl
        go_wp2_with (at_builtin; refine wpList_append_own_none rfl _ _ 22 rfl w.heap.size 58 i0 1 Tryz.underlying22 hi _ 0 [] rfl (World.ownsRow_lit w #[] 0 (Nat.le_refl _) (by decide) rfl) rfl ?_)
        go_wp2
        go_ret
        exact ⟨some ⟨w.heap.size, 0, none⟩, 0, by rw [ev.out, nl_zero]; rfl, ⟨by rw [ev.out, limbs_zero]; exact .inl rfl, by rw [ev.out, nl_zero]; exact Nat.le_refl _, by decide⟩, hb1, ⟨fun ad e => by cases e; exact Nat.le_refl _, fun e => by cases e⟩⟩
      · go_wp2_with (at_builtin; refine wpList_append_own_at _ rfl _ _ 22 rfl w.heap.size 58 i0 (.int .u32 0) 1 4 Tryz.underlying22 hi hz0 hz1 hz2 rfl (by decide) _ 0 [] rfl (World.ownsRow_lit w #[] 0 (Nat.le_refl _) (by decide) rfl) ad 0 c [] rfl (by simp) (fun i u hu => by simp at hu) (fun u hu => by simp at hu) (by simp only [maxLen]; omega) (by omega) (by simp) ?_)
        intro v' w1 hown hg _ _
        (try simp only [Nat.zero_add, List.nil_append, Nat.add_zero] at hown)
        obtain ⟨B, d, rfl, h1, h2, h3⟩ := ownV_rd hown
        have hfr := Lib.hid (Fr.own hown)
        have hb2 : Below w.heap.size w w1 := hb1.grown hg (by simp) (fun k hk => by simp [Value.ownBlock] at hk; omega)
        clear hg
        go_wp2
        go_ret
        exact ⟨B, d, by rw [ev.out, nl_zero]; rfl, ⟨by rw [ev.out, limbs_zero]; exact .inl rfl, by rw [ev.out, nl_zero]; exact h1, h2⟩, hb2, hfr.out⟩
    | succ k =>
      obtain ⟨ad, rfl, hcell⟩ := h.get k (by omega)
      by_cases hz : gl l k = 0
      · have hb : ((gl l k : Int) == 0) = true := ieqT (by omega)
        have HZ := Lib.hid hz
        clear hz
        go_wp2_with (fail)
        go_round
        case rel => exact ⟨k, by go_num, by omega, fun i h1 h2 => by
          by_cases e : i = k
          · rw [e]; exact HZ.out
          · exact H0.out i (by omega) h2⟩
        case measure => simp [intOf] <;> omega
      · have hb : ((gl l k : Int) == 0) = false := ieqF (by omega)
        obtain ⟨e1, e2⟩ := FIN.out (k + 1) (by omega) H0.out (.inr hz)
        replace e1 := Lib.hid e1
        replace e2 := Lib.hid e2
        have hcut : ∀ i u, (vals (l.take (k + 1)))[i]? = some u → (w.alloc (.cells #[] 58)).cell? (ad.add i) = some u := fun i u hu => by
          refine (h.below hb1).cells i u ?_
          simp only [vals, List.map_take] at hu ⊢
          by_cases hik : i < k + 1
          · rwa [List.getElem?_take_of_lt hik] at hu
          · rw [List.getElem?_take_eq_none (by omega)] at hu; cases hu
        go_wp2_with (at_builtin; refine wpList_append_own_at _ rfl _ _ 22 rfl w.heap.size 58 i0 (.int .u32 0) 1 4 Tryz.underlying22 hi hz0 hz1 hz2 rfl (by decide) _ 0 [] rfl (World.ownsRow_lit w #[] 0 (Nat.le_refl _) (by decide) rfl) ad (k + 1) c (vals (l.take (k + 1))) rfl (by simp [vals, hk]) hcut (vals_one _) (by simp only [maxLen]; omega) (by omega) (by simp) ?_)
        intro v' w1 hown hg _ _
        (try simp only [Nat.zero_add, List.nil_append] at hown)
        obtain ⟨B, d, rfl, h1, h2, h3⟩ := ownV_rd hown
        have hfr := Lib.hid (Fr.own hown)
        have hb2 : Below w.heap.size w w1 := hb1.grown hg (by simp) (fun k hk => by simp [Value.ownBlock] at hk; omega)
        clear hg
        go_wp2
        go_ret
        exact ⟨B, d, by rw [← e2.out]; rfl, ⟨by rw [← e1.out]; exact h3, by rw [← e2.out]; exact h1, h2⟩, hb2, hfr.out⟩
theorem rmake_c (A : Option Addr) (n c : Nat) (l : List Nat) (w : World) (hn : l.length = n) (h : Rd w A l) (hL : Lim l) (hl : n ≤ 1099511627776) (hc : n ≤ c) (hnil : A = none → c = 0) :
    Calls Tryz.prog 98 #[.slice A n c] w (RetN w (val l)) :=
  (rmake_f A n c l w hn h hL hl hc hnil).mono fun _ _ h => h.toN
end Go.Proofs.YtacjfpibilolnaaGreatDoor

/- The document's naturals, walked: limb, Cmp, Same, Add, Sub. -/
set_option linter.unusedVariables false
set_option linter.unusedSimpArgs false
namespace Go.Proofs.YtacjfpibilolnaaGreatDoor
open Go.RowKit Go.Shelf
attribute [local go_sem] max2_i min2_i max_two min_two

theorem Lim.one {x : Nat} (h : x < 4294967296) : Lim [x] := Lim.cons h Lim.nil
theorem dig_lt (a i : Nat) : a / 4294967296 ^ i % 4294967296 < 4294967296 := Nat.mod_lt _ (by decide)
theorem div_dig (a k : Nat) : a / 4294967296 ^ k = 4294967296 * (a / 4294967296 ^ (k + 1)) + a / 4294967296 ^ k % 4294967296 := by
  rw [Nat.pow_succ, ← Nat.div_div_eq_div_mul]; omega
theorem lt_of_div {a b P : Nat} (h : a / P < b / P) : a < b := by
  refine Nat.lt_of_not_le fun h2 => ?_
  have := Nat.div_le_div_right (c := P) h2
  omega
theorem mod_dig (a i : Nat) : a % 4294967296 ^ (i + 1) = a % 4294967296 ^ i + 4294967296 ^ i * (a / 4294967296 ^ i % 4294967296) := by rw [Nat.pow_succ, Nat.mod_mul]
theorem div_nl {a i : Nat} (h : nl a ≤ i) : a / 4294967296 ^ i = 0 := Nat.div_eq_of_lt (nl_le.1 h)
theorem mod_nl {a i : Nat} (h : nl a ≤ i) : a % 4294967296 ^ i = a := Nat.mod_eq_of_lt (nl_le.1 h)

set_option maxRecDepth 100000 in
set_option maxHeartbeats 400000 in
theorem limb_c (A : Option Addr) (c a : Nat) (j : Nat) (w : World) (hA : NatV w A c a) (h0 : j ≤ 1099511627776) (hl : nl a ≤ 1099511627776) :
    Calls Tryz.prog 114 #[.slice A (nl a) c, .int .i64 (j : Int)] w fun e w' => e = .returned (.int .u64 (a / 4294967296 ^ j % 4294967296 : Nat)) ∧ w = w' := by
  obtain ⟨x, hx⟩ : ∃ x, x = a / 4294967296 ^ j % 4294967296 := ⟨_, rfl⟩
  have hxl : x < 4294967296 := by rw [hx]; exact dig_lt _ _
  rw [← hx]
  by_cases hj : j < nl a
  · obtain ⟨ad, rfl, hc⟩ := hA.rd.get j hj
    rw [limbs_gl, ← hx] at hc
    replace hx := Lib.hid hx
    go_enter Tryz.func114, Tryz.ntmps114
    go_wp2_with (fail)
    go_ret
    exact ⟨rfl, rfl⟩
  · have e : x = 0 := by rw [hx, div_nl (by omega), Nat.zero_mod]
    replace hx := Lib.hid hx
    replace e := Lib.hid e
    go_enter Tryz.func114, Tryz.ntmps114
    go_wp2_with (fail)
    go_ret
    exact ⟨by rw [e.out]; rfl, rfl⟩

set_option maxRecDepth 100000 in
set_option maxHeartbeats 1000000 in
theorem rcmp_c (A : Option Addr) (c a : Nat) (B : Option Addr) (d b : Nat) (w : World) (hA : NatV w A c a) (hB : NatV w B d b) (ha : nl a ≤ 1073741824) (hb : nl b ≤ 1073741824) :
    Calls Tryz.prog 94 #[.slice A (nl a) c, .slice B (nl b) d] w fun e w' => e = .returned (.int .i64 (cmpN a b)) ∧ w = w' := by
  obtain ⟨M, hM⟩ : ∃ M, M = max (nl a) (nl b) := ⟨_, rfl⟩
  have hMI : max (nl a : Int) (nl b : Int) = (M : Int) := by omega
  have hMb : M ≤ 1073741824 := by omega
  have h0 : a / 4294967296 ^ M = b / 4294967296 ^ M := by rw [div_nl (by omega), div_nl (by omega)]
  replace hM := Lib.hid hM
  replace h0 := Lib.hid h0
  go_enter Tryz.func94, Tryz.ntmps94
  go_wp2_with (fail)
  go_loop [5] (fun vi => ∃ k : Nat, vi = .int .i64 ((k : Int) - 1) ∧ k ≤ M ∧ Hid (a / 4294967296 ^ k = b / 4294967296 ^ k)) (fun vi => (intOf vi + 1).toNat)
  case atStart => exact ⟨M, rfl, Nat.le_refl _, h0⟩
  case round =>
    obtain ⟨k, rfl, hk, heq⟩ := hrel
    cases k with
    | zero =>
      have h2 : a = b := by have := heq.out; simpa using this
      have h3 : cmpN a b = 0 := cmpN_eq h2
      replace h2 := Lib.hid h2
      replace h3 := Lib.hid h3
      go_wp2_with (fail)
      go_ret
      exact ⟨by rw [h3.out]; rfl, rfl⟩
    | succ k =>
      rw [show (((k + 1 : Nat) : Int) - 1) = (k : Int) by omega]
      have CA := limb_c A c a k w hA (by omega) (by omega)
      have CB := limb_c B d b k w hB (by omega) (by omega)
      have da := div_dig a k
      have db := div_dig b k
      obtain ⟨x, hx⟩ : ∃ x, x = a / 4294967296 ^ k % 4294967296 := ⟨_, rfl⟩
      obtain ⟨y, hy⟩ : ∃ y, y = b / 4294967296 ^ k % 4294967296 := ⟨_, rfl⟩
      have hxl : x < 4294967296 := by rw [hx]; exact dig_lt _ _
      have hyl : y < 4294967296 := by rw [hy]; exact dig_lt _ _
      rw [← hx] at CA da
      rw [← hy] at CB db
      rw [heq.out] at da
      replace CA := Lib.hid CA
      replace CB := Lib.hid CB
      rcases Nat.lt_trichotomy x y with hxy | hxy | hxy
      · have h3 : cmpN a b = -1 := cmpN_lt (lt_of_div (P := 4294967296 ^ k) (by omega))
        replace h3 := Lib.hid h3
        clear hx hy da db
        go_wp2_with (first
          | (go_at_call 114; (with_reducible refine CA.out.mono ?_); rintro e w' ⟨rfl, rfl⟩)
          | (go_at_call 114; (with_reducible refine CB.out.mono ?_); rintro e w' ⟨rfl, rfl⟩))
        go_ret
        exact ⟨by rw [h3.out]; rfl, rfl⟩
      · have h3 : a / 4294967296 ^ k = b / 4294967296 ^ k := by rw [da, db, hxy]
        replace h3 := Lib.hid h3
        have hn1 : ¬ x < y := by omega
        have hn2 : ¬ y < x := by omega
        replace hxy := Lib.hid hxy
        clear hx hy da db
        go_wp2_with (first
          | (go_at_call 114; (with_reducible refine CA.out.mono ?_); rintro e w' ⟨rfl, rfl⟩)
          | (go_at_call 114; (with_reducible refine CB.out.mono ?_); rintro e w' ⟨rfl, rfl⟩))
        go_round
        case rel => exact ⟨k, rfl, by omega, h3⟩
        case measure => simp only [intOf]; omega
      · have h3 : cmpN a b = 1 := cmpN_gt (lt_of_div (P := 4294967296 ^ k) (by omega))
        replace h3 := Lib.hid h3
        have hn1 : ¬ x < y := by omega
        clear hx hy da db
        go_wp2_with (first
          | (go_at_call 114; (with_reducible refine CA.out.mono ?_); rintro e w' ⟨rfl, rfl⟩)
          | (go_at_call 114; (with_reducible refine CB.out.mono ?_); rintro e w' ⟨rfl, rfl⟩))
        go_ret
        exact ⟨by rw [h3.out]; rfl, rfl⟩
set_option maxRecDepth 100000 in
set_option maxHeartbeats 4000000 in
theorem radd_f (A : Option Addr) (c a : Nat) (B : Option Addr) (d b : Nat) (w : World) (hA : NatV w A c a) (hB : NatV w B d b) (ha : nl a ≤ 1073741824) (hb : nl b ≤ 1073741824) :
    Calls Tryz.prog 83 #[.slice A (nl a) c, .slice B (nl b) d] w (RetF w (a + b)) := by
  obtain ⟨i0, hi, hz0, hz1, hz2⟩ := info_parts info_u32
  obtain ⟨M, hM⟩ : ∃ M, M = max (nl a) (nl b) := ⟨_, rfl⟩
  have hMa : nl a ≤ M := by omega
  have hMb : nl b ≤ M := by omega
  have hMc : M ≤ 1073741824 := by omega
  have hMd : M = nl a ∨ M = nl b := by omega
  replace hM := Lib.hid hM
  replace hMd := Lib.hid hMd
  go_enter Tryz.func83, Tryz.ntmps83
  go_wp2_with (fail)
  go_loopw [5, 6, 7, 8] (fun vo vc vi vn wr => ∃ (i cr : Nat) (L : List Nat), vc = .int .u64 cr ∧ vi = .int .i64 i ∧ i ≤ M + 1 ∧ cr ≤ 1 ∧ Below w.heap.size w wr ∧ wr.ownsRow w.heap.size 58 1 vo i (vals L) ∧ Hid (L.length = i) ∧ Lim L ∧ Hid (val L + 4294967296 ^ i * cr = a % 4294967296 ^ i + b % 4294967296 ^ i)) (fun vo vc vi vn wr => M + 1 - (intOf vi).toNat)
  case atStart => exact ⟨0, 0, [], rfl, rfl, Nat.zero_le _, by decide, (Below.refl _ _).alloc (Nat.le_refl _) _, World.ownsRow_lit w #[] 0 (Nat.le_refl _) (by decide) rfl, Lib.hid rfl, Lim.nil, Lib.hid (by simp [val, Nat.mod_one])⟩
  case round =>
    obtain ⟨i, cr, L, rfl, rfl, hi1, hcr, hb, hown, hlen, hlim, hval⟩ := hrel
    obtain ⟨X, cx, rfl, hcx, hcm, hrd⟩ := ownV_rd hown
    by_cases hlt : i ≤ nl a
    · skip
      have hlt0 : i ≤ M := by omega
      have CA := limb_c A c a i wr (hA.below hb) (by omega) (by omega)
      have CB := limb_c B d b i wr (hB.below hb) (by omega) (by omega)
      have ma := mod_dig a i
      have mb := mod_dig b i
      obtain ⟨x, hx⟩ : ∃ x, x = a / 4294967296 ^ i % 4294967296 := ⟨_, rfl⟩
      obtain ⟨y, hy⟩ : ∃ y, y = b / 4294967296 ^ i % 4294967296 := ⟨_, rfl⟩
      have hxl : x < 4294967296 := by rw [hx]; exact dig_lt _ _
      have hyl : y < 4294967296 := by rw [hy]; exact dig_lt _ _
      rw [← hx] at CA ma
      rw [← hy] at CB mb
      replace CA := Lib.hid CA
      replace CB := Lib.hid CB
      replace ma := Lib.hid ma
      replace mb := Lib.hid mb
      obtain ⟨t, ht⟩ : ∃ t, t = x + y + cr := ⟨_, rfl⟩
      have htI : (x : Int) + (y : Int) + (cr : Int) = (t : Int) := by omega
      have htb : t < 18446744073709551616 := by omega
      obtain ⟨o, ho⟩ : ∃ o, o = t % 4294967296 := ⟨_, rfl⟩
      have hoI : (t : Int) % 4294967296 = (o : Int) := by omega
      have hol : o < 4294967296 := by omega
      obtain ⟨q, hq⟩ : ∃ q, q = t / 4294967296 := ⟨_, rfl⟩
      have hqI : (t : Int) / 4294967296 = (q : Int) := by omega
      have hql : q ≤ 1 := by omega
      have hoq : o + 4294967296 * q = x + y + cr := by omega
      replace hoq := Lib.hid hoq
      replace ht := Lib.hid ht
      replace ho := Lib.hid ho
      replace hq := Lib.hid hq
      replace hx := Lib.hid hx
      replace hy := Lib.hid hy
      go_wp2_with (first
        | (go_at_call 114; (with_reducible refine CA.out.mono ?_); rintro e w' ⟨rfl, rfl⟩)
        | (go_at_call 114; (with_reducible refine CB.out.mono ?_); rintro e w' ⟨rfl, rfl⟩)
        | (at_builtin; refine wpList_append_own_at _ rfl _ _ 22 rfl w.heap.size 58 i0 (.int .u32 0) 1 4 Tryz.underlying22 hi hz0 hz1 hz2 rfl (by decide) _ i (vals L) rfl (hown.alloc _) ⟨wr.heap.size, 0, none⟩ 1 1 [.int .u32 (o : Nat)] rfl rfl (cell_one_new _ _ _) (by simp [Value.oneCell']) (by simp only [maxLen]; omega) (by omega) (by simp; have := hb.size; omega) ?_))
      intro v' w1 hown1 hg1 _ _
      have hown2 := Lib.hid hown1
      have hg2 := Lib.hid hg1
      clear hown1 hg1
      go_wp2_with (fail)
      go_roundw
      case rel =>
        refine ⟨i + 1, q, L ++ [o], rfl, by go_num, by omega, hql, ?_, ?_, Lib.hid (by simp [hlen.out]), hlim.append (Lim.one hol), Lib.hid ?_⟩
        · exact (hb.alloc hb.size _).grown hg2.out (by simp; have := hb.size; omega) (fun k e => own_base' hown k e)
        · rw [vals_append]; exact hown2.out
        · have h1 := hval.out
          have h2 := hoq.out
          rw [val_snoc, hlen.out, ma.out, mb.out, Nat.pow_succ]
          generalize 4294967296 ^ i = p at *
          generalize a % p = a1 at *
          generalize b % p = b1 at *
          grind
      case measure => simp only [intOf]; omega
    by_cases hlt2 : i ≤ nl b
    · skip
      have hlt0 : i ≤ M := by omega
      have CA := limb_c A c a i wr (hA.below hb) (by omega) (by omega)
      have CB := limb_c B d b i wr (hB.below hb) (by omega) (by omega)
      have ma := mod_dig a i
      have mb := mod_dig b i
      obtain ⟨x, hx⟩ : ∃ x, x = a / 4294967296 ^ i % 4294967296 := ⟨_, rfl⟩
      obtain ⟨y, hy⟩ : ∃ y, y = b / 4294967296 ^ i % 4294967296 := ⟨_, rfl⟩
      have hxl : x < 4294967296 := by rw [hx]; exact dig_lt _ _
      have hyl : y < 4294967296 := by rw [hy]; exact dig_lt _ _
      rw [← hx] at CA ma
      rw [← hy] at CB mb
      replace CA := Lib.hid CA
      replace CB := Lib.hid CB
      replace ma := Lib.hid ma
      replace mb := Lib.hid mb
      obtain ⟨t, ht⟩ : ∃ t, t = x + y + cr := ⟨_, rfl⟩
      have htI : (x : Int) + (y : Int) + (cr : Int) = (t : Int) := by omega
      have htb : t < 18446744073709551616 := by omega
      obtain ⟨o, ho⟩ : ∃ o, o = t % 4294967296 := ⟨_, rfl⟩
      have hoI : (t : Int) % 4294967296 = (o : Int) := by omega
      have hol : o < 4294967296 := by omega
      obtain ⟨q, hq⟩ : ∃ q, q = t / 4294967296 := ⟨_, rfl⟩
      have hqI : (t : Int) / 4294967296 = (q : Int) := by omega
      have hql : q ≤ 1 := by omega
      have hoq : o + 4294967296 * q = x + y + cr := by omega
      replace hoq := Lib.hid hoq
      replace ht := Lib.hid ht
      replace ho := Lib.hid ho
      replace hq := Lib.hid hq
      replace hx := Lib.hid hx
      replace hy := Lib.hid hy
      go_wp2_with (first
        | (go_at_call 114; (with_reducible refine CA.out.mono ?_); rintro e w' ⟨rfl, rfl⟩)
        | (go_at_call 114; (with_reducible refine CB.out.mono ?_); rintro e w' ⟨rfl, rfl⟩)
        | (at_builtin; refine wpList_append_own_at _ rfl _ _ 22 rfl w.heap.size 58 i0 (.int .u32 0) 1 4 Tryz.underlying22 hi hz0 hz1 hz2 rfl (by decide) _ i (vals L) rfl (hown.alloc _) ⟨wr.heap.size, 0, none⟩ 1 1 [.int .u32 (o : Nat)] rfl rfl (cell_one_new _ _ _) (by simp [Value.oneCell']) (by simp only [maxLen]; omega) (by omega) (by simp; have := hb.size; omega) ?_))
      intro v' w1 hown1 hg1 _ _
      have hown2 := Lib.hid hown1
      have hg2 := Lib.hid hg1
      clear hown1 hg1
      go_wp2_with (fail)
      go_roundw
      case rel =>
        refine ⟨i + 1, q, L ++ [o], rfl, by go_num, by omega, hql, ?_, ?_, Lib.hid (by simp [hlen.out]), hlim.append (Lim.one hol), Lib.hid ?_⟩
        · exact (hb.alloc hb.size _).grown hg2.out (by simp; have := hb.size; omega) (fun k e => own_base' hown k e)
        · rw [vals_append]; exact hown2.out
        · have h1 := hval.out
          have h2 := hoq.out
          rw [val_snoc, hlen.out, ma.out, mb.out, Nat.pow_succ]
          generalize 4294967296 ^ i = p at *
          generalize a % p = a1 at *
          generalize b % p = b1 at *
          grind
      case measure => simp only [intOf]; omega
    · have hiM : i = M + 1 := by rcases hMd.out with h | h <;> omega
      have h1 := hval.out
      rw [mod_nl (show nl a ≤ i by omega), mod_nl (show nl b ≤ i by omega)] at h1
      have h2 := val_lt hlim
      rw [hlen.out] at h2
      have h3 : a + b < 4294967296 ^ i := by
        have h4 := nl_le.1 hMa
        have h5 := nl_le.1 hMb
        rw [hiM, Nat.pow_succ]; omega
      have h6 : cr = 0 := by
        rcases Nat.eq_zero_or_pos cr with h | h
        · exact h
        · have := Nat.le_mul_of_pos_right (4294967296 ^ i) h
          omega
      rw [h6, Nat.mul_zero, Nat.add_zero] at h1
      have hmk := rmake_f X i cx L wr hlen.out hrd hlim (by omega) hcx (fun e => by subst e; rcases hown.2 with ⟨e, _⟩ | ⟨_, _, _, e, _⟩ <;> cases e; rfl)
      rw [h1] at hmk
      replace hmk := Lib.hid hmk
      clear h1 h2 h3 h6
      replace hiM := Lib.hid hiM
      go_wp2_with (fail)
      refine hmk.out.mono ?_
      rintro e w2 ⟨Y, cy, rfl, k1, k2, k3⟩
      go_wp2_with (fail)
      go_ret
      exact ⟨Y, cy, rfl, k1, hb.cons k2, k3.le hb.size⟩
theorem radd_c (A : Option Addr) (c a : Nat) (B : Option Addr) (d b : Nat) (w : World) (hA : NatV w A c a) (hB : NatV w B d b) (ha : nl a ≤ 1073741824) (hb : nl b ≤ 1073741824) :
    Calls Tryz.prog 83 #[.slice A (nl a) c, .slice B (nl b) d] w (RetN w (a + b)) :=
  (radd_f A c a B d b w hA hB ha hb).mono fun _ _ h => h.toN
end Go.Proofs.YtacjfpibilolnaaGreatDoor

/- The document's naturals, walked: Sub, Shl. -/
set_option linter.unusedVariables false
set_option linter.unusedSimpArgs false
namespace Go.Proofs.YtacjfpibilolnaaGreatDoor
open Go.RowKit Go.Shelf
attribute [local go_sem] max2_i min2_i max_two min_two

theorem own_nilcap {w : World} {base n cx : Nat} {X : Option Addr} {xs : List Value} (h : w.ownsRow base 58 1 (.slice X n cx) n xs) (e : X = none) : cx = 0 := by
  subst e
  rcases h.2 with ⟨e, _⟩ | ⟨_, _, _, e, _⟩
  · simp only [Value.slice.injEq] at e; exact e.2.2
  · simp at e
theorem sub_step {x y br t q : Nat} (hx : x < 4294967296) (hy : y < 4294967296) (hb : br ≤ 1) (ht : t = 4294967296 + x - y - br) (hq : q = 1 - t / 4294967296) : t % 4294967296 + y + br = x + 4294967296 * q ∧ q ≤ 1 ∧ t < 8589934592 := by
  have : t / 4294967296 = 0 ∨ t / 4294967296 = 1 := by omega
  omega
set_option maxRecDepth 100000 in
set_option maxHeartbeats 2000000 in
theorem rsub_f (A : Option Addr) (c a : Nat) (B : Option Addr) (d b : Nat) (w : World) (hA : NatV w A c a) (hB : NatV w B d b) (ha : nl a ≤ 1073741824) (hb : nl b ≤ 1073741824) (h : b ≤ a) :
    Calls Tryz.prog 84 #[.slice A (nl a) c, .slice B (nl b) d] w fun e w' => ∃ X cx, e = .returned (.tuple #[.slice X (nl (a - b)) cx, .bool true]) ∧ NatV w' X cx (a - b) ∧ Below w.heap.size w w' ∧ Fr w.heap.size X cx := by
  obtain ⟨i0, hi, hz0, hz1, hz2⟩ := info_parts info_u32
  have hb1 : decide (cmpN a b < 0) = false := by rw [decide_eq_false_iff_not, cmpN_neg]; omega
  have CC := rcmp_c A c a B d b w hA hB ha hb
  have hba := nl_mono h
  replace CC := Lib.hid CC
  replace h := Lib.hid h
  go_enter Tryz.func84, Tryz.ntmps84
  go_wp2_with (fail)
  refine CC.out.mono ?_
  rintro e w' ⟨rfl, rfl⟩
  go_wp2_with (fail)
  go_loopw [6, 7, 8, 9] (fun vo vc vi vn wr => ∃ (i br : Nat) (L : List Nat), vc = .int .u64 br ∧ vi = .int .i64 i ∧ i ≤ nl a ∧ br ≤ 1 ∧ Below w.heap.size w wr ∧ wr.ownsRow w.heap.size 58 1 vo i (vals L) ∧ Hid (L.length = i) ∧ Lim L ∧ Hid (val L + b % 4294967296 ^ i = a % 4294967296 ^ i + 4294967296 ^ i * br)) (fun vo vc vi vn wr => nl a - (intOf vi).toNat)
  case atStart => exact ⟨0, 0, [], rfl, rfl, Nat.zero_le _, by decide, (Below.refl _ _).alloc (Nat.le_refl _) _, World.ownsRow_lit w #[] 0 (Nat.le_refl _) (by decide) rfl, Lib.hid rfl, Lim.nil, Lib.hid (by simp [val, Nat.mod_one])⟩
  case round =>
    obtain ⟨i, br, L, rfl, rfl, hi1, hbr, hb, hown, hlen, hlim, hval⟩ := hrel
    obtain ⟨X, cx, rfl, hcx, hcm, hrd⟩ := ownV_rd hown
    by_cases hlt : i < nl a
    · have CA := limb_c A c a i wr (hA.below hb) (by omega) (by omega)
      have CB := limb_c B d b i wr (hB.below hb) (by omega) (by omega)
      have ma := mod_dig a i
      have mb := mod_dig b i
      obtain ⟨x, hx⟩ : ∃ x, x = a / 4294967296 ^ i % 4294967296 := ⟨_, rfl⟩
      obtain ⟨y, hy⟩ : ∃ y, y = b / 4294967296 ^ i % 4294967296 := ⟨_, rfl⟩
      have hxl : x < 4294967296 := by rw [hx]; exact dig_lt _ _
      have hyl : y < 4294967296 := by rw [hy]; exact dig_lt _ _
      rw [← hx] at CA ma
      rw [← hy] at CB mb
      replace CA := Lib.hid CA
      replace CB := Lib.hid CB
      replace ma := Lib.hid ma
      replace mb := Lib.hid mb
      obtain ⟨t, ht⟩ : ∃ t, t = 4294967296 + x - y - br := ⟨_, rfl⟩
      have htI : 4294967296 + (x : Int) - (y : Int) - (br : Int) = (t : Int) := by omega
      obtain ⟨q, hq⟩ : ∃ q, q = 1 - t / 4294967296 := ⟨_, rfl⟩
      obtain ⟨hoq, hql, htb⟩ := sub_step hxl hyl hbr ht hq
      have hqI : 1 - (t : Int) / 4294967296 = (q : Int) := by omega
      obtain ⟨o, ho⟩ : ∃ o, o = t % 4294967296 := ⟨_, rfl⟩
      have hoI : (t : Int) % 4294967296 = (o : Int) := by omega
      have hol : o < 4294967296 := by omega
      rw [← ho] at hoq
      replace hoq := Lib.hid hoq
      replace ht := Lib.hid ht
      replace ho := Lib.hid ho
      replace hq := Lib.hid hq
      replace hx := Lib.hid hx
      replace hy := Lib.hid hy
      go_wp2_with (first
        | (go_at_call 114; (with_reducible refine CA.out.mono ?_); rintro e w' ⟨rfl, rfl⟩)
        | (go_at_call 114; (with_reducible refine CB.out.mono ?_); rintro e w' ⟨rfl, rfl⟩)
        | (at_builtin; refine wpList_append_own_at _ rfl _ _ 22 rfl w.heap.size 58 i0 (.int .u32 0) 1 4 Tryz.underlying22 hi hz0 hz1 hz2 rfl (by decide) _ (i) (vals L) rfl (hown.alloc _) ⟨wr.heap.size, 0, none⟩ 1 1 [.int .u32 (o : Nat)] rfl rfl (cell_one_new _ _ _) (by simp [Value.oneCell']) (by simp only [maxLen]; omega) (by omega) (by simp; have := hb.size; omega) ?_))
      intro v' w1 hown1 hg1 _ _
      have hown2 := Lib.hid hown1
      have hg2 := Lib.hid hg1
      clear hown1 hg1
      go_wp2_with (fail)
      go_roundw
      case rel =>
        refine ⟨i + 1, q, L ++ [o], rfl, by go_num, by omega, hql, ?_, ?_, Lib.hid (by simp [hlen.out]), hlim.append (Lim.one hol), Lib.hid ?_⟩
        · exact (hb.alloc hb.size _).grown hg2.out (by simp; have := hb.size; omega) (fun k e => own_base' hown k e)
        · rw [vals_append]; exact hown2.out
        · have h1 := hval.out
          have h2 := hoq.out
          rw [val_snoc, hlen.out, ma.out, mb.out, Nat.pow_succ]
          generalize 4294967296 ^ i = p at *
          generalize a % p = a1 at *
          generalize b % p = b1 at *
          grind
      case measure => simp only [intOf]; omega
    · obtain rfl : i = nl a := by omega
      have h1 := hval.out
      rw [mod_nl (Nat.le_refl _), mod_nl hba] at h1
      have h2 := val_lt hlim
      rw [hlen.out] at h2
      have h6 : br = 0 := by
        rcases Nat.eq_zero_or_pos br with hz | hz
        · exact hz
        · have := Nat.le_mul_of_pos_right (4294967296 ^ nl a) hz
          have := h.out
          omega
      rw [h6, Nat.mul_zero, Nat.add_zero] at h1
      have hmk := rmake_f X (nl a) cx L wr hlen.out hrd hlim (by omega) hcx (own_nilcap hown)
      rw [show val L = a - b by omega] at hmk
      replace hmk := Lib.hid hmk
      clear h1 h2 h6
      go_wp2_with (fail)
      refine hmk.out.mono ?_
      rintro e w2 ⟨Y, cy, rfl, k1, k2, k3⟩
      go_wp2_with (fail)
      exact bodyPost_ret (v := .tuple #[.slice Y (nl (a - b)) cy, .bool true]) (by simp [results, Tryz.results84, go_sem]) rfl ⟨Y, cy, rfl, k1, hb.cons k2, k3.le hb.size⟩
theorem rsub_c (A : Option Addr) (c a : Nat) (B : Option Addr) (d b : Nat) (w : World) (hA : NatV w A c a) (hB : NatV w B d b) (ha : nl a ≤ 1073741824) (hb : nl b ≤ 1073741824) (h : b ≤ a) :
    Calls Tryz.prog 84 #[.slice A (nl a) c, .slice B (nl b) d] w fun e w' => ∃ X cx, e = .returned (.tuple #[.slice X (nl (a - b)) cx, .bool true]) ∧ NatV w' X cx (a - b) ∧ Below w.heap.size w w' :=
  (rsub_f A c a B d b w hA hB ha hb h).mono fun _ _ ⟨X, cx, h1, h2, h3, _⟩ => ⟨X, cx, h1, h2, h3⟩
set_option maxRecDepth 100000 in
set_option maxHeartbeats 1000000 in
theorem rsubNot_c (A : Option Addr) (c a : Nat) (B : Option Addr) (d b : Nat) (w : World) (hA : NatV w A c a) (hB : NatV w B d b) (ha : nl a ≤ 1073741824) (hb : nl b ≤ 1073741824) (h : a < b) :
    Calls Tryz.prog 84 #[.slice A (nl a) c, .slice B (nl b) d] w fun e w' => e = .returned (.tuple #[.slice none 0 0, .bool false]) ∧ w = w' := by
  have hb1 : decide (cmpN a b < 0) = true := by rw [decide_eq_true_eq, cmpN_neg]; omega
  have CC := rcmp_c A c a B d b w hA hB ha hb
  replace CC := Lib.hid CC
  replace h := Lib.hid h
  go_enter Tryz.func84, Tryz.ntmps84
  go_wp2_with (fail)
  refine CC.out.mono ?_
  rintro e w' ⟨rfl, rfl⟩
  go_wp2_with (fail)
  exact bodyPost_ret (v := .tuple #[.slice none 0 0, .bool false]) (by simp [results, Tryz.results84, go_sem]) rfl ⟨rfl, rfl⟩
theorem zeros_snoc (i : Nat) : List.replicate i 0 ++ [0] = List.replicate (i + 1) (0 : Nat) := by rw [List.replicate_succ']
set_option maxRecDepth 100000 in
set_option maxHeartbeats 4000000 in
theorem rshl_f (A : Option Addr) (c a n : Nat) (w : World) (hA : NatV w A c a) (ha : nl a ≤ 1073741824) (hn : n ≤ 1073741824) :
    Calls Tryz.prog 73 #[.slice A (nl a) c, .int .i64 (n : Nat)] w (RetF w (a * 2 ^ n)) := by
  obtain ⟨i0, hi, hz0, hz1, hz2⟩ := info_parts info_u32
  obtain ⟨q, hq⟩ : ∃ q, q = n / 32 := ⟨_, rfl⟩
  obtain ⟨s, hs⟩ : ∃ s, s = n % 32 := ⟨_, rfl⟩
  have hqI : (n : Int) / 32 = (q : Int) := by omega
  have hsI : (n : Int) % 32 = (s : Int) := by omega
  have hql : q ≤ 33554432 := by omega
  have hsl : s < 32 := by omega
  have hns : n = s + 32 * q := by omega
  have hs31 : 2 ^ s ≤ 2147483648 := Nat.pow_le_pow_right (by decide) (show s ≤ 31 by omega)
  replace hns := Lib.hid hns
  replace hs := Lib.hid hs
  replace hq := Lib.hid hq
  replace hs31 := Lib.hid hs31
  go_enter Tryz.func73, Tryz.ntmps73
  go_wp2_with (fail)
  go_loopw [5, 8] (fun vo vi wr => ∃ i : Nat, vi = .int .i64 i ∧ i ≤ q ∧ Below w.heap.size w wr ∧ wr.ownsRow w.heap.size 58 1 vo i (vals (List.replicate i 0))) (fun vo vi wr => q - (intOf vi).toNat)
  case atStart => exact ⟨0, rfl, Nat.zero_le _, (Below.refl _ _).alloc (Nat.le_refl _) _, World.ownsRow_lit w #[] 0 (Nat.le_refl _) (by decide) rfl⟩
  case round =>
    obtain ⟨i, rfl, hi1, hb, hown⟩ := hrel
    obtain ⟨X, cx, rfl, hcx, hcm, hrd⟩ := ownV_rd hown
    by_cases hlt : i < q
    · go_wp2_with (at_builtin; refine wpList_append_own_at _ rfl _ _ 22 rfl w.heap.size 58 i0 (.int .u32 0) 1 4 Tryz.underlying22 hi hz0 hz1 hz2 rfl (by decide) _ (i) (vals (List.replicate i 0)) rfl (hown.alloc _) ⟨wr.heap.size, 0, none⟩ 1 1 [.int .u32 0] rfl rfl (cell_one_new _ _ _) (by simp [Value.oneCell']) (by simp only [maxLen]; omega) (by omega) (by simp; have := hb.size; omega) ?_)
      intro v' w1 hown1 hg1 _ _
      have hown2 := Lib.hid hown1
      have hg2 := Lib.hid hg1
      clear hown1 hg1
      go_wp2_with (fail)
      go_roundw
      case rel =>
        refine ⟨i + 1, by go_num, by omega, ?_, ?_⟩
        · exact (hb.alloc hb.size _).grown hg2.out (by simp; have := hb.size; omega) (fun k e => own_base' hown k e)
        · rw [← zeros_snoc, vals_append]; exact hown2.out
      case measure => simp only [intOf]; omega
    · obtain rfl : i = q := by omega
      obtain ⟨wo, rfl⟩ : ∃ wo : World, wo = wr := ⟨_, rfl⟩
      go_wp2_with (fail)
      go_loopw [7, 9] (fun vb vi w2 => ∃ j bb : Nat, vb = .int .u64 bb ∧ vi = .int .i64 j ∧ j ≤ s ∧ Hid (bb = 2 ^ j) ∧ bb ≤ 2147483648 ∧ w2 = wo) (fun vb vi w2 => s - (intOf vi).toNat)
      case atStart => exact ⟨0, 1, rfl, rfl, Nat.zero_le _, Lib.hid rfl, by decide, rfl⟩
      case round =>
        obtain ⟨j, bb, rfl, rfl, hj, hbb, hbl, hw2⟩ := hrel
        rw [hw2]
        clear hw2
        by_cases hlt2 : j < s
        · have hb2 : 2 * bb = 2 ^ (j + 1) := by rw [hbb.out, Nat.pow_succ, Nat.mul_comm]
          have hb3 : 2 * bb ≤ 2147483648 := by rw [hb2]; exact Nat.le_trans (Nat.pow_le_pow_right (by decide) (show j + 1 ≤ s by omega)) hs31.out
          replace hb2 := Lib.hid hb2
          go_wp2_with (fail)
          go_roundw
          case rel => exact ⟨j + 1, 2 * bb, by go_num, by go_num, by omega, hb2, hb3, by first | rfl | trivial⟩
          case measure => simp only [intOf]; omega
        · obtain rfl : j = s := by omega
          go_wp2_with (fail)
          simp only [hsI]
          go_loopw [5, 6, 10, 11] (fun vo vc vi vx wr => ∃ (k cr : Nat) (L : List Nat), vc = .int .u64 cr ∧ vi = .int .i64 k ∧ k ≤ nl a + 1 ∧ cr < 4294967296 ∧ Below w.heap.size w wr ∧ wr.ownsRow w.heap.size 58 1 vo (i + k) (vals L) ∧ Hid (L.length = i + k) ∧ Lim L ∧ Hid (val L + 4294967296 ^ (i + k) * cr = a % 4294967296 ^ k * bb * 4294967296 ^ i)) (fun vo vc vi vx wr => nl a + 1 - (intOf vi).toNat)
          case atStart => exact ⟨0, 0, _, rfl, rfl, Nat.zero_le _, by decide, hb, hown, Lib.hid (by simp), Lim.replicate _ _ (by decide), Lib.hid (by rw [val_replicate]; simp [Nat.mod_one])⟩
          case round =>
            obtain ⟨k, cr, L, rfl, rfl, hk1, hcr, hb, hown, hlen, hlim, hval⟩ := hrel
            obtain ⟨X, cx, rfl, hcx, hcm, hrd⟩ := ownV_rd hown
            by_cases hlt3 : k ≤ nl a
            · have CA := limb_c A c a k wr (hA.below hb) (by omega) (by omega)
              have ma := mod_dig a k
              obtain ⟨x, hx⟩ : ∃ x, x = a / 4294967296 ^ k % 4294967296 := ⟨_, rfl⟩
              have hxl : x < 4294967296 := by rw [hx]; exact dig_lt _ _
              rw [← hx] at CA ma
              replace CA := Lib.hid CA
              replace ma := Lib.hid ma
              obtain ⟨p, hp⟩ : ∃ p, p = x * bb := ⟨_, rfl⟩
              have hpI : (x : Int) * (bb : Int) = (p : Int) := by rw [hp]; exact (Int.natCast_mul x bb).symm
              have hpl : p ≤ 4294967295 * 2147483648 := by rw [hp]; exact Nat.mul_le_mul (by omega) hbl
              obtain ⟨t, ht⟩ : ∃ t, t = p + cr := ⟨_, rfl⟩
              have htI : (p : Int) + (cr : Int) = (t : Int) := by omega
              have htb : t < 18446744073709551616 := by omega
              obtain ⟨o, ho⟩ : ∃ o, o = t % 4294967296 := ⟨_, rfl⟩
              have hoI : (t : Int) % 4294967296 = (o : Int) := by omega
              have hol : o < 4294967296 := by omega
              obtain ⟨e, he⟩ : ∃ e, e = t / 4294967296 := ⟨_, rfl⟩
              have heI : (t : Int) / 4294967296 = (e : Int) := by omega
              have hel : e < 4294967296 := by omega
              have hoe : o + 4294967296 * e = x * bb + cr := by rw [← hp]; omega
              replace hoe := Lib.hid hoe
              replace hp := Lib.hid hp
              replace ht := Lib.hid ht
              replace ho := Lib.hid ho
              replace he := Lib.hid he
              replace hx := Lib.hid hx
              go_wp2_with (first
                | (go_at_call 114; (with_reducible refine CA.out.mono ?_); rintro e w' ⟨rfl, rfl⟩)
                | (at_builtin; refine wpList_append_own_at _ rfl _ _ 22 rfl w.heap.size 58 i0 (.int .u32 0) 1 4 Tryz.underlying22 hi hz0 hz1 hz2 rfl (by decide) _ (i + k) (vals L) rfl (hown.alloc _) ⟨wr.heap.size, 0, none⟩ 1 1 [.int .u32 (o : Nat)] rfl rfl (cell_one_new _ _ _) (by simp [Value.oneCell']) (by simp only [maxLen]; omega) (by omega) (by simp; have := hb.size; omega) ?_))
              intro v' w1 hown1 hg1 _ _
              have hown2 := Lib.hid hown1
              have hg2 := Lib.hid hg1
              clear hown1 hg1
              go_wp2_with (fail)
              go_roundw
              case rel =>
                refine ⟨k + 1, e, L ++ [o], rfl, by go_num, by omega, hel, ?_, ?_, Lib.hid (by simp [hlen.out]; omega), hlim.append (Lim.one hol), Lib.hid ?_⟩
                · exact (hb.alloc hb.size _).grown hg2.out (by simp; have := hb.size; omega) (fun k e => own_base' hown k e)
                · rw [vals_append]; exact hown2.out
                · have h1 := hval.out
                  have h2 := hoe.out
                  rw [val_snoc, hlen.out, ma.out, ← Nat.add_assoc, Nat.pow_succ]
                  rw [Nat.pow_add] at h1 ⊢
                  generalize 4294967296 ^ k = pk at *
                  generalize 4294967296 ^ i = pi at *
                  generalize a % pk = a1 at *
                  generalize val L = vl at *
                  grind
              case measure => simp only [intOf]; omega
            · obtain rfl : k = nl a + 1 := by omega
              have h1 := hval.out
              rw [mod_nl (show nl a ≤ nl a + 1 by omega)] at h1
              have h2 := val_lt hlim
              rw [hlen.out] at h2
              have h3 : a * bb * 4294967296 ^ i < 4294967296 ^ (i + (nl a + 1)) := by
                have h4 := nl_lt a
                have h5 : a * bb < 4294967296 ^ nl a * 4294967296 := Nat.mul_lt_mul'' h4 (by omega)
                rw [Nat.pow_add, Nat.mul_comm (4294967296 ^ i), Nat.pow_succ]
                exact Nat.mul_lt_mul_of_pos_right h5 (Nat.pow_pos (by decide))
              have h6 : cr = 0 := by
                rcases Nat.eq_zero_or_pos cr with h | h
                · exact h
                · have := Nat.le_mul_of_pos_right (4294967296 ^ (i + (nl a + 1))) h
                  omega
              rw [h6, Nat.mul_zero, Nat.add_zero, hbb.out, Nat.mul_assoc, ← pow32, ← Nat.pow_add, ← hns.out] at h1
              have hmk := rmake_f X (i + (nl a + 1)) cx L wr hlen.out hrd hlim (by omega) hcx (own_nilcap hown)
              rw [h1] at hmk
              replace hmk := Lib.hid hmk
              clear h1 h2 h3 h6
              go_wp2_with (fail)
              refine hmk.out.mono ?_
              rintro e w2 ⟨Y, cy, rfl, k1, k2, k3⟩
              go_wp2_with (fail)
              go_ret
              exact ⟨Y, cy, rfl, k1, hb.cons k2, k3.le hb.size⟩
theorem rshl_c (A : Option Addr) (c a n : Nat) (w : World) (hA : NatV w A c a) (ha : nl a ≤ 1073741824) (hn : n ≤ 1073741824) :
    Calls Tryz.prog 73 #[.slice A (nl a) c, .int .i64 (n : Nat)] w (RetN w (a * 2 ^ n)) :=
  (rshl_f A c a n w hA ha hn).mono fun _ _ h => h.toN
end Go.Proofs.YtacjfpibilolnaaGreatDoor

/- The document's naturals, walked: Shr. -/
set_option linter.unusedVariables false
set_option linter.unusedSimpArgs false
namespace Go.Proofs.YtacjfpibilolnaaGreatDoor
open Go.RowKit Go.Shelf
attribute [local go_sem] max2_i min2_i max_two min_two

theorem shr_dig (t s : Nat) (hs : s < 32) : t / 2 ^ s % 4294967296 = (t % 4294967296 + 4294967296 * (t / 4294967296 % 4294967296 % 2 ^ s)) / 2 ^ s % 4294967296 := by
  have e2 : (4294967296 : Nat) = 2 ^ s * 2 ^ (32 - s) := by rw [← Nat.pow_add, show s + (32 - s) = 32 by omega]
  have hp := Nat.two_pow_pos s
  have h1 := Nat.div_add_mod t 4294967296
  have h2 := Nat.div_add_mod (t / 4294967296) 4294967296
  have h3 := Nat.div_add_mod (t / 4294967296 % 4294967296) (2 ^ s)
  generalize t % 4294967296 = x at *
  generalize t / 4294967296 % 4294967296 % 2 ^ s = v at *
  generalize t / 4294967296 % 4294967296 / 2 ^ s = u at *
  generalize t / 4294967296 % 4294967296 = y at *
  generalize t / 4294967296 / 4294967296 = z at *
  generalize t / 4294967296 = q at *
  have e : t = (x + 4294967296 * v) + 2 ^ s * (4294967296 * u + 4294967296 * (2 ^ (32 - s) * z)) := by
    rw [← h1, ← h2, ← h3]
    have e3 : 4294967296 * (4294967296 * z) = 2 ^ s * (4294967296 * (2 ^ (32 - s) * z)) := by
      conv => lhs; rw [← Nat.mul_assoc]; arg 1; arg 1; rw [e2]
      grind
    rw [Nat.mul_add, e3]
    grind
  rw [e, Nat.add_mul_div_left _ _ hp, ← Nat.mul_add, Nat.add_mul_mod_self_left]
set_option maxRecDepth 100000 in
set_option maxHeartbeats 4000000 in
theorem rshr_c (A : Option Addr) (c a n : Nat) (w : World) (hA : NatV w A c a) (ha : nl a ≤ 1073741824) (hn : n ≤ 1073741824) :
    Calls Tryz.prog 82 #[.slice A (nl a) c, .int .i64 (n : Nat)] w (RetN w (a / 2 ^ n)) := by
  obtain ⟨i0, hi, hz0, hz1, hz2⟩ := info_parts info_u32
  obtain ⟨q, hq⟩ : ∃ q, q = n / 32 := ⟨_, rfl⟩
  obtain ⟨s, hs⟩ : ∃ s, s = n % 32 := ⟨_, rfl⟩
  have hqI : (n : Int) / 32 = (q : Int) := by omega
  have hsI : (n : Int) % 32 = (s : Int) := by omega
  have hql : q ≤ 33554432 := by omega
  have hsl : s < 32 := by omega
  have hns : n = 32 * q + s := by omega
  have hs31 : 2 ^ s ≤ 2147483648 := Nat.pow_le_pow_right (by decide) (show s ≤ 31 by omega)
  replace hns := Lib.hid hns
  replace hs := Lib.hid hs
  replace hq := Lib.hid hq
  replace hs31 := Lib.hid hs31
  go_enter Tryz.func82, Tryz.ntmps82
  go_wp2_with (fail)
  go_loopw [6, 7] (fun vb vi w2 => ∃ j bb : Nat, vb = .int .u64 bb ∧ vi = .int .i64 j ∧ j ≤ s ∧ Hid (bb = 2 ^ j) ∧ bb ≤ 2147483648 ∧ w2 = w.alloc (.cells #[] 58)) (fun vb vi w2 => s - (intOf vi).toNat)
  case atStart => exact ⟨0, 1, rfl, rfl, Nat.zero_le _, Lib.hid rfl, by decide, rfl⟩
  case round =>
    obtain ⟨j, bb, rfl, rfl, hj, hbb, hbl, hw2⟩ := hrel
    rw [hw2]
    clear hw2
    by_cases hlt2 : j < s
    · have hb2 : 2 * bb = 2 ^ (j + 1) := by rw [hbb.out, Nat.pow_succ, Nat.mul_comm]
      have hb3 : 2 * bb ≤ 2147483648 := by rw [hb2]; exact Nat.le_trans (Nat.pow_le_pow_right (by decide) (show j + 1 ≤ s by omega)) hs31.out
      replace hb2 := Lib.hid hb2
      go_wp2_with (fail)
      go_roundw
      case rel => exact ⟨j + 1, 2 * bb, by go_num, by go_num, by omega, hb2, hb3, by first | rfl | trivial⟩
      case measure => simp only [intOf]; omega
    · obtain rfl : j = s := by omega
      go_wp2_with (fail)
      simp only [hsI]
      go_loopw [5, 8, 9] (fun vo vi vx wr => ∃ (k : Nat), vi = .int .i64 ((q + k : Nat) : Int) ∧ k ≤ nl a - q ∧ Below w.heap.size w wr ∧ wr.ownsRow w.heap.size 58 1 vo k (vals (digs (a / 2 ^ n) k))) (fun vo vi vx wr => q + (nl a - q) - (intOf vi).toNat)
      case atStart => exact ⟨0, rfl, Nat.zero_le _, (Below.refl _ _).alloc (Nat.le_refl _) _, World.ownsRow_lit w #[] 0 (Nat.le_refl _) (by decide) rfl⟩
      case round =>
        obtain ⟨k, rfl, hk, hb, hown⟩ := hrel
        obtain ⟨X, cx, rfl, hcx, hcm, hrd⟩ := ownV_rd hown
        obtain ⟨m, hm⟩ : ∃ m, m = q + k := ⟨_, rfl⟩
        rw [← hm]
        by_cases hlt3 : m < nl a
        · have CA := limb_c A c a m wr (hA.below hb) (by omega) (by omega)
          have CB := limb_c A c a (m + 1) wr (hA.below hb) (by omega) (by omega)
          obtain ⟨x, hx⟩ : ∃ x, x = a / 4294967296 ^ m % 4294967296 := ⟨_, rfl⟩
          obtain ⟨y, hy⟩ : ∃ y, y = a / 4294967296 ^ (m + 1) % 4294967296 := ⟨_, rfl⟩
          have hxl : x < 4294967296 := by rw [hx]; exact dig_lt _ _
          have hyl : y < 4294967296 := by rw [hy]; exact dig_lt _ _
          rw [← hx] at CA
          rw [← hy] at CB
          have hb0 : 0 < bb := by rw [hbb.out]; exact Nat.two_pow_pos _
          obtain ⟨v, hv⟩ : ∃ v, v = y % bb := ⟨_, rfl⟩
          have hvI : (y : Int) % (bb : Int) = (v : Int) := by rw [hv]; exact (Int.natCast_emod y bb).symm
          have hvl : v < 2147483648 := by have := Nat.mod_lt y hb0; omega
          obtain ⟨t, ht⟩ : ∃ t, t = x + 4294967296 * v := ⟨_, rfl⟩
          have htI : (x : Int) + 4294967296 * (v : Int) = (t : Int) := by omega
          have htb : t < 18446744073709551616 := by omega
          obtain ⟨u, hu⟩ : ∃ u, u = t / bb := ⟨_, rfl⟩
          have huI : (t : Int) / (bb : Int) = (u : Int) := by rw [hu]; exact (Int.natCast_ediv t bb).symm
          have hul : u ≤ t := by rw [hu]; exact Nat.div_le_self _ _
          obtain ⟨o, ho⟩ : ∃ o, o = u % 4294967296 := ⟨_, rfl⟩
          have hoI : (u : Int) % 4294967296 = (o : Int) := by omega
          have hol : o < 4294967296 := by omega
          have hbz : ((bb : Int) == 0) = false := ieqF (by omega)
          have hcI : (m : Int) + 1 = ((m + 1 : Nat) : Int) := rfl
          have hfin : a / 2 ^ n / 4294967296 ^ k % 4294967296 = o := by
            rw [ho, hu, ht, hv, hx, hy, hbb.out, hns.out, Nat.pow_add, pow32, Nat.div_div_eq_div_mul, show 4294967296 ^ q * 2 ^ j * 4294967296 ^ k = 4294967296 ^ m * 2 ^ j by rw [hm, Nat.pow_add]; grind, ← Nat.div_div_eq_div_mul, shr_dig _ _ hsl, Nat.pow_succ, ← Nat.div_div_eq_div_mul]
          replace hfin := Lib.hid hfin
          replace CA := Lib.hid CA
          replace CB := Lib.hid CB
          replace hx := Lib.hid hx
          replace hy := Lib.hid hy
          replace hv := Lib.hid hv
          replace ht := Lib.hid ht
          replace hu := Lib.hid hu
          replace ho := Lib.hid ho
          replace hm := Lib.hid hm
          clear hcI
          go_wp2_with (first
            | (go_at_call 114; (with_reducible refine CA.out.mono ?_); rintro e w' ⟨rfl, rfl⟩)
            | (go_at_call 114; (refine CB.out.mono ?_); rintro e w' ⟨rfl, rfl⟩)
            | (at_builtin; refine wpList_append_own_at _ rfl _ _ 22 rfl w.heap.size 58 i0 (.int .u32 0) 1 4 Tryz.underlying22 hi hz0 hz1 hz2 rfl (by decide) _ (k) (vals (digs (a / 2 ^ n) k)) rfl (hown.alloc _) ⟨wr.heap.size, 0, none⟩ 1 1 [.int .u32 (o : Nat)] rfl rfl (cell_one_new _ _ _) (by simp [Value.oneCell']) (by simp only [maxLen]; omega) (by omega) (by simp; have := hb.size; omega) ?_))
          intro v' w1 hown1 hg1 _ _
          have hown2 := Lib.hid hown1
          have hg2 := Lib.hid hg1
          clear hown1 hg1
          go_wp2_with (fail)
          go_roundw
          case rel =>
            have := hm.out
            refine ⟨k + 1, by congr 1; omega, by omega, ?_, ?_⟩
            · exact (hb.alloc hb.size _).grown hg2.out (by simp; have := hb.size; omega) (fun k e => own_base' hown k e)
            · rw [digs_succ, vals_append, hfin.out]; exact hown2.out
          case measure => have := hm.out; simp only [intOf]; omega
        · have hkk : k = nl a - q := by omega
          have h1 : val (digs (a / 2 ^ n) k) = a / 2 ^ n := by
            rw [digs_val, Nat.mod_eq_of_lt]
            rw [hns.out, Nat.pow_add, ← Nat.div_div_eq_div_mul]
            refine Nat.lt_of_le_of_lt (Nat.div_le_self _ _) ?_
            rw [hkk]; exact nl_le.1 (nl_shr32 a q)
          have hmk := rmake_c X k cx (digs (a / 2 ^ n) k) wr (digs_len _ _) hrd (digs_lim _ _) (by omega) hcx (own_nilcap hown)
          rw [h1] at hmk
          replace hmk := Lib.hid hmk
          clear h1
          replace hkk := Lib.hid hkk
          replace hm := Lib.hid hm
          go_wp2_with (fail)
          refine hmk.out.mono ?_
          rintro e w2 ⟨Y, cy, rfl, k1, k2⟩
          go_wp2_with (fail)
          go_ret
          exact ⟨Y, cy, rfl, k1, hb.cons k2⟩
end Go.Proofs.YtacjfpibilolnaaGreatDoor

/- The library's functions that the kit's shelf has proved, laid for this program. -/
set_option linter.unusedVariables false
namespace Go.Proofs.YtacjfpibilolnaaGreatDoor
open Go.Shelf
def rens : Ren :=
  { f := fun x => match x with
    | 125 => 159
    | 128 => 158
    | 129 => 168
    | 264 => 164
    | n => n
    t := fun x => match x with
    | 3 => 3
    | 4 => 4
    | 5 => 5
    | 9 => 9
    | 46 => 117
    | 51 => 58
    | 53 => 94
    | n => n
    g := fun x => x }
set_option maxRecDepth 100000 in
theorem lays128 : Lays.n128 Tryz.prog rens :=
  { mixed := rfl, f128 := Tryz.func158.trans (congrArg some rfl), t3 := Tryz.underlying3, a3 := Tryz.isAgg3, z3 := Tryz.sizeOf3, v3 := Tryz.zeroValue3, t4 := Tryz.underlying4, a4 := Tryz.isAgg4, z4 := Tryz.sizeOf4, v4 := Tryz.zeroValue4, t5 := Tryz.underlying5, a5 := Tryz.isAgg5, z5 := Tryz.sizeOf5, v5 := Tryz.zeroValue5, t9 := Tryz.underlying9, a9 := Tryz.isAgg9, z9 := Tryz.sizeOf9, v9 := Tryz.zeroValue9, t46 := Tryz.underlying117, a46 := Tryz.isAgg117, z46 := Tryz.sizeOf117, v46 := Tryz.zeroValue117, t51 := Tryz.underlying58, a51 := Tryz.isAgg58, z51 := Tryz.sizeOf58, v51 := Tryz.zeroValue58 }
theorem len32_c (x : Nat) (w : World) (h1 : x < 4294967296) :
    Calls Tryz.prog 158 #[.int .u32 (x : Nat)] w fun e w' => e = .returned (.int .i64 (Lib.bitLen x)) ∧ w' = w := by
  have := Any.bits_Len32 lays128 (x : Int) w (by omega) (by omega)
  rwa [Int.toNat_natCast] at this
end Go.Proofs.YtacjfpibilolnaaGreatDoor

/- How many bits a natural has. -/
set_option linter.unusedVariables false
set_option linter.unusedSimpArgs false
namespace Go.Proofs.YtacjfpibilolnaaGreatDoor
open Go.RowKit Go.Shelf
attribute [local go_sem] max2_i min2_i max_two min_two

/-- How many bits. -/
def bl (a : Nat) : Nat := if a = 0 then 0 else 32 * (nl a - 1) + Lib.bitLen (gl (limbs a) (nl a - 1))
theorem pow32_top {a : Nat} (h : a ≠ 0) : a / 4294967296 ^ (nl a - 1) = gl (limbs a) (nl a - 1) := by
  rw [limbs_gl, Nat.mod_eq_of_lt]
  rw [Nat.div_lt_iff_lt_mul (Nat.pow_pos (by decide)), Nat.mul_comm, ← Nat.pow_succ]
  have := nl_lt a
  have := nl_pos.2 h
  rwa [show (nl a - 1).succ = nl a by omega]
theorem bl_top {a : Nat} (h : a ≠ 0) : ∃ L, bl a = 32 * (nl a - 1) + L ∧ 1 ≤ L ∧ 2 ^ (L - 1) ≤ a / 4294967296 ^ (nl a - 1) ∧ a / 4294967296 ^ (nl a - 1) < 2 ^ L := by
  have h1 := limbs_last a h
  have h2 := (lim_limbs a).gl (nl a - 1)
  rw [pow32_top h]
  refine ⟨Lib.bitLen (gl (limbs a) (nl a - 1)), by unfold bl; rw [if_neg h], ?_⟩
  exact Lib.bitLenAux_bounds 64 _ (Nat.lt_trans h2 (by decide)) h1
theorem bl_lt (a : Nat) : a < 2 ^ bl a := by
  by_cases h : a = 0
  · subst h; exact Nat.two_pow_pos _
  · obtain ⟨L, e, h1, h2, h3⟩ := bl_top h
    rw [e, Nat.pow_add, pow32, Nat.mul_comm]
    exact (Nat.div_lt_iff_lt_mul (Nat.pow_pos (by decide))).1 h3
theorem bl_ge {a : Nat} (h : a ≠ 0) : 2 ^ (bl a - 1) ≤ a := by
  obtain ⟨L, e, h1, h2, h3⟩ := bl_top h
  rw [e, show 32 * (nl a - 1) + L - 1 = 32 * (nl a - 1) + (L - 1) by omega, Nat.pow_add, pow32, Nat.mul_comm]
  exact (Nat.le_div_iff_mul_le (Nat.pow_pos (by decide))).1 h2
theorem bl_le (a : Nat) : bl a ≤ 32 * nl a := by
  by_cases h : a = 0
  · subst h; unfold bl; simp
  · have h1 := bl_ge h
    have h2 := nl_lt a
    rw [← pow32] at h2
    have := (Nat.pow_lt_pow_iff_right (by decide : 1 < 2)).1 (Nat.lt_of_le_of_lt h1 h2)
    omega
end Go.Proofs.YtacjfpibilolnaaGreatDoor

/- The document's naturals cut to some limbs. -/
set_option linter.unusedVariables false
set_option linter.unusedSimpArgs false
namespace Go.Proofs.YtacjfpibilolnaaGreatDoor
open Go.RowKit Go.Shelf
attribute [local go_sem] max2_i min2_i max_two min_two

theorem Rd.take {w : World} {A : Option Addr} {l : List Nat} (h : Rd w A l) (k : Nat) : Rd w A (l.take k) := by
  rcases h with h | ⟨ad, rfl, h⟩
  · exact .inl (by simp [vals] at h ⊢; simp [h])
  · refine .inr ⟨ad, rfl, fun i u hu => h i u ?_⟩
    simp only [vals, List.map_take] at hu ⊢
    by_cases hik : i < k
    · rwa [List.getElem?_take_of_lt hik] at hu
    · rw [List.getElem?_take_eq_none (by omega)] at hu; cases hu

set_option maxRecDepth 100000 in
set_option maxHeartbeats 400000 in
theorem made_n_c (A : Option Addr) (c m : Nat) (l : List Nat) (w : World) (h : Rd w A l) (hL : Lim l) (hl : l.length ≤ maxLen) (hc : l.length ≤ c) (hnil : A = none → c = 0) (hm : m ≤ 1099511627776) :
    Calls Tryz.prog 59 #[.slice A l.length c, .int .i64 (m : Nat)] w (RetN w (val (l.take m))) := by
  obtain ⟨k, hk⟩ : ∃ k, k = min l.length m := ⟨_, rfl⟩
  have hkI : min (l.length : Int) (m : Int) = (k : Int) := by omega
  have hkl : k ≤ l.length := by omega
  have hkm : k ≤ m := by omega
  have e : l.take m = l.take k := by
    rw [hk]
    rcases Nat.le_total l.length m with h1 | h1
    · rw [Nat.min_eq_left h1, List.take_of_length_le h1, List.take_of_length_le (Nat.le_refl _)]
    · rw [Nat.min_eq_right h1]
  rw [e]
  have hmk := rmake_c A k c (l.take k) w (by simp [hkl]) (h.take k) (hL.take k) (by omega) (by omega) hnil
  have HM := Lib.hid hmk
  have HK := Lib.hid hk
  clear hmk hk e
  go_enter Tryz.func59, Tryz.ntmps59
  go_wp2_with (fail)
  refine HM.out.mono ?_
  rintro e w1 ⟨X, cx, rfl, h1, h2⟩
  go_wp2_with (fail)
  go_ret
  exact ⟨X, cx, rfl, h1, h2⟩

theorem made_nl (l : List Nat) (h : Lim l) (n : Nat) : nl (val (l.take n)) ≤ n := by
  have h1 := val_lt (h.take n)
  refine nl_le.2 (Nat.lt_of_lt_of_le h1 (Nat.pow_le_pow_right (by decide) ?_))
  rw [List.length_take]; exact Nat.min_le_left _ _
end Go.Proofs.YtacjfpibilolnaaGreatDoor
