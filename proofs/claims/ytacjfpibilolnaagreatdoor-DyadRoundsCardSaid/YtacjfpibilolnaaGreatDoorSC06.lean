/- The layer of naturals: shifts. -/
import Derived.Test.YtacjfpibilolnaaGreatDoorSC05
import Derived.Deep.RegionHeld3
set_option maxRecDepth 100000
set_option maxHeartbeats 4000000
set_option linter.unusedVariables false
set_option linter.unusedSimpArgs false
namespace Go.Proofs.YtacjfpibilolnaaGreatDoor
open Go.RowKit Go.Shelf
attribute [local go_sem] max2_i min2_i max_two min_two

theorem or_low (x low s : Nat) (hx : x < 4294967296) (hs : s < 32) (hl : low < 2 ^ s) :
    bits .or .u32 ((x : Int) * 2 ^ s % 4294967296) (low : Int) = ((x * 2 ^ s % 4294967296 + low : Nat) : Int) ∧ x * 2 ^ s % 4294967296 + low < 4294967296 := by
  have hp : (2 : Nat) ^ s ≤ 2 ^ 31 := Nat.pow_le_pow_right (by decide) (by omega)
  have e1 : ((x : Int) * 2 ^ s % 4294967296) = ((x * 2 ^ s % 4294967296 : Nat) : Int) := by simp
  have hm : x * 2 ^ s % 4294967296 < 4294967296 := Nat.mod_lt _ (by decide)
  have e2 : (2 : Nat) ^ 32 = 2 ^ (32 - s) * 2 ^ s := by rw [← Nat.pow_add]; congr 1; omega
  have e3 : x * 2 ^ s % 4294967296 = 2 ^ s * (x % 2 ^ (32 - s)) := by
    rw [show 4294967296 = 2 ^ 32 from rfl, e2, Nat.mul_mod_mul_right, Nat.mul_comm]
  have h1 : x % 2 ^ (32 - s) + 1 ≤ 2 ^ (32 - s) := Nat.mod_lt _ (Nat.pow_pos (by decide))
  have h2 := Nat.mul_le_mul_left (2 ^ s) h1
  rw [← Nat.pow_add, show s + (32 - s) = 32 by omega, Nat.mul_add] at h2
  refine ⟨?_, ?_⟩
  · rw [e1, u32_or_nat _ _ hm (by omega), e3, ← Nat.two_pow_add_eq_or_of_lt hl]
  · rw [e3]; omega
theorem hi_low (x s : Nat) (hx : x < 4294967296) (hs : s < 32) : x * 2 ^ s / 4294967296 < 2 ^ s := by
  rw [Nat.div_lt_iff_lt_mul (by decide), Nat.mul_comm]
  exact Nat.mul_lt_mul_of_pos_left hx (Nat.pow_pos (by decide))

theorem shl_c (A : Option Addr) (c a : Nat) (n : Nat) (w : World) (hA : NatV w A c a) (ha : nl a ≤ 1073741824) (hn : n ≤ 1073741824) (h0 : a ≠ 0) :
    Calls Tryz.prog 104 #[.slice A (nl a) c, .int .i64 (n : Int)] w (RetN w (a * 2 ^ n)) := by
  have hp := nl_pos.2 h0
  have hb0 : ((nl a : Int) == 0) = false := ieqF (by omega)
  have hmk := mk32 ((n : Int) / 32) ((n : Int) / 32 + nl a + 1) (by omega) (by omega) (by omega)
  obtain ⟨i0, hi, hz0, hz1, hz2⟩ := info_parts info_u32
  go_enter Tryz.func104, Tryz.ntmps104
  go_wp2_with (fail)
  have hs := Nat.mod_lt n (show 0 < 32 by decide)
  go_loopw [5, 7, 9, 26] (fun o lo x i wr => ∃ (k low : Nat) (L : List Nat), o = .slice (some ⟨w.heap.size, 0, none⟩) (n / 32 + k) (n / 32 + nl a + 1) ∧ i = .int .i64 k ∧ lo = .int .u32 low ∧ k ≤ nl a ∧ Below w.heap.size w wr ∧
    wr.ownsRow w.heap.size 58 1 (.slice (some ⟨w.heap.size, 0, none⟩) (n / 32 + k) (n / 32 + nl a + 1)) (n / 32 + k) (vals L) ∧ L.length = n / 32 + k ∧ Lim L ∧ Hid (val L + 4294967296 ^ (n / 32 + k) * low = val ((limbs a).take k) * 2 ^ (n % 32) * 4294967296 ^ (n / 32)) ∧ low < 2 ^ (n % 32)) (fun o lo x i wr => nl a - (intOf i).toNat)
  case atStart =>
    have e1 : ((n : Int) / 32).toNat = n / 32 := by omega
    have e2 : ((n : Int) / 32 + nl a + 1).toNat = n / 32 + nl a + 1 := by omega
    refine ⟨0, 0, List.replicate (n / 32) 0, by simp, rfl, rfl, Nat.zero_le _, ((Below.refl _ _).alloc (Nat.le_refl _) _), ?_, by simp, Lim.replicate _ _ (by decide), Lib.hid (by rw [val_replicate]; simp [val]), Nat.pow_pos (by decide)⟩
    simp only [Nat.add_zero, e2]
    refine ⟨by simp [vals], .inr ⟨w.heap.size, n / 32 + nl a + 1, _, rfl, Nat.le_refl _, heap_alloc_new w _, by omega, by simp only [maxLen]; omega, by rw [size_madeCells, Nat.mul_one], ?_⟩⟩
    rw [toList_madeCells_one, List.take_replicate, Nat.min_eq_left (by omega)]
    simp [vals]
  case round =>
    obtain ⟨k, low, L, rfl, rfl, rfl, hk, hb, hown, hlen, hlim, hval, hlow⟩ := hrel
    by_cases hlt : k < nl a
    · obtain ⟨ad, rfl, hc⟩ := (hA.rd.below hb).get k hlt
      obtain ⟨x, hx⟩ : ∃ x, gl (limbs a) k = x := ⟨_, rfl⟩
      have hxl := (lim_limbs a).gl k
      rw [hx] at hc hxl
      obtain ⟨hor, hvl⟩ := or_low x low (n % 32) hxl hs hlow
      generalize hv : x * 2 ^ (n % 32) % 4294967296 + low = v at *
      have HV := Lib.hid hv
      have HX := Lib.hid hx
      have HL := Lib.hid hlen
      clear hv hx hlen
      have hxl2 : (x : Int) < 4294967296 := by omega
      go_wp2_with (at_builtin; refine wpList_append_fits _ rfl _ _ 22 rfl w.heap.size 58 i0 1 Tryz.underlying22 hi hz1 w.heap.size (n / 32 + k) (n / 32 + nl a + 1) (vals L) rfl (hown.alloc _) ⟨wr.heap.size, 0, none⟩ 1 1 [.int .u32 (v : Nat)] rfl rfl (cell_one_new _ _ _) (by simp [Value.oneCell']) (by omega) ?_)
      intro w1 hown1 hg1
      go_wp2_with (fail)
      go_roundw
      case rel =>
        have hq : x * 2 ^ (n % 32) / 4294967296 < 2 ^ (n % 32) := hi_low x _ hxl hs
        refine ⟨k + 1, x * 2 ^ (n % 32) / 4294967296, L ++ [v], by rw [Nat.add_assoc], by go_num, ?_, by omega, ?_, ?_, ?_, ?_, Lib.hid ?_, hq⟩
        · have hp31 : (2 : Nat) ^ (n % 32) ≤ 2 ^ 31 := Nat.pow_le_pow_right (by decide) (by omega)
          have h64 : x * 2 ^ (n % 32) ≤ 4294967296 * 2 ^ 31 := Nat.mul_le_mul (by omega) hp31
          have e1 : ((x : Int) * 2 ^ (n % 32)) = ((x * 2 ^ (n % 32) : Nat) : Int) := by simp
          congr 1
          rw [e1]
          generalize x * 2 ^ (n % 32) = y at *
          have : IntKind.u64.wrap (y : Int) = (y : Int) := by
            simp only [IntKind.wrap, IntKind.bits, IntKind.signed]
            simp
            omega
          rw [this]
          omega
        · exact (hb.alloc hb.size _).grown hg1 (by simp; have := hb.size; omega) (fun k e => by cases e; exact Nat.le_refl _)
        · rw [vals_append]; exact hown1
        · simp [HL.out]; omega
        · exact hlim.append (Lim.cons hvl Lim.nil)
        · have hval := hval.out
          have hv := HV.out
          have hx := HX.out
          rw [val_snoc, HL.out, val_take_succ _ _ hlt, hx, ← hv]
          have e := Nat.div_add_mod (x * 2 ^ (n % 32)) 4294967296
          generalize x * 2 ^ (n % 32) / 4294967296 = d at *
          rw [← Nat.add_assoc, Nat.pow_succ]
          rw [Nat.pow_add] at hval ⊢
          generalize val ((limbs a).take k) = t at *
          generalize 4294967296 ^ k = p at *
          generalize 4294967296 ^ (n / 32) = r at *
          generalize x * 2 ^ (n % 32) % 4294967296 = m at *
          generalize 2 ^ (n % 32) = z at *
          grind
      case measure => simp [intOf] <;> omega
    · obtain rfl : k = nl a := by omega
      have HV := hval
      go_wp2_with (first
        | (go_at_call 109; fail)
        | (at_builtin; refine wpList_append_fits _ rfl _ _ 22 rfl w.heap.size 58 i0 1 Tryz.underlying22 hi hz1 w.heap.size (n / 32 + nl a) (n / 32 + nl a + 1) (vals L) rfl (hown.alloc _) ⟨wr.heap.size, 0, none⟩ 1 1 [.int .u32 (low : Nat)] rfl rfl (cell_one_new _ _ _) (by simp [Value.oneCell']) (by omega) ?_))
      intro w1 hown1 hg1
      obtain ⟨Y, cy, hYe, hcy, hcm, hrd⟩ := ownV_rd hown1
      cases hYe
      have hll : low < 4294967296 := by
        have : (2 : Nat) ^ (n % 32) ≤ 2 ^ 31 := Nat.pow_le_pow_right (by decide) (by omega)
        omega
      have hb2 : Below w.heap.size w w1 := (hb.alloc hb.size _).grown hg1 (by simp; have := hb.size; omega) (fun k e => by cases e; exact Nat.le_refl _)
      have hmake := make_c (some ⟨w.heap.size, 0, none⟩) (n / 32 + nl a + 1) (n / 32 + nl a + 1) (L ++ [low]) w1 (by simp [hlen]) (by unfold Rd; rw [vals_append]; exact hrd) (hlim.append (Lim.cons hll Lim.nil)) (by omega) (Nat.le_refl _)
      have hvv : val (L ++ [low]) = a * 2 ^ n := by
        have h := HV.out
        rw [take_limbs (Nat.le_refl _)] at h
        rw [val_snoc, hlen, h, Nat.mul_assoc, ← pow32, ← Nat.pow_add]
        congr 2
        omega
      rw [hvv] at hmake
      have HM := Lib.hid hmake
      clear hmake hown1 hown hrd hg1 hval hlen
      go_wp2_with (fail)
      refine HM.out.mono ?_
      rintro e w2 ⟨X, cx, rfl, h1, h2⟩
      go_wp2_with (fail)
      go_ret
      exact ⟨X, cx, rfl, h1, hb2.trans (h2.mono hb2.size)⟩
theorem nat_mod_pow_split (t s : Nat) (hs : s ≤ 32) : t / 2 ^ s % 4294967296 = t % 4294967296 / 2 ^ s + (t / 4294967296 % 4294967296) * 2 ^ (32 - s) % 4294967296 := by
  have e2 : (4294967296 : Nat) = 2 ^ s * 2 ^ (32 - s) := by rw [← Nat.pow_add, show s + (32 - s) = 32 by omega]
  have h1 : t % 4294967296 / 2 ^ s = t / 2 ^ s % 2 ^ (32 - s) := by
    rw [e2, Nat.mod_mul_right_div_self]
  have h2 : (t / 4294967296 % 4294967296) * 2 ^ (32 - s) % 4294967296 = (t / 4294967296 % 2 ^ s) * 2 ^ (32 - s) := by
    generalize t / 4294967296 = u
    rw [e2, Nat.mul_mod_mul_right, Nat.mod_mul_right_mod]
  have h3 : t / 2 ^ s % 4294967296 = t / 2 ^ s % 2 ^ (32 - s) + 2 ^ (32 - s) * (t / 2 ^ s / 2 ^ (32 - s) % 2 ^ s) := by
    rw [show (4294967296 : Nat) = 2 ^ (32 - s) * 2 ^ s by rw [Nat.mul_comm]; exact e2, Nat.mod_mul]
  rw [h1, h2, h3, Nat.div_div_eq_div_mul, ← e2, Nat.mul_comm (2 ^ (32 - s))]
theorem or_high (x y s : Nat) (hx : x < 4294967296) (hs : s ≤ 32) :
    x / 2 ^ s ||| y * 2 ^ (32 - s) % 4294967296 = x / 2 ^ s + y * 2 ^ (32 - s) % 4294967296 := by
  have e2 : (4294967296 : Nat) = 2 ^ s * 2 ^ (32 - s) := by rw [← Nat.pow_add, show s + (32 - s) = 32 by omega]
  have h1 : x / 2 ^ s < 2 ^ (32 - s) := by rw [Nat.div_lt_iff_lt_mul (Nat.pow_pos (by decide)), Nat.mul_comm, ← e2]; exact hx
  have h2 : y * 2 ^ (32 - s) % 4294967296 = 2 ^ (32 - s) * (y % 2 ^ s) := by rw [e2, Nat.mul_mod_mul_right, Nat.mul_comm]
  rw [h2, Nat.or_comm, ← Nat.two_pow_add_eq_or_of_lt h1, Nat.add_comm]

/-- The lowest m limbs of a number. -/
def digs (n m : Nat) : List Nat := (List.range m).map fun i => n / 4294967296 ^ i % 4294967296
theorem digs_len (n m) : (digs n m).length = m := by simp [digs]
theorem digs_succ (n m) : digs n (m + 1) = digs n m ++ [n / 4294967296 ^ m % 4294967296] := by simp [digs, List.range_succ]
theorem digs_lim (n m) : Lim (digs n m) := fun x hx => by
  obtain ⟨i, _, rfl⟩ := List.mem_map.1 hx
  exact Nat.mod_lt _ (by decide)
theorem digs_val (n m : Nat) : val (digs n m) = n % 4294967296 ^ m := by
  induction m with
  | zero => simp [digs, val, Nat.mod_one]
  | succ m ih => rw [digs_succ, val_snoc, digs_len, ih, Nat.pow_succ, Nat.mod_mul]

theorem shr_or (x y s : Nat) (hx : x < 4294967296) (hy : y < 4294967296) (hs : s < 32) :
    bits .or .u32 ((x : Int) / 2 ^ s) (IntKind.u32.wrap (IntKind.u64.wrap (IntKind.u64.wrap (y : Int) * 4294967296) / 2 ^ s)) = ((x / 2 ^ s + y * 2 ^ (32 - s) % 4294967296 : Nat) : Int) := by
  have w1 : IntKind.u64.wrap (y : Int) = (y : Int) := by
    simp only [IntKind.wrap, IntKind.bits, IntKind.signed]; simp; omega
  have w2 : IntKind.u64.wrap ((y : Int) * 4294967296) = ((y * 4294967296 : Nat) : Int) := by
    simp only [IntKind.wrap, IntKind.bits, IntKind.signed]; simp; omega
  have e2 : (4294967296 : Nat) = 2 ^ (32 - s) * 2 ^ s := by rw [← Nat.pow_add, show (32 - s) + s = 32 by omega]
  have w3 : (((y * 4294967296 : Nat) : Int) / 2 ^ s) = ((y * 2 ^ (32 - s) : Nat) : Int) := by
    have : ((y * 4294967296 : Nat) : Int) / 2 ^ s = ((y * 4294967296 / 2 ^ s : Nat) : Int) := by simp
    rw [this]
    congr 1
    conv => lhs; rw [e2]
    rw [← Nat.mul_assoc, Nat.mul_div_cancel _ (Nat.pow_pos (by decide))]
  have w4 : ((x : Int) / 2 ^ s) = ((x / 2 ^ s : Nat) : Int) := by simp
  have w5 : IntKind.u32.wrap ((y * 2 ^ (32 - s) : Nat) : Int) = ((y * 2 ^ (32 - s) % 4294967296 : Nat) : Int) := by
    rw [IntKind.wrap_u32]; omega
  have hx2 : x / 2 ^ s < 4294967296 := Nat.lt_of_le_of_lt (Nat.div_le_self _ _) hx
  rw [w1, w2, w3, w4, w5, u32_or_nat _ _ hx2 (Nat.mod_lt _ (by decide)), or_high x y s hx (by omega)]
theorem shr_c0 (A : Option Addr) (c a : Nat) (n q s : Nat) (w : World) (hA : NatV w A c a) (ha : nl a ≤ 1073741824) (hs : s < 32) (hn : n = 32 * q + s) (hq : q < nl a) :
    Calls Tryz.prog 105 #[.slice A (nl a) c, .int .i64 (n : Int)] w (RetN w (a / 2 ^ n)) := by
  obtain ⟨i0, hi, hz0, hz1, hz2⟩ := info_parts info_u32
  have hn1 : (n : Int) / 32 = (q : Int) := by omega
  have hn2 : (n : Int) % 32 = (s : Int) := by omega
  have hn3 : n / 32 = q := by omega
  have hn4 : n % 32 = s := by omega
  have hb0 : decide ((nl a : Int) ≤ (q : Int)) = false := by simp; omega
  have hb1 : decide (nl a ≤ q) = false := by simp; omega
  have HN := Lib.hid hn
  clear hn
  go_enter Tryz.func105, Tryz.ntmps105
  go_wp2_with (fail)
  simp only [hn2]
  go_loopw [7, 8, 21] (fun o j i wr => ∃ k : Nat, i = .int .i64 k ∧ k ≤ nl a - q ∧ Below w.heap.size w wr ∧ wr.ownsRow w.heap.size 58 1 o k (vals (digs (a / 2 ^ n) k))) (fun o j i wr => nl a - q - (intOf i).toNat)
  case atStart => exact ⟨0, rfl, Nat.zero_le _, Below.refl _ _, World.ownsRow_nil _ _ _ _⟩
  case round =>
    obtain ⟨k, rfl, hk, hb, hown⟩ := hrel
    obtain ⟨X, cx, rfl, hcx, hcm, _⟩ := ownV_rd hown
    by_cases hlt : k < nl a - q
    · have hA1 := hA.below hb
      obtain ⟨ad, rfl, hc⟩ := hA1.rd.get (q + k) (by unfold nl at *; omega)
      have HAT := Lib.hid (at_c (some ad) (nl a) c (limbs a) (q + k + 1) wr.drew rfl hA1.rd (by omega) (by omega))
      have i2 : q + k < nl a := by omega
      have i3 : (q : Int) + (k : Int) < (nl a : Int) := by omega
      have i4 : (0 : Int) ≤ (q : Int) + (k : Int) := by omega
      obtain ⟨x, hx⟩ : ∃ x, gl (limbs a) (q + k) = x := ⟨_, rfl⟩
      obtain ⟨y, hy⟩ : ∃ y, gl (limbs a) (q + k + 1) = y := ⟨_, rfl⟩
      rw [hx] at hc
      rw [hy] at HAT
      have hxl := (lim_limbs a).gl (q + k)
      have hyl := (lim_limbs a).gl (q + k + 1)
      rw [hx] at hxl
      rw [hy] at hyl
      have HX := Lib.hid hx
      have HY := Lib.hid hy
      clear hx hy
      have hd : (k : Int) < (nl a : Int) - (q : Int) := by omega
      have z1 : IntKind.i64.wrap ((q : Int) + (k : Int)) = (q : Int) + (k : Int) := IntWalk.i64_in _ (by omega)
      have z2 : ((q : Int) + (k : Int)).toNat = q + k := by omega
      have z3 : IntKind.i64.wrap ((q : Int) + (k : Int) + 1) = (q : Int) + (k : Int) + 1 := IntWalk.i64_in _ (by omega)
      have hor := shr_or x y s hxl hyl hs
      obtain ⟨v, hv⟩ : ∃ v, x / 2 ^ s + y * 2 ^ (32 - s) % 4294967296 = v := ⟨_, rfl⟩
      rw [hv] at hor
      have HV := Lib.hid hv
      clear hv
      have hown2 := (hown.alloc (.cells #[.int .u32 (v : Nat)] 58)).drew
      have KP2 : some (ad.add (q + k)).block ≠ (Value.slice X k cx).ownBlock := fun e => by
        have h1 := own_base' hown _ e.symm
        obtain ⟨ad', e', hc'⟩ := hA.rd.get (q + k) (by unfold nl at *; omega)
        cases e'
        have h2 := World.block_lt_of_cell? w _ hc'
        omega
      have KP1 : (ad.add (q + k)).block < ((wr.alloc (.cells #[.int .u32 (v : Nat)] 58)).drew).heap.size := by
        have := World.block_lt_of_cell? wr _ hc
        show _ < (wr.alloc _).heap.size
        simp; omega
      have HB := Lib.hid hb
      clear hb
      go_wp2_with (fail)
      go_region_held3 (fun w' => w'.cell? (ad.add (q + k)) = some (.int .u32 (x : Nat))) (first | go_keep | (rw [hgrow.cell_far _ KP1 KP2]; assumption)) (first
        | (go_at_call 127; refine (Hid.out HAT).mono ?_; rintro e w' ⟨rfl, rfl⟩)
        | (refine step_append_lies _ (by rfl) _ _ _ (by rfl) w.heap.size 58 i0 _ 1 4 Tryz.underlying22 hi hz0 hz1 hz2 rfl (by omega) (.slice X k cx) k _ (by rfl) hown2 ⟨wr.heap.size, 0, none⟩ 1 1 [.int .u32 (v : Nat)] (by rfl) (by rfl) (World.news_of_block (cs := #[.int .u32 (v : Nat)]) (t := 58) (fr := (0, 0)) (heap_alloc_new wr _)) (by simp [Value.oneCell']) (by omega) (by simp only [maxLen]; omega) (by omega) (by simp; have := HB.out.size; omega) (wr.heap.size + 1) (by simp) ?_; intro gg cap w1 hown1 hgrow hat hlt))
      go_wp2_with (fail)
      go_roundw
      case rel =>
        have r1 : Below w.heap.size w w1 := ((HB.out.alloc HB.out.size _).drew).grown hgrow (by show _ ≤ (wr.alloc _).heap.size; simp; have := HB.out.size; omega) (own_base' hown)
        have e : a / 2 ^ n / 4294967296 ^ k % 4294967296 = v := by
          rw [← HV.out, ← HX.out, ← HY.out, limbs_gl, limbs_gl, HN.out, Nat.pow_add, pow32, Nat.div_div_eq_div_mul, show 4294967296 ^ q * 2 ^ s * 4294967296 ^ k = 4294967296 ^ (q + k) * 2 ^ s by rw [Nat.pow_add]; grind, ← Nat.div_div_eq_div_mul, nat_mod_pow_split _ s (by omega), Nat.pow_succ, ← Nat.div_div_eq_div_mul]
        have r2 : w1.ownsRow w.heap.size 58 1 (.slice (some ⟨gg, 0, none⟩) (k + 1) cap) (k + 1) (vals (digs (a / 2 ^ n) (k + 1))) := by
          rw [digs_succ, vals_append, e]; exact hown1
        exact ⟨k + 1, by go_num, by omega, r1, r2⟩
      case measure => simp [intOf] <;> omega
    · obtain rfl : k = nl a - q := by omega
      have hmake := make_c X (nl a - q) cx (digs (a / 2 ^ n) (nl a - q)) wr (digs_len _ _) (by obtain ⟨A', c', e, _, _, h⟩ := ownV_rd hown; cases e; exact h) (digs_lim _ _) (by omega) hcx
      have hv : val (digs (a / 2 ^ n) (nl a - q)) = a / 2 ^ n := by
        rw [digs_val, Nat.mod_eq_of_lt]
        rw [HN.out, Nat.pow_add, ← Nat.div_div_eq_div_mul]
        refine Nat.lt_of_le_of_lt (Nat.div_le_self _ _) ?_
        exact nl_le.1 (nl_shr32 a q)
      rw [hv] at hmake
      have HM := Lib.hid hmake
      have HD : (((nl a - q : Nat) : Int)) = (nl a : Int) - (q : Int) := by omega
      have HDD := Lib.hid HD
      clear hmake hown hv HD
      have hd : decide ((((nl a - q : Nat) : Int)) < (nl a : Int) - (q : Int)) = false := by simp; omega
      go_wp2_with (fail)
      refine HM.out.mono ?_
      rintro e w2 ⟨Y, cy, rfl, h1, h2⟩
      go_wp2_with (fail)
      go_ret
      exact ⟨Y, cy, rfl, h1, hb.trans (h2.mono hb.size)⟩

theorem natV_nil (w : World) : NatV w none 0 0 := ⟨by rw [limbs_zero]; exact Rd.nil, by rw [nl_zero]; exact Nat.le_refl _, by decide⟩
theorem retN_nil (w : World) : RetN w 0 (.returned (.slice none 0 0)) w := ⟨none, 0, by rw [nl_zero], natV_nil w, Below.refl _ _⟩
theorem shl_ci (A : Option Addr) (c a : Nat) (n : Int) (w : World) (hA : NatV w A c a) (ha : nl a ≤ 1073741824) (h0 : 0 ≤ n) (hn : n ≤ 1073741824) :
    Calls Tryz.prog 104 #[.slice A (nl a) c, .int .i64 n] w (RetN w (a * 2 ^ n.toNat)) := by
  obtain ⟨m, rfl⟩ := Int.eq_ofNat_of_zero_le h0
  rw [Int.toNat_natCast]
  by_cases h : a = 0
  · subst h
    have hb0 : ((nl 0 : Int) == 0) = true := ieqT (by rw [nl_zero]; rfl)
    go_enter Tryz.func104, Tryz.ntmps104
    go_wp2_with (fail)
    go_ret
    rw [Nat.zero_mul]
    exact retN_nil w
  · exact shl_c A c a m w hA ha (by omega) h
theorem shr_ci (A : Option Addr) (c a : Nat) (n : Int) (w : World) (hA : NatV w A c a) (ha : nl a ≤ 1073741824) (h0 : 0 ≤ n) (hn : n ≤ 1099511627776) :
    Calls Tryz.prog 105 #[.slice A (nl a) c, .int .i64 n] w (RetN w (a / 2 ^ n.toNat)) := by
  obtain ⟨m, rfl⟩ := Int.eq_ofNat_of_zero_le h0
  rw [Int.toNat_natCast]
  by_cases h : m / 32 < nl a
  · exact shr_c0 A c a m (m / 32) (m % 32) w hA ha (Nat.mod_lt _ (by decide)) (by omega) h
  · have hn1 : (m : Int) / 32 = ((m / 32 : Nat) : Int) := by omega
    have hb0 : decide ((nl a : Int) ≤ ((m / 32 : Nat) : Int)) = true := by simp; omega
    have hb1 : decide (nl a ≤ m / 32) = true := by simp; omega
    have e : a / 2 ^ m = 0 := by
      rw [Nat.div_eq_of_lt]
      refine Nat.lt_of_lt_of_le (nl_lt a) ?_
      rw [← pow32]
      exact Nat.pow_le_pow_right (by decide) (by omega)
    rw [e]
    have HN := Lib.hid hn1
    clear hn1
    have hb2 : decide ((nl a : Int) ≤ (m : Int) / 32) = true := by simp; omega
    go_enter Tryz.func105, Tryz.ntmps105
    go_wp2_with (fail)
    go_ret
    exact retN_nil w
end Go.Proofs.YtacjfpibilolnaaGreatDoor
