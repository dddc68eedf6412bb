/- How many bits a natural has. -/
import Derived.Test.YtacjfpibilolnaaGreatDoorSC10
import Derived.Test.YtacjfpibilolnaaGreatDoorSC07
import Derived.Lib.ItoaNum
import Derived.Test.YtacjfpibilolnaaGreatDoorSC08
set_option maxRecDepth 100000
set_option maxHeartbeats 4000000
set_option linter.unusedVariables false
set_option linter.unusedSimpArgs false
namespace Go.Proofs.YtacjfpibilolnaaGreatDoor
open Go.RowKit Go.Shelf
attribute [local go_sem] max2_i min2_i max_two min_two

/-- How many bits. -/
def bl (a : Nat) : Nat := if a = 0 then 0 else 32 * (nl a - 1) + Lib.bitLen (gl (limbs a) (nl a - 1))
theorem pow32_top {a : Nat} (h : a ≠ 0) : a / 4294967296 ^ (nl a - 1) = gl (limbs a) (nl a - 1) := by
  rw [limbs_gl, Nat.mod_eq_of_lt]
  rw [Nat.div_lt_iff_lt_mul (Nat.pow_pos (by decide)), Nat.mul_comm, ← Nat.pow_succ]
  have := nl_lt a
  have := nl_pos.2 h
  rwa [show (nl a - 1).succ = nl a by omega]
theorem bl_top {a : Nat} (h : a ≠ 0) : ∃ L, bl a = 32 * (nl a - 1) + L ∧ 1 ≤ L ∧ 2 ^ (L - 1) ≤ a / 4294967296 ^ (nl a - 1) ∧ a / 4294967296 ^ (nl a - 1) < 2 ^ L := by
  have h1 := limbs_last a h
  have h2 := (lim_limbs a).gl (nl a - 1)
  rw [pow32_top h]
  refine ⟨Lib.bitLen (gl (limbs a) (nl a - 1)), by unfold bl; rw [if_neg h], ?_⟩
  exact Lib.bitLenAux_bounds 64 _ (Nat.lt_trans h2 (by decide)) h1
theorem bl_lt (a : Nat) : a < 2 ^ bl a := by
  by_cases h : a = 0
  · subst h; exact Nat.two_pow_pos _
  · obtain ⟨L, e, h1, h2, h3⟩ := bl_top h
    rw [e, Nat.pow_add, pow32, Nat.mul_comm]
    exact (Nat.div_lt_iff_lt_mul (Nat.pow_pos (by decide))).1 h3
theorem bl_ge {a : Nat} (h : a ≠ 0) : 2 ^ (bl a - 1) ≤ a := by
  obtain ⟨L, e, h1, h2, h3⟩ := bl_top h
  rw [e, show 32 * (nl a - 1) + L - 1 = 32 * (nl a - 1) + (L - 1) by omega, Nat.pow_add, pow32, Nat.mul_comm]
  exact (Nat.le_div_iff_mul_le (Nat.pow_pos (by decide))).1 h2
theorem bl_le (a : Nat) : bl a ≤ 32 * nl a := by
  by_cases h : a = 0
  · subst h; unfold bl; simp
  · have h1 := bl_ge h
    have h2 := nl_lt a
    rw [← pow32] at h2
    have := (Nat.pow_lt_pow_iff_right (by decide : 1 < 2)).1 (Nat.lt_of_le_of_lt h1 h2)
    omega
end Go.Proofs.YtacjfpibilolnaaGreatDoor

/- The document's naturals cut to some limbs. -/
set_option linter.unusedVariables false
set_option linter.unusedSimpArgs false
namespace Go.Proofs.YtacjfpibilolnaaGreatDoor
open Go.RowKit Go.Shelf
attribute [local go_sem] max2_i min2_i max_two min_two

theorem Rd.take {w : World} {A : Option Addr} {l : List Nat} (h : Rd w A l) (k : Nat) : Rd w A (l.take k) := by
  rcases h with h | ⟨ad, rfl, h⟩
  · exact .inl (by simp [vals] at h ⊢; simp [h])
  · refine .inr ⟨ad, rfl, fun i u hu => h i u ?_⟩
    simp only [vals, List.map_take] at hu ⊢
    by_cases hik : i < k
    · rwa [List.getElem?_take_of_lt hik] at hu
    · rw [List.getElem?_take_eq_none (by omega)] at hu; cases hu

theorem made_n_c (A : Option Addr) (c m : Nat) (l : List Nat) (w : World) (h : Rd w A l) (hL : Lim l) (hl : l.length ≤ maxLen) (hc : l.length ≤ c) (hnil : A = none → c = 0) (hm : m ≤ 1099511627776) :
    Calls Tryz.prog 59 #[.slice A l.length c, .int .i64 (m : Nat)] w (RetN w (val (l.take m))) := by
  obtain ⟨k, hk⟩ : ∃ k, k = min l.length m := ⟨_, rfl⟩
  have hkI : min (l.length : Int) (m : Int) = (k : Int) := by omega
  have hkl : k ≤ l.length := by omega
  have hkm : k ≤ m := by omega
  have e : l.take m = l.take k := by
    rw [hk]
    rcases Nat.le_total l.length m with h1 | h1
    · rw [Nat.min_eq_left h1, List.take_of_length_le h1, List.take_of_length_le (Nat.le_refl _)]
    · rw [Nat.min_eq_right h1]
  rw [e]
  have hmk := rmake_c A k c (l.take k) w (by simp [hkl]) (h.take k) (hL.take k) (by omega) (by omega) hnil
  have HM := Lib.hid hmk
  have HK := Lib.hid hk
  clear hmk hk e
  go_enter Tryz.func59, Tryz.ntmps59
  go_wp2_with (fail)
  refine HM.out.mono ?_
  rintro e w1 ⟨X, cx, rfl, h1, h2⟩
  go_wp2_with (fail)
  go_ret
  exact ⟨X, cx, rfl, h1, h2⟩

theorem made_nl (l : List Nat) (h : Lim l) (n : Nat) : nl (val (l.take n)) ≤ n := by
  have h1 := val_lt (h.take n)
  refine nl_le.2 (Nat.lt_of_lt_of_le h1 (Nat.pow_le_pow_right (by decide) ?_))
  rw [List.length_take]; exact Nat.min_le_left _ _
end Go.Proofs.YtacjfpibilolnaaGreatDoor

/- The document's product, walked. -/
set_option linter.unusedVariables false
set_option linter.unusedSimpArgs false
namespace Go.Proofs.YtacjfpibilolnaaGreatDoor
open Go.RowKit Go.Shelf

theorem rschool_c (A : Option Addr) (c a : Nat) (B : Option Addr) (d b : Nat) (w : World) (hA : NatV w A c a) (hB : NatV w B d b) (ha : nl a ≤ 1073741824) (hb : nl b ≤ 1073741824) :
    Calls Tryz.prog 132 #[.slice A (nl a) c, .slice B (nl b) d] w (RetN w (a * b)) := by
  have hmk := mk32 ((nl a : Int) + nl b) ((nl a : Int) + nl b) (by omega) (by omega) (by omega)
  have hown0 := ownsMade32 w w.heap.size (nl a + nl b) (Nat.le_refl _) (by omega)
  have hb0 : Below w.heap.size w (w.alloc (.cells (madeCells #[.int .u32 0] (nl a + nl b)) 58)) := (Below.refl _ _).alloc (Nat.le_refl _) _
  have e0 : ((nl a : Int) + nl b).toNat = nl a + nl b := by omega
  rw [e0] at hmk
  go_enter Tryz.func132, Tryz.ntmps132
  go_wp2_with (fail)
  go_loopw [6, 7, 8, 9] (fun vi vc vk vx wr => ∃ (i : Nat) (L : List Nat), vi = .int .i64 i ∧ i ≤ nl a ∧ Below w.heap.size w wr ∧ wr.ownsRow w.heap.size 58 1 (.slice (some ⟨w.heap.size, 0, none⟩) (nl a + nl b) (nl a + nl b)) (nl a + nl b) (vals L) ∧
    L.length = nl a + nl b ∧ Lim L ∧ Hid (val L = val ((limbs a).take i) * b) ∧ Hid (∀ j, i + nl b ≤ j → gl L j = 0)) (fun vi vc vk vx wr => nl a - (intOf vi).toNat)
  case atStart =>
    exact ⟨0, _, rfl, Nat.zero_le _, hb0, hown0, by simp, Lim.replicate _ _ (by decide), Lib.hid (by rw [val_replicate]; simp [val]), Lib.hid (fun j _ => by simp [gl, List.getElem?_replicate]; split <;> rfl)⟩
  case round =>
    obtain ⟨i, L, rfl, hi, hb, hown, hlen, hlim, hval, hz⟩ := hrel
    by_cases hlt : i < nl a
    · obtain ⟨ad, rfl, hcx⟩ := (hA.rd.below hb).get i hlt
      have hxl := (lim_limbs a).gl i
      obtain ⟨x, hx⟩ : ∃ x, gl (limbs a) i = x := ⟨_, rfl⟩
      rw [hx] at hcx hxl
      have HX := Lib.hid hx
      clear hx
      have HL := Lib.hid hlen
      clear hlen hmk
      obtain ⟨wo, rfl⟩ : ∃ wo : World, wo = wr := ⟨_, rfl⟩
      go_wp2_with (fail)
      go_loopw [7, 8, 9] (fun vc vk vx w2 => ∃ (k cr : Nat) (M : List Nat), vk = .int .i64 k ∧ vc = .int .u64 cr ∧ k ≤ nl b ∧ cr < 4294967296 ∧ Below w.heap.size w w2 ∧ w2.ownsRow w.heap.size 58 1 (.slice (some ⟨w.heap.size, 0, none⟩) (nl a + nl b) (nl a + nl b)) (nl a + nl b) (vals M) ∧
        Hid (M.length = nl a + nl b) ∧ Lim M ∧ Hid (val M + 4294967296 ^ (i + k) * cr = val L + 4294967296 ^ i * (x * val ((limbs b).take k))) ∧ Hid (∀ j, i + nl b ≤ j → gl M j = 0)) (fun vc vk vx w2 => nl b - (intOf vk).toNat)
      case atStart => exact ⟨0, 0, L, rfl, rfl, Nat.zero_le _, by decide, hb, hown, HL, hlim, Lib.hid (by simp [val]), hz⟩
      case round =>
        obtain ⟨k, cr, M, rfl, rfl, hk, hcr, hb2, hown2, hlen2, hlim2, hval2, hz2⟩ := hrel
        by_cases hlt2 : k < nl b
        · obtain ⟨ad', ee, hcx2⟩ := (hA.rd.below hb2).get i hlt
          cases ee
          rw [HX.out] at hcx2
          obtain ⟨bd, rfl, hcy⟩ := (hB.rd.below hb2).get k hlt2
          have hyl := (lim_limbs b).gl k
          obtain ⟨y, hy⟩ : ∃ y, gl (limbs b) k = y := ⟨_, rfl⟩
          rw [hy] at hcy hyl
          have HY := Lib.hid hy
          clear hy
          have hM : i + k < M.length := by rw [hlen2.out]; omega
          have hco := hown2.cellAt (i + k) (by omega)
          rw [vals_get M (i + k) hM] at hco
          have hfo := hown2.frozenAt (i + k)
          have hol := hlim2.gl (i + k)
          obtain ⟨o, ho⟩ : ∃ o, gl M (i + k) = o := ⟨_, rfl⟩
          rw [ho] at hco hol
          have HO := Lib.hid ho
          have HM := Lib.hid hM
          clear ho hM
          obtain ⟨hp1, hp2⟩ := mul_bdI hxl hyl
          have i1 : i + k < nl a + nl b := by omega
          go_wp2_with (fail)
          go_quiet (fail)
          go_wp2_with (fail)
          go_roundw
          case rel =>
            have et : ((x : Int) * (y : Int) + (o : Int) + (cr : Int)) = ((cr + (x * y + o) : Nat) : Int) := by simp; omega
            have hbd := mul_bd hxl hyl
            obtain ⟨t, ht⟩ : ∃ t, cr + (x * y + o) = t := ⟨_, rfl⟩
            rw [et, ht]
            have htb : t < 18446744073709551616 := by rw [← ht]; omega
            have hown3 : (wr.drewN nq).ownsRow w.heap.size 58 1 (.slice (some ⟨w.heap.size, 0, none⟩) (nl a + nl b) (nl a + nl b)) (nl a + nl b) (vals M) := hown2
            obtain ⟨r1, r2⟩ := hown3.stored (i + k) (.int .u32 ((t % 4294967296 : Nat) : Int))
            have hmod : t % 4294967296 < 4294967296 := Nat.mod_lt _ (by decide)
            have ec : ((t : Int) % 4294967296) = ((t % 4294967296 : Nat) : Int) := by omega
            rw [ec]
            refine ⟨k + 1, t / 4294967296, M.set (i + k) (t % 4294967296), by go_num, by congr 1, by omega, by omega, ?_, ?_, Lib.hid ?_, hlim2.set _ _ hmod, Lib.hid ?_, Lib.hid ?_⟩
            · exact (hb2.drewN nq).setCell (p := ⟨w.heap.size, i + k, none⟩) (Nat.le_refl _) _
            · rw [vals_set]; exact r1
            · simp [hlen2.out]
            · have hv := hval2.out
              have hs := val_set (i + k) (t % 4294967296) HM.out
              rw [← gl_eq, HO.out] at hs
              rw [val_take_succ _ _ hlt2, HY.out]
              have e := Nat.div_add_mod t 4294967296
              rw [← Nat.add_assoc, Nat.pow_succ]
              rw [Nat.pow_add] at hv hs ⊢
              generalize val (M.set (i + k) (t % 4294967296)) = V at *
              generalize val M = U at *
              generalize val L = S at *
              generalize val ((limbs b).take k) = T at *
              generalize t / 4294967296 = q at *
              generalize t % 4294967296 = r at *
              generalize 4294967296 ^ i = p at *
              generalize 4294967296 ^ k = z at *
              grind
            · intro j hj
              rw [gl_set_ne (by omega)]
              exact hz2.out j hj
          case measure => simp [intOf] <;> omega
        · obtain rfl : k = nl b := by omega
          have hcell : wr.cell? ⟨w.heap.size, i + nl b, none⟩ = some (.int .u32 (gl M (i + nl b) : Nat)) := by
            rw [hown2.cellAt (i + nl b) (by omega), vals_get M _ (by rw [hlen2.out]; omega)]
          have hfo := hown2.frozenAt (i + nl b)
          have hg0 := hz2.out (i + nl b) (by omega)
          have i1 : i + nl b < nl a + nl b := by omega
          go_wp2_with (fail)
          go_roundw
          case rel =>
            have hM : i + nl b < M.length := by rw [hlen2.out]; omega
            obtain ⟨r1, r2⟩ := hown2.stored (i + nl b) (.int .u32 (cr : Nat))
            refine ⟨i + 1, M.set (i + nl b) cr, by go_num, by omega, hb2.setCell (p := ⟨w.heap.size, i + nl b, none⟩) (Nat.le_refl _) _, by rw [vals_set]; exact r1, by simp [hlen2.out], hlim2.set _ _ (by omega), Lib.hid ?_, Lib.hid ?_⟩
            · have hs := val_set (i + nl b) cr hM
              rw [← gl_eq, hg0, Nat.mul_zero, Nat.add_zero] at hs
              have hv := hval2.out
              rw [take_limbs (Nat.le_refl _)] at hv
              rw [hs, hv, hval.out, val_take_succ _ _ hlt, HX.out]
              grind
            · intro j hj
              rw [gl_set_ne (by omega)]
              exact hz2.out j (by omega)
          case measure => simp [intOf] <;> omega
    · obtain rfl : i = nl a := by omega
      obtain ⟨X, cx, e, hcx, hcm, hrd⟩ := ownV_rd hown
      cases e
      have hv := hval.out
      rw [take_limbs (Nat.le_refl _)] at hv
      have hmake := rmake_c (some ⟨w.heap.size, 0, none⟩) (nl a + nl b) (nl a + nl b) L wr hlen hrd hlim (by omega) (Nat.le_refl _) (fun h => by cases h)
      rw [hv] at hmake
      have HM := Lib.hid hmake
      clear hmake hown hrd hv hlen
      go_wp2_with (fail)
      refine HM.out.mono ?_
      rintro e w2 ⟨Y, cy, rfl, h1, h2⟩
      go_wp2_with (fail)
      go_ret
      exact ⟨Y, cy, rfl, h1, hb.trans (h2.mono hb.size)⟩

end Go.Proofs.YtacjfpibilolnaaGreatDoor

/- The document's naturals, walked: Bits, Bit, Low, Right, Mul. -/
set_option linter.unusedVariables false
set_option linter.unusedSimpArgs false
namespace Go.Proofs.YtacjfpibilolnaaGreatDoor
open Go.RowKit Go.Shelf
attribute [local go_sem] max2_i min2_i max_two min_two

theorem bitLen_half2 {x : Nat} (h0 : x ≠ 0) (h : x < 4294967296) : Lib.bitLen x = 1 + Lib.bitLen (x / 2) := Lib.bitLen_half x h0 (Nat.lt_trans h (by decide))
theorem rbits_c (A : Option Addr) (c a : Nat) (w : World) (hA : NatV w A c a) (ha : nl a ≤ 1073741824) :
    Calls Tryz.prog 120 #[.slice A (nl a) c] w fun e w' => e = .returned (.int .i64 (bl a : Nat)) ∧ Below w.heap.size w w' := by
  by_cases h : nl a = 0
  · have h0 : a = 0 := nl_eq_zero.1 h
    have hb : bl a = 0 := by unfold bl; rw [if_pos h0]
    rw [h, hb]
    go_enter Tryz.func120, Tryz.ntmps120
    go_wp2_with (fail)
    go_ret
    exact ⟨rfl, Below.refl _ _⟩
  · obtain ⟨k, hk⟩ : ∃ k, nl a = k + 1 := ⟨nl a - 1, by omega⟩
    obtain ⟨ad, rfl, hcx⟩ := hA.rd.get k (by show k < nl a; omega)
    obtain ⟨x, hx⟩ : ∃ x, x = gl (limbs a) k := ⟨_, rfl⟩
    have hxl := (lim_limbs a).gl k
    rw [← hx] at hcx hxl
    have h1 : ((nl a : Int) == 0) = false := ieqF (by omega)
    have hkI : (nl a : Int) - 1 = (k : Int) := by omega
    have hkl : k < nl a := by omega
    have hb : bl a = 32 * k + Lib.bitLen x := by unfold bl; rw [if_neg (fun e => h (by rw [e, nl_zero])), hk, Nat.add_sub_cancel, ← hx]
    have hb32 : Lib.bitLen x ≤ 32 := Lib.bitLen_le x 32 (by decide) hxl
    rw [hb]
    obtain ⟨v, hv⟩ : ∃ v, v = Lib.bitLen x := ⟨_, rfl⟩
    rw [← hv] at hb32 ⊢
    replace hx := Lib.hid hx
    replace hv := Lib.hid hv
    clear h hb
    replace hk := Lib.hid hk
    go_enter Tryz.func120, Tryz.ntmps120
    go_wp2_with (fail)
    go_quiet (fail)
    go_wp2_with (fail)
    go_loopw [3, 4] (fun vn vt w2 => ∃ m t : Nat, vn = .int .i64 m ∧ vt = .int .u32 t ∧ t < 4294967296 ∧ m ≤ v ∧ Hid (m + Lib.bitLen t = v) ∧ Below w.heap.size w w2) (fun vn vt w2 => (intOf vt).toNat)
    case atStart => exact ⟨0, x, rfl, rfl, hxl, Nat.zero_le _, Lib.hid (by rw [Nat.zero_add, hv.out]), (Below.refl _ _).drewN _⟩
    case round =>
      obtain ⟨m, t, rfl, rfl, ht, hm, hmt, hb2⟩ := hrel
      by_cases ht0 : 0 < t
      · have h2 := bitLen_half2 (show t ≠ 0 by omega) ht
        have h3 := hmt.out
        have h4 : m + 1 + Lib.bitLen (t / 2) = v := by omega
        have h5 : m + 1 ≤ v := by omega
        replace h4 := Lib.hid h4
        clear h2 h3
        go_wp2_with (fail)
        go_roundw
        case rel => exact ⟨m + 1, t / 2, by go_num, by first | rfl | (congr 1), by omega, h5, h4, hb2⟩
        case measure => simp only [intOf]; omega
      · have h2 : t = 0 := by omega
        have h3 := hmt.out
        rw [h2] at h3
        have h4 : Lib.bitLen 0 = 0 := rfl
        have h5 : m = v := by omega
        clear h3 h4
        subst h5
        replace h2 := Lib.hid h2
        go_wp2_with (fail)
        go_ret
        exact ⟨by congr 1, hb2⟩
theorem bit_mid (a q s : Nat) (hs : s < 32) : a / 4294967296 ^ q % 4294967296 / 2 ^ s % 2 = a / 2 ^ (32 * q + s) % 2 := by
  rw [Nat.pow_add, pow32, ← Nat.div_div_eq_div_mul]
  generalize a / 4294967296 ^ q = t
  have e2 : (4294967296 : Nat) = 2 ^ s * (2 * 2 ^ (31 - s)) := by rw [← Nat.pow_succ', ← Nat.pow_add, show s + (31 - s).succ = 32 by omega]
  have h1 := Nat.div_add_mod t 4294967296
  conv => rhs; rw [← h1]; arg 1; arg 1; arg 1; arg 1; rw [e2]
  rw [Nat.mul_assoc, Nat.mul_add_div (Nat.two_pow_pos s), Nat.mul_assoc, Nat.mul_add_mod]
theorem rbit_c (A : Option Addr) (c a i : Nat) (w : World) (hA : NatV w A c a) (ha : nl a ≤ 1073741824) (hi1 : i ≤ 1099511627776) :
    Calls Tryz.prog 39 #[.slice A (nl a) c, .int .i64 (i : Nat)] w fun e w' => e = .returned (.int .u32 (a / 2 ^ i % 2 : Nat)) ∧ w = w' := by
  obtain ⟨q, hq⟩ : ∃ q, q = i / 32 := ⟨_, rfl⟩
  obtain ⟨s, hs⟩ : ∃ s, s = i % 32 := ⟨_, rfl⟩
  have hqI : (i : Int) / 32 = (q : Int) := by omega
  have hsI : (i : Int) % 32 = (s : Int) := by omega
  have hsl : s < 32 := by omega
  have his : i = 32 * q + s := by omega
  have hv := bit_mid a q s hsl
  rw [← his] at hv
  obtain ⟨v, hvv⟩ : ∃ v, v = a / 2 ^ i % 2 := ⟨_, rfl⟩
  have hv2 : v < 2 := by rw [hvv]; exact Nat.mod_lt _ (by decide)
  rw [← hvv] at hv ⊢
  by_cases hj : q < nl a
  · obtain ⟨ad, rfl, hc⟩ := hA.rd.get q hj
    obtain ⟨x, hx⟩ : ∃ x, x = gl (limbs a) q := ⟨_, rfl⟩
    have hxl := (lim_limbs a).gl q
    rw [← hx] at hc hxl
    rw [limbs_gl] at hx
    rw [← hx] at hv
    have hd : decide ((nl a : Int) ≤ (q : Int)) = false := by simp; omega
    replace hx := Lib.hid hx
    replace hv := Lib.hid hv
    replace hvv := Lib.hid hvv
    replace hq := Lib.hid hq
    replace hs := Lib.hid hs
    replace his := Lib.hid his
    go_enter Tryz.func39, Tryz.ntmps39
    go_wp2_with (fail)
    go_loop [5, 6] (fun vx vi => ∃ j t : Nat, vx = .int .u32 t ∧ vi = .int .i64 j ∧ t < 4294967296 ∧ j ≤ s ∧ Hid (t = x / 2 ^ j)) (fun vx vi => s - (intOf vi).toNat)
    case atStart => exact ⟨0, x, rfl, rfl, hxl, Nat.zero_le _, Lib.hid (by simp)⟩
    case round =>
      obtain ⟨j, t, rfl, rfl, ht, hj2, hjt⟩ := hrel
      by_cases hjs : j < s
      · have h2 : t / 2 = x / 2 ^ (j + 1) := by rw [hjt.out, Nat.pow_succ, Nat.div_div_eq_div_mul]
        replace h2 := Lib.hid h2
        go_wp2_with (fail)
        go_round
        case rel => exact ⟨j + 1, t / 2, by first | rfl | (congr 1), by go_num, by omega, by omega, h2⟩
        case measure => simp only [intOf]; omega
      · obtain rfl : j = s := by omega
        have h3 : t % 2 = v := by rw [hjt.out, hv.out]
        have h4 : (t : Int) % 2 = (v : Int) := by omega
        clear h3
        go_wp2_with (fail)
        go_ret
        exact ⟨by first | rfl | (rw [h4]; rfl), rfl⟩
  · have h0 : v = 0 := by rw [← hv, div_nl (by omega)]; simp
    have hd : decide ((nl a : Int) ≤ (q : Int)) = true := by simp; omega
    replace hv := Lib.hid hv
    replace hvv := Lib.hid hvv
    replace h0 := Lib.hid h0
    replace hq := Lib.hid hq
    replace hs := Lib.hid hs
    replace his := Lib.hid his
    go_enter Tryz.func39, Tryz.ntmps39
    go_wp2_with (fail)
    go_ret
    exact ⟨by rw [h0.out]; rfl, rfl⟩

theorem rmul_c (A : Option Addr) (c a : Nat) (B : Option Addr) (d b : Nat) (w : World) (hA : NatV w A c a) (hB : NatV w B d b) (ha : nl a ≤ 1073741824) (hb : nl b ≤ 1073741824) :
    Calls Tryz.prog 118 #[.slice A (nl a) c, .slice B (nl b) d] w (RetN w (a * b)) := by
  have CC := rschool_c A c a B d b w hA hB ha hb
  replace CC := Lib.hid CC
  go_enter Tryz.func118, Tryz.ntmps118
  go_wp2_with (fail)
  refine CC.out.mono ?_
  rintro e w1 ⟨X, cx, rfl, h1, h2⟩
  go_wp2_with (fail)
  go_ret
  exact ⟨X, cx, rfl, h1, h2⟩
end Go.Proofs.YtacjfpibilolnaaGreatDoor
