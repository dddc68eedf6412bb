/- The document's product, walked. -/
import Derived.Test.YtacjfpibilolnaaGreatDoorSA02
import Derived.Stop.RegionWithIn
set_option linter.unusedVariables false
set_option linter.unusedSimpArgs false
namespace Go.Proofs.YtacjfpibilolnaaGreatDoor
open Go.RowKit Go.Shelf

set_option maxRecDepth 100000 in
set_option maxHeartbeats 2000000 in
theorem rschool_c (A : Option Addr) (c a : Nat) (B : Option Addr) (d b : Nat) (w : World) (hA : NatV w A c a) (hB : NatV w B d b) (ha : nl a ≤ 1073741824) (hb : nl b ≤ 1073741824) :
    Calls Tryz.prog 132 #[.slice A (nl a) c, .slice B (nl b) d] w (RetN w (a * b)) := by
  have hmk := mk32 ((nl a : Int) + nl b) ((nl a : Int) + nl b) (by omega) (by omega) (by omega)
  have hown0 := ownsMade32 w w.heap.size (nl a + nl b) (Nat.le_refl _) (by omega)
  have hb0 : Below w.heap.size w (w.alloc (.cells (madeCells #[.int .u32 0] (nl a + nl b)) 58)) := (Below.refl _ _).alloc (Nat.le_refl _) _
  have e0 : ((nl a : Int) + nl b).toNat = nl a + nl b := by omega
  rw [e0] at hmk
  go_enter Tryz.func132, Tryz.ntmps132
  go_wp2_with (fail)
  go_loopw [6, 7, 8, 9] (fun vi vc vk vx wr => ∃ (i : Nat) (L : List Nat), vi = .int .i64 i ∧ i ≤ nl a ∧ Below w.heap.size w wr ∧ wr.ownsRow w.heap.size 58 1 (.slice (some ⟨w.heap.size, 0, none⟩) (nl a + nl b) (nl a + nl b)) (nl a + nl b) (vals L) ∧
    L.length = nl a + nl b ∧ Lim L ∧ Hid (val L = val ((limbs a).take i) * b) ∧ Hid (∀ j, i + nl b ≤ j → gl L j = 0)) (fun vi vc vk vx wr => nl a - (intOf vi).toNat)
  case atStart =>
    exact ⟨0, _, rfl, Nat.zero_le _, hb0, hown0, by simp, Lim.replicate _ _ (by decide), Lib.hid (by rw [val_replicate]; simp [val]), Lib.hid (fun j _ => by simp [gl, List.getElem?_replicate]; split <;> rfl)⟩
  case round =>
    obtain ⟨i, L, rfl, hi, hb, hown, hlen, hlim, hval, hz⟩ := hrel
    by_cases hlt : i < nl a
    · obtain ⟨ad, rfl, hcx⟩ := (hA.rd.below hb).get i hlt
      have hxl := (lim_limbs a).gl i
      obtain ⟨x, hx⟩ : ∃ x, gl (limbs a) i = x := ⟨_, rfl⟩
      rw [hx] at hcx hxl
      have HX := Lib.hid hx
      clear hx
      have HL := Lib.hid hlen
      clear hlen hmk
      obtain ⟨wo, rfl⟩ : ∃ wo : World, wo = wr := ⟨_, rfl⟩
      go_wp2_with (fail)
      go_loopw [7, 8, 9] (fun vc vk vx w2 => ∃ (k cr : Nat) (M : List Nat), vk = .int .i64 k ∧ vc = .int .u64 cr ∧ k ≤ nl b ∧ cr < 4294967296 ∧ Below w.heap.size w w2 ∧ w2.ownsRow w.heap.size 58 1 (.slice (some ⟨w.heap.size, 0, none⟩) (nl a + nl b) (nl a + nl b)) (nl a + nl b) (vals M) ∧
        Hid (M.length = nl a + nl b) ∧ Lim M ∧ Hid (val M + 4294967296 ^ (i + k) * cr = val L + 4294967296 ^ i * (x * val ((limbs b).take k))) ∧ Hid (∀ j, i + nl b ≤ j → gl M j = 0)) (fun vc vk vx w2 => nl b - (intOf vk).toNat)
      case atStart => exact ⟨0, 0, L, rfl, rfl, Nat.zero_le _, by decide, hb, hown, HL, hlim, Lib.hid (by simp [val]), hz⟩
      case round =>
        obtain ⟨k, cr, M, rfl, rfl, hk, hcr, hb2, hown2, hlen2, hlim2, hval2, hz2⟩ := hrel
        by_cases hlt2 : k < nl b
        · obtain ⟨ad', ee, hcx2⟩ := (hA.rd.below hb2).get i hlt
          cases ee
          rw [HX.out] at hcx2
          obtain ⟨bd, rfl, hcy⟩ := (hB.rd.below hb2).get k hlt2
          have hyl := (lim_limbs b).gl k
          obtain ⟨y, hy⟩ : ∃ y, gl (limbs b) k = y := ⟨_, rfl⟩
          rw [hy] at hcy hyl
          have HY := Lib.hid hy
          clear hy
          have hM : i + k < M.length := by rw [hlen2.out]; omega
          have hco := hown2.cellAt (i + k) (by omega)
          rw [vals_get M (i + k) hM] at hco
          have hfo := hown2.frozenAt (i + k)
          have hol := hlim2.gl (i + k)
          obtain ⟨o, ho⟩ : ∃ o, gl M (i + k) = o := ⟨_, rfl⟩
          rw [ho] at hco hol
          have HO := Lib.hid ho
          have HM := Lib.hid hM
          clear ho hM
          obtain ⟨hp1, hp2⟩ := mul_bdI hxl hyl
          have i1 : i + k < nl a + nl b := by omega
          go_wp2_with (fail)
          go_quiet (fail)
          go_wp2_with (fail)
          go_roundw
          case rel =>
            have et : ((x : Int) * (y : Int) + (o : Int) + (cr : Int)) = ((cr + (x * y + o) : Nat) : Int) := by simp; omega
            have hbd := mul_bd hxl hyl
            obtain ⟨t, ht⟩ : ∃ t, cr + (x * y + o) = t := ⟨_, rfl⟩
            rw [et, ht]
            have htb : t < 18446744073709551616 := by rw [← ht]; omega
            have hown3 : (wr.drewN nq).ownsRow w.heap.size 58 1 (.slice (some ⟨w.heap.size, 0, none⟩) (nl a + nl b) (nl a + nl b)) (nl a + nl b) (vals M) := hown2
            obtain ⟨r1, r2⟩ := hown3.stored (i + k) (.int .u32 ((t % 4294967296 : Nat) : Int))
            have hmod : t % 4294967296 < 4294967296 := Nat.mod_lt _ (by decide)
            have ec : ((t : Int) % 4294967296) = ((t % 4294967296 : Nat) : Int) := by omega
            rw [ec]
            refine ⟨k + 1, t / 4294967296, M.set (i + k) (t % 4294967296), by go_num, by congr 1, by omega, by omega, ?_, ?_, Lib.hid ?_, hlim2.set _ _ hmod, Lib.hid ?_, Lib.hid ?_⟩
            · exact (hb2.drewN nq).setCell (p := ⟨w.heap.size, i + k, none⟩) (Nat.le_refl _) _
            · rw [vals_set]; exact r1
            · simp [hlen2.out]
            · have hv := hval2.out
              have hs := val_set (i + k) (t % 4294967296) HM.out
              rw [← gl_eq, HO.out] at hs
              rw [val_take_succ _ _ hlt2, HY.out]
              have e := Nat.div_add_mod t 4294967296
              rw [← Nat.add_assoc, Nat.pow_succ]
              rw [Nat.pow_add] at hv hs ⊢
              generalize val (M.set (i + k) (t % 4294967296)) = V at *
              generalize val M = U at *
              generalize val L = S at *
              generalize val ((limbs b).take k) = T at *
              generalize t / 4294967296 = q at *
              generalize t % 4294967296 = r at *
              generalize 4294967296 ^ i = p at *
              generalize 4294967296 ^ k = z at *
              grind
            · intro j hj
              rw [gl_set_ne (by omega)]
              exact hz2.out j hj
          case measure => simp [intOf] <;> omega
        · obtain rfl : k = nl b := by omega
          have hcell : wr.cell? ⟨w.heap.size, i + nl b, none⟩ = some (.int .u32 (gl M (i + nl b) : Nat)) := by
            rw [hown2.cellAt (i + nl b) (by omega), vals_get M _ (by rw [hlen2.out]; omega)]
          have hfo := hown2.frozenAt (i + nl b)
          have hg0 := hz2.out (i + nl b) (by omega)
          have i1 : i + nl b < nl a + nl b := by omega
          go_wp2_with (fail)
          go_roundw
          case rel =>
            have hM : i + nl b < M.length := by rw [hlen2.out]; omega
            obtain ⟨r1, r2⟩ := hown2.stored (i + nl b) (.int .u32 (cr : Nat))
            refine ⟨i + 1, M.set (i + nl b) cr, by go_num, by omega, hb2.setCell (p := ⟨w.heap.size, i + nl b, none⟩) (Nat.le_refl _) _, by rw [vals_set]; exact r1, by simp [hlen2.out], hlim2.set _ _ (by omega), Lib.hid ?_, Lib.hid ?_⟩
            · have hs := val_set (i + nl b) cr hM
              rw [← gl_eq, hg0, Nat.mul_zero, Nat.add_zero] at hs
              have hv := hval2.out
              rw [take_limbs (Nat.le_refl _)] at hv
              rw [hs, hv, hval.out, val_take_succ _ _ hlt, HX.out]
              grind
            · intro j hj
              rw [gl_set_ne (by omega)]
              exact hz2.out j (by omega)
          case measure => simp [intOf] <;> omega
    · obtain rfl : i = nl a := by omega
      obtain ⟨X, cx, e, hcx, hcm, hrd⟩ := ownV_rd hown
      cases e
      have hv := hval.out
      rw [take_limbs (Nat.le_refl _)] at hv
      have hmake := rmake_c (some ⟨w.heap.size, 0, none⟩) (nl a + nl b) (nl a + nl b) L wr hlen hrd hlim (by omega) (Nat.le_refl _) (fun h => by cases h)
      rw [hv] at hmake
      have HM := Lib.hid hmake
      clear hmake hown hrd hv hlen
      go_wp2_with (fail)
      refine HM.out.mono ?_
      rintro e w2 ⟨Y, cy, rfl, h1, h2⟩
      go_wp2_with (fail)
      go_ret
      exact ⟨Y, cy, rfl, h1, hb.trans (h2.mono hb.size)⟩

end Go.Proofs.YtacjfpibilolnaaGreatDoor

/- The document's naturals, walked: Bits, Bit, Low, Right, Mul. -/
set_option linter.unusedVariables false
set_option linter.unusedSimpArgs false
namespace Go.Proofs.YtacjfpibilolnaaGreatDoor
open Go.RowKit Go.Shelf
attribute [local go_sem] max2_i min2_i max_two min_two

theorem bitLen_half2 {x : Nat} (h0 : x ≠ 0) (h : x < 4294967296) : Lib.bitLen x = 1 + Lib.bitLen (x / 2) := Lib.bitLen_half x h0 (Nat.lt_trans h (by decide))
set_option maxRecDepth 100000 in
set_option maxHeartbeats 1000000 in
theorem rbits_c (A : Option Addr) (c a : Nat) (w : World) (hA : NatV w A c a) (ha : nl a ≤ 1073741824) :
    Calls Tryz.prog 120 #[.slice A (nl a) c] w fun e w' => e = .returned (.int .i64 (bl a : Nat)) ∧ Below w.heap.size w w' := by
  by_cases h : nl a = 0
  · have h0 : a = 0 := nl_eq_zero.1 h
    have hb : bl a = 0 := by unfold bl; rw [if_pos h0]
    rw [h, hb]
    go_enter Tryz.func120, Tryz.ntmps120
    go_wp2_with (fail)
    go_ret
    exact ⟨rfl, Below.refl _ _⟩
  · obtain ⟨k, hk⟩ : ∃ k, nl a = k + 1 := ⟨nl a - 1, by omega⟩
    obtain ⟨ad, rfl, hcx⟩ := hA.rd.get k (by show k < nl a; omega)
    obtain ⟨x, hx⟩ : ∃ x, x = gl (limbs a) k := ⟨_, rfl⟩
    have hxl := (lim_limbs a).gl k
    rw [← hx] at hcx hxl
    have h1 : ((nl a : Int) == 0) = false := ieqF (by omega)
    have hkI : (nl a : Int) - 1 = (k : Int) := by omega
    have hkl : k < nl a := by omega
    have hb : bl a = 32 * k + Lib.bitLen x := by unfold bl; rw [if_neg (fun e => h (by rw [e, nl_zero])), hk, Nat.add_sub_cancel, ← hx]
    have hb32 : Lib.bitLen x ≤ 32 := Lib.bitLen_le x 32 (by decide) hxl
    rw [hb]
    obtain ⟨v, hv⟩ : ∃ v, v = Lib.bitLen x := ⟨_, rfl⟩
    rw [← hv] at hb32 ⊢
    replace hx := Lib.hid hx
    replace hv := Lib.hid hv
    clear h hb
    replace hk := Lib.hid hk
    go_enter Tryz.func120, Tryz.ntmps120
    go_wp2_with (fail)
    go_quiet (fail)
    go_wp2_with (fail)
    go_loopw [3, 4] (fun vn vt w2 => ∃ m t : Nat, vn = .int .i64 m ∧ vt = .int .u32 t ∧ t < 4294967296 ∧ m ≤ v ∧ Hid (m + Lib.bitLen t = v) ∧ Below w.heap.size w w2) (fun vn vt w2 => (intOf vt).toNat)
    case atStart => exact ⟨0, x, rfl, rfl, hxl, Nat.zero_le _, Lib.hid (by rw [Nat.zero_add, hv.out]), (Below.refl _ _).drewN _⟩
    case round =>
      obtain ⟨m, t, rfl, rfl, ht, hm, hmt, hb2⟩ := hrel
      by_cases ht0 : 0 < t
      · have h2 := bitLen_half2 (show t ≠ 0 by omega) ht
        have h3 := hmt.out
        have h4 : m + 1 + Lib.bitLen (t / 2) = v := by omega
        have h5 : m + 1 ≤ v := by omega
        replace h4 := Lib.hid h4
        clear h2 h3
        go_wp2_with (fail)
        go_roundw
        case rel => exact ⟨m + 1, t / 2, by go_num, by first | rfl | (congr 1), by omega, h5, h4, hb2⟩
        case measure => simp only [intOf]; omega
      · have h2 : t = 0 := by omega
        have h3 := hmt.out
        rw [h2] at h3
        have h4 : Lib.bitLen 0 = 0 := rfl
        have h5 : m = v := by omega
        clear h3 h4
        subst h5
        replace h2 := Lib.hid h2
        go_wp2_with (fail)
        go_ret
        exact ⟨by congr 1, hb2⟩
theorem bit_mid (a q s : Nat) (hs : s < 32) : a / 4294967296 ^ q % 4294967296 / 2 ^ s % 2 = a / 2 ^ (32 * q + s) % 2 := by
  rw [Nat.pow_add, pow32, ← Nat.div_div_eq_div_mul]
  generalize a / 4294967296 ^ q = t
  have e2 : (4294967296 : Nat) = 2 ^ s * (2 * 2 ^ (31 - s)) := by rw [← Nat.pow_succ', ← Nat.pow_add, show s + (31 - s).succ = 32 by omega]
  have h1 := Nat.div_add_mod t 4294967296
  conv => rhs; rw [← h1]; arg 1; arg 1; arg 1; arg 1; rw [e2]
  rw [Nat.mul_assoc, Nat.mul_add_div (Nat.two_pow_pos s), Nat.mul_assoc, Nat.mul_add_mod]
set_option maxRecDepth 100000 in
set_option maxHeartbeats 1000000 in
theorem rbit_c (A : Option Addr) (c a i : Nat) (w : World) (hA : NatV w A c a) (ha : nl a ≤ 1073741824) (hi1 : i ≤ 1099511627776) :
    Calls Tryz.prog 39 #[.slice A (nl a) c, .int .i64 (i : Nat)] w fun e w' => e = .returned (.int .u32 (a / 2 ^ i % 2 : Nat)) ∧ w = w' := by
  obtain ⟨q, hq⟩ : ∃ q, q = i / 32 := ⟨_, rfl⟩
  obtain ⟨s, hs⟩ : ∃ s, s = i % 32 := ⟨_, rfl⟩
  have hqI : (i : Int) / 32 = (q : Int) := by omega
  have hsI : (i : Int) % 32 = (s : Int) := by omega
  have hsl : s < 32 := by omega
  have his : i = 32 * q + s := by omega
  have hv := bit_mid a q s hsl
  rw [← his] at hv
  obtain ⟨v, hvv⟩ : ∃ v, v = a / 2 ^ i % 2 := ⟨_, rfl⟩
  have hv2 : v < 2 := by rw [hvv]; exact Nat.mod_lt _ (by decide)
  rw [← hvv] at hv ⊢
  by_cases hj : q < nl a
  · obtain ⟨ad, rfl, hc⟩ := hA.rd.get q hj
    obtain ⟨x, hx⟩ : ∃ x, x = gl (limbs a) q := ⟨_, rfl⟩
    have hxl := (lim_limbs a).gl q
    rw [← hx] at hc hxl
    rw [limbs_gl] at hx
    rw [← hx] at hv
    have hd : decide ((nl a : Int) ≤ (q : Int)) = false := by simp; omega
    replace hx := Lib.hid hx
    replace hv := Lib.hid hv
    replace hvv := Lib.hid hvv
    replace hq := Lib.hid hq
    replace hs := Lib.hid hs
    replace his := Lib.hid his
    go_enter Tryz.func39, Tryz.ntmps39
    go_wp2_with (fail)
    go_loop [5, 6] (fun vx vi => ∃ j t : Nat, vx = .int .u32 t ∧ vi = .int .i64 j ∧ t < 4294967296 ∧ j ≤ s ∧ Hid (t = x / 2 ^ j)) (fun vx vi => s - (intOf vi).toNat)
    case atStart => exact ⟨0, x, rfl, rfl, hxl, Nat.zero_le _, Lib.hid (by simp)⟩
    case round =>
      obtain ⟨j, t, rfl, rfl, ht, hj2, hjt⟩ := hrel
      by_cases hjs : j < s
      · have h2 : t / 2 = x / 2 ^ (j + 1) := by rw [hjt.out, Nat.pow_succ, Nat.div_div_eq_div_mul]
        replace h2 := Lib.hid h2
        go_wp2_with (fail)
        go_round
        case rel => exact ⟨j + 1, t / 2, by first | rfl | (congr 1), by go_num, by omega, by omega, h2⟩
        case measure => simp only [intOf]; omega
      · obtain rfl : j = s := by omega
        have h3 : t % 2 = v := by rw [hjt.out, hv.out]
        have h4 : (t : Int) % 2 = (v : Int) := by omega
        clear h3
        go_wp2_with (fail)
        go_ret
        exact ⟨by first | rfl | (rw [h4]; rfl), rfl⟩
  · have h0 : v = 0 := by rw [← hv, div_nl (by omega)]; simp
    have hd : decide ((nl a : Int) ≤ (q : Int)) = true := by simp; omega
    replace hv := Lib.hid hv
    replace hvv := Lib.hid hvv
    replace h0 := Lib.hid h0
    replace hq := Lib.hid hq
    replace hs := Lib.hid hs
    replace his := Lib.hid his
    go_enter Tryz.func39, Tryz.ntmps39
    go_wp2_with (fail)
    go_ret
    exact ⟨by rw [h0.out]; rfl, rfl⟩
set_option maxRecDepth 100000 in
set_option maxHeartbeats 1000000 in
theorem rright_c (A : Option Addr) (c a : Nat) (w : World) (hA : NatV w A c a) (ha : nl a ≤ 65536) :
    Calls Tryz.prog 117 #[.slice A (nl a) c] w fun e w' => e = .returned (.bool true) ∧ w' = w := by
  by_cases h : nl a = 0
  · rw [h]
    go_enter Tryz.func117, Tryz.ntmps117
    go_wp2_with (fail)
    go_ret
    exact ⟨rfl, rfl⟩
  · obtain ⟨k, hk⟩ : ∃ k, nl a = k + 1 := ⟨nl a - 1, by omega⟩
    obtain ⟨ad, rfl, hcx⟩ := hA.rd.get k (by show k < nl a; omega)
    have hne : gl (limbs a) k ≠ 0 := by
      have h2 := limbs_last a (fun e => h (by rw [e, nl_zero]))
      rwa [hk, Nat.add_sub_cancel] at h2
    obtain ⟨x, hx⟩ : ∃ x, x = gl (limbs a) k := ⟨_, rfl⟩
    rw [← hx] at hcx hne
    have h1 : ((nl a : Int) == 0) = false := ieqF (by omega)
    have hkI : (nl a : Int) - 1 = (k : Int) := by omega
    have hkl : k < nl a := by omega
    have h2 : ((x : Int) != 0) = true := ineT (by omega)
    have h3 : decide ((nl a : Int) ≤ 65536) = true := by simp; omega
    replace hx := Lib.hid hx
    clear hne h hk
    go_enter Tryz.func117, Tryz.ntmps117
    go_wp2_with (fail)
    go_ret
    exact ⟨rfl, rfl⟩

set_option maxHeartbeats 1000000 in
theorem rmul_c (A : Option Addr) (c a : Nat) (B : Option Addr) (d b : Nat) (w : World) (hA : NatV w A c a) (hB : NatV w B d b) (ha : nl a ≤ 1073741824) (hb : nl b ≤ 1073741824) :
    Calls Tryz.prog 118 #[.slice A (nl a) c, .slice B (nl b) d] w (RetN w (a * b)) := by
  have CC := rschool_c A c a B d b w hA hB ha hb
  replace CC := Lib.hid CC
  go_enter Tryz.func118, Tryz.ntmps118
  go_wp2_with (fail)
  refine CC.out.mono ?_
  rintro e w1 ⟨X, cx, rfl, h1, h2⟩
  go_wp2_with (fail)
  go_ret
  exact ⟨X, cx, rfl, h1, h2⟩
end Go.Proofs.YtacjfpibilolnaaGreatDoor

/- The document's division, bit by bit, walked. -/
set_option linter.unusedVariables false
set_option linter.unusedSimpArgs false
namespace Go.Proofs.YtacjfpibilolnaaGreatDoor
open Go.RowKit Go.Shelf
attribute [local go_sem] max2_i min2_i max_two min_two

theorem nat_one (W : World) (s : Nat) (h : W.heap[s]? = some (.cells #[.int .u32 1] 58 (0, 0))) : NatV W (some ⟨s, 0, none⟩) 1 1 := by
  have e : limbs 1 = [1] := by rw [limbs_pos (by decide)]; simp [limbs_zero]
  refine ⟨?_, by rw [nl_one]; exact Nat.le_refl _, by decide⟩
  rw [e]
  refine .inr ⟨_, rfl, fun i u hu => ?_⟩
  rcases i with _ | i
  · unfold World.cell?
    rw [show (Addr.add ⟨s, 0, none⟩ 0) = ⟨s, 0, none⟩ from rfl, h]
    simpa [vals] using hu
  · simp [vals] at hu
theorem own_below {w w' : World} {b n : Nat} {v : Value} {xs : List Value} (h : w.ownsRow b 58 1 v n xs) (hb : Below w.heap.size w w') : w'.ownsRow b 58 1 v n xs := by
  rcases h with ⟨h1, h2 | ⟨g, cap, cur, e, h3, h4, h5⟩⟩
  · exact ⟨h1, .inl h2⟩
  · exact ⟨h1, .inr ⟨g, cap, cur, e, h3, (hb.block g (Array.getElem?_eq_some_iff.1 h4).1).trans h4, h5⟩⟩
/-- A quotient and a rest, without an error. -/
def RetQR (w : World) (q r : Nat) (e : Ending) (w' : World) : Prop := ∃ X cx Y cy, e = .returned (.tuple #[.slice X (nl q) cx, .slice Y (nl r) cy, .int .i64 0]) ∧ NatV w' X cx q ∧ NatV w' Y cy r ∧ Below w.heap.size w w'
theorem bit_div (a k : Nat) : a / 2 ^ k = 2 * (a / 2 ^ (k + 1)) + a / 2 ^ k % 2 := by
  rw [Nat.pow_succ, ← Nat.div_div_eq_div_mul]; omega
/-- One bit of a row of limbs is set, where none stands so low. -/
theorem set_bit {L : List Nat} (hL : Lim L) {Q k n : Nat} (hl : L.length = n) (hv : val L = Q * 2 ^ (k + 1)) (hk : k / 32 < n) :
    gl L (k / 32) + 2 ^ (k % 32) < 4294967296 ∧ val (L.set (k / 32) (gl L (k / 32) + 2 ^ (k % 32))) = (2 * Q + 1) * 2 ^ k := by
  have hs : k % 32 < 32 := Nat.mod_lt _ (by decide)
  have e1 : 2 ^ k = 4294967296 ^ (k / 32) * 2 ^ (k % 32) := by
    rw [← pow32, ← Nat.pow_add]; congr 1; omega
  constructor
  · rw [val_gl hL, hv, Nat.pow_succ, e1]
    have e2 : Q * (4294967296 ^ (k / 32) * 2 ^ (k % 32) * 2) / 4294967296 ^ (k / 32) = 2 ^ (k % 32) * 2 * Q := by
      rw [show Q * (4294967296 ^ (k / 32) * 2 ^ (k % 32) * 2) = 4294967296 ^ (k / 32) * (2 ^ (k % 32) * 2 * Q) by grind]
      exact Nat.mul_div_cancel_left _ (Nat.pow_pos (by decide))
    rw [e2]
    have e3 : (4294967296 : Nat) = 2 ^ (k % 32) * 2 * 2 ^ (31 - k % 32) := by
      rw [← Nat.pow_succ, ← Nat.pow_add]
      rw [show (k % 32).succ + (31 - k % 32) = 32 by omega]
    generalize 2 ^ (k % 32) = p at *
    rw [e3, Nat.mul_mod_mul_left]
    have h1 := Nat.mod_lt Q (Nat.two_pow_pos (31 - k % 32))
    have hp : 0 < p := by
      rcases Nat.eq_zero_or_pos p with h | h
      · subst h; simp at e3
      · exact h
    have h2 := Nat.mul_le_mul_left (p * 2) (Nat.succ_le_of_lt h1)
    rw [Nat.mul_succ] at h2
    omega
  · have h := val_set (k / 32) (gl L (k / 32) + 2 ^ (k % 32)) (by rw [hl]; exact hk)
    rw [← gl_eq, Nat.mul_add, ← e1, hv] at h
    rw [Nat.pow_succ] at h
    generalize 2 ^ k = P at *
    have : Q * (P * 2) + P = (2 * Q + 1) * P := by grind
    omega
theorem NatV.set {W : World} {X : Option Addr} {c n g : Nat} (h : NatV W X c n) (far : ∀ ad, X = some ad → ad.block ≠ g) (j : Nat) (u : Value) : NatV (W.setCell ⟨g, j, none⟩ u) X c n := by
  refine ⟨?_, h.cap, h.cmax⟩
  rcases h.rd with h1 | ⟨ad, rfl, h1⟩
  · exact .inl h1
  · refine .inr ⟨ad, rfl, fun i v hv => ?_⟩
    have h2 := h1 i v hv
    refine (World.cell?_of_block (w := W) (a := ad.add i) ?_).trans h2
    refine Below.heap_setCell W ⟨g, j, none⟩ u _ ?_
    show (Addr.add ad i).block ≠ g
    unfold Addr.add; split <;> exact far ad rfl
theorem own_lt {w : World} {b g n c : Nat} {xs : List Value} (h : w.ownsRow b 58 1 (.slice (some ⟨g, 0, none⟩) n c) n xs) : g < w.heap.size := by
  rcases h.2 with ⟨e, _⟩ | ⟨g', cap, cur, e, _, h4, _⟩
  · simp at e
  · simp only [Value.slice.injEq, Option.some.injEq, Addr.mk.injEq, and_true, true_and] at e
    obtain ⟨rfl, _⟩ := e
    exact (Array.getElem?_eq_some_iff.1 h4).1
set_option maxRecDepth 100000 in
set_option maxHeartbeats 1000000 in
theorem rdiv_c (A : Option Addr) (c a : Nat) (B : Option Addr) (d b : Nat) (w : World) (hA : NatV w A c a) (hB : NatV w B d b) (ha : nl a ≤ 16777216) (hb : nl b ≤ 16777216) (hb0 : 0 < b) :
    Calls Tryz.prog 115 #[.slice A (nl a) c, .slice B (nl b) d] w (RetQR w (a / b) (a % b)) := by
  have hn1 : ((nl b : Int) == 0) = false := ieqF (by have := nl_pos.2 (show b ≠ 0 by omega); omega)
  have hmk := mk32 (nl a) (nl a) (by omega) (by omega) (by omega)
  rw [Int.toNat_natCast] at hmk
  have hown0 := ownsMade32 w w.heap.size (nl a) (Nat.le_refl _) (by omega)
  have hb1 : Below w.heap.size w (w.alloc (.cells (madeCells #[.int .u32 0] (nl a)) 58)) := (Below.refl _ _).alloc (Nat.le_refl _) _
  have hb2 : Below w.heap.size w ((w.alloc (.cells (madeCells #[.int .u32 0] (nl a)) 58)).alloc (.cells #[] 58)) := hb1.alloc hb1.size _
  replace hown0 := own_below hown0 ((Below.refl _ _).alloc (Nat.le_refl _) (.cells #[] 58))
  have CB := rbits_c A c a _ (hA.below hb2) (by omega)
  have hbl := bl_le a
  obtain ⟨K, hK⟩ : ∃ K, K = bl a := ⟨_, rfl⟩
  have hK0 : a / 2 ^ K = 0 := by rw [hK]; exact Nat.div_eq_of_lt (bl_lt a)
  rw [← hK] at CB hbl
  replace CB := Lib.hid CB
  replace hK := Lib.hid hK
  replace hK0 := Lib.hid hK0
  go_enter Tryz.func115, Tryz.ntmps115
  go_wp2_with (fail)
  refine CB.out.mono ?_
  rintro e WB ⟨rfl, hbB⟩
  replace hown0 := own_below hown0 hbB
  replace hb2 := Below.cons hb2 hbB
  have hRN : NatV WB (some ⟨w.heap.size + 1, 0, none⟩) 0 0 := ⟨by rw [limbs_zero]; exact Rd.nil, by rw [nl_zero]; exact Nat.le_refl _, by decide⟩
  clear hmk
  go_wp2_with (fail)
  go_loopw [8, 9, 10, 11] (fun v8 v9 v10 v11 wr => ∃ (k r : Nat) (L : List Nat) (R : Option Addr) (cr Q : Nat), v8 = .slice R (nl r) cr ∧ v9 = .int .i64 ((k : Int) - 1) ∧ k ≤ K ∧ NatV wr R cr r ∧ r < b ∧ Below w.heap.size w wr ∧ wr.ownsRow w.heap.size 58 1 (.slice (some ⟨w.heap.size, 0, none⟩) (nl a) (nl a)) (nl a) (vals L) ∧ Hid (L.length = nl a) ∧ Lim L ∧ Hid (val L = Q * 2 ^ k ∧ a / 2 ^ k = Q * b + r) ∧ Fr (w.heap.size + 1) R cr) (fun v8 v9 v10 v11 wr => (intOf v9 + 1).toNat)
  case atStart => exact ⟨K, 0, List.replicate (nl a) 0, some ⟨w.heap.size + 1, 0, none⟩, 0, 0, by rw [nl_zero], rfl, Nat.le_refl _, hRN, hb0, hb2, hown0, Lib.hid (by simp), Lim.replicate _ _ (by decide), Lib.hid ⟨by rw [val_replicate]; simp, by rw [hK0.out]; simp⟩, ⟨fun ad e => by cases e; exact Nat.le_refl _, fun e => by cases e⟩⟩
  case round =>
    obtain ⟨k, r, L, R, cr, Q, rfl, rfl, hk, hR, hrb, hbr, hown, hlen, hlim, hQR, hFr⟩ := hrel
    have hsz := own_lt hown
    cases k with
    | zero =>
      have h1 := hQR.out
      rw [Nat.pow_zero, Nat.mul_one, Nat.div_one] at h1
      have e1 : Q = a / b := by
        rw [h1.2, Nat.mul_comm, Nat.mul_add_div hb0, Nat.div_eq_of_lt hrb]; omega
      have e2 : r = a % b := by rw [h1.2, Nat.mul_comm, Nat.mul_add_mod, Nat.mod_eq_of_lt hrb]
      obtain ⟨X, cx, e, hcx, hcm, hrd⟩ := ownV_rd hown
      cases e
      have CM := rmake_c _ (nl a) (nl a) L wr hlen.out hrd hlim (by omega) (Nat.le_refl _) (fun e => by cases e)
      rw [h1.1, e1] at CM
      have CN := fun (W : World) (hW : NatV W R cr r) => rmake_c R (nl r) cr (limbs r) W rfl hW.rd (lim_limbs r) (by have := nl_mono (Nat.le_of_lt hrb); omega) hW.cap hFr.2
      rw [val_limbs, e2] at CN
      rw [← e2] at CN
      replace CM := Lib.hid CM
      replace CN := Lib.hid CN
      clear h1 e1
      replace e2 := Lib.hid e2
      go_wp2_with (fail)
      refine CM.out.mono ?_
      rintro e w2 ⟨X2, x2, rfl, k1, k2⟩
      go_wp2_with (fail)
      refine (CN.out w2 (hR.below k2)).mono ?_
      rintro e w3 ⟨X3, x3, rfl, k3, k4⟩
      go_wp2_with (fail)
      refine bodyPost_ret (v := .tuple #[.slice X2 (nl (a / b)) x2, .slice X3 (nl r) x3, .int .i64 0]) (by simp [results, Tryz.results115, go_sem]) rfl ?_
      rw [e2.out] at k3 ⊢
      exact ⟨X2, x2, X3, x3, rfl, k1.below k4, k3, (hbr.cons k2).cons k4⟩
    | succ k =>
      rw [show (((k + 1 : Nat) : Int) - 1) = (k : Int) by omega]
      have hA0 := hA.below hbr
      have hB0 := hB.below hbr
      have ho0 := hown
      have hb0' := hbr
      have hrl := nl_mono (Nat.le_of_lt hrb)
      have hk32 : k / 32 < nl a := by omega
      obtain ⟨t, ht⟩ : ∃ t, t = a / 2 ^ k % 2 := ⟨_, rfl⟩
      have ht2 : t = 0 ∨ t = 1 := by omega
      rcases ht2 with ht0 | ht1
      · skip
        have C1 := rshl_f R cr r 1 wr hR (by omega) (by decide)
        obtain ⟨r1, hr1⟩ : ∃ z, z = r * 2 ^ 1 := ⟨_, rfl⟩
        rw [← hr1] at C1
        have hr1l : nl r1 ≤ nl b + 2 := by rw [hr1]; have := nl_shl r 1; omega
        replace C1 := Lib.hid C1
        replace hr1 := Lib.hid hr1
        have htt : ((t : Int) == 1) = false := ieqF (by omega)
        replace ht := Lib.hid ht
        go_wp2_with (fail)
        refine C1.out.mono ?_
        rintro e W1 ⟨X1, c1, rfl, h1, b1, f1⟩
        have zb1 := b1.size
        have hB1 := hB0.below b1
        have hA1 := hA0.below b1
        have ho1 := own_below ho0 b1
        have hb1 := Below.cons hb0' b1
        have C2 := rbit_c A c a k W1 hA1 (by omega) (by omega)
        rw [← ht.out] at C2
        replace C2 := Lib.hid C2
        go_wp2_with (fail)
        refine C2.out.mono ?_
        rintro e w' ⟨rfl, rfl⟩
        have hrr : r1 = 2 * r + t := by rw [hr1.out, ht0]; omega
        have hk1 := bit_div a k
        rw [← ht.out, hQR.out.2] at hk1
        by_cases hge : b ≤ r1
        · have C4 := rsub_f X1 c1 r1 B d b W1 h1 hB1 (by omega) (by omega) hge
          obtain ⟨r3, hr3⟩ : ∃ z, z = r1 - b := ⟨_, rfl⟩
          rw [← hr3] at C4
          replace C4 := Lib.hid C4
          have hr3b : r3 < b := by omega
          have hfin : a / 2 ^ k = (2 * Q + 1) * b + r3 := by rw [hk1, hr3, Nat.add_mul, Nat.mul_add, Nat.mul_assoc]; omega
          obtain ⟨s1, s2⟩ := set_bit hlim hlen.out hQR.out.1 hk32
          obtain ⟨old, hold⟩ : ∃ z, z = gl L (k / 32) := ⟨_, rfl⟩
          rw [← hold] at s1 s2
          obtain ⟨pw', hpw⟩ : ∃ z, z = 2 ^ (k % 32) := ⟨_, rfl⟩
          rw [← hpw] at s1 s2
          obtain ⟨new, hnew⟩ : ∃ z, z = old + pw' := ⟨_, rfl⟩
          rw [← hnew] at s1 s2
          obtain ⟨kq, hkq⟩ : ∃ z, z = k / 32 := ⟨_, rfl⟩
          obtain ⟨ks, hks⟩ : ∃ z, z = k % 32 := ⟨_, rfl⟩
          rw [← hkq] at s2 hold
          rw [← hks] at hpw
          have hksl : ks < 32 := by omega
          have hkql : kq < nl a := by omega
          have kqI : (k : Int) / 32 = (kq : Int) := by omega
          have ksI : (k : Int) % 32 = (ks : Int) := by omega
          have pwI : (2 : Int) ^ ks = (pw' : Int) := by rw [hpw]; simp
          have pwl : pw' ≤ 2147483648 := by rw [hpw]; exact Nat.pow_le_pow_right (by decide) (show ks ≤ 31 by omega)
          have kqT : (k : Int).tdiv 32 = (kq : Int) := by rw [Int.tdiv_eq_ediv_of_nonneg (by omega)]; exact kqI
          have ksT : (k : Int).tmod 32 = (ks : Int) := by rw [Int.tmod_eq_emod_of_nonneg (by omega)]; exact ksI
          have kqW : IntKind.i64.wrap (kq : Int) = (kq : Int) := IntWalk.i64_in _ (by omega)
          have ksW : IntKind.i64.wrap (ks : Int) = (ks : Int) := IntWalk.i64_in _ (by omega)
          have pwW : IntKind.u32.wrap (pw' : Int) = (pw' : Int) := IntWalk.u32_in _ (by omega)
          have nwW : IntKind.u32.wrap (new : Int) = (new : Int) := IntWalk.u32_in _ (by omega)
          have nwO : IntKind.u32.wrap ((old : Int) + (pw' : Int)) = (new : Int) := by rw [show (old : Int) + (pw' : Int) = (new : Int) by omega]; exact nwW
          have nwI : (old : Int) + (pw' : Int) = (new : Int) := by omega
          replace hfin := Lib.hid hfin
          replace s2 := Lib.hid s2
          replace hold := Lib.hid hold
          replace hpw := Lib.hid hpw
          replace hnew := Lib.hid hnew
          replace hkq := Lib.hid hkq
          replace hks := Lib.hid hks
          replace hr3 := Lib.hid hr3
          clear hk1 hrr hge
          go_wp2_with (fail)
          refine C4.out.mono ?_
          rintro e W5 ⟨X5, c5, rfl, h5, b5, f5⟩
          have hB5 := hB1.below b5
          have hA5 := hA1.below b5
          have ho5 := own_below ho1 b5
          have hb5 := Below.cons hb1 b5
          have hcell : W5.drew.cell? ⟨w.heap.size, kq, none⟩ = some (.int .u32 (old : Nat)) := by
            have hz := ho5.cellAt kq (by omega)
            rw [vals_get L kq (by rw [hlen.out]; exact hkql), ← hold.out] at hz
            exact hz
          have hfz : W5.drew.frozen? ⟨w.heap.size, kq, none⟩ = false := ho5.frozenAt kq
          have ho5d := own_below ho5 (Below.refl _ _).drew
          obtain ⟨st1, st2⟩ := ho5d.stored kq (.int .u32 (new : Nat))
          have z5 := b5.size
          go_wp2_with (fail)
          go_region_with (fail)
          all_goals
            go_wp2_with (fail)
            go_roundw
            case rel =>
              refine ⟨k, r3, L.set kq new, X5, c5, 2 * Q + 1, by first | rfl | trivial, by first | rfl | trivial, by omega, ?_, hr3b, ?_, ?_, Lib.hid (by rw [List.length_set]; exact hlen.out), hlim.set _ _ s1, Lib.hid ⟨s2.out, hfin.out⟩, f5.le (by omega)⟩
              · exact (h5.below (Below.refl _ _).drew).set (fun ad e => by have := f5.1 ad e; omega) _ _
              · exact (hb5.drew).setCell (p := ⟨w.heap.size, kq, none⟩) (Nat.le_refl _) _
              · rw [vals_set]; exact st1
            case measure => simp only [intOf]; omega
        · have C4 := rsubNot_c X1 c1 r1 B d b W1 h1 hB1 (by omega) (by omega) (by omega)
          replace C4 := Lib.hid C4
          have hrb : r1 < b := by omega
          have hfin : a / 2 ^ k = 2 * Q * b + r1 := by rw [hk1, hrr, Nat.mul_add, Nat.mul_assoc]; omega
          have hvv : val L = 2 * Q * 2 ^ k := by rw [hQR.out.1, Nat.pow_succ, Nat.mul_comm (2 ^ k) 2, ← Nat.mul_assoc, Nat.mul_comm Q 2]
          replace hfin := Lib.hid hfin
          replace hvv := Lib.hid hvv
          clear hk1 hrr hge
          go_wp2_with (fail)
          refine C4.out.mono ?_
          rintro e w' ⟨rfl, rfl⟩
          go_wp2_with (fail)
          go_roundw
          case rel => exact ⟨k, r1, L, X1, c1, 2 * Q, by first | rfl | trivial, by first | rfl | trivial, by omega, h1, hrb, hb1, ho1, hlen, hlim, Lib.hid ⟨hvv.out, hfin.out⟩, f1.le (by omega)⟩
          case measure => simp only [intOf]; omega
      · skip
        have C1 := rshl_f R cr r 1 wr hR (by omega) (by decide)
        obtain ⟨r1, hr1⟩ : ∃ z, z = r * 2 ^ 1 := ⟨_, rfl⟩
        rw [← hr1] at C1
        have hr1l : nl r1 ≤ nl b + 2 := by rw [hr1]; have := nl_shl r 1; omega
        replace C1 := Lib.hid C1
        replace hr1 := Lib.hid hr1
        have htt : ((t : Int) == 1) = true := ieqT (by omega)
        replace ht := Lib.hid ht
        go_wp2_with (fail)
        refine C1.out.mono ?_
        rintro e W1 ⟨X1, c1, rfl, h1, b1, f1⟩
        have zb1 := b1.size
        have hB1 := hB0.below b1
        have hA1 := hA0.below b1
        have ho1 := own_below ho0 b1
        have hb1 := Below.cons hb0' b1
        have C2 := rbit_c A c a k W1 hA1 (by omega) (by omega)
        rw [← ht.out] at C2
        replace C2 := Lib.hid C2
        go_wp2_with (fail)
        refine C2.out.mono ?_
        rintro e w' ⟨rfl, rfl⟩
        have b2 : Below W1.heap.size W1 (W1.alloc (.cells #[.int .u32 1] 58)) := (Below.refl _ _).alloc (Nat.le_refl _) _
        have h2 := nat_one _ _ (heap_alloc_new W1 (.cells #[.int .u32 1] 58))
        have h1' := h1.below b2
        have zb2 := b2.size
        have hB2 := hB1.below b2
        have hA2 := hA1.below b2
        have ho2 := own_below ho1 b2
        have hb2 := Below.cons hb1 b2
        obtain ⟨r2, hr2⟩ : ∃ z, z = r1 + 1 := ⟨_, rfl⟩
        have hr2l : nl r2 ≤ nl b + 3 := by rw [hr2]; have := nl_add r1 1; rw [nl_one] at this; omega
        have C3 := radd_f X1 c1 r1 _ 1 1 _ h1' h2 (by omega) (by rw [nl_one]; decide)
        rw [← hr2, nl_one] at C3
        replace C3 := Lib.hid C3
        replace hr2 := Lib.hid hr2
        go_wp2_with (fail)
        refine C3.out.mono ?_
        rintro e W3 ⟨X3, c3, rfl, h3, b3, f3⟩
        have zb3 := b3.size
        have hB3 := hB2.below b3
        have hA3 := hA2.below b3
        have ho3 := own_below ho2 b3
        have hb3 := Below.cons hb2 b3
        have hrr : r2 = 2 * r + t := by rw [hr2.out, hr1.out, ht1]; omega
        have hk1 := bit_div a k
        rw [← ht.out, hQR.out.2] at hk1
        by_cases hge : b ≤ r2
        · have C4 := rsub_f X3 c3 r2 B d b W3 h3 hB3 (by omega) (by omega) hge
          obtain ⟨r3, hr3⟩ : ∃ z, z = r2 - b := ⟨_, rfl⟩
          rw [← hr3] at C4
          replace C4 := Lib.hid C4
          have hr3b : r3 < b := by omega
          have hfin : a / 2 ^ k = (2 * Q + 1) * b + r3 := by rw [hk1, hr3, Nat.add_mul, Nat.mul_add, Nat.mul_assoc]; omega
          obtain ⟨s1, s2⟩ := set_bit hlim hlen.out hQR.out.1 hk32
          obtain ⟨old, hold⟩ : ∃ z, z = gl L (k / 32) := ⟨_, rfl⟩
          rw [← hold] at s1 s2
          obtain ⟨pw', hpw⟩ : ∃ z, z = 2 ^ (k % 32) := ⟨_, rfl⟩
          rw [← hpw] at s1 s2
          obtain ⟨new, hnew⟩ : ∃ z, z = old + pw' := ⟨_, rfl⟩
          rw [← hnew] at s1 s2
          obtain ⟨kq, hkq⟩ : ∃ z, z = k / 32 := ⟨_, rfl⟩
          obtain ⟨ks, hks⟩ : ∃ z, z = k % 32 := ⟨_, rfl⟩
          rw [← hkq] at s2 hold
          rw [← hks] at hpw
          have hksl : ks < 32 := by omega
          have hkql : kq < nl a := by omega
          have kqI : (k : Int) / 32 = (kq : Int) := by omega
          have ksI : (k : Int) % 32 = (ks : Int) := by omega
          have pwI : (2 : Int) ^ ks = (pw' : Int) := by rw [hpw]; simp
          have pwl : pw' ≤ 2147483648 := by rw [hpw]; exact Nat.pow_le_pow_right (by decide) (show ks ≤ 31 by omega)
          have kqT : (k : Int).tdiv 32 = (kq : Int) := by rw [Int.tdiv_eq_ediv_of_nonneg (by omega)]; exact kqI
          have ksT : (k : Int).tmod 32 = (ks : Int) := by rw [Int.tmod_eq_emod_of_nonneg (by omega)]; exact ksI
          have kqW : IntKind.i64.wrap (kq : Int) = (kq : Int) := IntWalk.i64_in _ (by omega)
          have ksW : IntKind.i64.wrap (ks : Int) = (ks : Int) := IntWalk.i64_in _ (by omega)
          have pwW : IntKind.u32.wrap (pw' : Int) = (pw' : Int) := IntWalk.u32_in _ (by omega)
          have nwW : IntKind.u32.wrap (new : Int) = (new : Int) := IntWalk.u32_in _ (by omega)
          have nwO : IntKind.u32.wrap ((old : Int) + (pw' : Int)) = (new : Int) := by rw [show (old : Int) + (pw' : Int) = (new : Int) by omega]; exact nwW
          have nwI : (old : Int) + (pw' : Int) = (new : Int) := by omega
          replace hfin := Lib.hid hfin
          replace s2 := Lib.hid s2
          replace hold := Lib.hid hold
          replace hpw := Lib.hid hpw
          replace hnew := Lib.hid hnew
          replace hkq := Lib.hid hkq
          replace hks := Lib.hid hks
          replace hr3 := Lib.hid hr3
          clear hk1 hrr hge
          go_wp2_with (fail)
          refine C4.out.mono ?_
          rintro e W5 ⟨X5, c5, rfl, h5, b5, f5⟩
          have hB5 := hB3.below b5
          have hA5 := hA3.below b5
          have ho5 := own_below ho3 b5
          have hb5 := Below.cons hb3 b5
          have hcell : W5.drew.cell? ⟨w.heap.size, kq, none⟩ = some (.int .u32 (old : Nat)) := by
            have hz := ho5.cellAt kq (by omega)
            rw [vals_get L kq (by rw [hlen.out]; exact hkql), ← hold.out] at hz
            exact hz
          have hfz : W5.drew.frozen? ⟨w.heap.size, kq, none⟩ = false := ho5.frozenAt kq
          have ho5d := own_below ho5 (Below.refl _ _).drew
          obtain ⟨st1, st2⟩ := ho5d.stored kq (.int .u32 (new : Nat))
          have z5 := b5.size
          go_wp2_with (fail)
          go_region_with (fail)
          all_goals
            go_wp2_with (fail)
            go_roundw
            case rel =>
              refine ⟨k, r3, L.set kq new, X5, c5, 2 * Q + 1, by first | rfl | trivial, by first | rfl | trivial, by omega, ?_, hr3b, ?_, ?_, Lib.hid (by rw [List.length_set]; exact hlen.out), hlim.set _ _ s1, Lib.hid ⟨s2.out, hfin.out⟩, f5.le (by omega)⟩
              · exact (h5.below (Below.refl _ _).drew).set (fun ad e => by have := f5.1 ad e; omega) _ _
              · exact (hb5.drew).setCell (p := ⟨w.heap.size, kq, none⟩) (Nat.le_refl _) _
              · rw [vals_set]; exact st1
            case measure => simp only [intOf]; omega
        · have C4 := rsubNot_c X3 c3 r2 B d b W3 h3 hB3 (by omega) (by omega) (by omega)
          replace C4 := Lib.hid C4
          have hrb : r2 < b := by omega
          have hfin : a / 2 ^ k = 2 * Q * b + r2 := by rw [hk1, hrr, Nat.mul_add, Nat.mul_assoc]; omega
          have hvv : val L = 2 * Q * 2 ^ k := by rw [hQR.out.1, Nat.pow_succ, Nat.mul_comm (2 ^ k) 2, ← Nat.mul_assoc, Nat.mul_comm Q 2]
          replace hfin := Lib.hid hfin
          replace hvv := Lib.hid hvv
          clear hk1 hrr hge
          go_wp2_with (fail)
          refine C4.out.mono ?_
          rintro e w' ⟨rfl, rfl⟩
          go_wp2_with (fail)
          go_roundw
          case rel => exact ⟨k, r2, L, X3, c3, 2 * Q, by first | rfl | trivial, by first | rfl | trivial, by omega, h3, hrb, hb3, ho3, hlen, hlim, Lib.hid ⟨hvv.out, hfin.out⟩, f3.le (by omega)⟩
          case measure => simp only [intOf]; omega
end Go.Proofs.YtacjfpibilolnaaGreatDoor

/- The document's Recip, Small, walked. -/
set_option linter.unusedVariables false
set_option linter.unusedSimpArgs false
namespace Go.Proofs.YtacjfpibilolnaaGreatDoor
open Go.RowKit Go.Shelf
attribute [local go_sem] max2_i min2_i max_two min_two

/-- A quotient and a limb. -/
def RetS (w : World) (q r : Nat) (e : Ending) (w' : World) : Prop := ∃ X cx, e = .returned (.tuple #[.slice X (nl q) cx, .int .u32 (r : Nat), .int .i64 0]) ∧ NatV w' X cx q ∧ Below w.heap.size w w'
theorem rd_one (W : World) (s m : Nat) (h : W.heap[s]? = some (.cells #[.int .u32 (m : Nat)] 58 (0, 0))) : Rd W (some ⟨s, 0, none⟩) [m] := by
  refine .inr ⟨_, rfl, fun i u hu => ?_⟩
  rcases i with _ | i
  · unfold World.cell?
    rw [show (Addr.add ⟨s, 0, none⟩ 0) = ⟨s, 0, none⟩ from rfl, h]
    simpa [vals] using hu
  · simp [vals] at hu
end Go.Proofs.YtacjfpibilolnaaGreatDoor

/- Whole numbers, walked: Of, Sign, Cmp, Neg. -/
set_option linter.unusedVariables false
set_option linter.unusedSimpArgs false
namespace Go.Proofs.YtacjfpibilolnaaGreatDoor
open Go.RowKit Go.Shelf
attribute [local go_sem] max2_i min2_i max_two min_two

theorem rd_two (W : World) (s a b : Nat) (h : W.heap[s]? = some (.cells #[.int .u32 (a : Nat), .int .u32 (b : Nat)] 58 (0, 0))) : Rd W (some ⟨s, 0, none⟩) [a, b] := by
  refine .inr ⟨_, rfl, fun i u hu => ?_⟩
  unfold World.cell?
  have e : (Addr.add ⟨s, 0, none⟩ i) = ⟨s, i, none⟩ := by simp only [Addr.add]; split <;> simp_all
  rw [e]
  simp only [h]
  match i, hu with
  | 0, hu => simpa [vals] using hu
  | 1, hu => simpa [vals] using hu
theorem two_limbs {n : Nat} (h : n < 18446744073709551616) : val [n % 4294967296, n / 4294967296] = n := by simp [val]; omega
set_option maxRecDepth 100000 in
set_option maxHeartbeats 4000000 in
theorem nof_c (n : Nat) (w : World) (hn : n < 18446744073709551616) :
    Calls Tryz.prog 112 #[.int .u64 (n : Nat)] w (RetN w n) := by
  obtain ⟨a, Ea⟩ : ∃ a, a = n % 4294967296 := ⟨_, rfl⟩
  obtain ⟨b, Eb⟩ : ∃ b, b = n / 4294967296 := ⟨_, rfl⟩
  have Ia : (n : Int) % 4294967296 = (a : Int) := by omega
  have Ib : (n : Int) / 4294967296 = (b : Int) := by omega
  have Ba : a < 4294967296 := by omega
  have Bb : b < 4294967296 := by omega
  have Jb : (b : Int) % 4294967296 = (b : Int) := by omega
  have ev : val [a, b] = n := by rw [Ea, Eb]; exact two_limbs hn
  replace ev := Lib.hid ev
  replace Ea := Lib.hid Ea
  replace Eb := Lib.hid Eb
  have hb0 : Below w.heap.size w (w.alloc (.cells #[.int .u32 (a : Nat), .int .u32 (b : Nat)] 58)) := (Below.refl _ _).alloc (Nat.le_refl _) _
  have hr := rd_two _ _ a b (heap_alloc_new w (.cells #[.int .u32 (a : Nat), .int .u32 (b : Nat)] 58))
  have C := make_c _ 2 2 [a, b] _ rfl hr (Lim.cons Ba (Lim.cons Bb Lim.nil)) (by decide) (Nat.le_refl _)
  rw [ev.out] at C
  replace C := Lib.hid C
  have HBT := hb0
  go_enter Tryz.func112, Tryz.ntmps112
  go_wp2_with (fail)
  refine C.out.mono ?_
  rintro e W1 ⟨X, cx, rfl, hX, hb1⟩
  replace HBT := Below.cons HBT hb1
  go_wp2_with (fail)
  go_ret
  exact ⟨X, cx, rfl, hX, HBT⟩
set_option maxRecDepth 100000 in
set_option maxHeartbeats 1000000 in
theorem ione_c (w : World) :
    Calls Tryz.prog 108 #[] w (RetN w 1) := by
  have b1 : Below w.heap.size w (w.alloc (.cells #[.int .u32 1] 58)) := (Below.refl _ _).alloc (Nat.le_refl _) _
  have h1 := nat_one _ _ (heap_alloc_new w (.cells #[.int .u32 1] 58))
  replace h1 := Lib.hid h1
  go_enter Tryz.func108, Tryz.ntmps108
  go_wp2_with (fail)
  go_ret
  exact ⟨some ⟨w.heap.size, 0, none⟩, 1, by rw [nl_one]; rfl, h1.out, b1⟩
set_option maxRecDepth 100000 in
set_option maxHeartbeats 4000000 in
theorem iof_c (n : Nat) (w : World) (hn : n < 9223372036854775808) :
    Calls Tryz.prog 68 #[.int .i64 (n : Nat)] w (RetI w n) := by
  have t1 : decide ((n : Int) < 0) = false := by simp
  have I1 : (n : Int) % 18446744073709551616 = (n : Int) := by omega
  have hb1 : Below (w).heap.size (w) (w.alloc (.cells #[.bool false, .slice none 0 0] 24)) := (Below.alloc (Below.refl _ _) (Nat.le_refl _) _)
  have HBT := hb1
  clear hb1
  have Rr : BoxA (w.alloc (.cells #[.bool false, .slice none 0 0] 24)) w.heap.size 24 #[.bool false, .slice none 0 0] := ⟨by repeat (first | exact at_new (by simp) | refine at_old (by simp <;> omega) ?_)⟩
  have qr0 := Rr.c (i := 0) rfl
  have qr1 := Rr.c (i := 1) rfl
  have W1' : IntKind.u64.wrap (n : Int) = (n : Int) := by simp [IntKind.wrap, IntKind.signed, IntKind.bits]; omega
  go_enter Tryz.func68, Tryz.ntmps68
  go_wp2_with (fail)
  obtain ⟨m, Em⟩ : ∃ zq : Nat, zq = n := ⟨_, rfl⟩
  have Bm : nl m ≤ 2 := by rw [Em]; exact nl_le.2 (Nat.lt_trans hn (by decide))
  refine (Calls.mono (R := RetN (w.alloc (.cells #[.bool false, .slice none 0 0] 24)) m) (by rw [Em]; exact (nof_c n _  (by omega))) ?_)
  replace Em := Lib.hid Em
  rintro e W2 ⟨Xm, cm, rfl, hm, hb2⟩
  replace Rr := Rr.below hb2
  replace qr0 := cell_below hb2 qr0
  replace qr1 := cell_below hb2 qr1
  replace HBT := Below.cons HBT hb2
  clear hb2
  go_wp2_with (fail)
  obtain ⟨z, Ez⟩ : ∃ zq : Int, zq = ival false m := ⟨_, rfl⟩
  refine (Calls.mono (R := RetI W2 z) (by rw [Ez]; exact (imake_c false Xm cm m _ hm (by omega))) ?_)
  replace Ez := Lib.hid Ez
  rintro e W3 ⟨Xz, cz, rfl, hz, hb3⟩
  replace Rr := Rr.below hb3
  replace qr0 := cell_below hb3 qr0
  replace qr1 := cell_below hb3 qr1
  replace hm := hm.below hb3
  replace HBT := Below.cons HBT hb3
  clear hb3
  have fr0 := Rr.f (i := 0)
  have fr1 := Rr.f (i := 1)
  go_wp2_with (fail)
  have RS := Rr.store2 (.bool (sg z)) (.slice Xz (nl (mg z)) cz)
  have e0 := RS.c (i := 0) rfl
  have e1 := RS.c (i := 1) rfl
  refine bodyPost_ret (v := .agg #[.bool (sg z), .slice Xz (nl (mg z)) cz]) (by simp [results, Tryz.results68, go_sem, e0, e1]) rfl ?_
  have hz : z = (n : Int) := by rw [Ez.out, Em.out]; rfl
  subst hz
  exact ⟨Xz, cz, rfl, (Rr.keep2 (by intro u hu; simp at hu; rcases hu with rfl | rfl <;> first | exact notU_bool _ | exact notU_slice _ _ _ | exact notU_i64 _) hz), (Below.store2 HBT (by first | exact Nat.le_refl _ | omega))⟩
set_option maxRecDepth 100000 in
set_option maxHeartbeats 4000000 in
theorem isign_c (aA : Option Addr) (ac : Nat) (a : Int) (w : World) :
    Calls Tryz.prog 77 #[.agg #[.bool (sg a), .slice aA (nl (mg a)) ac]] w fun e w' => e = .returned (.int .i64 a.sign) ∧ Below w.heap.size w w' := by
  obtain hc | hc | hc : a = 0 ∨ a < 0 ∨ 0 < a := by omega
  · have t1 : ((nl (mg a) : Int) == 0) = true := ieqT (by rw [show mg a = 0 from mg_zero.2 hc, nl_zero]; rfl)
    have t3 : a.sign = 0 := by rw [hc]; rfl
    rw [t3]
    have hb1 : Below (w).heap.size (w) (w.alloc (.cells #[.bool (sg a), .slice aA (nl (mg a)) ac] 24)) := (Below.alloc (Below.refl _ _) (Nat.le_refl _) _)
    have HBT := hb1
    clear hb1
    have Ra : BoxA (w.alloc (.cells #[.bool (sg a), .slice aA (nl (mg a)) ac] 24)) w.heap.size 24 #[.bool (sg a), .slice aA (nl (mg a)) ac] := ⟨by repeat (first | exact at_new (by simp) | refine at_old (by simp <;> omega) ?_)⟩
    have qa0 := Ra.c (i := 0) rfl
    have qa1 := Ra.c (i := 1) rfl
    replace hc := Lib.hid hc
    go_enter Tryz.func77, Tryz.ntmps77
    go_wp2_with (fail)
    go_ret
    exact ⟨rfl, HBT⟩
  · have t1 : ((nl (mg a) : Int) == 0) = false := ieqF (by have := nl_pos.2 (show mg a ≠ 0 from fun e => by have := mg_zero.1 e; omega); omega)
    have t2 : sg a = true := sg_t hc
    have t3 : a.sign = -1 := by exact Int.sign_eq_neg_one_of_neg hc
    rw [t3]
    have hb1 : Below (w).heap.size (w) (w.alloc (.cells #[.bool true, .slice aA (nl (mg a)) ac] 24)) := (Below.alloc (Below.refl _ _) (Nat.le_refl _) _)
    have HBT := hb1
    clear hb1
    have Ra : BoxA (w.alloc (.cells #[.bool true, .slice aA (nl (mg a)) ac] 24)) w.heap.size 24 #[.bool true, .slice aA (nl (mg a)) ac] := ⟨by repeat (first | exact at_new (by simp) | refine at_old (by simp <;> omega) ?_)⟩
    have qa0 := Ra.c (i := 0) rfl
    have qa1 := Ra.c (i := 1) rfl
    replace hc := Lib.hid hc
    go_enter Tryz.func77, Tryz.ntmps77
    go_wp2_with (fail)
    go_ret
    exact ⟨rfl, HBT⟩
  · have t1 : ((nl (mg a) : Int) == 0) = false := ieqF (by have := nl_pos.2 (show mg a ≠ 0 from fun e => by have := mg_zero.1 e; omega); omega)
    have t2 : sg a = false := sg_f (by omega)
    have t3 : a.sign = 1 := by exact Int.sign_eq_one_of_pos hc
    rw [t3]
    have hb1 : Below (w).heap.size (w) (w.alloc (.cells #[.bool false, .slice aA (nl (mg a)) ac] 24)) := (Below.alloc (Below.refl _ _) (Nat.le_refl _) _)
    have HBT := hb1
    clear hb1
    have Ra : BoxA (w.alloc (.cells #[.bool false, .slice aA (nl (mg a)) ac] 24)) w.heap.size 24 #[.bool false, .slice aA (nl (mg a)) ac] := ⟨by repeat (first | exact at_new (by simp) | refine at_old (by simp <;> omega) ?_)⟩
    have qa0 := Ra.c (i := 0) rfl
    have qa1 := Ra.c (i := 1) rfl
    replace hc := Lib.hid hc
    go_enter Tryz.func77, Tryz.ntmps77
    go_wp2_with (fail)
    go_ret
    exact ⟨rfl, HBT⟩
/-- Which one is less. -/
def icmp (a b : Int) : Int := if a < b then -1 else if b < a then 1 else 0
theorem icmp_zero {a b : Int} : icmp a b = 0 ↔ a = b := by unfold icmp; split <;> (try split) <;> omega
theorem icmp_nn {a b : Int} (ha : 0 ≤ a) (hb : 0 ≤ b) : icmp a b = cmpN (mg a) (mg b) := by
  unfold icmp cmpN mg
  have h1 : (a < b) ↔ (a.natAbs < b.natAbs) := by omega
  have h2 : (b < a) ↔ (b.natAbs < a.natAbs) := by omega
  simp only [h1, h2]
theorem icmp_bb {a b : Int} (ha : a < 0) (hb : b < 0) : icmp a b = cmpN (mg b) (mg a) := by
  unfold icmp cmpN mg
  have h1 : (a < b) ↔ (b.natAbs < a.natAbs) := by omega
  have h2 : (b < a) ↔ (a.natAbs < b.natAbs) := by omega
  simp only [h1, h2]
set_option maxRecDepth 100000 in
set_option maxHeartbeats 4000000 in
theorem icmp_c (aA : Option Addr) (ac : Nat) (a : Int) (bA : Option Addr) (bc : Nat) (b : Int) (w : World) (ha : NatV w aA ac (mg a)) (hb : NatV w bA bc (mg b)) (la : nl (mg a) ≤ 1073741824) (lb : nl (mg b) ≤ 1073741824) :
    Calls Tryz.prog 87 #[.agg #[.bool (sg a), .slice aA (nl (mg a)) ac], .agg #[.bool (sg b), .slice bA (nl (mg b)) bc]] w fun e w' => e = .returned (.int .i64 (icmp a b)) ∧ Below w.heap.size w w' := by
  by_cases h1 : a < 0
  · by_cases h2 : b < 0
    · have ta : sg a = true := sg_t h1
      have tb : sg b = true := sg_t h2
      rw [icmp_bb h1 h2]
      have hb1 : Below (w).heap.size (w) ((w.alloc (.cells #[.bool true, .slice aA (nl (mg a)) ac] 24)).alloc (.cells #[.bool true, .slice bA (nl (mg b)) bc] 24)) := (Below.alloc (Below.alloc (Below.refl _ _) (Nat.le_refl _) _) (by simp <;> omega) _)
      replace ha := ha.below hb1
      replace hb := hb.below hb1
      have HBT := hb1
      clear hb1
      have Ra : BoxA ((w.alloc (.cells #[.bool true, .slice aA (nl (mg a)) ac] 24)).alloc (.cells #[.bool true, .slice bA (nl (mg b)) bc] 24)) w.heap.size 24 #[.bool true, .slice aA (nl (mg a)) ac] := ⟨by repeat (first | exact at_new (by simp) | refine at_old (by simp <;> omega) ?_)⟩
      have qa0 := Ra.c (i := 0) rfl
      have qa1 := Ra.c (i := 1) rfl
      have Rb : BoxA ((w.alloc (.cells #[.bool true, .slice aA (nl (mg a)) ac] 24)).alloc (.cells #[.bool true, .slice bA (nl (mg b)) bc] 24)) (w.heap.size + 1) 24 #[.bool true, .slice bA (nl (mg b)) bc] := ⟨by repeat (first | exact at_new (by simp) | refine at_old (by simp <;> omega) ?_)⟩
      have qb0 := Rb.c (i := 0) rfl
      have qb1 := Rb.c (i := 1) rfl
      replace h1 := Lib.hid h1
      replace h2 := Lib.hid h2
      go_enter Tryz.func87, Tryz.ntmps87
      go_wp2_with (fail)
      refine (Calls.mono (cmp_c bA bc (mg b) aA ac (mg a) _ hb ha (by omega) (by omega)) ?_)
      rintro e W2 ⟨rfl, hb2⟩
      replace ha := ha.below hb2
      replace hb := hb.below hb2
      replace Ra := Ra.below hb2
      replace qa0 := cell_below hb2 qa0
      replace qa1 := cell_below hb2 qa1
      replace Rb := Rb.below hb2
      replace qb0 := cell_below hb2 qb0
      replace qb1 := cell_below hb2 qb1
      replace HBT := Below.cons HBT hb2
      clear hb2
      go_wp2_with (fail)
      go_ret
      exact ⟨rfl, HBT⟩
    · have ta : sg a = true := sg_t h1
      have tb : sg b = false := sg_f (by omega)
      rw [show icmp a b = -1 by unfold icmp; rw [if_pos (by omega)]]
      have hb1 : Below (w).heap.size (w) ((w.alloc (.cells #[.bool true, .slice aA (nl (mg a)) ac] 24)).alloc (.cells #[.bool false, .slice bA (nl (mg b)) bc] 24)) := (Below.alloc (Below.alloc (Below.refl _ _) (Nat.le_refl _) _) (by simp <;> omega) _)
      replace ha := ha.below hb1
      replace hb := hb.below hb1
      have HBT := hb1
      clear hb1
      have Ra : BoxA ((w.alloc (.cells #[.bool true, .slice aA (nl (mg a)) ac] 24)).alloc (.cells #[.bool false, .slice bA (nl (mg b)) bc] 24)) w.heap.size 24 #[.bool true, .slice aA (nl (mg a)) ac] := ⟨by repeat (first | exact at_new (by simp) | refine at_old (by simp <;> omega) ?_)⟩
      have qa0 := Ra.c (i := 0) rfl
      have qa1 := Ra.c (i := 1) rfl
      have Rb : BoxA ((w.alloc (.cells #[.bool true, .slice aA (nl (mg a)) ac] 24)).alloc (.cells #[.bool false, .slice bA (nl (mg b)) bc] 24)) (w.heap.size + 1) 24 #[.bool false, .slice bA (nl (mg b)) bc] := ⟨by repeat (first | exact at_new (by simp) | refine at_old (by simp <;> omega) ?_)⟩
      have qb0 := Rb.c (i := 0) rfl
      have qb1 := Rb.c (i := 1) rfl
      replace h1 := Lib.hid h1
      replace h2 := Lib.hid h2
      go_enter Tryz.func87, Tryz.ntmps87
      go_wp2_with (fail)
      go_ret
      exact ⟨rfl, HBT⟩
  · by_cases h2 : b < 0
    · have ta : sg a = false := sg_f (by omega)
      have tb : sg b = true := sg_t h2
      rw [show icmp a b = 1 by unfold icmp; rw [if_neg (by omega), if_pos (by omega)]]
      have hb1 : Below (w).heap.size (w) ((w.alloc (.cells #[.bool false, .slice aA (nl (mg a)) ac] 24)).alloc (.cells #[.bool true, .slice bA (nl (mg b)) bc] 24)) := (Below.alloc (Below.alloc (Below.refl _ _) (Nat.le_refl _) _) (by simp <;> omega) _)
      replace ha := ha.below hb1
      replace hb := hb.below hb1
      have HBT := hb1
      clear hb1
      have Ra : BoxA ((w.alloc (.cells #[.bool false, .slice aA (nl (mg a)) ac] 24)).alloc (.cells #[.bool true, .slice bA (nl (mg b)) bc] 24)) w.heap.size 24 #[.bool false, .slice aA (nl (mg a)) ac] := ⟨by repeat (first | exact at_new (by simp) | refine at_old (by simp <;> omega) ?_)⟩
      have qa0 := Ra.c (i := 0) rfl
      have qa1 := Ra.c (i := 1) rfl
      have Rb : BoxA ((w.alloc (.cells #[.bool false, .slice aA (nl (mg a)) ac] 24)).alloc (.cells #[.bool true, .slice bA (nl (mg b)) bc] 24)) (w.heap.size + 1) 24 #[.bool true, .slice bA (nl (mg b)) bc] := ⟨by repeat (first | exact at_new (by simp) | refine at_old (by simp <;> omega) ?_)⟩
      have qb0 := Rb.c (i := 0) rfl
      have qb1 := Rb.c (i := 1) rfl
      replace h1 := Lib.hid h1
      replace h2 := Lib.hid h2
      go_enter Tryz.func87, Tryz.ntmps87
      go_wp2_with (fail)
      go_ret
      exact ⟨rfl, HBT⟩
    · have ta : sg a = false := sg_f (by omega)
      have tb : sg b = false := sg_f (by omega)
      rw [icmp_nn (by omega) (by omega)]
      have hb1 : Below (w).heap.size (w) ((w.alloc (.cells #[.bool false, .slice aA (nl (mg a)) ac] 24)).alloc (.cells #[.bool false, .slice bA (nl (mg b)) bc] 24)) := (Below.alloc (Below.alloc (Below.refl _ _) (Nat.le_refl _) _) (by simp <;> omega) _)
      replace ha := ha.below hb1
      replace hb := hb.below hb1
      have HBT := hb1
      clear hb1
      have Ra : BoxA ((w.alloc (.cells #[.bool false, .slice aA (nl (mg a)) ac] 24)).alloc (.cells #[.bool false, .slice bA (nl (mg b)) bc] 24)) w.heap.size 24 #[.bool false, .slice aA (nl (mg a)) ac] := ⟨by repeat (first | exact at_new (by simp) | refine at_old (by simp <;> omega) ?_)⟩
      have qa0 := Ra.c (i := 0) rfl
      have qa1 := Ra.c (i := 1) rfl
      have Rb : BoxA ((w.alloc (.cells #[.bool false, .slice aA (nl (mg a)) ac] 24)).alloc (.cells #[.bool false, .slice bA (nl (mg b)) bc] 24)) (w.heap.size + 1) 24 #[.bool false, .slice bA (nl (mg b)) bc] := ⟨by repeat (first | exact at_new (by simp) | refine at_old (by simp <;> omega) ?_)⟩
      have qb0 := Rb.c (i := 0) rfl
      have qb1 := Rb.c (i := 1) rfl
      replace h1 := Lib.hid h1
      replace h2 := Lib.hid h2
      go_enter Tryz.func87, Tryz.ntmps87
      go_wp2_with (fail)
      refine (Calls.mono (cmp_c aA ac (mg a) bA bc (mg b) _ ha hb (by omega) (by omega)) ?_)
      rintro e W2 ⟨rfl, hb2⟩
      replace ha := ha.below hb2
      replace hb := hb.below hb2
      replace Ra := Ra.below hb2
      replace qa0 := cell_below hb2 qa0
      replace qa1 := cell_below hb2 qa1
      replace Rb := Rb.below hb2
      replace qb0 := cell_below hb2 qb0
      replace qb1 := cell_below hb2 qb1
      replace HBT := Below.cons HBT hb2
      clear hb2
      go_wp2_with (fail)
      go_ret
      exact ⟨rfl, HBT⟩
set_option maxRecDepth 100000 in
set_option maxHeartbeats 4000000 in
theorem ineg_c (aA : Option Addr) (ac : Nat) (a : Int) (w : World) (ha : NatV w aA ac (mg a)) (la : nl (mg a) ≤ 1073741824) :
    Calls Tryz.prog 88 #[.agg #[.bool (sg a), .slice aA (nl (mg a)) ac]] w (RetI w (-a)) := by
  obtain ⟨n, En⟩ : ∃ n : Bool, n = !sg a := ⟨_, rfl⟩
  have In : (!sg a) = n := En.symm
  have hv : ival n (mg a) = -a := by rw [En]; unfold ival sg mg; by_cases h : a < 0 <;> simp [h] <;> omega
  replace En := Lib.hid En
  replace hv := Lib.hid hv
  have hb1 : Below (w).heap.size (w) ((w.alloc (.cells #[.bool (sg a), .slice aA (nl (mg a)) ac] 24)).alloc (.cells #[.bool false, .slice none 0 0] 24)) := (Below.alloc (Below.alloc (Below.refl _ _) (Nat.le_refl _) _) (by simp <;> omega) _)
  replace ha := ha.below hb1
  have HBT := hb1
  clear hb1
  have Ra : BoxA ((w.alloc (.cells #[.bool (sg a), .slice aA (nl (mg a)) ac] 24)).alloc (.cells #[.bool false, .slice none 0 0] 24)) w.heap.size 24 #[.bool (sg a), .slice aA (nl (mg a)) ac] := ⟨by repeat (first | exact at_new (by simp) | refine at_old (by simp <;> omega) ?_)⟩
  have qa0 := Ra.c (i := 0) rfl
  have qa1 := Ra.c (i := 1) rfl
  have Rr : BoxA ((w.alloc (.cells #[.bool (sg a), .slice aA (nl (mg a)) ac] 24)).alloc (.cells #[.bool false, .slice none 0 0] 24)) (w.heap.size + 1) 24 #[.bool false, .slice none 0 0] := ⟨by repeat (first | exact at_new (by simp) | refine at_old (by simp <;> omega) ?_)⟩
  have qr0 := Rr.c (i := 0) rfl
  have qr1 := Rr.c (i := 1) rfl
  go_enter Tryz.func88, Tryz.ntmps88
  go_wp2_with (fail)
  obtain ⟨z, Ez⟩ : ∃ zq : Int, zq = ival n (mg a) := ⟨_, rfl⟩
  refine (Calls.mono (R := RetI ((w.alloc (.cells #[.bool (sg a), .slice aA (nl (mg a)) ac] 24)).alloc (.cells #[.bool false, .slice none 0 0] 24)) z) (by rw [Ez]; exact (imake_c n aA ac (mg a) _ ha (by omega))) ?_)
  replace Ez := Lib.hid Ez
  rintro e W2 ⟨Xz, cz, rfl, hz, hb2⟩
  replace ha := ha.below hb2
  replace Ra := Ra.below hb2
  replace qa0 := cell_below hb2 qa0
  replace qa1 := cell_below hb2 qa1
  replace Rr := Rr.below hb2
  replace qr0 := cell_below hb2 qr0
  replace qr1 := cell_below hb2 qr1
  replace HBT := Below.cons HBT hb2
  clear hb2
  have fr0 := Rr.f (i := 0)
  have fr1 := Rr.f (i := 1)
  go_wp2_with (fail)
  have hz : z = -a := by rw [Ez.out]; exact hv.out
  subst hz
  have RS := Rr.store2 (.bool (sg ((-a)))) (.slice Xz (nl (mg ((-a)))) cz)
  have e0 := RS.c (i := 0) rfl
  have e1 := RS.c (i := 1) rfl
  refine bodyPost_ret (v := .agg #[.bool (sg ((-a))), .slice Xz (nl (mg ((-a)))) cz]) (by simp [results, Tryz.results88, go_sem, e0, e1]) rfl ?_
  exact ⟨Xz, cz, rfl, (Rr.keep2 (by intro u hu; simp at hu; rcases hu with rfl | rfl <;> first | exact notU_bool _ | exact notU_slice _ _ _ | exact notU_i64 _) hz), (Below.store2 HBT (by first | exact Nat.le_refl _ | omega))⟩
end Go.Proofs.YtacjfpibilolnaaGreatDoor

/- The document's whole numbers, walked: Make, Of, Cmp, Sign, Neg, Same, Made. -/
set_option linter.unusedVariables false
set_option linter.unusedSimpArgs false
namespace Go.Proofs.YtacjfpibilolnaaGreatDoor
open Go.RowKit Go.Shelf
attribute [local go_sem] max2_i min2_i max_two min_two

theorem run_append_none {P : Program} {w : World} (base : Nat) (t ty e : TypeId) (i : TypeInfo) (size : Nat) (ht : P.underlying t = some (.slice e)) (hi : P.info? e = some i)
    (v : Value) (n : Nat) (xs : List Value) (hown : w.ownsRow base e size v n xs) (k : Nat) :
    (Builtin.append_ #[t, t] ty #[v, .slice none 0 k]).run P w = .ok v w := by
  rcases hown.2 with ⟨rfl, rfl⟩ | ⟨g, cap, cur, rfl, _, _, hnc, _⟩
  · simp [Builtin.append_, run_underlying ht, sizeOf, typeInfo, hi, Builtin.lenOf, Builtin.firstCells]
  · simp [Builtin.append_, run_underlying ht, sizeOf, typeInfo, hi, Builtin.lenOf, Builtin.firstCells, hnc, storeCells]
theorem wpList_append_none {P : Program} {w : World} {ops : Array Oper} {rest : List Oper} {o : Oper} {a : Act} {Q : Exit → Act → World → Prop} (hgd : o.guard = none) (s x : Operand) (t : TypeId)
    (ho : o.op = .call { callee := .builtin .append, args := #[s, x], argTypes := #[t, t] })
    (base : Nat) (e : TypeId) (i : TypeInfo) (size : Nat) (ht : P.underlying t = some (.slice e)) (hi : P.info? e = some i)
    (v : Value) (n : Nat) (xs : List Value) (hs : a.eval s = v) (hown : w.ownsRow base e size v n xs) (k : Nat) (hx : a.eval x = .slice none 0 k)
    (h : wpList P ops Q rest (a.put o.dst v) w) : wpList P ops Q (o :: rest) a w := by
  refine wpList_plain hgd fun K hK => ?_
  have hrun := run_append_none (P := P) (w := w) base t o.type e i size ht hi v n xs hown k
  unfold Oper.wp
  simp [execOp, ho, resolve, invoke, builtin, hs, hx, hrun, Result.andThen]
  exact hK _ _ h
set_option maxRecDepth 100000 in
set_option maxHeartbeats 1000000 in
theorem rmake_none (c : Nat) (w : World) :
    Calls Tryz.prog 98 #[.slice none 0 c] w (RetN w 0) := by
  obtain ⟨i0, hi, hz0, hz1, hz2⟩ := info_parts info_u32
  have hb1 : Below w.heap.size w (w.alloc (.cells #[] 58)) := (Below.refl _ _).alloc (Nat.le_refl _) _
  go_enter Tryz.func98, Tryz.ntmps98
  go_wp2_with (fail)
  go_loop [3] (fun v => v = .int .i64 0) (fun v => (intOf v).toNat)
  case atStart => rfl
  case round =>
    obtain rfl := hrel
    go_wp2_with (at_builtin; refine wpList_append_none rfl _ _ 22 rfl w.heap.size 58 i0 1 Tryz.underlying22 hi _ 0 [] rfl (World.ownsRow_lit w #[] 0 (Nat.le_refl _) (by decide) rfl) c rfl ?_)
    go_wp2
    go_ret
    exact ⟨some ⟨w.heap.size, 0, none⟩, 0, by rw [nl_zero]; rfl, ⟨by rw [limbs_zero]; exact .inl rfl, by rw [nl_zero]; exact Nat.le_refl _, by decide⟩, hb1⟩
theorem rmake_n (A : Option Addr) (c a : Nat) (w : World) (hA : NatV w A c a) (ha : nl a ≤ 1099511627776) :
    Calls Tryz.prog 98 #[.slice A (nl a) c] w (RetN w a) := by
  cases A with
  | some ad =>
    have := rmake_c (some ad) (nl a) c (limbs a) w rfl hA.rd (lim_limbs a) ha hA.cap (fun e => by cases e)
    rwa [val_limbs] at this
  | none =>
    have h0 : nl a = 0 := by
      rcases Nat.eq_zero_or_pos (nl a) with h | h
      · exact h
      · obtain ⟨ad, e, _⟩ := hA.rd.get 0 h; cases e
    have h1 : a = 0 := nl_eq_zero.1 h0
    subst h1
    rw [h0]
    exact rmake_none c w
set_option maxRecDepth 100000 in
set_option maxHeartbeats 4000000 in
theorem rof_c (n : Nat) (w : World) (hn : n < 18446744073709551616) :
    Calls Tryz.prog 79 #[.int .u64 (n : Nat)] w (RetN w n) := by
  obtain ⟨a, Ea⟩ : ∃ a, a = n % 4294967296 := ⟨_, rfl⟩
  obtain ⟨b, Eb⟩ : ∃ b, b = n / 4294967296 := ⟨_, rfl⟩
  have Ia : (n : Int) % 4294967296 = (a : Int) := by omega
  have Ib : (n : Int) / 4294967296 = (b : Int) := by omega
  have Ba : a < 4294967296 := by omega
  have Bb : b < 4294967296 := by omega
  have Ja : (a : Int) % 4294967296 = (a : Int) := by omega
  have Jb : (b : Int) % 4294967296 = (b : Int) := by omega
  have Ka : Int.tmod (n : Int) 4294967296 = (a : Int) := by rw [Int.tmod_eq_emod_of_nonneg (Int.natCast_nonneg n)]; exact Ia
  have Kb : Int.tdiv (n : Int) 4294967296 = (b : Int) := by rw [Int.tdiv_eq_ediv_of_nonneg (Int.natCast_nonneg n)]; exact Ib
  have ev : val [a, b] = n := by rw [Ea, Eb]; exact two_limbs hn
  replace ev := Lib.hid ev
  replace Ea := Lib.hid Ea
  replace Eb := Lib.hid Eb
  have hb0 : Below w.heap.size w (w.alloc (.cells #[.int .u32 (a : Nat), .int .u32 (b : Nat)] 58)) := (Below.refl _ _).alloc (Nat.le_refl _) _
  have hr := rd_two _ _ a b (heap_alloc_new w (.cells #[.int .u32 (a : Nat), .int .u32 (b : Nat)] 58))
  have C := rmake_c _ 2 2 [a, b] _ rfl hr (Lim.cons Ba (Lim.cons Bb Lim.nil)) (by decide) (Nat.le_refl _) (fun e => by cases e)
  rw [ev.out] at C
  replace C := Lib.hid C
  have HBT := hb0
  go_enter Tryz.func79, Tryz.ntmps79
  go_wp2_with (fail)
  refine C.out.mono ?_
  rintro e W1 ⟨X, cx, rfl, hX, hb1⟩
  replace HBT := Below.cons HBT hb1
  go_wp2_with (fail)
  go_ret
  exact ⟨X, cx, rfl, hX, HBT⟩
set_option maxRecDepth 100000 in
set_option maxHeartbeats 4000000 in
theorem rz_f (aA : Option Addr) (ac a : Nat) (z : Int) (w : World) (ha : NatV w aA ac a) (hl : nl a ≤ 1099511627776) (ez : mg z = a) (es : sg z = false) :
    Calls Tryz.prog 71 #[.bool false, .slice aA (nl a) ac] w (RetI w z) := by
  obtain ⟨sb, Esb⟩ : ∃ x, x = sg z := ⟨_, rfl⟩
  rw [← Esb] at es
  replace es := Lib.hid es
  replace Esb := Lib.hid Esb
  replace ez := Lib.hid ez
  have hb1 : Below (w).heap.size (w) (w.alloc (.cells #[.bool false, .slice none 0 0] 24)) := (Below.alloc (Below.refl _ _) (Nat.le_refl _) _)
  replace ha := ha.below hb1
  have HBT := hb1
  clear hb1
  have Rr : BoxA (w.alloc (.cells #[.bool false, .slice none 0 0] 24)) w.heap.size 24 #[.bool false, .slice none 0 0] := ⟨by repeat (first | exact at_new (by first | (simp; done) | (simp; omega)) | refine at_old (by first | (simp; done) | (simp; omega)) ?_)⟩
  have qr0 := Rr.c (i := 0) rfl
  have qr1 := Rr.c (i := 1) rfl
  go_enter Tryz.func71, Tryz.ntmps71
  go_wp2_with (fail)
  refine (Calls.mono (rmake_n aA ac a _ ha hl) ?_)
  rintro e W2 ⟨X, cx, rfl, hX, hb2⟩
  replace ha := ha.below hb2
  replace Rr := Rr.below hb2
  replace qr0 := cell_below hb2 qr0
  replace qr1 := cell_below hb2 qr1
  replace HBT := Below.cons HBT hb2
  clear hb2
  have fzr0 := Rr.f (i := 0)
  have fzr1 := Rr.f (i := 1)
  go_wp2_with (fail)
  have RS := Rr.store2 (.bool false) (.slice X (nl a) cx)
  have e0 := RS.c (i := 0) rfl
  have e1 := RS.c (i := 1) rfl
  refine bodyPost_ret (v := .agg #[.bool false, .slice X (nl a) cx]) (by simp [results, Tryz.results71, go_sem, e0, e1]) rfl ?_
  exact ⟨X, cx, by rw [ez.out, ← Esb.out, es.out], by rw [ez.out]; exact Rr.keep2 (by intro u hu; simp at hu; rcases hu with rfl | rfl <;> first | exact notU_bool _ | exact notU_slice _ _ _ | exact notU_i64 _) hX, Below.store2 HBT (by first | exact Nat.le_refl _ | omega)⟩
set_option maxRecDepth 100000 in
set_option maxHeartbeats 4000000 in
theorem rz_t (aA : Option Addr) (ac a : Nat) (z : Int) (w : World) (ha : NatV w aA ac a) (hl : nl a ≤ 1099511627776) (ez : mg z = a) (es : sg z = decide (0 < nl a)) :
    Calls Tryz.prog 71 #[.bool true, .slice aA (nl a) ac] w (RetI w z) := by
  obtain ⟨sb, Esb⟩ : ∃ x, x = sg z := ⟨_, rfl⟩
  rw [← Esb] at es
  have t1 : decide (0 < nl a) = sb := es.symm
  have t2 : decide ((0 : Int) < (nl a : Int)) = sb := by rw [es, decide_eq_decide]; omega
  replace es := Lib.hid es
  replace Esb := Lib.hid Esb
  replace ez := Lib.hid ez
  have hb1 : Below (w).heap.size (w) (w.alloc (.cells #[.bool false, .slice none 0 0] 24)) := (Below.alloc (Below.refl _ _) (Nat.le_refl _) _)
  replace ha := ha.below hb1
  have HBT := hb1
  clear hb1
  have Rr : BoxA (w.alloc (.cells #[.bool false, .slice none 0 0] 24)) w.heap.size 24 #[.bool false, .slice none 0 0] := ⟨by repeat (first | exact at_new (by first | (simp; done) | (simp; omega)) | refine at_old (by first | (simp; done) | (simp; omega)) ?_)⟩
  have qr0 := Rr.c (i := 0) rfl
  have qr1 := Rr.c (i := 1) rfl
  go_enter Tryz.func71, Tryz.ntmps71
  go_wp2_with (fail)
  refine (Calls.mono (rmake_n aA ac a _ ha hl) ?_)
  rintro e W2 ⟨X, cx, rfl, hX, hb2⟩
  replace ha := ha.below hb2
  replace Rr := Rr.below hb2
  replace qr0 := cell_below hb2 qr0
  replace qr1 := cell_below hb2 qr1
  replace HBT := Below.cons HBT hb2
  clear hb2
  have fzr0 := Rr.f (i := 0)
  have fzr1 := Rr.f (i := 1)
  go_wp2_with (fail)
  have RS := Rr.store2 (.bool sb) (.slice X (nl a) cx)
  have e0 := RS.c (i := 0) rfl
  have e1 := RS.c (i := 1) rfl
  refine bodyPost_ret (v := .agg #[.bool sb, .slice X (nl a) cx]) (by simp [results, Tryz.results71, go_sem, e0, e1]) rfl ?_
  exact ⟨X, cx, by rw [ez.out, ← Esb.out], by rw [ez.out]; exact Rr.keep2 (by intro u hu; simp at hu; rcases hu with rfl | rfl <;> first | exact notU_bool _ | exact notU_slice _ _ _ | exact notU_i64 _) hX, Below.store2 HBT (by first | exact Nat.le_refl _ | omega)⟩
theorem rz_c (s : Bool) (aA : Option Addr) (ac a : Nat) (w : World) (ha : NatV w aA ac a) (hl : nl a ≤ 1099511627776) :
    Calls Tryz.prog 71 #[.bool s, .slice aA (nl a) ac] w (RetI w (ival s a)) := by
  cases s
  · exact rz_f aA ac a _ w ha hl (mg_ival _ _) (sg_ival_f a)
  · exact rz_t aA ac a _ w ha hl (mg_ival _ _) (sg_ival_t a)
set_option maxRecDepth 100000 in
set_option maxHeartbeats 4000000 in
theorem zof_nn (n : Nat) (w : World) (hn : n < 9223372036854775808) :
    Calls Tryz.prog 31 #[.int .i64 (n : Nat)] w (RetI w n) := by
  have t1 : decide ((n : Int) < 0) = false := by simp
  have I1 : (n : Int) % 18446744073709551616 = (n : Int) := by omega
  have W1' : IntKind.u64.wrap (n : Int) = (n : Int) := by simp [IntKind.wrap, IntKind.signed, IntKind.bits]; omega
  have hb1 : Below (w).heap.size (w) (w.alloc (.cells #[.bool false, .slice none 0 0] 24)) := (Below.alloc (Below.refl _ _) (Nat.le_refl _) _)
  have HBT := hb1
  clear hb1
  have Rr : BoxA (w.alloc (.cells #[.bool false, .slice none 0 0] 24)) w.heap.size 24 #[.bool false, .slice none 0 0] := ⟨by repeat (first | exact at_new (by first | (simp; done) | (simp; omega)) | refine at_old (by first | (simp; done) | (simp; omega)) ?_)⟩
  have qr0 := Rr.c (i := 0) rfl
  have qr1 := Rr.c (i := 1) rfl
  go_enter Tryz.func31, Tryz.ntmps31
  go_wp2_with (fail)
  obtain ⟨m, Em⟩ : ∃ zq : Nat, zq = n := ⟨_, rfl⟩
  have Bm : nl m ≤ 2 := by rw [Em]; exact nl_le.2 (Nat.lt_trans hn (by decide))
  refine (Calls.mono (R := RetN (w.alloc (.cells #[.bool false, .slice none 0 0] 24)) m) (by rw [Em]; with_reducible exact (rof_c n _  (by omega))) ?_)
  replace Em := Lib.hid Em
  rintro e W2 ⟨Xm, cm, rfl, hm, hb2⟩
  replace Rr := Rr.below hb2
  replace qr0 := cell_below hb2 qr0
  replace qr1 := cell_below hb2 qr1
  replace HBT := Below.cons HBT hb2
  clear hb2
  go_wp2_with (fail)
  obtain ⟨z, Ez⟩ : ∃ zq : Int, zq = ival false m := ⟨_, rfl⟩
  refine (Calls.mono (R := RetI W2 z) (by rw [Ez]; with_reducible exact (rz_c false Xm cm m _ hm (by omega))) ?_)
  replace Ez := Lib.hid Ez
  rintro e W3 ⟨Xz, cz, rfl, hz, hb3⟩
  replace Rr := Rr.below hb3
  replace qr0 := cell_below hb3 qr0
  replace qr1 := cell_below hb3 qr1
  replace hm := hm.below hb3
  replace HBT := Below.cons HBT hb3
  clear hb3
  have fzr0 := Rr.f (i := 0)
  have fzr1 := Rr.f (i := 1)
  go_wp2_with (fail)
  have hzz : z = (n : Int) := by rw [Ez.out, Em.out]; rfl
  subst hzz
  have RS := Rr.store2 (.bool (sg (((n : Int))))) (.slice Xz (nl (mg (((n : Int))))) cz)
  have e0 := RS.c (i := 0) rfl
  have e1 := RS.c (i := 1) rfl
  refine bodyPost_ret (v := .agg #[.bool (sg (((n : Int)))), .slice Xz (nl (mg (((n : Int))))) cz]) (by simp [results, Tryz.results31, go_sem, e0, e1]) rfl ?_
  exact ⟨Xz, cz, rfl, (Rr.keep2 (by intro u hu; simp at hu; rcases hu with rfl | rfl <;> first | exact notU_bool _ | exact notU_slice _ _ _ | exact notU_i64 _) hz), (Below.store2 HBT (by first | exact Nat.le_refl _ | omega))⟩
set_option maxRecDepth 100000 in
set_option maxHeartbeats 4000000 in
theorem zof_neg (n : Nat) (w : World) (hn : n ≤ 9223372036854775808) (h0 : 0 < n) :
    Calls Tryz.prog 31 #[.int .i64 (-(n : Int))] w (RetI w (-(n : Int))) := by
  have t1 : decide (-(n : Int) < 0) = true := by simp; omega
  have t1b : decide (0 < n) = true := by simp; exact h0
  have I1 : (-(n : Int)) % 18446744073709551616 = 18446744073709551616 - (n : Int) := by omega
  have W1' : IntKind.u64.wrap (-(n : Int)) = 18446744073709551616 - (n : Int) := by simp [IntKind.wrap, IntKind.signed, IntKind.bits]; omega
  have W2' : IntKind.u64.wrap (-(18446744073709551616 - (n : Int))) = (n : Int) := by simp [IntKind.wrap, IntKind.signed, IntKind.bits]; omega
  have I2 : (-(18446744073709551616 - (n : Int))) % 18446744073709551616 = (n : Int) := by omega
  have I3 : ((n : Int) - 18446744073709551616) % 18446744073709551616 = (n : Int) := by omega
  have hb1 : Below (w).heap.size (w) (w.alloc (.cells #[.bool false, .slice none 0 0] 24)) := (Below.alloc (Below.refl _ _) (Nat.le_refl _) _)
  have HBT := hb1
  clear hb1
  have Rr : BoxA (w.alloc (.cells #[.bool false, .slice none 0 0] 24)) w.heap.size 24 #[.bool false, .slice none 0 0] := ⟨by repeat (first | exact at_new (by first | (simp; done) | (simp; omega)) | refine at_old (by first | (simp; done) | (simp; omega)) ?_)⟩
  have qr0 := Rr.c (i := 0) rfl
  have qr1 := Rr.c (i := 1) rfl
  go_enter Tryz.func31, Tryz.ntmps31
  go_wp2_with (fail)
  obtain ⟨m, Em⟩ : ∃ zq : Nat, zq = n := ⟨_, rfl⟩
  have Bm : nl m ≤ 2 := by rw [Em]; exact nl_le.2 (Nat.lt_of_le_of_lt hn (by decide))
  refine (Calls.mono (R := RetN (w.alloc (.cells #[.bool false, .slice none 0 0] 24)) m) (by rw [Em]; with_reducible exact (rof_c n _  (by omega))) ?_)
  replace Em := Lib.hid Em
  rintro e W2 ⟨Xm, cm, rfl, hm, hb2⟩
  replace Rr := Rr.below hb2
  replace qr0 := cell_below hb2 qr0
  replace qr1 := cell_below hb2 qr1
  replace HBT := Below.cons HBT hb2
  clear hb2
  go_wp2_with (fail)
  obtain ⟨z, Ez⟩ : ∃ zq : Int, zq = ival true m := ⟨_, rfl⟩
  refine (Calls.mono (R := RetI W2 z) (by rw [Ez]; with_reducible exact (rz_c true Xm cm m _ hm (by omega))) ?_)
  replace Ez := Lib.hid Ez
  rintro e W3 ⟨Xz, cz, rfl, hz, hb3⟩
  replace Rr := Rr.below hb3
  replace qr0 := cell_below hb3 qr0
  replace qr1 := cell_below hb3 qr1
  replace hm := hm.below hb3
  replace HBT := Below.cons HBT hb3
  clear hb3
  have fzr0 := Rr.f (i := 0)
  have fzr1 := Rr.f (i := 1)
  go_wp2_with (fail)
  have hzz : z = (-(n : Int)) := by rw [Ez.out, Em.out]; rfl
  subst hzz
  have RS := Rr.store2 (.bool (sg (((-(n : Int)))))) (.slice Xz (nl (mg (((-(n : Int)))))) cz)
  have e0 := RS.c (i := 0) rfl
  have e1 := RS.c (i := 1) rfl
  refine bodyPost_ret (v := .agg #[.bool (sg (((-(n : Int))))), .slice Xz (nl (mg (((-(n : Int)))))) cz]) (by simp [results, Tryz.results31, go_sem, e0, e1]) rfl ?_
  exact ⟨Xz, cz, rfl, (Rr.keep2 (by intro u hu; simp at hu; rcases hu with rfl | rfl <;> first | exact notU_bool _ | exact notU_slice _ _ _ | exact notU_i64 _) hz), (Below.store2 HBT (by first | exact Nat.le_refl _ | omega))⟩
theorem zof_c (z : Int) (w : World) (h0 : -9223372036854775808 ≤ z) (h1 : z < 9223372036854775808) :
    Calls Tryz.prog 31 #[.int .i64 z] w (RetI w z) := by
  rcases Int.lt_or_le z 0 with h | h
  · obtain ⟨n, rfl⟩ := Int.exists_eq_neg_ofNat (show z ≤ 0 by omega)
    exact zof_neg n w (by omega) (by omega)
  · obtain ⟨n, rfl⟩ := Int.eq_ofNat_of_zero_le h
    exact zof_nn n w (by omega)
set_option maxRecDepth 100000 in
set_option maxHeartbeats 4000000 in
theorem zcmp_c (aA : Option Addr) (ac : Nat) (a : Int) (bA : Option Addr) (bc : Nat) (b : Int) (w : World) (ha : NatV w aA ac (mg a)) (hb : NatV w bA bc (mg b)) (la : nl (mg a) ≤ 1073741824) (lb : nl (mg b) ≤ 1073741824) :
    Calls Tryz.prog 69 #[.agg #[.bool (sg a), .slice aA (nl (mg a)) ac], .agg #[.bool (sg b), .slice bA (nl (mg b)) bc]] w fun e w' => e = .returned (.int .i64 (icmp a b)) ∧ Below w.heap.size w w' := by
  by_cases h1 : a < 0
  · by_cases h2 : b < 0
    · have ta : sg a = true := sg_t h1
      have tb : sg b = true := sg_t h2
      rw [icmp_bb h1 h2]
      have hb1 : Below (w).heap.size (w) ((w.alloc (.cells #[.bool true, .slice aA (nl (mg a)) ac] 24)).alloc (.cells #[.bool true, .slice bA (nl (mg b)) bc] 24)) := (Below.alloc (Below.alloc (Below.refl _ _) (Nat.le_refl _) _) (by simp <;> omega) _)
      replace ha := ha.below hb1
      replace hb := hb.below hb1
      have HBT := hb1
      clear hb1
      have Ra : BoxA ((w.alloc (.cells #[.bool true, .slice aA (nl (mg a)) ac] 24)).alloc (.cells #[.bool true, .slice bA (nl (mg b)) bc] 24)) w.heap.size 24 #[.bool true, .slice aA (nl (mg a)) ac] := ⟨by repeat (first | exact at_new (by first | (simp; done) | (simp; omega)) | refine at_old (by first | (simp; done) | (simp; omega)) ?_)⟩
      have qa0 := Ra.c (i := 0) rfl
      have qa1 := Ra.c (i := 1) rfl
      have Rb : BoxA ((w.alloc (.cells #[.bool true, .slice aA (nl (mg a)) ac] 24)).alloc (.cells #[.bool true, .slice bA (nl (mg b)) bc] 24)) (w.heap.size + 1) 24 #[.bool true, .slice bA (nl (mg b)) bc] := ⟨by repeat (first | exact at_new (by first | (simp; done) | (simp; omega)) | refine at_old (by first | (simp; done) | (simp; omega)) ?_)⟩
      have qb0 := Rb.c (i := 0) rfl
      have qb1 := Rb.c (i := 1) rfl
      replace h1 := Lib.hid h1
      replace h2 := Lib.hid h2
      go_enter Tryz.func69, Tryz.ntmps69
      go_wp2_with (fail)
      refine (Calls.mono (rcmp_c bA bc (mg b) aA ac (mg a) _ hb ha (by omega) (by omega)) ?_)
      rintro e w' ⟨rfl, hw⟩
      subst hw
      go_wp2_with (fail)
      go_ret
      exact ⟨rfl, HBT⟩
    · have ta : sg a = true := sg_t h1
      have tb : sg b = false := sg_f (by omega)
      rw [show icmp a b = -1 by unfold icmp; rw [if_pos (by omega)]]
      have hb1 : Below (w).heap.size (w) ((w.alloc (.cells #[.bool true, .slice aA (nl (mg a)) ac] 24)).alloc (.cells #[.bool false, .slice bA (nl (mg b)) bc] 24)) := (Below.alloc (Below.alloc (Below.refl _ _) (Nat.le_refl _) _) (by simp <;> omega) _)
      replace ha := ha.below hb1
      replace hb := hb.below hb1
      have HBT := hb1
      clear hb1
      have Ra : BoxA ((w.alloc (.cells #[.bool true, .slice aA (nl (mg a)) ac] 24)).alloc (.cells #[.bool false, .slice bA (nl (mg b)) bc] 24)) w.heap.size 24 #[.bool true, .slice aA (nl (mg a)) ac] := ⟨by repeat (first | exact at_new (by first | (simp; done) | (simp; omega)) | refine at_old (by first | (simp; done) | (simp; omega)) ?_)⟩
      have qa0 := Ra.c (i := 0) rfl
      have qa1 := Ra.c (i := 1) rfl
      have Rb : BoxA ((w.alloc (.cells #[.bool true, .slice aA (nl (mg a)) ac] 24)).alloc (.cells #[.bool false, .slice bA (nl (mg b)) bc] 24)) (w.heap.size + 1) 24 #[.bool false, .slice bA (nl (mg b)) bc] := ⟨by repeat (first | exact at_new (by first | (simp; done) | (simp; omega)) | refine at_old (by first | (simp; done) | (simp; omega)) ?_)⟩
      have qb0 := Rb.c (i := 0) rfl
      have qb1 := Rb.c (i := 1) rfl
      replace h1 := Lib.hid h1
      replace h2 := Lib.hid h2
      go_enter Tryz.func69, Tryz.ntmps69
      go_wp2_with (fail)
      go_ret
      exact ⟨rfl, HBT⟩
  · by_cases h2 : b < 0
    · have ta : sg a = false := sg_f (by omega)
      have tb : sg b = true := sg_t h2
      rw [show icmp a b = 1 by unfold icmp; rw [if_neg (by omega), if_pos (by omega)]]
      have hb1 : Below (w).heap.size (w) ((w.alloc (.cells #[.bool false, .slice aA (nl (mg a)) ac] 24)).alloc (.cells #[.bool true, .slice bA (nl (mg b)) bc] 24)) := (Below.alloc (Below.alloc (Below.refl _ _) (Nat.le_refl _) _) (by simp <;> omega) _)
      replace ha := ha.below hb1
      replace hb := hb.below hb1
      have HBT := hb1
      clear hb1
      have Ra : BoxA ((w.alloc (.cells #[.bool false, .slice aA (nl (mg a)) ac] 24)).alloc (.cells #[.bool true, .slice bA (nl (mg b)) bc] 24)) w.heap.size 24 #[.bool false, .slice aA (nl (mg a)) ac] := ⟨by repeat (first | exact at_new (by first | (simp; done) | (simp; omega)) | refine at_old (by first | (simp; done) | (simp; omega)) ?_)⟩
      have qa0 := Ra.c (i := 0) rfl
      have qa1 := Ra.c (i := 1) rfl
      have Rb : BoxA ((w.alloc (.cells #[.bool false, .slice aA (nl (mg a)) ac] 24)).alloc (.cells #[.bool true, .slice bA (nl (mg b)) bc] 24)) (w.heap.size + 1) 24 #[.bool true, .slice bA (nl (mg b)) bc] := ⟨by repeat (first | exact at_new (by first | (simp; done) | (simp; omega)) | refine at_old (by first | (simp; done) | (simp; omega)) ?_)⟩
      have qb0 := Rb.c (i := 0) rfl
      have qb1 := Rb.c (i := 1) rfl
      replace h1 := Lib.hid h1
      replace h2 := Lib.hid h2
      go_enter Tryz.func69, Tryz.ntmps69
      go_wp2_with (fail)
      go_ret
      exact ⟨rfl, HBT⟩
    · have ta : sg a = false := sg_f (by omega)
      have tb : sg b = false := sg_f (by omega)
      rw [icmp_nn (by omega) (by omega)]
      have hb1 : Below (w).heap.size (w) ((w.alloc (.cells #[.bool false, .slice aA (nl (mg a)) ac] 24)).alloc (.cells #[.bool false, .slice bA (nl (mg b)) bc] 24)) := (Below.alloc (Below.alloc (Below.refl _ _) (Nat.le_refl _) _) (by simp <;> omega) _)
      replace ha := ha.below hb1
      replace hb := hb.below hb1
      have HBT := hb1
      clear hb1
      have Ra : BoxA ((w.alloc (.cells #[.bool false, .slice aA (nl (mg a)) ac] 24)).alloc (.cells #[.bool false, .slice bA (nl (mg b)) bc] 24)) w.heap.size 24 #[.bool false, .slice aA (nl (mg a)) ac] := ⟨by repeat (first | exact at_new (by first | (simp; done) | (simp; omega)) | refine at_old (by first | (simp; done) | (simp; omega)) ?_)⟩
      have qa0 := Ra.c (i := 0) rfl
      have qa1 := Ra.c (i := 1) rfl
      have Rb : BoxA ((w.alloc (.cells #[.bool false, .slice aA (nl (mg a)) ac] 24)).alloc (.cells #[.bool false, .slice bA (nl (mg b)) bc] 24)) (w.heap.size + 1) 24 #[.bool false, .slice bA (nl (mg b)) bc] := ⟨by repeat (first | exact at_new (by first | (simp; done) | (simp; omega)) | refine at_old (by first | (simp; done) | (simp; omega)) ?_)⟩
      have qb0 := Rb.c (i := 0) rfl
      have qb1 := Rb.c (i := 1) rfl
      replace h1 := Lib.hid h1
      replace h2 := Lib.hid h2
      go_enter Tryz.func69, Tryz.ntmps69
      go_wp2_with (fail)
      refine (Calls.mono (rcmp_c aA ac (mg a) bA bc (mg b) _ ha hb (by omega) (by omega)) ?_)
      rintro e w' ⟨rfl, hw⟩
      subst hw
      go_wp2_with (fail)
      go_ret
      exact ⟨rfl, HBT⟩
theorem nat0 (W : World) : NatV W none 0 (mg 0) := ⟨.inl (by simp [vals, limbs_zero, mg]), by simp [mg, nl_zero], by decide⟩
theorem icmp_sign (a : Int) : icmp a 0 = a.sign := by
  unfold icmp
  rcases Int.lt_trichotomy a 0 with h | h | h
  · rw [if_pos h, Int.sign_eq_neg_one_of_neg h]
  · rw [h]; rfl
  · rw [if_neg (by omega), if_pos h, Int.sign_eq_one_of_pos h]
set_option maxRecDepth 100000 in
set_option maxHeartbeats 4000000 in
theorem zsign_c (aA : Option Addr) (ac : Nat) (a : Int) (w : World) (ha : NatV w aA ac (mg a)) (la : nl (mg a) ≤ 1073741824) :
    Calls Tryz.prog 29 #[.agg #[.bool (sg a), .slice aA (nl (mg a)) ac]] w (fun e w' => e = .returned (.int .i64 a.sign) ∧ Below w.heap.size w w') := by
  have hb1 : Below (w).heap.size (w) (w.alloc (.cells #[.bool (sg a), .slice aA (nl (mg a)) ac] 24)) := (Below.alloc (Below.refl _ _) (Nat.le_refl _) _)
  replace ha := ha.below hb1
  have HBT := hb1
  clear hb1
  have Ra : BoxA (w.alloc (.cells #[.bool (sg a), .slice aA (nl (mg a)) ac] 24)) w.heap.size 24 #[.bool (sg a), .slice aA (nl (mg a)) ac] := ⟨by repeat (first | exact at_new (by first | (simp; done) | (simp; omega)) | refine at_old (by first | (simp; done) | (simp; omega)) ?_)⟩
  have qa0 := Ra.c (i := 0) rfl
  have qa1 := Ra.c (i := 1) rfl
  have CC := zcmp_c aA ac a none 0 0 (w.alloc (.cells #[.bool (sg a), .slice aA (nl (mg a)) ac] 24)) ha (nat0 _) (by omega) (by simp [mg, nl_zero])
  rw [icmp_sign, show sg 0 = false from rfl, show nl (mg 0) = 0 from nl_zero] at CC
  replace CC := Lib.hid CC
  go_enter Tryz.func29, Tryz.ntmps29
  go_wp2_with (fail)
  refine (Calls.mono (CC.out) ?_)
  rintro e W2 ⟨rfl, hb2⟩
  replace ha := ha.below hb2
  replace Ra := Ra.below hb2
  replace qa0 := cell_below hb2 qa0
  replace qa1 := cell_below hb2 qa1
  replace HBT := Below.cons HBT hb2
  clear hb2
  go_wp2_with (fail)
  go_ret
  exact ⟨rfl, HBT⟩
set_option maxRecDepth 100000 in
set_option maxHeartbeats 4000000 in
theorem zneg_c (aA : Option Addr) (ac : Nat) (a : Int) (w : World) (ha : NatV w aA ac (mg a)) (la : nl (mg a) ≤ 1073741824) :
    Calls Tryz.prog 80 #[.agg #[.bool (sg a), .slice aA (nl (mg a)) ac]] w (RetI w (-a)) := by
  obtain ⟨n, En⟩ : ∃ n : Bool, n = !sg a := ⟨_, rfl⟩
  have In : (!sg a) = n := En.symm
  have hv : ival n (mg a) = -a := by rw [En]; unfold ival sg mg; by_cases h : a < 0 <;> simp [h] <;> omega
  replace En := Lib.hid En
  replace hv := Lib.hid hv
  have hb1 : Below (w).heap.size (w) ((w.alloc (.cells #[.bool (sg a), .slice aA (nl (mg a)) ac] 24)).alloc (.cells #[.bool false, .slice none 0 0] 24)) := (Below.alloc (Below.alloc (Below.refl _ _) (Nat.le_refl _) _) (by simp <;> omega) _)
  replace ha := ha.below hb1
  have HBT := hb1
  clear hb1
  have Ra : BoxA ((w.alloc (.cells #[.bool (sg a), .slice aA (nl (mg a)) ac] 24)).alloc (.cells #[.bool false, .slice none 0 0] 24)) w.heap.size 24 #[.bool (sg a), .slice aA (nl (mg a)) ac] := ⟨by repeat (first | exact at_new (by first | (simp; done) | (simp; omega)) | refine at_old (by first | (simp; done) | (simp; omega)) ?_)⟩
  have qa0 := Ra.c (i := 0) rfl
  have qa1 := Ra.c (i := 1) rfl
  have Rr : BoxA ((w.alloc (.cells #[.bool (sg a), .slice aA (nl (mg a)) ac] 24)).alloc (.cells #[.bool false, .slice none 0 0] 24)) (w.heap.size + 1) 24 #[.bool false, .slice none 0 0] := ⟨by repeat (first | exact at_new (by first | (simp; done) | (simp; omega)) | refine at_old (by first | (simp; done) | (simp; omega)) ?_)⟩
  have qr0 := Rr.c (i := 0) rfl
  have qr1 := Rr.c (i := 1) rfl
  go_enter Tryz.func80, Tryz.ntmps80
  go_wp2_with (fail)
  obtain ⟨z, Ez⟩ : ∃ zq : Int, zq = ival n (mg a) := ⟨_, rfl⟩
  refine (Calls.mono (R := RetI ((w.alloc (.cells #[.bool (sg a), .slice aA (nl (mg a)) ac] 24)).alloc (.cells #[.bool false, .slice none 0 0] 24)) z) (by rw [Ez]; with_reducible exact (rz_c n aA ac (mg a) _ ha (by omega))) ?_)
  replace Ez := Lib.hid Ez
  rintro e W2 ⟨Xz, cz, rfl, hz, hb2⟩
  replace ha := ha.below hb2
  replace Ra := Ra.below hb2
  replace qa0 := cell_below hb2 qa0
  replace qa1 := cell_below hb2 qa1
  replace Rr := Rr.below hb2
  replace qr0 := cell_below hb2 qr0
  replace qr1 := cell_below hb2 qr1
  replace HBT := Below.cons HBT hb2
  clear hb2
  have fzr0 := Rr.f (i := 0)
  have fzr1 := Rr.f (i := 1)
  go_wp2_with (fail)
  have hzz : z = (-a) := by rw [Ez.out]; exact hv.out
  subst hzz
  have RS := Rr.store2 (.bool (sg (((-a))))) (.slice Xz (nl (mg (((-a))))) cz)
  have e0 := RS.c (i := 0) rfl
  have e1 := RS.c (i := 1) rfl
  refine bodyPost_ret (v := .agg #[.bool (sg (((-a)))), .slice Xz (nl (mg (((-a))))) cz]) (by simp [results, Tryz.results80, go_sem, e0, e1]) rfl ?_
  exact ⟨Xz, cz, rfl, (Rr.keep2 (by intro u hu; simp at hu; rcases hu with rfl | rfl <;> first | exact notU_bool _ | exact notU_slice _ _ _ | exact notU_i64 _) hz), (Below.store2 HBT (by first | exact Nat.le_refl _ | omega))⟩
set_option maxRecDepth 100000 in
set_option maxHeartbeats 4000000 in
theorem zsame_y (aA : Option Addr) (ac : Nat) (a : Int) (bA : Option Addr) (bc : Nat) (b : Int) (w : World) (ha : NatV w aA ac (mg a)) (hb : NatV w bA bc (mg b)) (la : nl (mg a) ≤ 1073741824) (lb : nl (mg b) ≤ 1073741824) (h0 : a = b) :
    Calls Tryz.prog 20 #[.agg #[.bool (sg a), .slice aA (nl (mg a)) ac], .agg #[.bool (sg b), .slice bA (nl (mg b)) bc]] w (fun e w' => e = .returned (.bool true) ∧ Below w.heap.size w w') := by
  have ic : icmp a b = 0 := icmp_zero.2 h0
  have es : (sg a == sg b) = true := by rw [h0]; simp
  obtain ⟨ib, Eib⟩ : ∃ z, z = icmp a b := ⟨_, rfl⟩
  rw [← Eib] at ic
  have CC := fun W => zcmp_c aA ac a bA bc b W
  rw [← Eib] at CC
  replace CC := Lib.hid CC
  replace Eib := Lib.hid Eib
  replace h0 := Lib.hid h0
  have hb1 : Below (w).heap.size (w) ((w.alloc (.cells #[.bool (sg a), .slice aA (nl (mg a)) ac] 24)).alloc (.cells #[.bool (sg b), .slice bA (nl (mg b)) bc] 24)) := (Below.alloc (Below.alloc (Below.refl _ _) (Nat.le_refl _) _) (by simp <;> omega) _)
  replace ha := ha.below hb1
  replace hb := hb.below hb1
  have HBT := hb1
  clear hb1
  have Ra : BoxA ((w.alloc (.cells #[.bool (sg a), .slice aA (nl (mg a)) ac] 24)).alloc (.cells #[.bool (sg b), .slice bA (nl (mg b)) bc] 24)) w.heap.size 24 #[.bool (sg a), .slice aA (nl (mg a)) ac] := ⟨by repeat (first | exact at_new (by first | (simp; done) | (simp; omega)) | refine at_old (by first | (simp; done) | (simp; omega)) ?_)⟩
  have qa0 := Ra.c (i := 0) rfl
  have qa1 := Ra.c (i := 1) rfl
  have Rb : BoxA ((w.alloc (.cells #[.bool (sg a), .slice aA (nl (mg a)) ac] 24)).alloc (.cells #[.bool (sg b), .slice bA (nl (mg b)) bc] 24)) (w.heap.size + 1) 24 #[.bool (sg b), .slice bA (nl (mg b)) bc] := ⟨by repeat (first | exact at_new (by first | (simp; done) | (simp; omega)) | refine at_old (by first | (simp; done) | (simp; omega)) ?_)⟩
  have qb0 := Rb.c (i := 0) rfl
  have qb1 := Rb.c (i := 1) rfl
  go_enter Tryz.func20, Tryz.ntmps20
  go_wp2_with (fail)
  refine (Calls.mono (CC.out _ ha hb la lb) ?_)
  rintro e W2 ⟨rfl, hb2⟩
  replace ha := ha.below hb2
  replace hb := hb.below hb2
  replace Ra := Ra.below hb2
  replace qa0 := cell_below hb2 qa0
  replace qa1 := cell_below hb2 qa1
  replace Rb := Rb.below hb2
  replace qb0 := cell_below hb2 qb0
  replace qb1 := cell_below hb2 qb1
  replace HBT := Below.cons HBT hb2
  clear hb2
  go_wp2_with (fail)
  go_ret
  exact ⟨rfl, HBT⟩
set_option maxRecDepth 100000 in
set_option maxHeartbeats 4000000 in
theorem zsame_n (aA : Option Addr) (ac : Nat) (a : Int) (bA : Option Addr) (bc : Nat) (b : Int) (w : World) (ha : NatV w aA ac (mg a)) (hb : NatV w bA bc (mg b)) (la : nl (mg a) ≤ 1073741824) (lb : nl (mg b) ≤ 1073741824) (h0 : a ≠ b) :
    Calls Tryz.prog 20 #[.agg #[.bool (sg a), .slice aA (nl (mg a)) ac], .agg #[.bool (sg b), .slice bA (nl (mg b)) bc]] w (fun e w' => e = .returned (.bool false) ∧ Below w.heap.size w w') := by
  have ic : (icmp a b == 0) = false := by simp; exact fun e => h0 (icmp_zero.1 e)
  obtain ⟨ib, Eib⟩ : ∃ z, z = icmp a b := ⟨_, rfl⟩
  rw [← Eib] at ic
  have CC := fun W => zcmp_c aA ac a bA bc b W
  rw [← Eib] at CC
  replace CC := Lib.hid CC
  replace Eib := Lib.hid Eib
  replace h0 := Lib.hid h0
  have hb1 : Below (w).heap.size (w) ((w.alloc (.cells #[.bool (sg a), .slice aA (nl (mg a)) ac] 24)).alloc (.cells #[.bool (sg b), .slice bA (nl (mg b)) bc] 24)) := (Below.alloc (Below.alloc (Below.refl _ _) (Nat.le_refl _) _) (by simp <;> omega) _)
  replace ha := ha.below hb1
  replace hb := hb.below hb1
  have HBT := hb1
  clear hb1
  have Ra : BoxA ((w.alloc (.cells #[.bool (sg a), .slice aA (nl (mg a)) ac] 24)).alloc (.cells #[.bool (sg b), .slice bA (nl (mg b)) bc] 24)) w.heap.size 24 #[.bool (sg a), .slice aA (nl (mg a)) ac] := ⟨by repeat (first | exact at_new (by first | (simp; done) | (simp; omega)) | refine at_old (by first | (simp; done) | (simp; omega)) ?_)⟩
  have qa0 := Ra.c (i := 0) rfl
  have qa1 := Ra.c (i := 1) rfl
  have Rb : BoxA ((w.alloc (.cells #[.bool (sg a), .slice aA (nl (mg a)) ac] 24)).alloc (.cells #[.bool (sg b), .slice bA (nl (mg b)) bc] 24)) (w.heap.size + 1) 24 #[.bool (sg b), .slice bA (nl (mg b)) bc] := ⟨by repeat (first | exact at_new (by first | (simp; done) | (simp; omega)) | refine at_old (by first | (simp; done) | (simp; omega)) ?_)⟩
  have qb0 := Rb.c (i := 0) rfl
  have qb1 := Rb.c (i := 1) rfl
  go_enter Tryz.func20, Tryz.ntmps20
  go_wp2_with (fail)
  refine (Calls.mono (CC.out _ ha hb la lb) ?_)
  rintro e W2 ⟨rfl, hb2⟩
  replace ha := ha.below hb2
  replace hb := hb.below hb2
  replace Ra := Ra.below hb2
  replace qa0 := cell_below hb2 qa0
  replace qa1 := cell_below hb2 qa1
  replace Rb := Rb.below hb2
  replace qb0 := cell_below hb2 qb0
  replace qb1 := cell_below hb2 qb1
  replace HBT := Below.cons HBT hb2
  clear hb2
  go_wp2_with (fail)
  go_ret
  exact ⟨rfl, HBT⟩
theorem zsame_c (aA : Option Addr) (ac : Nat) (a : Int) (bA : Option Addr) (bc : Nat) (b : Int) (w : World) (ha : NatV w aA ac (mg a)) (hb : NatV w bA bc (mg b)) (la : nl (mg a) ≤ 1073741824) (lb : nl (mg b) ≤ 1073741824) :
    Calls Tryz.prog 20 #[.agg #[.bool (sg a), .slice aA (nl (mg a)) ac], .agg #[.bool (sg b), .slice bA (nl (mg b)) bc]] w fun e w' => e = .returned (.bool (decide (a = b))) ∧ Below w.heap.size w w' := by
  by_cases h : a = b
  · rw [decide_eq_true h]; exact zsame_y aA ac a bA bc b w ha hb la lb h
  · rw [decide_eq_false h]; exact zsame_n aA ac a bA bc b w ha hb la lb h
end Go.Proofs.YtacjfpibilolnaaGreatDoor
