/- The document's product, walked. -/
import Derived.Test.YtmcekbmmpdpbmaaDoorRef2
set_option linter.unusedVariables false
set_option linter.unusedSimpArgs false
namespace Go.Proofs.YtmcekbmmpdpbmaaDoor
open Go.RowKit Go.Shelf

set_option maxHeartbeats 2000000 in
theorem rschool_c (A : Option Addr) (c a : Nat) (B : Option Addr) (d b : Nat) (w : World) (hA : NatV w A c a) (hB : NatV w B d b) (ha : nl a ≤ 1073741824) (hb : nl b ≤ 1073741824) :
    Calls Tryd.prog 14 #[.slice A (nl a) c, .slice B (nl b) d] w (RetN w (a * b)) := by
  have hmk := mk32 ((nl a : Int) + nl b) ((nl a : Int) + nl b) (by omega) (by omega) (by omega)
  have hown0 := ownsMade32 w w.heap.size (nl a + nl b) (Nat.le_refl _) (by omega)
  have hb0 : Below w.heap.size w (w.alloc (.cells (madeCells #[.int .u32 0] (nl a + nl b)) 35)) := (Below.refl _ _).alloc (Nat.le_refl _) _
  have e0 : ((nl a : Int) + nl b).toNat = nl a + nl b := by omega
  rw [e0] at hmk
  go_enter Tryd.func14, Tryd.ntmps14
  go_wp2_with (fail)
  go_loopw [6, 7, 8, 9] (fun vi vc vk vx wr => ∃ (i : Nat) (L : List Nat), vi = .int .i64 i ∧ i ≤ nl a ∧ Below w.heap.size w wr ∧ wr.ownsRow w.heap.size 35 1 (.slice (some ⟨w.heap.size, 0, none⟩) (nl a + nl b) (nl a + nl b)) (nl a + nl b) (vals L) ∧
    L.length = nl a + nl b ∧ Lim L ∧ Hid (val L = val ((limbs a).take i) * b) ∧ Hid (∀ j, i + nl b ≤ j → gl L j = 0)) (fun vi vc vk vx wr => nl a - (intOf vi).toNat)
  case atStart =>
    exact ⟨0, _, rfl, Nat.zero_le _, hb0, hown0, by simp, Lim.replicate _ _ (by decide), Lib.hid (by rw [val_replicate]; simp [val]), Lib.hid (fun j _ => by simp [gl, List.getElem?_replicate]; split <;> rfl)⟩
  case round =>
    obtain ⟨i, L, rfl, hi, hb, hown, hlen, hlim, hval, hz⟩ := hrel
    by_cases hlt : i < nl a
    · obtain ⟨ad, rfl, hcx⟩ := (hA.rd.below hb).get i hlt
      have hxl := (lim_limbs a).gl i
      obtain ⟨x, hx⟩ : ∃ x, gl (limbs a) i = x := ⟨_, rfl⟩
      rw [hx] at hcx hxl
      have HX := Lib.hid hx
      clear hx
      have HL := Lib.hid hlen
      clear hlen hmk
      obtain ⟨wo, rfl⟩ : ∃ wo : World, wo = wr := ⟨_, rfl⟩
      go_wp2_with (fail)
      go_loopw [7, 8, 9] (fun vc vk vx w2 => ∃ (k cr : Nat) (M : List Nat), vk = .int .i64 k ∧ vc = .int .u64 cr ∧ k ≤ nl b ∧ cr < 4294967296 ∧ Below w.heap.size w w2 ∧ w2.ownsRow w.heap.size 35 1 (.slice (some ⟨w.heap.size, 0, none⟩) (nl a + nl b) (nl a + nl b)) (nl a + nl b) (vals M) ∧
        Hid (M.length = nl a + nl b) ∧ Lim M ∧ Hid (val M + 4294967296 ^ (i + k) * cr = val L + 4294967296 ^ i * (x * val ((limbs b).take k))) ∧ Hid (∀ j, i + nl b ≤ j → gl M j = 0)) (fun vc vk vx w2 => nl b - (intOf vk).toNat)
      case atStart => exact ⟨0, 0, L, rfl, rfl, Nat.zero_le _, by decide, hb, hown, HL, hlim, Lib.hid (by simp [val]), hz⟩
      case round =>
        obtain ⟨k, cr, M, rfl, rfl, hk, hcr, hb2, hown2, hlen2, hlim2, hval2, hz2⟩ := hrel
        by_cases hlt2 : k < nl b
        · obtain ⟨ad', ee, hcx2⟩ := (hA.rd.below hb2).get i hlt
          cases ee
          rw [HX.out] at hcx2
          obtain ⟨bd, rfl, hcy⟩ := (hB.rd.below hb2).get k hlt2
          have hyl := (lim_limbs b).gl k
          obtain ⟨y, hy⟩ : ∃ y, gl (limbs b) k = y := ⟨_, rfl⟩
          rw [hy] at hcy hyl
          have HY := Lib.hid hy
          clear hy
          have hM : i + k < M.length := by rw [hlen2.out]; omega
          have hco := hown2.cellAt (i + k) (by omega)
          rw [vals_get M (i + k) hM] at hco
          have hfo := hown2.frozenAt (i + k)
          have hol := hlim2.gl (i + k)
          obtain ⟨o, ho⟩ : ∃ o, gl M (i + k) = o := ⟨_, rfl⟩
          rw [ho] at hco hol
          have HO := Lib.hid ho
          have HM := Lib.hid hM
          clear ho hM
          obtain ⟨hp1, hp2⟩ := mul_bdI hxl hyl
          have i1 : i + k < nl a + nl b := by omega
          go_wp2_with (fail)
          go_quiet (fail)
          go_wp2_with (fail)
          go_roundw
          case rel =>
            have et : ((x : Int) * (y : Int) + (o : Int) + (cr : Int)) = ((cr + (x * y + o) : Nat) : Int) := by simp; omega
            have hbd := mul_bd hxl hyl
            obtain ⟨t, ht⟩ : ∃ t, cr + (x * y + o) = t := ⟨_, rfl⟩
            rw [et, ht]
            have htb : t < 18446744073709551616 := by rw [← ht]; omega
            have hown3 : (wr.drewN nq).ownsRow w.heap.size 35 1 (.slice (some ⟨w.heap.size, 0, none⟩) (nl a + nl b) (nl a + nl b)) (nl a + nl b) (vals M) := hown2
            obtain ⟨r1, r2⟩ := hown3.stored (i + k) (.int .u32 ((t % 4294967296 : Nat) : Int))
            have hmod : t % 4294967296 < 4294967296 := Nat.mod_lt _ (by decide)
            have ec : ((t : Int) % 4294967296) = ((t % 4294967296 : Nat) : Int) := by omega
            rw [ec]
            refine ⟨k + 1, t / 4294967296, M.set (i + k) (t % 4294967296), by go_num, by congr 1, by omega, by omega, ?_, ?_, Lib.hid ?_, hlim2.set _ _ hmod, Lib.hid ?_, Lib.hid ?_⟩
            · exact (hb2.drewN nq).setCell (p := ⟨w.heap.size, i + k, none⟩) (Nat.le_refl _) _
            · rw [vals_set]; exact r1
            · simp [hlen2.out]
            · have hv := hval2.out
              have hs := val_set (i + k) (t % 4294967296) HM.out
              rw [← gl_eq, HO.out] at hs
              rw [val_take_succ _ _ hlt2, HY.out]
              have e := Nat.div_add_mod t 4294967296
              rw [← Nat.add_assoc, Nat.pow_succ]
              rw [Nat.pow_add] at hv hs ⊢
              generalize val (M.set (i + k) (t % 4294967296)) = V at *
              generalize val M = U at *
              generalize val L = S at *
              generalize val ((limbs b).take k) = T at *
              generalize t / 4294967296 = q at *
              generalize t % 4294967296 = r at *
              generalize 4294967296 ^ i = p at *
              generalize 4294967296 ^ k = z at *
              grind
            · intro j hj
              rw [gl_set_ne (by omega)]
              exact hz2.out j hj
          case measure => simp [intOf] <;> omega
        · obtain rfl : k = nl b := by omega
          have hcell : wr.cell? ⟨w.heap.size, i + nl b, none⟩ = some (.int .u32 (gl M (i + nl b) : Nat)) := by
            rw [hown2.cellAt (i + nl b) (by omega), vals_get M _ (by rw [hlen2.out]; omega)]
          have hfo := hown2.frozenAt (i + nl b)
          have hg0 := hz2.out (i + nl b) (by omega)
          have i1 : i + nl b < nl a + nl b := by omega
          go_wp2_with (fail)
          go_roundw
          case rel =>
            have hM : i + nl b < M.length := by rw [hlen2.out]; omega
            obtain ⟨r1, r2⟩ := hown2.stored (i + nl b) (.int .u32 (cr : Nat))
            refine ⟨i + 1, M.set (i + nl b) cr, by go_num, by omega, hb2.setCell (p := ⟨w.heap.size, i + nl b, none⟩) (Nat.le_refl _) _, by rw [vals_set]; exact r1, by simp [hlen2.out], hlim2.set _ _ (by omega), Lib.hid ?_, Lib.hid ?_⟩
            · have hs := val_set (i + nl b) cr hM
              rw [← gl_eq, hg0, Nat.mul_zero, Nat.add_zero] at hs
              have hv := hval2.out
              rw [take_limbs (Nat.le_refl _)] at hv
              rw [hs, hv, hval.out, val_take_succ _ _ hlt, HX.out]
              grind
            · intro j hj
              rw [gl_set_ne (by omega)]
              exact hz2.out j (by omega)
          case measure => simp [intOf] <;> omega
    · obtain rfl : i = nl a := by omega
      obtain ⟨X, cx, e, hcx, hcm, hrd⟩ := ownV_rd hown
      cases e
      have hv := hval.out
      rw [take_limbs (Nat.le_refl _)] at hv
      have hmake := rmake_c (some ⟨w.heap.size, 0, none⟩) (nl a + nl b) (nl a + nl b) L wr hlen hrd hlim (by omega) (Nat.le_refl _) (fun h => by cases h)
      rw [hv] at hmake
      have HM := Lib.hid hmake
      clear hmake hown hrd hv hlen
      go_wp2_with (fail)
      refine HM.out.mono ?_
      rintro e w2 ⟨Y, cy, rfl, h1, h2⟩
      go_wp2_with (fail)
      go_ret
      exact ⟨Y, cy, rfl, h1, hb.trans (h2.mono hb.size)⟩

end Go.Proofs.YtmcekbmmpdpbmaaDoor
