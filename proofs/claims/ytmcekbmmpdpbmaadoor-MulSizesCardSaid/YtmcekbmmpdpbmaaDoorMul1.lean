/- Products, limb by limb; parts; differences. -/
import Derived.Test.YtmcekbmmpdpbmaaDoorNat3
set_option linter.unusedVariables false
set_option linter.unusedSimpArgs false
namespace Go.Proofs.YtmcekbmmpdpbmaaDoor
open Go.RowKit Go.Shelf
attribute [local go_sem] max2_i min2_i max_two min_two

theorem gl_set_ne {l : List Nat} {i j x : Nat} (h : i ≠ j) : gl (l.set i x) j = gl l j := by
  simp [gl, List.getD_eq_getElem?_getD, List.getElem?_set_ne h]
theorem vals_set (l : List Nat) (i x : Nat) : vals (l.set i x) = (vals l).set i (.int .u32 (x : Nat)) := by simp [vals, List.map_set]
theorem mul_bdI {x y : Nat} (hx : x < 4294967296) (hy : y < 4294967296) : 0 ≤ (x : Int) * (y : Int) ∧ (x : Int) * (y : Int) ≤ 18446744065119617025 := by
  have h : x * y ≤ 18446744065119617025 := Nat.mul_le_mul (show x ≤ 4294967295 by omega) (show y ≤ 4294967295 by omega)
  rw [← Int.natCast_mul]
  generalize x * y = z at *
  omega
theorem mul_bd {x y : Nat} (hx : x < 4294967296) (hy : y < 4294967296) : x * y ≤ 18446744065119617025 :=
  Nat.mul_le_mul (show x ≤ 4294967295 by omega) (show y ≤ 4294967295 by omega)

set_option maxHeartbeats 1000000 in
theorem school_c (A : Option Addr) (c a : Nat) (B : Option Addr) (d b : Nat) (w : World) (hA : NatV w A c a) (hB : NatV w B d b) (ha : nl a ≤ 1073741824) (hb : nl b ≤ 1073741824) :
    Calls Tryd.prog 16 #[.slice A (nl a) c, .slice B (nl b) d] w (RetN w (a * b)) := by
  have hmk := mk32 ((nl a : Int) + nl b) ((nl a : Int) + nl b) (by omega) (by omega) (by omega)
  have hown0 := ownsMade32 w w.heap.size (nl a + nl b) (Nat.le_refl _) (by omega)
  have hb0 : Below w.heap.size w (w.alloc (.cells (madeCells #[.int .u32 0] (nl a + nl b)) 35)) := (Below.refl _ _).alloc (Nat.le_refl _) _
  have e0 : ((nl a : Int) + nl b).toNat = nl a + nl b := by omega
  rw [e0] at hmk
  go_enter Tryd.func16, Tryd.ntmps16
  go_wp2_with (fail)
  go_loopw [6, 7, 8, 9, 10, 19] (fun vi vx vc vk vy ct wr => ∃ (i : Nat) (L : List Nat), ct = .int .i64 i ∧ i ≤ nl a ∧ Below w.heap.size w wr ∧ wr.ownsRow w.heap.size 35 1 (.slice (some ⟨w.heap.size, 0, none⟩) (nl a + nl b) (nl a + nl b)) (nl a + nl b) (vals L) ∧
    L.length = nl a + nl b ∧ Lim L ∧ Hid (val L = val ((limbs a).take i) * b) ∧ Hid (∀ j, i + nl b ≤ j → gl L j = 0)) (fun vi vx vc vk vy ct wr => nl a - (intOf ct).toNat)
  case atStart =>
    exact ⟨0, _, rfl, Nat.zero_le _, hb0, hown0, by simp, Lim.replicate _ _ (by decide), Lib.hid (by rw [val_replicate]; simp [val]), Lib.hid (fun j _ => by simp [gl, List.getElem?_replicate]; split <;> rfl)⟩
  case round =>
    obtain ⟨i, L, rfl, hi, hb, hown, hlen, hlim, hval, hz⟩ := hrel
    by_cases hlt : i < nl a
    · obtain ⟨ad, rfl, hcx⟩ := (hA.rd.below hb).get i hlt
      have hxl := (lim_limbs a).gl i
      obtain ⟨x, hx⟩ : ∃ x, gl (limbs a) i = x := ⟨_, rfl⟩
      rw [hx] at hcx hxl
      have HX := Lib.hid hx
      clear hx
      have HL := Lib.hid hlen
      clear hlen hmk
      obtain ⟨wo, rfl⟩ : ∃ wo : World, wo = wr := ⟨_, rfl⟩
      go_wp2_with (fail)
      go_loopw [8, 9, 10, 26] (fun vc vk vy ct w2 => ∃ (k cr : Nat) (M : List Nat), ct = .int .i64 k ∧ vc = .int .u64 cr ∧ k ≤ nl b ∧ cr < 4294967296 ∧ Below w.heap.size w w2 ∧ w2.ownsRow w.heap.size 35 1 (.slice (some ⟨w.heap.size, 0, none⟩) (nl a + nl b) (nl a + nl b)) (nl a + nl b) (vals M) ∧
        Hid (M.length = nl a + nl b) ∧ Lim M ∧ Hid (val M + 4294967296 ^ (i + k) * cr = val L + 4294967296 ^ i * (x * val ((limbs b).take k))) ∧ Hid (∀ j, i + nl b ≤ j → gl M j = 0)) (fun vc vk vy ct w2 => nl b - (intOf ct).toNat)
      case atStart => exact ⟨0, 0, L, rfl, rfl, Nat.zero_le _, by decide, hb, hown, HL, hlim, Lib.hid (by simp [val]), hz⟩
      case round =>
        obtain ⟨k, cr, M, rfl, rfl, hk, hcr, hb2, hown2, hlen2, hlim2, hval2, hz2⟩ := hrel
        by_cases hlt2 : k < nl b
        · obtain ⟨bd, rfl, hcy⟩ := (hB.rd.below hb2).get k hlt2
          have hyl := (lim_limbs b).gl k
          obtain ⟨y, hy⟩ : ∃ y, gl (limbs b) k = y := ⟨_, rfl⟩
          rw [hy] at hcy hyl
          have HY := Lib.hid hy
          clear hy
          have hM : i + k < M.length := by rw [hlen2.out]; omega
          have hco := hown2.cellAt (i + k) (by omega)
          rw [vals_get M (i + k) hM] at hco
          have hfo := hown2.frozenAt (i + k)
          have hol := hlim2.gl (i + k)
          obtain ⟨o, ho⟩ : ∃ o, gl M (i + k) = o := ⟨_, rfl⟩
          rw [ho] at hco hol
          have HO := Lib.hid ho
          have HM := Lib.hid hM
          clear ho hM
          obtain ⟨hp1, hp2⟩ := mul_bdI hxl hyl
          have i1 : i + k < nl a + nl b := by omega
          go_wp2_with (fail)
          go_roundw
          case rel =>
            have et : ((cr : Int) + ((x : Int) * (y : Int) + (o : Int))) = ((cr + (x * y + o) : Nat) : Int) := by simp
            have hbd := mul_bd hxl hyl
            obtain ⟨t, ht⟩ : ∃ t, cr + (x * y + o) = t := ⟨_, rfl⟩
            rw [et, ht]
            have htb : t < 18446744073709551616 := by rw [← ht]; omega
            obtain ⟨r1, r2⟩ := hown2.stored (i + k) (.int .u32 ((t % 4294967296 : Nat) : Int))
            have hmod : t % 4294967296 < 4294967296 := Nat.mod_lt _ (by decide)
            have ec : ((t : Int) % 4294967296) = ((t % 4294967296 : Nat) : Int) := by omega
            rw [ec]
            refine ⟨k + 1, t / 4294967296, M.set (i + k) (t % 4294967296), by go_num, by congr 1, by omega, by omega, ?_, ?_, Lib.hid ?_, hlim2.set _ _ hmod, Lib.hid ?_, Lib.hid ?_⟩
            · exact hb2.setCell (p := ⟨w.heap.size, i + k, none⟩) (Nat.le_refl _) _
            · rw [vals_set]; exact r1
            · simp [hlen2.out]
            · have hv := hval2.out
              have hs := val_set (i + k) (t % 4294967296) HM.out
              rw [← gl_eq, HO.out] at hs
              rw [val_take_succ _ _ hlt2, HY.out]
              have e := Nat.div_add_mod t 4294967296
              rw [← Nat.add_assoc, Nat.pow_succ]
              rw [Nat.pow_add] at hv hs ⊢
              generalize val (M.set (i + k) (t % 4294967296)) = V at *
              generalize val M = U at *
              generalize val L = S at *
              generalize val ((limbs b).take k) = T at *
              generalize t / 4294967296 = q at *
              generalize t % 4294967296 = r at *
              generalize 4294967296 ^ i = p at *
              generalize 4294967296 ^ k = z at *
              grind
            · intro j hj
              rw [gl_set_ne (by omega)]
              exact hz2.out j hj
          case measure => simp [intOf] <;> omega
        · obtain rfl : k = nl b := by omega
          have hcell : wr.cell? ⟨w.heap.size, i + nl b, none⟩ = some (.int .u32 (gl M (i + nl b) : Nat)) := by
            rw [hown2.cellAt (i + nl b) (by omega), vals_get M _ (by rw [hlen2.out]; omega)]
          have hfo := hown2.frozenAt (i + nl b)
          have hg0 := hz2.out (i + nl b) (by omega)
          have i1 : i + nl b < nl a + nl b := by omega
          go_wp2_with (fail)
          go_roundw
          case rel =>
            have hM : i + nl b < M.length := by rw [hlen2.out]; omega
            obtain ⟨r1, r2⟩ := hown2.stored (i + nl b) (.int .u32 (cr : Nat))
            refine ⟨i + 1, M.set (i + nl b) cr, by go_num, by omega, hb2.setCell (p := ⟨w.heap.size, i + nl b, none⟩) (Nat.le_refl _) _, by rw [vals_set]; exact r1, by simp [hlen2.out], hlim2.set _ _ (by omega), Lib.hid ?_, Lib.hid ?_⟩
            · have hs := val_set (i + nl b) cr hM
              rw [← gl_eq, hg0, Nat.mul_zero, Nat.add_zero] at hs
              have hv := hval2.out
              rw [take_limbs (Nat.le_refl _)] at hv
              rw [hs, hv, hval.out, val_take_succ _ _ hlt, HX.out]
              grind
            · intro j hj
              rw [gl_set_ne (by omega)]
              exact hz2.out j (by omega)
          case measure => simp [intOf] <;> omega
    · obtain rfl : i = nl a := by omega
      obtain ⟨X, cx, e, hcx, hcm, hrd⟩ := ownV_rd hown
      cases e
      have hv := hval.out
      rw [take_limbs (Nat.le_refl _)] at hv
      have hmake := make_c (some ⟨w.heap.size, 0, none⟩) (nl a + nl b) (nl a + nl b) L wr hlen hrd hlim (by omega) (Nat.le_refl _)
      rw [hv] at hmake
      have HM := Lib.hid hmake
      clear hmake hown hrd hv hlen
      go_wp2_with (fail)
      refine HM.out.mono ?_
      rintro e w2 ⟨Y, cy, rfl, h1, h2⟩
      go_wp2_with (fail)
      go_ret
      exact ⟨Y, cy, rfl, h1, hb.trans (h2.mono hb.size)⟩

/-- Limbs from one place on, so many. -/
def cut (a i m : Nat) : Nat := a / 2 ^ (32 * i) % 2 ^ (32 * m)
theorem nl_cut (a i m : Nat) : nl (cut a i m) ≤ m := nl_mod_pow _ _
theorem nl_cut' (a i m : Nat) : nl (cut a i m) ≤ nl a - i := Nat.le_trans (nl_mod_le _ _) (nl_shr32 a i)

theorem Rd.sub {w : World} {A : Option Addr} {l : List Nat} (h : Rd w A l) (i m : Nat) : Rd w (A.map fun x => x.add i) ((l.drop i).take m) := by
  rcases h with h | ⟨ad, rfl, h⟩
  · have : l = [] := List.map_eq_nil_iff.1 h
    subst this
    exact .inl (by simp [vals])
  · refine .inr ⟨ad.add i, rfl, fun k u hu => ?_⟩
    rw [Addr.add_add]
    refine h (i + k) u ?_
    simp only [vals, List.map_take, List.map_drop] at hu ⊢
    by_cases hk : k < m
    · rw [List.getElem?_take_of_lt hk, List.getElem?_drop] at hu
      exact hu
    · rw [List.getElem?_take_eq_none (by omega)] at hu; cases hu
theorem cut_val (a i j i' j' : Nat) (hij : i ≤ j) (hi : i' = min i (nl a)) (hj : j' = min j (nl a)) : val (((limbs a).drop i').take (j' - i')) = cut a i (j - i) := by
  rw [val_take ((lim_limbs a).drop i'), val_drop (lim_limbs a), val_limbs]
  unfold cut
  rw [pow32, pow32]
  by_cases h : i < nl a
  · obtain rfl : i' = i := by omega
    by_cases h2 : j ≤ nl a
    · obtain rfl : j' = j := by omega
      rfl
    · obtain rfl : j' = nl a := by omega
      have h3 := nl_shr32 a i'
      rw [pow32] at h3
      rw [Nat.mod_eq_of_lt (nl_le.1 h3), Nat.mod_eq_of_lt (nl_le.1 (by omega))]
  · have h1 : a / 4294967296 ^ i = 0 := Nat.div_eq_of_lt (nl_le.1 (by omega))
    rw [h1, Nat.zero_mod, show j' - i' = 0 by omega, Nat.pow_zero, Nat.mod_one]

set_option maxHeartbeats 400000 in
theorem part_c (A : Option Addr) (c a : Nat) (i j : Int) (w : World) (hA : NatV w A c a) (ha : nl a ≤ 1073741824) (h0 : 0 ≤ i) (h1 : i ≤ j) (h2 : j ≤ 1099511627776) :
    Calls Tryd.prog 37 #[.slice A (nl a) c, .int .i64 i, .int .i64 j] w (RetN w (cut a i.toNat (j - i).toNat)) := by
  obtain ⟨j, rfl⟩ := Int.eq_ofNat_of_zero_le (Int.le_trans h0 h1)
  obtain ⟨i, rfl⟩ := Int.eq_ofNat_of_zero_le h0
  have hc := hA.cap
  have e3 : ((j : Int) - (i : Int)).toNat = j - i := by omega
  rw [e3, Int.toNat_natCast]
  have hm := fun (X : Option Addr) (n d : Nat) (h : Rd w X (((limbs a).drop (min i (nl a))).take (min j (nl a) - min i (nl a)))) (hn : n = min j (nl a) - min i (nl a)) (hd : n ≤ d) =>
    make_c X n d (((limbs a).drop (min i (nl a))).take (min j (nl a) - min i (nl a))) w (by rw [List.length_take, List.length_drop]; show min _ (nl a - _) = n; omega) h (((lim_limbs a).drop _).take _) (by omega) hd
  rw [cut_val a i j _ _ (by omega) rfl rfl] at hm
  have HM := Lib.hid hm
  have hr := Rd.sub hA.rd (min i (nl a)) (min j (nl a) - min i (nl a))
  have HR := Lib.hid hr
  clear hm hr
  go_enter Tryd.func37, Tryd.ntmps37
  go_wp2_with (fail)
  · have heq : (min (j : Int) (nl a : Int)).toNat = (min (i : Int) (nl a : Int)).toNat := by first | assumption | (symm; assumption)
    refine (HM.out A 0 0 ?_ ?_ (Nat.le_refl _)).mono ?_
    · rw [show min j (nl a) - min i (nl a) = 0 by omega, List.take_zero]; exact Rd.nil
    · omega
    rintro e w2 ⟨Y, cy, rfl, h1, h2⟩
    go_wp2_with (fail)
    go_ret
    exact ⟨Y, cy, rfl, h1, h2⟩
  · refine (HM.out _ _ _ ?_ ?_ (Nat.le_refl _)).mono ?_
    · rw [show (min (i : Int) (nl a : Int)).toNat = min i (nl a) by omega]; exact HR.out
    · omega
    rintro e w2 ⟨Y, cy, rfl, h1, h2⟩
    go_wp2_with (fail)
    go_ret
    exact ⟨Y, cy, rfl, h1, h2⟩
end Go.Proofs.YtmcekbmmpdpbmaaDoor
