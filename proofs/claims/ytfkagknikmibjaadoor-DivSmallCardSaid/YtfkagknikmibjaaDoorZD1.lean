/- The document's naturals cut to some limbs. -/
import Derived.Test.YtfkagknikmibjaaDoorZB1
import Derived.Test.YtfkagknikmibjaaDoorZC2
import Derived.Lib.ItoaNum
set_option linter.unusedVariables false
set_option linter.unusedSimpArgs false
namespace Go.Proofs.YtfkagknikmibjaaDoor
open Go.RowKit Go.Shelf
attribute [local go_sem] max2_i min2_i max_two min_two

theorem Rd.take {w : World} {A : Option Addr} {l : List Nat} (h : Rd w A l) (k : Nat) : Rd w A (l.take k) := by
  rcases h with h | ⟨ad, rfl, h⟩
  · exact .inl (by simp [vals] at h ⊢; simp [h])
  · refine .inr ⟨ad, rfl, fun i u hu => h i u ?_⟩
    simp only [vals, List.map_take] at hu ⊢
    by_cases hik : i < k
    · rwa [List.getElem?_take_of_lt hik] at hu
    · rw [List.getElem?_take_eq_none (by omega)] at hu; cases hu

set_option maxRecDepth 100000 in
set_option maxHeartbeats 400000 in
theorem made_n_c (A : Option Addr) (c m : Nat) (l : List Nat) (w : World) (h : Rd w A l) (hL : Lim l) (hl : l.length ≤ maxLen) (hc : l.length ≤ c) (hnil : A = none → c = 0) (hm : m ≤ 1099511627776) :
    Calls Tryd.prog 14 #[.slice A l.length c, .int .i64 (m : Nat)] w (RetN w (val (l.take m))) := by
  obtain ⟨k, hk⟩ : ∃ k, k = min l.length m := ⟨_, rfl⟩
  have hkI : min (l.length : Int) (m : Int) = (k : Int) := by omega
  have hkl : k ≤ l.length := by omega
  have hkm : k ≤ m := by omega
  have e : l.take m = l.take k := by
    rw [hk]
    rcases Nat.le_total l.length m with h1 | h1
    · rw [Nat.min_eq_left h1, List.take_of_length_le h1, List.take_of_length_le (Nat.le_refl _)]
    · rw [Nat.min_eq_right h1]
  rw [e]
  have hmk := rmake_c A k c (l.take k) w (by simp [hkl]) (h.take k) (hL.take k) (by omega) (by omega) hnil
  have HM := Lib.hid hmk
  have HK := Lib.hid hk
  clear hmk hk e
  go_enter Tryd.func14, Tryd.ntmps14
  go_wp2_with (fail)
  refine HM.out.mono ?_
  rintro e w1 ⟨X, cx, rfl, h1, h2⟩
  go_wp2_with (fail)
  go_ret
  exact ⟨X, cx, rfl, h1, h2⟩

theorem made_nl (l : List Nat) (h : Lim l) (n : Nat) : nl (val (l.take n)) ≤ n := by
  have h1 := val_lt (h.take n)
  refine nl_le.2 (Nat.lt_of_lt_of_le h1 (Nat.pow_le_pow_right (by decide) ?_))
  rw [List.length_take]; exact Nat.min_le_left _ _
end Go.Proofs.YtfkagknikmibjaaDoor

/- The document's product, walked. -/
set_option linter.unusedVariables false
set_option linter.unusedSimpArgs false
namespace Go.Proofs.YtfkagknikmibjaaDoor
open Go.RowKit Go.Shelf

set_option maxRecDepth 100000 in
set_option maxHeartbeats 2000000 in
theorem rschool_c (A : Option Addr) (c a : Nat) (B : Option Addr) (d b : Nat) (w : World) (hA : NatV w A c a) (hB : NatV w B d b) (ha : nl a ≤ 1073741824) (hb : nl b ≤ 1073741824) :
    Calls Tryd.prog 58 #[.slice A (nl a) c, .slice B (nl b) d] w (RetN w (a * b)) := by
  have hmk := mk32 ((nl a : Int) + nl b) ((nl a : Int) + nl b) (by omega) (by omega) (by omega)
  have hown0 := ownsMade32 w w.heap.size (nl a + nl b) (Nat.le_refl _) (by omega)
  have hb0 : Below w.heap.size w (w.alloc (.cells (madeCells #[.int .u32 0] (nl a + nl b)) 23)) := (Below.refl _ _).alloc (Nat.le_refl _) _
  have e0 : ((nl a : Int) + nl b).toNat = nl a + nl b := by omega
  rw [e0] at hmk
  go_enter Tryd.func58, Tryd.ntmps58
  go_wp2_with (fail)
  go_loopw [6, 7, 8, 9] (fun vi vc vk vx wr => ∃ (i : Nat) (L : List Nat), vi = .int .i64 i ∧ i ≤ nl a ∧ Below w.heap.size w wr ∧ wr.ownsRow w.heap.size 23 1 (.slice (some ⟨w.heap.size, 0, none⟩) (nl a + nl b) (nl a + nl b)) (nl a + nl b) (vals L) ∧
    L.length = nl a + nl b ∧ Lim L ∧ Hid (val L = val ((limbs a).take i) * b) ∧ Hid (∀ j, i + nl b ≤ j → gl L j = 0)) (fun vi vc vk vx wr => nl a - (intOf vi).toNat)
  case atStart =>
    exact ⟨0, _, rfl, Nat.zero_le _, hb0, hown0, by simp, Lim.replicate _ _ (by decide), Lib.hid (by rw [val_replicate]; simp [val]), Lib.hid (fun j _ => by simp [gl, List.getElem?_replicate]; split <;> rfl)⟩
  case round =>
    obtain ⟨i, L, rfl, hi, hb, hown, hlen, hlim, hval, hz⟩ := hrel
    by_cases hlt : i < nl a
    · obtain ⟨ad, rfl, hcx⟩ := (hA.rd.below hb).get i hlt
      have hxl := (lim_limbs a).gl i
      obtain ⟨x, hx⟩ : ∃ x, gl (limbs a) i = x := ⟨_, rfl⟩
      rw [hx] at hcx hxl
      have HX := Lib.hid hx
      clear hx
      have HL := Lib.hid hlen
      clear hlen hmk
      obtain ⟨wo, rfl⟩ : ∃ wo : World, wo = wr := ⟨_, rfl⟩
      go_wp2_with (fail)
      go_loopw [7, 8, 9] (fun vc vk vx w2 => ∃ (k cr : Nat) (M : List Nat), vk = .int .i64 k ∧ vc = .int .u64 cr ∧ k ≤ nl b ∧ cr < 4294967296 ∧ Below w.heap.size w w2 ∧ w2.ownsRow w.heap.size 23 1 (.slice (some ⟨w.heap.size, 0, none⟩) (nl a + nl b) (nl a + nl b)) (nl a + nl b) (vals M) ∧
        Hid (M.length = nl a + nl b) ∧ Lim M ∧ Hid (val M + 4294967296 ^ (i + k) * cr = val L + 4294967296 ^ i * (x * val ((limbs b).take k))) ∧ Hid (∀ j, i + nl b ≤ j → gl M j = 0)) (fun vc vk vx w2 => nl b - (intOf vk).toNat)
      case atStart => exact ⟨0, 0, L, rfl, rfl, Nat.zero_le _, by decide, hb, hown, HL, hlim, Lib.hid (by simp [val]), hz⟩
      case round =>
        obtain ⟨k, cr, M, rfl, rfl, hk, hcr, hb2, hown2, hlen2, hlim2, hval2, hz2⟩ := hrel
        by_cases hlt2 : k < nl b
        · obtain ⟨ad', ee, hcx2⟩ := (hA.rd.below hb2).get i hlt
          cases ee
          rw [HX.out] at hcx2
          obtain ⟨bd, rfl, hcy⟩ := (hB.rd.below hb2).get k hlt2
          have hyl := (lim_limbs b).gl k
          obtain ⟨y, hy⟩ : ∃ y, gl (limbs b) k = y := ⟨_, rfl⟩
          rw [hy] at hcy hyl
          have HY := Lib.hid hy
          clear hy
          have hM : i + k < M.length := by rw [hlen2.out]; omega
          have hco := hown2.cellAt (i + k) (by omega)
          rw [vals_get M (i + k) hM] at hco
          have hfo := hown2.frozenAt (i + k)
          have hol := hlim2.gl (i + k)
          obtain ⟨o, ho⟩ : ∃ o, gl M (i + k) = o := ⟨_, rfl⟩
          rw [ho] at hco hol
          have HO := Lib.hid ho
          have HM := Lib.hid hM
          clear ho hM
          obtain ⟨hp1, hp2⟩ := mul_bdI hxl hyl
          have i1 : i + k < nl a + nl b := by omega
          go_wp2_with (fail)
          go_quiet (fail)
          go_wp2_with (fail)
          go_roundw
          case rel =>
            have et : ((x : Int) * (y : Int) + (o : Int) + (cr : Int)) = ((cr + (x * y + o) : Nat) : Int) := by simp; omega
            have hbd := mul_bd hxl hyl
            obtain ⟨t, ht⟩ : ∃ t, cr + (x * y + o) = t := ⟨_, rfl⟩
            rw [et, ht]
            have htb : t < 18446744073709551616 := by rw [← ht]; omega
            have hown3 : (wr.drewN nq).ownsRow w.heap.size 23 1 (.slice (some ⟨w.heap.size, 0, none⟩) (nl a + nl b) (nl a + nl b)) (nl a + nl b) (vals M) := hown2
            obtain ⟨r1, r2⟩ := hown3.stored (i + k) (.int .u32 ((t % 4294967296 : Nat) : Int))
            have hmod : t % 4294967296 < 4294967296 := Nat.mod_lt _ (by decide)
            have ec : ((t : Int) % 4294967296) = ((t % 4294967296 : Nat) : Int) := by omega
            rw [ec]
            refine ⟨k + 1, t / 4294967296, M.set (i + k) (t % 4294967296), by go_num, by congr 1, by omega, by omega, ?_, ?_, Lib.hid ?_, hlim2.set _ _ hmod, Lib.hid ?_, Lib.hid ?_⟩
            · exact (hb2.drewN nq).setCell (p := ⟨w.heap.size, i + k, none⟩) (Nat.le_refl _) _
            · rw [vals_set]; exact r1
            · simp [hlen2.out]
            · have hv := hval2.out
              have hs := val_set (i + k) (t % 4294967296) HM.out
              rw [← gl_eq, HO.out] at hs
              rw [val_take_succ _ _ hlt2, HY.out]
              have e := Nat.div_add_mod t 4294967296
              rw [← Nat.add_assoc, Nat.pow_succ]
              rw [Nat.pow_add] at hv hs ⊢
              generalize val (M.set (i + k) (t % 4294967296)) = V at *
              generalize val M = U at *
              generalize val L = S at *
              generalize val ((limbs b).take k) = T at *
              generalize t / 4294967296 = q at *
              generalize t % 4294967296 = r at *
              generalize 4294967296 ^ i = p at *
              generalize 4294967296 ^ k = z at *
              grind
            · intro j hj
              rw [gl_set_ne (by omega)]
              exact hz2.out j hj
          case measure => simp [intOf] <;> omega
        · obtain rfl : k = nl b := by omega
          have hcell : wr.cell? ⟨w.heap.size, i + nl b, none⟩ = some (.int .u32 (gl M (i + nl b) : Nat)) := by
            rw [hown2.cellAt (i + nl b) (by omega), vals_get M _ (by rw [hlen2.out]; omega)]
          have hfo := hown2.frozenAt (i + nl b)
          have hg0 := hz2.out (i + nl b) (by omega)
          have i1 : i + nl b < nl a + nl b := by omega
          go_wp2_with (fail)
          go_roundw
          case rel =>
            have hM : i + nl b < M.length := by rw [hlen2.out]; omega
            obtain ⟨r1, r2⟩ := hown2.stored (i + nl b) (.int .u32 (cr : Nat))
            refine ⟨i + 1, M.set (i + nl b) cr, by go_num, by omega, hb2.setCell (p := ⟨w.heap.size, i + nl b, none⟩) (Nat.le_refl _) _, by rw [vals_set]; exact r1, by simp [hlen2.out], hlim2.set _ _ (by omega), Lib.hid ?_, Lib.hid ?_⟩
            · have hs := val_set (i + nl b) cr hM
              rw [← gl_eq, hg0, Nat.mul_zero, Nat.add_zero] at hs
              have hv := hval2.out
              rw [take_limbs (Nat.le_refl _)] at hv
              rw [hs, hv, hval.out, val_take_succ _ _ hlt, HX.out]
              grind
            · intro j hj
              rw [gl_set_ne (by omega)]
              exact hz2.out j (by omega)
          case measure => simp [intOf] <;> omega
    · obtain rfl : i = nl a := by omega
      obtain ⟨X, cx, e, hcx, hcm, hrd⟩ := ownV_rd hown
      cases e
      have hv := hval.out
      rw [take_limbs (Nat.le_refl _)] at hv
      have hmake := rmake_c (some ⟨w.heap.size, 0, none⟩) (nl a + nl b) (nl a + nl b) L wr hlen hrd hlim (by omega) (Nat.le_refl _) (fun h => by cases h)
      rw [hv] at hmake
      have HM := Lib.hid hmake
      clear hmake hown hrd hv hlen
      go_wp2_with (fail)
      refine HM.out.mono ?_
      rintro e w2 ⟨Y, cy, rfl, h1, h2⟩
      go_wp2_with (fail)
      go_ret
      exact ⟨Y, cy, rfl, h1, hb.trans (h2.mono hb.size)⟩

end Go.Proofs.YtfkagknikmibjaaDoor

/- How many bits a natural has. -/
set_option linter.unusedVariables false
set_option linter.unusedSimpArgs false
namespace Go.Proofs.YtfkagknikmibjaaDoor
open Go.RowKit Go.Shelf
attribute [local go_sem] max2_i min2_i max_two min_two

/-- How many bits. -/
def bl (a : Nat) : Nat := if a = 0 then 0 else 32 * (nl a - 1) + Lib.bitLen (gl (limbs a) (nl a - 1))
theorem pow32_top {a : Nat} (h : a ≠ 0) : a / 4294967296 ^ (nl a - 1) = gl (limbs a) (nl a - 1) := by
  rw [limbs_gl, Nat.mod_eq_of_lt]
  rw [Nat.div_lt_iff_lt_mul (Nat.pow_pos (by decide)), Nat.mul_comm, ← Nat.pow_succ]
  have := nl_lt a
  have := nl_pos.2 h
  rwa [show (nl a - 1).succ = nl a by omega]
theorem bl_top {a : Nat} (h : a ≠ 0) : ∃ L, bl a = 32 * (nl a - 1) + L ∧ 1 ≤ L ∧ 2 ^ (L - 1) ≤ a / 4294967296 ^ (nl a - 1) ∧ a / 4294967296 ^ (nl a - 1) < 2 ^ L := by
  have h1 := limbs_last a h
  have h2 := (lim_limbs a).gl (nl a - 1)
  rw [pow32_top h]
  refine ⟨Lib.bitLen (gl (limbs a) (nl a - 1)), by unfold bl; rw [if_neg h], ?_⟩
  exact Lib.bitLenAux_bounds 64 _ (Nat.lt_trans h2 (by decide)) h1
theorem bl_pos {a : Nat} (h : a ≠ 0) : 0 < bl a := by
  obtain ⟨L, e, h1, _⟩ := bl_top h
  omega
theorem bl_lt (a : Nat) : a < 2 ^ bl a := by
  by_cases h : a = 0
  · subst h; exact Nat.two_pow_pos _
  · obtain ⟨L, e, h1, h2, h3⟩ := bl_top h
    rw [e, Nat.pow_add, pow32, Nat.mul_comm]
    exact (Nat.div_lt_iff_lt_mul (Nat.pow_pos (by decide))).1 h3
theorem bl_ge {a : Nat} (h : a ≠ 0) : 2 ^ (bl a - 1) ≤ a := by
  obtain ⟨L, e, h1, h2, h3⟩ := bl_top h
  rw [e, show 32 * (nl a - 1) + L - 1 = 32 * (nl a - 1) + (L - 1) by omega, Nat.pow_add, pow32, Nat.mul_comm]
  exact (Nat.le_div_iff_mul_le (Nat.pow_pos (by decide))).1 h2
theorem bl_le (a : Nat) : bl a ≤ 32 * nl a := by
  by_cases h : a = 0
  · subst h; unfold bl; simp
  · have h1 := bl_ge h
    have h2 := nl_lt a
    rw [← pow32] at h2
    have := (Nat.pow_lt_pow_iff_right (by decide : 1 < 2)).1 (Nat.lt_of_le_of_lt h1 h2)
    omega
theorem bl_uniq {a n : Nat} (h1 : a < 2 ^ n) (h2 : 2 ^ n ≤ 2 * a) : bl a = n := by
  have h0 : a ≠ 0 := fun e => by subst e; have := Nat.two_pow_pos n; omega
  have h3 := bl_lt a
  have h4 := bl_ge h0
  have hp := bl_pos h0
  have h5 : 2 ^ bl a = 2 * 2 ^ (bl a - 1) := by rw [← Nat.pow_succ', show (bl a - 1).succ = bl a by omega]
  have h6 : bl a - 1 < n := (Nat.pow_lt_pow_iff_right (by decide : 1 < 2)).1 (Nat.lt_of_le_of_lt h4 h1)
  have h7 : n < bl a + 1 := (Nat.pow_lt_pow_iff_right (by decide : 1 < 2)).1 (by rw [Nat.pow_succ]; omega)
  omega
theorem bl_mul {a b : Nat} (ha : a ≠ 0) (hb : b ≠ 0) : bl (a * b) = bl a + bl b ∨ bl (a * b) + 1 = bl a + bl b := by
  have a1 := bl_lt a
  have a2 := bl_ge ha
  have a3 := bl_pos ha
  have b1 := bl_lt b
  have b2 := bl_ge hb
  have b3 := bl_pos hb
  have c1 : a * b < 2 ^ (bl a + bl b) := by rw [Nat.pow_add]; exact Nat.mul_lt_mul'' a1 b1
  have c2 : 2 ^ (bl a - 1 + (bl b - 1)) ≤ a * b := by rw [Nat.pow_add]; exact Nat.mul_le_mul a2 b2
  have e1 : 2 ^ (bl a + bl b - 1) = 2 * 2 ^ (bl a - 1 + (bl b - 1)) := by rw [← Nat.pow_succ']; congr 1; omega
  have e2 : 2 ^ (bl a + bl b) = 2 * 2 ^ (bl a + bl b - 1) := by rw [← Nat.pow_succ']; congr 1; omega
  by_cases h : 2 ^ (bl a + bl b - 1) ≤ a * b
  · exact .inl (bl_uniq c1 (by omega))
  · have := bl_uniq (a := a * b) (n := bl a + bl b - 1) (by omega) (by omega)
    exact .inr (by omega)
set_option maxRecDepth 100000 in
set_option maxHeartbeats 1000000 in
theorem bits_c (A : Option Addr) (c a : Nat) (w : World) (hA : NatV w A c a) (ha : nl a ≤ 1073741824) :
    Calls Tryd.prog 43 #[.slice A (nl a) c] w fun e w' => e = .returned (.int .i64 (bl a : Nat)) ∧ w' = w := by
  by_cases h : nl a = 0
  · have h0 : a = 0 := nl_eq_zero.1 h
    have hb : bl a = 0 := by unfold bl; rw [if_pos h0]
    rw [h, hb]
    go_enter Tryd.func43, Tryd.ntmps43
    go_wp2_with (fail)
    go_ret
    exact ⟨rfl, rfl⟩
  · obtain ⟨k, hk⟩ : ∃ k, nl a = k + 1 := ⟨nl a - 1, by omega⟩
    obtain ⟨ad, rfl, hcx⟩ := hA.rd.get k (by show k < nl a; omega)
    obtain ⟨x, hx⟩ : ∃ x, x = gl (limbs a) k := ⟨_, rfl⟩
    have hxl := (lim_limbs a).gl k
    rw [← hx] at hcx hxl
    have h1 : ((nl a : Int) == 0) = false := ieqF (by omega)
    have hkI : (nl a : Int) - 1 = (k : Int) := by omega
    have hkl : k < nl a := by omega
    obtain ⟨v, hv⟩ : ∃ v, v = Lib.bitLen x := ⟨_, rfl⟩
    have hvb : v ≤ 32 := by rw [hv]; exact Lib.bitLen_le x 32 (by decide) hxl
    have hb : bl a = 32 * k + v := by unfold bl; rw [if_neg (fun e => h (by rw [e, nl_zero])), hk, Nat.add_sub_cancel, ← hx, hv]
    have CL := len32_c x w hxl
    rw [← hv] at CL
    rw [hb]
    replace CL := Lib.hid CL
    replace hx := Lib.hid hx
    replace hv := Lib.hid hv
    clear h hk hb
    go_enter Tryd.func43, Tryd.ntmps43
    go_wp2_with (fail)
    refine CL.out.mono ?_
    rintro e w1 ⟨rfl, rfl⟩
    go_wp2_with (fail)
    go_ret
    exact ⟨by congr 1, rfl⟩
end Go.Proofs.YtfkagknikmibjaaDoor
