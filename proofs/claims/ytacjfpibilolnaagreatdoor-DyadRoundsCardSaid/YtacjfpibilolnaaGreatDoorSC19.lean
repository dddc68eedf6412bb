/- Division by school, walked. -/
import Derived.Test.YtacjfpibilolnaaGreatDoorSC18
import Derived.Test.YtacjfpibilolnaaGreatDoorSC15
import Derived.Test.YtacjfpibilolnaaGreatDoorSC08
import Derived.Test.YtacjfpibilolnaaGreatDoorSC11
import Derived.Test.YtacjfpibilolnaaGreatDoorSC12
import Derived.Deep.RegionHeld3
import Derived.IntWalk
set_option maxRecDepth 100000
set_option maxHeartbeats 4000000
set_option linter.unusedVariables false
set_option linter.unusedSimpArgs false
namespace Go.Proofs.YtacjfpibilolnaaGreatDoor
open Go.RowKit Go.Shelf
attribute [local go_sem] max2_i min2_i max_two min_two

theorem lz32_c (x : Nat) (w : World) (h : x < 4294967296) :
    Calls Tryz.prog 142 #[.int .u32 (x : Nat)] w fun e w' => e = .returned (.int .i64 ((32 - Lib.bitLen x : Nat) : Int)) ∧ w' = w := by
  have CL := len32_c x w h
  have hb := Lib.bitLen_le x 32 (by decide) h
  obtain ⟨v, hv⟩ : ∃ v, v = Lib.bitLen x := ⟨_, rfl⟩
  rw [← hv] at CL hb ⊢
  replace CL := Lib.hid CL
  replace hv := Lib.hid hv
  go_enter Tryz.func142, Tryz.ntmps142
  go_wp2_with (fail)
  refine CL.out.mono ?_
  rintro e w' ⟨rfl, hw⟩
  replace hw := hw.symm
  subst hw
  go_wp2_with (fail)
  go_ret
  exact ⟨ret_int (by omega), rfl⟩
/-- Shifted by the noughts at its top a natural keeps its length. -/
theorem nl_norm {b : Nat} (h : b ≠ 0) : nl (b * 2 ^ (32 - Lib.bitLen (gl (limbs b) (nl b - 1)))) = nl b := by
  have h1 := limbs_last b h
  have h2 := (lim_limbs b).gl (nl b - 1)
  obtain ⟨e1, e2, e3⟩ := Lib.bitLenAux_bounds 64 _ (Nat.lt_trans h2 (by decide)) h1
  have hb32 : Lib.bitLen (gl (limbs b) (nl b - 1)) ≤ 32 := Lib.bitLen_le _ 32 (by decide) h2
  have h3 : b / 4294967296 ^ (nl b - 1) = gl (limbs b) (nl b - 1) := pow32_top h
  change 1 ≤ Lib.bitLen (gl (limbs b) (nl b - 1)) at e1
  change gl (limbs b) (nl b - 1) < 2 ^ Lib.bitLen (gl (limbs b) (nl b - 1)) at e3
  have hp := nl_pos.2 h
  generalize Lib.bitLen (gl (limbs b) (nl b - 1)) = L at *
  refine Nat.le_antisymm ?_ (nl_mono (Nat.le_mul_of_pos_right _ (Nat.two_pow_pos _)))
  rw [nl_le]
  have h4 : b < 4294967296 ^ (nl b - 1) * 2 ^ L := by
    rw [Nat.mul_comm, ← Nat.div_lt_iff_lt_mul (Nat.pow_pos (by decide)), h3]; exact e3
  have h5 := Nat.mul_lt_mul_of_pos_right h4 (Nat.two_pow_pos (32 - L))
  rw [Nat.mul_assoc, ← Nat.pow_add, show L + (32 - L) = 32 by omega] at h5
  rw [show nl b = nl b - 1 + 1 by omega, Nat.pow_succ]
  simpa using h5
theorem A32.of {w : World} {b g n c : Nat} {L : List Nat} (h : w.ownsRow b 58 1 (.slice (some ⟨g, 0, none⟩) n c) n (vals L)) (hl : L.length = n) : A32 w g L ∧ b ≤ g := by
  rcases h.2 with ⟨e, _⟩ | ⟨g', cap, cur, e, h3, h4, h5, h6, h7, h8⟩
  · simp at e
  · simp only [Value.slice.injEq, Option.some.injEq, Addr.mk.injEq, and_true, true_and] at e
    obtain ⟨rfl, rfl⟩ := e
    refine ⟨⟨cur, h4, by omega, ?_⟩, h3⟩
    rw [hl]; simpa using h8
theorem A32.rd {W g X} (h : A32 W g X) : Rd W (some ⟨g, 0, none⟩) X := by
  refine .inr ⟨_, rfl, fun i u hu => ?_⟩
  have hi : i < X.length := by
    have := (List.getElem?_eq_some_iff.1 hu).1
    rwa [vals_length] at this
  have h1 := h.cell i hi
  rw [vals_get X i hi] at hu
  have e : (Addr.add ⟨g, 0, none⟩ i) = ⟨g, i, none⟩ := by simp only [Addr.add]; split <;> simp_all
  rw [e, h1, ← hu]
theorem far_of {w : World} {A : Option Addr} {c n g : Nat} (h : NatV w A c n) (hg : w.heap.size ≤ g) (hn : n ≠ 0) : ∀ ad, A = some ad → ad.block ≠ g := by
  rintro ad rfl
  obtain ⟨ad', e, hc⟩ := h.rd.get 0 (by show 0 < nl n; exact nl_pos.2 hn)
  cases e
  have h1 := World.block_lt_of_cell? w _ hc
  have h2 : (Addr.add ad 0).block = ad.block := by unfold Addr.add; split <;> rfl
  rw [h2] at h1
  omega
theorem wnd3 {X : List Nat} (hX : Lim X) (k n : Nat) : wnd X k (n + 2 + 1) = (gl X (k + n + 2) * 4294967296 * 4294967296 + gl X (k + n + 1) * 4294967296 + gl X (k + n)) * 4294967296 ^ n + wnd X k n := by
  have p1 : 4294967296 ^ (n + 1) = 4294967296 ^ n * 4294967296 := Nat.pow_succ _ _
  have p2 : 4294967296 ^ (n + 2) = 4294967296 ^ n * 4294967296 * 4294967296 := by rw [Nat.pow_succ, Nat.pow_succ]
  rw [wnd, wnd, wnd, p1, p2]
  rw [show k + (n + 2) = k + n + 2 by omega, show k + (n + 1) = k + n + 1 by omega]
  generalize 4294967296 ^ n = P
  grind
theorem nat2 {y n : Nat} (h : nl y = n + 2) : y = (gl (limbs y) (n + 1) * 4294967296 + gl (limbs y) n) * 4294967296 ^ n + wnd (limbs y) 0 n ∧ wnd (limbs y) 0 n < 4294967296 ^ n ∧ 0 < gl (limbs y) (n + 1) := by
  refine ⟨?_, wnd_lt (lim_limbs y) 0 n, ?_⟩
  · have h1 := wnd_val (limbs y) (n + 2) (by show nl y ≤ n + 2; omega)
    have p1 : 4294967296 ^ (n + 1) = 4294967296 ^ n * 4294967296 := Nat.pow_succ _ _
    rw [val_limbs, wnd, wnd, Nat.zero_add, Nat.zero_add, p1] at h1
    generalize wnd (limbs y) 0 n = v at *
    generalize gl (limbs y) n = p at *
    generalize gl (limbs y) (n + 1) = q at *
    generalize 4294967296 ^ n = P at *
    rw [← h1]
    clear h1 p1 h
    grind
  · have h1 := limbs_last y (fun e => by rw [e, nl_zero] at h; omega)
    rw [h] at h1
    exact Nat.pos_of_ne_zero h1
/-- The window at place k, and the row behind one step of division. -/
theorem step_row {M M' : List Nat} {y k n : Nat} (hM : Lim M) (hM' : Lim M') (hlt : val M < y * 4294967296 ^ (k + 1)) (hy : nl y = n) (hl : M'.length = M.length) (hkn : k + n + 1 ≤ M.length)
    (hout : ∀ j, j < k ∨ k + n < j → gl M' j = gl M j) (hw : wnd M' k (n + 1) = wnd M k (n + 1) % y) :
    wnd M k (n + 1) = val M / 4294967296 ^ k ∧ val M' = val M % 4294967296 ^ k + 4294967296 ^ k * (val M / 4294967296 ^ k % y) := by
  have hz : ∀ j, k + (n + 1) ≤ j → gl M j = 0 := fun j hj => by
    rw [val_gl hM, Nat.div_eq_of_lt, Nat.zero_mod]
    refine Nat.lt_of_lt_of_le hlt ?_
    have h1 := nl_lt y
    rw [hy] at h1
    refine Nat.le_trans (Nat.mul_le_mul_right _ (Nat.le_of_lt h1)) ?_
    rw [← Nat.pow_add]
    exact Nat.pow_le_pow_right (by decide) (by omega)
  have e1 := wnd_eq_div hM k (n + 1) hz
  refine ⟨e1, ?_⟩
  have hz' : ∀ j, k + (n + 1) ≤ j → gl M' j = 0 := fun j hj => by rw [hout j (by omega)]; exact hz j hj
  have e2 := wnd_eq_div hM' k (n + 1) hz'
  have e3 : val M' % 4294967296 ^ k = val M % 4294967296 ^ k := by
    rw [← val_take hM', ← val_take hM]
    congr 1
    apply List.ext_getElem?
    intro j
    by_cases hj : j < k
    · rw [List.getElem?_take_of_lt hj, List.getElem?_take_of_lt hj]
      have h1 := hout j (.inl hj)
      have hjl : j < M.length := by omega
      rw [gl_get hjl, gl_get (by omega)] at h1
      rw [List.getElem?_eq_getElem hjl, List.getElem?_eq_getElem (by omega), h1]
    · rw [List.getElem?_take_eq_none (by omega), List.getElem?_take_eq_none (by omega)]
  have h1 := Nat.div_add_mod (val M') (4294967296 ^ k)
  rw [← h1, e3, ← e2, hw, e1, Nat.add_comm]
theorem div_round {M M' Q : List Nat} {y k n a2 g : Nat} (hM : Lim M) (hM' : Lim M') (hlt : val M < y * 4294967296 ^ (k + 1)) (hy : nl y = n) (hl : M'.length = M.length) (hkn : k + n + 1 ≤ M.length)
    (hout : ∀ j, j < k ∨ k + n < j → gl M' j = gl M j) (hw : wnd M' k (n + 1) = wnd M k (n + 1) % y) (hsum : a2 = val Q * y + val M) (hQ : k < Q.length) (hz : ∀ j, j < k + 1 → gl Q j = 0) (hg : g = wnd M k (n + 1) / y) (hy0 : 0 < y) :
    val M' < y * 4294967296 ^ k ∧ a2 = val (Q.set k g) * y + val M' ∧ ∀ j, j < k → gl (Q.set k g) j = 0 := by
  obtain ⟨e1, e2⟩ := step_row hM hM' hlt hy hl hkn hout hw
  have hP : 0 < 4294967296 ^ k := Nat.pow_pos (by decide)
  have d1 := digit_less (V := val M) hy0 hP
  have d2 := digit_split (val M) y (4294967296 ^ k)
  rw [← e2] at d1 d2
  rw [← e1, ← hg] at d2
  have hs := val_set k g hQ
  rw [← gl_eq, hz k (by omega), Nat.mul_zero, Nat.add_zero] at hs
  refine ⟨d1, ?_, fun j hj => by rw [gl_set_ne (by omega)]; exact hz j (by omega)⟩
  rw [hs, hsum, d2]
  clear hs hsum d2 d1 e2 e1 hP hlt
  generalize 4294967296 ^ k = P
  grind
theorem row_zero {M : List Nat} {y k n : Nat} (hM : Lim M) (hlt : val M < y * 4294967296 ^ (k + 1)) (hy : nl y = n) : ∀ j, k + (n + 1) ≤ j → gl M j = 0 := fun j hj => by
  rw [val_gl hM, Nat.div_eq_of_lt, Nat.zero_mod]
  refine Nat.lt_of_lt_of_le hlt ?_
  have h1 := nl_lt y
  rw [hy] at h1
  refine Nat.le_trans (Nat.mul_le_mul_right _ (Nat.le_of_lt h1)) ?_
  rw [← Nat.pow_add]
  exact Nat.pow_le_pow_right (by decide) (by omega)
theorem top_le {W y x2 x1 x0 y1 y0 P wl yl : Nat} (hW : W = (x2 * 4294967296 * 4294967296 + x1 * 4294967296 + x0) * P + wl) (hy : y = (y1 * 4294967296 + y0) * P + yl) (hyl : yl < P) (h0 : y0 < 4294967296) (hlt : W < y * 4294967296) : x2 ≤ y1 := by
  apply Nat.le_of_not_lt
  intro h
  have h1 : (y1 * 4294967296 + y0 + 1) * P ≤ (x2 * 4294967296) * P := Nat.mul_le_mul_right _ (by omega)
  have h2 : (x2 * 4294967296 * 4294967296) * P ≤ (x2 * 4294967296 * 4294967296 + x1 * 4294967296 + x0) * P := Nat.mul_le_mul_right _ (by rw [Nat.add_assoc]; exact Nat.le_add_right _ _)
  rw [Nat.add_mul, Nat.one_mul] at h1
  have h3 : (x2 * 4294967296 * 4294967296) * P = (x2 * 4294967296) * P * 4294967296 := by grind
  omega
theorem Only.own {g b : Nat} {W W' : World} {q n c : Nat} {xs : List Value} (h : Only g W W') (k : W.ownsRow b 58 1 (.slice (some ⟨q, 0, none⟩) n c) n xs) (hq : q ≠ g) : W'.ownsRow b 58 1 (.slice (some ⟨q, 0, none⟩) n c) n xs := by
  rcases k with ⟨h1, ⟨h2, _⟩ | ⟨g', cap, cur, e, h3, h4, h5⟩⟩
  · simp at h2
  · have e2 := e
    simp only [Value.slice.injEq, Option.some.injEq, Addr.mk.injEq, and_true, true_and] at e2
    obtain ⟨rfl, _⟩ := e2
    exact ⟨h1, .inr ⟨_, cap, cur, e, h3, (h.block _ (Array.getElem?_eq_some_iff.1 h4).1 hq).trans h4, h5⟩⟩
theorem divmod2_c (A : Option Addr) (c a : Nat) (B : Option Addr) (d b : Nat) (w : World) (hA : NatV w A c a) (hB : NatV w B d b) (ha : nl a ≤ 16777216) (hb2 : 2 ≤ nl b) (hab : b ≤ a) :
    Calls Tryz.prog 131 #[.slice A (nl a) c, .slice B (nl b) d] w (RetQR w (a / b) (a % b)) := by
  have hba := nl_mono hab
  have hb0 : b ≠ 0 := fun e => by rw [e, nl_zero] at hb2; omega
  have ha0 : a ≠ 0 := by omega
  have t1 : ((nl b : Int) == 0) = false := ieqF (by omega)
  have t2 : ((nl b : Int) == 1) = false := ieqF (by omega)
  have t3 : decide (cmpN a b < 0) = false := by rw [decide_eq_false_iff_not, cmpN_neg]; omega
  have CC := cmp_c A c a B d b w hA hB (by omega) (by omega)
  obtain ⟨top, htop⟩ : ∃ z, z = gl (limbs b) (nl b - 1) := ⟨_, rfl⟩
  have htl : top < 4294967296 := by rw [htop]; exact (lim_limbs b).gl _
  obtain ⟨kb, hkb⟩ : ∃ k, nl b = k + 1 := ⟨nl b - 1, by omega⟩
  have hkbI : (nl b : Int) - 1 = (kb : Int) := by omega
  have hkbl : kb < nl b := by omega
  obtain ⟨bd, hbd, hcb⟩ := hB.rd.get kb (by show kb < nl b; omega)
  have hnorm := nl_norm hb0
  rw [← htop] at hnorm
  rw [show kb = nl b - 1 by omega, ← htop] at hcb
  rw [show nl b - 1 = kb by omega] at hcb
  subst hbd
  have CL := fun (W : World) => lz32_c top W htl
  have hbl : Lib.bitLen top ≤ 32 := Lib.bitLen_le top 32 (by decide) htl
  obtain ⟨s, hs⟩ : ∃ s, s = 32 - Lib.bitLen top := ⟨_, rfl⟩
  have hsl : s ≤ 32 := by omega
  rw [← hs] at hnorm CL
  obtain ⟨y, hy⟩ : ∃ y, y = b * 2 ^ s := ⟨_, rfl⟩
  rw [← hy] at hnorm
  obtain ⟨a2, ha2⟩ : ∃ z, z = a * 2 ^ s := ⟨_, rfl⟩
  have ha2l : nl a2 ≤ nl a + 1 := by
    rw [ha2, nl_le, Nat.pow_succ]
    exact Nat.mul_lt_mul_of_lt_of_le (nl_lt a) (by rw [show (4294967296 : Nat) = 2 ^ 32 from rfl]; exact Nat.pow_le_pow_right (by decide) hsl) (by decide)
  have ha2g : nl a ≤ nl a2 := by rw [ha2]; exact nl_mono (Nat.le_mul_of_pos_right _ (Nat.two_pow_pos _))
  have ha20 : a2 ≠ 0 := by rw [ha2]; exact Nat.mul_ne_zero ha0 (Nat.pos_iff_ne_zero.1 (Nat.two_pow_pos _))
  have hy0 : y ≠ 0 := fun e => by rw [e, nl_zero] at hnorm; omega
  obtain ⟨n, hn⟩ : ∃ n, nl y = n + 2 := ⟨nl y - 2, by omega⟩
  have hfit : a2 < y * 4294967296 ^ (nl a + 1 - nl b) := by
    rw [ha2, hy, Nat.mul_right_comm]
    refine Nat.mul_lt_mul_of_pos_right ?_ (Nat.two_pow_pos _)
    have h1 := nl_lt a
    have h2 := nl_ge hb0
    refine Nat.lt_of_lt_of_le h1 ?_
    refine Nat.le_trans ?_ (Nat.mul_le_mul_right _ h2)
    rw [← Nat.pow_add]; exact Nat.pow_le_pow_right (by decide) (by omega)
  replace CC := Lib.hid CC
  replace CL := Lib.hid CL
  replace htop := Lib.hid htop
  replace hkb := Lib.hid hkb
  replace hs := Lib.hid hs
  replace hy := Lib.hid hy
  replace ha2 := Lib.hid ha2
  replace hn := Lib.hid hn
  replace hfit := Lib.hid hfit
  replace hnorm := Lib.hid hnorm
  replace hb0 := Lib.hid hb0
  replace ha0 := Lib.hid ha0
  replace ha20 := Lib.hid ha20
  replace hy0 := Lib.hid hy0
  go_enter Tryz.func131, Tryz.ntmps131
  go_wp2_with (fail)
  refine CC.out.mono ?_
  rintro e W1 ⟨rfl, b1⟩
  replace hA := hA.below b1
  replace hB := hB.below b1
  replace hcb := cbl b1 hcb
  go_wp2_with (fail)
  refine (CL.out W1).mono ?_
  rintro e w' ⟨rfl, hww⟩
  replace hww := hww.symm
  subst hww
  have C1 := shl_e (some bd) d b (s : Int) s W1 hB (by omega) rfl (by omega)
  rw [← hy.out] at C1
  replace C1 := Lib.hid C1
  go_wp2_with (fail)
  refine C1.out.mono ?_
  rintro e W2 ⟨Y, cy, rfl, hY, b2⟩
  replace hA := hA.below b2
  replace b1 := Below.cons b1 b2
  have C2 := shl_o A c a s W2 hA (by omega) (by omega) ha0.out
  rw [← ha2.out] at C2
  replace C2 := Lib.hid C2
  go_wp2_with (fail)
  refine C2.out.mono ?_
  rintro e W3 ⟨vx, rfl, hx, b3⟩
  have hb2W := b2.size
  have hY3 : ∀ W, Below W2.heap.size W2 W → NatV W Y cy y := fun W hW => hY.below hW
  replace hY3 := Lib.hid hY3
  have hA3 : ∀ W, Below W2.heap.size W2 W → NatV W A c a := fun W hW => hA.below hW
  replace hA3 := Lib.hid hA3
  have hfarY := far_of hY (Nat.le_refl _) hy0.out
  have hbw := b1.size
  obtain ⟨i0, hi, hz0, hz1, hz2⟩ := info_parts info_u32
  go_wp2_with (fail)
  go_loopw [12] (fun v12 wr => ∃ (m : Nat) (L : List Nat), Below W2.heap.size W2 wr ∧ wr.ownsRow W2.heap.size 58 1 v12 m (vals L) ∧ Hid (L.length = m) ∧ Lim L ∧ Hid (val L = a2) ∧ nl a ≤ m ∧ m ≤ nl a + 1) (fun v12 wr => nl a + 1 - (match v12 with | .slice _ m _ => m | _ => 0))
  case atStart => exact ⟨nl a2, limbs a2, b3, hx, Lib.hid rfl, lim_limbs a2, Lib.hid (val_limbs a2), ha2g, ha2l⟩
  case round =>
    obtain ⟨m, L, hb, hown, hlen, hlim, hval, hm1, hm2⟩ := hrel
    obtain ⟨X, cx, rfl, hcx, hcm, hrd⟩ := ownV_rd hown
    by_cases hlt : m ≤ nl a
    · go_wp2_with (at_builtin; refine wpList_append_own_at _ rfl _ _ 22 rfl W2.heap.size 58 i0 (.int .u32 0) 1 4 Tryz.underlying22 hi hz0 hz1 hz2 rfl (by decide) _ (m) (vals L) rfl (hown.alloc _) ⟨wr.heap.size, 0, none⟩ 1 1 [.int .u32 0] rfl rfl (cell_one_new _ _ _) (by simp [Value.oneCell']) (by simp only [maxLen]; omega) (by omega) (by simp; have := hb.size; omega) ?_)
      intro v' w1 hown1 hg1 _ _
      have hown2 := Lib.hid hown1
      have hg2 := Lib.hid hg1
      obtain ⟨X', cx', hve, _, _, _⟩ := ownV_rd hown1
      clear hown1 hg1
      subst hve
      go_wp2_with (fail)
      go_roundw
      case rel =>
        refine ⟨m + 1, L ++ [0], ?_, ?_, Lib.hid (by simp [hlen.out]), hlim.append (Lim.one (by decide)), Lib.hid (by rw [val_snoc, hval.out]; simp), by omega, by omega⟩
        · exact (hb.alloc hb.size _).grown hg2.out (by simp; have := hb.size; omega) (fun k e => own_base' hown k e)
        · rw [vals_append]; exact hown2.out
      case measure => simp only; omega
    · have hm : m = nl a + 1 := by omega
      obtain ⟨g, hge⟩ : ∃ g, X = some ⟨g, 0, none⟩ := by
        rcases hown.2 with ⟨_, e⟩ | ⟨g, _, _, e, _⟩
        · omega
        · simp at e; exact ⟨g, e.1⟩
      subst hge
      obtain ⟨hA32, hgb⟩ := A32.of hown hlen.out
      have hfar := fun ad (e : Y = some ad) => (show ad.block ≠ g from fun h => by
        have h1 := far_of hY (Nat.le_refl _) hy0.out ad e
        obtain ⟨ad', e', hc⟩ := hY.rd.get 0 (by show 0 < nl y; rw [hn.out]; omega)
        subst e
        cases e'
        have h2 := World.block_lt_of_cell? W2 _ hc
        have h3 : (Addr.add ad 0).block = ad.block := by unfold Addr.add; split <;> rfl
        rw [h3] at h2
        omega)
      replace hfar := Lib.hid hfar
      obtain ⟨yd, hyd, _⟩ := hY.rd.get 0 (by show 0 < nl y; rw [hn.out]; omega)
      subst hyd
      have hy2 : 2 ≤ nl y := by rw [hn.out]; omega
      have hyal : nl y ≤ nl a := by rw [hnorm.out]; exact hba
      obtain ⟨N, hN⟩ : ∃ N, N = m - nl y := ⟨_, rfl⟩
      have eN : (m : Int) - (nl y : Int) = (N : Int) := by omega
      have hNm : N ≤ m := by omega
      have hmk := mk32 (N : Int) (N : Int) (by omega) (Int.le_refl _) (by omega)
      rw [Int.toNat_natCast] at hmk
      obtain ⟨q0, hq0⟩ : ∃ q0, q0 = wr.heap.size := ⟨_, rfl⟩
      have hgq : g < q0 := by rw [hq0]; exact hA32.lt
      have hWq : W2.heap.size ≤ q0 := by rw [hq0]; exact hb.size
      have hown0 := ownsMade32 wr wr.heap.size N (Nat.le_refl _) (by omega)
      have hbm : Below wr.heap.size wr (wr.alloc (.cells (madeCells #[.int .u32 0] N) 58)) := (Below.refl _ _).alloc (Nat.le_refl _) _
      have hA4 := hA32.below hbm
      have hb4 := Below.cons hb hbm
      have hfit2 : val L < y * 4294967296 ^ N := by
        rw [hval.out, hN, hm, hnorm.out]; exact hfit.out
      rw [← hq0] at hown0
      have tm : ¬ ((m : Int) ≤ (nl a : Int)) := by omega
      have tmN : ¬ (m ≤ nl a) := by omega
      replace hN := Lib.hid hN
      replace hm := Lib.hid hm
      replace hfit2 := Lib.hid hfit2
      clear hown hrd hlt hbm
      replace hq0 := Lib.hid hq0
      go_wp2_with (fail)
      rw [← hq0.out]
      go_loopw [15, 16] (fun v15 v16 wq => ∃ (k : Nat) (M Q : List Nat), v15 = .int .i64 ((k : Int) - 1) ∧ k ≤ N ∧ Below W2.heap.size W2 wq ∧ A32 wq g M ∧ Hid (M.length = m) ∧ Lim M ∧ wq.ownsRow q0 58 1 (.slice (some ⟨q0, 0, none⟩) N N) N (vals Q) ∧ Hid (Q.length = N) ∧ Lim Q ∧ Hid (val M < y * 4294967296 ^ k) ∧ Hid (a2 = val Q * y + val M) ∧ Hid (∀ j, j < k → gl Q j = 0)) (fun v15 v16 wq => (intOf v15 + 1).toNat)
      case atStart => exact ⟨N, L, List.replicate N 0, rfl, Nat.le_refl _, hb4, hA4, hlen, hlim, hown0, Lib.hid (by simp), Lim.replicate N 0 (by decide), hfit2, Lib.hid (by rw [val_replicate, hval.out]; simp), Lib.hid (fun j _ => by simp [gl, List.getD_eq_getElem?_getD, List.getElem?_replicate]; split <;> rfl)⟩
      case round =>
        clear hown0 hA4 hb4 hA32 hlim
        replace hb := Lib.hid hb
        obtain ⟨k, M, Q, rfl, hk, hbq, hM, hMlen, hMl, hown, hQlen, hQl, hlt, hsum, hzq⟩ := hrel
        have hYq := hY3.out _ hbq
        cases k with
        | zero =>
          have hv := hlt.out
          rw [Nat.pow_zero, Nat.mul_one] at hv
          have hsm := hsum.out
          have hfin : val Q = a / b ∧ val M / 2 ^ s = a % b := by
            rw [ha2.out, hy.out] at hsm
            rw [hy.out] at hv
            exact rest_shift hsm hv (Nat.pos_iff_ne_zero.2 hb0.out)
          obtain ⟨Xq, cq, e, hcq, hcqm, hrd⟩ := ownV_rd hown
          cases e
          have hmake := make_c (some ⟨q0, 0, none⟩) N N Q wr hQlen.out hrd hQl (by omega) (Nat.le_refl _)
          have HM1 := fun (W : World) (h : Below wr.heap.size wr W) => make_c (some ⟨g, 0, none⟩) m cx M W hMlen.out (hM.below h).rd hMl (by omega) hcx
          rw [hfin.1] at hmake
          have hnv : nl (val M) ≤ 1073741824 := by
            have : nl (val M) ≤ nl y := nl_mono (Nat.le_of_lt hv)
            omega
          replace hmake := Lib.hid hmake
          replace HM1 := Lib.hid HM1
          replace hfin := Lib.hid hfin
          clear hown hrd hv hsm hM hYq
          replace hbq := Lib.hid hbq
          go_wp2_with (fail)
          refine hmake.out.mono ?_
          rintro e W4 ⟨X4, c4, rfl, h4, b4⟩
          go_wp2_with (fail)
          refine (HM1.out W4 b4).mono ?_
          rintro e W5 ⟨X5, c5, rfl, h5, b5⟩
          have SH := shr_e X5 c5 (val M) (s : Int) s W5 h5 hnv rfl (by omega)
          rw [hfin.out.2] at SH
          replace SH := Lib.hid SH
          have h4' := h4.below b5
          go_wp2_with (fail)
          refine SH.out.mono ?_
          rintro e W6 ⟨X6, c6, rfl, h6, b6⟩
          have h4'' := h4'.below b6
          have hB6 := Below.cons (Below.cons (Below.cons hbq.out b4) b5) b6
          go_wp2_with (fail)
          exact bodyPost_ret (v := .tuple #[.slice X4 (nl (a / b)) c4, .slice X6 (nl (a % b)) c6, .int .i64 0]) (by simp [results, Tryz.results131, go_sem]) rfl ⟨X4, c4, X6, c6, rfl, h4'', h6, Below.cons b1 hB6⟩
        | succ k =>
          rw [show (((k + 1 : Nat) : Int) - 1) = (k : Int) by omega]
          obtain ⟨k2, hk2⟩ : ∃ z, z = k + nl y := ⟨_, rfl⟩
          have hn2 := hn.out
          obtain ⟨k1, hk1⟩ : ∃ z, z = k + n + 1 := ⟨_, rfl⟩
          obtain ⟨k0, hk0⟩ : ∃ z, z = k + n := ⟨_, rfl⟩
          obtain ⟨n1, hn1⟩ : ∃ z, z = n + 1 := ⟨_, rfl⟩
          have hkm : k2 < m := by have := hN.out; omega
          have hm32 : m ≤ 16777217 := by omega
          have h2M : k2 < M.length := by rw [hMlen.out]; exact hkm
          have c2 := hM.cell k2 h2M
          have c1 := hM.cell k1 (by omega)
          have c0 := hM.cell k0 (by omega)
          obtain ⟨_, e, d1⟩ := hYq.rd.get n1 (by show n1 < nl y; omega)
          cases e
          obtain ⟨_, e, d0⟩ := hYq.rd.get n (by show n < nl y; omega)
          cases e
          have hx2 := hMl.gl k2
          have hx1 := hMl.gl k1
          have hx0 := hMl.gl k0
          have hy1 := (lim_limbs y).gl n1
          have hy0' := (lim_limbs y).gl n
          have N2 := nat2 hn2
          have W3' := wnd3 hMl k n
          have hltW : wnd M k (n + 2 + 1) < y * 4294967296 := by
            have h1 := wnd_eq_div hMl k (n + 2 + 1) (row_zero hMl hlt.out hn2)
            rw [h1, Nat.div_lt_iff_lt_mul (Nat.pow_pos (by decide)), Nat.mul_assoc, ← Nat.pow_succ']
            exact hlt.out
          rw [← hn1] at N2
          rw [show k + n + 2 = k2 by omega, ← hk1, ← hk0] at W3'
          obtain ⟨x2, ex2⟩ : ∃ z, z = gl M k2 := ⟨_, rfl⟩
          obtain ⟨x1, ex1⟩ : ∃ z, z = gl M k1 := ⟨_, rfl⟩
          obtain ⟨x0, ex0⟩ : ∃ z, z = gl M k0 := ⟨_, rfl⟩
          obtain ⟨y1, ey1⟩ : ∃ z, z = gl (limbs y) n1 := ⟨_, rfl⟩
          obtain ⟨y0, ey0⟩ : ∃ z, z = gl (limbs y) n := ⟨_, rfl⟩
          rw [← ex2] at c2 hx2 W3'
          rw [← ex1] at c1 hx1 W3'
          rw [← ex0] at c0 hx0 W3'
          rw [← ey1] at d1 hy1 N2
          rw [← ey0] at d0 hy0' N2
          have DG := dig3_ok W3' N2.1 (wnd_lt hMl k n) N2.2.1 N2.2.2 hltW
          have TL := top_le W3' N2.1 N2.2.1 hy0' hltW
          have GL := dig3_lt x2 x1 x0 y1 y0
          have GC := fun (W : World) => guess_c x2 x1 x0 y1 y0 W hx2 hx1 hx0 hy1 hy0' N2.2.2 TL
          obtain ⟨gg, hgg⟩ : ∃ z, z = dig3 x2 x1 x0 y1 y0 := ⟨_, rfl⟩
          rw [← hgg] at DG GL GC
          have w2 : IntKind.i64.wrap ((k : Int) + (nl y : Int)) = (k2 : Int) := by rw [IntWalk.i64_in _ (by omega)]; omega
          have w1 : IntKind.i64.wrap ((k2 : Int) - 1) = (k1 : Int) := by rw [IntWalk.i64_in _ (by omega)]; omega
          have w0 : IntKind.i64.wrap ((k2 : Int) - 2) = (k0 : Int) := by rw [IntWalk.i64_in _ (by omega)]; omega
          have v1 : IntKind.i64.wrap ((nl y : Int) - 1) = (n1 : Int) := by rw [IntWalk.i64_in _ (by omega)]; omega
          have v0 : IntKind.i64.wrap ((nl y : Int) - 2) = (n : Int) := by rw [IntWalk.i64_in _ (by omega)]; omega
          have p2 : (k : Int) + (nl y : Int) = (k2 : Int) := by omega
          have p1 : (k2 : Int) - 1 = (k1 : Int) := by omega
          have p0 : (k2 : Int) - 2 = (k0 : Int) := by omega
          have r1 : (nl y : Int) - 1 = (n1 : Int) := by omega
          have r0 : (nl y : Int) - 2 = (n : Int) := by omega
          have hk1m : k1 < m := by omega
          have hk0m : k0 < m := by omega
          have hn1y : n1 < nl y := by omega
          have hny : n < nl y := by omega
          have zk2 : (0 : Int) ≤ (k2 : Int) := by omega
          have lk2 : (k2 : Int) < (m : Int) := by omega
          have wwk2 : IntKind.i64.wrap (k2 : Int) = (k2 : Int) := IntWalk.i64_in _ (by omega)
          have zk1 : (0 : Int) ≤ (k1 : Int) := by omega
          have lk1 : (k1 : Int) < (m : Int) := by omega
          have wwk1 : IntKind.i64.wrap (k1 : Int) = (k1 : Int) := IntWalk.i64_in _ (by omega)
          have zk0 : (0 : Int) ≤ (k0 : Int) := by omega
          have lk0 : (k0 : Int) < (m : Int) := by omega
          have wwk0 : IntKind.i64.wrap (k0 : Int) = (k0 : Int) := IntWalk.i64_in _ (by omega)
          have zn1 : (0 : Int) ≤ (n1 : Int) := by omega
          have ln1 : (n1 : Int) < (nl y : Int) := by omega
          have wwn1 : IntKind.i64.wrap (n1 : Int) = (n1 : Int) := IntWalk.i64_in _ (by omega)
          have zn : (0 : Int) ≤ (n : Int) := by omega
          have ln : (n : Int) < (nl y : Int) := by omega
          have wwn : IntKind.i64.wrap (n : Int) = (n : Int) := IntWalk.i64_in _ (by omega)
          replace GC := Lib.hid GC
          replace hgg := Lib.hid hgg
          replace ex2 := Lib.hid ex2
          replace ex1 := Lib.hid ex1
          replace ex0 := Lib.hid ex0
          replace ey1 := Lib.hid ey1
          replace ey0 := Lib.hid ey0
          replace DG := Lib.hid DG
          replace N2 := Lib.hid N2
          replace W3' := Lib.hid W3'
          replace hltW := Lib.hid hltW
          have HK2 := Lib.hid hk2
          have HK1 := Lib.hid hk1
          have HK0 := Lib.hid hk0
          have HN1 := Lib.hid hn1
          clear hk2 hk1 hk0 hn1 hn2
          have hdV := (Below.refl wr.heap.size wr).drew
          have a2' := cbl hdV c2
          have a1' := cbl hdV c1
          have a0' := cbl hdV c0
          have b1' := cbl hdV d1
          have b0' := cbl hdV d0
          go_wp2_with (fail)
          go_region_held3 (fun W => W.cell? ⟨g, k2, none⟩ = some (.int .u32 (x2 : Nat)) ∧ W.cell? ⟨g, k1, none⟩ = some (.int .u32 (x1 : Nat)) ∧ W.cell? ⟨g, k0, none⟩ = some (.int .u32 (x0 : Nat)) ∧ W.cell? (yd.add n1) = some (.int .u32 (y1 : Nat)) ∧ W.cell? (yd.add n) = some (.int .u32 (y0 : Nat)))
            (first
              | exact ⟨a2', a1', a0', b1', b0'⟩
              | exact ⟨cell_below hbG a2', cell_below hbG a1', cell_below hbG a0', cell_below hbG b1', cell_below hbG b0'⟩
              | go_keep)
            ((go_at_call 143; (with_reducible refine (GC.out _).mono ?_); rintro e W4 ⟨rfl, hbG⟩))
          clear w2 w1 w0 v1 v0 wwk2 wwk1 wwk0 wwn1 wwn a2' a1' a0' b1' b0' c2 c1 c0 d1 d0 p1 p0 r1 r0
          have hbW := hdV.cons hbG
          have hMW := hM.below hbW
          have hoW := own_below hown hbW
          have hBW := Below.cons hbq hbW
          clear hM hown hbq hYq hdV hbG
          obtain ⟨k3, hk3⟩ : ∃ z, z = k2 + 1 := ⟨_, rfl⟩
          have p3 : (k2 : Int) + 1 = (k3 : Int) := by omega
          have hk3m : k3 ≤ m := by omega
          have hk3c : k3 ≤ cx := by omega
          have hkk3 : k ≤ k3 := by have := HK2.out; omega
          have h3k : k3 - k = nl y + 1 := by have := HK2.out; omega
          have TK := take_c g k (nl y) (cx - k) M (some yd) cy y gg W4 hMW hMl (by rw [hMlen.out]; have := HK2.out; omega) (by rw [hMlen.out]; omega) (by have := HK2.out; omega) (hY3.out _ hBW) rfl hfar.out GL
          replace TK := Lib.hid TK
          replace hk3 := Lib.hid hk3
          clear hMW
          go_wp2_with (fail)
          refine TK.out.mono ?_
          rintro e W5 ⟨M1, br, rfl, hbr, ho5, hM5, hM5l, hM5len, hM5out, hM5w⟩
          have DG1 := DG.out
          rw [← hn.out] at DG1
          have hown5 := ho5.own hoW (by omega)
          have hb5 := hBW.trans (ho5.below hgb hBW.size)
          have hY5 := hY3.out _ hb5
          have hlen5 := hM5len.trans hMlen.out
          have hyP : y ≤ 4294967296 ^ (nl y + 1) := Nat.le_of_lt (Nat.lt_of_lt_of_le (nl_lt y) (Nat.pow_le_pow_right (by decide) (by omega)))
          have hkN : k < N := by omega
          by_cases h0 : br = 0
          · have hfin := take_fin0 (by rw [hM5w, h0, Nat.mul_zero, Nat.add_zero]) DG1.1 (Nat.pos_iff_ne_zero.2 hy0.out)
            have DR := div_round hMl hM5l hlt.out rfl hM5len (by rw [hMlen.out]; have := HK2.out; omega) hM5out hfin.2 hsum.out (by rw [hQlen.out]; omega) hzq.out hfin.1 (Nat.pos_iff_ne_zero.2 hy0.out)
            replace DR := Lib.hid DR
            replace hlen5 := Lib.hid hlen5
            subst h0
            have hcq : W5.cell? ⟨q0, k, none⟩ = some (.int .u32 (gl Q k : Nat)) := by rw [hown5.cellAt k (by omega), vals_get Q _ (by rw [hQlen.out]; omega)]
            have hfo := hown5.frozenAt k
            have hst := hown5.stored k (.int .u32 ((gg : Nat) : Int))
            have hAst := hM5.other (Only.set q0 W5 k (.int .u32 ((gg : Nat) : Int))) (by omega)
            have hbst := hb5.setCell (p := ⟨q0, k, none⟩) hWq (.int .u32 ((gg : Nat) : Int))
            clear hM5w hfin DG1 hyP hM5out hM5len
            go_wp2_with (fail)
            go_roundw
            case rel => exact ⟨k, M1, Q.set k gg, rfl, by omega, hbst, hAst, hlen5, hM5l, by rw [vals_set]; exact hst.1, Lib.hid (by rw [List.length_set]; exact hQlen.out), hQl.set _ _ GL, Lib.hid DR.out.1, Lib.hid DR.out.2.1, Lib.hid DR.out.2.2⟩
            case measure => simp only [intOf]; omega
          · have h1 : br = 1 := by omega
            subst h1
            rw [Nat.mul_one] at hM5w
            have hg1 : 1 ≤ gg := by
              rcases Nat.eq_zero_or_pos gg with h | h
              · rw [h, Nat.zero_mul] at hM5w
                have := wnd_lt hM5l k (nl y + 1)
                omega
              · exact h
            obtain ⟨g2, hg2⟩ : ∃ z, z = gg - 1 := ⟨_, rfl⟩
            have hg2I : (gg : Int) - 1 = (g2 : Int) := by omega
            have hg2l : g2 < 4294967296 := by omega
            have BK := back_c g k (nl y) (cx - k) M1 (some yd) cy y W5 hM5 hM5l (by rw [hlen5]; have := HK2.out; omega) (by rw [hlen5]; omega) (by have := HK2.out; omega) hY5 rfl hfar.out
            replace BK := Lib.hid BK
            replace hg2 := Lib.hid hg2
            replace hM5w := Lib.hid hM5w
            replace hM5out := Lib.hid hM5out
            replace hM5len := Lib.hid hM5len
            replace hlen5 := Lib.hid hlen5
            replace DG1 := Lib.hid DG1
            replace hyP := Lib.hid hyP
            clear hM5 hoW h0
            go_wp2_with (fail)
            refine BK.out.mono ?_
            rintro e W6 ⟨M2, cc, rfl, ho6, hM6, hM6l, hM6len, hM6out, hM6w⟩
            have hfin := take_fin1 hM5w.out (wnd_lt hM5l k (nl y + 1)) DG1.out.2 hM6w (wnd_lt hM6l k (nl y + 1)) hyP.out (Nat.pos_iff_ne_zero.2 hy0.out)
            rw [← hg2.out] at hfin
            have DR := div_round hMl hM6l hlt.out rfl (hM6len.trans hM5len.out) (by rw [hMlen.out]; have := HK2.out; omega) (fun j hj => (hM6out j hj).trans (hM5out.out j hj)) hfin.2.2 hsum.out (by rw [hQlen.out]; omega) hzq.out hfin.2.1 (Nat.pos_iff_ne_zero.2 hy0.out)
            replace DR := Lib.hid DR
            have hlen6 := Lib.hid (hM6len.trans hlen5.out)
            have hown6 := ho6.own hown5 (by omega)
            have hb6 := hb5.trans (ho6.below hgb hb5.size)
            have hcq : W6.cell? ⟨q0, k, none⟩ = some (.int .u32 (gl Q k : Nat)) := by rw [hown6.cellAt k (by omega), vals_get Q _ (by rw [hQlen.out]; omega)]
            have hfo := hown6.frozenAt k
            have hst := hown6.stored k (.int .u32 ((g2 : Nat) : Int))
            have hAst := hM6.other (Only.set q0 W6 k (.int .u32 ((g2 : Nat) : Int))) (by omega)
            have hbst := hb6.setCell (p := ⟨q0, k, none⟩) hWq (.int .u32 ((g2 : Nat) : Int))
            clear hM6w hfin hM6out hM6len hown5 hb5
            go_wp2_with (fail)
            go_roundw
            case rel => exact ⟨k, M2, Q.set k g2, rfl, by omega, hbst, hAst, hlen6, hM6l, by rw [vals_set]; exact hst.1, Lib.hid (by rw [List.length_set]; exact hQlen.out), hQl.set _ _ hg2l, Lib.hid DR.out.1, Lib.hid DR.out.2.1, Lib.hid DR.out.2.2⟩
            case measure => simp only [intOf]; omega
end Go.Proofs.YtacjfpibilolnaaGreatDoor
