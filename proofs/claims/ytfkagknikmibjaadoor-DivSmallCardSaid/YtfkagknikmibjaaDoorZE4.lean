/- Division, walked: all ways. -/
import Derived.Test.YtfkagknikmibjaaDoorZE3
import Derived.Test.YtfkagknikmibjaaDoorZE2
import Derived.Test.YtfkagknikmibjaaDoorZC5
set_option linter.unusedVariables false
set_option linter.unusedSimpArgs false
namespace Go.Proofs.YtfkagknikmibjaaDoor
open Go.RowKit Go.Shelf
attribute [local go_sem] max2_i min2_i max_two min_two

set_option maxRecDepth 100000 in
set_option maxHeartbeats 1000000 in
theorem dsmallZ_c (A : Option Addr) (c n : Nat) (w : World) :
    Calls Tryd.prog 22 #[.slice A n c, .int .u32 0] w (RetSZ w) := by
  have b1 : Below w.heap.size w (w.alloc (.cells #[.int .u32 0] 23)) := (Below.refl _ _).alloc (Nat.le_refl _) _
  go_enter Tryd.func22, Tryd.ntmps22
  go_wp2_with (fail)
  exact bodyPost_ret (v := .tuple #[.slice none 0 0, .int .u32 0, .int .i64 3]) (by simp [results, Tryd.results22, go_sem]) rfl ⟨rfl, b1⟩
set_option maxRecDepth 100000 in
set_option maxHeartbeats 1000000 in
theorem ddivZ_c (A : Option Addr) (c n : Nat) (B : Option Addr) (d : Nat) (w : World) :
    Calls Tryd.prog 16 #[.slice A n c, .slice B 0 d] w (RetQZ w) := by
  go_enter Tryd.func16, Tryd.ntmps16
  go_wp2_with (fail)
  exact bodyPost_ret (v := .tuple #[.slice none 0 0, .slice none 0 0, .int .i64 3]) (by simp [results, Tryd.results16, go_sem]) rfl ⟨rfl, Below.refl _ _⟩
set_option maxRecDepth 100000 in
set_option maxHeartbeats 1000000 in
theorem ddivLt_c (A : Option Addr) (c a : Nat) (B : Option Addr) (d b : Nat) (w : World) (hA : NatV w A c a) (hB : NatV w B d b) (ha : nl a ≤ 16777216) (hb : nl b ≤ 16777216) (hab : a < b) :
    Calls Tryd.prog 16 #[.slice A (nl a) c, .slice B (nl b) d] w (RetQR w (a / b) (a % b)) := by
  have hb0 : b ≠ 0 := by omega
  have hbp := nl_pos.2 hb0
  have t1 : ((nl b : Int) == 0) = false := ieqF (by omega)
  have t3 : decide (cmpN a b < 0) = true := by rw [decide_eq_true_eq, cmpN_neg]; exact hab
  have CC := cmp_c A c a B d b w hA hB (by omega) (by omega)
  rw [Nat.div_eq_of_lt hab, Nat.mod_eq_of_lt hab]
  replace CC := Lib.hid CC
  go_enter Tryd.func16, Tryd.ntmps16
  go_wp2_with (fail)
  refine CC.out.mono ?_
  rintro e W1 ⟨rfl, b1⟩
  have hA1 := hA.below b1
  go_wp2_with (fail)
  exact bodyPost_ret (v := .tuple #[.slice none 0 0, .slice A (nl a) c, .int .i64 0]) (by simp [results, Tryd.results16, go_sem]) rfl ⟨none, 0, A, c, by rw [nl_zero], ⟨by rw [limbs_zero]; exact Rd.nil, by rw [nl_zero]; exact Nat.le_refl _, by decide⟩, hA1, b1⟩
theorem limb_one {b : Nat} (h : nl b = 1) : gl (limbs b) 0 = b ∧ b < 4294967296 := by
  have h1 := nl_lt b
  rw [h, Nat.pow_one] at h1
  rw [limbs_gl, Nat.pow_zero, Nat.div_one]
  exact ⟨Nat.mod_eq_of_lt h1, h1⟩
set_option maxRecDepth 100000 in
set_option maxHeartbeats 1000000 in
theorem make1_c (W : World) (s m : Nat) (h : W.heap[s]? = some (.cells #[.int .u32 (m : Nat)] 23 (0, 0))) (hm : m < 4294967296) :
    Calls Tryd.prog 36 #[.slice (some ⟨s, 0, none⟩) 1 1] W (RetN W m) := by
  have := make_c (some ⟨s, 0, none⟩) 1 1 [m] W rfl (rd_one W s m h) (Lim.one hm) (by decide) (Nat.le_refl _)
  rwa [show val [m] = m by simp [val]] at this
set_option maxRecDepth 100000 in
set_option maxHeartbeats 1000000 in
theorem ddiv1_c (A : Option Addr) (c a : Nat) (B : Option Addr) (d b : Nat) (w : World) (hA : NatV w A c a) (hB : NatV w B d b) (ha : nl a ≤ 16777216) (hb : nl b = 1) (hab : b ≤ a) :
    Calls Tryd.prog 16 #[.slice A (nl a) c, .slice B (nl b) d] w (RetQR w (a / b) (a % b)) := by
  have hb0 : 0 < b := Nat.pos_of_ne_zero (fun e => by rw [e, nl_zero] at hb; omega)
  obtain ⟨hl, hb32⟩ := limb_one hb
  have t3 : decide (cmpN a b < 0) = false := by rw [decide_eq_false_iff_not, cmpN_neg]; omega
  have CC := cmp_c A c a B d b w hA hB (by omega) (by omega)
  obtain ⟨bd, rfl, hcb⟩ := hB.rd.get 0 (by show 0 < nl b; omega)
  rw [hl] at hcb
  rw [hb] at CC ⊢
  obtain ⟨r, hr⟩ : ∃ r, r = a % b := ⟨_, rfl⟩
  have hr32 : r < 4294967296 := by rw [hr]; exact Nat.lt_trans (Nat.mod_lt _ hb0) hb32
  rw [← hr]
  replace CC := Lib.hid CC
  go_enter Tryd.func16, Tryd.ntmps16
  go_wp2_with (fail)
  refine CC.out.mono ?_
  rintro e W1 ⟨rfl, b1⟩
  have hA1 := hA.below b1
  replace hcb := cell_below b1 hcb
  have hcb0 : W1.cell? bd = some (.int .u32 (b : Nat)) := by
    have e : bd.add 0 = bd := by first | exact Addr.add_zero _ | (cases bd; simp [Addr.add]; try (split <;> simp)) | rfl
    rwa [e] at hcb
  have CS := dsmall_c A c a b W1 hA1 ha hb32 hb0
  rw [← hr] at CS
  replace hr := Lib.hid hr
  replace CS := Lib.hid CS
  go_wp2_with (fail)
  refine CS.out.mono ?_
  rintro e W2 ⟨X, cx, rfl, h1, b2⟩
  have b3 : Below W2.heap.size W2 (W2.alloc (.cells #[.int .u32 (r : Nat)] 23)) := (Below.refl _ _).alloc (Nat.le_refl _) _
  have CM := make1_c _ _ r (heap_alloc_new W2 (.cells #[.int .u32 (r : Nat)] 23)) hr32
  have hX := h1.below b3
  replace CM := Lib.hid CM
  go_wp2_with (fail)
  refine CM.out.mono ?_
  rintro e W4 ⟨Y, cy, rfl, h2, b4⟩
  go_wp2_with (fail)
  exact bodyPost_ret (v := .tuple #[.slice X (nl (a / b)) cx, .slice Y (nl r) cy, .int .i64 0]) (by simp [results, Tryd.results16, go_sem]) rfl ⟨X, cx, Y, cy, rfl, hX.below b4, h2, ((b1.cons b2).cons b3).cons b4⟩
/-- div.DivMod, whole. -/
theorem ddivmod_c (A : Option Addr) (c a : Nat) (B : Option Addr) (d b : Nat) (w : World) (hA : NatV w A c a) (hB : NatV w B d b) (ha : nl a ≤ 16777216) (hb : nl b ≤ 16777216) (hb0 : 0 < b) :
    Calls Tryd.prog 16 #[.slice A (nl a) c, .slice B (nl b) d] w (RetQR w (a / b) (a % b)) := by
  rcases Nat.lt_or_ge a b with h | h
  · exact ddivLt_c A c a B d b w hA hB ha hb h
  · have hp := nl_pos.2 (show b ≠ 0 by omega)
    by_cases h1 : nl b = 1
    · exact ddiv1_c A c a B d b w hA hB ha h1 h
    · exact divmod2_c A c a B d b w hA hB ha (by omega) h
end Go.Proofs.YtfkagknikmibjaaDoor

/- A reciprocal, walked. -/
set_option linter.unusedVariables false
set_option linter.unusedSimpArgs false
namespace Go.Proofs.YtfkagknikmibjaaDoor
open Go.RowKit Go.Shelf
attribute [local go_sem] max2_i min2_i max_two min_two

set_option maxRecDepth 100000 in
set_option maxHeartbeats 1000000 in
theorem drecipZ_c (B : Option Addr) (d b n : Nat) (w : World) (hB : NatV w B d b) (h0 : b = 0) (hn : n ≤ 16777216) :
    Calls Tryd.prog 20 #[.slice B (nl b) d, .int .i64 (n : Nat)] w (RetZe w) := by
  have CB := bits_c B d b w hB (by rw [h0, nl_zero]; decide)
  rw [h0, show bl 0 = 0 from by simp [bl, nl_zero]] at CB
  have C1 := fun (W : World) => done_c W
  rw [h0]
  replace CB := Lib.hid CB
  replace C1 := Lib.hid C1
  go_enter Tryd.func20, Tryd.ntmps20
  go_wp2_with (fail)
  refine CB.out.mono ?_
  rintro e W1 ⟨rfl, rfl⟩
  go_wp2_with (fail)
  refine (C1.out _).mono ?_
  rintro e W2 ⟨X, cx, rfl, k1, b1⟩
  have C2 := shl_e X cx 1 (n : Int) n W2 k1 (by rw [nl_one]; decide) rfl (by omega)
  replace C2 := Lib.hid C2
  go_wp2_with (fail)
  refine C2.out.mono ?_
  rintro e W3 ⟨Y, cy, rfl, k2, b2⟩
  go_wp2_with (fail)
  exact bodyPost_ret (v := .tuple #[.slice none 0 0, .int .i64 3]) (by simp [results, Tryd.results20, go_sem]) rfl ⟨rfl, b1.cons b2⟩
set_option maxRecDepth 100000 in
set_option maxHeartbeats 1000000 in
theorem drecip0_c (B : Option Addr) (d b n : Nat) (w : World) (hB : NatV w B d b) (h0 : 0 < b) (hb : nl b ≤ 1048576) (hn : n ≤ 16777216) (hs : n < bl b + 100) :
    Calls Tryd.prog 20 #[.slice B (nl b) d, .int .i64 (n : Nat)] w (RetQe w (2 ^ n / b)) := by
  have CB := bits_c B d b w hB (by omega)
  have hbl0 : bl b ≠ 0 := by
    intro e
    have := bl_lt b
    rw [e] at this
    omega
  obtain ⟨k, hk⟩ : ∃ k, k = bl b := ⟨_, rfl⟩
  rw [← hk] at CB hbl0 hs
  have hkl : k ≤ 33554432 := by rw [hk]; have := bl_le b; omega
  have t1 : ((k : Int) == 0) = false := ieqF (by omega)
  have t2 : decide ((n : Int) - (k : Int) < 100) = true := by simp; omega
  have t3 : (n : Int) - (k : Int) < 100 := by omega
  have C1 := fun (W : World) => done_c W
  obtain ⟨p, hp⟩ : ∃ z, z = 2 ^ n := ⟨_, rfl⟩
  have hpl : nl p ≤ n / 32 + 1 := by rw [hp, nl_two_pow]; exact Nat.le_refl _
  rw [← hp]
  replace hp := Lib.hid hp
  replace hk := Lib.hid hk
  replace CB := Lib.hid CB
  replace C1 := Lib.hid C1
  go_enter Tryd.func20, Tryd.ntmps20
  go_wp2_with (fail)
  refine CB.out.mono ?_
  rintro e W1 ⟨rfl, rfl⟩
  go_wp2_with (fail)
  refine (C1.out _).mono ?_
  rintro e W2 ⟨X, cx, rfl, k1, b1⟩
  have C2 := shl_e X cx 1 (n : Int) n W2 k1 (by rw [nl_one]; decide) rfl (by omega)
  rw [Nat.one_mul, ← hp.out] at C2
  have hB2 := hB.below b1
  replace C2 := Lib.hid C2
  go_wp2_with (fail)
  refine C2.out.mono ?_
  rintro e W3 ⟨Y, cy, rfl, k2, b2⟩
  have C3 := ddivmod_c Y cy p B d b W3 k2 (hB2.below b2) (by omega) (by omega) h0
  replace C3 := Lib.hid C3
  go_wp2_with (fail)
  refine C3.out.mono ?_
  rintro e W4 ⟨Z, cz, R, cr, rfl, k3, k4, b3⟩
  go_wp2_with (fail)
  exact bodyPost_ret (v := .tuple #[.slice Z (nl (p / b)) cz, .int .i64 0]) (by simp [results, Tryd.results20, go_sem]) rfl ⟨Z, cz, rfl, k3, (b1.cons b2).cons b3⟩
theorem top_bits {b k t : Nat} (hb : b ≠ 0) (hk : bl b = k) (ht : t ≤ k) (h1 : 1 ≤ t) : bl (b / 2 ^ (k - t)) = t := by
  apply bl_uniq
  · rw [Nat.div_lt_iff_lt_mul (Nat.two_pow_pos _), ← Nat.pow_add, show t + (k - t) = k by omega, ← hk]
    exact bl_lt b
  · have h2 := bl_ge hb
    rw [hk] at h2
    have h3 : 2 ^ (t - 1) ≤ b / 2 ^ (k - t) := by
      rw [Nat.le_div_iff_mul_le (Nat.two_pow_pos _), ← Nat.pow_add, show t - 1 + (k - t) = k - 1 by omega]
      exact h2
    have h4 : 2 ^ t = 2 * 2 ^ (t - 1) := by rw [← Nat.pow_succ']; congr 1; omega
    omega
theorem recip_le {b t h : Nat} (hb : b ≠ 0) (ht : bl b = t) : 2 ^ (t + h) / b ≤ 2 ^ (h + 1) := by
  have h2 := bl_ge hb
  have h3 : 0 < t := by rw [← ht]; exact bl_pos hb
  rw [ht] at h2
  refine Nat.le_trans (Nat.div_le_div_left h2 (Nat.two_pow_pos _)) ?_
  rw [show t + h = (h + 1) + (t - 1) by omega, Nat.pow_add, Nat.mul_div_cancel _ (Nat.two_pow_pos _)]
  exact Nat.le_refl _
theorem nl_two {a n : Nat} (h : a ≤ 2 ^ n) : nl a ≤ n / 32 + 1 := by
  refine Nat.le_trans (nl_mono h) ?_
  rw [nl_two_pow]
  exact Nat.le_refl _
set_option maxRecDepth 100000 in
set_option maxHeartbeats 4000000 in
theorem drecip_c (N : Nat) : ∀ (B : Option Addr) (d b n : Nat) (w : World), NatV w B d b → 0 < b → nl b ≤ 1048576 → n ≤ 200000 → Flds w → n - bl b ≤ N →
    Calls Tryd.prog 20 #[.slice B (nl b) d, .int .i64 (n : Nat)] w (RetQe w (2 ^ n / b)) := by
  induction N using Nat.strongRecOn with
  | _ N ih =>
  intro B d b n w hB h0 hb hn hG hN
  by_cases hs : n < bl b + 100
  · exact drecip0_c B d b n w hB h0 hb (by omega) hs
  have CB := bits_c B d b w hB (by omega)
  have hb0 : b ≠ 0 := by omega
  obtain ⟨L, hL, _⟩ := bl_top hb0
  obtain ⟨k, hk⟩ : ∃ k, bl b = k := ⟨_, rfl⟩
  rw [hk] at CB hs hL hN
  have hkp : 0 < k := by rw [← hk]; exact bl_pos hb0
  have hbl : nl b ≤ 6251 := by omega
  obtain ⟨D, hD⟩ : ∃ D, D = n - k := ⟨_, rfl⟩
  have hDI : (n : Int) - (k : Int) = (D : Int) := by omega
  obtain ⟨E, hE⟩ : ∃ E, E = D / 2 := ⟨_, rfl⟩
  have hEI : (D : Int) / 2 = (E : Int) := by omega
  obtain ⟨h, hh⟩ : ∃ h, h = E + 4 := ⟨_, rfl⟩
  have hhI : (E : Int) + 4 = (h : Int) := by omega
  obtain ⟨f, hf⟩ : ∃ f, f = h + 4 := ⟨_, rfl⟩
  have hfI : (h : Int) + 4 = (f : Int) := by omega
  obtain ⟨t, ht⟩ : ∃ t, t = min k f := ⟨_, rfl⟩
  have htI : min (k : Int) (f : Int) = (t : Int) := by omega
  obtain ⟨u, hu⟩ : ∃ u, u = k - t := ⟨_, rfl⟩
  have huI : (k : Int) - (t : Int) = (u : Int) := by omega
  obtain ⟨v, hv⟩ : ∃ v, v = t + h := ⟨_, rfl⟩
  have hvI : (t : Int) + (h : Int) = (v : Int) := by omega
  obtain ⟨x, hx⟩ : ∃ x, x = D - h := ⟨_, rfl⟩
  have hxI : (D : Int) - (h : Int) = (x : Int) := by omega
  have t1 : ((k : Int) == 0) = false := ieqF (by omega)
  have t2 : ¬ (D : Int) < 100 := by omega
  have t2N : ¬ D < 100 := by omega
  obtain ⟨bt, hbt⟩ : ∃ z, z = b / 2 ^ u := ⟨_, rfl⟩
  have hbtb : bl bt = t := by rw [hbt, hu]; exact top_bits hb0 hk (by omega) (by omega)
  have hbt0 : bt ≠ 0 := fun e => by rw [e, show bl 0 = 0 from by simp [bl, nl_zero]] at hbtb; omega
  have hbtl : nl bt ≤ 6251 := Nat.le_trans (nl_mono (by rw [hbt]; exact Nat.div_le_self _ _)) hbl
  obtain ⟨r, hr⟩ : ∃ z, z = 2 ^ v / bt := ⟨_, rfl⟩
  have hrl : r ≤ 2 ^ (h + 1) := by rw [hr, hv]; exact recip_le hbt0 hbtb
  obtain ⟨y, hy⟩ : ∃ z, z = r * 2 ^ x := ⟨_, rfl⟩
  have hyl : y ≤ 2 ^ (D + 1) := by
    rw [hy, show D + 1 = (h + 1) + x by omega, Nat.pow_add]
    exact Nat.mul_le_mul_right _ hrl
  have hyn : nl y ≤ 6251 := Nat.le_trans (nl_two hyl) (by omega)
  have hrn : nl r ≤ 6251 := Nat.le_trans (nl_two hrl) (by omega)
  obtain ⟨p, hp⟩ : ∃ z, z = 2 ^ n := ⟨_, rfl⟩
  have hpl : nl p ≤ 6251 := by rw [hp]; exact Nat.le_trans (nl_two (Nat.le_refl _)) (by omega)
  have IH := fun (A : Option Addr) (c : Nat) (W : World) (hA : NatV W A c bt) (hW : Flds W) => ih h (by omega) A c bt v W hA (by omega) (by omega) (by omega) hW (by omega)
  rw [← hr] at IH
  have C1 := fun (W : World) => done_c W
  rw [← hp]
  replace hp := Lib.hid hp
  replace hk := Lib.hid hk
  replace CB := Lib.hid CB
  replace C1 := Lib.hid C1
  replace IH := Lib.hid IH
  replace hbt := Lib.hid hbt
  replace hr := Lib.hid hr
  replace hy := Lib.hid hy
  replace hrl := Lib.hid hrl
  replace hyl := Lib.hid hyl
  replace hbtb := Lib.hid hbtb
  have HT := Lib.hid ht
  have HD := Lib.hid (And.intro hD (And.intro hE (And.intro hh (And.intro hf (And.intro hu (And.intro hv hx))))))
  have hbnd : D ≤ 200000 ∧ E ≤ 200000 ∧ h ≤ 200000 ∧ f ≤ 200008 ∧ t ≤ 200000 ∧ u ≤ 200000 ∧ v ≤ 400000 ∧ x ≤ 200000 ∧ k ≤ 200000 := by omega
  clear hD hE hh hf hu hv hx ht hL
  obtain ⟨g1, g2, g3, g4, g5, g6, g7, g8, g9⟩ := hbnd
  go_enter Tryd.func20, Tryd.ntmps20
  go_wp2_with (fail)
  refine CB.out.mono ?_
  rintro e W1 ⟨rfl, rfl⟩
  go_wp2_with (fail)
  refine (C1.out _).mono ?_
  rintro e W2 ⟨X, cx, rfl, k1, b1⟩
  have C2 := shl_e X cx 1 (n : Int) n W2 k1 (by rw [nl_one]; decide) rfl (by omega)
  rw [Nat.one_mul, ← hp.out] at C2
  replace C2 := Lib.hid C2
  go_wp2_with (fail)
  refine C2.out.mono ?_
  rintro e W3 ⟨P, cp, rfl, k2, b2⟩
  have b12 := b1.cons b2
  have C3 := shr_e B d b (u : Int) u W3 (hB.below b12) (by omega) rfl (by omega)
  rw [← hbt.out] at C3
  replace C3 := Lib.hid C3
  go_wp2_with (fail)
  refine C3.out.mono ?_
  rintro e W4 ⟨T, ct, rfl, k3, b3⟩
  have bA := b12.cons b3
  have C4 := IH.out T ct W4 k3 (hG.below bA)
  replace C4 := Lib.hid C4
  go_wp2_with (fail)
  refine C4.out.mono ?_
  rintro e W5 ⟨R, cr, rfl, k4, b4⟩
  have bB := bA.cons b4
  have C5 := shl_e R cr r (x : Int) x W5 k4 (by omega) rfl (by omega)
  rw [← hy.out] at C5
  replace C5 := Lib.hid C5
  go_wp2_with (fail)
  refine C5.out.mono ?_
  rintro e W6 ⟨Y, cy, rfl, k5, b5⟩
  have bC := bB.cons b5
  have C6 := mul_c B d b Y cy y W6 (hB.below bC) k5 (hG.below bC) (by omega) (by omega)
  obtain ⟨q, hq⟩ : ∃ q, q = b * y := ⟨_, rfl⟩
  have hql : nl q ≤ 12502 := by rw [hq]; have := nl_mul b y; omega
  rw [← hq] at C6
  replace C6 := Lib.hid C6
  replace hq := Lib.hid hq
  go_wp2_with (fail)
  refine C6.out.mono ?_
  rintro e W7 ⟨H, ch, rfl, k6, b6⟩
  have bD := bC.cons b6
  have P7 := k2.below (((b3.cons b4).cons b5).cons b6)
  have Y7 := k5.below b6
  have C7 := cmp_c H ch q P cp p W7 k6 P7 (by omega) (by omega)
  replace C7 := Lib.hid C7
  by_cases hle : q ≤ p
  · have t4 : decide (cmpN q p ≤ 0) = true := by
      rw [decide_eq_true_eq]
      have := cmpN_pos (a := q) (b := p)
      omega
    go_wp2_with (fail)
    refine C7.out.mono ?_
    rintro e W8 ⟨rfl, b7⟩
    have C8 := dless_c P cp p H ch q W8 (P7.below b7) (k6.below b7) (by omega) (by omega)
    obtain ⟨z, hz⟩ : ∃ z, z = p - q := ⟨_, rfl⟩
    have hzp : z ≤ p := by omega
    have hzl : nl z ≤ 6251 := Nat.le_trans (nl_mono hzp) hpl
    rw [← hz] at C8
    replace C8 := Lib.hid C8
    replace hz := Lib.hid hz
    go_wp2_with (fail)
    refine C8.out.mono ?_
    rintro e W9 ⟨Z, cz, rfl, k8, b8⟩
    have b78 := b7.cons b8
    have C9 := mul_c Y cy y Z cz z W9 (Y7.below b78) k8 (hG.below (bD.cons b78)) (by omega) (by omega)
    obtain ⟨o, ho⟩ : ∃ o, o = y * z := ⟨_, rfl⟩
    have hol : nl o ≤ 12502 := by rw [ho]; have := nl_mul y z; omega
    rw [← ho] at C9
    replace C9 := Lib.hid C9
    go_wp2_with (fail)
    refine C9.out.mono ?_
    rintro e W10 ⟨O, co, rfl, k9, b9⟩
    have b79 := b78.cons b9
    have C10 := shr_e O co o (n : Int) n W10 k9 (by omega) rfl (by omega)
    obtain ⟨s1, hs1⟩ : ∃ z, z = o / 2 ^ n := ⟨_, rfl⟩
    have hsy : s1 ≤ y := by
      rw [hs1, ho, ← hp.out]
      exact Nat.div_le_of_le_mul (by rw [Nat.mul_comm p y]; exact Nat.mul_le_mul_left _ hzp)
    rw [← hs1] at C10
    have hsl : nl s1 ≤ 6251 := Nat.le_trans (nl_mono hsy) hyn
    replace ho := Lib.hid ho
    replace hs1 := Lib.hid hs1
    replace C10 := Lib.hid C10
    go_wp2_with (fail)
    refine C10.out.mono ?_
    rintro e W11 ⟨S, cs, rfl, k10, b10⟩
    have b710 := b79.cons b10
    have C11 := add_c Y cy y S cs s1 W11 (Y7.below b710) k10 (by omega) (by omega)
    obtain ⟨y2, hy2⟩ : ∃ z, z = y + s1 := ⟨_, rfl⟩
    have hy2l : nl y2 ≤ 16384 := by
      have h1 : y2 ≤ 2 ^ (D + 2) := by rw [Nat.pow_succ]; have := hyl.out; omega
      exact Nat.le_trans (nl_two h1) (by omega)
    rw [← hy2] at C11
    replace C11 := Lib.hid C11
    replace hy2 := Lib.hid hy2
    go_wp2_with (fail)
    refine C11.out.mono ?_
    rintro e W12 ⟨V, cv, rfl, k11, b11⟩
    have b711 := b710.cons b11
    have bE := bD.cons b711
    have C12 := mend_c P cp p B d b V cv y2 W12 (P7.below b711) (hB.below bE) k11 (hG.below bE) (by omega) (by omega) hy2l h0
    replace C12 := Lib.hid C12
    go_wp2_with (fail)
    refine C12.out.mono ?_
    rintro e W13 ⟨K1, c1, K2, c2, rfl, k12, k13, b12'⟩
    go_wp2_with (fail)
    exact bodyPost_ret (v := .tuple #[.slice K1 (nl (p / b)) c1, .int .i64 0]) (by simp [results, Tryd.results20, go_sem]) rfl ⟨K1, c1, rfl, k12, bE.cons b12'⟩
  · have t4 : decide (cmpN q p ≤ 0) = false := by
      rw [decide_eq_false_iff_not]
      have := cmpN_pos (a := q) (b := p)
      omega
    go_wp2_with (fail)
    refine C7.out.mono ?_
    rintro e W8 ⟨rfl, b7⟩
    have C8 := dless_c H ch q P cp p W8 (k6.below b7) (P7.below b7) (by omega) (by omega)
    obtain ⟨z, hz⟩ : ∃ z, z = q - p := ⟨_, rfl⟩
    have hzp : z ≤ q := by omega
    have hzl : nl z ≤ 12502 := Nat.le_trans (nl_mono hzp) hql
    rw [← hz] at C8
    replace C8 := Lib.hid C8
    replace hz := Lib.hid hz
    go_wp2_with (fail)
    refine C8.out.mono ?_
    rintro e W9 ⟨Z, cz, rfl, k8, b8⟩
    have b78 := b7.cons b8
    have C9 := mul_c Y cy y Z cz z W9 (Y7.below b78) k8 (hG.below (bD.cons b78)) (by omega) (by omega)
    obtain ⟨o, ho⟩ : ∃ o, o = y * z := ⟨_, rfl⟩
    have hol : nl o ≤ 18753 := by rw [ho]; have := nl_mul y z; omega
    rw [← ho] at C9
    replace C9 := Lib.hid C9
    replace ho := Lib.hid ho
    go_wp2_with (fail)
    refine C9.out.mono ?_
    rintro e W10 ⟨O, co, rfl, k9, b9⟩
    have b79 := b78.cons b9
    have C10 := shr_e O co o (n : Int) n W10 k9 (by omega) rfl (by omega)
    obtain ⟨s1, hs1⟩ : ∃ z, z = o / 2 ^ n := ⟨_, rfl⟩
    rw [← hs1] at C10
    have hsl : nl s1 ≤ 18753 := Nat.le_trans (nl_mono (by rw [hs1]; exact Nat.div_le_self _ _)) hol
    replace hs1 := Lib.hid hs1
    replace C10 := Lib.hid C10
    go_wp2_with (fail)
    refine C10.out.mono ?_
    rintro e W11 ⟨S, cs, rfl, k10, b10⟩
    have b710 := b79.cons b10
    go_wp2_with (fail)
    refine (C1.out _).mono ?_
    rintro e W12 ⟨U, cu, rfl, k11, b11⟩
    have b711 := b710.cons b11
    have C11 := add_c S cs s1 U cu 1 W12 (k10.below b11) k11 (by omega) (by rw [nl_one]; decide)
    obtain ⟨s2, hs2⟩ : ∃ z, z = s1 + 1 := ⟨_, rfl⟩
    have hs2l : nl s2 ≤ 1073741824 := by
      have h1 := nl_mono (show s2 ≤ s1 * 4294967296 + 1 by omega)
      have h2 := nl_mul (s1 + 1) 1
      have h3 : nl (s1 + 1) ≤ nl s1 + 1 := by
        rw [nl_le, Nat.pow_succ]
        have := nl_lt s1
        omega
      rw [hs2]; omega
    rw [← hs2] at C11
    replace C11 := Lib.hid C11
    replace hs2 := Lib.hid hs2
    go_wp2_with (fail)
    refine C11.out.mono ?_
    rintro e W13 ⟨V, cv, rfl, k12, b12'⟩
    have b712 := b711.cons b12'
    have C12 := dless_c Y cy y V cv s2 W13 (Y7.below b712) k12 (by omega) hs2l
    obtain ⟨y2, hy2⟩ : ∃ z, z = y - s2 := ⟨_, rfl⟩
    have hy2l : nl y2 ≤ 16384 := Nat.le_trans (nl_mono (show y2 ≤ y by omega)) (by omega)
    rw [← hy2] at C12
    replace C12 := Lib.hid C12
    replace hy2 := Lib.hid hy2
    go_wp2_with (fail)
    refine C12.out.mono ?_
    rintro e W14 ⟨V2, cv2, rfl, k13, b13⟩
    have b713 := b712.cons b13
    have bE := bD.cons b713
    have C13 := mend_c P cp p B d b V2 cv2 y2 W14 (P7.below b713) (hB.below bE) k13 (hG.below bE) (by omega) (by omega) hy2l h0
    replace C13 := Lib.hid C13
    go_wp2_with (fail)
    refine C13.out.mono ?_
    rintro e W15 ⟨K1, c1, K2, c2, rfl, k14, k15, b14⟩
    go_wp2_with (fail)
    exact bodyPost_ret (v := .tuple #[.slice K1 (nl (p / b)) c1, .int .i64 0]) (by simp [results, Tryd.results20, go_sem]) rfl ⟨K1, c1, rfl, k14, bE.cons b14⟩
end Go.Proofs.YtfkagknikmibjaaDoor

/- Division by a reciprocal, walked. -/
set_option linter.unusedVariables false
set_option linter.unusedSimpArgs false
namespace Go.Proofs.YtfkagknikmibjaaDoor
open Go.RowKit Go.Shelf
attribute [local go_sem] max2_i min2_i max_two min_two

set_option maxRecDepth 100000 in
set_option maxHeartbeats 1000000 in
theorem dnewton_c (A : Option Addr) (c a : Nat) (B : Option Addr) (d b : Nat) (w : World) (hA : NatV w A c a) (hB : NatV w B d b) (hG : Flds w) (ha : nl a ≤ 6000) (hb : nl b ≤ 16384) (h0 : 0 < b) :
    Calls Tryd.prog 17 #[.slice A (nl a) c, .slice B (nl b) d] w (RetQR w (a / b) (a % b)) := by
  have CB := bits_c A c a w hA (by omega)
  have hbl := bl_le a
  obtain ⟨n, hn⟩ : ∃ n, n = bl a := ⟨_, rfl⟩
  rw [← hn] at CB hbl
  have hnl : n ≤ 192000 := by omega
  have CR := drecip_c (n - bl b) B d b n w hB h0 (by omega) (by omega) hG (Nat.le_refl _)
  obtain ⟨r, hr⟩ : ∃ r, r = 2 ^ n / b := ⟨_, rfl⟩
  have hrl : nl r ≤ 6001 := by
    rw [hr]
    exact Nat.le_trans (nl_two (Nat.div_le_self _ _)) (by omega)
  rw [← hr] at CR
  replace CB := Lib.hid CB
  replace CR := Lib.hid CR
  replace hn := Lib.hid hn
  replace hr := Lib.hid hr
  go_enter Tryd.func17, Tryd.ntmps17
  go_wp2_with (fail)
  refine CB.out.mono ?_
  rintro e W1 ⟨rfl, rfl⟩
  go_wp2_with (fail)
  refine CR.out.mono ?_
  rintro e W2 ⟨R, cr, rfl, k1, b1⟩
  have C2 := mul_c A c a R cr r W2 (hA.below b1) k1 (hG.below b1) (by omega) (by omega)
  obtain ⟨o, ho⟩ : ∃ o, o = a * r := ⟨_, rfl⟩
  have hol : nl o ≤ 12001 := by rw [ho]; have := nl_mul a r; omega
  rw [← ho] at C2
  replace C2 := Lib.hid C2
  replace ho := Lib.hid ho
  go_wp2_with (fail)
  refine C2.out.mono ?_
  rintro e W3 ⟨O, co, rfl, k2, b2⟩
  have C3 := shr_e O co o (n : Int) n W3 k2 (by omega) rfl (by omega)
  obtain ⟨q, hq⟩ : ∃ q, q = o / 2 ^ n := ⟨_, rfl⟩
  have hql : nl q ≤ 12001 := Nat.le_trans (nl_mono (by rw [hq]; exact Nat.div_le_self _ _)) hol
  rw [← hq] at C3
  replace C3 := Lib.hid C3
  replace hq := Lib.hid hq
  go_wp2_with (fail)
  refine C3.out.mono ?_
  rintro e W4 ⟨Q, cq, rfl, k3, b3⟩
  have bE := (b1.cons b2).cons b3
  have C4 := mend_c A c a B d b Q cq q W4 (hA.below bE) (hB.below bE) k3 (hG.below bE) (by omega) (by omega) (by omega) h0
  replace C4 := Lib.hid C4
  go_wp2_with (fail)
  refine C4.out.mono ?_
  rintro e W5 ⟨K1, c1, K2, c2, rfl, k4, k5, b4⟩
  go_wp2_with (fail)
  exact bodyPost_ret (v := .tuple #[.slice K1 (nl (a / b)) c1, .slice K2 (nl (a % b)) c2, .int .i64 0]) (by simp [results, Tryd.results17, go_sem]) rfl ⟨K1, c1, K2, c2, rfl, k4, k5, bE.cons b4⟩
set_option maxRecDepth 100000 in
set_option maxHeartbeats 1000000 in
theorem dnewtonZ_c (A : Option Addr) (c a : Nat) (B : Option Addr) (d b : Nat) (w : World) (hA : NatV w A c a) (hB : NatV w B d b) (ha : nl a ≤ 6000) (h0 : b = 0) :
    Calls Tryd.prog 17 #[.slice A (nl a) c, .slice B (nl b) d] w (RetQZ w) := by
  have CB := bits_c A c a w hA (by omega)
  have hbl := bl_le a
  obtain ⟨n, hn⟩ : ∃ n, n = bl a := ⟨_, rfl⟩
  rw [← hn] at CB hbl
  have CR := drecipZ_c B d b n w hB h0 (by omega)
  replace CB := Lib.hid CB
  replace CR := Lib.hid CR
  replace hn := Lib.hid hn
  replace h0 := Lib.hid h0
  go_enter Tryd.func17, Tryd.ntmps17
  go_wp2_with (fail)
  refine CB.out.mono ?_
  rintro e W1 ⟨rfl, rfl⟩
  go_wp2_with (fail)
  refine CR.out.mono ?_
  rintro e W2 ⟨rfl, b1⟩
  go_wp2_with (fail)
  exact bodyPost_ret (v := .tuple #[.slice none 0 0, .slice none 0 0, .int .i64 3]) (by simp [results, Tryd.results17, go_sem]) rfl ⟨rfl, b1⟩
end Go.Proofs.YtfkagknikmibjaaDoor
