/- Division by halves: the two closures, walked. -/
import Derived.Test.YtfkagknikmibjaaDoorZE4
set_option linter.unusedVariables false
set_option linter.unusedSimpArgs false
namespace Go.Proofs.YtfkagknikmibjaaDoor
open Go.RowKit Go.Shelf
attribute [local go_sem] max2_i min2_i max_two min_two

/-- The two closures lie in their boxes. -/
structure ZB (s2 s3 : Nat) (w : World) : Prop where
  two : w.cell? ⟨s2, 0, none⟩ = some (.func (.func 46) #[] #[.pointer (some ⟨s3, 0, none⟩)])
  three : w.cell? ⟨s3, 0, none⟩ = some (.func (.func 50) #[] #[.pointer (some ⟨s2, 0, none⟩)])
theorem ZB.below {s2 s3 : Nat} {w w' : World} (h : ZB s2 s3 w) (hb : Below w.heap.size w w') : ZB s2 s3 w' := ⟨cell_below hb h.two, cell_below hb h.three⟩
def TwoC (s2 s3 n : Nat) : Prop := ∀ (A : Option Addr) (c a : Nat) (B : Option Addr) (d b : Nat) (w : World), NatV w A c a → NatV w B d b → Flds w → ZB s2 s3 w →
  4294967296 ^ (n - 1) ≤ b → nl b ≤ n → a < b * 4294967296 ^ n →
  Calls Tryd.prog 46 #[.slice A (nl a) c, .slice B (nl b) d, .int .i64 (n : Nat), .pointer (some ⟨s3, 0, none⟩)] w (RetQ2 w (a / b) (a % b))
def ThreeC (s2 s3 h : Nat) : Prop := ∀ (A : Option Addr) (c a : Nat) (B : Option Addr) (d b : Nat) (w : World), NatV w A c a → NatV w B d b → Flds w → ZB s2 s3 w →
  4294967296 ^ (2 * h - 1) ≤ b → nl b ≤ 2 * h → a < b * 4294967296 ^ h →
  Calls Tryd.prog 50 #[.slice A (nl a) c, .slice B (nl b) d, .int .i64 (h : Nat), .pointer (some ⟨s2, 0, none⟩)] w (RetQ2 w (a / b) (a % b))
theorem nl_under {a b n k : Nat} (ha : a < b * 4294967296 ^ n) (hb : nl b ≤ k) : nl a ≤ k + n := by
  rw [nl_le, Nat.pow_add]
  exact Nat.lt_of_lt_of_le ha (Nat.mul_le_mul_right _ (Nat.le_of_lt (nl_le.1 hb)))
theorem zthree1 {a b P y t q c d r : Nat} (hP : 0 < P) (hy : y = b / P) (ht : t = a / P) (hy0 : 0 < y) (hq : q = t / y) (hc : c = t % y) (hd : d = q * (b % P)) (hr : r = c * P + a % P) : a + d = q * b + r ∧ r < b + d := by
  have e1 := Nat.div_add_mod t y
  have e2 := Nat.div_add_mod a P
  have e3 := Nat.div_add_mod b P
  have e4 := Nat.mod_lt t hy0
  have e5 := Nat.mod_lt a hP
  rw [← hq, ← hc] at e1
  rw [← ht] at e2
  rw [← hy] at e3
  rw [← hc] at e4
  generalize a % P = a0 at *
  generalize b % P = b0 at *
  have e6 : c * P + P ≤ y * P := by rw [← Nat.succ_mul]; exact Nat.mul_le_mul_right _ e4
  refine ⟨by subst hd hr; rw [← e2, ← e3, ← e1]; grind, ?_⟩
  rw [Nat.mul_comm y P] at e6
  omega
theorem zthree2 {a b P y t q c d r : Nat} (hP : 0 < P) (hy : y = b / P) (ht : t = a / P) (hn : ¬ t / P < y) (ha : a < b * P) (hq : q = 1 * P - 1) (hc : c = t + y - y * P) (hd : d = q * (b % P)) (hr : r = c * P + a % P) : a + d = q * b + r ∧ r < b + d := by
  have e2 := Nat.div_add_mod a P
  have e3 := Nat.div_add_mod b P
  have e4 : y * P ≤ t := by rw [← Nat.le_div_iff_mul_le hP]; omega
  rw [← ht] at e2
  rw [← hy] at e3
  generalize a % P = a0 at *
  generalize b % P = b0 at *
  obtain ⟨p, rfl⟩ : ∃ p, P = p + 1 := ⟨P - 1, by omega⟩
  obtain ⟨t', rfl⟩ : ∃ t', t = y * (p + 1) + t' := ⟨t - y * (p + 1), by omega⟩
  have hc' : c = t' + y := by omega
  have hq' : q = p := by omega
  subst hq' hc' hd hr
  have e : a + q * b0 = q * b + ((t' + y) * (q + 1) + a0) := by rw [← e2, ← e3]; grind
  refine ⟨e, ?_⟩
  have : b * (q + 1) = q * b + b := by grind
  omega
theorem ztwo_math {a b P m : Nat} (hb : 0 < b) (hm : m = P * P) : (a / P / b) * P + ((a / P % b) * P + a % P) / b = a / b ∧ ((a / P % b) * P + a % P) % b = a % b := by
  have e1 := Nat.div_add_mod (a / P) b
  have e2 := Nat.div_add_mod a P
  generalize a % P = a0 at *
  generalize a / P = t at *
  generalize t % b = r at *
  generalize t / b = q at *
  have e : a = q * P * b + (r * P + a0) := by rw [← e2, ← e1]; grind
  rw [e]
  constructor
  · rw [Nat.mul_comm (q * P) b, Nat.mul_add_div hb]
  · rw [Nat.mul_comm (q * P) b, Nat.mul_add_mod]
theorem lt_pow_join {r b l P : Nat} (hr : r < b) (hl : l < P) : r * P + l < b * P := by
  have : r * P + P ≤ b * P := by rw [← Nat.succ_mul]; exact Nat.mul_le_mul_right _ hr
  omega
set_option maxRecDepth 100000 in
set_option maxHeartbeats 4000000 in
theorem zthree_step (s2 s3 h : Nat) (h0 : 0 < h) (hh : h ≤ 2048) (IH : TwoC s2 s3 h) : ThreeC s2 s3 h := by
  intro A c a B d b w hA hB hG hZ hb1 hb2 ha
  have hP : 0 < 4294967296 ^ h := Nat.pow_pos (by decide)
  have hb0 : 0 < b := Nat.lt_of_lt_of_le (Nat.pow_pos (by decide)) hb1
  have hla : nl a ≤ 3 * h := Nat.le_trans (nl_under ha hb2) (by omega)
  have hz2 := hZ.two
  have hyb : 4294967296 ^ (h - 1) ≤ b / 4294967296 ^ h := by
    rw [Nat.le_div_iff_mul_le hP, ← Nat.pow_add, show h - 1 + h = 2 * h - 1 by omega]; exact hb1
  have hyl : nl (b / 4294967296 ^ h) ≤ h := by
    rw [nl_le, Nat.div_lt_iff_lt_mul hP, ← Nat.pow_add, show h + h = 2 * h by omega]; exact nl_le.1 hb2
  have hBb : ∀ W, Below w.heap.size w W → NatV W B d b := fun W hW => hB.below hW
  have hI32 : IntKind.i64.wrap (32 * (h : Int)) = 32 * (h : Int) := IntWalk.i64_in _ (by omega)
  replace hBb := Lib.hid hBb
  replace IH := Lib.hid IH
  replace hb1 := Lib.hid hb1
  replace ha := Lib.hid ha
  replace hyb := Lib.hid hyb
  go_enter Tryd.func50, Tryd.ntmps50
  go_wp2_with (fail)
  obtain ⟨y, Ey⟩ : ∃ zq : Nat, zq = b / 4294967296 ^ h := ⟨_, rfl⟩
  have By : nl y ≤ h := by rw [Ey]; exact hyl
  refine (Calls.mono (R := RetN w y) (by rw [Ey]; exact (dhigh_c B d b h _ hB (by omega) (by omega))) ?_)
  replace Ey := Lib.hid Ey
  rintro e W1 ⟨X1, c1, rfl, hy, hb1⟩
  replace hA := hA.below hb1
  replace hB := hB.below hb1
  replace hG := hG.below hb1
  replace hZ := hZ.below hb1
  replace hz2 := cell_below hb1 hz2
  have HBT := hb1
  clear hb1
  go_wp2_with (fail)
  obtain ⟨t, Et⟩ : ∃ zq : Nat, zq = a / 4294967296 ^ h := ⟨_, rfl⟩
  have Bt : nl t ≤ 3 * h := by rw [Et]; have := nl_div a (4294967296 ^ h); omega
  refine (Calls.mono (R := RetN W1 t) (by rw [Et]; exact (dhigh_c A c a h _ hA (by omega) (by omega))) ?_)
  replace Et := Lib.hid Et
  rintro e W2 ⟨X2, c2, rfl, ht, hb2⟩
  replace hA := hA.below hb2
  replace hB := hB.below hb2
  replace hG := hG.below hb2
  replace hZ := hZ.below hb2
  replace hz2 := cell_below hb2 hz2
  replace hy := hy.below hb2
  replace HBT := Below.cons HBT hb2
  clear hb2
  go_wp2_with (fail)
  obtain ⟨u, Eu⟩ : ∃ zq : Nat, zq = t / 4294967296 ^ h := ⟨_, rfl⟩
  have Bu : nl u ≤ 3 * h := by rw [Eu]; have := nl_div t (4294967296 ^ h); omega
  refine (Calls.mono (R := RetN W2 u) (by rw [Eu]; exact (dhigh_c X2 c2 t h _ ht (by omega) (by omega))) ?_)
  replace Eu := Lib.hid Eu
  rintro e W3 ⟨X3, c3, rfl, hu, hb3⟩
  replace hA := hA.below hb3
  replace hB := hB.below hb3
  replace hG := hG.below hb3
  replace hZ := hZ.below hb3
  replace hz2 := cell_below hb3 hz2
  replace hy := hy.below hb3
  replace ht := ht.below hb3
  replace HBT := Below.cons HBT hb3
  clear hb3
  go_wp2_with (fail)
  refine (Calls.mono (cmp_c X3 c3 u X1 c1 y _ hu hy (by omega) (by omega)) ?_)
  rintro e W4 ⟨rfl, hb4⟩
  replace hA := hA.below hb4
  replace hB := hB.below hb4
  replace hG := hG.below hb4
  replace hZ := hZ.below hb4
  replace hz2 := cell_below hb4 hz2
  replace hy := hy.below hb4
  replace ht := ht.below hb4
  replace hu := hu.below hb4
  replace HBT := Below.cons HBT hb4
  clear hb4
  have hy0 : 0 < y := by rw [Ey.out]; exact Nat.lt_of_lt_of_le (Nat.pow_pos (by decide)) hyb.out
  by_cases hc : u < y
  · have t1 : decide (cmpN u y < 0) = true := by rw [decide_eq_true_eq, cmpN_neg]; exact hc
    have htl : t < y * 4294967296 ^ h := by rw [← Nat.div_lt_iff_lt_mul hP, ← Eu.out]; exact hc
    replace hc := Lib.hid hc
    go_wp2_with (fail)
    have C9 := IH.out X2 c2 t X1 c1 y _ ht hy hG hZ (by rw [Ey.out]; exact hyb.out) By htl
    obtain ⟨q, Eq⟩ : ∃ zq : Nat, zq = t / y := ⟨_, rfl⟩
    obtain ⟨k, Ek⟩ : ∃ zq : Nat, zq = t % y := ⟨_, rfl⟩
    have Bq : nl q ≤ 3 * h := by rw [Eq]; have := nl_div t y; omega
    have Bk : nl k ≤ 3 * h := by rw [Ek]; have := nl_mod_le t y; omega
    rw [← Eq, ← Ek] at C9
    replace Eq := Lib.hid Eq
    replace Ek := Lib.hid Ek
    replace C9 := Lib.hid C9
    replace htl := Lib.hid htl
    refine C9.out.mono ?_
    rintro e W9 ⟨Xq, xq, Xk, xk, rfl, hq, hk, hb9⟩
    replace hA := hA.below hb9
    replace hB := hB.below hb9
    replace hG := hG.below hb9
    replace hZ := hZ.below hb9
    replace hz2 := cell_below hb9 hz2
    replace hy := hy.below hb9
    replace ht := ht.below hb9
    replace hu := hu.below hb9
    replace HBT := Below.cons HBT hb9
    clear hb9
    go_wp2_with (fail)
    obtain ⟨l, El⟩ : ∃ zq : Nat, zq = b % 4294967296 ^ h := ⟨_, rfl⟩
    have Bl : nl l ≤ h := by rw [El]; exact nl_le.2 (Nat.mod_lt _ hP)
    refine (Calls.mono (R := RetN W9 l) (by rw [El]; exact (dlow_c B d b h _ hB (by omega) (by omega))) ?_)
    replace El := Lib.hid El
    rintro e W5 ⟨X5, c5, rfl, hl, hb5⟩
    replace hA := hA.below hb5
    replace hB := hB.below hb5
    replace hG := hG.below hb5
    replace hZ := hZ.below hb5
    replace hz2 := cell_below hb5 hz2
    replace hy := hy.below hb5
    replace ht := ht.below hb5
    replace hu := hu.below hb5
    replace hq := hq.below hb5
    replace hk := hk.below hb5
    replace HBT := Below.cons HBT hb5
    clear hb5
    go_wp2_with (fail)
    obtain ⟨p, Ep⟩ : ∃ zq : Nat, zq = q * l := ⟨_, rfl⟩
    have Bp : nl p ≤ 4 * h := by rw [Ep]; have := nl_mul q l; omega
    refine (Calls.mono (R := RetN W5 p) (by rw [Ep]; exact (mul_c Xq xq q X5 c5 l _ hq hl hG (by omega) (by omega))) ?_)
    replace Ep := Lib.hid Ep
    rintro e W6 ⟨X6, c6, rfl, hp, hb6⟩
    replace hA := hA.below hb6
    replace hB := hB.below hb6
    replace hG := hG.below hb6
    replace hZ := hZ.below hb6
    replace hz2 := cell_below hb6 hz2
    replace hy := hy.below hb6
    replace ht := ht.below hb6
    replace hu := hu.below hb6
    replace hq := hq.below hb6
    replace hk := hk.below hb6
    replace hl := hl.below hb6
    replace HBT := Below.cons HBT hb6
    clear hb6
    go_wp2_with (fail)
    obtain ⟨g, Eg⟩ : ∃ zq : Nat, zq = a % 4294967296 ^ h := ⟨_, rfl⟩
    have Bg : nl g ≤ h := by rw [Eg]; exact nl_le.2 (Nat.mod_lt _ hP)
    refine (Calls.mono (R := RetN W6 g) (by rw [Eg]; exact (dlow_c A c a h _ hA (by omega) (by omega))) ?_)
    replace Eg := Lib.hid Eg
    rintro e W7 ⟨X7, c7, rfl, hg, hb7⟩
    replace hA := hA.below hb7
    replace hB := hB.below hb7
    replace hG := hG.below hb7
    replace hZ := hZ.below hb7
    replace hz2 := cell_below hb7 hz2
    replace hy := hy.below hb7
    replace ht := ht.below hb7
    replace hu := hu.below hb7
    replace hq := hq.below hb7
    replace hk := hk.below hb7
    replace hl := hl.below hb7
    replace hp := hp.below hb7
    replace HBT := Below.cons HBT hb7
    clear hb7
    go_wp2_with (fail)
    obtain ⟨r, Er⟩ : ∃ zq : Nat, zq = k * 4294967296 ^ h + g := ⟨_, rfl⟩
    have Br : nl r ≤ 6 * h + 1 := by rw [Er]; have h1 := nl_add (k * 4294967296 ^ h) g; have h2 := nl_shl32 k h; rw [pow32] at h2; omega
    refine (Calls.mono (R := RetN W7 r) (by rw [Er]; exact (djoin_c Xk xk k X7 c7 g h _ hk hg (by omega) (by omega) (by omega))) ?_)
    replace Er := Lib.hid Er
    rintro e W8 ⟨X8, c8, rfl, hr, hb8⟩
    replace hA := hA.below hb8
    replace hB := hB.below hb8
    replace hG := hG.below hb8
    replace hZ := hZ.below hb8
    replace hz2 := cell_below hb8 hz2
    replace hy := hy.below hb8
    replace ht := ht.below hb8
    replace hu := hu.below hb8
    replace hq := hq.below hb8
    replace hk := hk.below hb8
    replace hl := hl.below hb8
    replace hp := hp.below hb8
    replace hg := hg.below hb8
    replace HBT := Below.cons HBT hb8
    clear hb8
    have hinv : Hid (a + p = q * b + r ∧ r < b + p) := Lib.hid (zthree1 hP Ey.out Et.out hy0 Eq.out Ek.out (by rw [Ep.out, El.out]) (by rw [Er.out, Eg.out]))
    go_wp2_with (fail)
    replace HBT := Lib.hid HBT
    clear hA hB hG hZ hz2 hy ht hu hk hl hg
    go_loopw [11, 14] (fun v11 v14 wr => ∃ (X : Option Addr) (cx q : Nat) (Y : Option Addr) (cy r : Nat), v11 = .slice X (nl q) cx ∧ v14 = .slice Y (nl r) cy ∧ NatV wr X cx q ∧ NatV wr Y cy r ∧ Hid (a + p = q * b + r ∧ r < b + p) ∧ nl q ≤ 3 * h ∧ Hid (Below W8.heap.size W8 wr)) (fun v11 v14 wr => natOf wr v11)
    case atStart => exact ⟨Xq, xq, q, X8, c8, r, rfl, rfl, hq, hr, hinv, Bq, Lib.hid (Below.refl _ _)⟩
    case round =>
      clear hq hr
      replace hinv := Lib.hid hinv
      clear hinv
      obtain ⟨X, cx, q2, Y, cy, r2, rfl, rfl, hX, hY, hin, hql, hW⟩ := hrel
      have hrl : nl r2 ≤ 5 * h + 1 := by
        have h1 : nl r2 ≤ nl (b + p) := nl_mono (Nat.le_of_lt hin.out.2)
        have h2 := nl_add b p
        omega
      have hDw := hp.below hW.out
      have hBw := hBb.out _ (HBT.out.cons hW.out)
      have CC := cmp_c Y cy r2 X6 c6 p wr hY hDw (by omega) (by omega)
      by_cases hlt : r2 < p
      · have t1 : decide (cmpN r2 p < 0) = true := by rw [decide_eq_true_eq, cmpN_neg]; exact hlt
        have hq1 : 1 ≤ q2 := over_pos (show a < q2 * b by have := hin.out.1; omega)
        have C1 := fun (W : World) => done_c W
        replace CC := Lib.hid CC
        replace C1 := Lib.hid C1
        go_wp2_with (fail)
        refine CC.out.mono ?_
        rintro e w2 ⟨rfl, m2⟩
        go_wp2_with (fail)
        refine (C1.out w2).mono ?_
        rintro e w3 ⟨Z3, z3, rfl, k3, m3⟩
        have m23 := m2.cons m3
        have C3 := dless_c X cx q2 Z3 z3 1 w3 (hX.below m23) k3 (by omega) (by rw [nl_one]; decide)
        replace C3 := Lib.hid C3
        go_wp2_with (fail)
        refine C3.out.mono ?_
        rintro e w4 ⟨Z4, z4, rfl, k4, m4⟩
        have m24 := m23.cons m4
        have C4 := add_c Y cy r2 B d b w4 (hY.below m24) (hBw.below m24) (by omega) (by omega)
        replace C4 := Lib.hid C4
        go_wp2_with (fail)
        refine C4.out.mono ?_
        rintro e w5 ⟨Z5, z5, rfl, k5, m5⟩
        have k45 := k4.below m5
        have HB := Lib.hid (Below.cons (Below.cons hW.out m24) m5)
        have hmeas : natOf w5 (.slice Z4 (nl (q2 - 1)) z4) < natOf wr (.slice X (nl q2) cx) := by rw [k45.of, hX.of]; omega
        replace hmeas := Lib.hid hmeas
        have hsub : Hid (a + p = (q2 - 1) * b + (r2 + b) ∧ r2 + b < b + p) := Lib.hid ⟨by rw [← less_mul hq1]; have := hin.out.1; have := Nat.mul_le_mul_right b hq1; omega, by omega⟩
        have l2 : nl (q2 - 1) ≤ 3 * h := Nat.le_trans (nl_mono (Nat.sub_le _ _)) hql
        go_wp2_with (fail)
        go_roundw
        case rel => exact ⟨Z4, z4, q2 - 1, Z5, z5, r2 + b, rfl, rfl, k45, k5, hsub, l2, HB⟩
        case measure => exact hmeas.out
      · have t1 : decide (cmpN r2 p < 0) = false := by rw [decide_eq_false_iff_not, cmpN_neg]; exact hlt
        have hfin : q2 = a / b ∧ r2 - p = a % b := by
          obtain ⟨i1, i2⟩ := hin.out
          have e : a = b * q2 + (r2 - p) := by rw [Nat.mul_comm]; omega
          have hl : r2 - p < b := by omega
          constructor
          · rw [e, Nat.mul_add_div hb0, Nat.div_eq_of_lt hl]; rfl
          · rw [e, Nat.mul_add_mod, Nat.mod_eq_of_lt hl]
        replace CC := Lib.hid CC
        replace hfin := Lib.hid hfin
        go_wp2_with (fail)
        refine CC.out.mono ?_
        rintro e w2 ⟨rfl, m2⟩
        have C5 := dless_c Y cy r2 X6 c6 p w2 (hY.below m2) (hDw.below m2) (by omega) (by omega)
        rw [hfin.out.2] at C5
        replace C5 := Lib.hid C5
        have hX2 := hX.below m2
        go_wp2_with (fail)
        refine C5.out.mono ?_
        rintro e w3 ⟨Z3, z3, rfl, k3, m3⟩
        have hX3 := hX2.below m3
        have HB := HBT.out.cons ((hW.out.cons m2).cons m3)
        go_wp2_with (fail)
        refine bodyPost_ret (v := .tuple #[.slice X (nl q2) cx, .slice Z3 (nl (a % b)) z3]) (by simp [results, Tryd.results50, go_sem]) rfl ?_
        rw [hfin.out.1] at hX3 ⊢
        exact ⟨X, cx, Z3, z3, rfl, hX3, k3, HB⟩
  · have t1 : decide (cmpN u y < 0) = false := by rw [decide_eq_false_iff_not, cmpN_neg]; exact hc
    replace hc := Lib.hid hc
    go_wp2_with (fail)
    obtain ⟨o1, Eo1⟩ : ∃ zq : Nat, zq = 1 := ⟨_, rfl⟩
    have Bo1 : nl o1 ≤ 1 := by rw [Eo1]; rw [nl_one]; exact Nat.le_refl _
    refine (Calls.mono (R := RetN W4 o1) (by rw [Eo1]; exact (done_c _)) ?_)
    replace Eo1 := Lib.hid Eo1
    rintro e W5 ⟨X5, c5, rfl, ho1, hb5⟩
    replace hA := hA.below hb5
    replace hB := hB.below hb5
    replace hG := hG.below hb5
    replace hZ := hZ.below hb5
    replace hz2 := cell_below hb5 hz2
    replace hy := hy.below hb5
    replace ht := ht.below hb5
    replace hu := hu.below hb5
    replace HBT := Below.cons HBT hb5
    clear hb5
    go_wp2_with (fail)
    obtain ⟨pw, Epw⟩ : ∃ zq : Nat, zq = o1 * 2 ^ (32 * h) := ⟨_, rfl⟩
    have Bpw : nl pw ≤ h + 2 := by rw [Epw]; have := nl_shl o1 (32 * h); omega
    refine (Calls.mono (R := RetN W5 pw) (by rw [Epw]; exact (shl_e X5 c5 o1 (32 * (h : Int)) (32 * h) _ ho1 (by omega) (by omega) (by omega))) ?_)
    replace Epw := Lib.hid Epw
    rintro e W6 ⟨X6, c6, rfl, hpw, hb6⟩
    replace hA := hA.below hb6
    replace hB := hB.below hb6
    replace hG := hG.below hb6
    replace hZ := hZ.below hb6
    replace hz2 := cell_below hb6 hz2
    replace hy := hy.below hb6
    replace ht := ht.below hb6
    replace hu := hu.below hb6
    replace ho1 := ho1.below hb6
    replace HBT := Below.cons HBT hb6
    clear hb6
    go_wp2_with (fail)
    obtain ⟨o2, Eo2⟩ : ∃ zq : Nat, zq = 1 := ⟨_, rfl⟩
    have Bo2 : nl o2 ≤ 1 := by rw [Eo2]; rw [nl_one]; exact Nat.le_refl _
    refine (Calls.mono (R := RetN W6 o2) (by rw [Eo2]; exact (done_c _)) ?_)
    replace Eo2 := Lib.hid Eo2
    rintro e W7 ⟨X7, c7, rfl, ho2, hb7⟩
    replace hA := hA.below hb7
    replace hB := hB.below hb7
    replace hG := hG.below hb7
    replace hZ := hZ.below hb7
    replace hz2 := cell_below hb7 hz2
    replace hy := hy.below hb7
    replace ht := ht.below hb7
    replace hu := hu.below hb7
    replace ho1 := ho1.below hb7
    replace hpw := hpw.below hb7
    replace HBT := Below.cons HBT hb7
    clear hb7
    go_wp2_with (fail)
    obtain ⟨q, Eq⟩ : ∃ zq : Nat, zq = pw - o2 := ⟨_, rfl⟩
    have Bq : nl q ≤ 3 * h := by rw [Eq]; rw [Epw.out, Eo1.out, Eo2.out, Nat.one_mul, pow32, nl_le]; exact Nat.lt_of_lt_of_le (Nat.sub_lt hP (by decide)) (Nat.pow_le_pow_right (by decide) (by omega))
    refine (Calls.mono (R := RetN W7 q) (by rw [Eq]; exact (dless_c X6 c6 pw X7 c7 o2 _ hpw ho2 (by omega) (by omega))) ?_)
    replace Eq := Lib.hid Eq
    rintro e W8 ⟨X8, c8, rfl, hq, hb8⟩
    replace hA := hA.below hb8
    replace hB := hB.below hb8
    replace hG := hG.below hb8
    replace hZ := hZ.below hb8
    replace hz2 := cell_below hb8 hz2
    replace hy := hy.below hb8
    replace ht := ht.below hb8
    replace hu := hu.below hb8
    replace ho1 := ho1.below hb8
    replace hpw := hpw.below hb8
    replace ho2 := ho2.below hb8
    replace HBT := Below.cons HBT hb8
    clear hb8
    go_wp2_with (fail)
    obtain ⟨ty, Ety⟩ : ∃ zq : Nat, zq = t + y := ⟨_, rfl⟩
    have Bty : nl ty ≤ 3 * h + 1 := by rw [Ety]; have := nl_add t y; omega
    refine (Calls.mono (R := RetN W8 ty) (by rw [Ety]; exact (add_c X2 c2 t X1 c1 y _ ht hy (by omega) (by omega))) ?_)
    replace Ety := Lib.hid Ety
    rintro e W9 ⟨X9, c9, rfl, hty, hb9⟩
    replace hA := hA.below hb9
    replace hB := hB.below hb9
    replace hG := hG.below hb9
    replace hZ := hZ.below hb9
    replace hz2 := cell_below hb9 hz2
    replace hy := hy.below hb9
    replace ht := ht.below hb9
    replace hu := hu.below hb9
    replace ho1 := ho1.below hb9
    replace hpw := hpw.below hb9
    replace ho2 := ho2.below hb9
    replace hq := hq.below hb9
    replace HBT := Below.cons HBT hb9
    clear hb9
    go_wp2_with (fail)
    obtain ⟨ys, Eys⟩ : ∃ zq : Nat, zq = y * 2 ^ (32 * h) := ⟨_, rfl⟩
    have Bys : nl ys ≤ 2 * h + 2 := by rw [Eys]; have := nl_shl y (32 * h); omega
    refine (Calls.mono (R := RetN W9 ys) (by rw [Eys]; exact (shl_e X1 c1 y (32 * (h : Int)) (32 * h) _ hy (by omega) (by omega) (by omega))) ?_)
    replace Eys := Lib.hid Eys
    rintro e W10 ⟨X10, c10, rfl, hys, hb10⟩
    replace hA := hA.below hb10
    replace hB := hB.below hb10
    replace hG := hG.below hb10
    replace hZ := hZ.below hb10
    replace hz2 := cell_below hb10 hz2
    replace hy := hy.below hb10
    replace ht := ht.below hb10
    replace hu := hu.below hb10
    replace ho1 := ho1.below hb10
    replace hpw := hpw.below hb10
    replace ho2 := ho2.below hb10
    replace hq := hq.below hb10
    replace hty := hty.below hb10
    replace HBT := Below.cons HBT hb10
    clear hb10
    go_wp2_with (fail)
    obtain ⟨k, Ek⟩ : ∃ zq : Nat, zq = ty - ys := ⟨_, rfl⟩
    have Bk : nl k ≤ 3 * h + 1 := by rw [Ek]; have := nl_sub ty ys; omega
    refine (Calls.mono (R := RetN W10 k) (by rw [Ek]; exact (dless_c X9 c9 ty X10 c10 ys _ hty hys (by omega) (by omega))) ?_)
    replace Ek := Lib.hid Ek
    rintro e W11 ⟨X11, c11, rfl, hk, hb11⟩
    replace hA := hA.below hb11
    replace hB := hB.below hb11
    replace hG := hG.below hb11
    replace hZ := hZ.below hb11
    replace hz2 := cell_below hb11 hz2
    replace hy := hy.below hb11
    replace ht := ht.below hb11
    replace hu := hu.below hb11
    replace ho1 := ho1.below hb11
    replace hpw := hpw.below hb11
    replace ho2 := ho2.below hb11
    replace hq := hq.below hb11
    replace hty := hty.below hb11
    replace hys := hys.below hb11
    replace HBT := Below.cons HBT hb11
    clear hb11
    go_wp2_with (fail)
    obtain ⟨l, El⟩ : ∃ zq : Nat, zq = b % 4294967296 ^ h := ⟨_, rfl⟩
    have Bl : nl l ≤ h := by rw [El]; exact nl_le.2 (Nat.mod_lt _ hP)
    refine (Calls.mono (R := RetN W11 l) (by rw [El]; exact (dlow_c B d b h _ hB (by omega) (by omega))) ?_)
    replace El := Lib.hid El
    rintro e W12 ⟨X12, c12, rfl, hl, hb12⟩
    replace hA := hA.below hb12
    replace hB := hB.below hb12
    replace hG := hG.below hb12
    replace hZ := hZ.below hb12
    replace hz2 := cell_below hb12 hz2
    replace hy := hy.below hb12
    replace ht := ht.below hb12
    replace hu := hu.below hb12
    replace ho1 := ho1.below hb12
    replace hpw := hpw.below hb12
    replace ho2 := ho2.below hb12
    replace hq := hq.below hb12
    replace hty := hty.below hb12
    replace hys := hys.below hb12
    replace hk := hk.below hb12
    replace HBT := Below.cons HBT hb12
    clear hb12
    go_wp2_with (fail)
    obtain ⟨p, Ep⟩ : ∃ zq : Nat, zq = q * l := ⟨_, rfl⟩
    have Bp : nl p ≤ 4 * h := by rw [Ep]; have := nl_mul q l; omega
    refine (Calls.mono (R := RetN W12 p) (by rw [Ep]; exact (mul_c X8 c8 q X12 c12 l _ hq hl hG (by omega) (by omega))) ?_)
    replace Ep := Lib.hid Ep
    rintro e W13 ⟨X13, c13, rfl, hp, hb13⟩
    replace hA := hA.below hb13
    replace hB := hB.below hb13
    replace hG := hG.below hb13
    replace hZ := hZ.below hb13
    replace hz2 := cell_below hb13 hz2
    replace hy := hy.below hb13
    replace ht := ht.below hb13
    replace hu := hu.below hb13
    replace ho1 := ho1.below hb13
    replace hpw := hpw.below hb13
    replace ho2 := ho2.below hb13
    replace hq := hq.below hb13
    replace hty := hty.below hb13
    replace hys := hys.below hb13
    replace hk := hk.below hb13
    replace hl := hl.below hb13
    replace HBT := Below.cons HBT hb13
    clear hb13
    go_wp2_with (fail)
    obtain ⟨g, Eg⟩ : ∃ zq : Nat, zq = a % 4294967296 ^ h := ⟨_, rfl⟩
    have Bg : nl g ≤ h := by rw [Eg]; exact nl_le.2 (Nat.mod_lt _ hP)
    refine (Calls.mono (R := RetN W13 g) (by rw [Eg]; exact (dlow_c A c a h _ hA (by omega) (by omega))) ?_)
    replace Eg := Lib.hid Eg
    rintro e W14 ⟨X14, c14, rfl, hg, hb14⟩
    replace hA := hA.below hb14
    replace hB := hB.below hb14
    replace hG := hG.below hb14
    replace hZ := hZ.below hb14
    replace hz2 := cell_below hb14 hz2
    replace hy := hy.below hb14
    replace ht := ht.below hb14
    replace hu := hu.below hb14
    replace ho1 := ho1.below hb14
    replace hpw := hpw.below hb14
    replace ho2 := ho2.below hb14
    replace hq := hq.below hb14
    replace hty := hty.below hb14
    replace hys := hys.below hb14
    replace hk := hk.below hb14
    replace hl := hl.below hb14
    replace hp := hp.below hb14
    replace HBT := Below.cons HBT hb14
    clear hb14
    go_wp2_with (fail)
    obtain ⟨r, Er⟩ : ∃ zq : Nat, zq = k * 4294967296 ^ h + g := ⟨_, rfl⟩
    have Br : nl r ≤ 6 * h + 1 := by rw [Er]; have h1 := nl_add (k * 4294967296 ^ h) g; have h2 := nl_shl32 k h; rw [pow32] at h2; omega
    refine (Calls.mono (R := RetN W14 r) (by rw [Er]; exact (djoin_c X11 c11 k X14 c14 g h _ hk hg (by omega) (by omega) (by omega))) ?_)
    replace Er := Lib.hid Er
    rintro e W15 ⟨X15, c15, rfl, hr, hb15⟩
    replace hA := hA.below hb15
    replace hB := hB.below hb15
    replace hG := hG.below hb15
    replace hZ := hZ.below hb15
    replace hz2 := cell_below hb15 hz2
    replace hy := hy.below hb15
    replace ht := ht.below hb15
    replace hu := hu.below hb15
    replace ho1 := ho1.below hb15
    replace hpw := hpw.below hb15
    replace ho2 := ho2.below hb15
    replace hq := hq.below hb15
    replace hty := hty.below hb15
    replace hys := hys.below hb15
    replace hk := hk.below hb15
    replace hl := hl.below hb15
    replace hp := hp.below hb15
    replace hg := hg.below hb15
    replace HBT := Below.cons HBT hb15
    clear hb15
    have hinv : Hid (a + p = q * b + r ∧ r < b + p) := Lib.hid (zthree2 (q := q) (c := k) (d := p) (r := r) (y := y) (t := t) hP Ey.out Et.out (by rw [← Eu.out]; exact hc.out) ha.out (by rw [Eq.out, Epw.out, Eo1.out, Eo2.out, pow32]) (by rw [Ek.out, Ety.out, Eys.out, pow32]) (by rw [Ep.out, El.out]) (by rw [Er.out, Eg.out]))
    go_wp2_with (fail)
    replace HBT := Lib.hid HBT
    clear hA hB hG hZ hz2 hy ht hu ho1 hpw ho2 hty hys hk hl hg
    go_loopw [11, 14] (fun v11 v14 wr => ∃ (X : Option Addr) (cx q : Nat) (Y : Option Addr) (cy r : Nat), v11 = .slice X (nl q) cx ∧ v14 = .slice Y (nl r) cy ∧ NatV wr X cx q ∧ NatV wr Y cy r ∧ Hid (a + p = q * b + r ∧ r < b + p) ∧ nl q ≤ 3 * h ∧ Hid (Below W15.heap.size W15 wr)) (fun v11 v14 wr => natOf wr v11)
    case atStart => exact ⟨X8, c8, q, X15, c15, r, rfl, rfl, hq, hr, hinv, Bq, Lib.hid (Below.refl _ _)⟩
    case round =>
      clear hq hr
      replace hinv := Lib.hid hinv
      clear hinv
      obtain ⟨X, cx, q2, Y, cy, r2, rfl, rfl, hX, hY, hin, hql, hW⟩ := hrel
      have hrl : nl r2 ≤ 5 * h + 1 := by
        have h1 : nl r2 ≤ nl (b + p) := nl_mono (Nat.le_of_lt hin.out.2)
        have h2 := nl_add b p
        omega
      have hDw := hp.below hW.out
      have hBw := hBb.out _ (HBT.out.cons hW.out)
      have CC := cmp_c Y cy r2 X13 c13 p wr hY hDw (by omega) (by omega)
      by_cases hlt : r2 < p
      · have t1 : decide (cmpN r2 p < 0) = true := by rw [decide_eq_true_eq, cmpN_neg]; exact hlt
        have hq1 : 1 ≤ q2 := over_pos (show a < q2 * b by have := hin.out.1; omega)
        have C1 := fun (W : World) => done_c W
        replace CC := Lib.hid CC
        replace C1 := Lib.hid C1
        go_wp2_with (fail)
        refine CC.out.mono ?_
        rintro e w2 ⟨rfl, m2⟩
        go_wp2_with (fail)
        refine (C1.out w2).mono ?_
        rintro e w3 ⟨Z3, z3, rfl, k3, m3⟩
        have m23 := m2.cons m3
        have C3 := dless_c X cx q2 Z3 z3 1 w3 (hX.below m23) k3 (by omega) (by rw [nl_one]; decide)
        replace C3 := Lib.hid C3
        go_wp2_with (fail)
        refine C3.out.mono ?_
        rintro e w4 ⟨Z4, z4, rfl, k4, m4⟩
        have m24 := m23.cons m4
        have C4 := add_c Y cy r2 B d b w4 (hY.below m24) (hBw.below m24) (by omega) (by omega)
        replace C4 := Lib.hid C4
        go_wp2_with (fail)
        refine C4.out.mono ?_
        rintro e w5 ⟨Z5, z5, rfl, k5, m5⟩
        have k45 := k4.below m5
        have HB := Lib.hid (Below.cons (Below.cons hW.out m24) m5)
        have hmeas : natOf w5 (.slice Z4 (nl (q2 - 1)) z4) < natOf wr (.slice X (nl q2) cx) := by rw [k45.of, hX.of]; omega
        replace hmeas := Lib.hid hmeas
        have hsub : Hid (a + p = (q2 - 1) * b + (r2 + b) ∧ r2 + b < b + p) := Lib.hid ⟨by rw [← less_mul hq1]; have := hin.out.1; have := Nat.mul_le_mul_right b hq1; omega, by omega⟩
        have l2 : nl (q2 - 1) ≤ 3 * h := Nat.le_trans (nl_mono (Nat.sub_le _ _)) hql
        go_wp2_with (fail)
        go_roundw
        case rel => exact ⟨Z4, z4, q2 - 1, Z5, z5, r2 + b, rfl, rfl, k45, k5, hsub, l2, HB⟩
        case measure => exact hmeas.out
      · have t1 : decide (cmpN r2 p < 0) = false := by rw [decide_eq_false_iff_not, cmpN_neg]; exact hlt
        have hfin : q2 = a / b ∧ r2 - p = a % b := by
          obtain ⟨i1, i2⟩ := hin.out
          have e : a = b * q2 + (r2 - p) := by rw [Nat.mul_comm]; omega
          have hl : r2 - p < b := by omega
          constructor
          · rw [e, Nat.mul_add_div hb0, Nat.div_eq_of_lt hl]; rfl
          · rw [e, Nat.mul_add_mod, Nat.mod_eq_of_lt hl]
        replace CC := Lib.hid CC
        replace hfin := Lib.hid hfin
        go_wp2_with (fail)
        refine CC.out.mono ?_
        rintro e w2 ⟨rfl, m2⟩
        have C5 := dless_c Y cy r2 X13 c13 p w2 (hY.below m2) (hDw.below m2) (by omega) (by omega)
        rw [hfin.out.2] at C5
        replace C5 := Lib.hid C5
        have hX2 := hX.below m2
        go_wp2_with (fail)
        refine C5.out.mono ?_
        rintro e w3 ⟨Z3, z3, rfl, k3, m3⟩
        have hX3 := hX2.below m3
        have HB := HBT.out.cons ((hW.out.cons m2).cons m3)
        go_wp2_with (fail)
        refine bodyPost_ret (v := .tuple #[.slice X (nl q2) cx, .slice Z3 (nl (a % b)) z3]) (by simp [results, Tryd.results50, go_sem]) rfl ?_
        rw [hfin.out.1] at hX3 ⊢
        exact ⟨X, cx, Z3, z3, rfl, hX3, k3, HB⟩
end Go.Proofs.YtfkagknikmibjaaDoor

/- Division by halves: the two closures together. -/
set_option linter.unusedVariables false
set_option linter.unusedSimpArgs false
namespace Go.Proofs.YtfkagknikmibjaaDoor
open Go.RowKit Go.Shelf
attribute [local go_sem] max2_i min2_i max_two min_two

set_option maxRecDepth 100000 in
set_option maxHeartbeats 4000000 in
theorem ztwo_few (s2 s3 n : Nat) (hn : n ≤ 2) : TwoC s2 s3 n := by
  intro A c a B d b w hA hB hG hZ hb1 hb2 ha
  have hb0 : 0 < b := Nat.lt_of_lt_of_le (Nat.pow_pos (by decide)) hb1
  have hla : nl a ≤ 4 := Nat.le_trans (nl_under ha hb2) (by omega)
  have C := ddivmod_c A c a B d b w hA hB (by omega) (by omega) hb0
  replace C := Lib.hid C
  have t1 : decide ((n : Int) ≤ 2) = true := by simp; omega
  go_enter Tryd.func46, Tryd.ntmps46
  go_wp2_with (fail)
  refine C.out.mono ?_
  rintro e W1 ⟨X, cx, Y, cy, rfl, k1, k2, b1⟩
  go_wp2_with (fail)
  exact bodyPost_ret (v := .tuple #[.slice X (nl (a / b)) cx, .slice Y (nl (a % b)) cy]) (by simp [results, Tryd.results46, go_sem]) rfl ⟨X, cx, Y, cy, rfl, k1, k2, b1⟩
set_option maxRecDepth 100000 in
set_option maxHeartbeats 4000000 in
theorem ztwo_step (s2 s3 h : Nat) (h0 : 1 < h) (hh : h ≤ 2048) (IH : ThreeC s2 s3 h) : TwoC s2 s3 (2 * h) := by
  intro A c a B d b w hA hB hG hZ hb1 hb2 ha
  obtain ⟨n, hn⟩ : ∃ n, n = 2 * h := ⟨_, rfl⟩
  have hP : 0 < 4294967296 ^ h := Nat.pow_pos (by decide)
  have hb0 : 0 < b := Nat.lt_of_lt_of_le (Nat.pow_pos (by decide)) hb1
  have hla : nl a ≤ 4 * h := Nat.le_trans (nl_under ha hb2) (by omega)
  have In : (n : Int) / 2 = (h : Int) := by omega
  have Jn : (n : Int).tdiv 2 = (h : Int) := by rw [Int.tdiv_eq_ediv_of_nonneg (by omega)]; exact In
  have t1 : decide ((n : Int) ≤ 2) = false := by simp; omega
  have Wh : IntKind.i64.wrap (h : Int) = (h : Int) := IntWalk.i64_in _ (by omega)
  have ha2 : a / 4294967296 ^ h < b * 4294967296 ^ h := by
    rw [Nat.div_lt_iff_lt_mul hP, Nat.mul_assoc, ← Nat.pow_add, show h + h = 2 * h by omega]; exact ha
  obtain ⟨t, Et⟩ : ∃ t, t = a / 4294967296 ^ h := ⟨_, rfl⟩
  obtain ⟨l, El⟩ : ∃ l, l = a % 4294967296 ^ h := ⟨_, rfl⟩
  obtain ⟨q1, Eq1⟩ : ∃ q, q = t / b := ⟨_, rfl⟩
  obtain ⟨r1, Er1⟩ : ∃ r, r = t % b := ⟨_, rfl⟩
  obtain ⟨g, Eg⟩ : ∃ g, g = r1 * 4294967296 ^ h + l := ⟨_, rfl⟩
  obtain ⟨q0, Eq0⟩ : ∃ q, q = g / b := ⟨_, rfl⟩
  obtain ⟨r0, Er0⟩ : ∃ r, r = g % b := ⟨_, rfl⟩
  have Bt : nl t ≤ 4 * h := by rw [Et]; have := nl_div a (4294967296 ^ h); omega
  have Bl : nl l ≤ h := by rw [El]; exact nl_le.2 (Nat.mod_lt _ hP)
  have Bq1 : nl q1 ≤ 4 * h := by rw [Eq1]; have := nl_div t b; omega
  have Br1 : nl r1 ≤ 2 * h := by rw [Er1]; have := nl_mod_lt t (show b ≠ 0 by omega); omega
  have hg : g < b * 4294967296 ^ h := by rw [Eg]; exact lt_pow_join (by rw [Er1]; exact Nat.mod_lt _ hb0) (by rw [El]; exact Nat.mod_lt _ hP)
  have Bg : nl g ≤ 3 * h := Nat.le_trans (nl_under hg hb2) (by omega)
  have Bq0 : nl q0 ≤ 3 * h := by rw [Eq0]; have := nl_div g b; omega
  have hfin : q1 * 4294967296 ^ h + q0 = a / b ∧ r0 = a % b := by
    have := ztwo_math (a := a) (b := b) (P := 4294967296 ^ h) hb0 rfl
    rw [← Et, ← El, ← Eq1, ← Er1, ← Eg, ← Eq0, ← Er0] at this
    exact this
  have C0 := fun (W : World) (h1 : NatV W A c a) => dhigh_c A c a h W h1 (by omega) (by omega)
  have C1 := fun (W : World) (X : Option Addr) (x : Nat) (h1 : NatV W X x t) (h2 : NatV W B d b) (h3 : Flds W) (h4 : ZB s2 s3 W) => IH X x t B d b W h1 h2 h3 h4 hb1 hb2 (by rw [Et]; exact ha2)
  have C2 := fun (W : World) (h1 : NatV W A c a) => dlow_c A c a h W h1 (by omega) (by omega)
  have C3 := fun (W : World) (X : Option Addr) (x : Nat) (Y : Option Addr) (y : Nat) (h1 : NatV W X x r1) (h2 : NatV W Y y l) => djoin_c X x r1 Y y l h W h1 h2 (by omega) (by omega) (by omega)
  have C4 := fun (W : World) (X : Option Addr) (x : Nat) (h1 : NatV W X x g) (h2 : NatV W B d b) (h3 : Flds W) (h4 : ZB s2 s3 W) => IH X x g B d b W h1 h2 h3 h4 hb1 hb2 hg
  have C5 := fun (W : World) (X : Option Addr) (x : Nat) (Y : Option Addr) (y : Nat) (h1 : NatV W X x q1) (h2 : NatV W Y y q0) => djoin_c X x q1 Y y q0 h W h1 h2 (by omega) (by omega) (by omega)
  rw [← Et] at C0
  rw [← El] at C2
  rw [← Eq1, ← Er1] at C1
  rw [← Eg] at C3
  rw [← Eq0, ← Er0] at C4
  rw [hfin.1] at C5
  have E2 := hfin.2
  rw [← hn] at *
  replace C0 := Lib.hid C0
  replace C1 := Lib.hid C1
  replace C2 := Lib.hid C2
  replace C3 := Lib.hid C3
  replace C4 := Lib.hid C4
  replace C5 := Lib.hid C5
  replace E2 := Lib.hid E2
  clear ha2 Et El Eq1 Er1 Eg Eq0 Er0 hfin hg ha hb1 IH hP
  have hd : Below w.heap.size w w.drew := (Below.refl _ _).drew
  have hZ0 := hZ.below hd
  have hz0 := hZ0.three
  have hA0 := hA.below hd
  have hB0 := hB.below hd
  have hG0 := hG.below hd
  go_enter Tryd.func46, Tryd.ntmps46
  go_wp2_with (fail)
  go_region_held3 (fun W => W.cell? ⟨s3, 0, none⟩ = some (.func (.func 50) #[] #[.pointer (some ⟨s2, 0, none⟩)]))
    (first
      | exact hz0
      | exact hz1
      | exact hz2
      | go_keep)
    (first
      | (go_at_call 47; (with_reducible refine (C0.out _ hA0).mono ?_); rintro e W1 ⟨X1, x1, rfl, hT, m1⟩; have hZ1 := hZ0.below m1; have hz1 := hZ1.three; have hA1 := hA0.below m1; have hB1 := hB0.below m1; have hG1 := hG0.below m1; have HB1 := Below.cons hd m1)
      | (go_at_call 50; (with_reducible refine (C1.out _ _ _ hT hB1 hG1 hZ1).mono ?_); rintro e W2 ⟨X2, x2, X3, x3, rfl, hQ1, hR1, m2⟩; have hZ2 := hZ1.below m2; have hz2 := hZ2.three; have hA2 := hA1.below m2; have hB2 := hB1.below m2; have hG2 := hG1.below m2; have HB2 := Below.cons HB1 m2))
  clear hz0 hz1 hz2 hZ0 hZ1 hA0 hA1 hB0 hB1 hG0 hG1 HB1 hT
  have hd : Below W2.heap.size W2 W2.drew := (Below.refl _ _).drew
  replace hZ2 := hZ2.below hd
  have hz2 := hZ2.three
  replace hA2 := hA2.below hd
  replace hB2 := hB2.below hd
  replace hG2 := hG2.below hd
  replace hQ1 := hQ1.below hd
  replace hR1 := hR1.below hd
  replace HB2 := Below.cons HB2 hd
  clear hd
  go_wp2_with (fail)
  go_region_held3 (fun W => W.cell? ⟨s3, 0, none⟩ = some (.func (.func 50) #[] #[.pointer (some ⟨s2, 0, none⟩)]))
    (first
      | exact hz2
      | exact hz3
      | exact hz4
      | exact hz5
      | go_keep)
    (first
      | (go_at_call 49; (with_reducible refine (C2.out _ hA2).mono ?_); rintro e W3 ⟨X4, x4, rfl, hL, m3⟩; have hZ3 := hZ2.below m3; have hz3 := hZ3.three; have hB3 := hB2.below m3; have hG3 := hG2.below m3; have hQ3 := hQ1.below m3; have hR3 := hR1.below m3; have HB3 := Below.cons HB2 m3)
      | (go_at_call 48; (with_reducible refine (C3.out _ _ _ _ _ hR3 hL).mono ?_); rintro e W4 ⟨X5, x5, rfl, hg4, m4⟩; have hZ4 := hZ3.below m4; have hz4 := hZ4.three; have hB4 := hB3.below m4; have hG4 := hG3.below m4; have hQ4 := hQ3.below m4; have HB4 := Below.cons HB3 m4)
      | (go_at_call 50; (with_reducible refine (C4.out _ _ _ hg4 hB4 hG4 hZ4).mono ?_); rintro e W5 ⟨X6, x6, X7, x7, rfl, hQ0, hR0, m5⟩; have hz5 := (hZ4.below m5).three; have hQ5 := hQ4.below m5; have HB5 := Below.cons HB4 m5))
  clear hz2 hz3 hz4 hz5 hZ2 hZ3 hZ4
  go_wp2_with (fail)
  refine (C5.out _ _ _ _ _ hQ5 hQ0).mono ?_
  rintro e W6 ⟨X8, x8, rfl, hF, m6⟩
  have hR6 := hR0.below m6
  have HB6 := Below.cons HB5 m6
  go_wp2_with (fail)
  refine bodyPost_ret (v := .tuple #[.slice X8 (nl (a / b)) x8, .slice X7 (nl r0) x7]) (by simp [results, Tryd.results46, go_sem]) rfl ?_
  rw [E2.out] at hR6 ⊢
  exact ⟨X8, x8, X7, x7, rfl, hF, hR6, HB6⟩
theorem ztwo_all (s2 s3 : Nat) : ∀ k, k ≤ 11 → TwoC s2 s3 (2 ^ k)
  | 0, _ => ztwo_few s2 s3 _ (by decide)
  | 1, _ => ztwo_few s2 s3 _ (by decide)
  | k + 2, hk => by
    have h2 : 2 ^ (k + 1) ≤ 2 ^ 11 := Nat.pow_le_pow_right (by decide) (by omega)
    have h3 : 1 ≤ 2 ^ k := Nat.two_pow_pos k
    have h4 : 2 ^ (k + 1) = 2 * 2 ^ k := by rw [Nat.pow_succ, Nat.mul_comm]
    have := ztwo_step s2 s3 (2 ^ (k + 1)) (by omega) (by omega) (zthree_step s2 s3 (2 ^ (k + 1)) (by omega) (by omega) (ztwo_all s2 s3 (k + 1) (by omega)))
    rwa [← Nat.pow_succ'] at this
end Go.Proofs.YtfkagknikmibjaaDoor

/- Division by halves, whole. -/
set_option linter.unusedVariables false
set_option linter.unusedSimpArgs false
namespace Go.Proofs.YtfkagknikmibjaaDoor
open Go.RowKit Go.Shelf
attribute [local go_sem] max2_i min2_i max_two min_two

set_option maxRecDepth 100000 in
set_option maxHeartbeats 1000000 in
theorem dzieglerZ_c (A : Option Addr) (c n : Nat) (B : Option Addr) (d : Nat) (w : World) :
    Calls Tryd.prog 18 #[.slice A n c, .slice B 0 d] w (RetQZ w) := by
  go_enter Tryd.func18, Tryd.ntmps18
  go_wp2_with (fail)
  exact bodyPost_ret (v := .tuple #[.slice none 0 0, .slice none 0 0, .int .i64 3]) (by simp [results, Tryd.results18, go_sem]) rfl ⟨rfl, Below.refl _ _⟩
theorem norm_pow {b m : Nat} (hb : b ≠ 0) (hm : nl b ≤ m) : bl b ≤ 32 * m ∧ nl (b * 2 ^ (32 * m - bl b)) ≤ m ∧ 4294967296 ^ (m - 1) ≤ b * 2 ^ (32 * m - bl b) := by
  have h1 := bl_le b
  have h2 := bl_lt b
  have h3 := bl_ge hb
  have h4 := bl_pos hb
  have hp := nl_pos.2 hb
  refine ⟨by omega, ?_, ?_⟩
  · rw [nl_le, ← pow32]
    have : 2 ^ (32 * m) = 2 ^ bl b * 2 ^ (32 * m - bl b) := by rw [← Nat.pow_add]; congr 1; omega
    rw [this]
    exact Nat.mul_lt_mul_of_pos_right h2 (Nat.two_pow_pos _)
  · rw [← pow32]
    refine Nat.le_trans (Nat.pow_le_pow_right (by decide) (show 32 * (m - 1) ≤ bl b - 1 + (32 * m - bl b) by omega)) ?_
    rw [Nat.pow_add]
    exact Nat.mul_le_mul_right _ h3
theorem nl_parts {x m K : Nat} (hm : 0 < m) (hK : K = (nl x + m - 1) / m) : x / 4294967296 ^ (K * m) = 0 := by
  apply Nat.div_eq_of_lt
  rw [← nl_le]
  have := Nat.div_add_mod (nl x + m - 1) m
  have := Nat.mod_lt (nl x + m - 1) hm
  rw [← hK] at *
  rw [Nat.mul_comm K m]
  omega
set_option maxRecDepth 100000 in
set_option maxHeartbeats 4000000 in
theorem dziegler_c (A : Option Addr) (c a : Nat) (B : Option Addr) (d b : Nat) (w : World) (hA : NatV w A c a) (hB : NatV w B d b) (hG : Flds w) (ha : nl a ≤ 16384) (hb : nl b ≤ 2048) (h0 : 0 < b) :
    Calls Tryd.prog 18 #[.slice A (nl a) c, .slice B (nl b) d] w (RetQR w (a / b) (a % b)) := by
  have hp := nl_pos.2 (show b ≠ 0 by omega)
  have t0 : ((nl b : Int) == 0) = false := ieqF (by omega)
  go_enter Tryd.func18, Tryd.ntmps18
  go_wp2_with (fail)
  go_loop [7] (fun v => ∃ m : Nat, v = .int .i64 (m : Nat) ∧ Hid (∃ k, k ≤ 11 ∧ m = 2 ^ k) ∧ 0 < m ∧ m ≤ 2048 ∧ (m = 1 ∨ m < 2 * nl b)) (fun v => 4096 - (intOf v).toNat)
  case atStart => exact ⟨1, rfl, Lib.hid ⟨0, by decide, rfl⟩, by decide, by decide, .inl rfl⟩
  case round =>
    obtain ⟨m, rfl, hk, hm0, hm1, hm2⟩ := hrel
    by_cases hlt : m < nl b
    · have t1 : decide ((m : Int) < (nl b : Int)) = true := by simp; omega
      have hm3 : 2 * m ≤ 2048 := by
        obtain ⟨k, hk1, hk2⟩ := hk.out
        have h1 : 2 ^ k < 2 ^ 11 := by rw [← hk2]; omega
        have h2 := (Nat.pow_lt_pow_iff_right (by decide : 1 < 2)).1 h1
        have h3 : 2 ^ (k + 1) ≤ 2 ^ 11 := Nat.pow_le_pow_right (by decide) (by omega)
        rw [Nat.pow_succ] at h3
        omega
      go_wp2_with (fail)
      go_round
      case rel =>
        refine ⟨2 * m, by go_num, Lib.hid ?_, by omega, hm3, .inr (by omega)⟩
        obtain ⟨k, hk1, hk2⟩ := hk.out
        have h1 : 2 ^ k < 2 ^ 11 := by rw [← hk2]; omega
        have h2 := (Nat.pow_lt_pow_iff_right (by decide : 1 < 2)).1 h1
        exact ⟨k + 1, by omega, by rw [Nat.pow_succ, ← hk2, Nat.mul_comm]⟩
      case measure => simp [intOf] <;> omega
    · have t1 : decide ((m : Int) < (nl b : Int)) = false := by simp; omega
      obtain ⟨hs0, hyl, hyb⟩ := norm_pow (b := b) (m := m) (by omega) (by omega)
      obtain ⟨s, Es⟩ : ∃ s, s = 32 * m - bl b := ⟨_, rfl⟩
      have CB := bits_c B d b w hB (by omega)
      obtain ⟨z, Ez⟩ : ∃ z, z = bl b := ⟨_, rfl⟩
      have Is : 32 * (m : Int) - (z : Int) = (s : Int) := by omega
      have Bs : s ≤ 65536 := by omega
      have Bz : z ≤ 65536 := by omega
      rw [← Es] at hyl hyb
      rw [← Ez] at CB
      have CX := shl_e A c a (s : Int) s w hA (by omega) rfl (by omega)
      have hxl := nl_shl a s
      obtain ⟨x, Ex⟩ : ∃ x, x = a * 2 ^ s := ⟨_, rfl⟩
      obtain ⟨y, Ey⟩ : ∃ y, y = b * 2 ^ s := ⟨_, rfl⟩
      have CY := fun (W : World) (hB : NatV W B d b) => shl_e B d b (s : Int) s W hB (by omega) rfl (by omega)
      rw [← Ex] at CX hxl
      rw [← Ey] at CY hyl hyb
      have Bx : nl x ≤ 20000 := by omega
      have hy0 : 0 < y := Nat.lt_of_lt_of_le (Nat.pow_pos (by decide)) hyb
      replace CB := Lib.hid CB
      replace CX := Lib.hid CX
      replace CY := Lib.hid CY
      replace Ez := Lib.hid Ez
      replace Es := Lib.hid Es
      replace Ex := Lib.hid Ex
      replace Ey := Lib.hid Ey
      replace hyb := Lib.hid hyb
      clear hs0 hxl
      go_wp2_with (fail)
      refine CB.out.mono ?_
      rintro e w0 ⟨rfl, rfl⟩
      go_wp2_with (fail)
      refine CX.out.mono ?_
      rintro e W1 ⟨X, cx, rfl, hX, b1⟩
      go_wp2_with (fail)
      refine (CY.out W1 (hB.below b1)).mono ?_
      rintro e W2 ⟨Y, cy, rfl, hY, b2⟩
      replace hX := hX.below b2
      replace hG := (hG.below b1).below b2
      have HBT := b1.cons b2
      obtain ⟨K, EK⟩ : ∃ K, K = (nl x + m - 1) / m := ⟨_, rfl⟩
      have IK : ((nl x : Int) + (m : Int) - 1) / (m : Int) = (K : Int) := by
        have e : ((nl x : Int) + (m : Int) - 1) = ((nl x + m - 1 : Nat) : Int) := by omega
        rw [e, EK, Int.natCast_ediv]
      have JK : ((nl x : Int) + (m : Int) - 1).tdiv (m : Int) = (K : Int) := by rw [Int.tdiv_eq_ediv_of_nonneg (by omega)]; exact IK
      have BK : K ≤ 22048 := by rw [EK]; exact Nat.le_trans (Nat.div_le_self _ _) (by omega)
      obtain ⟨W3, hW3⟩ : ∃ W3, W3 = ((W2.alloc (.cells #[.func (.func 46) #[] #[.pointer (some ⟨W2.heap.size + 1, 0, none⟩)]] 57)).alloc (.cells #[.func (.func 50) #[] #[.pointer (some ⟨W2.heap.size, 0, none⟩)]] 57)) := ⟨_, rfl⟩
      obtain ⟨s2, hs2⟩ : ∃ s2, s2 = W2.heap.size := ⟨_, rfl⟩
      obtain ⟨s3, hs3⟩ : ∃ s3, s3 = W2.heap.size + 1 := ⟨_, rfl⟩
      have hZ : ZB s2 s3 W3 := by
        subst hs2 hs3
        constructor
        · have e : W3.heap[W2.heap.size]? = some (.cells #[.func (.func 46) #[] #[.pointer (some ⟨W2.heap.size + 1, 0, none⟩)]] 57 (0, 0)) := by rw [hW3]; exact at_old (by simp) (at_new rfl)
          unfold World.cell?; simp [e]
        · have e : W3.heap[W2.heap.size + 1]? = some (.cells #[.func (.func 50) #[] #[.pointer (some ⟨W2.heap.size, 0, none⟩)]] 57 (0, 0)) := by rw [hW3]; exact at_new (by simp)
          unfold World.cell?; simp [e]
      have b3 : Below W2.heap.size W2 W3 := by
        rw [hW3]; exact ((Below.refl _ _).alloc (Nat.le_refl _) _).alloc (by simp) _
      clear b1 b2 hA hB CX CY CB
      replace EK := Lib.hid EK
      go_wp2_with (fail)
      rw [← hW3]
      replace hX := hX.below b3
      replace hY := hY.below b3
      replace hG := hG.below b3
      replace HBT := HBT.cons b3
      clear b3 hW3
      simp only [← hs3, ← hs2]
      clear hs2 hs3
      have hTW : TwoC s2 s3 m := by
        obtain ⟨k, hk1, hk2⟩ := hk.out
        rw [hk2]; exact ztwo_all s2 s3 k hk1
      have hzer := nl_parts hm0 EK.out
      have hP : 0 < 4294967296 ^ m := Nat.pow_pos (by decide)
      have HX : ∀ W, Below W3.heap.size W3 W → NatV W X cx x := fun W h => hX.below h
      have HY : ∀ W, Below W3.heap.size W3 W → NatV W Y cy y := fun W h => hY.below h
      have HG : ∀ W, Below W3.heap.size W3 W → Flds W := fun W h => hG.below h
      have HZ : ∀ W, Below W3.heap.size W3 W → ZB s2 s3 W := fun W h => hZ.below h
      replace HX := Lib.hid HX
      replace HY := Lib.hid HY
      replace HG := Lib.hid HG
      replace HZ := Lib.hid HZ
      replace HBT := Lib.hid HBT
      replace hzer := Lib.hid hzer
      replace hTW := Lib.hid hTW
      replace hP := Lib.hid hP
      clear hX hY hG hZ hk t0 IK JK
      go_loopw [13, 14, 15, 16] (fun q r i part wr => ∃ (Q : Option Addr) (cq qv : Nat) (R : Option Addr) (cr rv k : Nat), q = .slice Q (nl qv) cq ∧ r = .slice R (nl rv) cr ∧ i = .int .i64 (k : Nat) ∧ k ≤ K ∧ NatV wr Q cq qv ∧ NatV wr R cr rv ∧
        Hid (qv = x / 4294967296 ^ (k * m) / y) ∧ Hid (rv = x / 4294967296 ^ (k * m) % y) ∧ Hid (Below W3.heap.size W3 wr)) (fun q r i part wr => (intOf i).toNat)
      case atStart =>
        have h1 : x / 4294967296 ^ (K * m) / y = 0 := by rw [hzer.out]; exact Nat.zero_div _
        have h2 : x / 4294967296 ^ (K * m) % y = 0 := by rw [hzer.out]; exact Nat.zero_mod _
        have hn : NatV W3 none 0 0 := ⟨.inl (by simp [vals, limbs_zero]), by rw [nl_zero]; exact Nat.le_refl _, by decide⟩
        exact ⟨none, 0, 0, none, 0, 0, K, by rw [nl_zero], by rw [nl_zero], rfl, Nat.le_refl _, hn, hn, Lib.hid h1.symm, Lib.hid h2.symm, Lib.hid (Below.refl _ _)⟩
      case round =>
        obtain ⟨Q, cq, qv, R, cr, rv, k, rfl, rfl, rfl, hkK, hQ, hR, hq, hr, hB⟩ := hrel
        have Bqv : nl qv ≤ 20000 := by rw [hq.out]; exact Nat.le_trans (nl_div _ _) (Nat.le_trans (nl_div _ _) Bx)
        have Brv : nl rv ≤ m := by rw [hr.out]; exact Nat.le_trans (nl_mod_lt _ (by omega)) hyl
        by_cases hk0 : k = 0
        · have t1 : decide (0 < (k : Int)) = false := by simp; omega
          have hfin : qv = a / b ∧ rv / 2 ^ s = a % b := by
            have h1 := hq.out
            have h2 := hr.out
            rw [hk0, Nat.zero_mul, Nat.pow_zero, Nat.div_one] at h1 h2
            rw [h1, h2, Ex.out, Ey.out]
            exact ⟨Nat.mul_div_mul_right _ _ (Nat.two_pow_pos s), by rw [Nat.mul_mod_mul_right, Nat.mul_div_cancel _ (Nat.two_pow_pos s)]⟩
          have C := shr_e R cr rv (s : Int) s wr hR (by omega) rfl (by omega)
          rw [hfin.2] at C
          rw [hfin.1] at hQ
          have hqe := hfin.1
          replace hqe := Lib.hid hqe
          replace C := Lib.hid C
          clear hfin
          go_wp2_with (fail)
          refine C.out.mono ?_
          rintro e W4 ⟨Z, cz, rfl, hZ4, b4⟩
          have hQ4 := hQ.below b4
          have HB := (HBT.out.cons hB.out).cons b4
          go_wp2_with (fail)
          refine bodyPost_ret (v := .tuple #[.slice Q (nl qv) cq, .slice Z (nl (a % b)) cz, .int .i64 0]) (by simp [results, Tryd.results18, go_sem]) rfl ?_
          rw [hqe.out]
          exact ⟨Q, cq, Z, cz, rfl, hQ4, hZ4, HB⟩
        · have t1 : decide (0 < (k : Int)) = true := by simp; omega
          obtain ⟨j, Ej⟩ : ∃ j, k = j + 1 := ⟨k - 1, by omega⟩
          obtain ⟨jm, Ejm⟩ : ∃ jm, jm = j * m := ⟨_, rfl⟩
          have Bjm : jm ≤ 33554432 := by
            have h1 : (j + 1) * m ≤ nl x + m := by
              have := EK.out
              rw [this] at hkK
              have h2 := Nat.mul_le_mul_right m hkK
              have h3 := Nat.div_mul_le_self (nl x + m - 1) m
              rw [Ej] at h2
              omega
            rw [Nat.succ_mul] at h1
            omega
          have K1 : (k : Int) - 1 = (j : Int) := by omega
          have W1' : IntKind.i64.wrap (j : Int) = (j : Int) := IntWalk.i64_in _ (by omega)
          have K2 : (j : Int) * (m : Int) = (jm : Int) := by rw [Ejm]; exact (Int.natCast_mul j m).symm
          have W2' : IntKind.i64.wrap (jm : Int) = (jm : Int) := IntWalk.i64_in _ (by omega)
          obtain ⟨h, Eh⟩ : ∃ h, h = x / 4294967296 ^ jm := ⟨_, rfl⟩
          obtain ⟨l, El⟩ : ∃ l, l = h % 4294967296 ^ m := ⟨_, rfl⟩
          obtain ⟨g, Eg⟩ : ∃ g, g = rv * 4294967296 ^ m + l := ⟨_, rfl⟩
          obtain ⟨pt, Ept⟩ : ∃ p, p = g / y := ⟨_, rfl⟩
          obtain ⟨r2, Er2⟩ : ∃ r, r = g % y := ⟨_, rfl⟩
          obtain ⟨q2, Eq2⟩ : ∃ q, q = qv * 4294967296 ^ m + pt := ⟨_, rfl⟩
          have Bh : nl h ≤ 20000 := by rw [Eh]; exact Nat.le_trans (nl_div _ _) Bx
          have Bl : nl l ≤ m := by rw [El]; exact nl_le.2 (Nat.mod_lt _ hP.out)
          have hgl : g < y * 4294967296 ^ m := by
            rw [Eg]; exact lt_pow_join (by rw [hr.out]; exact Nat.mod_lt _ hy0) (by rw [El]; exact Nat.mod_lt _ hP.out)
          have Bg : nl g ≤ 2 * m := Nat.le_trans (nl_under hgl hyl) (by omega)
          have Bpt : nl pt ≤ 2 * m := by rw [Ept]; have := nl_div g y; omega
          have hfin : q2 = x / 4294967296 ^ (j * m) / y ∧ r2 = x / 4294967296 ^ (j * m) % y := by
            have h1 := ztwo_math (a := h) (b := y) (P := 4294967296 ^ m) hy0 rfl
            have h2 : h / 4294967296 ^ m = x / 4294967296 ^ (k * m) := by rw [Eh, Nat.div_div_eq_div_mul, ← Nat.pow_add, Ejm, Ej, Nat.succ_mul]
            rw [h2, ← hq.out, ← hr.out, ← El, ← Eg, ← Ept, ← Er2, ← Eq2, Eh, Ejm] at h1
            exact h1
          have C0 := fun (W : World) (h1 : NatV W X cx x) => dhigh_c X cx x jm W h1 (by omega) (by omega)
          have C1 := fun (W : World) (Z : Option Addr) (z : Nat) (h1 : NatV W Z z h) => dlow_c Z z h m W h1 (by omega) (by omega)
          have C2 := fun (W : World) (Z : Option Addr) (z : Nat) (V : Option Addr) (v : Nat) (h1 : NatV W Z z rv) (h2 : NatV W V v l) => djoin_c Z z rv V v l m W h1 h2 (by omega) (by omega) (by omega)
          have C3 := fun (W : World) (Z : Option Addr) (z : Nat) (h1 : NatV W Z z g) (h2 : NatV W Y cy y) (h3 : Flds W) (h4 : ZB s2 s3 W) => hTW.out Z z g Y cy y W h1 h2 h3 h4 hyb.out hyl hgl
          have C4 := fun (W : World) (Z : Option Addr) (z : Nat) (V : Option Addr) (v : Nat) (h1 : NatV W Z z qv) (h2 : NatV W V v pt) => djoin_c Z z qv V v pt m W h1 h2 (by omega) (by omega) (by omega)
          rw [← Eh] at C0
          rw [← El] at C1
          rw [← Eg] at C2
          rw [← Ept, ← Er2] at C3
          rw [← Eq2] at C4
          replace C0 := Lib.hid C0
          replace C1 := Lib.hid C1
          replace C2 := Lib.hid C2
          replace C3 := Lib.hid C3
          replace C4 := Lib.hid C4
          replace hfin := Lib.hid hfin
          have hd : Below wr.heap.size wr wr.drew := (Below.refl _ _).drew
          have HB0 := hB.out.cons hd
          have hX0 := HX.out _ HB0
          have hz0 := (HZ.out _ HB0).two
          have hQ0 := hQ.below hd
          have hR0 := hR.below hd
          replace HB0 := Lib.hid HB0
          have hkm : j < K := by omega
          have hmz : j < k := by omega
          clear Eh El Eg Ept Er2 Eq2 hgl hd hQ hR hq hr Ejm Ej hB
          go_wp2_with (fail)
          go_region_held3 (fun W => W.cell? ⟨s2, 0, none⟩ = some (.func (.func 46) #[] #[.pointer (some ⟨s3, 0, none⟩)]))
            (first
              | exact hz0
              | exact hz1
              | exact hz2
              | exact hz3
              | exact hz4
              | go_keep)
            (first
              | (go_at_call 47; (with_reducible refine (C0.out _ hX0).mono ?_); rintro e V1 ⟨X1, x1, rfl, hH, m1⟩; have HB1 := Lib.hid (Below.cons HB0.out m1); have hz1 := (HZ.out _ HB1.out).two; have hQ1 := hQ0.below m1; have hR1 := hR0.below m1)
              | (go_at_call 49; (with_reducible refine (C1.out _ _ _ hH).mono ?_); rintro e V2 ⟨X2, x2, rfl, hL, m2⟩; have HB2 := Lib.hid (Below.cons HB1.out m2); have hz2 := (HZ.out _ HB2.out).two; have hQ2 := hQ1.below m2; have hR2 := hR1.below m2)
              | (go_at_call 48; (with_reducible refine (C2.out _ _ _ _ _ hR2 hL).mono ?_); rintro e V3 ⟨X3, x3, rfl, hg, m3⟩; have HB3 := Lib.hid (Below.cons HB2.out m3); have hz3 := (HZ.out _ HB3.out).two; have hQ3 := hQ2.below m3; have hY3 := HY.out _ HB3.out; have hG3 := HG.out _ HB3.out; have hZ3 := HZ.out _ HB3.out)
              | (go_at_call 46; (with_reducible refine (C3.out _ _ _ hg hY3 hG3 hZ3).mono ?_); rintro e V4 ⟨X4, x4, X5, x5, rfl, hpt, hr2, m4⟩; have HB4 := Lib.hid (Below.cons HB3.out m4); have hz4 := (HZ.out _ HB4.out).two; have hQ4 := hQ3.below m4))
          clear hz0 hz1 hz2 hz3 hz4 hQ0 hQ1 hQ2 hQ3 hR0 hR1 hR2 hY3 hG3 hZ3 hX0 hH hL hg
          go_wp2_with (fail)
          refine (C4.out _ _ _ _ _ hQ4 hpt).mono ?_
          rintro e V5 ⟨X6, x6, rfl, hq2, m5⟩
          have hr5 := hr2.below m5
          have HB5 := Lib.hid (Below.cons HB4.out m5)
          go_wp2_with (fail)
          go_roundw
          case rel => exact ⟨X6, x6, q2, X5, x5, r2, j, rfl, rfl, by go_num, Nat.le_of_lt hkm, hq2, hr5, Lib.hid hfin.out.1, Lib.hid hfin.out.2, HB5⟩
          case measure => simp [intOf] <;> omega
end Go.Proofs.YtfkagknikmibjaaDoor
