/- Division: small helpers, the mending of a quotient. -/
import Derived.Test.YtfkagknikmibjaaDoorZE2
import Derived.Test.YtfkagknikmibjaaDoorZE1
import Derived.Test.YtfkagknikmibjaaDoorZB1
import Derived.Test.YtfkagknikmibjaaDoorZD1
import Derived.Test.YtfkagknikmibjaaDoorZD3
import Derived.Test.YtfkagknikmibjaaDoorZC5
import Derived.Test.YtfkagknikmibjaaDoorZA2
import Derived.Test.YtfkagknikmibjaaDoorZD2
import Derived.RangeFuncNested
import Derived.Laws.EntriesVeiled
set_option linter.unusedVariables false
set_option linter.unusedSimpArgs false
namespace Go.Proofs.YtfkagknikmibjaaDoor
open Go.RowKit Go.Shelf
attribute [local go_sem] max2_i min2_i max_two min_two

set_option maxRecDepth 100000 in
set_option maxHeartbeats 1000000 in
theorem dless_c (A : Option Addr) (c a : Nat) (B : Option Addr) (d b : Nat) (w : World) (hA : NatV w A c a) (hB : NatV w B d b) (ha : nl a ≤ 1073741824) (hb : nl b ≤ 1073741824) :
    Calls Tryd.prog 51 #[.slice A (nl a) c, .slice B (nl b) d] w (RetN w (a - b)) := by
  by_cases h : b ≤ a
  · go_enter Tryd.func51, Tryd.ntmps51
    go_wp2_with (fail)
    refine (sub_c A c a B d b w hA hB ha hb h).mono ?_
    rintro e w1 ⟨X, cx, rfl, h1, h2⟩
    go_wp2_with (fail)
    go_ret
    exact ⟨X, cx, rfl, h1, h2⟩
  · go_enter Tryd.func51, Tryd.ntmps51
    go_wp2_with (fail)
    refine (subNot_c A c a B d b w hA hB ha hb (by omega)).mono ?_
    rintro e w1 ⟨rfl, h2⟩
    go_wp2_with (fail)
    go_ret
    rw [show a - b = 0 by omega]
    exact ⟨none, 0, by rw [nl_zero]; rfl, ⟨by rw [limbs_zero]; exact Rd.nil, by rw [nl_zero]; exact Nat.le_refl _, by decide⟩, h2⟩
set_option maxRecDepth 100000 in
set_option maxHeartbeats 1000000 in
theorem done_c (w : World) :
    Calls Tryd.prog 52 #[] w (RetN w 1) := by
  have b1 : Below w.heap.size w (w.alloc (.cells #[.int .u32 1] 23)) := (Below.refl _ _).alloc (Nat.le_refl _) _
  have h1 := nat_one _ _ (heap_alloc_new w (.cells #[.int .u32 1] 23))
  replace h1 := Lib.hid h1
  go_enter Tryd.func52, Tryd.ntmps52
  go_wp2_with (fail)
  go_ret
  exact ⟨some ⟨w.heap.size, 0, none⟩, 1, by rw [nl_one]; rfl, h1.out, b1⟩
set_option maxRecDepth 100000 in
set_option maxHeartbeats 1000000 in
theorem dlow_c (A : Option Addr) (c a n : Nat) (w : World) (hA : NatV w A c a) (ha : nl a ≤ 1073741824) (hn : n ≤ 1073741824) :
    Calls Tryd.prog 49 #[.slice A (nl a) c, .int .i64 (n : Nat)] w (RetN w (a % 4294967296 ^ n)) := by
  obtain ⟨m, hm⟩ : ∃ m, m = min n (nl a) := ⟨_, rfl⟩
  have hmI : min (n : Int) (nl a : Int) = (m : Int) := by omega
  have hma : m ≤ nl a := by omega
  have hv : val ((limbs a).take m) = a % 4294967296 ^ n := by
    rw [val_take (lim_limbs a), val_limbs]
    rcases Nat.le_total n (nl a) with h | h
    · rw [hm, Nat.min_eq_left h]
    · rw [hm, Nat.min_eq_right h, mod_nl (Nat.le_refl _), mod_nl h]
  have hc := hA.cap
  have hT : Rd w A ((limbs a).take m) := by
    rcases hA.rd with h | ⟨ad, rfl, h⟩
    · exact .inl (by simp [vals] at h ⊢; simp [h])
    · refine .inr ⟨ad, rfl, fun i u hu => h i u ?_⟩
      simp only [vals, List.map_take] at hu ⊢
      rw [List.getElem?_take] at hu
      split at hu
      · exact hu
      · cases hu
  have C := fun (X : Option Addr) (n d : Nat) (h : Rd w X ((limbs a).take m)) (hn : n = m) (hd : n ≤ d) => make_c X n d ((limbs a).take m) w (by rw [List.length_take, hn]; exact Nat.min_eq_left hma) h ((lim_limbs a).take m) (by omega) hd
  rw [hv] at C
  replace C := Lib.hid C
  replace hT := Lib.hid hT
  replace hm := Lib.hid hm
  replace hv := Lib.hid hv
  go_enter Tryd.func49, Tryd.ntmps49
  go_wp2_with (fail)
  · refine (C.out _ _ _ ?_ rfl ?_).mono ?_
    · exact hT.out
    · omega
    rintro e w1 ⟨X, cx, rfl, h1, h2⟩
    go_wp2_with (fail)
    go_ret
    exact ⟨X, cx, rfl, h1, h2⟩
set_option maxRecDepth 100000 in
set_option maxHeartbeats 1000000 in
theorem dhigh_c (A : Option Addr) (c a n : Nat) (w : World) (hA : NatV w A c a) (ha : nl a ≤ 1073741824) (hn : n ≤ 33554432) :
    Calls Tryd.prog 47 #[.slice A (nl a) c, .int .i64 (n : Nat)] w (RetN w (a / 4294967296 ^ n)) := by
  have e : 2 ^ (32 * n) = 4294967296 ^ n := by rw [Nat.pow_mul]
  have C := shr_e A c a (32 * (n : Int)) (32 * n) w hA ha (by omega) (by omega)
  rw [e] at C
  replace C := Lib.hid C
  clear e
  go_enter Tryd.func47, Tryd.ntmps47
  go_wp2_with (fail)
  refine C.out.mono ?_
  rintro e w1 ⟨X, cx, rfl, h1, h2⟩
  go_wp2_with (fail)
  go_ret
  exact ⟨X, cx, rfl, h1, h2⟩
set_option maxRecDepth 100000 in
set_option maxHeartbeats 1000000 in
theorem djoin_c (A : Option Addr) (c a : Nat) (B : Option Addr) (d b n : Nat) (w : World) (hA : NatV w A c a) (hB : NatV w B d b) (ha : nl a ≤ 33554432) (hb : nl b ≤ 33554432) (hn : n ≤ 33554432) :
    Calls Tryd.prog 48 #[.slice A (nl a) c, .slice B (nl b) d, .int .i64 (n : Nat)] w (RetN w (a * 4294967296 ^ n + b)) := by
  have e : 2 ^ (32 * n) = 4294967296 ^ n := by rw [Nat.pow_mul]
  have C := shl_e A c a (32 * (n : Int)) (32 * n) w hA (by omega) (by omega) (by omega)
  rw [e] at C
  have hl0 : nl (a * 4294967296 ^ n) ≤ nl a + n := by
    rw [nl_le, Nat.pow_add]
    exact Nat.mul_lt_mul_of_pos_right (nl_lt a) (Nat.pow_pos (by decide))
  have hl : nl (a * 4294967296 ^ n) ≤ 1073741824 := by omega
  replace C := Lib.hid C
  clear e
  go_enter Tryd.func48, Tryd.ntmps48
  go_wp2_with (fail)
  refine C.out.mono ?_
  rintro e w1 ⟨X, cx, rfl, h1, h2⟩
  have C2 := add_c X cx _ B d b w1 h1 (hB.below h2) hl (by omega)
  replace C2 := Lib.hid C2
  go_wp2_with (fail)
  refine C2.out.mono ?_
  rintro e w2 ⟨Y, cy, rfl, h3, h4⟩
  go_wp2_with (fail)
  go_ret
  exact ⟨Y, cy, rfl, h3, Below.cons h2 h4⟩
/-- The natural that a value shows. -/
def natOf (W : World) (v : Value) : Nat := match v with
  | .slice (some ad) n _ => val ((List.range n).map fun i => match W.cell? (ad.add i) with | some (.int _ x) => x.toNat | _ => 0)
  | _ => 0
theorem NatV.of {W : World} {A : Option Addr} {c a : Nat} (h : NatV W A c a) : natOf W (.slice A (nl a) c) = a := by
  rcases h.rd with h1 | ⟨ad, rfl, h1⟩
  · have h0 : limbs a = [] := by simpa [vals] using h1
    have h2 : a = 0 := by rw [← val_limbs a, h0]; rfl
    have h3 : nl a = 0 := by rw [h2, nl_zero]
    unfold natOf
    rw [h3, h2]
    cases A <;> rfl
  · show val _ = a
    rw [show ((List.range (nl a)).map fun i => match W.cell? (ad.add i) with | some (.int _ x) => x.toNat | _ => 0) = limbs a from ?_, val_limbs]
    apply List.ext_getElem
    · simp [nl]
    · intro i h2 h3
      have h4 := h1 i _ (vals_get (limbs a) i h3)
      rw [List.getElem_map, List.getElem_range, h4]
      simp only [Int.toNat_natCast]
      exact gl_get h3
/-- What a mending leaves. -/
def RetQ2 (w : World) (q r : Nat) (e : Ending) (w' : World) : Prop := ∃ X cx Y cy, e = .returned (.tuple #[.slice X (nl q) cx, .slice Y (nl r) cy]) ∧ NatV w' X cx q ∧ NatV w' Y cy r ∧ Below w.heap.size w w'
theorem over_pos {q b a : Nat} (h : a < q * b) : 1 ≤ q := by
  rcases Nat.eq_zero_or_pos q with e | e
  · rw [e, Nat.zero_mul] at h; omega
  · exact e
theorem less_mul {q b : Nat} (h : 1 ≤ q) : q * b - b = (q - 1) * b := by
  rw [Nat.sub_mul, Nat.one_mul]
set_option maxRecDepth 100000 in
set_option maxHeartbeats 4000000 in
theorem mend_c (A : Option Addr) (c a : Nat) (B : Option Addr) (d b : Nat) (Q0 : Option Addr) (e0 q0 : Nat) (w : World) (hA : NatV w A c a) (hB : NatV w B d b) (hQ : NatV w Q0 e0 q0) (hG : Flds w) (ha : nl a ≤ 1048576) (hb : nl b ≤ 16384) (hq : nl q0 ≤ 16384) (hb0 : 0 < b) :
    Calls Tryd.prog 44 #[.slice A (nl a) c, .slice B (nl b) d, .slice Q0 (nl q0) e0] w (RetQ2 w (a / b) (a % b)) := by
  have C0 := mul_c Q0 e0 q0 B d b w hQ hB hG hq hb
  obtain ⟨p0, hp0⟩ : ∃ p, p = q0 * b := ⟨_, rfl⟩
  have hp0l : nl p0 ≤ 32768 := by rw [hp0]; have := nl_mul q0 b; omega
  rw [← hp0] at C0
  replace C0 := Lib.hid C0
  replace hp0 := Lib.hid hp0
  have hA3 : ∀ W, Below w.heap.size w W → NatV W A c a := fun W hW => hA.below hW
  have hB3 : ∀ W, Below w.heap.size w W → NatV W B d b := fun W hW => hB.below hW
  have hQ3 : ∀ W, Below w.heap.size w W → NatV W Q0 e0 q0 := fun W hW => hQ.below hW
  replace hA3 := Lib.hid hA3
  replace hB3 := Lib.hid hB3
  replace hQ3 := Lib.hid hQ3
  clear hA hB hQ hG
  go_enter Tryd.func44, Tryd.ntmps44
  go_wp2_with (fail)
  refine C0.out.mono ?_
  rintro e w1 ⟨X1, x1, rfl, k1, k2⟩
  have kq := hQ3.out _ k2
  replace k2 := Lib.hid k2
  go_wp2_with (fail)
  go_loopw [2, 8] (fun v2 v8 wr => ∃ (X : Option Addr) (cx q : Nat) (Y : Option Addr) (cy p : Nat), v2 = .slice X (nl q) cx ∧ v8 = .slice Y (nl p) cy ∧ NatV wr X cx q ∧ NatV wr Y cy p ∧ Hid (p = q * b) ∧ nl p ≤ 32768 ∧ nl q ≤ 16384 ∧ Hid (Below w.heap.size w wr)) (fun v2 v8 wr => natOf wr v2)
  case atStart => exact ⟨Q0, e0, q0, X1, x1, p0, rfl, rfl, kq, k1, hp0, hp0l, hq, k2⟩
  case round =>
    obtain ⟨X, cx, q, Y, cy, p, rfl, rfl, hX, hY, hpq, hpl, hql, hW⟩ := hrel
    have hAw := hA3.out _ hW.out
    have hBw := hB3.out _ hW.out
    have CC := cmp_c Y cy p A c a wr hY hAw (by omega) (by omega)
    by_cases hpa : a < p
    · have t1 : decide (0 < cmpN p a) = true := by rw [decide_eq_true_eq, cmpN_pos]; exact hpa
      have C1 := fun (W : World) => done_c W
      have hq1 := over_pos (show a < q * b by rw [← hpq.out]; exact hpa)
      replace CC := Lib.hid CC
      replace C1 := Lib.hid C1
      go_wp2_with (fail)
      refine CC.out.mono ?_
      rintro e w2 ⟨rfl, m2⟩
      go_wp2_with (fail)
      refine (C1.out w2).mono ?_
      rintro e w3 ⟨Z3, z3, rfl, k3, m3⟩
      have m23 := m2.cons m3
      have C3 := dless_c X cx q Z3 z3 1 w3 (hX.below m23) k3 (by omega) (by rw [nl_one]; decide)
      replace C3 := Lib.hid C3
      go_wp2_with (fail)
      refine C3.out.mono ?_
      rintro e w4 ⟨Z4, z4, rfl, k4, m4⟩
      have m24 := m23.cons m4
      have C4 := dless_c Y cy p B d b w4 (hY.below m24) (hBw.below m24) (by omega) (by omega)
      replace C4 := Lib.hid C4
      go_wp2_with (fail)
      refine C4.out.mono ?_
      rintro e w5 ⟨Z5, z5, rfl, k5, m5⟩
      have k45 := k4.below m5
      have HB := Lib.hid (Below.cons (Below.cons hW.out m24) m5)
      have hmeas : natOf w5 (.slice Z4 (nl (q - 1)) z4) < natOf wr (.slice X (nl q) cx) := by rw [k45.of, hX.of]; omega
      replace hmeas := Lib.hid hmeas
      have hsub : Hid (p - b = (q - 1) * b) := Lib.hid (by rw [hpq.out]; exact less_mul hq1)
      have l1 : nl (p - b) ≤ 32768 := Nat.le_trans (nl_mono (Nat.sub_le _ _)) hpl
      have l2 : nl (q - 1) ≤ 16384 := Nat.le_trans (nl_mono (Nat.sub_le _ _)) hql
      go_wp2_with (fail)
      go_roundw
      case rel => exact ⟨Z4, z4, q - 1, Z5, z5, p - b, rfl, rfl, k45, k5, hsub, l1, l2, HB⟩
      case measure => exact hmeas.out
    · have t1 : decide (0 < cmpN p a) = false := by rw [decide_eq_false_iff_not, cmpN_pos]; exact hpa
      replace CC := Lib.hid CC
      go_wp2_with (fail)
      refine CC.out.mono ?_
      rintro e w2 ⟨rfl, m2⟩
      have C5 := dless_c A c a Y cy p w2 (hAw.below m2) (hY.below m2) (by omega) (by omega)
      replace C5 := Lib.hid C5
      have hX2 := hX.below m2
      go_wp2_with (fail)
      refine C5.out.mono ?_
      rintro e w3 ⟨Z3, z3, rfl, k3, m3⟩
      have hX3 := hX2.below m3
      have hW3 := Lib.hid (Below.cons (Below.cons hW.out m2) m3)
      have hs : Hid (a = q * b + (a - p)) := Lib.hid (by rw [← hpq.out]; omega)
      clear hX hX2 hAw hBw hY
      replace hW := Lib.hid hW.out
      go_wp2_with (fail)
      go_loopw [2, 9] (fun v2 v9 wt => ∃ (X : Option Addr) (cx q : Nat) (Y : Option Addr) (cy r : Nat), v2 = .slice X (nl q) cx ∧ v9 = .slice Y (nl r) cy ∧ NatV wt X cx q ∧ NatV wt Y cy r ∧ Hid (a = q * b + r) ∧ Hid (Below w.heap.size w wt)) (fun v2 v9 wt => natOf wt v9)
      case atStart => exact ⟨X, cx, q, Z3, z3, a - p, rfl, rfl, hX3, k3, hs, hW3⟩
      case round =>
        clear hX3 k3
        obtain ⟨X, cx, q, Y, cy, r, rfl, rfl, hX, hY, har, hW⟩ := hrel
        have hBw := hB3.out _ hW.out
        have hra : nl r ≤ 1048576 := by
          have : nl r ≤ nl a := nl_mono (by have := har.out; omega)
          omega
        have hqa : nl q ≤ 1048576 := by
          have : nl q ≤ nl a := nl_mono (by have h := har.out; have := Nat.le_mul_of_pos_right q hb0; omega)
          omega
        have CC := cmp_c Y cy r B d b wr hY hBw (by omega) (by omega)
        by_cases hrb : b ≤ r
        · have t2 : decide (0 ≤ cmpN r b) = true := by
            rw [decide_eq_true_eq]
            rcases Nat.lt_or_ge (b) r with h | h
            · exact Int.le_of_lt (cmpN_pos.2 h)
            · rw [cmpN_eq (by omega)]; decide
          have C1 := fun (W : World) => done_c W
          replace CC := Lib.hid CC
          replace C1 := Lib.hid C1
          replace t1 := Lib.hid t1
          go_wp2_with (fail)
          refine CC.out.mono ?_
          rintro e w2 ⟨rfl, m2⟩
          go_wp2_with (fail)
          refine (C1.out w2).mono ?_
          rintro e w3 ⟨Z3, z3, rfl, k3, m3⟩
          have m23 := m2.cons m3
          have C3 := add_c X cx q Z3 z3 1 w3 (hX.below m23) k3 (by omega) (by rw [nl_one]; decide)
          replace C3 := Lib.hid C3
          go_wp2_with (fail)
          refine C3.out.mono ?_
          rintro e w4 ⟨Z4, z4, rfl, k4, m4⟩
          have m24 := m23.cons m4
          have C4 := dless_c Y cy r B d b w4 (hY.below m24) (hBw.below m24) (by omega) (by omega)
          replace C4 := Lib.hid C4
          go_wp2_with (fail)
          refine C4.out.mono ?_
          rintro e w5 ⟨Z5, z5, rfl, k5, m5⟩
          have k45 := k4.below m5
          have HB := Lib.hid (Below.cons (Below.cons hW.out m24) m5)
          have hmeas : natOf w5 (.slice Z5 (nl (r - b)) z5) < natOf wr (.slice Y (nl r) cy) := by rw [k5.of, hY.of]; omega
          replace hmeas := Lib.hid hmeas
          have hsub : Hid (a = (q + 1) * b + (r - b)) := Lib.hid (by rw [Nat.add_mul, Nat.one_mul]; have := har.out; omega)
          go_wp2_with (fail)
          go_roundw
          case rel => exact ⟨Z4, z4, q + 1, Z5, z5, r - b, rfl, rfl, k45, k5, hsub, HB⟩
          case measure => exact hmeas.out
        · have t2 : decide (0 ≤ cmpN r b) = false := by rw [decide_eq_false_iff_not]; have := cmpN_neg.2 (show r < b by omega); omega
          have hfin : q = a / b ∧ r = a % b := by
            have h := har.out
            constructor
            · rw [h, Nat.mul_comm, Nat.mul_add_div hb0, Nat.div_eq_of_lt (by omega)]; rfl
            · rw [h, Nat.mul_comm, Nat.mul_add_mod, Nat.mod_eq_of_lt (by omega)]
          replace CC := Lib.hid CC
          replace t1 := Lib.hid t1
          replace hfin := Lib.hid hfin
          go_wp2_with (fail)
          refine CC.out.mono ?_
          rintro e w2 ⟨rfl, m2⟩
          have hX2 := hX.below m2
          have hY2 := hY.below m2
          have HB := Below.cons hW.out m2
          go_wp2_with (fail)
          refine bodyPost_ret (v := .tuple #[.slice X (nl q) cx, .slice Y (nl r) cy]) (by simp [results, Tryd.results44, go_sem]) rfl ?_
          rw [hfin.out.1] at hX2 ⊢
          rw [hfin.out.2] at hY2 ⊢
          exact ⟨X, cx, Y, cy, rfl, hX2, hY2, HB⟩
end Go.Proofs.YtfkagknikmibjaaDoor

/- Limbs from the last to the first: slices.Backward as a range-over-func; a division of two words by one. -/
set_option linter.unusedVariables false
set_option linter.unusedSimpArgs false
namespace Go.Proofs.YtfkagknikmibjaaDoor
open Go.RowKit Go.Shelf

attribute [local go_sem] Oper.semAt_some

/-- So many places, from the last one down. -/
def upto (n : Nat) : Nat → List {x : Nat // x < n}
  | 0 => []
  | d + 1 => upto n d ++ (if h : n - 1 - d < n then [⟨n - 1 - d, h⟩] else [])
theorem upto_step {n k : Nat} (h : k < n) : upto n (n - (k + 1)) ++ [⟨k, h⟩] = upto n (n - k) := by
  obtain ⟨d, hd⟩ : ∃ d, d = n - (k + 1) := ⟨_, rfl⟩
  rw [show n - k = d + 1 by omega, ← hd]
  have e : n - 1 - d = k := by omega
  subst e
  rw [upto, dif_pos (by omega)]
theorem upto_len {n d : Nat} (h : d ≤ n) : (upto n d).length = d := by
  induction d with
  | zero => rfl
  | succ d ih => rw [upto, dif_pos (by omega), List.length_append, ih (by omega)]; rfl
set_option maxRecDepth 100000 in
set_option maxHeartbeats 1000000 in
theorem backward_c (A : Option Addr) (n c : Nat) (w : World) :
    Calls Tryd.prog 54 #[.slice A n c] w fun e w' =>
      e = .returned (.func (.func 70) #[] #[.pointer (some ⟨w.heap.size, 0, none⟩)]) ∧ w' = w.alloc (.cells #[.slice A n c] 22) := by
  go_enter Tryd.func54, Tryd.ntmps54
  go_wp2_with (fail)
  go_ret
  exact ⟨rfl, rfl⟩
set_option maxRecDepth 100000 in
set_option maxHeartbeats 2000000 in
theorem backward1_in (l Ba : Nat) (S : Nat → Prop) (A : Option Addr) (na ca : Nat) (a : List Nat)
    (hna : a.length = na) (hla : na ≤ 1099511627776)
    (hSa : S Ba) (hSA : ∀ ad i, A = some ad → i < a.length → S (ad.add i).block)
    (J Jx : List {x : Nat // x < na} → World → Prop) (hJd : ∀ pre W, J pre W → J pre W.drew)
    (hY : ∀ pre x W, J pre W → pre.length < na → YieldAt Fence.wide 2 Tryd.prog l #[.int .i64 (x.1 : Nat), .int .u32 (gl a x.1 : Nat)] W fun e W' =>
      (e = .returned (.bool true) ∧ J (pre ++ [x]) W' ∧ KeepC S W W') ∨ (e = .returned (.bool false) ∧ Jx (pre ++ [x]) W'))
    (W : World) (h1 : W.cell? ⟨Ba, 0, none⟩ = some (.slice A na ca)) (hA : Rd W A a) (h0 : J [] W) :
    CallsIn Fence.wide 3 Tryd.prog 70 #[.func (.yield l) #[] #[], .pointer (some ⟨Ba, 0, none⟩)] W fun e W' =>
      (∃ v, e = .returned v) ∧ ((∃ xs, xs = upto na na ∧ J xs W') ∨ (∃ pre, pre.length ≤ na ∧ Jx pre W')) := by
  refine callsIn_of_wp Tryd.func70 rfl trivial ?_ rfl
  simp only [Tryd.ntmps70, List.size_toArray, List.length_cons, List.length_nil, Nat.reduceAdd, Nat.reduceSub, Array.replicate_succ, Array.replicate_zero, List.push_toArray, List.append_toArray, List.nil_append, List.cons_append]
  have HY := Lib.hid hY
  clear hY
  gi_wp2_with (fail)
  gi_loopw [3] (fun i wr => ∃ k : Nat, i = .int .i64 ((k : Int) - 1) ∧ k ≤ na ∧ J (upto na (na - k)) wr ∧ KeepC S W wr) (fun i wr => (intOf i + 1).toNat)
  case atStart => exact ⟨na, rfl, Nat.le_refl _, by rw [Nat.sub_self]; exact h0, fun p v _ h => h⟩
  case round =>
    obtain ⟨k, rfl, hk, hJ, hK⟩ := hrel
    cases k with
    | zero =>
      gi_wp2_with (fail)
      refine bodyPost_end (results_none rfl _ _ _) rfl ?_
      exact ⟨⟨_, rfl⟩, .inl ⟨_, rfl, hJ⟩⟩
    | succ k =>
      rw [show (((k + 1 : Nat) : Int) - 1) = (k : Int) by omega]
      have hkna : k < na := by omega
      have g1 := hK _ _ hSa h1
      have HA : Rd wr A a := hK.rd hSA hA
      obtain ⟨ad, rfl, hc⟩ := HA.get k (by omega)
      obtain ⟨fn, tmps, assign, body, hy, hR⟩ := HY.out _ (⟨k, hkna⟩ : {x : Nat // x < na}) wr hJ (by rw [upto_len (by omega)]; omega)
      have HR := Lib.hid (hR.mono (R' := fun e W' => ∃ b, e = .returned (.bool b) ∧ Hid ((b = true ∧ J (upto na (na - (k + 1)) ++ [(⟨k, hkna⟩ : {x : Nat // x < na})]) W' ∧ KeepC S wr W') ∨ (b = false ∧ Jx (upto na (na - (k + 1)) ++ [(⟨k, hkna⟩ : {x : Nat // x < na})]) W'))) (by
        rintro e W' (⟨rfl, h⟩ | ⟨rfl, h⟩)
        · exact ⟨true, rfl, Lib.hid (.inl ⟨rfl, h⟩)⟩
        · exact ⟨false, rfl, Lib.hid (.inr ⟨rfl, h⟩)⟩))
      have HK := Lib.hid hK
      have hlen : (upto na (na - (k + 1)) ++ [(⟨k, hkna⟩ : {x : Nat // x < na})]).length ≤ na := by rw [upto_step hkna, upto_len (by omega)]; omega
      clear hA hK hR hSA hJ hJd HA
      gi_wp2_with (first | (refine (Hid.out HR).mono ?_; rintro e W' ⟨y, rfl, hy⟩))
      · cases y with
        | true => exact absurd ‹(!true) = true› (by decide)
        | false =>
          obtain ⟨h, _⟩ | ⟨_, hx⟩ := hy.out
          · cases h
          · refine bodyPost_ret (results_none rfl _ _ _) rfl ?_
            exact ⟨⟨_, rfl⟩, .inr ⟨_, hlen, hx⟩⟩
      · cases y with
        | true =>
          obtain ⟨_, hJ2, hK2⟩ | ⟨h, _⟩ := hy.out
          · go_roundw
            case rel => exact ⟨k, rfl, by omega, by rw [← upto_step hkna]; exact hJ2, HK.out.t hK2⟩
            case measure => simp only [intOf]; omega
          · cases h
        | false => first | exact absurd ‹(!false) = false› (by decide) | simp_all
theorem backward_stops (Ba : Nat) (S : Nat → Prop) (A : Option Addr) (na ca : Nat) (a : List Nat) (w : World)
    (hna : a.length = na) (hla : na ≤ 1099511627776) (hSa : S Ba) (hSA : ∀ ad i, A = some ad → i < a.length → S (ad.add i).block)
    (h1 : w.cell? ⟨Ba, 0, none⟩ = some (.slice A na ca)) (hA : Rd w A a) :
    SeqStopsK Fence.wide 3 Tryd.prog 70 #[.pointer (some ⟨Ba, 0, none⟩)]
      (fun x : {x : Nat // x < na} => #[.int .i64 (x.1 : Nat), .int .u32 (gl a x.1 : Nat)]) (KeepC S) (fun xs => xs = upto na na) (fun pre => pre.length ≤ na) na w := fun l J Jx W hW hJ _ hY h0 =>
  backward1_in l Ba S A na ca a hna hla hSa hSA J Jx (fun pre W h => hJ pre W W.drew none h ⟨rfl, rfl, rfl, Nat.le_refl _, fun _ _ _ => rfl⟩ (fun r e => by cases e))
    hY W (cell_below hW h1) (hA.below hW) h0
set_option maxRecDepth 100000 in
set_option maxHeartbeats 1000000 in
theorem div32_c (h x m : Nat) (w : World) (hh : h < m) (hx : x < 4294967296) (hm : m < 4294967296) :
    Calls Tryd.prog 55 #[.int .u32 h, .int .u32 x, .int .u32 m] w fun e w' =>
      e = .returned (.tuple #[.int .u32 (((h * 4294967296 + x) / m : Nat) : Int), .int .u32 (((h * 4294967296 + x) % m : Nat) : Int)]) ∧ ∃ k, w' = w.drewN k := by
  obtain ⟨t, ht⟩ : ∃ t, t = h * 4294967296 + x := ⟨_, rfl⟩
  have hor := or64 h x (by omega) hx
  rw [← ht] at hor ⊢
  have htl : t < 18446744073709551616 := by omega
  obtain ⟨q, hq⟩ : ∃ q, q = t / m := ⟨_, rfl⟩
  obtain ⟨r, hr⟩ : ∃ r, r = t % m := ⟨_, rfl⟩
  rw [← hq, ← hr]
  have hqI : (t : Int) / (m : Int) = (q : Int) := by rw [hq]; exact (Int.natCast_ediv t m).symm
  have hrI : (t : Int) % (m : Int) = (r : Int) := by rw [hr]; exact (Int.natCast_emod t m).symm
  have hrl : r < 4294967296 := by rw [hr]; exact Nat.lt_trans (Nat.mod_lt _ (by omega)) hm
  have hql : q < 4294967296 := by
    rw [hq, Nat.div_lt_iff_lt_mul (by omega), ht]
    have h1 : (h + 1) * 4294967296 ≤ m * 4294967296 := Nat.mul_le_mul_right _ (by omega)
    rw [Nat.mul_comm 4294967296 m]
    omega
  have hm0 : ¬ (m : Int) = 0 := by omega
  have hm0N : ¬ m = 0 := by omega
  have hmb : ((m : Int) == 0) = false := ieqF (by omega)
  have hmh : decide (m ≤ h) = false := by simp; omega
  have hmh2 : ¬ m ≤ h := by omega
  replace ht := Lib.hid ht
  replace hq := Lib.hid hq
  replace hr := Lib.hid hr
  go_enter Tryd.func55, Tryd.ntmps55
  go_wp2_with (fail)
  go_quiet (fail)
  go_wp2_with (fail)
  exact bodyPost_ret (v := .tuple #[.int .u32 (q : Nat), .int .u32 (r : Nat)]) (by simp [results, Tryd.results55, go_sem]) rfl ⟨rfl, _, rfl⟩
end Go.Proofs.YtfkagknikmibjaaDoor

/- Division by a limb, walked: a range over slices.Backward. -/
set_option linter.unusedVariables false
set_option linter.unusedSimpArgs false
namespace Go.Proofs.YtfkagknikmibjaaDoor
open Go.RowKit Go.Shelf

attribute [local go_sem] Oper.semAt_some

def runD (m n : Nat) (a : List Nat) (pre : List {x : Nat // x < n}) : List Nat × Nat :=
  pre.foldl (fun s x => (s.1.set x.1 ((s.2 * 4294967296 + gl a x.1) / m), (s.2 * 4294967296 + gl a x.1) % m)) (List.replicate n 0, 0)
theorem runD_snoc (m n : Nat) (a : List Nat) (pre : List {x : Nat // x < n}) (x : {x : Nat // x < n}) : runD m n a (pre ++ [x]) = ((runD m n a pre).1.set x.1 (((runD m n a pre).2 * 4294967296 + gl a x.1) / m), ((runD m n a pre).2 * 4294967296 + gl a x.1) % m) := by
  simp [runD]
theorem snocI {α : Type} {P : List α → Prop} (h0 : P []) (h1 : ∀ l x, P l → P (l ++ [x])) : ∀ l, P l := fun l => by
  rw [← List.reverse_reverse l]
  induction l.reverse with
  | nil => exact h0
  | cons x l ih => rw [List.reverse_cons]; exact h1 _ _ ih
theorem boxed_other {W : World} {B : Nat} {t : TypeId} {v : Value} (h : Boxed W B t v) (p : Addr) (hne : B ≠ p.block) (u : Value) : Boxed (W.setCell p u) B t v := (Below.heap_setCell W p u B hne).trans h
theorem dig_div {h x m : Nat} (hh : h < m) (hx : x < 4294967296) : (h * 4294967296 + x) / m < 4294967296 := by
  rw [Nat.div_lt_iff_lt_mul (by omega)]
  have h1 : (h + 1) * 4294967296 ≤ m * 4294967296 := Nat.mul_le_mul_right _ (by omega)
  rw [Nat.mul_comm 4294967296 m]
  omega
theorem runD_ok {m n : Nat} {a : List Nat} (ha : Lim a) (hm : 0 < m) (pre : List {x : Nat // x < n}) : (runD m n a pre).1.length = n ∧ Lim (runD m n a pre).1 ∧ (runD m n a pre).2 < m := by
  induction pre using snocI with
  | h0 => exact ⟨by simp [runD], Lim.replicate n 0 (by decide), hm⟩
  | h1 pre x ih =>
    rw [runD_snoc]
    exact ⟨by rw [List.length_set]; exact ih.1, ih.2.1.set _ _ (dig_div ih.2.2 (ha.gl _)), Nat.mod_lt _ hm⟩
theorem div_dig_step {u q R m g B : Nat} (hm : 0 < m) (hu : u = (q * m + R) * B + g) : u / m = q * B + (R * B + g) / m ∧ u % m = (R * B + g) % m := by
  have e : u = (R * B + g) + m * (q * B) := by rw [hu, Nat.add_mul]; grind
  rw [e, Nat.add_mul_div_left _ _ hm, Nat.add_mul_mod_self_left]
  exact ⟨by omega, rfl⟩
theorem runD_val (a m n : Nat) (hn : nl a ≤ n) (hm : 0 < m) : ∀ d, d ≤ n → ∀ k, k + d = n → val (runD m n (limbs a) (upto n d)).1 = a / 4294967296 ^ k / m * 4294967296 ^ k ∧ (runD m n (limbs a) (upto n d)).2 = a / 4294967296 ^ k % m ∧ ∀ j, j < k → gl (runD m n (limbs a) (upto n d)).1 j = 0 := by
  intro d
  induction d with
  | zero =>
    intro _ k hk
    rw [div_nl (show nl a ≤ k by omega)]
    refine ⟨by simp [runD, upto, val_replicate], by simp [runD, upto], fun j _ => ?_⟩
    simp [runD, upto, gl, List.getD_eq_getElem?_getD, List.getElem?_replicate]
    split <;> rfl
  | succ d ih =>
    intro hd k hk
    obtain ⟨i1, i2, i3⟩ := ih (by omega) (k + 1) (by omega)
    have hs := upto_step (n := n) (k := k) (by omega)
    rw [show n - (k + 1) = d by omega, show n - k = d + 1 by omega] at hs
    have hlen := (runD_ok (m := m) (n := n) (lim_limbs a) hm (upto n d)).1
    rw [← hs, runD_snoc]
    have hB : (0 : Nat) < 4294967296 := by decide
    have e1 : a / 4294967296 ^ (k + 1) = a / 4294967296 ^ k / 4294967296 := by rw [Nat.pow_succ, Nat.div_div_eq_div_mul]
    have eg := limbs_gl a k
    obtain ⟨u, hu⟩ : ∃ u, u = a / 4294967296 ^ k := ⟨_, rfl⟩
    rw [← hu] at e1 eg
    rw [e1] at i1 i2
    have hdm := div_dig_step (u := u) (q := u / 4294967296 / m) (R := u / 4294967296 % m) (g := u % 4294967296) (B := 4294967296) hm (by
      have h1 := Nat.div_add_mod u 4294967296
      have h2 := Nat.div_add_mod (u / 4294967296) m
      rw [Nat.mul_comm (u / 4294967296 / m) m, h2]
      exact (Nat.div_add_mod' u 4294967296).symm)
    rw [← hu]
    rw [← i2, ← eg] at hdm
    refine ⟨?_, hdm.2.symm, fun j hj => by rw [gl_set_ne (by dsimp only; omega)]; exact i3 j (by omega)⟩
    have hv := val_set k (((runD m n (limbs a) (upto n d)).2 * 4294967296 + gl (limbs a) k) / m) (l := (runD m n (limbs a) (upto n d)).1) (by rw [hlen]; omega)
    rw [← gl_eq, i3 k (by omega), Nat.mul_zero, Nat.add_zero, i1] at hv
    rw [hv, hdm.1, Nat.pow_succ]
    generalize 4294967296 ^ k = P
    grind
set_option maxRecDepth 100000 in
set_option maxHeartbeats 2000000 in
theorem dsmall_c (A : Option Addr) (c a m : Nat) (w : World) (hA : NatV w A c a) (ha : nl a ≤ 16777216) (hm : m < 4294967296) (h0 : 0 < m) :
    Calls Tryd.prog 22 #[.slice A (nl a) c, .int .u32 (m : Nat)] w (RetS w (a / m) (a % m)) := by
  refine (callsIn_wide (n := 4)).1 ?_
  have hmk := mk32 (nl a) (nl a) (by omega) (by omega) (by omega)
  simp only [Int.toNat_natCast] at hmk
  have hmb : ((m : Int) == 0) = false := ieqF (by omega)
  obtain ⟨n, hn⟩ : ∃ n, n = nl a := ⟨_, rfl⟩
  have hla : (limbs a).length = n := hn.symm
  have hnl : n ≤ 16777216 := by omega
  have HA := Lib.hid hA
  rw [← hn] at hmk
  rw [show nl a = n from hn.symm]
  replace hn := Lib.hid hn
  clear hA ha
  refine callsIn_of_wp_marks Tryd.func22 rfl trivial ?_ rfl
  simp only [Tryd.ntmps22, List.size_toArray, List.length_cons, List.length_nil, Nat.reduceAdd, Nat.reduceSub, Array.replicate_succ, Array.replicate_zero, List.push_toArray, List.append_toArray, List.nil_append, List.cons_append]
  gi_wp2_with (first
    | (refine ⟨trivial, ?_⟩; gi_at_call 54; refine (callsIn_wide.2 (backward_c A n c _)).mono ?_; rintro e w' ⟨rfl, rfl⟩))
  obtain ⟨s, hs0⟩ : ∃ s, s = w.heap.size := ⟨_, rfl⟩
  obtain ⟨W8, hW8⟩ : ∃ W8, (((((w.alloc (.cells #[.int .u32 (m : Nat)] 23)).alloc (.cells (madeCells #[.int .u32 0] n) 23)).alloc (.cells #[.slice (some ⟨s + 1, 0, none⟩) n n] 22)).alloc (.cells #[.int .u32 0] 23)).alloc (.cells #[.slice A n c] 22)) = W8 := ⟨_, rfl⟩
  have bM : Boxed W8 s 23 (.int .u32 (m : Nat)) := by
    subst hs0 hW8; unfold Boxed; repeat (first | exact at_new (by simp) | refine at_old (by simp <;> omega) ?_)
  have bO : Boxed W8 (s + 2) 22 (.slice (some ⟨s + 1, 0, none⟩) n n) := by
    subst hs0 hW8; unfold Boxed; repeat (first | exact at_new (by simp) | refine at_old (by simp <;> omega) ?_)
  have bR : Boxed W8 (s + 3) 23 (.int .u32 0) := by
    subst hs0 hW8; unfold Boxed; repeat (first | exact at_new (by simp) | refine at_old (by simp <;> omega) ?_)
  have bA : Boxed W8 (s + 4) 22 (.slice A n c) := by
    subst hs0 hW8; unfold Boxed; repeat (first | exact at_new (by simp) | refine at_old (by simp <;> omega) ?_)
  have hR8 : W8.heap[s + 1]? = some (.cells (madeCells #[.int .u32 0] n) 23 (0, 0)) := by
    subst hs0 hW8; repeat (first | exact at_new (by simp) | refine at_old (by simp <;> omega) ?_)
  have hsz : W8.heap.size = s + 5 := by subst hs0 hW8; simp
  have hB0 : Below s w W8 := by
    subst hs0 hW8
    exact ((((((Below.refl _ w).alloc (Nat.le_refl _) _).alloc (by simp) _).alloc (by simp; omega) _).alloc (by simp; omega) _).alloc (by simp; omega) _)
  have hown0 : W8.ownsRow s 23 1 (.slice (some ⟨s + 1, 0, none⟩) n n) n (vals (List.replicate n 0)) := by
    refine ⟨by simp [vals], .inr ⟨s + 1, n, _, rfl, by omega, hR8, Nat.le_refl _, by simp only [maxLen]; omega, by rw [size_madeCells, Nat.mul_one], ?_⟩⟩
    rw [toList_madeCells_one]
    simp [vals]
  rw [← hs0]
  simp only [Nat.add_assoc, Nat.reduceAdd]
  rw [hW8]
  clear hW8
  have HS := Lib.hid hs0
  have hlt : ∀ (X : Option Addr) (l : List Nat), Rd w X l → ∀ ad i, X = some ad → i < l.length → (ad.add i).block < s := fun X l hX ad i e hi => by
    subst e
    obtain ⟨ad', e', hc⟩ := hX.get i hi
    cases e'
    rw [hs0]; exact World.block_lt_of_cell? w _ hc
  clear hs0
  refine wpIn_rangeFunc_ownF (Kp := KeepC (fun k => k < s ∨ k = s + 4)) (w0 := W8) rfl (by omega) (gf := 70) (lb := #[.pointer (some ⟨s + 4, 0, none⟩)]) rfl trivial (enters_of Tryd.func70 (by kernel_rfl) rfl)
    (backward_stops (s + 4) _ A n c (limbs a) W8 hla (by omega) (.inr rfl) (fun ad i e hi => .inl (hlt A (limbs a) HA.out.rd ad i e hi)) bA.cell (HA.out.rd.below (HS.out ▸ hB0)))
    KeepC.t KeepC.b (Below.refl _ _) (fun _ => rfl)
    (fun pre W => (Boxed W (s + 2) 22 (.slice (some ⟨s + 1, 0, none⟩) n n) ∧ W.ownsRow s 23 1 (.slice (some ⟨s + 1, 0, none⟩) n n) n (vals (runD m n (limbs a) pre).1)) ∧ Boxed W (s + 3) 23 (.int .u32 ((runD m n (limbs a) pre).2 : Nat)) ∧
      Boxed W s 23 (.int .u32 (m : Nat)) ∧ Below s w W)
    (fun _ _ _ => False) ?own (fun _ _ _ _ _ hs _ _ => hs) ?start
    (fun x => { tmps := #[.slice A n c, .int .u32 (m : Nat), undef, .pointer (some ⟨s, 0, none⟩), .slice none 0 0, .int .u32 0, .int .i64 0, .pointer (some ⟨s + 2, 0, none⟩), .pointer (some ⟨s + 3, 0, none⟩), .int .i64 (x.1 : Nat), .int .u32 (gl (limbs a) x.1 : Nat),
      .int .u32 (m : Nat), .bool false, .slice A n c, .int .i64 n, .slice (some ⟨s + 1, 0, none⟩) n n, .slice A n c, .func (.func 70) #[] #[.pointer (some ⟨s + 4, 0, none⟩)], .int .i64 (x.1 : Nat), .int .u32 (gl (limbs a) x.1 : Nat),
      undef, undef, undef, undef, undef, undef, undef, undef, undef, undef, undef, undef, undef], defers := [] }) ?assign ?body ?done ?stop
  case own =>
    refine OwnFrom.and (Own.from ?_ _) (OwnFrom.and (Own.from (boxed_own _ _ _) _) (OwnFrom.and (Own.from (boxed_own _ _ _) _) (ownFrom_below (Nat.le_of_eq HS.out) (by omega))))
    intro pre Y Z row h hg hr
    obtain ⟨h1, h2⟩ := h
    refine ⟨boxed_own _ _ (fun _ : Unit => _) () Y Z row h1 hg hr, h2.kept hg (.inr (fun e => ?_))⟩
    obtain ⟨o, ho, hc⟩ := hr (s + 1) e.symm
    rcases h2.2 with ⟨h, _⟩ | ⟨g, cap, cur, h, _, hgb, _⟩
    · cases h
    · cases h; rw [hgb] at ho; cases ho; cases hc
  case start => exact ⟨⟨bO, hown0⟩, bR, bM, hB0⟩
  case assign =>
    intro l x W K hK
    gi_wp2
    exact hK
  case stop =>
    rintro D c pre W _ _ h _
    exact h.elim
  case done =>
    rintro D ys W hD rfl ⟨⟨hv, hrow⟩, hr, hmm, hB⟩ hK
    have hval := runD_val a m n (Nat.le_of_eq hn.out.symm) h0 n (Nat.le_refl _) 0 (by omega)
    rw [Nat.pow_zero, Nat.div_one, Nat.mul_one] at hval
    have hok := runD_ok (m := m) (n := n) (lim_limbs a) h0 (upto n n)
    obtain ⟨X, cx, hXe, hcx, hcm, hrd⟩ := ownV_rd hrow
    cases hXe
    rw [hval.2.1] at hr
    have hc := hv.cell
    have hrc := hr.cell
    have hmake := fun (V : World) (h : Below W.heap.size W V) => make_c (some ⟨s + 1, 0, none⟩) n n (runD m n (limbs a) (upto n n)).1 V hok.1 (hrd.below h) hok.2.1 (by omega) hcx
    rw [hval.1] at hmake
    have HM := Lib.hid hmake
    replace hval := Lib.hid hval
    clear hmake hrow hrd hv hok
    gi_wp2_with (fail)
    refine wpIn_region_inv (fun E a' w' => ∃ (v4 v5 v6 u30 u31 u32 : Value) (Y : Option Addr) (cy : Nat),
      a' = { tmps := #[.slice A n c, .int .u32 (m : Nat), undef, .pointer (some ⟨s, 0, none⟩), v4, v5, v6, .pointer (some ⟨s + 2, 0, none⟩), .pointer (some ⟨s + 3, 0, none⟩), undef, undef,
        .int .u32 (m : Nat), .bool false, .slice A n c, .int .i64 n, .slice (some ⟨s + 1, 0, none⟩) n n, .slice A n c, .func (.func 70) #[] #[.pointer (some ⟨s + 4, 0, none⟩)], undef, undef,
        undef, undef, undef, undef, undef, undef, undef, undef, undef, undef, u30, u31, u32], defers := [{ target := Target.collected D, args := #[] }] } ∧
      (E 0 = true → u30 = .slice (some ⟨s + 1, 0, none⟩) n n) ∧ (E 1 = true → u31 = .slice Y (nl (a / m)) cy ∧ NatV w' Y cy (a / m)) ∧ (E 2 = true → u32 = .int .u32 ((a % m : Nat) : Int)) ∧
      (E 3 = true → v4 = .slice Y (nl (a / m)) cy) ∧ (E 4 = true → v5 = .int .u32 ((a % m : Nat) : Int)) ∧ (E 5 = true → v6 = .int .i64 0) ∧ (E 3 = true → E 1 = true) ∧ Below W.heap.size W w')
      (by kernel_rfl) (by kernel_rfl) ?init ?fin ?step
    case init => exact ⟨_, _, _, _, _, _, none, 0, rfl, by simp, by simp, by simp, by simp, by simp, by simp, by simp, (Below.refl _ _).drew⟩
    case fin =>
      rintro E a' w' ⟨v4, v5, v6, u30, u31, u32, Y, cy, rfl, h30, h31, h32, h4, h5, h6, _, hbY⟩ hall
      obtain ⟨_, hY⟩ := h31 (hall 1 (by decide))
      obtain rfl := h4 (hall 3 (by decide))
      obtain rfl := h5 (hall 4 (by decide))
      obtain rfl := h6 (hall 5 (by decide))
      gi_wp2_with (fail)
      have hDlt : D < W.heap.size := (Array.getElem?_eq_some_iff.1 hK).1
      have hK1 := (hbY.block D hDlt).trans hK
      refine ⟨by simp, .inl ⟨_, _, rfl, run_takeDeferred hK1, ?_⟩⟩
      have hDs : s ≤ D := by omega
      have hWs : s ≤ W.heap.size := by omega
      have hp : Below s w (w'.putObj D (.deferred none)) := (hB.trans (hbY.mono hWs)).trans (belowK_b (w := W8) (by omega) w' D _ _ hD hK1 rfl rfl)
      have hp2 : Below w.heap.size w (w'.putObj D (.deferred none)) := hp.mono (Nat.le_of_eq HS.out.symm)
      refine ⟨.tuple #[.slice Y (nl (a / m)) cy, .int .u32 ((a % m : Nat) : Int), .int .i64 0], by simp [results, Tryd.results22, go_sem], ?_⟩
      refine ⟨Y, cy, rfl, ⟨?_, hY.cap, hY.cmax⟩, hp2⟩
      rcases hY.rd with h | ⟨ad, rfl, h⟩
      · exact .inl h
      · exact .inr ⟨ad, rfl, fun i u hu => cell_kept (h i u hu) (grownBy_putObj' w' D _) (fun r e => by cases e; exact ⟨_, hK1, rfl⟩)⟩
    case step =>
      rintro E a' w' i ⟨v4, v5, v6, u30, u31, u32, Y, cy, rfl, h30, h31, h32, h4, h5, h6, h31', hbY⟩ hi hEi hdep
      have hcell := cell_below hbY hc
      have hcellr := cell_below hbY hrc
      obtain rfl | rfl | rfl | rfl | rfl | rfl : i = 0 ∨ i = 1 ∨ i = 2 ∨ i = 3 ∨ i = 4 ∨ i = 5 := by
        simp at hi; omega
      · refine wpOpIn_step rfl (fun K' hK' => ?_)
        go_simp
        refine hK' _ _ ?_
        exact ⟨_, _, _, _, _, _, Y, cy, rfl, fun _ => rfl, keepD (by decide) h31, keepD (by decide) h32, keepD (by decide) h4, keepD (by decide) h5, keepD (by decide) h6, (fun h => by first | rfl | (have := h31' (by simpa using h); simpa using this)), hbY⟩
      · have d0 := hdep _ rfl ⟨0, .data⟩ (by simp) rfl
        obtain rfl := h30 d0
        refine wpOpIn_step rfl (fun K' hK' => ?_)
        go_simp
        refine ⟨trivial, ?_⟩
        refine (callsIn_wide.2 (HM.out w' hbY)).mono ?_
        rintro e w1 ⟨Y1, c1, rfl, k1, k2⟩
        refine hK' _ _ ?_
        exact ⟨_, _, _, _, _, _, Y1, c1, rfl, keepD (by decide) h30, fun _ => ⟨rfl, k1⟩, keepD (by decide) h32, fun h => (by have h2 := h31' (by simpa using h); rw [hEi] at h2; cases h2), keepD (by decide) h5, keepD (by decide) h6, (fun h => by simp), Below.cons hbY k2⟩
      · refine wpOpIn_step rfl (fun K' hK' => ?_)
        go_simp
        refine hK' _ _ ?_
        exact ⟨_, _, _, _, _, _, Y, cy, rfl, keepD (by decide) h30, keepD (by decide) h31, fun _ => rfl, keepD (by decide) h4, keepD (by decide) h5, keepD (by decide) h6, (fun h => by first | rfl | (have := h31' (by simpa using h); simpa using this)), hbY⟩
      · have d1 := hdep _ rfl ⟨1, .data⟩ (by simp) rfl
        obtain ⟨rfl, hY⟩ := h31 d1
        refine wpOpIn_step rfl (fun K' hK' => ?_)
        go_simp
        refine hK' _ _ ?_
        exact ⟨_, _, _, _, _, _, Y, cy, rfl, keepD (by decide) h30, fun _ => ⟨rfl, hY⟩, keepD (by decide) h32, fun _ => rfl, keepD (by decide) h5, keepD (by decide) h6, (fun h => by simp [d1]), hbY⟩
      · have d2 := hdep _ rfl ⟨2, .data⟩ (by simp) rfl
        obtain rfl := h32 d2
        refine wpOpIn_step rfl (fun K' hK' => ?_)
        go_simp
        refine hK' _ _ ?_
        exact ⟨_, _, _, _, _, _, Y, cy, rfl, keepD (by decide) h30, keepD (by decide) h31, fun _ => rfl, keepD (by decide) h4, fun _ => rfl, keepD (by decide) h6, (fun h => by first | rfl | (have := h31' (by simpa using h); simpa using this)), hbY⟩
      · refine wpOpIn_step rfl (fun K' hK' => ?_)
        go_simp
        refine hK' _ _ ?_
        exact ⟨_, _, _, _, _, _, Y, cy, rfl, keepD (by decide) h30, keepD (by decide) h31, keepD (by decide) h32, keepD (by decide) h4, keepD (by decide) h5, fun _ => rfl, (fun h => by first | rfl | (have := h31' (by simpa using h); simpa using this)), hbY⟩
  case body =>
    rintro l pre x W ⟨⟨hv, hrow⟩, hR, hM, hB⟩ hlen
    have hx := (lim_limbs a).gl x.1
    have hok := runD_ok (m := m) (n := n) (lim_limbs a) h0 pre
    have hrun := runD_snoc m n (limbs a) pre x
    have HC := fun (V : World) => div32_c (runD m n (limbs a) pre).2 (gl (limbs a) x.1) m V hok.2.2 hx hm
    have hxn := x.2
    obtain ⟨r, hr⟩ : ∃ r, r = (runD m n (limbs a) pre).2 := ⟨_, rfl⟩
    obtain ⟨L, hL⟩ : ∃ L, L = (runD m n (limbs a) pre).1 := ⟨_, rfl⟩
    obtain ⟨g, hg⟩ : ∃ g, g = gl (limbs a) x.1 := ⟨_, rfl⟩
    obtain ⟨i, hi⟩ : ∃ i, i = x.1 := ⟨_, rfl⟩
    rw [← hr, ← hL, ← hg] at hrun
    rw [← hr, ← hg] at HC
    rw [← hg, ← hi]
    rw [← hr] at hR
    rw [← hL] at hrow hok
    rw [← hi] at hxn hrun
    obtain ⟨q1, hq1⟩ : ∃ z, z = (r * 4294967296 + g) / m := ⟨_, rfl⟩
    obtain ⟨r1, hr1⟩ : ∃ z, z = (r * 4294967296 + g) % m := ⟨_, rfl⟩
    rw [← hq1, ← hr1] at HC hrun
    have HCX := Lib.hid HC
    have HRN := Lib.hid hrun
    have HOK := Lib.hid hok
    replace hr := Lib.hid hr
    replace hL := Lib.hid hL
    replace hg := Lib.hid hg
    replace hi := Lib.hid hi
    replace hq1 := Lib.hid hq1
    replace hr1 := Lib.hid hr1
    clear HC hrun hok hmk
    have cO := hv.cell
    have cR := hR.cell
    have cM := hM.cell
    have fR := hR.frozen
    have cL : W.cell? ⟨s + 1, i, none⟩ = some (.int .u32 (gl L i : Nat)) := by rw [hrow.cellAt i (by omega), vals_get L _ (by rw [HOK.out.1]; exact hxn)]
    have fL := hrow.frozenAt i
    gi_wp2_with (fail)
    refine wpIn_region_inv (fun E a' w' => ∃ (u20 u21 u22 u23 u24 u25 u26 u27 u28 u29 : Value),
      a' = { tmps := #[.slice A n c, .int .u32 (m : Nat), undef, .pointer (some ⟨s, 0, none⟩), .slice none 0 0, .int .u32 0, .int .i64 0, .pointer (some ⟨s + 2, 0, none⟩), .pointer (some ⟨s + 3, 0, none⟩), .int .i64 (i : Nat), .int .u32 (g : Nat),
        .int .u32 (m : Nat), .bool false, .slice A n c, .int .i64 n, .slice (some ⟨s + 1, 0, none⟩) n n, .slice A n c, .func (.func 70) #[] #[.pointer (some ⟨s + 4, 0, none⟩)], .int .i64 (i : Nat), .int .u32 (g : Nat),
        u20, u21, u22, u23, u24, u25, u26, u27, u28, u29, undef, undef, undef], defers := [] } ∧
      (E 0 = true → u21 = .slice (some ⟨s + 1, 0, none⟩) n n) ∧ (E 1 = true → u22 = .int .i64 (i : Nat)) ∧ (E 2 = true → u23 = .int .u32 (r : Nat)) ∧ (E 3 = true → u24 = .int .u32 (g : Nat)) ∧ (E 4 = true → u25 = .int .u32 (m : Nat)) ∧
      (E 5 = true → u26 = .tuple #[.int .u32 (q1 : Nat), .int .u32 (r1 : Nat)]) ∧ (E 6 = true → u20 = .tuple #[.int .u32 (q1 : Nat), .int .u32 (r1 : Nat)]) ∧ (E 7 = true → u27 = .int .u32 (q1 : Nat)) ∧ (E 8 = true → u28 = .int .u32 (r1 : Nat)) ∧ (E 9 = true → u29 = .pointer (some ⟨s + 1, i, none⟩)) ∧
      ((E 10 = false ∧ E 11 = false ∧ ∃ k, w' = W.drewN k) ∨ (E 0 = true ∧ E 1 = true ∧ E 2 = true ∧ E 3 = true ∧ E 4 = true ∧ E 5 = true ∧ E 6 = true ∧ E 7 = true ∧ E 9 = true ∧ E 10 = true ∧ E 11 = false ∧ ∃ k, w' = (W.drewN k).setCell ⟨s + 1, i, none⟩ (.int .u32 (q1 : Nat))) ∨ (E 0 = true ∧ E 1 = true ∧ E 2 = true ∧ E 3 = true ∧ E 4 = true ∧ E 5 = true ∧ E 6 = true ∧ E 7 = true ∧ E 8 = true ∧ E 9 = true ∧ E 10 = true ∧ E 11 = true ∧ ∃ k, w' = ((W.drewN k).setCell ⟨s + 1, i, none⟩ (.int .u32 (q1 : Nat))).setCell ⟨s + 3, 0, none⟩ (.int .u32 (r1 : Nat)))))
      (by kernel_rfl) (by kernel_rfl) ?init ?fin ?step
    case init => exact ⟨_, _, _, _, _, _, _, _, _, _, rfl, by simp, by simp, by simp, by simp, by simp, by simp, by simp, by simp, by simp, by simp, .inl ⟨rfl, rfl, 1, rfl⟩⟩
    case fin =>
      rintro E a' w' ⟨u20, u21, u22, u23, u24, u25, u26, u27, u28, u29, rfl, h0, h1, h2, h3, h4, h5, h6, h7, h8, h9, hw⟩ hall
      have d11 := hall 11 (by decide)
      simp only [d11, Bool.true_eq_false, false_and, and_false, or_false, false_or] at hw
      obtain ⟨_, _, _, _, _, _, _, _, _, _, _, _, k, rfl⟩ := hw
      have K0 : KeepsOthers W (W.drewN k) := ⟨Nat.le_refl _, fun _ _ h _ => h⟩
      show KeepsOthers W _ ∧ KeepC _ W _ ∧ _
      refine ⟨(K0.trans (KeepsOthers.setCell _ _ _)).trans (KeepsOthers.setCell _ _ _), ?_, ⟨⟨?_, ?_⟩, ?_, ?_, ?_⟩⟩
      · intro p v hp hv
        rw [World.cell?_of_block (a := p) (Below.heap_setCell _ ⟨s + 3, 0, none⟩ _ p.block (by simp; omega)), World.cell?_of_block (a := p) (Below.heap_setCell _ ⟨s + 1, i, none⟩ _ p.block (by simp; omega))]
        exact hv
      · exact (boxed_other (W := W.drewN k) hv ⟨s + 1, i, none⟩ (by simp) _).other (by omega) _
      · rw [HRN.out, vals_set]
        exact ((show (W.drewN k).ownsRow s 23 1 (.slice (some ⟨s + 1, 0, none⟩) n n) n (vals L) from hrow).stored i (.int .u32 (q1 : Nat))).1.kept (grownBy_setCell' _ (s + 3) _) (.inr (by simp [Value.ownBlock]))
      · rw [HRN.out]
        exact Boxed.set _ (boxed_other (W := W.drewN k) hR ⟨s + 1, i, none⟩ (by simp) _)
      · exact (boxed_other (W := W.drewN k) hM ⟨s + 1, i, none⟩ (by simp) _).other (by omega) _
      · exact ((hB.drewN k).setCell (p := ⟨s + 1, i, none⟩) (by simp) _).setCell (p := ⟨s + 3, 0, none⟩) (by simp) _
    case step =>
      rintro E a' w' j ⟨u20, u21, u22, u23, u24, u25, u26, u27, u28, u29, rfl, h0, h1, h2, h3, h4, h5, h6, h7, h8, h9, hw⟩ hj hEi hdep
      obtain rfl | rfl | rfl | rfl | rfl | rfl | rfl | rfl | rfl | rfl | rfl | rfl : j = 0 ∨ j = 1 ∨ j = 2 ∨ j = 3 ∨ j = 4 ∨ j = 5 ∨ j = 6 ∨ j = 7 ∨ j = 8 ∨ j = 9 ∨ j = 10 ∨ j = 11 := by
        simp at hj; omega
      · simp only [hEi, Bool.false_eq_true, false_and, and_false, or_false] at hw
        obtain ⟨e10, e11, k, rfl⟩ := hw
        refine wpOpIn_step rfl (fun K' hK' => ?_)
        go_simp
        refine hK' _ _ ?_
        exact ⟨_, _, _, _, _, _, _, _, _, _, rfl, fun _ => rfl, keepD (by decide) h1, keepD (by decide) h2, keepD (by decide) h3, keepD (by decide) h4, keepD (by decide) h5, keepD (by decide) h6, keepD (by decide) h7, keepD (by decide) h8, keepD (by decide) h9, .inl ⟨by simp [e10], by simp [e11], _, (by first | rfl | (simp only [World.drewN_drewN]; rfl))⟩⟩
      · simp only [hEi, Bool.false_eq_true, false_and, and_false, or_false] at hw
        obtain ⟨e10, e11, k, rfl⟩ := hw
        refine wpOpIn_step rfl (fun K' hK' => ?_)
        go_simp
        refine hK' _ _ ?_
        exact ⟨_, _, _, _, _, _, _, _, _, _, rfl, keepD (by decide) h0, fun _ => rfl, keepD (by decide) h2, keepD (by decide) h3, keepD (by decide) h4, keepD (by decide) h5, keepD (by decide) h6, keepD (by decide) h7, keepD (by decide) h8, keepD (by decide) h9, .inl ⟨by simp [e10], by simp [e11], _, (by first | rfl | (simp only [World.drewN_drewN]; rfl))⟩⟩
      · simp only [hEi, Bool.false_eq_true, false_and, and_false, or_false] at hw
        obtain ⟨e10, e11, k, rfl⟩ := hw
        refine wpOpIn_step rfl (fun K' hK' => ?_)
        go_simp
        refine hK' _ _ ?_
        exact ⟨_, _, _, _, _, _, _, _, _, _, rfl, keepD (by decide) h0, keepD (by decide) h1, fun _ => rfl, keepD (by decide) h3, keepD (by decide) h4, keepD (by decide) h5, keepD (by decide) h6, keepD (by decide) h7, keepD (by decide) h8, keepD (by decide) h9, .inl ⟨by simp [e10], by simp [e11], _, (by first | rfl | (simp only [World.drewN_drewN]; rfl))⟩⟩
      · simp only [hEi, Bool.false_eq_true, false_and, and_false, or_false] at hw
        obtain ⟨e10, e11, k, rfl⟩ := hw
        refine wpOpIn_step rfl (fun K' hK' => ?_)
        go_simp
        refine hK' _ _ ?_
        exact ⟨_, _, _, _, _, _, _, _, _, _, rfl, keepD (by decide) h0, keepD (by decide) h1, keepD (by decide) h2, fun _ => rfl, keepD (by decide) h4, keepD (by decide) h5, keepD (by decide) h6, keepD (by decide) h7, keepD (by decide) h8, keepD (by decide) h9, .inl ⟨by simp [e10], by simp [e11], _, (by first | rfl | (simp only [World.drewN_drewN]; rfl))⟩⟩
      · simp only [hEi, Bool.false_eq_true, false_and, and_false, or_false] at hw
        obtain ⟨e10, e11, k, rfl⟩ := hw
        refine wpOpIn_step rfl (fun K' hK' => ?_)
        go_simp
        refine hK' _ _ ?_
        exact ⟨_, _, _, _, _, _, _, _, _, _, rfl, keepD (by decide) h0, keepD (by decide) h1, keepD (by decide) h2, keepD (by decide) h3, fun _ => rfl, keepD (by decide) h5, keepD (by decide) h6, keepD (by decide) h7, keepD (by decide) h8, keepD (by decide) h9, .inl ⟨by simp [e10], by simp [e11], _, (by first | rfl | (simp only [World.drewN_drewN]; rfl))⟩⟩
      · have d2 := hdep _ rfl ⟨2, .data⟩ (by simp) rfl
        obtain rfl := h2 d2
        have d3 := hdep _ rfl ⟨3, .data⟩ (by simp) rfl
        obtain rfl := h3 d3
        have d4 := hdep _ rfl ⟨4, .data⟩ (by simp) rfl
        obtain rfl := h4 d4
        simp only [hEi, Bool.false_eq_true, false_and, and_false, or_false] at hw
        obtain ⟨e10, e11, k, rfl⟩ := hw
        refine wpOpIn_step rfl (fun K' hK' => ?_)
        go_simp
        refine ⟨trivial, ?_⟩
        refine (CallsIn.inRound l (callsIn_wide.2 (HCX.out _))).mono ?_
        rintro e V ⟨rfl, kq, rfl⟩
        refine hK' _ _ ?_
        exact ⟨_, _, _, _, _, _, _, _, _, _, rfl, keepD (by decide) h0, keepD (by decide) h1, keepD (by decide) h2, keepD (by decide) h3, keepD (by decide) h4, fun _ => rfl, keepD (by decide) h6, keepD (by decide) h7, keepD (by decide) h8, keepD (by decide) h9, .inl ⟨by simp [e10], by simp [e11], _, (by first | rfl | (simp only [World.drewN_drewN]; rfl))⟩⟩
      · have d5 := hdep _ rfl ⟨5, .data⟩ (by simp) rfl
        obtain rfl := h5 d5
        simp only [hEi, Bool.false_eq_true, false_and, and_false, or_false] at hw
        obtain ⟨e10, e11, k, rfl⟩ := hw
        refine wpOpIn_step rfl (fun K' hK' => ?_)
        go_simp
        refine hK' _ _ ?_
        exact ⟨_, _, _, _, _, _, _, _, _, _, rfl, keepD (by decide) h0, keepD (by decide) h1, keepD (by decide) h2, keepD (by decide) h3, keepD (by decide) h4, keepD (by decide) h5, fun _ => rfl, keepD (by decide) h7, keepD (by decide) h8, keepD (by decide) h9, .inl ⟨by simp [e10], by simp [e11], _, (by first | rfl | (simp only [World.drewN_drewN]; rfl))⟩⟩
      · have d6 := hdep _ rfl ⟨6, .data⟩ (by simp) rfl
        obtain rfl := h6 d6
        simp only [hEi, Bool.false_eq_true, false_and, and_false, or_false] at hw
        obtain ⟨e10, e11, k, rfl⟩ := hw
        refine wpOpIn_step rfl (fun K' hK' => ?_)
        go_simp
        refine hK' _ _ ?_
        exact ⟨_, _, _, _, _, _, _, _, _, _, rfl, keepD (by decide) h0, keepD (by decide) h1, keepD (by decide) h2, keepD (by decide) h3, keepD (by decide) h4, keepD (by decide) h5, keepD (by decide) h6, fun _ => rfl, keepD (by decide) h8, keepD (by decide) h9, .inl ⟨by simp [e10], by simp [e11], _, (by first | rfl | (simp only [World.drewN_drewN]; rfl))⟩⟩
      · have d6 := hdep _ rfl ⟨6, .data⟩ (by simp) rfl
        obtain rfl := h6 d6
        simp only [hEi, Bool.false_eq_true, false_and, and_false, or_false] at hw
        refine wpOpIn_step rfl (fun K' hK' => ?_)
        go_simp
        refine hK' _ _ ?_
        rcases hw with ⟨e10, e11, k, rfl⟩ | ⟨d0, d1, d2, d3, d4, d5, d6, d7, d9, d10, e11, k, rfl⟩
        · exact ⟨_, _, _, _, _, _, _, _, _, _, rfl, keepD (by decide) h0, keepD (by decide) h1, keepD (by decide) h2, keepD (by decide) h3, keepD (by decide) h4, keepD (by decide) h5, keepD (by decide) h6, keepD (by decide) h7, fun _ => rfl, keepD (by decide) h9, .inl ⟨by simp [e10], by simp [e11], _, rfl⟩⟩
        · exact ⟨_, _, _, _, _, _, _, _, _, _, rfl, keepD (by decide) h0, keepD (by decide) h1, keepD (by decide) h2, keepD (by decide) h3, keepD (by decide) h4, keepD (by decide) h5, keepD (by decide) h6, keepD (by decide) h7, fun _ => rfl, keepD (by decide) h9, .inr (.inl ⟨by simp [d0], by simp [d1], by simp [d2], by simp [d3], by simp [d4], by simp [d5], by simp [d6], by simp [d7], by simp [d9], by simp [d10], by simp [e11], _, rfl⟩)⟩
      · have d0 := hdep _ rfl ⟨0, .data⟩ (by simp) rfl
        obtain rfl := h0 d0
        have d1 := hdep _ rfl ⟨1, .data⟩ (by simp) rfl
        obtain rfl := h1 d1
        simp only [hEi, Bool.false_eq_true, false_and, and_false, or_false] at hw
        obtain ⟨e10, e11, k, rfl⟩ := hw
        refine wpOpIn_step rfl (fun K' hK' => ?_)
        go_simp
        refine hK' _ _ ?_
        exact ⟨_, _, _, _, _, _, _, _, _, _, rfl, keepD (by decide) h0, keepD (by decide) h1, keepD (by decide) h2, keepD (by decide) h3, keepD (by decide) h4, keepD (by decide) h5, keepD (by decide) h6, keepD (by decide) h7, keepD (by decide) h8, fun _ => rfl, .inl ⟨by simp [e10], by simp [e11], _, (by first | rfl | (simp only [World.drewN_drewN]; rfl))⟩⟩
      · have d9 := hdep _ rfl ⟨9, .data⟩ (by simp) rfl
        have d7 := hdep _ rfl ⟨7, .data⟩ (by simp) rfl
        have d0 := hdep _ rfl ⟨0, .phase⟩ (by simp) rfl
        have d1 := hdep _ rfl ⟨1, .phase⟩ (by simp) rfl
        have d2 := hdep _ rfl ⟨2, .phase⟩ (by simp) rfl
        have d3 := hdep _ rfl ⟨3, .phase⟩ (by simp) rfl
        have d4 := hdep _ rfl ⟨4, .phase⟩ (by simp) rfl
        have d5 := hdep _ rfl ⟨5, .phase⟩ (by simp) rfl
        have d6 := hdep _ rfl ⟨6, .phase⟩ (by simp) rfl
        obtain rfl := h9 d9
        obtain rfl := h7 d7
        simp only [hEi, Bool.false_eq_true, false_and, and_false, or_false, true_and] at hw
        obtain ⟨e11, k, rfl⟩ := hw
        obtain rfl := h0 d0
        obtain rfl := h1 d1
        obtain rfl := h2 d2
        obtain rfl := h3 d3
        obtain rfl := h4 d4
        obtain rfl := h5 d5
        obtain rfl := h6 d6
        refine wpOpIn_step rfl (fun K' hK' => ?_)
        go_simp
        refine hK' _ _ ?_
        exact ⟨_, _, _, _, _, _, _, _, u28, _, rfl, fun _ => rfl, fun _ => rfl, fun _ => rfl, fun _ => rfl, fun _ => rfl, fun _ => rfl, fun _ => rfl, fun _ => rfl, keepD (by decide) h8, fun _ => rfl, .inr (.inl ⟨by simp [d0], by simp [d1], by simp [d2], by simp [d3], by simp [d4], by simp [d5], by simp [d6], by simp [d7], by simp [d9], by simp, by simp [e11], _, rfl⟩)⟩
      · have d8 := hdep _ rfl ⟨8, .data⟩ (by simp) rfl
        have d10 := hdep _ rfl ⟨10, .chain⟩ (by simp) rfl
        obtain rfl := h8 d8
        simp only [hEi, d10, Bool.true_eq_false, Bool.false_eq_true, false_and, and_false, or_false, false_or, true_and] at hw
        obtain ⟨d0, d1, d2, d3, d4, d5, d6, d7, d9, k, rfl⟩ := hw
        obtain rfl := h0 d0
        obtain rfl := h1 d1
        obtain rfl := h2 d2
        obtain rfl := h3 d3
        obtain rfl := h4 d4
        obtain rfl := h5 d5
        obtain rfl := h6 d6
        obtain rfl := h7 d7
        obtain rfl := h9 d9
        have bR := boxed_other (W := W.drewN k) hR ⟨s + 1, i, none⟩ (by simp) (.int .u32 (q1 : Nat))
        have cR2 := bR.cell
        have fR2 := bR.frozen
        refine wpOpIn_step rfl (fun K' hK' => ?_)
        go_simp
        refine hK' _ _ ?_
        exact ⟨_, _, _, _, _, _, _, _, _, _, rfl, fun _ => rfl, fun _ => rfl, fun _ => rfl, fun _ => rfl, fun _ => rfl, fun _ => rfl, fun _ => rfl, fun _ => rfl, fun _ => rfl, fun _ => rfl, .inr (.inr ⟨by simp [d0], by simp [d1], by simp [d2], by simp [d3], by simp [d4], by simp [d5], by simp [d6], by simp [d7], by simp [d8], by simp [d9], by simp [d10], by simp, _, rfl⟩)⟩
end Go.Proofs.YtfkagknikmibjaaDoor
