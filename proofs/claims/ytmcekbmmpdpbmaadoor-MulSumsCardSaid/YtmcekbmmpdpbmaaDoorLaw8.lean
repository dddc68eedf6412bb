/- Sums of products before carrying: MulSums. -/
import Derived.Test.YtmcekbmmpdpbmaaDoorLaw3
import Derived.IntWalk
set_option linter.unusedVariables false
set_option linter.unusedSimpArgs false
namespace Go.Proofs.YtmcekbmmpdpbmaaDoor
open Go.RowKit Go.Shelf
attribute [local go_sem] max2_i min2_i max_two min_two

theorem carry_lo (D : Option Addr) (f q : Nat) {r : Nat} (L : List Nat) (w : World) (eL : L.length = 3 * r) (h : Rd w D L) (lL : Lim L) (hq : q ≤ r) (hr : r ≤ 100) (hf : r ≤ f) :
    Calls Tryd.prog 24 #[.slice D q f] w (RetN w (rowsV (L.take (3 * q)) q)) :=
  carry_c D q f (L.take (3 * q)) w (by rw [List.length_take, eL]; omega) (h.take _) (lL.take _) (by omega) (by omega)
theorem carry_hi (D : Option Addr) (f q r : Nat) (L : List Nat) (w : World) (eL : L.length = 3 * r) (h : Rd w D L) (lL : Lim L) (hq : q ≤ r) (hr : r ≤ 100) (hf : r ≤ f) :
    Calls Tryd.prog 24 #[.slice (D.map fun x => x.add (q * 3)) (r - q) (f - q)] w (RetN w (rowsV (L.drop (3 * q)) (r - q))) := by
  have h2 := Rd.sub h (3 * q) (3 * (r - q))
  rw [List.take_of_length_le (by rw [List.length_drop, eL]; omega)] at h2
  rw [Nat.mul_comm q 3]
  exact carry_c _ (r - q) (f - q) (L.drop (3 * q)) w (by rw [List.length_drop, eL]; omega) h2 (lL.drop _) (by omega) (by omega)
theorem carry_h0 (D : Option Addr) (q r : Nat) (L : List Nat) (w : World) (h : Rd w D L) (hr : r ≤ q) :
    Calls Tryd.prog 24 #[.slice D 0 0] w (RetN w (rowsV (L.drop (3 * q)) (r - q))) := by
  have h2 := carry_c D 0 0 [] w rfl Rd.nil Lim.nil (by decide) (Nat.le_refl _)
  rw [show r - q = 0 by omega]
  exact h2
theorem rowsV_take (L : List Nat) (q : Nat) : ∀ n, n ≤ q → rowsV (L.take (3 * q)) n = rowsV L n
  | 0, _ => rfl
  | n + 1, h => by
    have e : ∀ j, j < 3 * q → gl (L.take (3 * q)) j = gl L j := fun j hj => by
      simp only [gl, List.getD_eq_getElem?_getD, List.getElem?_take_of_lt hj]
    rw [rowsV, rowsV, rowsV_take L q n (by omega), e _ (by omega), e _ (by omega), e _ (by omega)]
theorem rowsV_drop (L : List Nat) (q : Nat) : ∀ n, rowsV L (q + n) = rowsV L q + rowsV (L.drop (3 * q)) n * 4294967296 ^ q
  | 0 => by simp [rowsV]
  | n + 1 => by
    have e : ∀ j, gl (L.drop (3 * q)) j = gl L (3 * q + j) := fun j => by
      simp only [gl, List.getD_eq_getElem?_getD, List.getElem?_drop]
    rw [← Nat.add_assoc, rowsV, rowsV, rowsV_drop L q n, e, e, e, Nat.pow_add, show 3 * (q + n) = 3 * q + 3 * n by omega, ← Nat.add_assoc, ← Nat.add_assoc]
    generalize 4294967296 ^ q = P
    generalize 4294967296 ^ n = Q
    grind
theorem rowsV_cut (L : List Nat) (q r : Nat) (h : q ≤ r) : rowsV L r = rowsV (L.take (3 * q)) q + rowsV (L.drop (3 * q)) (r - q) * 2 ^ (32 * q) := by
  rw [rowsV_take L q q (Nat.le_refl _), pow32]
  have := rowsV_drop L q (r - q)
  rwa [show q + (r - q) = r by omega] at this
set_option maxHeartbeats 4000000 in
theorem mulSums_c0 (A : Option Addr) (c : Nat) (l : List Nat) (B : Option Addr) (d : Nat) (m : List Nat) (D : Option Addr) (r f : Nat) (L : List Nat) (x : Nat) (w : World) (hG : Flds w) (hl : Rd w A l) (Ll : Lim l) (Ql : l.length ≤ maxLen) (Cl : l.length ≤ c) (Zl : A = none → c = 0) (hm : Rd w B m) (Lm : Lim m) (Qm : m.length ≤ maxLen) (Cm : m.length ≤ d) (Zm : B = none → d = 0) (hx8 : x < 256) (hL : Rd w D L) (lL : Lim L) (eL : L.length = 3 * r) (cL : r ≤ f) (h100 : r ≤ 100) :
    Calls Tryd.prog 10 #[.agg #[.slice A l.length c, .slice B m.length d], .slice D r f, .int .u8 (x : Nat)] w fun e w' => e = .returned (.bool true) ∧ Below w.heap.size w w' := by
  replace Zl := Lib.hid Zl
  replace Zm := Lib.hid Zm
  have hb0 : Below w.heap.size w (w.alloc (.cells #[.slice A l.length c, .slice B m.length d] 34)) := (Below.refl _ _).alloc (Nat.le_refl _) _
  obtain ⟨⟨q0, q1⟩, _⟩ := at_cells2 (heap_alloc_new w (.cells #[.slice A l.length c, .slice B m.length d] 34))
  replace hL := hL.below hb0
  have hu := Tryd.underlying34
  replace hG := hG.below hb0
  replace hl := hl.below hb0
  replace hm := hm.below hb0
  have HBT := hb0
  clear hb0
  have h2 : decide ((100 : Int) < (r : Int)) = false := by simp; omega
  obtain ⟨q, Eq⟩ : ∃ y : Nat, y = r / 2 := ⟨_, rfl⟩
  have Iq : (r : Int) / 2 = (q : Int) := by omega
  have Jq : (r : Int).tdiv 2 = (q : Int) := by rw [Int.tdiv_eq_ediv_of_nonneg (by omega)]; exact Iq
  have Bq : q ≤ r := by omega
  have Bq2 : q ≤ 50 := by omega
  replace Eq := Lib.hid Eq
  replace eL := Lib.hid eL
  go_enter Tryd.func10, Tryd.ntmps10
  go_wp2_with (fail)
  refine (Calls.mono (head_c _ hG) ?_)
  rintro e W1 ⟨rfl, hb1⟩
  replace hG := hG.below hb1
  replace hl := hl.below hb1
  replace hm := hm.below hb1
  replace q0 := cell_below hb1 q0
  replace q1 := cell_below hb1 q1
  replace hL := hL.below hb1
  replace HBT := Below.cons HBT hb1
  clear hb1
  go_wp2_with (fail)
  obtain ⟨a, Ea⟩ : ∃ zq : Nat, zq = val (l.take 120) := ⟨_, rfl⟩
  have Ba : nl a ≤ 120 := by rw [Ea]; exact made_nl l Ll 120
  refine (Calls.mono (R := RetN W1 a) (by rw [Ea]; exact (made_c A c l _ hl Ll Ql Cl Zl.out)) ?_)
  replace Ea := Lib.hid Ea
  rintro e W2 ⟨X2, c2, rfl, ha, hb2⟩
  replace hG := hG.below hb2
  replace hl := hl.below hb2
  replace hm := hm.below hb2
  replace q0 := cell_below hb2 q0
  replace q1 := cell_below hb2 q1
  replace hL := hL.below hb2
  replace HBT := Below.cons HBT hb2
  clear hb2
  go_wp2_with (fail)
  obtain ⟨b, Eb⟩ : ∃ zq : Nat, zq = val (m.take 120) := ⟨_, rfl⟩
  have Bb : nl b ≤ 120 := by rw [Eb]; exact made_nl m Lm 120
  refine (Calls.mono (R := RetN W2 b) (by rw [Eb]; exact (made_c B d m _ hm Lm Qm Cm Zm.out)) ?_)
  replace Eb := Lib.hid Eb
  rintro e W3 ⟨X3, c3, rfl, hb, hb3⟩
  replace hG := hG.below hb3
  replace hl := hl.below hb3
  replace hm := hm.below hb3
  replace q0 := cell_below hb3 q0
  replace q1 := cell_below hb3 q1
  replace hL := hL.below hb3
  replace ha := ha.below hb3
  replace HBT := Below.cons HBT hb3
  clear hb3
  go_wp2_with (fail)
  refine (Calls.mono (conv_c X2 c2 a X3 c3 b _ ha hb hG (by omega) (by omega)) ?_)
  rintro e WC ⟨XC, cC, nC, LC, rfl, eC, hC, lC, ncC, nbC, vC, hbC⟩
  replace hG := hG.below hbC
  replace hl := hl.below hbC
  replace hm := hm.below hbC
  replace q0 := cell_below hbC q0
  replace q1 := cell_below hbC q1
  replace hL := hL.below hbC
  replace ha := ha.below hbC
  replace hb := hb.below hbC
  replace HBT := Below.cons HBT hbC
  clear hbC
  replace eC := Lib.hid eC
  replace vC := Lib.hid vC
  go_wp2_with (fail)
  obtain ⟨p, Ep⟩ : ∃ zq : Nat, zq = rowsV LC nC := ⟨_, rfl⟩
  have Bp : nl p ≤ 240 := by rw [Ep]; rw [vC.out]; have := nl_mul a b; omega
  refine (Calls.mono (R := RetN WC p) (by rw [Ep]; exact (carry_c XC nC cC LC _ eC.out hC lC (by omega) ncC)) ?_)
  replace Ep := Lib.hid Ep
  rintro e W4 ⟨X4, c4, rfl, hp, hb4⟩
  replace hG := hG.below hb4
  replace hl := hl.below hb4
  replace hm := hm.below hb4
  replace q0 := cell_below hb4 q0
  replace q1 := cell_below hb4 q1
  replace hL := hL.below hb4
  replace ha := ha.below hb4
  replace hb := hb.below hb4
  replace hC := hC.below hb4
  replace HBT := Below.cons HBT hb4
  clear hb4
  go_wp2_with (fail)
  clear hC
  obtain ⟨p2, Ep2⟩ : ∃ zq : Nat, zq = a * b := ⟨_, rfl⟩
  have Bp2 : nl p2 ≤ 240 := by rw [Ep2]; have := nl_mul a b; omega
  refine (Calls.mono (R := RetN W4 p2) (by rw [Ep2]; exact (by_c x X2 c2 a X3 c3 b _ hx8 ha hb hG (by omega) (by omega))) ?_)
  replace Ep2 := Lib.hid Ep2
  rintro e W5 ⟨X5, c5, rfl, hp2, hb5⟩
  replace hG := hG.below hb5
  replace hl := hl.below hb5
  replace hm := hm.below hb5
  replace q0 := cell_below hb5 q0
  replace q1 := cell_below hb5 q1
  replace hL := hL.below hb5
  replace ha := ha.below hb5
  replace hb := hb.below hb5
  replace hp := hp.below hb5
  replace HBT := Below.cons HBT hb5
  clear hb5
  go_wp2_with (fail)
  refine (Calls.mono (same_t X4 c4 p X5 c5 p2 _ hp hp2 (by omega) (by omega) (by rw [Ep.out, vC.out, Ep2.out])) ?_)
  rintro e W6 ⟨rfl, hb6⟩
  replace hG := hG.below hb6
  replace hl := hl.below hb6
  replace hm := hm.below hb6
  replace q0 := cell_below hb6 q0
  replace q1 := cell_below hb6 q1
  replace hL := hL.below hb6
  replace ha := ha.below hb6
  replace hb := hb.below hb6
  replace hp := hp.below hb6
  replace hp2 := hp2.below hb6
  replace HBT := Below.cons HBT hb6
  clear hb6
  go_wp2_with (fail)
  clear hp
  clear hp2
  clear ha
  clear hb
  obtain ⟨t32, Et32⟩ : ∃ y : Nat, y = 32 * q := ⟨_, rfl⟩
  have I32 : (32 : Int) * (q : Int) = (t32 : Int) := by omega
  have J32 : IntKind.i64.wrap ((32 : Int) * (q : Int)) = (t32 : Int) := by rw [I32]; exact IntWalk.i64_in _ (by omega)
  have B32 : t32 ≤ 1600 := by omega
  have K32 : IntKind.i64.wrap (t32 : Int) = (t32 : Int) := IntWalk.i64_in _ (by omega)
  replace Et32 := Lib.hid Et32
  clear q1
  have Iq2 : ((r : Int) - (q : Int)).toNat = r - q := by omega
  have Iq3 : ((f : Int) - (q : Int)).toNat = f - q := by omega
  by_cases hfq : f = q
  · replace hfq := hfq.symm
    subst hfq
    have hd7 : Below (W6).heap.size W6 (W6).drew := (Below.refl _ _).drew
    replace hG := hG.below hd7
    replace hl := hl.below hd7
    replace hm := hm.below hd7
    replace q0 := cell_below hd7 q0
    replace hL := hL.below hd7
    replace HBT := Below.cons HBT hd7
    clear hd7
    obtain ⟨s, Es⟩ : ∃ zq : Nat, zq = rowsV L r := ⟨_, rfl⟩
    have Bs : nl s ≤ 104 := by rw [Es]; exact nl_rowsV lL eL.out (by omega)
    have C7_0 := fun (W : World) (h : Rd W D L) => carry_c D r q L W eL.out h lL (by omega) cL
    simp only [← Es] at C7_0
    replace Es := Lib.hid Es
    replace C7_0 := Lib.hid C7_0
    obtain ⟨t, Et⟩ : ∃ zq : Nat, zq = rowsV (L.take (3 * q)) q := ⟨_, rfl⟩
    have Bt : nl t ≤ 104 := by rw [Et]; exact nl_rowsV (lL.take _) (by rw [List.length_take, eL.out]; omega) (by omega)
    have C7_1 := fun (W : World) (h : Rd W D L) => carry_lo D q q L W eL.out h lL (by omega) (by omega) (by omega)
    simp only [← Et] at C7_1
    replace Et := Lib.hid Et
    replace C7_1 := Lib.hid C7_1
    obtain ⟨u, Eu⟩ : ∃ zq : Nat, zq = rowsV (L.drop (3 * q)) (r - q) := ⟨_, rfl⟩
    have Bu : nl u ≤ 104 := by rw [Eu]; exact nl_rowsV (lL.drop _) (by rw [List.length_drop, eL.out]; omega) (by omega)
    have C7_2 := fun (W : World) (h : Rd W D L) => carry_h0 D q r L W h (by omega)
    simp only [← Eu] at C7_2
    replace Eu := Lib.hid Eu
    replace C7_2 := Lib.hid C7_2
    obtain ⟨y, Ey⟩ : ∃ zq : Nat, zq = u * 2 ^ t32 := ⟨_, rfl⟩
    have By : nl y ≤ 160 := by rw [Ey]; have := nl_shl u t32; omega
    have C7_3 := fun (W : World) (A : Option Addr) (c : Nat) (h : NatV W A c u) => shl_e A c u (t32 : Int) t32 W h (by omega) rfl (by omega)
    simp only [← Ey] at C7_3
    replace Ey := Lib.hid Ey
    replace C7_3 := Lib.hid C7_3
    obtain ⟨z, Ez⟩ : ∃ zq : Nat, zq = t + y := ⟨_, rfl⟩
    have Bz : nl z ≤ 161 := by rw [Ez]; have := nl_add t y; omega
    have C7_4 := fun (W : World) (A : Option Addr) (c : Nat) (B : Option Addr) (d : Nat) (h1 : NatV W A c t) (h2 : NatV W B d y) => add_c A c t B d y W h1 h2 (by omega) (by omega)
    simp only [← Ez] at C7_4
    replace Ez := Lib.hid Ez
    replace C7_4 := Lib.hid C7_4
    have C7_5 := fun (W : World) (A : Option Addr) (c : Nat) (B : Option Addr) (d : Nat) (h1 : NatV W A c s) (h2 : NatV W B d z) => same_t A c s B d z W h1 h2 (by omega) (by omega) (by rw [Es.out, Ez.out, Et.out, Ey.out, Eu.out, Et32.out]; exact rowsV_cut L q r (by omega))
    replace C7_5 := Lib.hid C7_5
    go_region_held3 (fun W => W.cell? ⟨w.heap.size, 0, none⟩ = some (.slice A l.length c))
      (first
        | exact q0
        | exact q0_8
        | exact q0_9
        | exact q0_10
        | exact q0_11
        | exact q0_12
        | exact q0_13
        | go_keep)
      (first
        | (go_at_call 24; (with_reducible refine (C7_0.out _ hL).mono ?_); rintro e W8 ⟨X8, c8, rfl, hs, hb8⟩; have hG_8 := hG.below hb8; have hl_8 := hl.below hb8; have hm_8 := hm.below hb8; have q0_8 := cell_below hb8 q0; have hL_8 := hL.below hb8; have HBT_8 := Below.cons HBT hb8)
        | (go_at_call 24; (with_reducible refine (C7_1.out _ hL_8).mono ?_); rintro e W9 ⟨X9, c9, rfl, ht, hb9⟩; have hG_9 := hG_8.below hb9; have hl_9 := hl_8.below hb9; have hm_9 := hm_8.below hb9; have q0_9 := cell_below hb9 q0_8; have hL_9 := hL_8.below hb9; have hs_9 := hs.below hb9; have HBT_9 := Below.cons HBT_8 hb9)
        | (go_at_call 24; (with_reducible refine (C7_2.out _ hL_9).mono ?_); rintro e W10 ⟨X10, c10, rfl, hu, hb10⟩; have hG_10 := hG_9.below hb10; have hl_10 := hl_9.below hb10; have hm_10 := hm_9.below hb10; have q0_10 := cell_below hb10 q0_9; have hL_10 := hL_9.below hb10; have hs_10 := hs_9.below hb10; have ht_10 := ht.below hb10; have HBT_10 := Below.cons HBT_9 hb10)
        | (go_at_call 29; (with_reducible refine (C7_3.out _ _ _ hu).mono ?_); rintro e W11 ⟨X11, c11, rfl, hy, hb11⟩; have hG_11 := hG_10.below hb11; have hl_11 := hl_10.below hb11; have hm_11 := hm_10.below hb11; have q0_11 := cell_below hb11 q0_10; have hL_11 := hL_10.below hb11; have hs_11 := hs_10.below hb11; have ht_11 := ht_10.below hb11; have hu_11 := hu.below hb11; have HBT_11 := Below.cons HBT_10 hb11)
        | (go_at_call 27; (with_reducible refine (C7_4.out _ _ _ _ _ ht_11 hy).mono ?_); rintro e W12 ⟨X12, c12, rfl, hz, hb12⟩; have hG_12 := hG_11.below hb12; have hl_12 := hl_11.below hb12; have hm_12 := hm_11.below hb12; have q0_12 := cell_below hb12 q0_11; have hL_12 := hL_11.below hb12; have hs_12 := hs_11.below hb12; have ht_12 := ht_11.below hb12; have hu_12 := hu_11.below hb12; have hy_12 := hy.below hb12; have HBT_12 := Below.cons HBT_11 hb12)
        | (go_at_call 15; (with_reducible refine (C7_5.out _ _ _ _ _ hs_12 hz).mono ?_); rintro e W13 ⟨rfl, hb13⟩; have hG_13 := hG_12.below hb13; have hl_13 := hl_12.below hb13; have hm_13 := hm_12.below hb13; have q0_13 := cell_below hb13 q0_12; have hL_13 := hL_12.below hb13; have hs_13 := hs_12.below hb13; have ht_13 := ht_12.below hb13; have hu_13 := hu_12.below hb13; have hy_13 := hy_12.below hb13; have hz_13 := hz.below hb13; have HBT_13 := Below.cons HBT_12 hb13))
    all_goals (try go_wp2_with (fail))
    all_goals go_ret
    all_goals exact ⟨rfl, HBT_13⟩
  · have hqf : q ≤ f := by omega
    have hd7 : Below (W6).heap.size W6 (W6).drew := (Below.refl _ _).drew
    replace hG := hG.below hd7
    replace hl := hl.below hd7
    replace hm := hm.below hd7
    replace q0 := cell_below hd7 q0
    replace hL := hL.below hd7
    replace HBT := Below.cons HBT hd7
    clear hd7
    obtain ⟨s, Es⟩ : ∃ zq : Nat, zq = rowsV L r := ⟨_, rfl⟩
    have Bs : nl s ≤ 104 := by rw [Es]; exact nl_rowsV lL eL.out (by omega)
    have C7_0 := fun (W : World) (h : Rd W D L) => carry_c D r f L W eL.out h lL (by omega) cL
    simp only [← Es] at C7_0
    replace Es := Lib.hid Es
    replace C7_0 := Lib.hid C7_0
    obtain ⟨t, Et⟩ : ∃ zq : Nat, zq = rowsV (L.take (3 * q)) q := ⟨_, rfl⟩
    have Bt : nl t ≤ 104 := by rw [Et]; exact nl_rowsV (lL.take _) (by rw [List.length_take, eL.out]; omega) (by omega)
    have C7_1 := fun (W : World) (h : Rd W D L) => carry_lo D f q L W eL.out h lL (by omega) (by omega) (by omega)
    simp only [← Et] at C7_1
    replace Et := Lib.hid Et
    replace C7_1 := Lib.hid C7_1
    obtain ⟨u, Eu⟩ : ∃ zq : Nat, zq = rowsV (L.drop (3 * q)) (r - q) := ⟨_, rfl⟩
    have Bu : nl u ≤ 104 := by rw [Eu]; exact nl_rowsV (lL.drop _) (by rw [List.length_drop, eL.out]; omega) (by omega)
    have C7_2 := fun (W : World) (h : Rd W D L) => carry_hi D f q r L W eL.out h lL (by omega) (by omega) (by omega)
    simp only [← Eu] at C7_2
    replace Eu := Lib.hid Eu
    replace C7_2 := Lib.hid C7_2
    obtain ⟨y, Ey⟩ : ∃ zq : Nat, zq = u * 2 ^ t32 := ⟨_, rfl⟩
    have By : nl y ≤ 160 := by rw [Ey]; have := nl_shl u t32; omega
    have C7_3 := fun (W : World) (A : Option Addr) (c : Nat) (h : NatV W A c u) => shl_e A c u (t32 : Int) t32 W h (by omega) rfl (by omega)
    simp only [← Ey] at C7_3
    replace Ey := Lib.hid Ey
    replace C7_3 := Lib.hid C7_3
    obtain ⟨z, Ez⟩ : ∃ zq : Nat, zq = t + y := ⟨_, rfl⟩
    have Bz : nl z ≤ 161 := by rw [Ez]; have := nl_add t y; omega
    have C7_4 := fun (W : World) (A : Option Addr) (c : Nat) (B : Option Addr) (d : Nat) (h1 : NatV W A c t) (h2 : NatV W B d y) => add_c A c t B d y W h1 h2 (by omega) (by omega)
    simp only [← Ez] at C7_4
    replace Ez := Lib.hid Ez
    replace C7_4 := Lib.hid C7_4
    have C7_5 := fun (W : World) (A : Option Addr) (c : Nat) (B : Option Addr) (d : Nat) (h1 : NatV W A c s) (h2 : NatV W B d z) => same_t A c s B d z W h1 h2 (by omega) (by omega) (by rw [Es.out, Ez.out, Et.out, Ey.out, Eu.out, Et32.out]; exact rowsV_cut L q r (by omega))
    replace C7_5 := Lib.hid C7_5
    go_region_held3 (fun W => W.cell? ⟨w.heap.size, 0, none⟩ = some (.slice A l.length c))
      (first
        | exact q0
        | exact q0_8
        | exact q0_9
        | exact q0_10
        | exact q0_11
        | exact q0_12
        | exact q0_13
        | go_keep)
      (first
        | (go_at_call 24; (with_reducible refine (C7_0.out _ hL).mono ?_); rintro e W8 ⟨X8, c8, rfl, hs, hb8⟩; have hG_8 := hG.below hb8; have hl_8 := hl.below hb8; have hm_8 := hm.below hb8; have q0_8 := cell_below hb8 q0; have hL_8 := hL.below hb8; have HBT_8 := Below.cons HBT hb8)
        | (go_at_call 24; (with_reducible refine (C7_1.out _ hL_8).mono ?_); rintro e W9 ⟨X9, c9, rfl, ht, hb9⟩; have hG_9 := hG_8.below hb9; have hl_9 := hl_8.below hb9; have hm_9 := hm_8.below hb9; have q0_9 := cell_below hb9 q0_8; have hL_9 := hL_8.below hb9; have hs_9 := hs.below hb9; have HBT_9 := Below.cons HBT_8 hb9)
        | (go_at_call 24; (with_reducible refine (C7_2.out _ hL_9).mono ?_); rintro e W10 ⟨X10, c10, rfl, hu, hb10⟩; have hG_10 := hG_9.below hb10; have hl_10 := hl_9.below hb10; have hm_10 := hm_9.below hb10; have q0_10 := cell_below hb10 q0_9; have hL_10 := hL_9.below hb10; have hs_10 := hs_9.below hb10; have ht_10 := ht.below hb10; have HBT_10 := Below.cons HBT_9 hb10)
        | (go_at_call 29; (with_reducible refine (C7_3.out _ _ _ hu).mono ?_); rintro e W11 ⟨X11, c11, rfl, hy, hb11⟩; have hG_11 := hG_10.below hb11; have hl_11 := hl_10.below hb11; have hm_11 := hm_10.below hb11; have q0_11 := cell_below hb11 q0_10; have hL_11 := hL_10.below hb11; have hs_11 := hs_10.below hb11; have ht_11 := ht_10.below hb11; have hu_11 := hu.below hb11; have HBT_11 := Below.cons HBT_10 hb11)
        | (go_at_call 27; (with_reducible refine (C7_4.out _ _ _ _ _ ht_11 hy).mono ?_); rintro e W12 ⟨X12, c12, rfl, hz, hb12⟩; have hG_12 := hG_11.below hb12; have hl_12 := hl_11.below hb12; have hm_12 := hm_11.below hb12; have q0_12 := cell_below hb12 q0_11; have hL_12 := hL_11.below hb12; have hs_12 := hs_11.below hb12; have ht_12 := ht_11.below hb12; have hu_12 := hu_11.below hb12; have hy_12 := hy.below hb12; have HBT_12 := Below.cons HBT_11 hb12)
        | (go_at_call 15; (with_reducible refine (C7_5.out _ _ _ _ _ hs_12 hz).mono ?_); rintro e W13 ⟨rfl, hb13⟩; have hG_13 := hG_12.below hb13; have hl_13 := hl_12.below hb13; have hm_13 := hm_12.below hb13; have q0_13 := cell_below hb13 q0_12; have hL_13 := hL_12.below hb13; have hs_13 := hs_12.below hb13; have ht_13 := ht_12.below hb13; have hu_13 := hu_12.below hb13; have hy_13 := hy_12.below hb13; have hz_13 := hz.below hb13; have HBT_13 := Below.cons HBT_12 hb13))
    all_goals (try go_wp2_with (fail))
    all_goals go_ret
    all_goals exact ⟨rfl, HBT_13⟩
set_option maxHeartbeats 4000000 in
theorem mulSums_c1 (A : Option Addr) (c : Nat) (l : List Nat) (B : Option Addr) (d : Nat) (m : List Nat) (D : Option Addr) (r f : Nat) (L : List Nat) (x : Nat) (w : World) (hG : Flds w) (hl : Rd w A l) (Ll : Lim l) (Ql : l.length ≤ maxLen) (Cl : l.length ≤ c) (Zl : A = none → c = 0) (hm : Rd w B m) (Lm : Lim m) (Qm : m.length ≤ maxLen) (Cm : m.length ≤ d) (Zm : B = none → d = 0) (hx8 : x < 256) (hL : Rd w D L) (lL : Lim L) (eL : L.length = 3 * r) (cL : r ≤ f) (h100 : 100 < r) :
    Calls Tryd.prog 10 #[.agg #[.slice A l.length c, .slice B m.length d], .slice D r f, .int .u8 (x : Nat)] w fun e w' => e = .returned (.bool true) ∧ Below w.heap.size w w' := by
  replace Zl := Lib.hid Zl
  replace Zm := Lib.hid Zm
  have hb0 : Below w.heap.size w (w.alloc (.cells #[.slice A l.length c, .slice B m.length d] 34)) := (Below.refl _ _).alloc (Nat.le_refl _) _
  obtain ⟨⟨q0, q1⟩, _⟩ := at_cells2 (heap_alloc_new w (.cells #[.slice A l.length c, .slice B m.length d] 34))
  replace hL := hL.below hb0
  have hu := Tryd.underlying34
  replace hG := hG.below hb0
  replace hl := hl.below hb0
  replace hm := hm.below hb0
  have HBT := hb0
  clear hb0
  have h2 : decide ((100 : Int) < (r : Int)) = true := by simp; omega
  replace eL := Lib.hid eL
  go_enter Tryd.func10, Tryd.ntmps10
  go_wp2_with (fail)
  refine (Calls.mono (head_c _ hG) ?_)
  rintro e W1 ⟨rfl, hb1⟩
  replace hG := hG.below hb1
  replace hl := hl.below hb1
  replace hm := hm.below hb1
  replace q0 := cell_below hb1 q0
  replace q1 := cell_below hb1 q1
  replace hL := hL.below hb1
  replace HBT := Below.cons HBT hb1
  clear hb1
  go_wp2_with (fail)
  obtain ⟨a, Ea⟩ : ∃ zq : Nat, zq = val (l.take 120) := ⟨_, rfl⟩
  have Ba : nl a ≤ 120 := by rw [Ea]; exact made_nl l Ll 120
  refine (Calls.mono (R := RetN W1 a) (by rw [Ea]; exact (made_c A c l _ hl Ll Ql Cl Zl.out)) ?_)
  replace Ea := Lib.hid Ea
  rintro e W2 ⟨X2, c2, rfl, ha, hb2⟩
  replace hG := hG.below hb2
  replace hl := hl.below hb2
  replace hm := hm.below hb2
  replace q0 := cell_below hb2 q0
  replace q1 := cell_below hb2 q1
  replace hL := hL.below hb2
  replace HBT := Below.cons HBT hb2
  clear hb2
  go_wp2_with (fail)
  obtain ⟨b, Eb⟩ : ∃ zq : Nat, zq = val (m.take 120) := ⟨_, rfl⟩
  have Bb : nl b ≤ 120 := by rw [Eb]; exact made_nl m Lm 120
  refine (Calls.mono (R := RetN W2 b) (by rw [Eb]; exact (made_c B d m _ hm Lm Qm Cm Zm.out)) ?_)
  replace Eb := Lib.hid Eb
  rintro e W3 ⟨X3, c3, rfl, hb, hb3⟩
  replace hG := hG.below hb3
  replace hl := hl.below hb3
  replace hm := hm.below hb3
  replace q0 := cell_below hb3 q0
  replace q1 := cell_below hb3 q1
  replace hL := hL.below hb3
  replace ha := ha.below hb3
  replace HBT := Below.cons HBT hb3
  clear hb3
  go_wp2_with (fail)
  go_ret
  exact ⟨rfl, HBT⟩

end Go.Proofs.YtmcekbmmpdpbmaaDoor
