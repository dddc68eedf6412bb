/- Laws of products: MulTells, MulCarries. -/
import Derived.Test.YtmcekbmmpdpbmaaDoorLaw2
set_option linter.unusedVariables false
set_option linter.unusedSimpArgs false
namespace Go.Proofs.YtmcekbmmpdpbmaaDoor
open Go.RowKit Go.Shelf
attribute [local go_sem] max2_i min2_i max_two min_two

theorem at_cells2 {W : World} {b : Nat} {u0 u1 : Value} {t : TypeId} (h : W.heap[b]? = some (.cells #[u0, u1] t (0, 0))) :
    (W.cell? ⟨b, 0, none⟩ = some u0 ∧ W.cell? ⟨b, 1, none⟩ = some u1) ∧ W.frozen? ⟨b, 0, none⟩ = false ∧ W.frozen? ⟨b, 1, none⟩ = false := by
  simp [World.cell?, World.frozen?, h]
theorem rowsV_lt {L : List Nat} (hL : Lim L) : ∀ n, rowsV L n < 4294967296 ^ (n + 2) + 4294967296 ^ (n + 2)
  | 0 => by simp [rowsV]
  | n + 1 => by
    have ih := rowsV_lt hL n
    have h0 := hL.gl (3 * n)
    have h1 := hL.gl (3 * n + 1)
    have h2 := hL.gl (3 * n + 2)
    have h3 : gl L (3 * n) + 4294967296 * gl L (3 * n + 1) + 4294967296 * 4294967296 * gl L (3 * n + 2) < 4294967296 * 4294967296 * 4294967296 := by omega
    have h4 := Nat.mul_le_mul_right (4294967296 ^ n) (Nat.succ_le_of_lt h3)
    rw [Nat.succ_mul] at h4
    have e1 : 4294967296 ^ (n + 2) = 4294967296 * 4294967296 * 4294967296 ^ n := by rw [Nat.pow_add]; omega
    have e2 : 4294967296 ^ (n + 1 + 2) = 4294967296 * 4294967296 * 4294967296 * 4294967296 ^ n := by rw [show n + 1 + 2 = 3 + n by omega, Nat.pow_add]
    rw [rowsV]
    have hp : 0 < 4294967296 ^ n := Nat.pow_pos (by decide)
    rw [e1] at ih
    rw [e2]
    generalize 4294967296 ^ n = P at *
    generalize (gl L (3 * n) + 4294967296 * gl L (3 * n + 1) + 4294967296 * 4294967296 * gl L (3 * n + 2)) * P = Q at *
    omega
theorem nl_rowsV {L : List Nat} {n k : Nat} (hL : Lim L) (e : L.length = 3 * n) (hk : n + 3 ≤ k) : nl (rowsV L n) ≤ k := by
  refine Nat.le_trans ?_ hk
  rw [nl_le]
  have := rowsV_lt hL n
  have e1 : 4294967296 ^ (n + 3) = 4294967296 * 4294967296 ^ (n + 2) := by rw [Nat.pow_succ, Nat.mul_comm]
  omega
set_option maxHeartbeats 4000000 in
theorem mulTells_c (A : Option Addr) (c : Nat) (l : List Nat) (B : Option Addr) (d : Nat) (m : List Nat)  (w : World) (hG : Flds w) (hl : Rd w A l) (Ll : Lim l) (Ql : l.length ≤ maxLen) (Cl : l.length ≤ c) (Zl : A = none → c = 0) (hm : Rd w B m) (Lm : Lim m) (Qm : m.length ≤ maxLen) (Cm : m.length ≤ d) (Zm : B = none → d = 0)  :
    Calls Tryd.prog 3 #[.slice A l.length c, .slice B m.length d] w fun e w' => e = .returned (.bool true) ∧ Below w.heap.size w w' := by
  replace Zl := Lib.hid Zl
  replace Zm := Lib.hid Zm
  go_enter Tryd.func3, Tryd.ntmps3
  go_wp2_with (fail)
  refine (Calls.mono (head_c _ hG) ?_)
  rintro e W1 ⟨rfl, hb1⟩
  replace hG := hG.below hb1
  replace hl := hl.below hb1
  replace hm := hm.below hb1
  have HBT := hb1
  clear hb1
  go_wp2_with (fail)
  obtain ⟨a, Ea⟩ : ∃ zq : Nat, zq = val (l.take 120) := ⟨_, rfl⟩
  have Ba : nl a ≤ 120 := by rw [Ea]; exact made_nl l Ll 120
  refine (Calls.mono (R := RetN W1 a) (by rw [Ea]; exact (made_c A c l _ hl Ll Ql Cl Zl.out)) ?_)
  replace Ea := Lib.hid Ea
  rintro e W2 ⟨X2, c2, rfl, ha, hb2⟩
  replace hG := hG.below hb2
  replace hl := hl.below hb2
  replace hm := hm.below hb2
  replace HBT := Below.cons HBT hb2
  clear hb2
  go_wp2_with (fail)
  obtain ⟨b, Eb⟩ : ∃ zq : Nat, zq = val (m.take 120) := ⟨_, rfl⟩
  have Bb : nl b ≤ 120 := by rw [Eb]; exact made_nl m Lm 120
  refine (Calls.mono (R := RetN W2 b) (by rw [Eb]; exact (made_c B d m _ hm Lm Qm Cm Zm.out)) ?_)
  replace Eb := Lib.hid Eb
  rintro e W3 ⟨X3, c3, rfl, hb, hb3⟩
  replace hG := hG.below hb3
  replace hl := hl.below hb3
  replace hm := hm.below hb3
  replace ha := ha.below hb3
  replace HBT := Below.cons HBT hb3
  clear hb3
  go_wp2_with (fail)
  obtain ⟨p, Ep⟩ : ∃ zq : Nat, zq = a * b := ⟨_, rfl⟩
  have Bp : nl p ≤ 240 := by rw [Ep]; have := nl_mul a b; omega
  refine (Calls.mono (R := RetN W3 p) (by rw [Ep]; exact (rschool_c  X2 c2 a X3 c3 b _ ha hb (by omega) (by omega))) ?_)
  replace Ep := Lib.hid Ep
  rintro e W4 ⟨X4, c4, rfl, hp, hb4⟩
  replace hG := hG.below hb4
  replace hl := hl.below hb4
  replace hm := hm.below hb4
  replace ha := ha.below hb4
  replace hb := hb.below hb4
  replace HBT := Below.cons HBT hb4
  clear hb4
  go_wp2_with (fail)
  obtain ⟨p0, Ep0⟩ : ∃ zq : Nat, zq = a * b := ⟨_, rfl⟩
  have Bp0 : nl p0 ≤ 240 := by rw [Ep0]; have := nl_mul a b; omega
  refine (Calls.mono (R := RetN W4 p0) (by rw [Ep0]; exact (school_c  X2 c2 a X3 c3 b _ ha hb (by omega) (by omega))) ?_)
  replace Ep0 := Lib.hid Ep0
  rintro e W5 ⟨X5, c5, rfl, hp0, hb5⟩
  replace hG := hG.below hb5
  replace hl := hl.below hb5
  replace hm := hm.below hb5
  replace ha := ha.below hb5
  replace hb := hb.below hb5
  replace hp := hp.below hb5
  replace HBT := Below.cons HBT hb5
  clear hb5
  go_wp2_with (fail)
  refine (Calls.mono (same_t X5 c5 p0 X4 c4 p _ hp0 hp (by omega) (by omega) (by rw [Ep0.out, Ep.out])) ?_)
  rintro e W6 ⟨rfl, hb6⟩
  replace hG := hG.below hb6
  replace hl := hl.below hb6
  replace hm := hm.below hb6
  replace ha := ha.below hb6
  replace hb := hb.below hb6
  replace hp := hp.below hb6
  replace hp0 := hp0.below hb6
  replace HBT := Below.cons HBT hb6
  clear hb6
  go_wp2_with (fail)
  clear hp0
  obtain ⟨p1, Ep1⟩ : ∃ zq : Nat, zq = a * b := ⟨_, rfl⟩
  have Bp1 : nl p1 ≤ 240 := by rw [Ep1]; have := nl_mul a b; omega
  refine (Calls.mono (R := RetN W6 p1) (by rw [Ep1]; exact (karatsuba_c 16384 X2 c2 a X3 c3 b _ ha hb (by omega) (by omega) (by decide))) ?_)
  replace Ep1 := Lib.hid Ep1
  rintro e W7 ⟨X7, c7, rfl, hp1, hb7⟩
  replace hG := hG.below hb7
  replace hl := hl.below hb7
  replace hm := hm.below hb7
  replace ha := ha.below hb7
  replace hb := hb.below hb7
  replace hp := hp.below hb7
  replace HBT := Below.cons HBT hb7
  clear hb7
  go_wp2_with (fail)
  refine (Calls.mono (same_t X7 c7 p1 X4 c4 p _ hp1 hp (by omega) (by omega) (by rw [Ep1.out, Ep.out])) ?_)
  rintro e W8 ⟨rfl, hb8⟩
  replace hG := hG.below hb8
  replace hl := hl.below hb8
  replace hm := hm.below hb8
  replace ha := ha.below hb8
  replace hb := hb.below hb8
  replace hp := hp.below hb8
  replace hp1 := hp1.below hb8
  replace HBT := Below.cons HBT hb8
  clear hb8
  go_wp2_with (fail)
  clear hp1
  obtain ⟨p2, Ep2⟩ : ∃ zq : Nat, zq = a * b := ⟨_, rfl⟩
  have Bp2 : nl p2 ≤ 240 := by rw [Ep2]; have := nl_mul a b; omega
  refine (Calls.mono (R := RetN W8 p2) (by rw [Ep2]; exact (toom_c 16384 X2 c2 a X3 c3 b _ ha hb (by omega) (by omega) (by decide))) ?_)
  replace Ep2 := Lib.hid Ep2
  rintro e W9 ⟨X9, c9, rfl, hp2, hb9⟩
  replace hG := hG.below hb9
  replace hl := hl.below hb9
  replace hm := hm.below hb9
  replace ha := ha.below hb9
  replace hb := hb.below hb9
  replace hp := hp.below hb9
  replace HBT := Below.cons HBT hb9
  clear hb9
  go_wp2_with (fail)
  refine (Calls.mono (same_t X9 c9 p2 X4 c4 p _ hp2 hp (by omega) (by omega) (by rw [Ep2.out, Ep.out])) ?_)
  rintro e W10 ⟨rfl, hb10⟩
  replace hG := hG.below hb10
  replace hl := hl.below hb10
  replace hm := hm.below hb10
  replace ha := ha.below hb10
  replace hb := hb.below hb10
  replace hp := hp.below hb10
  replace hp2 := hp2.below hb10
  replace HBT := Below.cons HBT hb10
  clear hb10
  go_wp2_with (fail)
  clear hp2
  obtain ⟨p3, Ep3⟩ : ∃ zq : Nat, zq = a * b := ⟨_, rfl⟩
  have Bp3 : nl p3 ≤ 240 := by rw [Ep3]; have := nl_mul a b; omega
  refine (Calls.mono (R := RetN W10 p3) (by rw [Ep3]; exact (fast_c  X2 c2 a X3 c3 b _ ha hb hG (by omega) (by omega))) ?_)
  replace Ep3 := Lib.hid Ep3
  rintro e W11 ⟨X11, c11, rfl, hp3, hb11⟩
  replace hG := hG.below hb11
  replace hl := hl.below hb11
  replace hm := hm.below hb11
  replace ha := ha.below hb11
  replace hb := hb.below hb11
  replace hp := hp.below hb11
  replace HBT := Below.cons HBT hb11
  clear hb11
  go_wp2_with (fail)
  refine (Calls.mono (same_t X11 c11 p3 X4 c4 p _ hp3 hp (by omega) (by omega) (by rw [Ep3.out, Ep.out])) ?_)
  rintro e W12 ⟨rfl, hb12⟩
  replace hG := hG.below hb12
  replace hl := hl.below hb12
  replace hm := hm.below hb12
  replace ha := ha.below hb12
  replace hb := hb.below hb12
  replace hp := hp.below hb12
  replace hp3 := hp3.below hb12
  replace HBT := Below.cons HBT hb12
  clear hb12
  go_wp2_with (fail)
  clear hp3
  obtain ⟨p4, Ep4⟩ : ∃ zq : Nat, zq = a * b := ⟨_, rfl⟩
  have Bp4 : nl p4 ≤ 240 := by rw [Ep4]; have := nl_mul a b; omega
  refine (Calls.mono (R := RetN W12 p4) (by rw [Ep4]; exact (mul_c  X2 c2 a X3 c3 b _ ha hb hG (by omega) (by omega))) ?_)
  replace Ep4 := Lib.hid Ep4
  rintro e W13 ⟨X13, c13, rfl, hp4, hb13⟩
  replace hG := hG.below hb13
  replace hl := hl.below hb13
  replace hm := hm.below hb13
  replace ha := ha.below hb13
  replace hb := hb.below hb13
  replace hp := hp.below hb13
  replace HBT := Below.cons HBT hb13
  clear hb13
  go_wp2_with (fail)
  refine (Calls.mono (same_t X13 c13 p4 X4 c4 p _ hp4 hp (by omega) (by omega) (by rw [Ep4.out, Ep.out])) ?_)
  rintro e W14 ⟨rfl, hb14⟩
  replace hG := hG.below hb14
  replace hl := hl.below hb14
  replace hm := hm.below hb14
  replace ha := ha.below hb14
  replace hb := hb.below hb14
  replace hp := hp.below hb14
  replace hp4 := hp4.below hb14
  replace HBT := Below.cons HBT hb14
  clear hb14
  go_wp2_with (fail)
  clear hp4
  go_ret
  exact ⟨rfl, HBT⟩

set_option maxHeartbeats 4000000 in
theorem mulCarries_c0 (A : Option Addr) (c : Nat) (l : List Nat) (n : Nat) (D : Option Addr) (r f : Nat) (L : List Nat) (w : World) (hG : Flds w) (hl : Rd w A l) (Ll : Lim l) (Ql : l.length ≤ maxLen) (Cl : l.length ≤ c) (Zl : A = none → c = 0) (hn8 : n < 256) (hL : Rd w D L) (lL : Lim L) (eL : L.length = 3 * r) (cL : r ≤ f) (h200 : r ≤ 200) :
    Calls Tryd.prog 4 #[.slice A l.length c, .int .u8 (n : Nat), .slice D r f] w fun e w' => e = .returned (.bool true) ∧ Below w.heap.size w w' := by
  replace Zl := Lib.hid Zl
  obtain ⟨k, Ek⟩ : ∃ y, y = n % 40 := ⟨_, rfl⟩
  have Ik : (n : Int) % 40 = (k : Int) := by omega
  have Jk : (n : Int).tmod 40 = (k : Int) := by rw [Int.tmod_eq_emod_of_nonneg (by omega)]; exact Ik
  have Bk : k < 40 := by omega
  replace Ek := Lib.hid Ek
  have h2 : decide ((200 : Int) < (r : Int)) = false := by simp; omega
  go_enter Tryd.func4, Tryd.ntmps4
  go_wp2_with (fail)
  refine (Calls.mono (head_c _ hG) ?_)
  rintro e W1 ⟨rfl, hb1⟩
  replace hG := hG.below hb1
  replace hl := hl.below hb1
  replace hL := hL.below hb1
  have HBT := hb1
  clear hb1
  go_wp2_with (fail)
  obtain ⟨a, Ea⟩ : ∃ zq : Nat, zq = val (l.take 4) := ⟨_, rfl⟩
  have Ba : nl a ≤ 4 := by rw [Ea]; exact made_nl l Ll 4
  refine (Calls.mono (R := RetN W1 a) (by rw [Ea]; exact (made_n_c A c 4 l _ hl Ll Ql Cl Zl.out (by decide))) ?_)
  replace Ea := Lib.hid Ea
  rintro e W2 ⟨X2, c2, rfl, ha, hb2⟩
  replace hG := hG.below hb2
  replace hl := hl.below hb2
  replace hL := hL.below hb2
  replace HBT := Below.cons HBT hb2
  clear hb2
  go_wp2_with (fail)
  have hak := Nat.mul_le_mul Ba (Nat.le_of_lt Bk)
  obtain ⟨p, Ep⟩ : ∃ zq : Nat, zq = a ^ k := ⟨_, rfl⟩
  have Bp : nl p ≤ 161 := by rw [Ep]; refine Nat.le_trans (nl_pow a k) ?_; omega
  refine (Calls.mono (R := RetN W2 p) (by rw [Ep]; exact (pow_c X2 c2 a k _ ha hG (Nat.le_trans hak (by decide)) (by omega) (by omega))) ?_)
  replace Ep := Lib.hid Ep
  rintro e W3 ⟨X3, c3, rfl, hp, hb3⟩
  replace hG := hG.below hb3
  replace hl := hl.below hb3
  replace hL := hL.below hb3
  replace ha := ha.below hb3
  replace HBT := Below.cons HBT hb3
  clear hb3
  go_wp2_with (fail)
  obtain ⟨q, Eq⟩ : ∃ zq : Nat, zq = a ^ k := ⟨_, rfl⟩
  have Bq : nl q ≤ 161 := by rw [Eq]; refine Nat.le_trans (nl_pow a k) ?_; omega
  refine (Calls.mono (R := RetN W3 q) (by rw [Eq]; exact (rpow_c X2 c2 a k _ ha (Nat.le_trans hak (by decide)) (by omega) (by omega))) ?_)
  replace Eq := Lib.hid Eq
  rintro e W4 ⟨X4, c4, rfl, hq, hb4⟩
  replace hG := hG.below hb4
  replace hl := hl.below hb4
  replace hL := hL.below hb4
  replace ha := ha.below hb4
  replace hp := hp.below hb4
  replace HBT := Below.cons HBT hb4
  clear hb4
  go_wp2_with (fail)
  refine (Calls.mono (same_t X3 c3 p X4 c4 q _ hp hq (by omega) (by omega) (by rw [Ep.out, Eq.out])) ?_)
  rintro e W5 ⟨rfl, hb5⟩
  replace hG := hG.below hb5
  replace hl := hl.below hb5
  replace hL := hL.below hb5
  replace ha := ha.below hb5
  replace hp := hp.below hb5
  replace hq := hq.below hb5
  replace HBT := Below.cons HBT hb5
  clear hb5
  go_wp2_with (fail)
  obtain ⟨s, Es⟩ : ∃ zq : Nat, zq = rowsV L r := ⟨_, rfl⟩
  have Bs : nl s ≤ 204 := by rw [Es]; exact nl_rowsV lL eL (by omega)
  refine (Calls.mono (R := RetN W5 s) (by rw [Es]; exact (carry_c D r f L _ eL hL lL (by omega) cL)) ?_)
  replace Es := Lib.hid Es
  rintro e W6 ⟨X6, c6, rfl, hs, hb6⟩
  replace hG := hG.below hb6
  replace hl := hl.below hb6
  replace hL := hL.below hb6
  replace ha := ha.below hb6
  replace hp := hp.below hb6
  replace hq := hq.below hb6
  replace HBT := Below.cons HBT hb6
  clear hb6
  go_wp2_with (fail)
  obtain ⟨t, Et⟩ : ∃ zq : Nat, zq = rowsV L r := ⟨_, rfl⟩
  have Bt : nl t ≤ 204 := by rw [Et]; exact nl_rowsV lL eL (by omega)
  refine (Calls.mono (R := RetN W6 t) (by rw [Et]; exact (rcarry_c D r f L _ eL hL lL (by omega) cL)) ?_)
  replace Et := Lib.hid Et
  rintro e W7 ⟨X7, c7, rfl, ht, hb7⟩
  replace hG := hG.below hb7
  replace hl := hl.below hb7
  replace hL := hL.below hb7
  replace ha := ha.below hb7
  replace hp := hp.below hb7
  replace hq := hq.below hb7
  replace hs := hs.below hb7
  replace HBT := Below.cons HBT hb7
  clear hb7
  go_wp2_with (fail)
  refine (Calls.mono (same_t X6 c6 s X7 c7 t _ hs ht (by omega) (by omega) (by rw [Es.out, Et.out])) ?_)
  rintro e W8 ⟨rfl, hb8⟩
  replace hG := hG.below hb8
  replace hl := hl.below hb8
  replace hL := hL.below hb8
  replace ha := ha.below hb8
  replace hp := hp.below hb8
  replace hq := hq.below hb8
  replace hs := hs.below hb8
  replace ht := ht.below hb8
  replace HBT := Below.cons HBT hb8
  clear hb8
  go_wp2_with (fail)
  go_ret
  exact ⟨rfl, HBT⟩

set_option maxHeartbeats 4000000 in
theorem mulCarries_c1 (A : Option Addr) (c : Nat) (l : List Nat) (n : Nat) (D : Option Addr) (r f : Nat) (L : List Nat) (w : World) (hG : Flds w) (hl : Rd w A l) (Ll : Lim l) (Ql : l.length ≤ maxLen) (Cl : l.length ≤ c) (Zl : A = none → c = 0) (hn8 : n < 256) (hL : Rd w D L) (lL : Lim L) (eL : L.length = 3 * r) (cL : r ≤ f) (h200 : 200 < r) :
    Calls Tryd.prog 4 #[.slice A l.length c, .int .u8 (n : Nat), .slice D r f] w fun e w' => e = .returned (.bool true) ∧ Below w.heap.size w w' := by
  replace Zl := Lib.hid Zl
  obtain ⟨k, Ek⟩ : ∃ y, y = n % 40 := ⟨_, rfl⟩
  have Ik : (n : Int) % 40 = (k : Int) := by omega
  have Jk : (n : Int).tmod 40 = (k : Int) := by rw [Int.tmod_eq_emod_of_nonneg (by omega)]; exact Ik
  have Bk : k < 40 := by omega
  replace Ek := Lib.hid Ek
  have h2 : decide ((200 : Int) < (r : Int)) = true := by simp; omega
  go_enter Tryd.func4, Tryd.ntmps4
  go_wp2_with (fail)
  refine (Calls.mono (head_c _ hG) ?_)
  rintro e W1 ⟨rfl, hb1⟩
  replace hG := hG.below hb1
  replace hl := hl.below hb1
  replace hL := hL.below hb1
  have HBT := hb1
  clear hb1
  go_wp2_with (fail)
  obtain ⟨a, Ea⟩ : ∃ zq : Nat, zq = val (l.take 4) := ⟨_, rfl⟩
  have Ba : nl a ≤ 4 := by rw [Ea]; exact made_nl l Ll 4
  refine (Calls.mono (R := RetN W1 a) (by rw [Ea]; exact (made_n_c A c 4 l _ hl Ll Ql Cl Zl.out (by decide))) ?_)
  replace Ea := Lib.hid Ea
  rintro e W2 ⟨X2, c2, rfl, ha, hb2⟩
  replace hG := hG.below hb2
  replace hl := hl.below hb2
  replace hL := hL.below hb2
  replace HBT := Below.cons HBT hb2
  clear hb2
  go_wp2_with (fail)
  go_ret
  exact ⟨rfl, HBT⟩

end Go.Proofs.YtmcekbmmpdpbmaaDoor
