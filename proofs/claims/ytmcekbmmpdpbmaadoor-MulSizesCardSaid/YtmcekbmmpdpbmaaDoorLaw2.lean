/- Live questions, whose answers are fixed (head). -/
import Derived.Test.YtmcekbmmpdpbmaaDoorLaw1
set_option linter.unusedVariables false
set_option linter.unusedSimpArgs false
namespace Go.Proofs.YtmcekbmmpdpbmaaDoor
open Go.RowKit Go.Shelf
attribute [local go_sem] max2_i min2_i max_two min_two

theorem at_len1 {f : Nat} {A : Option Addr} {c a la : Nat} {xs : List Value} {w : World} {R : Ending → World → Prop} (ha : nl a = la) (h : Calls Tryd.prog f (.slice A (nl a) c :: xs).toArray w R) : Calls Tryd.prog f (.slice A la c :: xs).toArray w R := by
  subst ha; exact h
theorem at_lenR {f : Nat} {x : Value} {B : Option Addr} {d b lb : Nat} {xs : List Value} {w : World} {R : Ending → World → Prop} (hb : nl b = lb) (h : Calls Tryd.prog f (x :: .slice B (nl b) d :: xs).toArray w R) : Calls Tryd.prog f (x :: .slice B lb d :: xs).toArray w R := by
  subst hb; exact h
theorem at_len2 {f : Nat} {A B : Option Addr} {c d a b la lb : Nat} {xs : List Value} {w : World} {R : Ending → World → Prop} (ha : nl a = la) (hb : nl b = lb) (h : Calls Tryd.prog f (.slice A (nl a) c :: .slice B (nl b) d :: xs).toArray w R) : Calls Tryd.prog f (.slice A la c :: .slice B lb d :: xs).toArray w R := by
  subst ha hb; exact h
theorem at_lenW1 {f : Nat} {x : Value} {A : Option Addr} {c a la : Nat} {xs : List Value} {w : World} {R : Ending → World → Prop} (ha : nl a = la) (h : Calls Tryd.prog f (x :: .slice A (nl a) c :: xs).toArray w R) : Calls Tryd.prog f (x :: .slice A la c :: xs).toArray w R := by
  subst ha; exact h
theorem at_lenWR {f : Nat} {x y : Value} {B : Option Addr} {d b lb : Nat} {xs : List Value} {w : World} {R : Ending → World → Prop} (hb : nl b = lb) (h : Calls Tryd.prog f (x :: y :: .slice B (nl b) d :: xs).toArray w R) : Calls Tryd.prog f (x :: y :: .slice B lb d :: xs).toArray w R := by
  subst hb; exact h
theorem at_lenW2 {f : Nat} {x : Value} {A B : Option Addr} {c d a b la lb : Nat} {xs : List Value} {w : World} {R : Ending → World → Prop} (ha : nl a = la) (hb : nl b = lb) (h : Calls Tryd.prog f (x :: .slice A (nl a) c :: .slice B (nl b) d :: xs).toArray w R) : Calls Tryd.prog f (x :: .slice A la c :: .slice B lb d :: xs).toArray w R := by
  subst ha hb; exact h
theorem alloc_sz (W : World) (o : Obj) : (W.alloc o).heap.size = W.heap.size + 1 := Array.size_push _
theorem nat_nil (w : World) : NatV w none 0 0 := ⟨.inl (by simp [vals, limbs_zero]), by rw [nl_zero]; exact Nat.le_refl _, by decide⟩
theorem lim_of {l : List Nat} (h : l.all (fun x => decide (x < 4294967296)) = true) : Lim l := fun x hx => by simpa using List.all_eq_true.1 h x hx
theorem lim_lit {l : List Nat} (h : l.all (fun x => decide (x < 4294967296)) = true) (h2 : (l.getD (l.length - 1) 0 != 0) = true) : limbs (val l) = l := limbs_val (lim_of h) (.inr (bne_iff_ne.1 h2))
theorem nl_lit {l : List Nat} (h : l.all (fun x => decide (x < 4294967296)) = true) (h2 : (l.getD (l.length - 1) 0 != 0) = true) : nl (val l) = l.length := by unfold nl; rw [lim_lit h h2]
theorem rd_lit {l : List Nat} (W : World) (s : Nat) (arr : Array Value) (t : TypeId) (h : W.heap[s]? = some (.cells arr t (0, 0))) (ha : arr.toList = vals l) : Rd W (some ⟨s, 0, none⟩) l := by
  refine .inr ⟨_, rfl, fun i u hu => ?_⟩
  rw [← ha, Array.getElem?_toList] at hu
  unfold World.cell?
  have e : (Addr.add ⟨s, 0, none⟩ i) = ⟨s, i, none⟩ := by simp only [Addr.add]; split <;> simp_all
  rw [e]
  simp [h, hu]
theorem nlit {l : List Nat} (W : World) (s : Nat) (arr : Array Value) (h : W.heap[s]? = some (.cells arr 35 (0, 0))) (ha : arr.toList = vals l) (h1 : l.all (fun x => decide (x < 4294967296)) = true) (h2 : (l.getD (l.length - 1) 0 != 0) = true) (h3 : l.length ≤ maxLen) : NatV W (some ⟨s, 0, none⟩) l.length (val l) :=
  ⟨by rw [lim_lit h1 h2]; exact rd_lit W s arr _ h ha, by rw [nl_lit h1 h2]; exact Nat.le_refl _, h3⟩
theorem nl_pow (a n : Nat) : nl (a ^ n) ≤ max 1 (nl a * n) := by
  induction n with
  | zero => rw [Nat.pow_zero, nl_one]; omega
  | succ n ih =>
    by_cases h : n = 0
    · subst h; simp; omega
    · rw [Nat.pow_succ, Nat.mul_add, Nat.mul_one]
      have := nl_mul (a ^ n) a
      by_cases ha : a = 0
      · subst ha; rw [Nat.mul_zero, nl_zero]; omega
      · have := nl_pos.2 ha
        have := Nat.mul_le_mul this (show 1 ≤ n by omega)
        omega
set_option maxHeartbeats 400000 in
theorem same_t (A : Option Addr) (c a : Nat) (B : Option Addr) (d b : Nat) (w : World) (hA : NatV w A c a) (hB : NatV w B d b) (ha : nl a ≤ 1099511627776) (hb : nl b ≤ 1099511627776) (h : a = b) :
    Calls Tryd.prog 15 #[.slice A (nl a) c, .slice B (nl b) d] w fun e w' => e = .returned (.bool true) ∧ Below w.heap.size w w' := by
  refine (same_c A c a B d b w hA hB ha hb).mono ?_
  rintro e w1 ⟨rfl, h1⟩
  exact ⟨by rw [decide_eq_true h], h1⟩
set_option maxHeartbeats 4000000 in
theorem head_c (w : World) (hG : Flds w) :
    Calls Tryd.prog 12 #[] w fun e w' => e = .returned (.bool true) ∧ Below w.heap.size w w' := by
  go_enter Tryd.func12, Tryd.ntmps12
  have hb1 : Below (w).heap.size (w) ((w).alloc (.cells #[.int .u32 4294967295] 35)) := (Below.refl _ _).alloc (Nat.le_refl _) _
  have hm := nlit (l := [4294967295]) _ _ _ (heap_alloc_new (w) (.cells #[.int .u32 4294967295] 35)) rfl (by decide) (by decide) (by decide)
  obtain ⟨m, Em⟩ : ∃ zq : Nat, zq = val [4294967295] := ⟨_, rfl⟩
  rw [← Em] at hm
  have Nm : nl m = 1 := by rw [Em]; exact nl_lit (by decide) (by decide)
  have Bm : nl m ≤ 1 := Nat.le_of_eq Nm
  replace Nm := Lib.hid Nm
  replace Em := Lib.hid Em
  replace hG := hG.below hb1
  have HBT := hb1
  clear hb1
  have hb2 : Below (((w).alloc (.cells #[.int .u32 4294967295] 35))).heap.size (((w).alloc (.cells #[.int .u32 4294967295] 35))) ((((w).alloc (.cells #[.int .u32 4294967295] 35))).alloc (.cells #[.int .u32 1, .int .u32 4294967294] 35)) := (Below.refl _ _).alloc (Nat.le_refl _) _
  have hv := nlit (l := [1, 4294967294]) _ _ _ (heap_alloc_new (((w).alloc (.cells #[.int .u32 4294967295] 35))) (.cells #[.int .u32 1, .int .u32 4294967294] 35)) rfl (by decide) (by decide) (by decide)
  obtain ⟨v, Ev⟩ : ∃ zq : Nat, zq = val [1, 4294967294] := ⟨_, rfl⟩
  rw [← Ev] at hv
  simp only [alloc_sz] at hv
  have Nv : nl v = 2 := by rw [Ev]; exact nl_lit (by decide) (by decide)
  have Bv : nl v ≤ 2 := Nat.le_of_eq Nv
  replace Nv := Lib.hid Nv
  replace Ev := Lib.hid Ev
  replace hG := hG.below hb2
  replace hm := hm.below hb2
  replace HBT := Below.cons HBT hb2
  clear hb2
  have hbr : Below (((((w).alloc (.cells #[.int .u32 4294967295] 35))).alloc (.cells #[.int .u32 1, .int .u32 4294967294] 35))).heap.size (((((w).alloc (.cells #[.int .u32 4294967295] 35))).alloc (.cells #[.int .u32 1, .int .u32 4294967294] 35))) ((((((w).alloc (.cells #[.int .u32 4294967295] 35))).alloc (.cells #[.int .u32 1, .int .u32 4294967294] 35))).alloc (.cells #[.int .u32 5, .int .u32 1, .int .u32 0, .int .u32 7, .int .u32 0, .int .u32 0] 50)) := (Below.refl _ _).alloc (Nat.le_refl _) _
  have hrow := rd_lit (l := [5, 1, 0, 7, 0, 0]) _ _ _ _ (heap_alloc_new (((((w).alloc (.cells #[.int .u32 4294967295] 35))).alloc (.cells #[.int .u32 1, .int .u32 4294967294] 35))) (.cells #[.int .u32 5, .int .u32 1, .int .u32 0, .int .u32 7, .int .u32 0, .int .u32 0] 50)) rfl
  simp only [alloc_sz] at hrow
  replace hG := hG.below hbr
  replace hm := hm.below hbr
  replace hv := hv.below hbr
  replace HBT := Below.cons HBT hbr
  clear hbr
  go_wp2_with (fail)
  obtain ⟨cc, Ecc⟩ : ∃ zq : Nat, zq = rowsV [5, 1, 0, 7, 0, 0] 2 := ⟨_, rfl⟩
  have Bcc : nl cc ≤ 2 := by rw [Ecc]; decide +kernel
  refine (Calls.mono (R := RetN ((((((w).alloc (.cells #[.int .u32 4294967295] 35))).alloc (.cells #[.int .u32 1, .int .u32 4294967294] 35))).alloc (.cells #[.int .u32 5, .int .u32 1, .int .u32 0, .int .u32 7, .int .u32 0, .int .u32 0] 50)) cc) (by rw [Ecc]; exact (carry_c _ 2 2 [5, 1, 0, 7, 0, 0] _ rfl hrow (lim_of (by decide)) (by decide) (by decide))) ?_)
  replace Ecc := Lib.hid Ecc
  rintro e W3 ⟨X3, c3, rfl, hcc, hb3⟩
  replace hG := hG.below hb3
  replace hm := hm.below hb3
  replace hv := hv.below hb3
  replace hrow := hrow.below hb3
  replace HBT := Below.cons HBT hb3
  clear hb3
  go_wp2_with (fail)
  clear hrow
  obtain ⟨p0, Ep0⟩ : ∃ zq : Nat, zq = m * m := ⟨_, rfl⟩
  have Bp0 : nl p0 ≤ 2 := by rw [Ep0]; have := nl_mul m m; omega
  refine (Calls.mono (R := RetN W3 p0) (by rw [Ep0]; exact (at_len2 Nm.out Nm.out (school_c  _ _ m _ _ m _ hm hm (by omega) (by omega)))) ?_)
  replace Ep0 := Lib.hid Ep0
  rintro e W4 ⟨X4, c4, rfl, hp0, hb4⟩
  replace hG := hG.below hb4
  replace hm := hm.below hb4
  replace hv := hv.below hb4
  replace hcc := hcc.below hb4
  replace HBT := Below.cons HBT hb4
  clear hb4
  go_wp2_with (fail)
  refine (Calls.mono (at_lenR Nv.out (same_t X4 c4 p0 _ _ v _ hp0 hv (by omega) (by omega) (by rw [Ep0.out, Em.out, Ev.out]; decide))) ?_)
  rintro e W5 ⟨rfl, hb5⟩
  replace hG := hG.below hb5
  replace hm := hm.below hb5
  replace hv := hv.below hb5
  replace hcc := hcc.below hb5
  replace hp0 := hp0.below hb5
  replace HBT := Below.cons HBT hb5
  clear hb5
  go_wp2_with (fail)
  clear hp0
  obtain ⟨p1, Ep1⟩ : ∃ zq : Nat, zq = m * m := ⟨_, rfl⟩
  have Bp1 : nl p1 ≤ 2 := by rw [Ep1]; have := nl_mul m m; omega
  refine (Calls.mono (R := RetN W5 p1) (by rw [Ep1]; exact (at_len2 Nm.out Nm.out (karatsuba_c 16384 _ _ m _ _ m _ hm hm (by omega) (by omega) (by decide)))) ?_)
  replace Ep1 := Lib.hid Ep1
  rintro e W6 ⟨X6, c6, rfl, hp1, hb6⟩
  replace hG := hG.below hb6
  replace hm := hm.below hb6
  replace hv := hv.below hb6
  replace hcc := hcc.below hb6
  replace HBT := Below.cons HBT hb6
  clear hb6
  go_wp2_with (fail)
  refine (Calls.mono (at_lenR Nv.out (same_t X6 c6 p1 _ _ v _ hp1 hv (by omega) (by omega) (by rw [Ep1.out, Em.out, Ev.out]; decide))) ?_)
  rintro e W7 ⟨rfl, hb7⟩
  replace hG := hG.below hb7
  replace hm := hm.below hb7
  replace hv := hv.below hb7
  replace hcc := hcc.below hb7
  replace hp1 := hp1.below hb7
  replace HBT := Below.cons HBT hb7
  clear hb7
  go_wp2_with (fail)
  clear hp1
  obtain ⟨p2, Ep2⟩ : ∃ zq : Nat, zq = m * m := ⟨_, rfl⟩
  have Bp2 : nl p2 ≤ 2 := by rw [Ep2]; have := nl_mul m m; omega
  refine (Calls.mono (R := RetN W7 p2) (by rw [Ep2]; exact (at_len2 Nm.out Nm.out (toom_c 16384 _ _ m _ _ m _ hm hm (by omega) (by omega) (by decide)))) ?_)
  replace Ep2 := Lib.hid Ep2
  rintro e W8 ⟨X8, c8, rfl, hp2, hb8⟩
  replace hG := hG.below hb8
  replace hm := hm.below hb8
  replace hv := hv.below hb8
  replace hcc := hcc.below hb8
  replace HBT := Below.cons HBT hb8
  clear hb8
  go_wp2_with (fail)
  refine (Calls.mono (at_lenR Nv.out (same_t X8 c8 p2 _ _ v _ hp2 hv (by omega) (by omega) (by rw [Ep2.out, Em.out, Ev.out]; decide))) ?_)
  rintro e W9 ⟨rfl, hb9⟩
  replace hG := hG.below hb9
  replace hm := hm.below hb9
  replace hv := hv.below hb9
  replace hcc := hcc.below hb9
  replace hp2 := hp2.below hb9
  replace HBT := Below.cons HBT hb9
  clear hb9
  go_wp2_with (fail)
  clear hp2
  obtain ⟨p3, Ep3⟩ : ∃ zq : Nat, zq = m * m := ⟨_, rfl⟩
  have Bp3 : nl p3 ≤ 2 := by rw [Ep3]; have := nl_mul m m; omega
  refine (Calls.mono (R := RetN W9 p3) (by rw [Ep3]; exact (at_len2 Nm.out Nm.out (fast_c  _ _ m _ _ m _ hm hm hG (by omega) (by omega)))) ?_)
  replace Ep3 := Lib.hid Ep3
  rintro e W10 ⟨X10, c10, rfl, hp3, hb10⟩
  replace hG := hG.below hb10
  replace hm := hm.below hb10
  replace hv := hv.below hb10
  replace hcc := hcc.below hb10
  replace HBT := Below.cons HBT hb10
  clear hb10
  go_wp2_with (fail)
  refine (Calls.mono (at_lenR Nv.out (same_t X10 c10 p3 _ _ v _ hp3 hv (by omega) (by omega) (by rw [Ep3.out, Em.out, Ev.out]; decide))) ?_)
  rintro e W11 ⟨rfl, hb11⟩
  replace hG := hG.below hb11
  replace hm := hm.below hb11
  replace hv := hv.below hb11
  replace hcc := hcc.below hb11
  replace hp3 := hp3.below hb11
  replace HBT := Below.cons HBT hb11
  clear hb11
  go_wp2_with (fail)
  clear hp3
  obtain ⟨p4, Ep4⟩ : ∃ zq : Nat, zq = m * m := ⟨_, rfl⟩
  have Bp4 : nl p4 ≤ 2 := by rw [Ep4]; have := nl_mul m m; omega
  refine (Calls.mono (R := RetN W11 p4) (by rw [Ep4]; exact (at_len2 Nm.out Nm.out (mul_c  _ _ m _ _ m _ hm hm hG (by omega) (by omega)))) ?_)
  replace Ep4 := Lib.hid Ep4
  rintro e W12 ⟨X12, c12, rfl, hp4, hb12⟩
  replace hG := hG.below hb12
  replace hm := hm.below hb12
  replace hv := hv.below hb12
  replace hcc := hcc.below hb12
  replace HBT := Below.cons HBT hb12
  clear hb12
  go_wp2_with (fail)
  refine (Calls.mono (at_lenR Nv.out (same_t X12 c12 p4 _ _ v _ hp4 hv (by omega) (by omega) (by rw [Ep4.out, Em.out, Ev.out]; decide))) ?_)
  rintro e W13 ⟨rfl, hb13⟩
  replace hG := hG.below hb13
  replace hm := hm.below hb13
  replace hv := hv.below hb13
  replace hcc := hcc.below hb13
  replace hp4 := hp4.below hb13
  replace HBT := Below.cons HBT hb13
  clear hb13
  clear hp4
  have hb14 : Below (W13).heap.size (W13) ((W13).alloc (.cells #[.int .u32 3] 35)) := (Below.refl _ _).alloc (Nat.le_refl _) _
  have hth := nlit (l := [3]) _ _ _ (heap_alloc_new (W13) (.cells #[.int .u32 3] 35)) rfl (by decide) (by decide) (by decide)
  obtain ⟨th, Eth⟩ : ∃ zq : Nat, zq = val [3] := ⟨_, rfl⟩
  rw [← Eth] at hth
  have Nth : nl th = 1 := by rw [Eth]; exact nl_lit (by decide) (by decide)
  have Bth : nl th ≤ 1 := Nat.le_of_eq Nth
  replace Nth := Lib.hid Nth
  replace Eth := Lib.hid Eth
  replace hG := hG.below hb14
  replace hm := hm.below hb14
  replace hv := hv.below hb14
  replace hcc := hcc.below hb14
  replace HBT := Below.cons HBT hb14
  clear hb14
  go_wp2_with (fail)
  obtain ⟨q, Eq⟩ : ∃ zq : Nat, zq = th ^ 5 := ⟨_, rfl⟩
  have Bq : nl q ≤ 5 := by rw [Eq]; refine Nat.le_trans (nl_pow th 5) ?_; omega
  refine (Calls.mono (R := RetN ((W13).alloc (.cells #[.int .u32 3] 35)) q) (by rw [Eq]; exact (at_len1 Nth.out (pow_c _ _ th 5 _ hth hG (by omega) (by omega) (by omega)))) ?_)
  replace Eq := Lib.hid Eq
  rintro e W15 ⟨X15, c15, rfl, hq, hb15⟩
  replace hG := hG.below hb15
  replace hm := hm.below hb15
  replace hv := hv.below hb15
  replace hcc := hcc.below hb15
  replace hth := hth.below hb15
  replace HBT := Below.cons HBT hb15
  clear hb15
  have hb16 : Below (W15).heap.size (W15) ((W15).alloc (.cells #[.int .u32 243] 35)) := (Below.refl _ _).alloc (Nat.le_refl _) _
  have ht3 := nlit (l := [243]) _ _ _ (heap_alloc_new (W15) (.cells #[.int .u32 243] 35)) rfl (by decide) (by decide) (by decide)
  obtain ⟨t3, Et3⟩ : ∃ zq : Nat, zq = val [243] := ⟨_, rfl⟩
  rw [← Et3] at ht3
  have Nt3 : nl t3 = 1 := by rw [Et3]; exact nl_lit (by decide) (by decide)
  have Bt3 : nl t3 ≤ 1 := Nat.le_of_eq Nt3
  replace Nt3 := Lib.hid Nt3
  replace Et3 := Lib.hid Et3
  replace hG := hG.below hb16
  replace hm := hm.below hb16
  replace hv := hv.below hb16
  replace hcc := hcc.below hb16
  replace hth := hth.below hb16
  replace hq := hq.below hb16
  replace HBT := Below.cons HBT hb16
  clear hb16
  go_wp2_with (fail)
  refine (Calls.mono (at_lenR Nt3.out (same_t X15 c15 q _ _ t3 _ hq ht3 (by omega) (by omega) (by rw [Eq.out, Eth.out, Et3.out]; decide))) ?_)
  rintro e W17 ⟨rfl, hb17⟩
  replace hG := hG.below hb17
  replace hm := hm.below hb17
  replace hv := hv.below hb17
  replace hcc := hcc.below hb17
  replace hth := hth.below hb17
  replace hq := hq.below hb17
  replace ht3 := ht3.below hb17
  replace HBT := Below.cons HBT hb17
  clear hb17
  clear hq
  clear ht3
  clear hth
  have hnil := nat_nil (W17)
  have Nnil : Hid (nl 0 = 0) := Lib.hid nl_zero
  have Bnil : nl 0 ≤ 0 := Nat.le_of_eq nl_zero
  go_wp2_with (fail)
  obtain ⟨q2, Eq2⟩ : ∃ zq : Nat, zq = 0 ^ 0 := ⟨_, rfl⟩
  have Bq2 : nl q2 ≤ 1 := by rw [Eq2]; refine Nat.le_trans (nl_pow 0 0) ?_; omega
  refine (Calls.mono (R := RetN W17 q2) (by rw [Eq2]; exact (at_len1 Nnil.out (pow_c none 0 0 0 _ hnil hG (by omega) (by omega) (by omega)))) ?_)
  replace Eq2 := Lib.hid Eq2
  rintro e W18 ⟨X18, c18, rfl, hq2, hb18⟩
  replace hG := hG.below hb18
  replace hm := hm.below hb18
  replace hv := hv.below hb18
  replace hcc := hcc.below hb18
  replace hnil := hnil.below hb18
  replace HBT := Below.cons HBT hb18
  clear hb18
  have hb19 : Below (W18).heap.size (W18) ((W18).alloc (.cells #[.int .u32 1] 35)) := (Below.refl _ _).alloc (Nat.le_refl _) _
  have ho1 := nlit (l := [1]) _ _ _ (heap_alloc_new (W18) (.cells #[.int .u32 1] 35)) rfl (by decide) (by decide) (by decide)
  obtain ⟨o1, Eo1⟩ : ∃ zq : Nat, zq = val [1] := ⟨_, rfl⟩
  rw [← Eo1] at ho1
  have No1 : nl o1 = 1 := by rw [Eo1]; exact nl_lit (by decide) (by decide)
  have Bo1 : nl o1 ≤ 1 := Nat.le_of_eq No1
  replace No1 := Lib.hid No1
  replace Eo1 := Lib.hid Eo1
  replace hG := hG.below hb19
  replace hm := hm.below hb19
  replace hv := hv.below hb19
  replace hcc := hcc.below hb19
  replace hnil := hnil.below hb19
  replace hq2 := hq2.below hb19
  replace HBT := Below.cons HBT hb19
  clear hb19
  go_wp2_with (fail)
  refine (Calls.mono (at_lenR No1.out (same_t X18 c18 q2 _ _ o1 _ hq2 ho1 (by omega) (by omega) (by rw [Eq2.out, Eo1.out]; decide))) ?_)
  rintro e W20 ⟨rfl, hb20⟩
  replace hG := hG.below hb20
  replace hm := hm.below hb20
  replace hv := hv.below hb20
  replace hcc := hcc.below hb20
  replace hnil := hnil.below hb20
  replace hq2 := hq2.below hb20
  replace ho1 := ho1.below hb20
  replace HBT := Below.cons HBT hb20
  clear hb20
  clear hq2
  clear ho1
  have hb21 : Below (W20).heap.size (W20) ((W20).alloc (.cells #[.int .u32 5, .int .u32 8] 35)) := (Below.refl _ _).alloc (Nat.le_refl _) _
  have hf8 := nlit (l := [5, 8]) _ _ _ (heap_alloc_new (W20) (.cells #[.int .u32 5, .int .u32 8] 35)) rfl (by decide) (by decide) (by decide)
  obtain ⟨f8, Ef8⟩ : ∃ zq : Nat, zq = val [5, 8] := ⟨_, rfl⟩
  rw [← Ef8] at hf8
  have Nf8 : nl f8 = 2 := by rw [Ef8]; exact nl_lit (by decide) (by decide)
  have Bf8 : nl f8 ≤ 2 := Nat.le_of_eq Nf8
  replace Nf8 := Lib.hid Nf8
  replace Ef8 := Lib.hid Ef8
  replace hG := hG.below hb21
  replace hm := hm.below hb21
  replace hv := hv.below hb21
  replace hcc := hcc.below hb21
  replace hnil := hnil.below hb21
  replace HBT := Below.cons HBT hb21
  clear hb21
  go_wp2_with (fail)
  refine (Calls.mono (at_lenR Nf8.out (same_t X3 c3 cc _ _ f8 _ hcc hf8 (by omega) (by omega) (by rw [Ecc.out, Ef8.out]; decide +kernel))) ?_)
  rintro e W22 ⟨rfl, hb22⟩
  replace hG := hG.below hb22
  replace hm := hm.below hb22
  replace hv := hv.below hb22
  replace hcc := hcc.below hb22
  replace hnil := hnil.below hb22
  replace hf8 := hf8.below hb22
  replace HBT := Below.cons HBT hb22
  clear hb22
  go_wp2_with (fail)
  clear hcc
  clear hf8
  obtain ⟨z0, Ez0⟩ : ∃ zq : Nat, zq = 0 * m := ⟨_, rfl⟩
  have Bz0 : nl z0 ≤ 1 := by rw [Ez0]; rw [Nat.zero_mul, nl_zero]; decide
  refine (Calls.mono (R := RetN W22 z0) (by rw [Ez0]; exact (at_len2 Nnil.out Nm.out (mul_c  none 0 0 _ _ m _ hnil hm hG (by omega) (by omega)))) ?_)
  replace Ez0 := Lib.hid Ez0
  rintro e W23 ⟨X23, c23, rfl, hz0, hb23⟩
  replace hG := hG.below hb23
  replace hm := hm.below hb23
  replace hv := hv.below hb23
  replace hnil := hnil.below hb23
  replace HBT := Below.cons HBT hb23
  clear hb23
  have e0 : nl z0 = 0 := by rw [Ez0.out, Nat.zero_mul, nl_zero]
  have e0b : ((nl z0 : Int) == 0) = true := ieqT (by omega)
  replace e0 := Lib.hid e0
  go_wp2_with (fail)
  obtain ⟨z1, Ez1⟩ : ∃ zq : Nat, zq = rowsV [] 0 := ⟨_, rfl⟩
  have Bz1 : nl z1 ≤ 1 := by rw [Ez1]; decide +kernel
  refine (Calls.mono (R := RetN W23 z1) (by rw [Ez1]; exact (carry_c none 0 0 [] _ rfl (.inl rfl) Lim.nil (by decide) (by decide))) ?_)
  replace Ez1 := Lib.hid Ez1
  rintro e W24 ⟨X24, c24, rfl, hz1, hb24⟩
  replace hG := hG.below hb24
  replace hm := hm.below hb24
  replace hv := hv.below hb24
  replace hnil := hnil.below hb24
  replace hz0 := hz0.below hb24
  replace HBT := Below.cons HBT hb24
  clear hb24
  have e1 : nl z1 = 0 := by rw [Ez1.out]; exact nl_zero
  have e1b : ((nl z1 : Int) == 0) = true := ieqT (by omega)
  replace e1 := Lib.hid e1
  go_wp2_with (fail)
  go_ret
  exact ⟨rfl, HBT⟩
end Go.Proofs.YtmcekbmmpdpbmaaDoor
