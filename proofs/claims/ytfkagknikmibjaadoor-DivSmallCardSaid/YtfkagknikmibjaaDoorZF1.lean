/- Laws of division: what is used in all of them. -/
import Derived.Test.YtfkagknikmibjaaDoorZE5
import Derived.Test.YtfkagknikmibjaaDoorZD1
set_option linter.unusedVariables false
set_option linter.unusedSimpArgs false
namespace Go.Proofs.YtfkagknikmibjaaDoor
open Go.RowKit Go.Shelf
attribute [local go_sem] max2_i min2_i max_two min_two

theorem at_len1 {f : Nat} {A : Option Addr} {c a la : Nat} {xs : List Value} {w : World} {R : Ending → World → Prop} (ha : nl a = la) (h : Calls Tryd.prog f (.slice A (nl a) c :: xs).toArray w R) : Calls Tryd.prog f (.slice A la c :: xs).toArray w R := by
  subst ha; exact h
theorem at_lenR {f : Nat} {x : Value} {B : Option Addr} {d b lb : Nat} {xs : List Value} {w : World} {R : Ending → World → Prop} (hb : nl b = lb) (h : Calls Tryd.prog f (x :: .slice B (nl b) d :: xs).toArray w R) : Calls Tryd.prog f (x :: .slice B lb d :: xs).toArray w R := by
  subst hb; exact h
theorem at_len2 {f : Nat} {A B : Option Addr} {c d a b la lb : Nat} {xs : List Value} {w : World} {R : Ending → World → Prop} (ha : nl a = la) (hb : nl b = lb) (h : Calls Tryd.prog f (.slice A (nl a) c :: .slice B (nl b) d :: xs).toArray w R) : Calls Tryd.prog f (.slice A la c :: .slice B lb d :: xs).toArray w R := by
  subst ha hb; exact h
theorem at_lenW1 {f : Nat} {x : Value} {A : Option Addr} {c a la : Nat} {xs : List Value} {w : World} {R : Ending → World → Prop} (ha : nl a = la) (h : Calls Tryd.prog f (x :: .slice A (nl a) c :: xs).toArray w R) : Calls Tryd.prog f (x :: .slice A la c :: xs).toArray w R := by
  subst ha; exact h
theorem at_lenWR {f : Nat} {x y : Value} {B : Option Addr} {d b lb : Nat} {xs : List Value} {w : World} {R : Ending → World → Prop} (hb : nl b = lb) (h : Calls Tryd.prog f (x :: y :: .slice B (nl b) d :: xs).toArray w R) : Calls Tryd.prog f (x :: y :: .slice B lb d :: xs).toArray w R := by
  subst hb; exact h
theorem at_lenW2 {f : Nat} {x : Value} {A B : Option Addr} {c d a b la lb : Nat} {xs : List Value} {w : World} {R : Ending → World → Prop} (ha : nl a = la) (hb : nl b = lb) (h : Calls Tryd.prog f (x :: .slice A (nl a) c :: .slice B (nl b) d :: xs).toArray w R) : Calls Tryd.prog f (x :: .slice A la c :: .slice B lb d :: xs).toArray w R := by
  subst ha hb; exact h
theorem alloc_sz (W : World) (o : Obj) : (W.alloc o).heap.size = W.heap.size + 1 := Array.size_push _
theorem nat_nil (w : World) : NatV w none 0 0 := ⟨.inl (by simp [vals, limbs_zero]), by rw [nl_zero]; exact Nat.le_refl _, by decide⟩
theorem lim_of {l : List Nat} (h : l.all (fun x => decide (x < 4294967296)) = true) : Lim l := fun x hx => by simpa using List.all_eq_true.1 h x hx
theorem lim_lit {l : List Nat} (h : l.all (fun x => decide (x < 4294967296)) = true) (h2 : (l.getD (l.length - 1) 0 != 0) = true) : limbs (val l) = l := limbs_val (lim_of h) (.inr (bne_iff_ne.1 h2))
theorem nl_lit {l : List Nat} (h : l.all (fun x => decide (x < 4294967296)) = true) (h2 : (l.getD (l.length - 1) 0 != 0) = true) : nl (val l) = l.length := by unfold nl; rw [lim_lit h h2]
theorem rd_lit {l : List Nat} (W : World) (s : Nat) (arr : Array Value) (t : TypeId) (h : W.heap[s]? = some (.cells arr t (0, 0))) (ha : arr.toList = vals l) : Rd W (some ⟨s, 0, none⟩) l := by
  refine .inr ⟨_, rfl, fun i u hu => ?_⟩
  rw [← ha, Array.getElem?_toList] at hu
  unfold World.cell?
  have e : (Addr.add ⟨s, 0, none⟩ i) = ⟨s, i, none⟩ := by simp only [Addr.add]; split <;> simp_all
  rw [e]
  simp [h, hu]
theorem nlit {l : List Nat} (W : World) (s : Nat) (arr : Array Value) (h : W.heap[s]? = some (.cells arr 23 (0, 0))) (ha : arr.toList = vals l) (h1 : l.all (fun x => decide (x < 4294967296)) = true) (h2 : (l.getD (l.length - 1) 0 != 0) = true) (h3 : l.length ≤ maxLen) : NatV W (some ⟨s, 0, none⟩) l.length (val l) :=
  ⟨by rw [lim_lit h1 h2]; exact rd_lit W s arr _ h ha, by rw [nl_lit h1 h2]; exact Nat.le_refl _, h3⟩
set_option maxRecDepth 100000 in
set_option maxHeartbeats 400000 in
theorem same1_t (A : Option Addr) (c a : Nat) (B : Option Addr) (d b : Nat) (w : World) (hA : NatV w A c a) (hB : NatV w B d b) (ha : nl a ≤ 1099511627776) (hb : nl b ≤ 1099511627776) (h : a = b) :
    Calls Tryd.prog 19 #[.slice A (nl a) c, .slice B (nl b) d] w fun e w' => e = .returned (.bool true) ∧ Below w.heap.size w w' := by
  refine (same1_c A c a B d b w hA hB ha hb).mono ?_
  rintro e w1 ⟨rfl, h1⟩
  exact ⟨by rw [decide_eq_true h], h1⟩
theorem cmpN_le {a b : Nat} (h : a ≤ b) : cmpN a b ≤ 0 := by
  rcases Nat.lt_or_ge a b with e | e
  · exact Int.le_of_lt (cmpN_neg.2 e)
  · rw [cmpN_eq (by omega)]; decide
theorem ddivZ_e (A : Option Addr) (c a : Nat) (B : Option Addr) (d b : Nat) (w : World) (h : b = 0) :
    Calls Tryd.prog 16 #[.slice A (nl a) c, .slice B (nl b) d] w (RetQZ w) := by
  subst h; rw [nl_zero]; exact ddivZ_c A c (nl a) B d w
theorem dzieglerZ_e (A : Option Addr) (c a : Nat) (B : Option Addr) (d b : Nat) (w : World) (h : b = 0) :
    Calls Tryd.prog 18 #[.slice A (nl a) c, .slice B (nl b) d] w (RetQZ w) := by
  subst h; rw [nl_zero]; exact dzieglerZ_c A c (nl a) B d w
set_option maxRecDepth 100000 in
set_option maxHeartbeats 4000000 in
theorem fits_c (A : Option Addr) (c a : Nat) (B : Option Addr) (d b : Nat) (Q : Option Addr) (e q : Nat) (R : Option Addr) (f r : Nat) (w : World) (hA : NatV w A c a) (hB : NatV w B d b) (hQ : NatV w Q e q) (hR : NatV w R f r)
    (ha : nl a ≤ 200) (hb : nl b ≤ 200) (hq : nl q ≤ 200) (hr : nl r ≤ 200) (h1 : a = q * b + r) (h2 : r < b) :
    Calls Tryd.prog 24 #[.slice A (nl a) c, .slice B (nl b) d, .slice Q (nl q) e, .slice R (nl r) f] w fun e w' => e = .returned (.bool true) ∧ Below w.heap.size w w' := by
  have t1 : decide (cmpN r b < 0) = true := by rw [decide_eq_true_eq, cmpN_neg]; exact h2
  replace h1 := Lib.hid h1
  replace h2 := Lib.hid h2
  go_enter Tryd.func24, Tryd.ntmps24
  go_wp2_with (fail)
  refine (Calls.mono (rcmp_c R f r B d b _ hR hB (by omega) (by omega)) ?_)
  rintro e w' ⟨rfl, hw⟩
  first | subst hw | (replace hw := hw.symm; subst hw)
  go_wp2_with (fail)
  obtain ⟨p, Ep⟩ : ∃ zq : Nat, zq = q * b := ⟨_, rfl⟩
  have Bp : nl p ≤ 400 := by rw [Ep]; have := nl_mul q b; omega
  refine (Calls.mono (R := RetN w p) (by rw [Ep]; exact (rmul_c Q e q B d b _ hQ hB (by omega) (by omega))) ?_)
  replace Ep := Lib.hid Ep
  rintro e W1 ⟨X1, c1, rfl, hp, hb1⟩
  replace hA := hA.below hb1
  replace hB := hB.below hb1
  replace hQ := hQ.below hb1
  replace hR := hR.below hb1
  have HBT := hb1
  clear hb1
  go_wp2_with (fail)
  obtain ⟨s, Es⟩ : ∃ zq : Nat, zq = p + r := ⟨_, rfl⟩
  have Bs : nl s ≤ 401 := by rw [Es]; have := nl_add p r; omega
  refine (Calls.mono (R := RetN W1 s) (by rw [Es]; exact (radd_c X1 c1 p R f r _ hp hR (by omega) (by omega))) ?_)
  replace Es := Lib.hid Es
  rintro e W2 ⟨X2, c2, rfl, hs, hb2⟩
  replace hA := hA.below hb2
  replace hB := hB.below hb2
  replace hQ := hQ.below hb2
  replace hR := hR.below hb2
  replace hp := hp.below hb2
  replace HBT := Below.cons HBT hb2
  clear hb2
  go_wp2_with (fail)
  refine (Calls.mono (same1_t X2 c2 s A c a _ hs hA (by omega) (by omega) (by rw [Es.out, Ep.out]; exact h1.out.symm)) ?_)
  rintro e W3 ⟨rfl, hb3⟩
  replace hA := hA.below hb3
  replace hB := hB.below hb3
  replace hQ := hQ.below hb3
  replace hR := hR.below hb3
  replace hp := hp.below hb3
  replace hs := hs.below hb3
  replace HBT := Below.cons HBT hb3
  clear hb3
  go_wp2_with (fail)
  refine (Calls.mono (rright_c Q e q _ hQ (by omega)) ?_)
  rintro e w' ⟨rfl, hw⟩
  first | subst hw | (replace hw := hw.symm; subst hw)
  go_wp2_with (fail)
  refine (Calls.mono (rright_c R f r _ hR (by omega)) ?_)
  rintro e w' ⟨rfl, hw⟩
  first | subst hw | (replace hw := hw.symm; subst hw)
  go_wp2_with (fail)
  go_ret
  exact ⟨rfl, HBT⟩
end Go.Proofs.YtfkagknikmibjaaDoor

/- Live questions, whose answers are fixed (head). -/
set_option linter.unusedVariables false
set_option linter.unusedSimpArgs false
namespace Go.Proofs.YtfkagknikmibjaaDoor
open Go.RowKit Go.Shelf
attribute [local go_sem] max2_i min2_i max_two min_two

set_option maxRecDepth 100000 in
set_option maxHeartbeats 4000000 in
theorem head_c (w : World) (hG : Flds w) :
    Calls Tryd.prog 13 #[] w fun e w' => e = .returned (.bool true) ∧ Below w.heap.size w w' := by
  go_enter Tryd.func13, Tryd.ntmps13
  have hb1 : Below (w).heap.size (w) ((w).alloc (.cells #[.int .u32 0, .int .u32 0, .int .u32 1] 23)) := (Below.refl _ _).alloc (Nat.le_refl _) _
  have ha := nlit (l := [0, 0, 1]) _ _ _ (heap_alloc_new (w) (.cells #[.int .u32 0, .int .u32 0, .int .u32 1] 23)) rfl (by decide) (by decide) (by decide)
  obtain ⟨a, Ea⟩ : ∃ zq : Nat, zq = val [0, 0, 1] := ⟨_, rfl⟩
  rw [← Ea] at ha
  have Na : nl a = 3 := by rw [Ea]; exact nl_lit (by decide) (by decide)
  have Va : a = 18446744073709551616 := by rw [Ea]; decide
  have Ba : nl a ≤ 3 := Nat.le_of_eq Na
  replace Na := Lib.hid Na
  replace Ea := Lib.hid Ea
  replace Va := Lib.hid Va
  replace hG := hG.below hb1
  have HBT := hb1
  clear hb1
  have hb2 : Below (((w).alloc (.cells #[.int .u32 0, .int .u32 0, .int .u32 1] 23))).heap.size (((w).alloc (.cells #[.int .u32 0, .int .u32 0, .int .u32 1] 23))) ((((w).alloc (.cells #[.int .u32 0, .int .u32 0, .int .u32 1] 23))).alloc (.cells #[.int .u32 4294967295] 23)) := (Below.refl _ _).alloc (Nat.le_refl _) _
  have hb := nlit (l := [4294967295]) _ _ _ (heap_alloc_new (((w).alloc (.cells #[.int .u32 0, .int .u32 0, .int .u32 1] 23))) (.cells #[.int .u32 4294967295] 23)) rfl (by decide) (by decide) (by decide)
  obtain ⟨b, Eb⟩ : ∃ zq : Nat, zq = val [4294967295] := ⟨_, rfl⟩
  rw [← Eb] at hb
  simp only [alloc_sz] at hb
  have Nb : nl b = 1 := by rw [Eb]; exact nl_lit (by decide) (by decide)
  have Vb : b = 4294967295 := by rw [Eb]; decide
  have Bb : nl b ≤ 1 := Nat.le_of_eq Nb
  replace Nb := Lib.hid Nb
  replace Eb := Lib.hid Eb
  replace Vb := Lib.hid Vb
  replace hG := hG.below hb2
  replace ha := ha.below hb2
  replace HBT := Below.cons HBT hb2
  clear hb2
  go_wp2_with (fail)
  obtain ⟨q, Eq⟩ : ∃ zq : Nat, zq = a / b := ⟨_, rfl⟩
  have Bq : nl q ≤ 3 := by rw [Eq]; have := nl_div a b; omega
  obtain ⟨r, Er⟩ : ∃ zq : Nat, zq = a % b := ⟨_, rfl⟩
  have Br : nl r ≤ 1 := by rw [Er]; have := nl_mod_lt a (show b ≠ 0 from Nat.pos_iff_ne_zero.1 (by rw [Vb.out]; decide)); omega
  have CT3 := (at_len2 Na.out Nb.out (ddivmod_c _ _ a _ _ b _ ha hb  (by omega) (by omega) (by rw [Vb.out]; decide)))
  rw [← Eq, ← Er] at CT3
  replace Eq := Lib.hid Eq
  replace Er := Lib.hid Er
  refine (Calls.mono CT3 ?_)
  clear CT3
  rintro e W3 ⟨Xq, cq, Xr, cr, rfl, hq, hr, hb3⟩
  replace hG := hG.below hb3
  replace ha := ha.below hb3
  replace hb := hb.below hb3
  replace HBT := Below.cons HBT hb3
  clear hb3
  have hb4 : Below (W3).heap.size (W3) ((W3).alloc (.cells #[.int .u32 5] 23)) := (Below.refl _ _).alloc (Nat.le_refl _) _
  have hv5 := nlit (l := [5]) _ _ _ (heap_alloc_new (W3) (.cells #[.int .u32 5] 23)) rfl (by decide) (by decide) (by decide)
  obtain ⟨v5, Ev5⟩ : ∃ zq : Nat, zq = val [5] := ⟨_, rfl⟩
  rw [← Ev5] at hv5
  have Nv5 : nl v5 = 1 := by rw [Ev5]; exact nl_lit (by decide) (by decide)
  have Vv5 : v5 = 5 := by rw [Ev5]; decide
  have Bv5 : nl v5 ≤ 1 := Nat.le_of_eq Nv5
  replace Nv5 := Lib.hid Nv5
  replace Ev5 := Lib.hid Ev5
  replace Vv5 := Lib.hid Vv5
  replace hG := hG.below hb4
  replace ha := ha.below hb4
  replace hb := hb.below hb4
  replace hq := hq.below hb4
  replace hr := hr.below hb4
  replace HBT := Below.cons HBT hb4
  clear hb4
  have hb5 : Below (((W3).alloc (.cells #[.int .u32 5] 23))).heap.size (((W3).alloc (.cells #[.int .u32 5] 23))) ((((W3).alloc (.cells #[.int .u32 5] 23))).alloc (.cells #[.int .u32 7] 23)) := (Below.refl _ _).alloc (Nat.le_refl _) _
  have hv7 := nlit (l := [7]) _ _ _ (heap_alloc_new (((W3).alloc (.cells #[.int .u32 5] 23))) (.cells #[.int .u32 7] 23)) rfl (by decide) (by decide) (by decide)
  obtain ⟨v7, Ev7⟩ : ∃ zq : Nat, zq = val [7] := ⟨_, rfl⟩
  rw [← Ev7] at hv7
  simp only [alloc_sz] at hv7
  have Nv7 : nl v7 = 1 := by rw [Ev7]; exact nl_lit (by decide) (by decide)
  have Vv7 : v7 = 7 := by rw [Ev7]; decide
  have Bv7 : nl v7 ≤ 1 := Nat.le_of_eq Nv7
  replace Nv7 := Lib.hid Nv7
  replace Ev7 := Lib.hid Ev7
  replace Vv7 := Lib.hid Vv7
  replace hG := hG.below hb5
  replace ha := ha.below hb5
  replace hb := hb.below hb5
  replace hq := hq.below hb5
  replace hr := hr.below hb5
  replace hv5 := hv5.below hb5
  replace HBT := Below.cons HBT hb5
  clear hb5
  go_wp2_with (fail)
  have s0 : v5 / v7 = 0 := by rw [Vv5.out, Vv7.out]
  have s1 : v5 % v7 = 5 := by rw [Vv5.out, Vv7.out]
  replace s0 := Lib.hid s0
  replace s1 := Lib.hid s1
  obtain ⟨s, Es⟩ : ∃ zq : Nat, zq = v5 / v7 := ⟨_, rfl⟩
  have Bs : nl s ≤ 1 := by rw [Es]; have := nl_div v5 v7; omega
  obtain ⟨t, Et⟩ : ∃ zq : Nat, zq = v5 % v7 := ⟨_, rfl⟩
  have Bt : nl t ≤ 1 := by rw [Et]; have := nl_mod_lt v5 (show v7 ≠ 0 from Nat.pos_iff_ne_zero.1 (by rw [Vv7.out]; decide)); omega
  have CT6 := (at_len2 Nv5.out Nv7.out (dnewton_c _ _ v5 _ _ v7 _ hv5 hv7 hG  (by omega) (by omega) (by rw [Vv7.out]; decide)))
  rw [← Es, ← Et] at CT6
  replace Es := Lib.hid Es
  replace Et := Lib.hid Et
  refine (Calls.mono CT6 ?_)
  clear CT6
  rintro e W6 ⟨Xs, cs, Xt, ct, rfl, hs, ht, hb6⟩
  replace hG := hG.below hb6
  replace ha := ha.below hb6
  replace hb := hb.below hb6
  replace hq := hq.below hb6
  replace hr := hr.below hb6
  replace hv5 := hv5.below hb6
  replace hv7 := hv7.below hb6
  replace HBT := Below.cons HBT hb6
  clear hb6
  have hb7 : Below (W6).heap.size (W6) ((W6).alloc (.cells #[.int .u32 0, .int .u32 1] 23)) := (Below.refl _ _).alloc (Nat.le_refl _) _
  have hv01 := nlit (l := [0, 1]) _ _ _ (heap_alloc_new (W6) (.cells #[.int .u32 0, .int .u32 1] 23)) rfl (by decide) (by decide) (by decide)
  obtain ⟨v01, Ev01⟩ : ∃ zq : Nat, zq = val [0, 1] := ⟨_, rfl⟩
  rw [← Ev01] at hv01
  have Nv01 : nl v01 = 2 := by rw [Ev01]; exact nl_lit (by decide) (by decide)
  have Vv01 : v01 = 4294967296 := by rw [Ev01]; decide
  have Bv01 : nl v01 ≤ 2 := Nat.le_of_eq Nv01
  replace Nv01 := Lib.hid Nv01
  replace Ev01 := Lib.hid Ev01
  replace Vv01 := Lib.hid Vv01
  replace hG := hG.below hb7
  replace ha := ha.below hb7
  replace hb := hb.below hb7
  replace hq := hq.below hb7
  replace hr := hr.below hb7
  replace hv5 := hv5.below hb7
  replace hv7 := hv7.below hb7
  replace hs := hs.below hb7
  replace ht := ht.below hb7
  replace HBT := Below.cons HBT hb7
  clear hb7
  go_wp2_with (fail)
  obtain ⟨u, Eu⟩ : ∃ zq : Nat, zq = a / v01 := ⟨_, rfl⟩
  have Bu : nl u ≤ 3 := by rw [Eu]; have := nl_div a v01; omega
  obtain ⟨v, Ev⟩ : ∃ zq : Nat, zq = a % v01 := ⟨_, rfl⟩
  have Bv : nl v ≤ 2 := by rw [Ev]; have := nl_mod_lt a (show v01 ≠ 0 from Nat.pos_iff_ne_zero.1 (by rw [Vv01.out]; decide)); omega
  have CT8 := (at_len2 Na.out Nv01.out (dziegler_c _ _ a _ _ v01 _ ha hv01 hG  (by omega) (by omega) (by rw [Vv01.out]; decide)))
  rw [← Eu, ← Ev] at CT8
  replace Eu := Lib.hid Eu
  replace Ev := Lib.hid Ev
  refine (Calls.mono CT8 ?_)
  clear CT8
  rintro e W8 ⟨Xu, cu, Xv, cv, rfl, hu, hv, hb8⟩
  replace hG := hG.below hb8
  replace ha := ha.below hb8
  replace hb := hb.below hb8
  replace hq := hq.below hb8
  replace hr := hr.below hb8
  replace hv5 := hv5.below hb8
  replace hv7 := hv7.below hb8
  replace hs := hs.below hb8
  replace ht := ht.below hb8
  replace hv01 := hv01.below hb8
  replace HBT := Below.cons HBT hb8
  clear hb8
  have hnil := nat_nil (W8)
  have Nnil : Hid (nl 0 = 0) := Lib.hid nl_zero
  have Bnil : nl 0 ≤ 0 := Nat.le_of_eq nl_zero
  go_wp2_with (fail)
  refine (Calls.mono ((at_len1 Na.out (ddivZ_c _ _ (nl a) none 0 _))) ?_)
  rintro e W9 ⟨rfl, hb9⟩
  replace hG := hG.below hb9
  replace ha := ha.below hb9
  replace hb := hb.below hb9
  replace hq := hq.below hb9
  replace hr := hr.below hb9
  replace hv5 := hv5.below hb9
  replace hv7 := hv7.below hb9
  replace hs := hs.below hb9
  replace ht := ht.below hb9
  replace hv01 := hv01.below hb9
  replace hu := hu.below hb9
  replace hv := hv.below hb9
  replace hnil := hnil.below hb9
  replace HBT := Below.cons HBT hb9
  clear hb9
  go_wp2_with (fail)
  refine (Calls.mono (at_len2 Na.out Nnil.out (dnewtonZ_c _ _ a none 0 0 _ ha hnil (by omega) rfl)) ?_)
  rintro e W10 ⟨rfl, hb10⟩
  replace hG := hG.below hb10
  replace ha := ha.below hb10
  replace hb := hb.below hb10
  replace hq := hq.below hb10
  replace hr := hr.below hb10
  replace hv5 := hv5.below hb10
  replace hv7 := hv7.below hb10
  replace hs := hs.below hb10
  replace ht := ht.below hb10
  replace hv01 := hv01.below hb10
  replace hu := hu.below hb10
  replace hv := hv.below hb10
  replace hnil := hnil.below hb10
  replace HBT := Below.cons HBT hb10
  clear hb10
  go_wp2_with (fail)
  refine (Calls.mono (dzieglerZ_c none 0 0 none 0 _) ?_)
  rintro e W11 ⟨rfl, hb11⟩
  replace hG := hG.below hb11
  replace ha := ha.below hb11
  replace hb := hb.below hb11
  replace hq := hq.below hb11
  replace hr := hr.below hb11
  replace hv5 := hv5.below hb11
  replace hv7 := hv7.below hb11
  replace hs := hs.below hb11
  replace ht := ht.below hb11
  replace hv01 := hv01.below hb11
  replace hu := hu.below hb11
  replace hv := hv.below hb11
  replace hnil := hnil.below hb11
  replace HBT := Below.cons HBT hb11
  clear hb11
  have hb12 : Below (W11).heap.size (W11) ((W11).alloc (.cells #[.int .u32 3] 23)) := (Below.refl _ _).alloc (Nat.le_refl _) _
  have hv3 := nlit (l := [3]) _ _ _ (heap_alloc_new (W11) (.cells #[.int .u32 3] 23)) rfl (by decide) (by decide) (by decide)
  obtain ⟨v3, Ev3⟩ : ∃ zq : Nat, zq = val [3] := ⟨_, rfl⟩
  rw [← Ev3] at hv3
  have Nv3 : nl v3 = 1 := by rw [Ev3]; exact nl_lit (by decide) (by decide)
  have Vv3 : v3 = 3 := by rw [Ev3]; decide
  have Bv3 : nl v3 ≤ 1 := Nat.le_of_eq Nv3
  replace Nv3 := Lib.hid Nv3
  replace Ev3 := Lib.hid Ev3
  replace Vv3 := Lib.hid Vv3
  replace hG := hG.below hb12
  replace ha := ha.below hb12
  replace hb := hb.below hb12
  replace hq := hq.below hb12
  replace hr := hr.below hb12
  replace hv5 := hv5.below hb12
  replace hv7 := hv7.below hb12
  replace hs := hs.below hb12
  replace ht := ht.below hb12
  replace hv01 := hv01.below hb12
  replace hu := hu.below hb12
  replace hv := hv.below hb12
  replace hnil := hnil.below hb12
  replace HBT := Below.cons HBT hb12
  clear hb12
  go_wp2_with (fail)
  obtain ⟨w1, Ew1⟩ : ∃ zq : Nat, zq = 2 ^ 8 / v3 := ⟨_, rfl⟩
  have Bw1 : nl w1 ≤ 1 := by rw [Ew1]; rw [Vv3.out]; exact nl_le.2 (by decide)
  have CT13 := (at_len1 Nv3.out (drecip_c 8 _ _ v3 8 _ hv3 (by rw [Vv3.out]; decide) (by omega) (by decide) hG (by omega)))
  rw [← Ew1] at CT13
  replace Ew1 := Lib.hid Ew1
  refine (Calls.mono CT13 ?_)
  clear CT13
  rintro e W13 ⟨Xw1, cw1, rfl, hw1, hb13⟩
  replace hG := hG.below hb13
  replace ha := ha.below hb13
  replace hb := hb.below hb13
  replace hq := hq.below hb13
  replace hr := hr.below hb13
  replace hv5 := hv5.below hb13
  replace hv7 := hv7.below hb13
  replace hs := hs.below hb13
  replace ht := ht.below hb13
  replace hv01 := hv01.below hb13
  replace hu := hu.below hb13
  replace hv := hv.below hb13
  replace hnil := hnil.below hb13
  replace hv3 := hv3.below hb13
  replace HBT := Below.cons HBT hb13
  clear hb13
  go_wp2_with (fail)
  refine (Calls.mono (at_len1 Nnil.out (drecipZ_c none 0 0 8 _ hnil rfl (by decide))) ?_)
  rintro e W14 ⟨rfl, hb14⟩
  replace hG := hG.below hb14
  replace ha := ha.below hb14
  replace hb := hb.below hb14
  replace hq := hq.below hb14
  replace hr := hr.below hb14
  replace hv5 := hv5.below hb14
  replace hv7 := hv7.below hb14
  replace hs := hs.below hb14
  replace ht := ht.below hb14
  replace hv01 := hv01.below hb14
  replace hu := hu.below hb14
  replace hv := hv.below hb14
  replace hnil := hnil.below hb14
  replace hv3 := hv3.below hb14
  replace hw1 := hw1.below hb14
  replace HBT := Below.cons HBT hb14
  clear hb14
  go_wp2_with (fail)
  have hm : a % 10 = 6 := by rw [Va.out]
  replace hm := Lib.hid hm
  have CS := (at_len1 Na.out (dsmall_c _ _ a 10 _ ha (by omega) (by decide) (by decide)))
  rw [hm.out] at CS
  obtain ⟨x, Ex⟩ : ∃ zq : Nat, zq = a / 10 := ⟨_, rfl⟩
  have Bx : nl x ≤ 3 := by rw [Ex]; have := nl_div a 10; omega
  rw [← Ex] at CS
  replace Ex := Lib.hid Ex
  refine (Calls.mono CS ?_)
  clear CS
  rintro e W15 ⟨Xx, cx, rfl, hx, hb15⟩
  replace hG := hG.below hb15
  replace ha := ha.below hb15
  replace hb := hb.below hb15
  replace hq := hq.below hb15
  replace hr := hr.below hb15
  replace hv5 := hv5.below hb15
  replace hv7 := hv7.below hb15
  replace hs := hs.below hb15
  replace ht := ht.below hb15
  replace hv01 := hv01.below hb15
  replace hu := hu.below hb15
  replace hv := hv.below hb15
  replace hnil := hnil.below hb15
  replace hv3 := hv3.below hb15
  replace hw1 := hw1.below hb15
  replace HBT := Below.cons HBT hb15
  clear hb15
  go_wp2_with (fail)
  refine (Calls.mono (at_len1 Na.out (dsmallZ_c _ _ (nl a) _)) ?_)
  rintro e W16 ⟨rfl, hb16⟩
  replace hG := hG.below hb16
  replace ha := ha.below hb16
  replace hb := hb.below hb16
  replace hq := hq.below hb16
  replace hr := hr.below hb16
  replace hv5 := hv5.below hb16
  replace hv7 := hv7.below hb16
  replace hs := hs.below hb16
  replace ht := ht.below hb16
  replace hv01 := hv01.below hb16
  replace hu := hu.below hb16
  replace hv := hv.below hb16
  replace hnil := hnil.below hb16
  replace hv3 := hv3.below hb16
  replace hw1 := hw1.below hb16
  replace hx := hx.below hb16
  replace HBT := Below.cons HBT hb16
  clear hb16
  have hb17 : Below (W16).heap.size (W16) ((W16).alloc (.cells #[.int .u32 1, .int .u32 1] 23)) := (Below.refl _ _).alloc (Nat.le_refl _) _
  have hl11 := nlit (l := [1, 1]) _ _ _ (heap_alloc_new (W16) (.cells #[.int .u32 1, .int .u32 1] 23)) rfl (by decide) (by decide) (by decide)
  obtain ⟨l11, El11⟩ : ∃ zq : Nat, zq = val [1, 1] := ⟨_, rfl⟩
  rw [← El11] at hl11
  have Nl11 : nl l11 = 2 := by rw [El11]; exact nl_lit (by decide) (by decide)
  have Vl11 : l11 = 4294967297 := by rw [El11]; decide
  have Bl11 : nl l11 ≤ 2 := Nat.le_of_eq Nl11
  replace Nl11 := Lib.hid Nl11
  replace El11 := Lib.hid El11
  replace Vl11 := Lib.hid Vl11
  replace hG := hG.below hb17
  replace ha := ha.below hb17
  replace hb := hb.below hb17
  replace hq := hq.below hb17
  replace hr := hr.below hb17
  replace hv5 := hv5.below hb17
  replace hv7 := hv7.below hb17
  replace hs := hs.below hb17
  replace ht := ht.below hb17
  replace hv01 := hv01.below hb17
  replace hu := hu.below hb17
  replace hv := hv.below hb17
  replace hnil := hnil.below hb17
  replace hv3 := hv3.below hb17
  replace hw1 := hw1.below hb17
  replace hx := hx.below hb17
  replace HBT := Below.cons HBT hb17
  clear hb17
  go_wp2_with (fail)
  refine (Calls.mono (at_lenR Nl11.out (same1_t Xq cq q _ _ l11 _ hq hl11 (by omega) (by omega) (by rw [Eq.out, Va.out, Vb.out, Vl11.out]))) ?_)
  rintro e W18 ⟨rfl, hb18⟩
  replace hG := hG.below hb18
  replace ha := ha.below hb18
  replace hb := hb.below hb18
  replace hq := hq.below hb18
  replace hr := hr.below hb18
  replace hv5 := hv5.below hb18
  replace hv7 := hv7.below hb18
  replace hs := hs.below hb18
  replace ht := ht.below hb18
  replace hv01 := hv01.below hb18
  replace hu := hu.below hb18
  replace hv := hv.below hb18
  replace hnil := hnil.below hb18
  replace hv3 := hv3.below hb18
  replace hw1 := hw1.below hb18
  replace hx := hx.below hb18
  replace hl11 := hl11.below hb18
  replace HBT := Below.cons HBT hb18
  clear hb18
  clear hq
  clear hl11
  have hb19 : Below (W18).heap.size (W18) ((W18).alloc (.cells #[.int .u32 1] 23)) := (Below.refl _ _).alloc (Nat.le_refl _) _
  have hl1 := nlit (l := [1]) _ _ _ (heap_alloc_new (W18) (.cells #[.int .u32 1] 23)) rfl (by decide) (by decide) (by decide)
  obtain ⟨l1, El1⟩ : ∃ zq : Nat, zq = val [1] := ⟨_, rfl⟩
  rw [← El1] at hl1
  have Nl1 : nl l1 = 1 := by rw [El1]; exact nl_lit (by decide) (by decide)
  have Vl1 : l1 = 1 := by rw [El1]; decide
  have Bl1 : nl l1 ≤ 1 := Nat.le_of_eq Nl1
  replace Nl1 := Lib.hid Nl1
  replace El1 := Lib.hid El1
  replace Vl1 := Lib.hid Vl1
  replace hG := hG.below hb19
  replace ha := ha.below hb19
  replace hb := hb.below hb19
  replace hr := hr.below hb19
  replace hv5 := hv5.below hb19
  replace hv7 := hv7.below hb19
  replace hs := hs.below hb19
  replace ht := ht.below hb19
  replace hv01 := hv01.below hb19
  replace hu := hu.below hb19
  replace hv := hv.below hb19
  replace hnil := hnil.below hb19
  replace hv3 := hv3.below hb19
  replace hw1 := hw1.below hb19
  replace hx := hx.below hb19
  replace HBT := Below.cons HBT hb19
  clear hb19
  go_wp2_with (fail)
  have es : nl s = 0 := by rw [Es.out, s0.out, nl_zero]
  have esb : ((nl s : Int) == 0) = true := ieqT (by omega)
  replace es := Lib.hid es
  refine (Calls.mono (at_lenR Nl1.out (same1_t Xr cr r _ _ l1 _ hr hl1 (by omega) (by omega) (by rw [Er.out, Va.out, Vb.out, Vl1.out]))) ?_)
  rintro e W20 ⟨rfl, hb20⟩
  replace hG := hG.below hb20
  replace ha := ha.below hb20
  replace hb := hb.below hb20
  replace hr := hr.below hb20
  replace hv5 := hv5.below hb20
  replace hv7 := hv7.below hb20
  replace hs := hs.below hb20
  replace ht := ht.below hb20
  replace hv01 := hv01.below hb20
  replace hu := hu.below hb20
  replace hv := hv.below hb20
  replace hnil := hnil.below hb20
  replace hv3 := hv3.below hb20
  replace hw1 := hw1.below hb20
  replace hx := hx.below hb20
  replace hl1 := hl1.below hb20
  replace HBT := Below.cons HBT hb20
  clear hb20
  clear hr
  clear hl1
  have hb21 : Below (W20).heap.size (W20) ((W20).alloc (.cells #[.int .u32 5] 23)) := (Below.refl _ _).alloc (Nat.le_refl _) _
  have hl5 := nlit (l := [5]) _ _ _ (heap_alloc_new (W20) (.cells #[.int .u32 5] 23)) rfl (by decide) (by decide) (by decide)
  obtain ⟨l5, El5⟩ : ∃ zq : Nat, zq = val [5] := ⟨_, rfl⟩
  rw [← El5] at hl5
  have Nl5 : nl l5 = 1 := by rw [El5]; exact nl_lit (by decide) (by decide)
  have Vl5 : l5 = 5 := by rw [El5]; decide
  have Bl5 : nl l5 ≤ 1 := Nat.le_of_eq Nl5
  replace Nl5 := Lib.hid Nl5
  replace El5 := Lib.hid El5
  replace Vl5 := Lib.hid Vl5
  replace hG := hG.below hb21
  replace ha := ha.below hb21
  replace hb := hb.below hb21
  replace hv5 := hv5.below hb21
  replace hv7 := hv7.below hb21
  replace hs := hs.below hb21
  replace ht := ht.below hb21
  replace hv01 := hv01.below hb21
  replace hu := hu.below hb21
  replace hv := hv.below hb21
  replace hnil := hnil.below hb21
  replace hv3 := hv3.below hb21
  replace hw1 := hw1.below hb21
  replace hx := hx.below hb21
  replace HBT := Below.cons HBT hb21
  clear hb21
  go_wp2_with (fail)
  refine (Calls.mono (at_lenR Nl5.out (same1_t Xt ct t _ _ l5 _ ht hl5 (by omega) (by omega) (by rw [Et.out, s1.out, Vl5.out]))) ?_)
  rintro e W22 ⟨rfl, hb22⟩
  replace hG := hG.below hb22
  replace ha := ha.below hb22
  replace hb := hb.below hb22
  replace hv5 := hv5.below hb22
  replace hv7 := hv7.below hb22
  replace hs := hs.below hb22
  replace ht := ht.below hb22
  replace hv01 := hv01.below hb22
  replace hu := hu.below hb22
  replace hv := hv.below hb22
  replace hnil := hnil.below hb22
  replace hv3 := hv3.below hb22
  replace hw1 := hw1.below hb22
  replace hx := hx.below hb22
  replace hl5 := hl5.below hb22
  replace HBT := Below.cons HBT hb22
  clear hb22
  clear ht
  clear hl5
  have hb23 : Below (W22).heap.size (W22) ((W22).alloc (.cells #[.int .u32 0, .int .u32 1] 23)) := (Below.refl _ _).alloc (Nat.le_refl _) _
  have hm01 := nlit (l := [0, 1]) _ _ _ (heap_alloc_new (W22) (.cells #[.int .u32 0, .int .u32 1] 23)) rfl (by decide) (by decide) (by decide)
  obtain ⟨m01, Em01⟩ : ∃ zq : Nat, zq = val [0, 1] := ⟨_, rfl⟩
  rw [← Em01] at hm01
  have Nm01 : nl m01 = 2 := by rw [Em01]; exact nl_lit (by decide) (by decide)
  have Vm01 : m01 = 4294967296 := by rw [Em01]; decide
  have Bm01 : nl m01 ≤ 2 := Nat.le_of_eq Nm01
  replace Nm01 := Lib.hid Nm01
  replace Em01 := Lib.hid Em01
  replace Vm01 := Lib.hid Vm01
  replace hG := hG.below hb23
  replace ha := ha.below hb23
  replace hb := hb.below hb23
  replace hv5 := hv5.below hb23
  replace hv7 := hv7.below hb23
  replace hs := hs.below hb23
  replace hv01 := hv01.below hb23
  replace hu := hu.below hb23
  replace hv := hv.below hb23
  replace hnil := hnil.below hb23
  replace hv3 := hv3.below hb23
  replace hw1 := hw1.below hb23
  replace hx := hx.below hb23
  replace HBT := Below.cons HBT hb23
  clear hb23
  go_wp2_with (fail)
  have ev : nl v = 0 := by rw [Ev.out, Va.out, Vv01.out]; exact nl_zero
  have evb : ((nl v : Int) == 0) = true := ieqT (by omega)
  replace ev := Lib.hid ev
  refine (Calls.mono (at_lenR Nm01.out (same1_t Xu cu u _ _ m01 _ hu hm01 (by omega) (by omega) (by rw [Eu.out, Va.out, Vv01.out, Vm01.out]))) ?_)
  rintro e W24 ⟨rfl, hb24⟩
  replace hG := hG.below hb24
  replace ha := ha.below hb24
  replace hb := hb.below hb24
  replace hv5 := hv5.below hb24
  replace hv7 := hv7.below hb24
  replace hs := hs.below hb24
  replace hv01 := hv01.below hb24
  replace hu := hu.below hb24
  replace hv := hv.below hb24
  replace hnil := hnil.below hb24
  replace hv3 := hv3.below hb24
  replace hw1 := hw1.below hb24
  replace hx := hx.below hb24
  replace hm01 := hm01.below hb24
  replace HBT := Below.cons HBT hb24
  clear hb24
  clear hu
  clear hm01
  have hb25 : Below (W24).heap.size (W24) ((W24).alloc (.cells #[.int .u32 85] 23)) := (Below.refl _ _).alloc (Nat.le_refl _) _
  have hl85 := nlit (l := [85]) _ _ _ (heap_alloc_new (W24) (.cells #[.int .u32 85] 23)) rfl (by decide) (by decide) (by decide)
  obtain ⟨l85, El85⟩ : ∃ zq : Nat, zq = val [85] := ⟨_, rfl⟩
  rw [← El85] at hl85
  have Nl85 : nl l85 = 1 := by rw [El85]; exact nl_lit (by decide) (by decide)
  have Vl85 : l85 = 85 := by rw [El85]; decide
  have Bl85 : nl l85 ≤ 1 := Nat.le_of_eq Nl85
  replace Nl85 := Lib.hid Nl85
  replace El85 := Lib.hid El85
  replace Vl85 := Lib.hid Vl85
  replace hG := hG.below hb25
  replace ha := ha.below hb25
  replace hb := hb.below hb25
  replace hv5 := hv5.below hb25
  replace hv7 := hv7.below hb25
  replace hs := hs.below hb25
  replace hv01 := hv01.below hb25
  replace hv := hv.below hb25
  replace hnil := hnil.below hb25
  replace hv3 := hv3.below hb25
  replace hw1 := hw1.below hb25
  replace hx := hx.below hb25
  replace HBT := Below.cons HBT hb25
  clear hb25
  go_wp2_with (fail)
  refine (Calls.mono (at_lenR Nl85.out (same1_t Xw1 cw1 w1 _ _ l85 _ hw1 hl85 (by omega) (by omega) (by rw [Ew1.out, Vv3.out, Vl85.out]))) ?_)
  rintro e W26 ⟨rfl, hb26⟩
  replace hG := hG.below hb26
  replace ha := ha.below hb26
  replace hb := hb.below hb26
  replace hv5 := hv5.below hb26
  replace hv7 := hv7.below hb26
  replace hs := hs.below hb26
  replace hv01 := hv01.below hb26
  replace hv := hv.below hb26
  replace hnil := hnil.below hb26
  replace hv3 := hv3.below hb26
  replace hw1 := hw1.below hb26
  replace hx := hx.below hb26
  replace hl85 := hl85.below hb26
  replace HBT := Below.cons HBT hb26
  clear hb26
  clear hw1
  clear hl85
  have hb27 : Below (W26).heap.size (W26) ((W26).alloc (.cells #[.int .u32 2576980377, .int .u32 429496729] 23)) := (Below.refl _ _).alloc (Nat.le_refl _) _
  have hlx := nlit (l := [2576980377, 429496729]) _ _ _ (heap_alloc_new (W26) (.cells #[.int .u32 2576980377, .int .u32 429496729] 23)) rfl (by decide) (by decide) (by decide)
  obtain ⟨lx, Elx⟩ : ∃ zq : Nat, zq = val [2576980377, 429496729] := ⟨_, rfl⟩
  rw [← Elx] at hlx
  have Nlx : nl lx = 2 := by rw [Elx]; exact nl_lit (by decide) (by decide)
  have Vlx : lx = 1844674407370955161 := by rw [Elx]; decide
  have Blx : nl lx ≤ 2 := Nat.le_of_eq Nlx
  replace Nlx := Lib.hid Nlx
  replace Elx := Lib.hid Elx
  replace Vlx := Lib.hid Vlx
  replace hG := hG.below hb27
  replace ha := ha.below hb27
  replace hb := hb.below hb27
  replace hv5 := hv5.below hb27
  replace hv7 := hv7.below hb27
  replace hs := hs.below hb27
  replace hv01 := hv01.below hb27
  replace hv := hv.below hb27
  replace hnil := hnil.below hb27
  replace hv3 := hv3.below hb27
  replace hx := hx.below hb27
  replace HBT := Below.cons HBT hb27
  clear hb27
  go_wp2_with (fail)
  refine (Calls.mono (at_lenR Nlx.out (same1_t Xx cx x _ _ lx _ hx hlx (by omega) (by omega) (by rw [Ex.out, Va.out, Vlx.out]))) ?_)
  rintro e W28 ⟨rfl, hb28⟩
  replace hG := hG.below hb28
  replace ha := ha.below hb28
  replace hb := hb.below hb28
  replace hv5 := hv5.below hb28
  replace hv7 := hv7.below hb28
  replace hs := hs.below hb28
  replace hv01 := hv01.below hb28
  replace hv := hv.below hb28
  replace hnil := hnil.below hb28
  replace hv3 := hv3.below hb28
  replace hx := hx.below hb28
  replace hlx := hlx.below hb28
  replace HBT := Below.cons HBT hb28
  clear hb28
  go_wp2_with (fail)
  go_ret
  exact ⟨rfl, HBT⟩
end Go.Proofs.YtfkagknikmibjaaDoor
