/- Head of the laws of greatest common divisors. -/
import Derived.Test.YthcmoimlnhghcaaDoorG04
import Derived.Test.YthcmoimlnhghcaaDoorG03
import Derived.IntWalk
import Derived.Test.YthcmoimlnhghcaaDoorRows
import Derived.ProofKit
import Derived.LaidMore
import Derived.OpenShut
import Derived.Stop.Joined
import Derived.Deep.Slices
import Derived.Below
import Derived.Carry
import Derived.Test.YthcmoimlnhghcaaDoorG01
set_option maxRecDepth 100000
set_option maxHeartbeats 4000000
set_option linter.unusedVariables false
set_option linter.unusedSimpArgs false
namespace Go.Proofs.YthcmoimlnhghcaaDoor
open Go.RowKit Go.Shelf
attribute [local go_sem] max2_i min2_i max_two min_two

theorem dep_of {o : Oper} {E : Nat → Bool} (h : ∀ e ∈ o.after, Region.binds .any e = true → E e.on = true) (j : Nat) (hj : o.after.toList.any (fun e => e.on == j && Region.binds .any e) = true) : E j = true := by
  obtain ⟨e, he, h2⟩ := List.any_eq_true.1 hj
  rw [Bool.and_eq_true] at h2
  have h3 := h e (by simpa using he) h2.2
  rw [beq_iff_eq.1 h2.1] at h3; exact h3
theorem wanted_of {ops : Array Oper} {o : Oper} {T : Array Value} {j k : Nat} {b : Bool} (hg : o.guard = some (j, b)) (hk : (ops.toList[j]?).bind (fun o => o.dst) = some k) (h : T[k]? = some (.bool b)) : Region.wanted o (yielded ops T) = true := by
  unfold Region.wanted
  rw [hg]
  have h2 : (ops[j]?).bind (fun o => o.dst) = some k := by rw [← Array.getElem?_toList]; exact hk
  simp only [yielded, h2, Option.bind_some, h, beq_self_eq_true]
theorem getD_of {T : Array Value} {k : Nat} {v : Value} (h : T[k]? = some v) : T.getD k undef = v := by
  rw [Array.getD_eq_getD_getElem?, h]; rfl
theorem en1 : eun 12 18 = 3 := (eun_eq (by decide) (by decide)).symm
theorem en2 : eun 12 0 = 0 := (eun_eq (by decide) (by decide)).symm
theorem en3 : eun 3 7 = 3 := (eun_eq (by decide) (by decide)).symm
theorem en4 : eun 12 1 = 1 := (eun_eq (by decide) (by decide)).symm
theorem ex1 : exu 12 18 = -1 ∧ exv 12 18 = 1 := by unfold exu exv; rw [en1]; decide
theorem ex2 : exu 12 0 = 1 ∧ exv 12 0 = 0 := by unfold exu exv; rw [en2]; decide
theorem iv1 : inv 3 7 = 5 := by unfold inv exu; rw [en3]; decide
theorem iv2 : inv 12 1 = 0 := by unfold inv exu; rw [en4]; decide
theorem eqN {P : Program} {f : Nat} {xs : Array Value} {w : World} {n m : Nat} (e : n = m) (h : Calls P f xs w (RetN w n)) : Calls P f xs w (RetN w m) := e ▸ h
theorem eqQ {P : Program} {f : Nat} {xs : Array Value} {w : World} {g : Nat → Nat} {n m : Nat} (e : n = m) (h : Calls P f xs w (RetQs w g n)) : Calls P f xs w (RetQs w g m) := e ▸ h
def headK (u0 u1 u2 u3 u4 u5 u6 u7 u8 u9 u10 u11 u12 u13 u14 u15 u16 u17 u18 u19 : Value) (a n6 n18 n2 n5 n24 n0 : Nat) (zm z1 z0 : Int) : List Kd := [.val (u0),
  .val (u1),
  .nat (n6),
  .one (n6),
  .val (.bool true),
  .val (.bool true),
  .val (u1),
  .val (u0),
  .nat (n6),
  .one (n6),
  .val (.bool true),
  .val (.bool true),
  .val (.bool true),
  .val (u0),
  .val (u1),
  .nat (n6),
  .one (n6),
  .val (.bool true),
  .val (.bool true),
  .val (.bool true),
  .nat (n0),
  .val (.int .i64 0),
  .val (.bool true),
  .val (.bool true),
  .val (.bool true),
  .val (u1),
  .nat (n18),
  .val (u1),
  .val (.bool true),
  .val (.bool true),
  .val (.bool true),
  .val (u2),
  .one (n6),
  .val (.bool true),
  .val (.bool true),
  .val (.bool true),
  .val (u3),
  .int (zm),
  .val (.bool true),
  .val (.bool true),
  .val (.bool true),
  .val (u4),
  .int (z1),
  .val (.bool true),
  .val (.bool true),
  .val (.bool true),
  .val (u5),
  .val (u0),
  .val (.bool true),
  .val (.bool true),
  .val (.bool true),
  .val (u6),
  .int (z1),
  .val (.bool true),
  .val (.bool true),
  .val (.bool true),
  .val (u7),
  .int (z0),
  .val (.bool true),
  .val (.bool true),
  .val (.bool true),
  .val (u8),
  .val (u9),
  .val (u10),
  .val (.int .i64 0),
  .val (.bool true),
  .val (.bool true),
  .val (.bool true),
  .val (u8),
  .val (u11),
  .val (u12),
  .val (u13),
  .val (.bool true),
  .val (.bool true),
  .val (.bool true),
  .val (u8),
  .val (u14),
  .val (u15),
  .one (n2),
  .val (.bool true),
  .val (.bool true),
  .val (.bool true),
  .val (u0),
  .qs (quo a 0) (0),
  .val (.int .i64 0),
  .val (.bool true),
  .val (.bool true),
  .val (.bool true),
  .val (u16),
  .one (n5),
  .val (.bool true),
  .val (.bool true),
  .val (.bool true),
  .val (.int .i64 0),
  .val (.bool true),
  .val (.bool true),
  .val (.bool true),
  .val (.int .i64 4),
  .val (.bool true),
  .val (.bool true),
  .val (.bool true),
  .val (.int .i64 4),
  .val (.bool true),
  .val (.bool true),
  .val (.bool true),
  .val (u17),
  .val (.int .i64 0),
  .val (.bool true),
  .val (.bool true),
  .val (.bool true),
  .val (.int .i64 0),
  .val (.bool true),
  .val (.bool true),
  .val (.bool true),
  .val (u18),
  .one (n24),
  .val (.bool true),
  .val (.bool true),
  .val (.bool true),
  .val (.int .i64 0),
  .val (.bool true),
  .val (.bool true),
  .val (.bool true),
  .val (u19),
  .val (u13),
  .val (.bool true),
  .val (.bool true),
  .val (.bool true),
  .val (.int .i64 0),
  .val (.bool true),
  .val (.bool true),
  .val (.bool true),
  .val (.int .i64 3),
  .val (.bool true),
  .val (.bool true),
  .val (.bool true)]
theorem ghead_c (w : World) (hG : Flds w) : Calls Tryd.prog 4 #[] w fun e w' => e = .returned (.bool true) ∧ Below w.heap.size w w' := by
  have hb1 : Below (w).heap.size (w) ((w).alloc (.cells #[.int .u32 12] 29)) := (Below.refl _ _).alloc (Nat.le_refl _) _
  have ha := nlit (l := [12]) _ _ _ (heap_alloc_new (w) (.cells #[.int .u32 12] 29)) rfl (by decide) (by decide) (by decide)
  obtain ⟨a, Ea⟩ : ∃ zq : Nat, zq = val [12] := ⟨_, rfl⟩
  rw [← Ea] at ha
  have Na : nl a = 1 := by rw [Ea]; exact nl_lit (by decide) (by decide)
  have Va : a = 12 := by rw [Ea]; decide
  have Ba : nl a ≤ 1 := Nat.le_of_eq Na
  replace Na := Lib.hid Na
  replace Ea := Lib.hid Ea
  replace Va := Lib.hid Va
  replace hG := hG.below hb1
  have HBT := hb1
  clear hb1
  have hb2 : Below (((w).alloc (.cells #[.int .u32 12] 29))).heap.size (((w).alloc (.cells #[.int .u32 12] 29))) ((((w).alloc (.cells #[.int .u32 12] 29))).alloc (.cells #[.int .u32 18] 29)) := (Below.refl _ _).alloc (Nat.le_refl _) _
  have hb := nlit (l := [18]) _ _ _ (heap_alloc_new (((w).alloc (.cells #[.int .u32 12] 29))) (.cells #[.int .u32 18] 29)) rfl (by decide) (by decide) (by decide)
  obtain ⟨b, Eb⟩ : ∃ zq : Nat, zq = val [18] := ⟨_, rfl⟩
  rw [← Eb] at hb
  simp only [alloc_sz] at hb
  have Nb : nl b = 1 := by rw [Eb]; exact nl_lit (by decide) (by decide)
  have Vb : b = 18 := by rw [Eb]; decide
  have Bb : nl b ≤ 1 := Nat.le_of_eq Nb
  replace Nb := Lib.hid Nb
  replace Eb := Lib.hid Eb
  replace Vb := Lib.hid Vb
  replace hG := hG.below hb2
  replace ha := ha.below hb2
  replace HBT := Below.cons HBT hb2
  clear hb2
  have hb3 : Below (((((w).alloc (.cells #[.int .u32 12] 29))).alloc (.cells #[.int .u32 18] 29))).heap.size (((((w).alloc (.cells #[.int .u32 12] 29))).alloc (.cells #[.int .u32 18] 29))) ((((((w).alloc (.cells #[.int .u32 12] 29))).alloc (.cells #[.int .u32 18] 29))).alloc (.cells #[.int .u32 1] 29)) := (Below.refl _ _).alloc (Nat.le_refl _) _
  have ho := nlit (l := [1]) _ _ _ (heap_alloc_new (((((w).alloc (.cells #[.int .u32 12] 29))).alloc (.cells #[.int .u32 18] 29))) (.cells #[.int .u32 1] 29)) rfl (by decide) (by decide) (by decide)
  obtain ⟨o, Eo⟩ : ∃ zq : Nat, zq = val [1] := ⟨_, rfl⟩
  rw [← Eo] at ho
  simp only [alloc_sz] at ho
  have No : nl o = 1 := by rw [Eo]; exact nl_lit (by decide) (by decide)
  have Vo : o = 1 := by rw [Eo]; decide
  have Bo : nl o ≤ 1 := Nat.le_of_eq No
  replace No := Lib.hid No
  replace Eo := Lib.hid Eo
  replace Vo := Lib.hid Vo
  replace hG := hG.below hb3
  replace ha := ha.below hb3
  replace hb := hb.below hb3
  replace HBT := Below.cons HBT hb3
  clear hb3
  have hnil := nat_nil (((((((w).alloc (.cells #[.int .u32 12] 29))).alloc (.cells #[.int .u32 18] 29))).alloc (.cells #[.int .u32 1] 29)))
  have Nnil : Hid (nl 0 = 0) := Lib.hid nl_zero
  have Bnil : nl 0 ≤ 0 := Nat.le_of_eq nl_zero
  go_enter Tryd.func4, Tryd.ntmps4
  go_wp2_with (fail)
  have CX := (at_len2 Na.out Nb.out (ext_c _ _ a _ _ b _ ha hb hG (by omega) (by omega)))
  obtain ⟨g, Eg⟩ : ∃ z : Nat, z = Nat.gcd a b := ⟨_, rfl⟩
  obtain ⟨u, Eu⟩ : ∃ z : Int, z = exu a b := ⟨_, rfl⟩
  obtain ⟨v, Ev⟩ : ∃ z : Int, z = exv a b := ⟨_, rfl⟩
  rw [← Eg, ← Eu, ← Ev] at CX
  replace CX := Lib.hid CX
  replace Eg := Lib.hid Eg
  replace Eu := Lib.hid Eu
  replace Ev := Lib.hid Ev
  refine (Calls.mono (CX.out) ?_)
  rintro e W4 ⟨Xg, cg, Xu, cu, Xv, cv, rfl, hg, hu, hv, hb4⟩
  replace hG := hG.below hb4
  replace ha := ha.below hb4
  replace hb := hb.below hb4
  replace ho := ho.below hb4
  replace hnil := hnil.below hb4
  replace HBT := Below.cons HBT hb4
  clear hb4
  clear CX
  obtain ⟨hb5, Ru, Rv⟩ := bx2 W4 #[.bool (sg u), .slice Xu (nl (mg u)) cu] 31 #[.bool (sg v), .slice Xv (nl (mg v)) cv] 31
  replace hG := hG.below hb5
  replace ha := ha.below hb5
  replace hb := hb.below hb5
  replace ho := ho.below hb5
  replace hnil := hnil.below hb5
  replace hg := hg.below hb5
  replace hu := hu.below hb5
  replace hv := hv.below hb5
  replace HBT := Below.cons HBT hb5
  clear hb5
  go_wp2_with (fail)
  have CX := (at_len2 Na.out Nnil.out (ext_c _ _ a none 0 0 _ ha hnil hG (by omega) (by omega)))
  obtain ⟨h', Eh'⟩ : ∃ z : Nat, z = Nat.gcd a 0 := ⟨_, rfl⟩
  obtain ⟨p', Ep'⟩ : ∃ z : Int, z = exu a 0 := ⟨_, rfl⟩
  obtain ⟨q', Eq'⟩ : ∃ z : Int, z = exv a 0 := ⟨_, rfl⟩
  rw [← Eh', ← Ep', ← Eq'] at CX
  replace CX := Lib.hid CX
  replace Eh' := Lib.hid Eh'
  replace Ep' := Lib.hid Ep'
  replace Eq' := Lib.hid Eq'
  refine (Calls.mono (CX.out) ?_)
  rintro e W6 ⟨Xh', ch', Xp', cp', Xq', cq', rfl, hh', hp', hq', hb6⟩
  replace hG := hG.below hb6
  replace ha := ha.below hb6
  replace hb := hb.below hb6
  replace ho := ho.below hb6
  replace hnil := hnil.below hb6
  replace hg := hg.below hb6
  replace hu := hu.below hb6
  replace hv := hv.below hb6
  replace Ru := Ru.below hb6
  replace Rv := Rv.below hb6
  replace HBT := Below.cons HBT hb6
  clear hb6
  clear CX
  have hb7 : Below (W6).heap.size (W6) ((W6.alloc (.cells #[.bool (sg p'), .slice Xp' (nl (mg p')) cp'] 31)).alloc (.cells #[.bool (sg q'), .slice Xq' (nl (mg q')) cq'] 31)) := (Below.alloc (Below.alloc (Below.refl _ _) (Nat.le_refl _) _) (by simp <;> omega) _)
  replace hG := hG.below hb7
  replace ha := ha.below hb7
  replace hb := hb.below hb7
  replace ho := ho.below hb7
  replace hnil := hnil.below hb7
  replace hg := hg.below hb7
  replace hu := hu.below hb7
  replace hv := hv.below hb7
  replace Ru := Ru.below hb7
  replace Rv := Rv.below hb7
  replace hh' := hh'.below hb7
  replace hp' := hp'.below hb7
  replace hq' := hq'.below hb7
  replace HBT := Below.cons HBT hb7
  clear hb7
  have Rp' : BoxA ((W6.alloc (.cells #[.bool (sg p'), .slice Xp' (nl (mg p')) cp'] 31)).alloc (.cells #[.bool (sg q'), .slice Xq' (nl (mg q')) cq'] 31)) W6.heap.size 31 #[.bool (sg p'), .slice Xp' (nl (mg p')) cp'] := ⟨by repeat (first | exact at_new (by first | (simp; done) | (simp; omega)) | refine at_old (by first | (simp; done) | (simp; omega)) ?_)⟩
  have Rq' : BoxA ((W6.alloc (.cells #[.bool (sg p'), .slice Xp' (nl (mg p')) cp'] 31)).alloc (.cells #[.bool (sg q'), .slice Xq' (nl (mg q')) cq'] 31)) (W6.heap.size + 1) 31 #[.bool (sg q'), .slice Xq' (nl (mg q')) cq'] := ⟨by repeat (first | exact at_new (by first | (simp; done) | (simp; omega)) | refine at_old (by first | (simp; done) | (simp; omega)) ?_)⟩
  go_wp2_with (fail)
  have CQ := (at_len2 Na.out Nb.out (quots_c _ _ a _ _ b _ ha hb (by omega) (by omega)))
  replace CQ := Lib.hid CQ
  refine (Calls.mono (CQ.out) ?_)
  rintro e W8 ⟨Xqs, cqs, rfl, hqs, mqs, hb8⟩
  replace hG := hG.below hb8
  replace ha := ha.below hb8
  replace hb := hb.below hb8
  replace ho := ho.below hb8
  replace hnil := hnil.below hb8
  replace hg := hg.below hb8
  replace hu := hu.below hb8
  replace hv := hv.below hb8
  replace Ru := Ru.below hb8
  replace Rv := Rv.below hb8
  replace hh' := hh'.below hb8
  replace hp' := hp'.below hb8
  replace hq' := hq'.below hb8
  replace Rp' := Rp'.below hb8
  replace Rq' := Rq'.below hb8
  replace HBT := Below.cons HBT hb8
  clear hb8
  clear CQ
  have nq : eun a b = 3 := by rw [Va.out, Vb.out]; exact en1
  rw [nq] at hqs
  simp only [nq]
  replace nq := Lib.hid nq
  have hb9 : Below (W8).heap.size (W8) ((W8).alloc (.cells #[.int .u32 3] 29)) := (Below.refl _ _).alloc (Nat.le_refl _) _
  have hx3 := nlit (l := [3]) _ _ _ (heap_alloc_new (W8) (.cells #[.int .u32 3] 29)) rfl (by decide) (by decide) (by decide)
  obtain ⟨x3, Ex3⟩ : ∃ zq : Nat, zq = val [3] := ⟨_, rfl⟩
  rw [← Ex3] at hx3
  have Nx3 : nl x3 = 1 := by rw [Ex3]; exact nl_lit (by decide) (by decide)
  have Vx3 : x3 = 3 := by rw [Ex3]; decide
  have Bx3 : nl x3 ≤ 1 := Nat.le_of_eq Nx3
  replace Nx3 := Lib.hid Nx3
  replace Ex3 := Lib.hid Ex3
  replace Vx3 := Lib.hid Vx3
  replace hG := hG.below hb9
  replace ha := ha.below hb9
  replace hb := hb.below hb9
  replace ho := ho.below hb9
  replace hnil := hnil.below hb9
  replace hg := hg.below hb9
  replace hu := hu.below hb9
  replace hv := hv.below hb9
  replace Ru := Ru.below hb9
  replace Rv := Rv.below hb9
  replace hh' := hh'.below hb9
  replace hp' := hp'.below hb9
  replace hq' := hq'.below hb9
  replace Rp' := Rp'.below hb9
  replace Rq' := Rq'.below hb9
  replace hqs := hqs.below hb9
  replace HBT := Below.cons HBT hb9
  clear hb9
  have hb10 : Below (((W8).alloc (.cells #[.int .u32 3] 29))).heap.size (((W8).alloc (.cells #[.int .u32 3] 29))) ((((W8).alloc (.cells #[.int .u32 3] 29))).alloc (.cells #[.int .u32 7] 29)) := (Below.refl _ _).alloc (Nat.le_refl _) _
  have hx7 := nlit (l := [7]) _ _ _ (heap_alloc_new (((W8).alloc (.cells #[.int .u32 3] 29))) (.cells #[.int .u32 7] 29)) rfl (by decide) (by decide) (by decide)
  obtain ⟨x7, Ex7⟩ : ∃ zq : Nat, zq = val [7] := ⟨_, rfl⟩
  rw [← Ex7] at hx7
  simp only [alloc_sz] at hx7
  have Nx7 : nl x7 = 1 := by rw [Ex7]; exact nl_lit (by decide) (by decide)
  have Vx7 : x7 = 7 := by rw [Ex7]; decide
  have Bx7 : nl x7 ≤ 1 := Nat.le_of_eq Nx7
  replace Nx7 := Lib.hid Nx7
  replace Ex7 := Lib.hid Ex7
  replace Vx7 := Lib.hid Vx7
  replace hG := hG.below hb10
  replace ha := ha.below hb10
  replace hb := hb.below hb10
  replace ho := ho.below hb10
  replace hnil := hnil.below hb10
  replace hg := hg.below hb10
  replace hu := hu.below hb10
  replace hv := hv.below hb10
  replace Ru := Ru.below hb10
  replace Rv := Rv.below hb10
  replace hh' := hh'.below hb10
  replace hp' := hp'.below hb10
  replace hq' := hq'.below hb10
  replace Rp' := Rp'.below hb10
  replace Rq' := Rq'.below hb10
  replace hqs := hqs.below hb10
  replace hx3 := hx3.below hb10
  replace HBT := Below.cons HBT hb10
  clear hb10
  go_wp2_with (fail)
  have CI := (at_len2 Nx3.out Nx7.out (inverse_c _ _ x3 _ _ x7 _ hx3 hx7 hG (by omega) (by omega) (by rw [Vx7.out]; decide) (by rw [Vx3.out, Vx7.out]; decide)))
  obtain ⟨i, Ei⟩ : ∃ z : Nat, z = inv x3 x7 := ⟨_, rfl⟩
  rw [← Ei] at CI
  replace CI := Lib.hid CI
  replace Ei := Lib.hid Ei
  refine (Calls.mono (CI.out) ?_)
  rintro e W11 ⟨Xi, ci, rfl, hi, hb11⟩
  replace hG := hG.below hb11
  replace ha := ha.below hb11
  replace hb := hb.below hb11
  replace ho := ho.below hb11
  replace hnil := hnil.below hb11
  replace hg := hg.below hb11
  replace hu := hu.below hb11
  replace hv := hv.below hb11
  replace Ru := Ru.below hb11
  replace Rv := Rv.below hb11
  replace hh' := hh'.below hb11
  replace hp' := hp'.below hb11
  replace hq' := hq'.below hb11
  replace Rp' := Rp'.below hb11
  replace Rq' := Rq'.below hb11
  replace hqs := hqs.below hb11
  replace hx3 := hx3.below hb11
  replace hx7 := hx7.below hb11
  replace HBT := Below.cons HBT hb11
  clear hb11
  clear CI
  have hb12 : Below (W11).heap.size (W11) ((W11).alloc (.cells #[.int .u32 2] 29)) := (Below.refl _ _).alloc (Nat.le_refl _) _
  have hy2 := nlit (l := [2]) _ _ _ (heap_alloc_new (W11) (.cells #[.int .u32 2] 29)) rfl (by decide) (by decide) (by decide)
  obtain ⟨y2, Ey2⟩ : ∃ zq : Nat, zq = val [2] := ⟨_, rfl⟩
  rw [← Ey2] at hy2
  have Ny2 : nl y2 = 1 := by rw [Ey2]; exact nl_lit (by decide) (by decide)
  have Vy2 : y2 = 2 := by rw [Ey2]; decide
  have By2 : nl y2 ≤ 1 := Nat.le_of_eq Ny2
  replace Ny2 := Lib.hid Ny2
  replace Ey2 := Lib.hid Ey2
  replace Vy2 := Lib.hid Vy2
  replace hG := hG.below hb12
  replace ha := ha.below hb12
  replace hb := hb.below hb12
  replace ho := ho.below hb12
  replace hnil := hnil.below hb12
  replace hg := hg.below hb12
  replace hu := hu.below hb12
  replace hv := hv.below hb12
  replace Ru := Ru.below hb12
  replace Rv := Rv.below hb12
  replace hh' := hh'.below hb12
  replace hp' := hp'.below hb12
  replace hq' := hq'.below hb12
  replace Rp' := Rp'.below hb12
  replace Rq' := Rq'.below hb12
  replace hqs := hqs.below hb12
  replace hx3 := hx3.below hb12
  replace hx7 := hx7.below hb12
  replace hi := hi.below hb12
  replace HBT := Below.cons HBT hb12
  clear hb12
  have hb13 : Below (((W11).alloc (.cells #[.int .u32 2] 29))).heap.size (((W11).alloc (.cells #[.int .u32 2] 29))) ((((W11).alloc (.cells #[.int .u32 2] 29))).alloc (.cells #[.int .u32 4] 29)) := (Below.refl _ _).alloc (Nat.le_refl _) _
  have hy4 := nlit (l := [4]) _ _ _ (heap_alloc_new (((W11).alloc (.cells #[.int .u32 2] 29))) (.cells #[.int .u32 4] 29)) rfl (by decide) (by decide) (by decide)
  obtain ⟨y4, Ey4⟩ : ∃ zq : Nat, zq = val [4] := ⟨_, rfl⟩
  rw [← Ey4] at hy4
  simp only [alloc_sz] at hy4
  have Ny4 : nl y4 = 1 := by rw [Ey4]; exact nl_lit (by decide) (by decide)
  have Vy4 : y4 = 4 := by rw [Ey4]; decide
  have By4 : nl y4 ≤ 1 := Nat.le_of_eq Ny4
  replace Ny4 := Lib.hid Ny4
  replace Ey4 := Lib.hid Ey4
  replace Vy4 := Lib.hid Vy4
  replace hG := hG.below hb13
  replace ha := ha.below hb13
  replace hb := hb.below hb13
  replace ho := ho.below hb13
  replace hnil := hnil.below hb13
  replace hg := hg.below hb13
  replace hu := hu.below hb13
  replace hv := hv.below hb13
  replace Ru := Ru.below hb13
  replace Rv := Rv.below hb13
  replace hh' := hh'.below hb13
  replace hp' := hp'.below hb13
  replace hq' := hq'.below hb13
  replace Rp' := Rp'.below hb13
  replace Rq' := Rq'.below hb13
  replace hqs := hqs.below hb13
  replace hx3 := hx3.below hb13
  replace hx7 := hx7.below hb13
  replace hi := hi.below hb13
  replace hy2 := hy2.below hb13
  replace HBT := Below.cons HBT hb13
  clear hb13
  go_wp2_with (fail)
  have CI := (at_len2 Ny2.out Ny4.out (inverseNot_c _ _ y2 _ _ y4 _ hy2 hy4 hG (by omega) (by omega) (Or.inr (by rw [Vy2.out, Vy4.out]; decide))))
  replace CI := Lib.hid CI
  refine (Calls.mono (CI.out) ?_)
  rintro e W14 ⟨rfl, hb14⟩
  replace hG := hG.below hb14
  replace ha := ha.below hb14
  replace hb := hb.below hb14
  replace ho := ho.below hb14
  replace hnil := hnil.below hb14
  replace hg := hg.below hb14
  replace hu := hu.below hb14
  replace hv := hv.below hb14
  replace Ru := Ru.below hb14
  replace Rv := Rv.below hb14
  replace hh' := hh'.below hb14
  replace hp' := hp'.below hb14
  replace hq' := hq'.below hb14
  replace Rp' := Rp'.below hb14
  replace Rq' := Rq'.below hb14
  replace hqs := hqs.below hb14
  replace hx3 := hx3.below hb14
  replace hx7 := hx7.below hb14
  replace hi := hi.below hb14
  replace hy2 := hy2.below hb14
  replace hy4 := hy4.below hb14
  replace HBT := Below.cons HBT hb14
  clear hb14
  clear CI
  go_wp2_with (fail)
  have CI := (at_len2 No.out Nnil.out (inverseNot_c _ _ o none 0 0 _ ho hnil hG (by omega) (by omega) (Or.inl rfl)))
  replace CI := Lib.hid CI
  refine (Calls.mono (CI.out) ?_)
  rintro e W15 ⟨rfl, hb15⟩
  replace hG := hG.below hb15
  replace ha := ha.below hb15
  replace hb := hb.below hb15
  replace ho := ho.below hb15
  replace hnil := hnil.below hb15
  replace hg := hg.below hb15
  replace hu := hu.below hb15
  replace hv := hv.below hb15
  replace Ru := Ru.below hb15
  replace Rv := Rv.below hb15
  replace hh' := hh'.below hb15
  replace hp' := hp'.below hb15
  replace hq' := hq'.below hb15
  replace Rp' := Rp'.below hb15
  replace Rq' := Rq'.below hb15
  replace hqs := hqs.below hb15
  replace hx3 := hx3.below hb15
  replace hx7 := hx7.below hb15
  replace hi := hi.below hb15
  replace hy2 := hy2.below hb15
  replace hy4 := hy4.below hb15
  replace HBT := Below.cons HBT hb15
  clear hb15
  clear CI
  go_wp2_with (fail)
  have CI := (at_len2 Na.out No.out (inverse_c _ _ a _ _ o _ ha ho hG (by omega) (by omega) (by rw [Vo.out]; decide) (by rw [Va.out, Vo.out]; decide)))
  obtain ⟨j, Ej⟩ : ∃ z : Nat, z = inv a o := ⟨_, rfl⟩
  rw [← Ej] at CI
  replace CI := Lib.hid CI
  replace Ej := Lib.hid Ej
  refine (Calls.mono (CI.out) ?_)
  rintro e W16 ⟨Xj, cj, rfl, hj, hb16⟩
  replace hG := hG.below hb16
  replace ha := ha.below hb16
  replace hb := hb.below hb16
  replace ho := ho.below hb16
  replace hnil := hnil.below hb16
  replace hg := hg.below hb16
  replace hu := hu.below hb16
  replace hv := hv.below hb16
  replace Ru := Ru.below hb16
  replace Rv := Rv.below hb16
  replace hh' := hh'.below hb16
  replace hp' := hp'.below hb16
  replace hq' := hq'.below hb16
  replace Rp' := Rp'.below hb16
  replace Rq' := Rq'.below hb16
  replace hqs := hqs.below hb16
  replace hx3 := hx3.below hb16
  replace hx7 := hx7.below hb16
  replace hi := hi.below hb16
  replace hy2 := hy2.below hb16
  replace hy4 := hy4.below hb16
  replace HBT := Below.cons HBT hb16
  clear hb16
  clear CI
  have hb17 : Below (W16).heap.size (W16) ((W16).alloc (.cells #[.int .u32 2] 29)) := (Below.refl _ _).alloc (Nat.le_refl _) _
  have hz2 := nlit (l := [2]) _ _ _ (heap_alloc_new (W16) (.cells #[.int .u32 2] 29)) rfl (by decide) (by decide) (by decide)
  obtain ⟨z2, Ez2⟩ : ∃ zq : Nat, zq = val [2] := ⟨_, rfl⟩
  rw [← Ez2] at hz2
  have Nz2 : nl z2 = 1 := by rw [Ez2]; exact nl_lit (by decide) (by decide)
  have Vz2 : z2 = 2 := by rw [Ez2]; decide
  have Bz2 : nl z2 ≤ 1 := Nat.le_of_eq Nz2
  replace Nz2 := Lib.hid Nz2
  replace Ez2 := Lib.hid Ez2
  replace Vz2 := Lib.hid Vz2
  replace hG := hG.below hb17
  replace ha := ha.below hb17
  replace hb := hb.below hb17
  replace ho := ho.below hb17
  replace hnil := hnil.below hb17
  replace hg := hg.below hb17
  replace hu := hu.below hb17
  replace hv := hv.below hb17
  replace Ru := Ru.below hb17
  replace Rv := Rv.below hb17
  replace hh' := hh'.below hb17
  replace hp' := hp'.below hb17
  replace hq' := hq'.below hb17
  replace Rp' := Rp'.below hb17
  replace Rq' := Rq'.below hb17
  replace hqs := hqs.below hb17
  replace hx3 := hx3.below hb17
  replace hx7 := hx7.below hb17
  replace hi := hi.below hb17
  replace hy2 := hy2.below hb17
  replace hy4 := hy4.below hb17
  replace hj := hj.below hb17
  replace HBT := Below.cons HBT hb17
  clear hb17
  have hb18 : Below (((W16).alloc (.cells #[.int .u32 2] 29))).heap.size (((W16).alloc (.cells #[.int .u32 2] 29))) ((((W16).alloc (.cells #[.int .u32 2] 29))).alloc (.cells #[.int .u32 10] 29)) := (Below.refl _ _).alloc (Nat.le_refl _) _
  have hz10 := nlit (l := [10]) _ _ _ (heap_alloc_new (((W16).alloc (.cells #[.int .u32 2] 29))) (.cells #[.int .u32 10] 29)) rfl (by decide) (by decide) (by decide)
  obtain ⟨z10, Ez10⟩ : ∃ zq : Nat, zq = val [10] := ⟨_, rfl⟩
  rw [← Ez10] at hz10
  simp only [alloc_sz] at hz10
  have Nz10 : nl z10 = 1 := by rw [Ez10]; exact nl_lit (by decide) (by decide)
  have Vz10 : z10 = 10 := by rw [Ez10]; decide
  have Bz10 : nl z10 ≤ 1 := Nat.le_of_eq Nz10
  replace Nz10 := Lib.hid Nz10
  replace Ez10 := Lib.hid Ez10
  replace Vz10 := Lib.hid Vz10
  replace hG := hG.below hb18
  replace ha := ha.below hb18
  replace hb := hb.below hb18
  replace ho := ho.below hb18
  replace hnil := hnil.below hb18
  replace hg := hg.below hb18
  replace hu := hu.below hb18
  replace hv := hv.below hb18
  replace Ru := Ru.below hb18
  replace Rv := Rv.below hb18
  replace hh' := hh'.below hb18
  replace hp' := hp'.below hb18
  replace hq' := hq'.below hb18
  replace Rp' := Rp'.below hb18
  replace Rq' := Rq'.below hb18
  replace hqs := hqs.below hb18
  replace hx3 := hx3.below hb18
  replace hx7 := hx7.below hb18
  replace hi := hi.below hb18
  replace hy2 := hy2.below hb18
  replace hy4 := hy4.below hb18
  replace hj := hj.below hb18
  replace hz2 := hz2.below hb18
  replace HBT := Below.cons HBT hb18
  clear hb18
  have hb19 : Below (((((W16).alloc (.cells #[.int .u32 2] 29))).alloc (.cells #[.int .u32 10] 29))).heap.size (((((W16).alloc (.cells #[.int .u32 2] 29))).alloc (.cells #[.int .u32 10] 29))) ((((((W16).alloc (.cells #[.int .u32 2] 29))).alloc (.cells #[.int .u32 10] 29))).alloc (.cells #[.int .u32 1000] 29)) := (Below.refl _ _).alloc (Nat.le_refl _) _
  have hz1000 := nlit (l := [1000]) _ _ _ (heap_alloc_new (((((W16).alloc (.cells #[.int .u32 2] 29))).alloc (.cells #[.int .u32 10] 29))) (.cells #[.int .u32 1000] 29)) rfl (by decide) (by decide) (by decide)
  obtain ⟨z1000, Ez1000⟩ : ∃ zq : Nat, zq = val [1000] := ⟨_, rfl⟩
  rw [← Ez1000] at hz1000
  simp only [alloc_sz] at hz1000
  have Nz1000 : nl z1000 = 1 := by rw [Ez1000]; exact nl_lit (by decide) (by decide)
  have Vz1000 : z1000 = 1000 := by rw [Ez1000]; decide
  have Bz1000 : nl z1000 ≤ 1 := Nat.le_of_eq Nz1000
  replace Nz1000 := Lib.hid Nz1000
  replace Ez1000 := Lib.hid Ez1000
  replace Vz1000 := Lib.hid Vz1000
  replace hG := hG.below hb19
  replace ha := ha.below hb19
  replace hb := hb.below hb19
  replace ho := ho.below hb19
  replace hnil := hnil.below hb19
  replace hg := hg.below hb19
  replace hu := hu.below hb19
  replace hv := hv.below hb19
  replace Ru := Ru.below hb19
  replace Rv := Rv.below hb19
  replace hh' := hh'.below hb19
  replace hp' := hp'.below hb19
  replace hq' := hq'.below hb19
  replace Rp' := Rp'.below hb19
  replace Rq' := Rq'.below hb19
  replace hqs := hqs.below hb19
  replace hx3 := hx3.below hb19
  replace hx7 := hx7.below hb19
  replace hi := hi.below hb19
  replace hy2 := hy2.below hb19
  replace hy4 := hy4.below hb19
  replace hj := hj.below hb19
  replace hz2 := hz2.below hb19
  replace hz10 := hz10.below hb19
  replace HBT := Below.cons HBT hb19
  clear hb19
  go_wp2_with (fail)
  have CP := powmod_c _ _ z2 _ _ z10 _ _ z1000 _ hz2 hz10 hz1000 hG (by omega) (by omega) (by omega) (by rw [Vz1000.out]; decide)
  rw [Nz2.out, Nz10.out, Nz1000.out] at CP
  obtain ⟨p, Ep⟩ : ∃ z : Nat, z = z2 ^ z10 % z1000 := ⟨_, rfl⟩
  rw [← Ep] at CP
  replace CP := Lib.hid CP
  replace Ep := Lib.hid Ep
  refine (Calls.mono (CP.out) ?_)
  rintro e W20 ⟨Xp, cp, rfl, hp, hb20⟩
  replace hG := hG.below hb20
  replace ha := ha.below hb20
  replace hb := hb.below hb20
  replace ho := ho.below hb20
  replace hnil := hnil.below hb20
  replace hg := hg.below hb20
  replace hu := hu.below hb20
  replace hv := hv.below hb20
  replace Ru := Ru.below hb20
  replace Rv := Rv.below hb20
  replace hh' := hh'.below hb20
  replace hp' := hp'.below hb20
  replace hq' := hq'.below hb20
  replace Rp' := Rp'.below hb20
  replace Rq' := Rq'.below hb20
  replace hqs := hqs.below hb20
  replace hx3 := hx3.below hb20
  replace hx7 := hx7.below hb20
  replace hi := hi.below hb20
  replace hy2 := hy2.below hb20
  replace hy4 := hy4.below hb20
  replace hj := hj.below hb20
  replace hz2 := hz2.below hb20
  replace hz10 := hz10.below hb20
  replace hz1000 := hz1000.below hb20
  replace HBT := Below.cons HBT hb20
  clear hb20
  clear CP
  have hb21 : Below (W20).heap.size (W20) ((W20).alloc (.cells #[.int .u32 5] 29)) := (Below.refl _ _).alloc (Nat.le_refl _) _
  have hx5 := nlit (l := [5]) _ _ _ (heap_alloc_new (W20) (.cells #[.int .u32 5] 29)) rfl (by decide) (by decide) (by decide)
  obtain ⟨x5, Ex5⟩ : ∃ zq : Nat, zq = val [5] := ⟨_, rfl⟩
  rw [← Ex5] at hx5
  have Nx5 : nl x5 = 1 := by rw [Ex5]; exact nl_lit (by decide) (by decide)
  have Vx5 : x5 = 5 := by rw [Ex5]; decide
  have Bx5 : nl x5 ≤ 1 := Nat.le_of_eq Nx5
  replace Nx5 := Lib.hid Nx5
  replace Ex5 := Lib.hid Ex5
  replace Vx5 := Lib.hid Vx5
  replace hG := hG.below hb21
  replace ha := ha.below hb21
  replace hb := hb.below hb21
  replace ho := ho.below hb21
  replace hnil := hnil.below hb21
  replace hg := hg.below hb21
  replace hu := hu.below hb21
  replace hv := hv.below hb21
  replace Ru := Ru.below hb21
  replace Rv := Rv.below hb21
  replace hh' := hh'.below hb21
  replace hp' := hp'.below hb21
  replace hq' := hq'.below hb21
  replace Rp' := Rp'.below hb21
  replace Rq' := Rq'.below hb21
  replace hqs := hqs.below hb21
  replace hx3 := hx3.below hb21
  replace hx7 := hx7.below hb21
  replace hi := hi.below hb21
  replace hy2 := hy2.below hb21
  replace hy4 := hy4.below hb21
  replace hj := hj.below hb21
  replace hz2 := hz2.below hb21
  replace hz10 := hz10.below hb21
  replace hz1000 := hz1000.below hb21
  replace hp := hp.below hb21
  replace HBT := Below.cons HBT hb21
  clear hb21
  go_wp2_with (fail)
  have CP := powmod_c none 0 0 none 0 0 _ _ x5 _ hnil hnil hx5 hG (by omega) (by omega) (by omega) (by rw [Vx5.out]; decide)
  rw [Nx5.out] at CP
  simp only [nl_zero] at CP
  obtain ⟨o1, Eo1⟩ : ∃ z : Nat, z = 0 ^ 0 % x5 := ⟨_, rfl⟩
  rw [← Eo1] at CP
  replace CP := Lib.hid CP
  replace Eo1 := Lib.hid Eo1
  refine (Calls.mono (CP.out) ?_)
  rintro e W22 ⟨Xo1, co1, rfl, ho1, hb22⟩
  replace hG := hG.below hb22
  replace ha := ha.below hb22
  replace hb := hb.below hb22
  replace ho := ho.below hb22
  replace hnil := hnil.below hb22
  replace hg := hg.below hb22
  replace hu := hu.below hb22
  replace hv := hv.below hb22
  replace Ru := Ru.below hb22
  replace Rv := Rv.below hb22
  replace hh' := hh'.below hb22
  replace hp' := hp'.below hb22
  replace hq' := hq'.below hb22
  replace Rp' := Rp'.below hb22
  replace Rq' := Rq'.below hb22
  replace hqs := hqs.below hb22
  replace hx3 := hx3.below hb22
  replace hx7 := hx7.below hb22
  replace hi := hi.below hb22
  replace hy2 := hy2.below hb22
  replace hy4 := hy4.below hb22
  replace hj := hj.below hb22
  replace hz2 := hz2.below hb22
  replace hz10 := hz10.below hb22
  replace hz1000 := hz1000.below hb22
  replace hp := hp.below hb22
  replace hx5 := hx5.below hb22
  replace HBT := Below.cons HBT hb22
  clear hb22
  clear CP
  go_wp2_with (fail)
  refine (Calls.mono (powmodZ_c _ 1 _ _ 1 _ none 0 _) ?_)
  rintro e W23 ⟨rfl, hb23⟩
  replace hG := hG.below hb23
  replace ha := ha.below hb23
  replace hb := hb.below hb23
  replace ho := ho.below hb23
  replace hnil := hnil.below hb23
  replace hg := hg.below hb23
  replace hu := hu.below hb23
  replace hv := hv.below hb23
  replace Ru := Ru.below hb23
  replace Rv := Rv.below hb23
  replace hh' := hh'.below hb23
  replace hp' := hp'.below hb23
  replace hq' := hq'.below hb23
  replace Rp' := Rp'.below hb23
  replace Rq' := Rq'.below hb23
  replace hqs := hqs.below hb23
  replace hx3 := hx3.below hb23
  replace hx7 := hx7.below hb23
  replace hi := hi.below hb23
  replace hy2 := hy2.below hb23
  replace hy4 := hy4.below hb23
  replace hj := hj.below hb23
  replace hz2 := hz2.below hb23
  replace hz10 := hz10.below hb23
  replace hz1000 := hz1000.below hb23
  replace hp := hp.below hb23
  replace hx5 := hx5.below hb23
  replace ho1 := ho1.below hb23
  replace HBT := Below.cons HBT hb23
  clear hb23
  go_wp2_with (fail)
  obtain ⟨qd, Y0, d0, eq0, qc0, qn0⟩ := hqs 0 (by decide)
  subst eq0
  obtain ⟨qd1, Y1, d1, eq1, qc1, qn1⟩ := hqs 1 (by decide)
  cases eq1
  obtain ⟨qd2, Y2, d2, eq2, qc2, qn2⟩ := hqs 2 (by decide)
  cases eq2
  obtain ⟨k0, Ek0⟩ : ∃ z : Nat, z = quo a b 0 := ⟨_, rfl⟩
  rw [← Ek0] at qc0 qn0
  have Vk0 : k0 = 0 := by rw [Ek0, Va.out, Vb.out]; decide
  obtain ⟨k1, Ek1⟩ : ∃ z : Nat, z = quo a b 1 := ⟨_, rfl⟩
  rw [← Ek1] at qc1 qn1
  have Vk1 : k1 = 1 := by rw [Ek1, Va.out, Vb.out]; decide
  obtain ⟨k2, Ek2⟩ : ∃ z : Nat, z = quo a b 2 := ⟨_, rfl⟩
  rw [← Ek2] at qc2 qn2
  have Vk2 : k2 = 2 := by rw [Ek2, Va.out, Vb.out]; decide
  have qc0' : (W23).cell? qd = some (.slice Y0 (nl k0) d0) := by have h := qc0; unfold Addr.add at h; rw [if_pos rfl] at h; exact h
  have qc1' : (W23).cell? ⟨qd.block, qd.off + 1, none⟩ = some (.slice Y1 (nl k1) d1) := by have h := qc1; unfold Addr.add at h; rw [if_neg (by decide)] at h; exact h
  have qc2' : (W23).cell? ⟨qd.block, qd.off + 2, none⟩ = some (.slice Y2 (nl k2) d2) := by have h := qc2; unfold Addr.add at h; rw [if_neg (by decide)] at h; exact h
  have Xg6 : g = 6 := by rw [Eg.out, Va.out, Vb.out]; decide
  have Xu1 : u = -1 := by rw [Eu.out, Va.out, Vb.out]; exact ex1.1
  have Xv1 : v = 1 := by rw [Ev.out, Va.out, Vb.out]; exact ex1.2
  have Xh12 : h' = a := by rw [Eh'.out, Nat.gcd_zero_right]
  have Xp1 : p' = 1 := by rw [Ep'.out, Va.out]; exact ex2.1
  have Xq0 : q' = 0 := by rw [Eq'.out, Va.out]; exact ex2.2
  have Xi5 : i = 5 := by rw [Ei.out, Vx3.out, Vx7.out]; exact iv1
  have Xj0 : nl j = 0 := by rw [Ej.out, Va.out, Vo.out, iv2, nl_zero]
  have Xp24 : p = 24 := by rw [Ep.out, Vz2.out, Vz10.out, Vz1000.out]
  have Xo11 : o1 = o := by rw [Eo1.out, Vx5.out, Vo.out]
  have K00 : nl k0 = 0 := by rw [Vk0, nl_zero]
  replace Ek0 := Lib.hid Ek0
  replace Ek1 := Lib.hid Ek1
  replace Ek2 := Lib.hid Ek2
  replace Vk0 := Lib.hid Vk0
  replace Vk1 := Lib.hid Vk1
  replace Vk2 := Lib.hid Vk2
  replace Xg6 := Lib.hid Xg6
  replace Xu1 := Lib.hid Xu1
  replace Xv1 := Lib.hid Xv1
  replace Xh12 := Lib.hid Xh12
  replace Xp1 := Lib.hid Xp1
  replace Xq0 := Lib.hid Xq0
  replace Xi5 := Lib.hid Xi5
  replace Xj0 := Lib.hid Xj0
  replace Xp24 := Lib.hid Xp24
  replace Xo11 := Lib.hid Xo11
  replace K00 := Lib.hid K00
  obtain ⟨n6, Vn6⟩ : ∃ z : Nat, z = 6 := ⟨_, rfl⟩
  have Bn6 : nl n6 ≤ 1 := by rw [Vn6]; exact nl_limb (by decide)
  replace Vn6 := Lib.hid Vn6
  obtain ⟨n18, Vn18⟩ : ∃ z : Nat, z = 18 := ⟨_, rfl⟩
  have Bn18 : nl n18 ≤ 1 := by rw [Vn18]; exact nl_limb (by decide)
  replace Vn18 := Lib.hid Vn18
  obtain ⟨n2, Vn2⟩ : ∃ z : Nat, z = 2 := ⟨_, rfl⟩
  have Bn2 : nl n2 ≤ 1 := by rw [Vn2]; exact nl_limb (by decide)
  replace Vn2 := Lib.hid Vn2
  obtain ⟨n5, Vn5⟩ : ∃ z : Nat, z = 5 := ⟨_, rfl⟩
  have Bn5 : nl n5 ≤ 1 := by rw [Vn5]; exact nl_limb (by decide)
  replace Vn5 := Lib.hid Vn5
  obtain ⟨n24, Vn24⟩ : ∃ z : Nat, z = 24 := ⟨_, rfl⟩
  have Bn24 : nl n24 ≤ 1 := by rw [Vn24]; exact nl_limb (by decide)
  replace Vn24 := Lib.hid Vn24
  obtain ⟨n0, Vn0⟩ : ∃ z : Nat, z = 0 := ⟨_, rfl⟩
  have Bn0 : nl n0 ≤ 1 := by rw [Vn0]; exact nl_limb (by decide)
  replace Vn0 := Lib.hid Vn0
  obtain ⟨zm, Vzm⟩ : ∃ z : Int, z = -1 := ⟨_, rfl⟩
  have Bzm : nl (mg zm) ≤ 1 := by rw [Vzm]; exact nl_limb (by decide)
  have CZzm : ∀ W : World, Calls Tryd.prog 17 #[.int .i64 (-1)] W (RetI W zm) := fun W => by rw [Vzm]; exact zof_c (-1) W (by decide) (by decide)
  replace Vzm := Lib.hid Vzm
  replace CZzm := Lib.hid CZzm
  obtain ⟨z1, Vz1⟩ : ∃ z : Int, z = 1 := ⟨_, rfl⟩
  have Bz1 : nl (mg z1) ≤ 1 := by rw [Vz1]; exact nl_limb (by decide)
  have CZz1 : ∀ W : World, Calls Tryd.prog 17 #[.int .i64 (1)] W (RetI W z1) := fun W => by rw [Vz1]; exact zof_c (1) W (by decide) (by decide)
  replace Vz1 := Lib.hid Vz1
  replace CZz1 := Lib.hid CZz1
  obtain ⟨z0, Vz0⟩ : ∃ z : Int, z = 0 := ⟨_, rfl⟩
  have Bz0 : nl (mg z0) ≤ 1 := by rw [Vz0]; exact nl_limb (by decide)
  have CZz0 : ∀ W : World, Calls Tryd.prog 17 #[.int .i64 (0)] W (RetI W z0) := fun W => by rw [Vz0]; exact zof_c (0) W (by decide) (by decide)
  replace Vz0 := Lib.hid Vz0
  replace CZz0 := Lib.hid CZz0
  clear qc0 qc1 qc2 nq mqs
  simp only [List.append]
  refine wp_region_mono (headK (.slice (some ⟨w.heap.size, 0, none⟩) 1 1) (.slice (some ⟨w.heap.size + 1, 0, none⟩) 1 1) (.slice Xg (nl g) cg) (.agg #[.bool (sg u), .slice Xu (nl (mg u)) cu]) (.agg #[.bool (sg v), .slice Xv (nl (mg v)) cv]) (.slice Xh' (nl h') ch') (.agg #[.bool (sg p'), .slice Xp' (nl (mg p')) cp']) (.agg #[.bool (sg q'), .slice Xq' (nl (mg q')) cq']) (.slice (some qd) 3 cqs) (.pointer (some qd)) (.slice Y0 (nl k0) d0) (.pointer (some ⟨qd.block, qd.off + 1, none⟩)) (.slice Y1 (nl k1) d1) (.slice (some ⟨w.heap.size + 1 + 1, 0, none⟩) 1 1) (.pointer (some ⟨qd.block, qd.off + 2, none⟩)) (.slice Y2 (nl k2) d2) (.slice Xi (nl i) ci) (.slice Xj (nl j) cj) (.slice Xp (nl p) cp) (.slice Xo1 (nl o1) co1) a n6 n18 n2 n5 n24 n0 zm z1 z0) (by kernel_rfl) (by kernel_rfl) (by kernel_rfl) ?_ ?_
  · skip
    refine ⟨?_, ?_⟩
    · intro E ac wc st hdep
      have t1 : ac.tmps[1]? = some (.slice (some ⟨w.heap.size, 0, none⟩) 1 1) := (st.old 1 (by kernel_rfl)).trans (by rfl)
      have e1 : ac.tmps.getD 1 undef = _ := getD_of t1
      refine wpOp_want rfl (by rfl) (fun K' hK' => ?_)
      go_simp
      exact hK'.out _ _ ⟨_, rfl, rfl, Below.refl _ _⟩
    refine ⟨?_, ?_⟩
    · intro E ac wc st hdep
      have t2 : ac.tmps[2]? = some (.slice (some ⟨w.heap.size + 1, 0, none⟩) 1 1) := (st.old 2 (by kernel_rfl)).trans (by rfl)
      have e2 : ac.tmps.getD 2 undef = _ := getD_of t2
      refine wpOp_want rfl (by rfl) (fun K' hK' => ?_)
      go_simp
      exact hK'.out _ _ ⟨_, rfl, rfl, Below.refl _ _⟩
    refine ⟨?_, ?_⟩
    · intro E ac wc st hdep
      obtain ⟨v88, t88, r88⟩ := st.new 0 88 (by rfl) (dep_of hdep 0 (by rfl))
      have r88' : v88 = .slice (some ⟨w.heap.size, 0, none⟩) 1 1 := r88
      clear r88
      subst r88'
      obtain ⟨v89, t89, r89⟩ := st.new 1 89 (by rfl) (dep_of hdep 1 (by rfl))
      have r89' : v89 = .slice (some ⟨w.heap.size + 1, 0, none⟩) 1 1 := r89
      clear r89
      subst r89'
      have e88 : ac.tmps.getD 88 undef = _ := getD_of t88
      have e89 : ac.tmps.getD 89 undef = _ := getD_of t89
      refine wpOp_want rfl (by rfl) (fun K' hK' => ?_)
      go_simp
      refine (Calls.mono (R := RetN wc (n6)) (eqN (by rw [Vn6.out]; first | (rw [Va.out, Vb.out]; done) | (rw [Va.out, Vb.out]; decide)) (at_len2 Na.out Nb.out (gcd_c _ _ a _ _ b wc (ha.below st.b) (hb.below st.b) (by have := Ba; omega) (by have := Bb; omega)))) ?_)
      rintro e W ⟨X, c, rfl, hX, kb⟩
      exact hK'.out _ _ ⟨_, rfl, ⟨X, c, rfl, hX⟩, kb⟩
    refine ⟨?_, ?_⟩
    · intro E ac wc st hdep
      refine wpOp_want rfl (by rfl) (fun K' hK' => ?_)
      go_simp
      exact hK'.out _ _ ⟨_, rfl, ⟨_, _, rfl, by rw [Vn6.out]; exact nlit (l := [6]) _ _ _ (heap_alloc_new wc _) rfl (by decide) (by decide) (by decide), by rw [Vn6.out]; exact nl_lit (l := [6]) (by decide) (by decide)⟩, (Below.refl _ _).alloc (Nat.le_refl _) _⟩
    refine ⟨?_, ?_⟩
    · intro E ac wc st hdep
      obtain ⟨v90, t90, r90⟩ := st.new 2 90 (by rfl) (dep_of hdep 2 (by rfl))
      obtain ⟨X90, c90, rfl, h90⟩ := r90
      obtain ⟨v91, t91, r91⟩ := st.new 3 91 (by rfl) (dep_of hdep 3 (by rfl))
      obtain ⟨X91, c91, rfl, h91, n91⟩ := r91
      replace n91 := Lib.hid n91
      have e90 : ac.tmps.getD 90 undef = _ := getD_of t90
      have e91 : ac.tmps.getD 91 undef = _ := getD_of t91
      refine wpOp_want rfl (by rfl) (fun K' hK' => ?_)
      go_simp
      refine (Calls.mono (at_lenR n91.out (same1_t X90 c90 n6 X91 c91 n6 wc h90 h91 (by have := Bn6; omega) (by have := Bn6; omega) (by rfl))) ?_)
      rintro e W ⟨rfl, kb⟩
      exact hK'.out _ _ ⟨_, rfl, rfl, kb⟩
    refine ⟨?_, ?_⟩
    · intro E ac wc st hdep
      obtain ⟨v92, t92, r92⟩ := st.new 4 92 (by rfl) (dep_of hdep 4 (by rfl))
      have r92' : v92 = .bool true := r92
      clear r92
      subst r92'
      have e92 : ac.tmps.getD 92 undef = _ := getD_of t92
      refine wpOp_want rfl (by rfl) (fun K' hK' => ?_)
      go_simp
      exact hK'.out _ _ ⟨_, rfl, rfl, Below.refl _ _⟩
    refine ⟨?_, ?_⟩
    · intro E ac wc st hdep
      have t2 : ac.tmps[2]? = some (.slice (some ⟨w.heap.size + 1, 0, none⟩) 1 1) := (st.old 2 (by kernel_rfl)).trans (by rfl)
      obtain ⟨v93, t93, r93⟩ := st.new 5 93 (by rfl) (dep_of hdep 5 (by rfl))
      have r93' : v93 = .bool true := r93
      clear r93
      subst r93'
      have e2 : ac.tmps.getD 2 undef = _ := getD_of t2
      have e93 : ac.tmps.getD 93 undef = _ := getD_of t93
      refine wpOp_want rfl (wanted_of (by rfl) (by rfl) t93) (fun K' hK' => ?_)
      go_simp
      exact hK'.out _ _ ⟨_, rfl, rfl, Below.refl _ _⟩
    refine ⟨?_, ?_⟩
    · intro E ac wc st hdep
      have t1 : ac.tmps[1]? = some (.slice (some ⟨w.heap.size, 0, none⟩) 1 1) := (st.old 1 (by kernel_rfl)).trans (by rfl)
      obtain ⟨v93, t93, r93⟩ := st.new 5 93 (by rfl) (dep_of hdep 5 (by rfl))
      have r93' : v93 = .bool true := r93
      clear r93
      subst r93'
      have e1 : ac.tmps.getD 1 undef = _ := getD_of t1
      have e93 : ac.tmps.getD 93 undef = _ := getD_of t93
      refine wpOp_want rfl (wanted_of (by rfl) (by rfl) t93) (fun K' hK' => ?_)
      go_simp
      exact hK'.out _ _ ⟨_, rfl, rfl, Below.refl _ _⟩
    refine ⟨?_, ?_⟩
    · intro E ac wc st hdep
      obtain ⟨v94, t94, r94⟩ := st.new 6 94 (by rfl) (dep_of hdep 6 (by rfl))
      have r94' : v94 = .slice (some ⟨w.heap.size + 1, 0, none⟩) 1 1 := r94
      clear r94
      subst r94'
      obtain ⟨v95, t95, r95⟩ := st.new 7 95 (by rfl) (dep_of hdep 7 (by rfl))
      have r95' : v95 = .slice (some ⟨w.heap.size, 0, none⟩) 1 1 := r95
      clear r95
      subst r95'
      obtain ⟨v93, t93, r93⟩ := st.new 5 93 (by rfl) (dep_of hdep 5 (by rfl))
      have r93' : v93 = .bool true := r93
      clear r93
      subst r93'
      have e94 : ac.tmps.getD 94 undef = _ := getD_of t94
      have e95 : ac.tmps.getD 95 undef = _ := getD_of t95
      have e93 : ac.tmps.getD 93 undef = _ := getD_of t93
      refine wpOp_want rfl (wanted_of (by rfl) (by rfl) t93) (fun K' hK' => ?_)
      go_simp
      refine (Calls.mono (R := RetN wc (n6)) (eqN (by rw [Vn6.out]; first | (rw [Va.out, Vb.out]; done) | (rw [Va.out, Vb.out]; decide)) (at_len2 Nb.out Na.out (lehmer_c _ _ b _ _ a wc (hb.below st.b) (ha.below st.b) (hG.below st.b) (by have := Bb; omega) (by have := Ba; omega)))) ?_)
      rintro e W ⟨X, c, rfl, hX, kb⟩
      exact hK'.out _ _ ⟨_, rfl, ⟨X, c, rfl, hX⟩, kb⟩
    refine ⟨?_, ?_⟩
    · intro E ac wc st hdep
      obtain ⟨v93, t93, r93⟩ := st.new 5 93 (by rfl) (dep_of hdep 5 (by rfl))
      have r93' : v93 = .bool true := r93
      clear r93
      subst r93'
      have e93 : ac.tmps.getD 93 undef = _ := getD_of t93
      refine wpOp_want rfl (wanted_of (by rfl) (by rfl) t93) (fun K' hK' => ?_)
      go_simp
      exact hK'.out _ _ ⟨_, rfl, ⟨_, _, rfl, by rw [Vn6.out]; exact nlit (l := [6]) _ _ _ (heap_alloc_new wc _) rfl (by decide) (by decide) (by decide), by rw [Vn6.out]; exact nl_lit (l := [6]) (by decide) (by decide)⟩, (Below.refl _ _).alloc (Nat.le_refl _) _⟩
    refine ⟨?_, ?_⟩
    · intro E ac wc st hdep
      obtain ⟨v96, t96, r96⟩ := st.new 8 96 (by rfl) (dep_of hdep 8 (by rfl))
      obtain ⟨X96, c96, rfl, h96⟩ := r96
      obtain ⟨v97, t97, r97⟩ := st.new 9 97 (by rfl) (dep_of hdep 9 (by rfl))
      obtain ⟨X97, c97, rfl, h97, n97⟩ := r97
      replace n97 := Lib.hid n97
      obtain ⟨v93, t93, r93⟩ := st.new 5 93 (by rfl) (dep_of hdep 5 (by rfl))
      have r93' : v93 = .bool true := r93
      clear r93
      subst r93'
      have e96 : ac.tmps.getD 96 undef = _ := getD_of t96
      have e97 : ac.tmps.getD 97 undef = _ := getD_of t97
      have e93 : ac.tmps.getD 93 undef = _ := getD_of t93
      refine wpOp_want rfl (wanted_of (by rfl) (by rfl) t93) (fun K' hK' => ?_)
      go_simp
      refine (Calls.mono (at_lenR n97.out (same1_t X96 c96 n6 X97 c97 n6 wc h96 h97 (by have := Bn6; omega) (by have := Bn6; omega) (by rfl))) ?_)
      rintro e W ⟨rfl, kb⟩
      exact hK'.out _ _ ⟨_, rfl, rfl, kb⟩
    refine ⟨?_, ?_⟩
    · intro E ac wc st hdep
      obtain ⟨v93, t93, r93⟩ := st.new 5 93 (by rfl) (dep_of hdep 5 (by rfl))
      have r93' : v93 = .bool true := r93
      clear r93
      subst r93'
      obtain ⟨v98, t98, r98⟩ := st.new 10 98 (by rfl) (dep_of hdep 10 (by rfl))
      have r98' : v98 = .bool true := r98
      clear r98
      subst r98'
      have e93 : ac.tmps.getD 93 undef = _ := getD_of t93
      have e98 : ac.tmps.getD 98 undef = _ := getD_of t98
      refine wpOp_want rfl (by rfl) (fun K' hK' => ?_)
      go_simp
      exact hK'.out _ _ ⟨_, rfl, rfl, Below.refl _ _⟩
    refine ⟨?_, ?_⟩
    · intro E ac wc st hdep
      obtain ⟨v99, t99, r99⟩ := st.new 11 99 (by rfl) (dep_of hdep 11 (by rfl))
      have r99' : v99 = .bool true := r99
      clear r99
      subst r99'
      have e99 : ac.tmps.getD 99 undef = _ := getD_of t99
      refine wpOp_want rfl (by rfl) (fun K' hK' => ?_)
      go_simp
      exact hK'.out _ _ ⟨_, rfl, rfl, Below.refl _ _⟩
    refine ⟨?_, ?_⟩
    · intro E ac wc st hdep
      have t1 : ac.tmps[1]? = some (.slice (some ⟨w.heap.size, 0, none⟩) 1 1) := (st.old 1 (by kernel_rfl)).trans (by rfl)
      obtain ⟨v100, t100, r100⟩ := st.new 12 100 (by rfl) (dep_of hdep 12 (by rfl))
      have r100' : v100 = .bool true := r100
      clear r100
      subst r100'
      have e1 : ac.tmps.getD 1 undef = _ := getD_of t1
      have e100 : ac.tmps.getD 100 undef = _ := getD_of t100
      refine wpOp_want rfl (wanted_of (by rfl) (by rfl) t100) (fun K' hK' => ?_)
      go_simp
      exact hK'.out _ _ ⟨_, rfl, rfl, Below.refl _ _⟩
    refine ⟨?_, ?_⟩
    · intro E ac wc st hdep
      have t2 : ac.tmps[2]? = some (.slice (some ⟨w.heap.size + 1, 0, none⟩) 1 1) := (st.old 2 (by kernel_rfl)).trans (by rfl)
      obtain ⟨v100, t100, r100⟩ := st.new 12 100 (by rfl) (dep_of hdep 12 (by rfl))
      have r100' : v100 = .bool true := r100
      clear r100
      subst r100'
      have e2 : ac.tmps.getD 2 undef = _ := getD_of t2
      have e100 : ac.tmps.getD 100 undef = _ := getD_of t100
      refine wpOp_want rfl (wanted_of (by rfl) (by rfl) t100) (fun K' hK' => ?_)
      go_simp
      exact hK'.out _ _ ⟨_, rfl, rfl, Below.refl _ _⟩
    refine ⟨?_, ?_⟩
    · intro E ac wc st hdep
      obtain ⟨v101, t101, r101⟩ := st.new 13 101 (by rfl) (dep_of hdep 13 (by rfl))
      have r101' : v101 = .slice (some ⟨w.heap.size, 0, none⟩) 1 1 := r101
      clear r101
      subst r101'
      obtain ⟨v102, t102, r102⟩ := st.new 14 102 (by rfl) (dep_of hdep 14 (by rfl))
      have r102' : v102 = .slice (some ⟨w.heap.size + 1, 0, none⟩) 1 1 := r102
      clear r102
      subst r102'
      obtain ⟨v100, t100, r100⟩ := st.new 12 100 (by rfl) (dep_of hdep 12 (by rfl))
      have r100' : v100 = .bool true := r100
      clear r100
      subst r100'
      have e101 : ac.tmps.getD 101 undef = _ := getD_of t101
      have e102 : ac.tmps.getD 102 undef = _ := getD_of t102
      have e100 : ac.tmps.getD 100 undef = _ := getD_of t100
      refine wpOp_want rfl (wanted_of (by rfl) (by rfl) t100) (fun K' hK' => ?_)
      go_simp
      refine (Calls.mono (R := RetN wc (n6)) (eqN (by rw [Vn6.out]; first | (rw [Va.out, Vb.out]; done) | (rw [Va.out, Vb.out]; decide)) (at_len2 Na.out Nb.out (half_c _ _ a _ _ b wc (ha.below st.b) (hb.below st.b) (hG.below st.b) (by have := Ba; omega) (by have := Bb; omega)))) ?_)
      rintro e W ⟨X, c, rfl, hX, kb⟩
      exact hK'.out _ _ ⟨_, rfl, ⟨X, c, rfl, hX⟩, kb⟩
    refine ⟨?_, ?_⟩
    · intro E ac wc st hdep
      obtain ⟨v100, t100, r100⟩ := st.new 12 100 (by rfl) (dep_of hdep 12 (by rfl))
      have r100' : v100 = .bool true := r100
      clear r100
      subst r100'
      have e100 : ac.tmps.getD 100 undef = _ := getD_of t100
      refine wpOp_want rfl (wanted_of (by rfl) (by rfl) t100) (fun K' hK' => ?_)
      go_simp
      exact hK'.out _ _ ⟨_, rfl, ⟨_, _, rfl, by rw [Vn6.out]; exact nlit (l := [6]) _ _ _ (heap_alloc_new wc _) rfl (by decide) (by decide) (by decide), by rw [Vn6.out]; exact nl_lit (l := [6]) (by decide) (by decide)⟩, (Below.refl _ _).alloc (Nat.le_refl _) _⟩
    refine ⟨?_, ?_⟩
    · intro E ac wc st hdep
      obtain ⟨v103, t103, r103⟩ := st.new 15 103 (by rfl) (dep_of hdep 15 (by rfl))
      obtain ⟨X103, c103, rfl, h103⟩ := r103
      obtain ⟨v104, t104, r104⟩ := st.new 16 104 (by rfl) (dep_of hdep 16 (by rfl))
      obtain ⟨X104, c104, rfl, h104, n104⟩ := r104
      replace n104 := Lib.hid n104
      obtain ⟨v100, t100, r100⟩ := st.new 12 100 (by rfl) (dep_of hdep 12 (by rfl))
      have r100' : v100 = .bool true := r100
      clear r100
      subst r100'
      have e103 : ac.tmps.getD 103 undef = _ := getD_of t103
      have e104 : ac.tmps.getD 104 undef = _ := getD_of t104
      have e100 : ac.tmps.getD 100 undef = _ := getD_of t100
      refine wpOp_want rfl (wanted_of (by rfl) (by rfl) t100) (fun K' hK' => ?_)
      go_simp
      refine (Calls.mono (at_lenR n104.out (same1_t X103 c103 n6 X104 c104 n6 wc h103 h104 (by have := Bn6; omega) (by have := Bn6; omega) (by rfl))) ?_)
      rintro e W ⟨rfl, kb⟩
      exact hK'.out _ _ ⟨_, rfl, rfl, kb⟩
    refine ⟨?_, ?_⟩
    · intro E ac wc st hdep
      obtain ⟨v100, t100, r100⟩ := st.new 12 100 (by rfl) (dep_of hdep 12 (by rfl))
      have r100' : v100 = .bool true := r100
      clear r100
      subst r100'
      obtain ⟨v105, t105, r105⟩ := st.new 17 105 (by rfl) (dep_of hdep 17 (by rfl))
      have r105' : v105 = .bool true := r105
      clear r105
      subst r105'
      have e100 : ac.tmps.getD 100 undef = _ := getD_of t100
      have e105 : ac.tmps.getD 105 undef = _ := getD_of t105
      refine wpOp_want rfl (by rfl) (fun K' hK' => ?_)
      go_simp
      exact hK'.out _ _ ⟨_, rfl, rfl, Below.refl _ _⟩
    refine ⟨?_, ?_⟩
    · intro E ac wc st hdep
      obtain ⟨v106, t106, r106⟩ := st.new 18 106 (by rfl) (dep_of hdep 18 (by rfl))
      have r106' : v106 = .bool true := r106
      clear r106
      subst r106'
      have e106 : ac.tmps.getD 106 undef = _ := getD_of t106
      refine wpOp_want rfl (by rfl) (fun K' hK' => ?_)
      go_simp
      exact hK'.out _ _ ⟨_, rfl, rfl, Below.refl _ _⟩
    refine ⟨?_, ?_⟩
    · intro E ac wc st hdep
      obtain ⟨v107, t107, r107⟩ := st.new 19 107 (by rfl) (dep_of hdep 19 (by rfl))
      have r107' : v107 = .bool true := r107
      clear r107
      subst r107'
      have e107 : ac.tmps.getD 107 undef = _ := getD_of t107
      refine wpOp_want rfl (wanted_of (by rfl) (by rfl) t107) (fun K' hK' => ?_)
      go_simp
      refine (Calls.mono (R := RetN wc (n0)) (eqN (by rw [Vn0.out]; first | (rfl; done) | (decide)) (at_len2 Nnil.out Nnil.out (gcd_c _ _ 0 _ _ 0 wc (hnil.below st.b) (hnil.below st.b) (by have := Bnil; omega) (by have := Bnil; omega)))) ?_)
      rintro e W ⟨X, c, rfl, hX, kb⟩
      exact hK'.out _ _ ⟨_, rfl, ⟨X, c, rfl, hX⟩, kb⟩
    refine ⟨?_, ?_⟩
    · intro E ac wc st hdep
      obtain ⟨v108, t108, r108⟩ := st.new 20 108 (by rfl) (dep_of hdep 20 (by rfl))
      obtain ⟨X108, c108, rfl, h108⟩ := r108
      obtain ⟨v107, t107, r107⟩ := st.new 19 107 (by rfl) (dep_of hdep 19 (by rfl))
      have r107' : v107 = .bool true := r107
      clear r107
      subst r107'
      have zz : nl n0 = 0 := by rw [Vn0.out, nl_zero]
      have e108 : ac.tmps.getD 108 undef = _ := getD_of t108
      have e107 : ac.tmps.getD 107 undef = _ := getD_of t107
      refine wpOp_want rfl (wanted_of (by rfl) (by rfl) t107) (fun K' hK' => ?_)
      go_simp
      exact hK'.out _ _ ⟨_, rfl, rfl, Below.refl _ _⟩
    refine ⟨?_, ?_⟩
    · intro E ac wc st hdep
      obtain ⟨v109, t109, r109⟩ := st.new 21 109 (by rfl) (dep_of hdep 21 (by rfl))
      have r109' : v109 = .int .i64 0 := r109
      clear r109
      subst r109'
      obtain ⟨v107, t107, r107⟩ := st.new 19 107 (by rfl) (dep_of hdep 19 (by rfl))
      have r107' : v107 = .bool true := r107
      clear r107
      subst r107'
      have e109 : ac.tmps.getD 109 undef = _ := getD_of t109
      have e107 : ac.tmps.getD 107 undef = _ := getD_of t107
      refine wpOp_want rfl (wanted_of (by rfl) (by rfl) t107) (fun K' hK' => ?_)
      go_simp
      exact hK'.out _ _ ⟨_, rfl, rfl, Below.refl _ _⟩
    refine ⟨?_, ?_⟩
    · intro E ac wc st hdep
      obtain ⟨v107, t107, r107⟩ := st.new 19 107 (by rfl) (dep_of hdep 19 (by rfl))
      have r107' : v107 = .bool true := r107
      clear r107
      subst r107'
      obtain ⟨v110, t110, r110⟩ := st.new 22 110 (by rfl) (dep_of hdep 22 (by rfl))
      have r110' : v110 = .bool true := r110
      clear r110
      subst r110'
      have e107 : ac.tmps.getD 107 undef = _ := getD_of t107
      have e110 : ac.tmps.getD 110 undef = _ := getD_of t110
      refine wpOp_want rfl (by rfl) (fun K' hK' => ?_)
      go_simp
      exact hK'.out _ _ ⟨_, rfl, rfl, Below.refl _ _⟩
    refine ⟨?_, ?_⟩
    · intro E ac wc st hdep
      obtain ⟨v111, t111, r111⟩ := st.new 23 111 (by rfl) (dep_of hdep 23 (by rfl))
      have r111' : v111 = .bool true := r111
      clear r111
      subst r111'
      have e111 : ac.tmps.getD 111 undef = _ := getD_of t111
      refine wpOp_want rfl (by rfl) (fun K' hK' => ?_)
      go_simp
      exact hK'.out _ _ ⟨_, rfl, rfl, Below.refl _ _⟩
    refine ⟨?_, ?_⟩
    · intro E ac wc st hdep
      have t2 : ac.tmps[2]? = some (.slice (some ⟨w.heap.size + 1, 0, none⟩) 1 1) := (st.old 2 (by kernel_rfl)).trans (by rfl)
      obtain ⟨v112, t112, r112⟩ := st.new 24 112 (by rfl) (dep_of hdep 24 (by rfl))
      have r112' : v112 = .bool true := r112
      clear r112
      subst r112'
      have e2 : ac.tmps.getD 2 undef = _ := getD_of t2
      have e112 : ac.tmps.getD 112 undef = _ := getD_of t112
      refine wpOp_want rfl (wanted_of (by rfl) (by rfl) t112) (fun K' hK' => ?_)
      go_simp
      exact hK'.out _ _ ⟨_, rfl, rfl, Below.refl _ _⟩
    refine ⟨?_, ?_⟩
    · intro E ac wc st hdep
      obtain ⟨v113, t113, r113⟩ := st.new 25 113 (by rfl) (dep_of hdep 25 (by rfl))
      have r113' : v113 = .slice (some ⟨w.heap.size + 1, 0, none⟩) 1 1 := r113
      clear r113
      subst r113'
      obtain ⟨v112, t112, r112⟩ := st.new 24 112 (by rfl) (dep_of hdep 24 (by rfl))
      have r112' : v112 = .bool true := r112
      clear r112
      subst r112'
      have e113 : ac.tmps.getD 113 undef = _ := getD_of t113
      have e112 : ac.tmps.getD 112 undef = _ := getD_of t112
      refine wpOp_want rfl (wanted_of (by rfl) (by rfl) t112) (fun K' hK' => ?_)
      go_simp
      refine (Calls.mono (R := RetN wc (n18)) (eqN (by rw [Vn18.out]; first | (rw [Vb.out]; done) | (rw [Vb.out]; decide)) (at_len2 Nnil.out Nb.out (half_c _ _ 0 _ _ b wc (hnil.below st.b) (hb.below st.b) (hG.below st.b) (by have := Bnil; omega) (by have := Bb; omega)))) ?_)
      rintro e W ⟨X, c, rfl, hX, kb⟩
      exact hK'.out _ _ ⟨_, rfl, ⟨X, c, rfl, hX⟩, kb⟩
    refine ⟨?_, ?_⟩
    · intro E ac wc st hdep
      have t2 : ac.tmps[2]? = some (.slice (some ⟨w.heap.size + 1, 0, none⟩) 1 1) := (st.old 2 (by kernel_rfl)).trans (by rfl)
      obtain ⟨v112, t112, r112⟩ := st.new 24 112 (by rfl) (dep_of hdep 24 (by rfl))
      have r112' : v112 = .bool true := r112
      clear r112
      subst r112'
      have e2 : ac.tmps.getD 2 undef = _ := getD_of t2
      have e112 : ac.tmps.getD 112 undef = _ := getD_of t112
      refine wpOp_want rfl (wanted_of (by rfl) (by rfl) t112) (fun K' hK' => ?_)
      go_simp
      exact hK'.out _ _ ⟨_, rfl, rfl, Below.refl _ _⟩
    refine ⟨?_, ?_⟩
    · intro E ac wc st hdep
      obtain ⟨v114, t114, r114⟩ := st.new 26 114 (by rfl) (dep_of hdep 26 (by rfl))
      obtain ⟨X114, c114, rfl, h114⟩ := r114
      obtain ⟨v115, t115, r115⟩ := st.new 27 115 (by rfl) (dep_of hdep 27 (by rfl))
      have r115' : v115 = .slice (some ⟨w.heap.size + 1, 0, none⟩) 1 1 := r115
      clear r115
      subst r115'
      obtain ⟨v112, t112, r112⟩ := st.new 24 112 (by rfl) (dep_of hdep 24 (by rfl))
      have r112' : v112 = .bool true := r112
      clear r112
      subst r112'
      have e114 : ac.tmps.getD 114 undef = _ := getD_of t114
      have e115 : ac.tmps.getD 115 undef = _ := getD_of t115
      have e112 : ac.tmps.getD 112 undef = _ := getD_of t112
      refine wpOp_want rfl (wanted_of (by rfl) (by rfl) t112) (fun K' hK' => ?_)
      go_simp
      refine (Calls.mono (at_lenR Nb.out (same1_t X114 c114 n18 _ _ b wc h114 (hb.below st.b) (by have := Bn18; omega) (by have := Bb; omega) (by rw [Vb.out, Vn18.out]))) ?_)
      rintro e W ⟨rfl, kb⟩
      exact hK'.out _ _ ⟨_, rfl, rfl, kb⟩
    refine ⟨?_, ?_⟩
    · intro E ac wc st hdep
      obtain ⟨v112, t112, r112⟩ := st.new 24 112 (by rfl) (dep_of hdep 24 (by rfl))
      have r112' : v112 = .bool true := r112
      clear r112
      subst r112'
      obtain ⟨v116, t116, r116⟩ := st.new 28 116 (by rfl) (dep_of hdep 28 (by rfl))
      have r116' : v116 = .bool true := r116
      clear r116
      subst r116'
      have e112 : ac.tmps.getD 112 undef = _ := getD_of t112
      have e116 : ac.tmps.getD 116 undef = _ := getD_of t116
      refine wpOp_want rfl (by rfl) (fun K' hK' => ?_)
      go_simp
      exact hK'.out _ _ ⟨_, rfl, rfl, Below.refl _ _⟩
    refine ⟨?_, ?_⟩
    · intro E ac wc st hdep
      obtain ⟨v117, t117, r117⟩ := st.new 29 117 (by rfl) (dep_of hdep 29 (by rfl))
      have r117' : v117 = .bool true := r117
      clear r117
      subst r117'
      have e117 : ac.tmps.getD 117 undef = _ := getD_of t117
      refine wpOp_want rfl (by rfl) (fun K' hK' => ?_)
      go_simp
      exact hK'.out _ _ ⟨_, rfl, rfl, Below.refl _ _⟩
    refine ⟨?_, ?_⟩
    · intro E ac wc st hdep
      have t4 : ac.tmps[4]? = some (.slice Xg (nl g) cg) := (st.old 4 (by kernel_rfl)).trans (by rfl)
      obtain ⟨v118, t118, r118⟩ := st.new 30 118 (by rfl) (dep_of hdep 30 (by rfl))
      have r118' : v118 = .bool true := r118
      clear r118
      subst r118'
      have e4 : ac.tmps.getD 4 undef = _ := getD_of t4
      have e118 : ac.tmps.getD 118 undef = _ := getD_of t118
      refine wpOp_want rfl (wanted_of (by rfl) (by rfl) t118) (fun K' hK' => ?_)
      go_simp
      exact hK'.out _ _ ⟨_, rfl, rfl, Below.refl _ _⟩
    refine ⟨?_, ?_⟩
    · intro E ac wc st hdep
      obtain ⟨v118, t118, r118⟩ := st.new 30 118 (by rfl) (dep_of hdep 30 (by rfl))
      have r118' : v118 = .bool true := r118
      clear r118
      subst r118'
      have e118 : ac.tmps.getD 118 undef = _ := getD_of t118
      refine wpOp_want rfl (wanted_of (by rfl) (by rfl) t118) (fun K' hK' => ?_)
      go_simp
      exact hK'.out _ _ ⟨_, rfl, ⟨_, _, rfl, by rw [Vn6.out]; exact nlit (l := [6]) _ _ _ (heap_alloc_new wc _) rfl (by decide) (by decide) (by decide), by rw [Vn6.out]; exact nl_lit (l := [6]) (by decide) (by decide)⟩, (Below.refl _ _).alloc (Nat.le_refl _) _⟩
    refine ⟨?_, ?_⟩
    · intro E ac wc st hdep
      obtain ⟨v119, t119, r119⟩ := st.new 31 119 (by rfl) (dep_of hdep 31 (by rfl))
      have r119' : v119 = .slice Xg (nl g) cg := r119
      clear r119
      subst r119'
      obtain ⟨v120, t120, r120⟩ := st.new 32 120 (by rfl) (dep_of hdep 32 (by rfl))
      obtain ⟨X120, c120, rfl, h120, n120⟩ := r120
      replace n120 := Lib.hid n120
      obtain ⟨v118, t118, r118⟩ := st.new 30 118 (by rfl) (dep_of hdep 30 (by rfl))
      have r118' : v118 = .bool true := r118
      clear r118
      subst r118'
      have e119 : ac.tmps.getD 119 undef = _ := getD_of t119
      have e120 : ac.tmps.getD 120 undef = _ := getD_of t120
      have e118 : ac.tmps.getD 118 undef = _ := getD_of t118
      refine wpOp_want rfl (wanted_of (by rfl) (by rfl) t118) (fun K' hK' => ?_)
      go_simp
      refine (Calls.mono (at_lenR n120.out (same1_t Xg cg g X120 c120 n6 wc (hg.below st.b) h120 (by rw [Xg6.out, ← Vn6.out]; have := Bn6; omega) (by have := Bn6; omega) (by rw [Xg6.out, Vn6.out]))) ?_)
      rintro e W ⟨rfl, kb⟩
      exact hK'.out _ _ ⟨_, rfl, rfl, kb⟩
    refine ⟨?_, ?_⟩
    · intro E ac wc st hdep
      obtain ⟨v118, t118, r118⟩ := st.new 30 118 (by rfl) (dep_of hdep 30 (by rfl))
      have r118' : v118 = .bool true := r118
      clear r118
      subst r118'
      obtain ⟨v121, t121, r121⟩ := st.new 33 121 (by rfl) (dep_of hdep 33 (by rfl))
      have r121' : v121 = .bool true := r121
      clear r121
      subst r121'
      have e118 : ac.tmps.getD 118 undef = _ := getD_of t118
      have e121 : ac.tmps.getD 121 undef = _ := getD_of t121
      refine wpOp_want rfl (by rfl) (fun K' hK' => ?_)
      go_simp
      exact hK'.out _ _ ⟨_, rfl, rfl, Below.refl _ _⟩
    refine ⟨?_, ?_⟩
    · intro E ac wc st hdep
      obtain ⟨v122, t122, r122⟩ := st.new 34 122 (by rfl) (dep_of hdep 34 (by rfl))
      have r122' : v122 = .bool true := r122
      clear r122
      subst r122'
      have e122 : ac.tmps.getD 122 undef = _ := getD_of t122
      refine wpOp_want rfl (by rfl) (fun K' hK' => ?_)
      go_simp
      exact hK'.out _ _ ⟨_, rfl, rfl, Below.refl _ _⟩
    refine ⟨?_, ?_⟩
    · intro E ac wc st hdep
      have t5 : ac.tmps[5]? = some (.pointer (some ⟨W4.heap.size, 0, none⟩)) := (st.old 5 (by kernel_rfl)).trans (by rfl)
      obtain ⟨v123, t123, r123⟩ := st.new 35 123 (by rfl) (dep_of hdep 35 (by rfl))
      have r123' : v123 = .bool true := r123
      clear r123
      subst r123'
      have qq0 := (Ru.below st.b).c (i := 0) rfl
      have qq1 := (Ru.below st.b).c (i := 1) rfl
      have e5 : ac.tmps.getD 5 undef = _ := getD_of t5
      have e123 : ac.tmps.getD 123 undef = _ := getD_of t123
      refine wpOp_want rfl (wanted_of (by rfl) (by rfl) t123) (fun K' hK' => ?_)
      go_simp
      exact hK'.out _ _ ⟨_, rfl, rfl, Below.refl _ _⟩
    refine ⟨?_, ?_⟩
    · intro E ac wc st hdep
      obtain ⟨v123, t123, r123⟩ := st.new 35 123 (by rfl) (dep_of hdep 35 (by rfl))
      have r123' : v123 = .bool true := r123
      clear r123
      subst r123'
      have e123 : ac.tmps.getD 123 undef = _ := getD_of t123
      refine wpOp_want rfl (wanted_of (by rfl) (by rfl) t123) (fun K' hK' => ?_)
      go_simp
      refine (Calls.mono (R := RetI wc (zm)) (CZzm.out wc) ?_)
      rintro e W ⟨X, c, rfl, hX, kb⟩
      exact hK'.out _ _ ⟨_, rfl, ⟨X, c, rfl, hX⟩, kb⟩
    refine ⟨?_, ?_⟩
    · intro E ac wc st hdep
      obtain ⟨v124, t124, r124⟩ := st.new 36 124 (by rfl) (dep_of hdep 36 (by rfl))
      have r124' : v124 = .agg #[.bool (sg u), .slice Xu (nl (mg u)) cu] := r124
      clear r124
      subst r124'
      obtain ⟨v125, t125, r125⟩ := st.new 37 125 (by rfl) (dep_of hdep 37 (by rfl))
      obtain ⟨X125, c125, rfl, h125⟩ := r125
      obtain ⟨v123, t123, r123⟩ := st.new 35 123 (by rfl) (dep_of hdep 35 (by rfl))
      have r123' : v123 = .bool true := r123
      clear r123
      subst r123'
      have e124 : ac.tmps.getD 124 undef = _ := getD_of t124
      have e125 : ac.tmps.getD 125 undef = _ := getD_of t125
      have e123 : ac.tmps.getD 123 undef = _ := getD_of t123
      refine wpOp_want rfl (wanted_of (by rfl) (by rfl) t123) (fun K' hK' => ?_)
      go_simp
      refine (Calls.mono (zsameT_c Xu cu u X125 c125 zm wc (hu.below st.b) h125 (by rw [Xu1.out, ← Vzm.out]; have := Bzm; omega) (by rw [Xu1.out, Vzm.out])) ?_)
      rintro e W ⟨rfl, kb⟩
      exact hK'.out _ _ ⟨_, rfl, rfl, kb⟩
    refine ⟨?_, ?_⟩
    · intro E ac wc st hdep
      obtain ⟨v123, t123, r123⟩ := st.new 35 123 (by rfl) (dep_of hdep 35 (by rfl))
      have r123' : v123 = .bool true := r123
      clear r123
      subst r123'
      obtain ⟨v126, t126, r126⟩ := st.new 38 126 (by rfl) (dep_of hdep 38 (by rfl))
      have r126' : v126 = .bool true := r126
      clear r126
      subst r126'
      have e123 : ac.tmps.getD 123 undef = _ := getD_of t123
      have e126 : ac.tmps.getD 126 undef = _ := getD_of t126
      refine wpOp_want rfl (by rfl) (fun K' hK' => ?_)
      go_simp
      exact hK'.out _ _ ⟨_, rfl, rfl, Below.refl _ _⟩
    refine ⟨?_, ?_⟩
    · intro E ac wc st hdep
      obtain ⟨v127, t127, r127⟩ := st.new 39 127 (by rfl) (dep_of hdep 39 (by rfl))
      have r127' : v127 = .bool true := r127
      clear r127
      subst r127'
      have e127 : ac.tmps.getD 127 undef = _ := getD_of t127
      refine wpOp_want rfl (by rfl) (fun K' hK' => ?_)
      go_simp
      exact hK'.out _ _ ⟨_, rfl, rfl, Below.refl _ _⟩
    refine ⟨?_, ?_⟩
    · intro E ac wc st hdep
      have t6 : ac.tmps[6]? = some (.pointer (some ⟨(W4.heap.size + 1), 0, none⟩)) := (st.old 6 (by kernel_rfl)).trans (by rfl)
      obtain ⟨v128, t128, r128⟩ := st.new 40 128 (by rfl) (dep_of hdep 40 (by rfl))
      have r128' : v128 = .bool true := r128
      clear r128
      subst r128'
      have qq0 := (Rv.below st.b).c (i := 0) rfl
      have qq1 := (Rv.below st.b).c (i := 1) rfl
      have e6 : ac.tmps.getD 6 undef = _ := getD_of t6
      have e128 : ac.tmps.getD 128 undef = _ := getD_of t128
      refine wpOp_want rfl (wanted_of (by rfl) (by rfl) t128) (fun K' hK' => ?_)
      go_simp
      exact hK'.out _ _ ⟨_, rfl, rfl, Below.refl _ _⟩
    refine ⟨?_, ?_⟩
    · intro E ac wc st hdep
      obtain ⟨v128, t128, r128⟩ := st.new 40 128 (by rfl) (dep_of hdep 40 (by rfl))
      have r128' : v128 = .bool true := r128
      clear r128
      subst r128'
      have e128 : ac.tmps.getD 128 undef = _ := getD_of t128
      refine wpOp_want rfl (wanted_of (by rfl) (by rfl) t128) (fun K' hK' => ?_)
      go_simp
      refine (Calls.mono (R := RetI wc (z1)) (CZz1.out wc) ?_)
      rintro e W ⟨X, c, rfl, hX, kb⟩
      exact hK'.out _ _ ⟨_, rfl, ⟨X, c, rfl, hX⟩, kb⟩
    refine ⟨?_, ?_⟩
    · intro E ac wc st hdep
      obtain ⟨v129, t129, r129⟩ := st.new 41 129 (by rfl) (dep_of hdep 41 (by rfl))
      have r129' : v129 = .agg #[.bool (sg v), .slice Xv (nl (mg v)) cv] := r129
      clear r129
      subst r129'
      obtain ⟨v130, t130, r130⟩ := st.new 42 130 (by rfl) (dep_of hdep 42 (by rfl))
      obtain ⟨X130, c130, rfl, h130⟩ := r130
      obtain ⟨v128, t128, r128⟩ := st.new 40 128 (by rfl) (dep_of hdep 40 (by rfl))
      have r128' : v128 = .bool true := r128
      clear r128
      subst r128'
      have e129 : ac.tmps.getD 129 undef = _ := getD_of t129
      have e130 : ac.tmps.getD 130 undef = _ := getD_of t130
      have e128 : ac.tmps.getD 128 undef = _ := getD_of t128
      refine wpOp_want rfl (wanted_of (by rfl) (by rfl) t128) (fun K' hK' => ?_)
      go_simp
      refine (Calls.mono (zsameT_c Xv cv v X130 c130 z1 wc (hv.below st.b) h130 (by rw [Xv1.out, ← Vz1.out]; have := Bz1; omega) (by rw [Xv1.out, Vz1.out])) ?_)
      rintro e W ⟨rfl, kb⟩
      exact hK'.out _ _ ⟨_, rfl, rfl, kb⟩
    refine ⟨?_, ?_⟩
    · intro E ac wc st hdep
      obtain ⟨v128, t128, r128⟩ := st.new 40 128 (by rfl) (dep_of hdep 40 (by rfl))
      have r128' : v128 = .bool true := r128
      clear r128
      subst r128'
      obtain ⟨v131, t131, r131⟩ := st.new 43 131 (by rfl) (dep_of hdep 43 (by rfl))
      have r131' : v131 = .bool true := r131
      clear r131
      subst r131'
      have e128 : ac.tmps.getD 128 undef = _ := getD_of t128
      have e131 : ac.tmps.getD 131 undef = _ := getD_of t131
      refine wpOp_want rfl (by rfl) (fun K' hK' => ?_)
      go_simp
      exact hK'.out _ _ ⟨_, rfl, rfl, Below.refl _ _⟩
    refine ⟨?_, ?_⟩
    · intro E ac wc st hdep
      obtain ⟨v132, t132, r132⟩ := st.new 44 132 (by rfl) (dep_of hdep 44 (by rfl))
      have r132' : v132 = .bool true := r132
      clear r132
      subst r132'
      have e132 : ac.tmps.getD 132 undef = _ := getD_of t132
      refine wpOp_want rfl (by rfl) (fun K' hK' => ?_)
      go_simp
      exact hK'.out _ _ ⟨_, rfl, rfl, Below.refl _ _⟩
    refine ⟨?_, ?_⟩
    · intro E ac wc st hdep
      have t7 : ac.tmps[7]? = some (.slice Xh' (nl h') ch') := (st.old 7 (by kernel_rfl)).trans (by rfl)
      obtain ⟨v133, t133, r133⟩ := st.new 45 133 (by rfl) (dep_of hdep 45 (by rfl))
      have r133' : v133 = .bool true := r133
      clear r133
      subst r133'
      have e7 : ac.tmps.getD 7 undef = _ := getD_of t7
      have e133 : ac.tmps.getD 133 undef = _ := getD_of t133
      refine wpOp_want rfl (wanted_of (by rfl) (by rfl) t133) (fun K' hK' => ?_)
      go_simp
      exact hK'.out _ _ ⟨_, rfl, rfl, Below.refl _ _⟩
    refine ⟨?_, ?_⟩
    · intro E ac wc st hdep
      have t1 : ac.tmps[1]? = some (.slice (some ⟨w.heap.size, 0, none⟩) 1 1) := (st.old 1 (by kernel_rfl)).trans (by rfl)
      obtain ⟨v133, t133, r133⟩ := st.new 45 133 (by rfl) (dep_of hdep 45 (by rfl))
      have r133' : v133 = .bool true := r133
      clear r133
      subst r133'
      have e1 : ac.tmps.getD 1 undef = _ := getD_of t1
      have e133 : ac.tmps.getD 133 undef = _ := getD_of t133
      refine wpOp_want rfl (wanted_of (by rfl) (by rfl) t133) (fun K' hK' => ?_)
      go_simp
      exact hK'.out _ _ ⟨_, rfl, rfl, Below.refl _ _⟩
    refine ⟨?_, ?_⟩
    · intro E ac wc st hdep
      obtain ⟨v134, t134, r134⟩ := st.new 46 134 (by rfl) (dep_of hdep 46 (by rfl))
      have r134' : v134 = .slice Xh' (nl h') ch' := r134
      clear r134
      subst r134'
      obtain ⟨v135, t135, r135⟩ := st.new 47 135 (by rfl) (dep_of hdep 47 (by rfl))
      have r135' : v135 = .slice (some ⟨w.heap.size, 0, none⟩) 1 1 := r135
      clear r135
      subst r135'
      obtain ⟨v133, t133, r133⟩ := st.new 45 133 (by rfl) (dep_of hdep 45 (by rfl))
      have r133' : v133 = .bool true := r133
      clear r133
      subst r133'
      have e134 : ac.tmps.getD 134 undef = _ := getD_of t134
      have e135 : ac.tmps.getD 135 undef = _ := getD_of t135
      have e133 : ac.tmps.getD 133 undef = _ := getD_of t133
      refine wpOp_want rfl (wanted_of (by rfl) (by rfl) t133) (fun K' hK' => ?_)
      go_simp
      refine (Calls.mono (at_lenR Na.out (same1_t Xh' ch' h' _ _ a wc (hh'.below st.b) (ha.below st.b) (by rw [Xh12.out]; have := Ba; omega) (by have := Ba; omega) (by exact Xh12.out))) ?_)
      rintro e W ⟨rfl, kb⟩
      exact hK'.out _ _ ⟨_, rfl, rfl, kb⟩
    refine ⟨?_, ?_⟩
    · intro E ac wc st hdep
      obtain ⟨v133, t133, r133⟩ := st.new 45 133 (by rfl) (dep_of hdep 45 (by rfl))
      have r133' : v133 = .bool true := r133
      clear r133
      subst r133'
      obtain ⟨v136, t136, r136⟩ := st.new 48 136 (by rfl) (dep_of hdep 48 (by rfl))
      have r136' : v136 = .bool true := r136
      clear r136
      subst r136'
      have e133 : ac.tmps.getD 133 undef = _ := getD_of t133
      have e136 : ac.tmps.getD 136 undef = _ := getD_of t136
      refine wpOp_want rfl (by rfl) (fun K' hK' => ?_)
      go_simp
      exact hK'.out _ _ ⟨_, rfl, rfl, Below.refl _ _⟩
    refine ⟨?_, ?_⟩
    · intro E ac wc st hdep
      obtain ⟨v137, t137, r137⟩ := st.new 49 137 (by rfl) (dep_of hdep 49 (by rfl))
      have r137' : v137 = .bool true := r137
      clear r137
      subst r137'
      have e137 : ac.tmps.getD 137 undef = _ := getD_of t137
      refine wpOp_want rfl (by rfl) (fun K' hK' => ?_)
      go_simp
      exact hK'.out _ _ ⟨_, rfl, rfl, Below.refl _ _⟩
    refine ⟨?_, ?_⟩
    · intro E ac wc st hdep
      have t8 : ac.tmps[8]? = some (.pointer (some ⟨W6.heap.size, 0, none⟩)) := (st.old 8 (by kernel_rfl)).trans (by rfl)
      obtain ⟨v138, t138, r138⟩ := st.new 50 138 (by rfl) (dep_of hdep 50 (by rfl))
      have r138' : v138 = .bool true := r138
      clear r138
      subst r138'
      have qq0 := (Rp'.below st.b).c (i := 0) rfl
      have qq1 := (Rp'.below st.b).c (i := 1) rfl
      have e8 : ac.tmps.getD 8 undef = _ := getD_of t8
      have e138 : ac.tmps.getD 138 undef = _ := getD_of t138
      refine wpOp_want rfl (wanted_of (by rfl) (by rfl) t138) (fun K' hK' => ?_)
      go_simp
      exact hK'.out _ _ ⟨_, rfl, rfl, Below.refl _ _⟩
    refine ⟨?_, ?_⟩
    · intro E ac wc st hdep
      obtain ⟨v138, t138, r138⟩ := st.new 50 138 (by rfl) (dep_of hdep 50 (by rfl))
      have r138' : v138 = .bool true := r138
      clear r138
      subst r138'
      have e138 : ac.tmps.getD 138 undef = _ := getD_of t138
      refine wpOp_want rfl (wanted_of (by rfl) (by rfl) t138) (fun K' hK' => ?_)
      go_simp
      refine (Calls.mono (R := RetI wc (z1)) (CZz1.out wc) ?_)
      rintro e W ⟨X, c, rfl, hX, kb⟩
      exact hK'.out _ _ ⟨_, rfl, ⟨X, c, rfl, hX⟩, kb⟩
    refine ⟨?_, ?_⟩
    · intro E ac wc st hdep
      obtain ⟨v139, t139, r139⟩ := st.new 51 139 (by rfl) (dep_of hdep 51 (by rfl))
      have r139' : v139 = .agg #[.bool (sg p'), .slice Xp' (nl (mg p')) cp'] := r139
      clear r139
      subst r139'
      obtain ⟨v140, t140, r140⟩ := st.new 52 140 (by rfl) (dep_of hdep 52 (by rfl))
      obtain ⟨X140, c140, rfl, h140⟩ := r140
      obtain ⟨v138, t138, r138⟩ := st.new 50 138 (by rfl) (dep_of hdep 50 (by rfl))
      have r138' : v138 = .bool true := r138
      clear r138
      subst r138'
      have e139 : ac.tmps.getD 139 undef = _ := getD_of t139
      have e140 : ac.tmps.getD 140 undef = _ := getD_of t140
      have e138 : ac.tmps.getD 138 undef = _ := getD_of t138
      refine wpOp_want rfl (wanted_of (by rfl) (by rfl) t138) (fun K' hK' => ?_)
      go_simp
      refine (Calls.mono (zsameT_c Xp' cp' p' X140 c140 z1 wc (hp'.below st.b) h140 (by rw [Xp1.out, ← Vz1.out]; have := Bz1; omega) (by rw [Xp1.out, Vz1.out])) ?_)
      rintro e W ⟨rfl, kb⟩
      exact hK'.out _ _ ⟨_, rfl, rfl, kb⟩
    refine ⟨?_, ?_⟩
    · intro E ac wc st hdep
      obtain ⟨v138, t138, r138⟩ := st.new 50 138 (by rfl) (dep_of hdep 50 (by rfl))
      have r138' : v138 = .bool true := r138
      clear r138
      subst r138'
      obtain ⟨v141, t141, r141⟩ := st.new 53 141 (by rfl) (dep_of hdep 53 (by rfl))
      have r141' : v141 = .bool true := r141
      clear r141
      subst r141'
      have e138 : ac.tmps.getD 138 undef = _ := getD_of t138
      have e141 : ac.tmps.getD 141 undef = _ := getD_of t141
      refine wpOp_want rfl (by rfl) (fun K' hK' => ?_)
      go_simp
      exact hK'.out _ _ ⟨_, rfl, rfl, Below.refl _ _⟩
    refine ⟨?_, ?_⟩
    · intro E ac wc st hdep
      obtain ⟨v142, t142, r142⟩ := st.new 54 142 (by rfl) (dep_of hdep 54 (by rfl))
      have r142' : v142 = .bool true := r142
      clear r142
      subst r142'
      have e142 : ac.tmps.getD 142 undef = _ := getD_of t142
      refine wpOp_want rfl (by rfl) (fun K' hK' => ?_)
      go_simp
      exact hK'.out _ _ ⟨_, rfl, rfl, Below.refl _ _⟩
    refine ⟨?_, ?_⟩
    · intro E ac wc st hdep
      have t9 : ac.tmps[9]? = some (.pointer (some ⟨(W6.heap.size + 1), 0, none⟩)) := (st.old 9 (by kernel_rfl)).trans (by rfl)
      obtain ⟨v143, t143, r143⟩ := st.new 55 143 (by rfl) (dep_of hdep 55 (by rfl))
      have r143' : v143 = .bool true := r143
      clear r143
      subst r143'
      have qq0 := (Rq'.below st.b).c (i := 0) rfl
      have qq1 := (Rq'.below st.b).c (i := 1) rfl
      have e9 : ac.tmps.getD 9 undef = _ := getD_of t9
      have e143 : ac.tmps.getD 143 undef = _ := getD_of t143
      refine wpOp_want rfl (wanted_of (by rfl) (by rfl) t143) (fun K' hK' => ?_)
      go_simp
      exact hK'.out _ _ ⟨_, rfl, rfl, Below.refl _ _⟩
    refine ⟨?_, ?_⟩
    · intro E ac wc st hdep
      obtain ⟨v143, t143, r143⟩ := st.new 55 143 (by rfl) (dep_of hdep 55 (by rfl))
      have r143' : v143 = .bool true := r143
      clear r143
      subst r143'
      have e143 : ac.tmps.getD 143 undef = _ := getD_of t143
      refine wpOp_want rfl (wanted_of (by rfl) (by rfl) t143) (fun K' hK' => ?_)
      go_simp
      refine (Calls.mono (R := RetI wc (z0)) (CZz0.out wc) ?_)
      rintro e W ⟨X, c, rfl, hX, kb⟩
      exact hK'.out _ _ ⟨_, rfl, ⟨X, c, rfl, hX⟩, kb⟩
    refine ⟨?_, ?_⟩
    · intro E ac wc st hdep
      obtain ⟨v144, t144, r144⟩ := st.new 56 144 (by rfl) (dep_of hdep 56 (by rfl))
      have r144' : v144 = .agg #[.bool (sg q'), .slice Xq' (nl (mg q')) cq'] := r144
      clear r144
      subst r144'
      obtain ⟨v145, t145, r145⟩ := st.new 57 145 (by rfl) (dep_of hdep 57 (by rfl))
      obtain ⟨X145, c145, rfl, h145⟩ := r145
      obtain ⟨v143, t143, r143⟩ := st.new 55 143 (by rfl) (dep_of hdep 55 (by rfl))
      have r143' : v143 = .bool true := r143
      clear r143
      subst r143'
      have e144 : ac.tmps.getD 144 undef = _ := getD_of t144
      have e145 : ac.tmps.getD 145 undef = _ := getD_of t145
      have e143 : ac.tmps.getD 143 undef = _ := getD_of t143
      refine wpOp_want rfl (wanted_of (by rfl) (by rfl) t143) (fun K' hK' => ?_)
      go_simp
      refine (Calls.mono (zsameT_c Xq' cq' q' X145 c145 z0 wc (hq'.below st.b) h145 (by rw [Xq0.out, ← Vz0.out]; have := Bz0; omega) (by rw [Xq0.out, Vz0.out])) ?_)
      rintro e W ⟨rfl, kb⟩
      exact hK'.out _ _ ⟨_, rfl, rfl, kb⟩
    refine ⟨?_, ?_⟩
    · intro E ac wc st hdep
      obtain ⟨v143, t143, r143⟩ := st.new 55 143 (by rfl) (dep_of hdep 55 (by rfl))
      have r143' : v143 = .bool true := r143
      clear r143
      subst r143'
      obtain ⟨v146, t146, r146⟩ := st.new 58 146 (by rfl) (dep_of hdep 58 (by rfl))
      have r146' : v146 = .bool true := r146
      clear r146
      subst r146'
      have e143 : ac.tmps.getD 143 undef = _ := getD_of t143
      have e146 : ac.tmps.getD 146 undef = _ := getD_of t146
      refine wpOp_want rfl (by rfl) (fun K' hK' => ?_)
      go_simp
      exact hK'.out _ _ ⟨_, rfl, rfl, Below.refl _ _⟩
    refine ⟨?_, ?_⟩
    · intro E ac wc st hdep
      obtain ⟨v147, t147, r147⟩ := st.new 59 147 (by rfl) (dep_of hdep 59 (by rfl))
      have r147' : v147 = .bool true := r147
      clear r147
      subst r147'
      have e147 : ac.tmps.getD 147 undef = _ := getD_of t147
      refine wpOp_want rfl (by rfl) (fun K' hK' => ?_)
      go_simp
      exact hK'.out _ _ ⟨_, rfl, rfl, Below.refl _ _⟩
    refine ⟨?_, ?_⟩
    · intro E ac wc st hdep
      have t10 : ac.tmps[10]? = some (.slice (some qd) 3 cqs) := (st.old 10 (by kernel_rfl)).trans (by rfl)
      obtain ⟨v148, t148, r148⟩ := st.new 60 148 (by rfl) (dep_of hdep 60 (by rfl))
      have r148' : v148 = .bool true := r148
      clear r148
      subst r148'
      have e10 : ac.tmps.getD 10 undef = _ := getD_of t10
      have e148 : ac.tmps.getD 148 undef = _ := getD_of t148
      refine wpOp_want rfl (wanted_of (by rfl) (by rfl) t148) (fun K' hK' => ?_)
      go_simp
      exact hK'.out _ _ ⟨_, rfl, rfl, Below.refl _ _⟩
    refine ⟨?_, ?_⟩
    · intro E ac wc st hdep
      obtain ⟨v149, t149, r149⟩ := st.new 61 149 (by rfl) (dep_of hdep 61 (by rfl))
      have r149' : v149 = .slice (some qd) 3 cqs := r149
      clear r149
      subst r149'
      obtain ⟨v148, t148, r148⟩ := st.new 60 148 (by rfl) (dep_of hdep 60 (by rfl))
      have r148' : v148 = .bool true := r148
      clear r148
      subst r148'
      have e149 : ac.tmps.getD 149 undef = _ := getD_of t149
      have e148 : ac.tmps.getD 148 undef = _ := getD_of t148
      refine wpOp_want rfl (wanted_of (by rfl) (by rfl) t148) (fun K' hK' => ?_)
      go_simp
      exact hK'.out _ _ ⟨_, rfl, rfl, Below.refl _ _⟩
    refine ⟨?_, ?_⟩
    · intro E ac wc st hdep
      obtain ⟨v150, t150, r150⟩ := st.new 62 150 (by rfl) (dep_of hdep 62 (by rfl))
      have r150' : v150 = .pointer (some qd) := r150
      clear r150
      subst r150'
      obtain ⟨v148, t148, r148⟩ := st.new 60 148 (by rfl) (dep_of hdep 60 (by rfl))
      have r148' : v148 = .bool true := r148
      clear r148
      subst r148'
      have qq := cbl st.b qc0'
      have e150 : ac.tmps.getD 150 undef = _ := getD_of t150
      have e148 : ac.tmps.getD 148 undef = _ := getD_of t148
      refine wpOp_want rfl (wanted_of (by rfl) (by rfl) t148) (fun K' hK' => ?_)
      go_simp
      exact hK'.out _ _ ⟨_, rfl, rfl, Below.refl _ _⟩
    refine ⟨?_, ?_⟩
    · intro E ac wc st hdep
      obtain ⟨v151, t151, r151⟩ := st.new 63 151 (by rfl) (dep_of hdep 63 (by rfl))
      have r151' : v151 = .slice Y0 (nl k0) d0 := r151
      clear r151
      subst r151'
      obtain ⟨v148, t148, r148⟩ := st.new 60 148 (by rfl) (dep_of hdep 60 (by rfl))
      have r148' : v148 = .bool true := r148
      clear r148
      subst r148'
      have zz := K00.out
      have e151 : ac.tmps.getD 151 undef = _ := getD_of t151
      have e148 : ac.tmps.getD 148 undef = _ := getD_of t148
      refine wpOp_want rfl (wanted_of (by rfl) (by rfl) t148) (fun K' hK' => ?_)
      go_simp
      exact hK'.out _ _ ⟨_, rfl, rfl, Below.refl _ _⟩
    refine ⟨?_, ?_⟩
    · intro E ac wc st hdep
      obtain ⟨v152, t152, r152⟩ := st.new 64 152 (by rfl) (dep_of hdep 64 (by rfl))
      have r152' : v152 = .int .i64 0 := r152
      clear r152
      subst r152'
      obtain ⟨v148, t148, r148⟩ := st.new 60 148 (by rfl) (dep_of hdep 60 (by rfl))
      have r148' : v148 = .bool true := r148
      clear r148
      subst r148'
      have e152 : ac.tmps.getD 152 undef = _ := getD_of t152
      have e148 : ac.tmps.getD 148 undef = _ := getD_of t148
      refine wpOp_want rfl (wanted_of (by rfl) (by rfl) t148) (fun K' hK' => ?_)
      go_simp
      exact hK'.out _ _ ⟨_, rfl, rfl, Below.refl _ _⟩
    refine ⟨?_, ?_⟩
    · intro E ac wc st hdep
      obtain ⟨v148, t148, r148⟩ := st.new 60 148 (by rfl) (dep_of hdep 60 (by rfl))
      have r148' : v148 = .bool true := r148
      clear r148
      subst r148'
      obtain ⟨v153, t153, r153⟩ := st.new 65 153 (by rfl) (dep_of hdep 65 (by rfl))
      have r153' : v153 = .bool true := r153
      clear r153
      subst r153'
      have e148 : ac.tmps.getD 148 undef = _ := getD_of t148
      have e153 : ac.tmps.getD 153 undef = _ := getD_of t153
      refine wpOp_want rfl (by rfl) (fun K' hK' => ?_)
      go_simp
      exact hK'.out _ _ ⟨_, rfl, rfl, Below.refl _ _⟩
    refine ⟨?_, ?_⟩
    · intro E ac wc st hdep
      obtain ⟨v154, t154, r154⟩ := st.new 66 154 (by rfl) (dep_of hdep 66 (by rfl))
      have r154' : v154 = .bool true := r154
      clear r154
      subst r154'
      have e154 : ac.tmps.getD 154 undef = _ := getD_of t154
      refine wpOp_want rfl (by rfl) (fun K' hK' => ?_)
      go_simp
      exact hK'.out _ _ ⟨_, rfl, rfl, Below.refl _ _⟩
    refine ⟨?_, ?_⟩
    · intro E ac wc st hdep
      have t10 : ac.tmps[10]? = some (.slice (some qd) 3 cqs) := (st.old 10 (by kernel_rfl)).trans (by rfl)
      obtain ⟨v155, t155, r155⟩ := st.new 67 155 (by rfl) (dep_of hdep 67 (by rfl))
      have r155' : v155 = .bool true := r155
      clear r155
      subst r155'
      have e10 : ac.tmps.getD 10 undef = _ := getD_of t10
      have e155 : ac.tmps.getD 155 undef = _ := getD_of t155
      refine wpOp_want rfl (wanted_of (by rfl) (by rfl) t155) (fun K' hK' => ?_)
      go_simp
      exact hK'.out _ _ ⟨_, rfl, rfl, Below.refl _ _⟩
    refine ⟨?_, ?_⟩
    · intro E ac wc st hdep
      obtain ⟨v156, t156, r156⟩ := st.new 68 156 (by rfl) (dep_of hdep 68 (by rfl))
      have r156' : v156 = .slice (some qd) 3 cqs := r156
      clear r156
      subst r156'
      obtain ⟨v155, t155, r155⟩ := st.new 67 155 (by rfl) (dep_of hdep 67 (by rfl))
      have r155' : v155 = .bool true := r155
      clear r155
      subst r155'
      have e156 : ac.tmps.getD 156 undef = _ := getD_of t156
      have e155 : ac.tmps.getD 155 undef = _ := getD_of t155
      refine wpOp_want rfl (wanted_of (by rfl) (by rfl) t155) (fun K' hK' => ?_)
      go_simp
      exact hK'.out _ _ ⟨_, rfl, rfl, Below.refl _ _⟩
    refine ⟨?_, ?_⟩
    · intro E ac wc st hdep
      obtain ⟨v157, t157, r157⟩ := st.new 69 157 (by rfl) (dep_of hdep 69 (by rfl))
      have r157' : v157 = .pointer (some ⟨qd.block, qd.off + 1, none⟩) := r157
      clear r157
      subst r157'
      obtain ⟨v155, t155, r155⟩ := st.new 67 155 (by rfl) (dep_of hdep 67 (by rfl))
      have r155' : v155 = .bool true := r155
      clear r155
      subst r155'
      have qq := cbl st.b qc1'
      have e157 : ac.tmps.getD 157 undef = _ := getD_of t157
      have e155 : ac.tmps.getD 155 undef = _ := getD_of t155
      refine wpOp_want rfl (wanted_of (by rfl) (by rfl) t155) (fun K' hK' => ?_)
      go_simp
      exact hK'.out _ _ ⟨_, rfl, rfl, Below.refl _ _⟩
    refine ⟨?_, ?_⟩
    · intro E ac wc st hdep
      have t3 : ac.tmps[3]? = some (.slice (some ⟨w.heap.size + 1 + 1, 0, none⟩) 1 1) := (st.old 3 (by kernel_rfl)).trans (by rfl)
      obtain ⟨v155, t155, r155⟩ := st.new 67 155 (by rfl) (dep_of hdep 67 (by rfl))
      have r155' : v155 = .bool true := r155
      clear r155
      subst r155'
      have e3 : ac.tmps.getD 3 undef = _ := getD_of t3
      have e155 : ac.tmps.getD 155 undef = _ := getD_of t155
      refine wpOp_want rfl (wanted_of (by rfl) (by rfl) t155) (fun K' hK' => ?_)
      go_simp
      exact hK'.out _ _ ⟨_, rfl, rfl, Below.refl _ _⟩
    refine ⟨?_, ?_⟩
    · intro E ac wc st hdep
      obtain ⟨v158, t158, r158⟩ := st.new 70 158 (by rfl) (dep_of hdep 70 (by rfl))
      have r158' : v158 = .slice Y1 (nl k1) d1 := r158
      clear r158
      subst r158'
      obtain ⟨v159, t159, r159⟩ := st.new 71 159 (by rfl) (dep_of hdep 71 (by rfl))
      have r159' : v159 = .slice (some ⟨w.heap.size + 1 + 1, 0, none⟩) 1 1 := r159
      clear r159
      subst r159'
      obtain ⟨v155, t155, r155⟩ := st.new 67 155 (by rfl) (dep_of hdep 67 (by rfl))
      have r155' : v155 = .bool true := r155
      clear r155
      subst r155'
      have e158 : ac.tmps.getD 158 undef = _ := getD_of t158
      have e159 : ac.tmps.getD 159 undef = _ := getD_of t159
      have e155 : ac.tmps.getD 155 undef = _ := getD_of t155
      refine wpOp_want rfl (wanted_of (by rfl) (by rfl) t155) (fun K' hK' => ?_)
      go_simp
      refine (Calls.mono (at_lenR No.out (same1_t Y1 d1 k1 _ _ o wc (qn1.below st.b) (ho.below st.b) (by rw [Vk1.out]; exact (Nat.le_trans (nl_limb (by decide)) (by decide))) (by have := Bo; omega) (by rw [Vk1.out, Vo.out]))) ?_)
      rintro e W ⟨rfl, kb⟩
      exact hK'.out _ _ ⟨_, rfl, rfl, kb⟩
    refine ⟨?_, ?_⟩
    · intro E ac wc st hdep
      obtain ⟨v155, t155, r155⟩ := st.new 67 155 (by rfl) (dep_of hdep 67 (by rfl))
      have r155' : v155 = .bool true := r155
      clear r155
      subst r155'
      obtain ⟨v160, t160, r160⟩ := st.new 72 160 (by rfl) (dep_of hdep 72 (by rfl))
      have r160' : v160 = .bool true := r160
      clear r160
      subst r160'
      have e155 : ac.tmps.getD 155 undef = _ := getD_of t155
      have e160 : ac.tmps.getD 160 undef = _ := getD_of t160
      refine wpOp_want rfl (by rfl) (fun K' hK' => ?_)
      go_simp
      exact hK'.out _ _ ⟨_, rfl, rfl, Below.refl _ _⟩
    refine ⟨?_, ?_⟩
    · intro E ac wc st hdep
      obtain ⟨v161, t161, r161⟩ := st.new 73 161 (by rfl) (dep_of hdep 73 (by rfl))
      have r161' : v161 = .bool true := r161
      clear r161
      subst r161'
      have e161 : ac.tmps.getD 161 undef = _ := getD_of t161
      refine wpOp_want rfl (by rfl) (fun K' hK' => ?_)
      go_simp
      exact hK'.out _ _ ⟨_, rfl, rfl, Below.refl _ _⟩
    refine ⟨?_, ?_⟩
    · intro E ac wc st hdep
      have t10 : ac.tmps[10]? = some (.slice (some qd) 3 cqs) := (st.old 10 (by kernel_rfl)).trans (by rfl)
      obtain ⟨v162, t162, r162⟩ := st.new 74 162 (by rfl) (dep_of hdep 74 (by rfl))
      have r162' : v162 = .bool true := r162
      clear r162
      subst r162'
      have e10 : ac.tmps.getD 10 undef = _ := getD_of t10
      have e162 : ac.tmps.getD 162 undef = _ := getD_of t162
      refine wpOp_want rfl (wanted_of (by rfl) (by rfl) t162) (fun K' hK' => ?_)
      go_simp
      exact hK'.out _ _ ⟨_, rfl, rfl, Below.refl _ _⟩
    refine ⟨?_, ?_⟩
    · intro E ac wc st hdep
      obtain ⟨v163, t163, r163⟩ := st.new 75 163 (by rfl) (dep_of hdep 75 (by rfl))
      have r163' : v163 = .slice (some qd) 3 cqs := r163
      clear r163
      subst r163'
      obtain ⟨v162, t162, r162⟩ := st.new 74 162 (by rfl) (dep_of hdep 74 (by rfl))
      have r162' : v162 = .bool true := r162
      clear r162
      subst r162'
      have e163 : ac.tmps.getD 163 undef = _ := getD_of t163
      have e162 : ac.tmps.getD 162 undef = _ := getD_of t162
      refine wpOp_want rfl (wanted_of (by rfl) (by rfl) t162) (fun K' hK' => ?_)
      go_simp
      exact hK'.out _ _ ⟨_, rfl, rfl, Below.refl _ _⟩
    refine ⟨?_, ?_⟩
    · intro E ac wc st hdep
      obtain ⟨v164, t164, r164⟩ := st.new 76 164 (by rfl) (dep_of hdep 76 (by rfl))
      have r164' : v164 = .pointer (some ⟨qd.block, qd.off + 2, none⟩) := r164
      clear r164
      subst r164'
      obtain ⟨v162, t162, r162⟩ := st.new 74 162 (by rfl) (dep_of hdep 74 (by rfl))
      have r162' : v162 = .bool true := r162
      clear r162
      subst r162'
      have qq := cbl st.b qc2'
      have e164 : ac.tmps.getD 164 undef = _ := getD_of t164
      have e162 : ac.tmps.getD 162 undef = _ := getD_of t162
      refine wpOp_want rfl (wanted_of (by rfl) (by rfl) t162) (fun K' hK' => ?_)
      go_simp
      exact hK'.out _ _ ⟨_, rfl, rfl, Below.refl _ _⟩
    refine ⟨?_, ?_⟩
    · intro E ac wc st hdep
      obtain ⟨v162, t162, r162⟩ := st.new 74 162 (by rfl) (dep_of hdep 74 (by rfl))
      have r162' : v162 = .bool true := r162
      clear r162
      subst r162'
      have e162 : ac.tmps.getD 162 undef = _ := getD_of t162
      refine wpOp_want rfl (wanted_of (by rfl) (by rfl) t162) (fun K' hK' => ?_)
      go_simp
      exact hK'.out _ _ ⟨_, rfl, ⟨_, _, rfl, by rw [Vn2.out]; exact nlit (l := [2]) _ _ _ (heap_alloc_new wc _) rfl (by decide) (by decide) (by decide), by rw [Vn2.out]; exact nl_lit (l := [2]) (by decide) (by decide)⟩, (Below.refl _ _).alloc (Nat.le_refl _) _⟩
    refine ⟨?_, ?_⟩
    · intro E ac wc st hdep
      obtain ⟨v165, t165, r165⟩ := st.new 77 165 (by rfl) (dep_of hdep 77 (by rfl))
      have r165' : v165 = .slice Y2 (nl k2) d2 := r165
      clear r165
      subst r165'
      obtain ⟨v166, t166, r166⟩ := st.new 78 166 (by rfl) (dep_of hdep 78 (by rfl))
      obtain ⟨X166, c166, rfl, h166, n166⟩ := r166
      replace n166 := Lib.hid n166
      obtain ⟨v162, t162, r162⟩ := st.new 74 162 (by rfl) (dep_of hdep 74 (by rfl))
      have r162' : v162 = .bool true := r162
      clear r162
      subst r162'
      have e165 : ac.tmps.getD 165 undef = _ := getD_of t165
      have e166 : ac.tmps.getD 166 undef = _ := getD_of t166
      have e162 : ac.tmps.getD 162 undef = _ := getD_of t162
      refine wpOp_want rfl (wanted_of (by rfl) (by rfl) t162) (fun K' hK' => ?_)
      go_simp
      refine (Calls.mono (at_lenR n166.out (same1_t Y2 d2 k2 X166 c166 n2 wc (qn2.below st.b) h166 (by rw [Vk2.out]; exact (Nat.le_trans (nl_limb (by decide)) (by decide))) (by have := Bn2; omega) (by rw [Vk2.out, Vn2.out]))) ?_)
      rintro e W ⟨rfl, kb⟩
      exact hK'.out _ _ ⟨_, rfl, rfl, kb⟩
    refine ⟨?_, ?_⟩
    · intro E ac wc st hdep
      obtain ⟨v162, t162, r162⟩ := st.new 74 162 (by rfl) (dep_of hdep 74 (by rfl))
      have r162' : v162 = .bool true := r162
      clear r162
      subst r162'
      obtain ⟨v167, t167, r167⟩ := st.new 79 167 (by rfl) (dep_of hdep 79 (by rfl))
      have r167' : v167 = .bool true := r167
      clear r167
      subst r167'
      have e162 : ac.tmps.getD 162 undef = _ := getD_of t162
      have e167 : ac.tmps.getD 167 undef = _ := getD_of t167
      refine wpOp_want rfl (by rfl) (fun K' hK' => ?_)
      go_simp
      exact hK'.out _ _ ⟨_, rfl, rfl, Below.refl _ _⟩
    refine ⟨?_, ?_⟩
    · intro E ac wc st hdep
      obtain ⟨v168, t168, r168⟩ := st.new 80 168 (by rfl) (dep_of hdep 80 (by rfl))
      have r168' : v168 = .bool true := r168
      clear r168
      subst r168'
      have e168 : ac.tmps.getD 168 undef = _ := getD_of t168
      refine wpOp_want rfl (by rfl) (fun K' hK' => ?_)
      go_simp
      exact hK'.out _ _ ⟨_, rfl, rfl, Below.refl _ _⟩
    refine ⟨?_, ?_⟩
    · intro E ac wc st hdep
      have t1 : ac.tmps[1]? = some (.slice (some ⟨w.heap.size, 0, none⟩) 1 1) := (st.old 1 (by kernel_rfl)).trans (by rfl)
      obtain ⟨v169, t169, r169⟩ := st.new 81 169 (by rfl) (dep_of hdep 81 (by rfl))
      have r169' : v169 = .bool true := r169
      clear r169
      subst r169'
      have e1 : ac.tmps.getD 1 undef = _ := getD_of t1
      have e169 : ac.tmps.getD 169 undef = _ := getD_of t169
      refine wpOp_want rfl (wanted_of (by rfl) (by rfl) t169) (fun K' hK' => ?_)
      go_simp
      exact hK'.out _ _ ⟨_, rfl, rfl, Below.refl _ _⟩
    refine ⟨?_, ?_⟩
    · intro E ac wc st hdep
      obtain ⟨v170, t170, r170⟩ := st.new 82 170 (by rfl) (dep_of hdep 82 (by rfl))
      have r170' : v170 = .slice (some ⟨w.heap.size, 0, none⟩) 1 1 := r170
      clear r170
      subst r170'
      obtain ⟨v169, t169, r169⟩ := st.new 81 169 (by rfl) (dep_of hdep 81 (by rfl))
      have r169' : v169 = .bool true := r169
      clear r169
      subst r169'
      have e170 : ac.tmps.getD 170 undef = _ := getD_of t170
      have e169 : ac.tmps.getD 169 undef = _ := getD_of t169
      refine wpOp_want rfl (wanted_of (by rfl) (by rfl) t169) (fun K' hK' => ?_)
      go_simp
      refine (Calls.mono (R := RetQs wc (quo a 0) (0)) (eqQ (by rw [Va.out]; exact en2) (at_len2 Na.out Nnil.out (quots_c _ _ a _ _ 0 wc (ha.below st.b) (hnil.below st.b) (by have := Ba; omega) (by have := Bnil; omega)))) ?_)
      rintro e W ⟨X, c, rfl, hX, _, kb⟩
      exact hK'.out _ _ ⟨_, rfl, ⟨X, c, rfl, hX⟩, kb⟩
    refine ⟨?_, ?_⟩
    · intro E ac wc st hdep
      obtain ⟨v171, t171, r171⟩ := st.new 83 171 (by rfl) (dep_of hdep 83 (by rfl))
      obtain ⟨X171, c171, rfl, h171⟩ := r171
      obtain ⟨v169, t169, r169⟩ := st.new 81 169 (by rfl) (dep_of hdep 81 (by rfl))
      have r169' : v169 = .bool true := r169
      clear r169
      subst r169'
      have e171 : ac.tmps.getD 171 undef = _ := getD_of t171
      have e169 : ac.tmps.getD 169 undef = _ := getD_of t169
      refine wpOp_want rfl (wanted_of (by rfl) (by rfl) t169) (fun K' hK' => ?_)
      go_simp
      exact hK'.out _ _ ⟨_, rfl, rfl, Below.refl _ _⟩
    refine ⟨?_, ?_⟩
    · intro E ac wc st hdep
      obtain ⟨v172, t172, r172⟩ := st.new 84 172 (by rfl) (dep_of hdep 84 (by rfl))
      have r172' : v172 = .int .i64 0 := r172
      clear r172
      subst r172'
      obtain ⟨v169, t169, r169⟩ := st.new 81 169 (by rfl) (dep_of hdep 81 (by rfl))
      have r169' : v169 = .bool true := r169
      clear r169
      subst r169'
      have e172 : ac.tmps.getD 172 undef = _ := getD_of t172
      have e169 : ac.tmps.getD 169 undef = _ := getD_of t169
      refine wpOp_want rfl (wanted_of (by rfl) (by rfl) t169) (fun K' hK' => ?_)
      go_simp
      exact hK'.out _ _ ⟨_, rfl, rfl, Below.refl _ _⟩
    refine ⟨?_, ?_⟩
    · intro E ac wc st hdep
      obtain ⟨v169, t169, r169⟩ := st.new 81 169 (by rfl) (dep_of hdep 81 (by rfl))
      have r169' : v169 = .bool true := r169
      clear r169
      subst r169'
      obtain ⟨v173, t173, r173⟩ := st.new 85 173 (by rfl) (dep_of hdep 85 (by rfl))
      have r173' : v173 = .bool true := r173
      clear r173
      subst r173'
      have e169 : ac.tmps.getD 169 undef = _ := getD_of t169
      have e173 : ac.tmps.getD 173 undef = _ := getD_of t173
      refine wpOp_want rfl (by rfl) (fun K' hK' => ?_)
      go_simp
      exact hK'.out _ _ ⟨_, rfl, rfl, Below.refl _ _⟩
    refine ⟨?_, ?_⟩
    · intro E ac wc st hdep
      obtain ⟨v174, t174, r174⟩ := st.new 86 174 (by rfl) (dep_of hdep 86 (by rfl))
      have r174' : v174 = .bool true := r174
      clear r174
      subst r174'
      have e174 : ac.tmps.getD 174 undef = _ := getD_of t174
      refine wpOp_want rfl (by rfl) (fun K' hK' => ?_)
      go_simp
      exact hK'.out _ _ ⟨_, rfl, rfl, Below.refl _ _⟩
    refine ⟨?_, ?_⟩
    · intro E ac wc st hdep
      have t11 : ac.tmps[11]? = some (.slice Xi (nl i) ci) := (st.old 11 (by kernel_rfl)).trans (by rfl)
      obtain ⟨v175, t175, r175⟩ := st.new 87 175 (by rfl) (dep_of hdep 87 (by rfl))
      have r175' : v175 = .bool true := r175
      clear r175
      subst r175'
      have e11 : ac.tmps.getD 11 undef = _ := getD_of t11
      have e175 : ac.tmps.getD 175 undef = _ := getD_of t175
      refine wpOp_want rfl (wanted_of (by rfl) (by rfl) t175) (fun K' hK' => ?_)
      go_simp
      exact hK'.out _ _ ⟨_, rfl, rfl, Below.refl _ _⟩
    refine ⟨?_, ?_⟩
    · intro E ac wc st hdep
      obtain ⟨v175, t175, r175⟩ := st.new 87 175 (by rfl) (dep_of hdep 87 (by rfl))
      have r175' : v175 = .bool true := r175
      clear r175
      subst r175'
      have e175 : ac.tmps.getD 175 undef = _ := getD_of t175
      refine wpOp_want rfl (wanted_of (by rfl) (by rfl) t175) (fun K' hK' => ?_)
      go_simp
      exact hK'.out _ _ ⟨_, rfl, ⟨_, _, rfl, by rw [Vn5.out]; exact nlit (l := [5]) _ _ _ (heap_alloc_new wc _) rfl (by decide) (by decide) (by decide), by rw [Vn5.out]; exact nl_lit (l := [5]) (by decide) (by decide)⟩, (Below.refl _ _).alloc (Nat.le_refl _) _⟩
    refine ⟨?_, ?_⟩
    · intro E ac wc st hdep
      obtain ⟨v176, t176, r176⟩ := st.new 88 176 (by rfl) (dep_of hdep 88 (by rfl))
      have r176' : v176 = .slice Xi (nl i) ci := r176
      clear r176
      subst r176'
      obtain ⟨v177, t177, r177⟩ := st.new 89 177 (by rfl) (dep_of hdep 89 (by rfl))
      obtain ⟨X177, c177, rfl, h177, n177⟩ := r177
      replace n177 := Lib.hid n177
      obtain ⟨v175, t175, r175⟩ := st.new 87 175 (by rfl) (dep_of hdep 87 (by rfl))
      have r175' : v175 = .bool true := r175
      clear r175
      subst r175'
      have e176 : ac.tmps.getD 176 undef = _ := getD_of t176
      have e177 : ac.tmps.getD 177 undef = _ := getD_of t177
      have e175 : ac.tmps.getD 175 undef = _ := getD_of t175
      refine wpOp_want rfl (wanted_of (by rfl) (by rfl) t175) (fun K' hK' => ?_)
      go_simp
      refine (Calls.mono (at_lenR n177.out (same1_t Xi ci i X177 c177 n5 wc (hi.below st.b) h177 (by rw [Xi5.out, ← Vn5.out]; have := Bn5; omega) (by have := Bn5; omega) (by rw [Xi5.out, Vn5.out]))) ?_)
      rintro e W ⟨rfl, kb⟩
      exact hK'.out _ _ ⟨_, rfl, rfl, kb⟩
    refine ⟨?_, ?_⟩
    · intro E ac wc st hdep
      obtain ⟨v175, t175, r175⟩ := st.new 87 175 (by rfl) (dep_of hdep 87 (by rfl))
      have r175' : v175 = .bool true := r175
      clear r175
      subst r175'
      obtain ⟨v178, t178, r178⟩ := st.new 90 178 (by rfl) (dep_of hdep 90 (by rfl))
      have r178' : v178 = .bool true := r178
      clear r178
      subst r178'
      have e175 : ac.tmps.getD 175 undef = _ := getD_of t175
      have e178 : ac.tmps.getD 178 undef = _ := getD_of t178
      refine wpOp_want rfl (by rfl) (fun K' hK' => ?_)
      go_simp
      exact hK'.out _ _ ⟨_, rfl, rfl, Below.refl _ _⟩
    refine ⟨?_, ?_⟩
    · intro E ac wc st hdep
      obtain ⟨v179, t179, r179⟩ := st.new 91 179 (by rfl) (dep_of hdep 91 (by rfl))
      have r179' : v179 = .bool true := r179
      clear r179
      subst r179'
      have e179 : ac.tmps.getD 179 undef = _ := getD_of t179
      refine wpOp_want rfl (by rfl) (fun K' hK' => ?_)
      go_simp
      exact hK'.out _ _ ⟨_, rfl, rfl, Below.refl _ _⟩
    refine ⟨?_, ?_⟩
    · intro E ac wc st hdep
      have t12 : ac.tmps[12]? = some (.int .i64 0) := (st.old 12 (by kernel_rfl)).trans (by rfl)
      obtain ⟨v180, t180, r180⟩ := st.new 92 180 (by rfl) (dep_of hdep 92 (by rfl))
      have r180' : v180 = .bool true := r180
      clear r180
      subst r180'
      have e12 : ac.tmps.getD 12 undef = _ := getD_of t12
      have e180 : ac.tmps.getD 180 undef = _ := getD_of t180
      refine wpOp_want rfl (wanted_of (by rfl) (by rfl) t180) (fun K' hK' => ?_)
      go_simp
      exact hK'.out _ _ ⟨_, rfl, rfl, Below.refl _ _⟩
    refine ⟨?_, ?_⟩
    · intro E ac wc st hdep
      obtain ⟨v181, t181, r181⟩ := st.new 93 181 (by rfl) (dep_of hdep 93 (by rfl))
      have r181' : v181 = .int .i64 0 := r181
      clear r181
      subst r181'
      obtain ⟨v180, t180, r180⟩ := st.new 92 180 (by rfl) (dep_of hdep 92 (by rfl))
      have r180' : v180 = .bool true := r180
      clear r180
      subst r180'
      have e181 : ac.tmps.getD 181 undef = _ := getD_of t181
      have e180 : ac.tmps.getD 180 undef = _ := getD_of t180
      refine wpOp_want rfl (wanted_of (by rfl) (by rfl) t180) (fun K' hK' => ?_)
      go_simp
      exact hK'.out _ _ ⟨_, rfl, rfl, Below.refl _ _⟩
    refine ⟨?_, ?_⟩
    · intro E ac wc st hdep
      obtain ⟨v180, t180, r180⟩ := st.new 92 180 (by rfl) (dep_of hdep 92 (by rfl))
      have r180' : v180 = .bool true := r180
      clear r180
      subst r180'
      obtain ⟨v182, t182, r182⟩ := st.new 94 182 (by rfl) (dep_of hdep 94 (by rfl))
      have r182' : v182 = .bool true := r182
      clear r182
      subst r182'
      have e180 : ac.tmps.getD 180 undef = _ := getD_of t180
      have e182 : ac.tmps.getD 182 undef = _ := getD_of t182
      refine wpOp_want rfl (by rfl) (fun K' hK' => ?_)
      go_simp
      exact hK'.out _ _ ⟨_, rfl, rfl, Below.refl _ _⟩
    refine ⟨?_, ?_⟩
    · intro E ac wc st hdep
      obtain ⟨v183, t183, r183⟩ := st.new 95 183 (by rfl) (dep_of hdep 95 (by rfl))
      have r183' : v183 = .bool true := r183
      clear r183
      subst r183'
      have e183 : ac.tmps.getD 183 undef = _ := getD_of t183
      refine wpOp_want rfl (by rfl) (fun K' hK' => ?_)
      go_simp
      exact hK'.out _ _ ⟨_, rfl, rfl, Below.refl _ _⟩
    refine ⟨?_, ?_⟩
    · intro E ac wc st hdep
      have t14 : ac.tmps[14]? = some (.int .i64 4) := (st.old 14 (by kernel_rfl)).trans (by rfl)
      obtain ⟨v184, t184, r184⟩ := st.new 96 184 (by rfl) (dep_of hdep 96 (by rfl))
      have r184' : v184 = .bool true := r184
      clear r184
      subst r184'
      have e14 : ac.tmps.getD 14 undef = _ := getD_of t14
      have e184 : ac.tmps.getD 184 undef = _ := getD_of t184
      refine wpOp_want rfl (wanted_of (by rfl) (by rfl) t184) (fun K' hK' => ?_)
      go_simp
      exact hK'.out _ _ ⟨_, rfl, rfl, Below.refl _ _⟩
    refine ⟨?_, ?_⟩
    · intro E ac wc st hdep
      obtain ⟨v185, t185, r185⟩ := st.new 97 185 (by rfl) (dep_of hdep 97 (by rfl))
      have r185' : v185 = .int .i64 4 := r185
      clear r185
      subst r185'
      obtain ⟨v184, t184, r184⟩ := st.new 96 184 (by rfl) (dep_of hdep 96 (by rfl))
      have r184' : v184 = .bool true := r184
      clear r184
      subst r184'
      have e185 : ac.tmps.getD 185 undef = _ := getD_of t185
      have e184 : ac.tmps.getD 184 undef = _ := getD_of t184
      refine wpOp_want rfl (wanted_of (by rfl) (by rfl) t184) (fun K' hK' => ?_)
      go_simp
      exact hK'.out _ _ ⟨_, rfl, rfl, Below.refl _ _⟩
    refine ⟨?_, ?_⟩
    · intro E ac wc st hdep
      obtain ⟨v184, t184, r184⟩ := st.new 96 184 (by rfl) (dep_of hdep 96 (by rfl))
      have r184' : v184 = .bool true := r184
      clear r184
      subst r184'
      obtain ⟨v186, t186, r186⟩ := st.new 98 186 (by rfl) (dep_of hdep 98 (by rfl))
      have r186' : v186 = .bool true := r186
      clear r186
      subst r186'
      have e184 : ac.tmps.getD 184 undef = _ := getD_of t184
      have e186 : ac.tmps.getD 186 undef = _ := getD_of t186
      refine wpOp_want rfl (by rfl) (fun K' hK' => ?_)
      go_simp
      exact hK'.out _ _ ⟨_, rfl, rfl, Below.refl _ _⟩
    refine ⟨?_, ?_⟩
    · intro E ac wc st hdep
      obtain ⟨v187, t187, r187⟩ := st.new 99 187 (by rfl) (dep_of hdep 99 (by rfl))
      have r187' : v187 = .bool true := r187
      clear r187
      subst r187'
      have e187 : ac.tmps.getD 187 undef = _ := getD_of t187
      refine wpOp_want rfl (by rfl) (fun K' hK' => ?_)
      go_simp
      exact hK'.out _ _ ⟨_, rfl, rfl, Below.refl _ _⟩
    refine ⟨?_, ?_⟩
    · intro E ac wc st hdep
      have t16 : ac.tmps[16]? = some (.int .i64 4) := (st.old 16 (by kernel_rfl)).trans (by rfl)
      obtain ⟨v188, t188, r188⟩ := st.new 100 188 (by rfl) (dep_of hdep 100 (by rfl))
      have r188' : v188 = .bool true := r188
      clear r188
      subst r188'
      have e16 : ac.tmps.getD 16 undef = _ := getD_of t16
      have e188 : ac.tmps.getD 188 undef = _ := getD_of t188
      refine wpOp_want rfl (wanted_of (by rfl) (by rfl) t188) (fun K' hK' => ?_)
      go_simp
      exact hK'.out _ _ ⟨_, rfl, rfl, Below.refl _ _⟩
    refine ⟨?_, ?_⟩
    · intro E ac wc st hdep
      obtain ⟨v189, t189, r189⟩ := st.new 101 189 (by rfl) (dep_of hdep 101 (by rfl))
      have r189' : v189 = .int .i64 4 := r189
      clear r189
      subst r189'
      obtain ⟨v188, t188, r188⟩ := st.new 100 188 (by rfl) (dep_of hdep 100 (by rfl))
      have r188' : v188 = .bool true := r188
      clear r188
      subst r188'
      have e189 : ac.tmps.getD 189 undef = _ := getD_of t189
      have e188 : ac.tmps.getD 188 undef = _ := getD_of t188
      refine wpOp_want rfl (wanted_of (by rfl) (by rfl) t188) (fun K' hK' => ?_)
      go_simp
      exact hK'.out _ _ ⟨_, rfl, rfl, Below.refl _ _⟩
    refine ⟨?_, ?_⟩
    · intro E ac wc st hdep
      obtain ⟨v188, t188, r188⟩ := st.new 100 188 (by rfl) (dep_of hdep 100 (by rfl))
      have r188' : v188 = .bool true := r188
      clear r188
      subst r188'
      obtain ⟨v190, t190, r190⟩ := st.new 102 190 (by rfl) (dep_of hdep 102 (by rfl))
      have r190' : v190 = .bool true := r190
      clear r190
      subst r190'
      have e188 : ac.tmps.getD 188 undef = _ := getD_of t188
      have e190 : ac.tmps.getD 190 undef = _ := getD_of t190
      refine wpOp_want rfl (by rfl) (fun K' hK' => ?_)
      go_simp
      exact hK'.out _ _ ⟨_, rfl, rfl, Below.refl _ _⟩
    refine ⟨?_, ?_⟩
    · intro E ac wc st hdep
      obtain ⟨v191, t191, r191⟩ := st.new 103 191 (by rfl) (dep_of hdep 103 (by rfl))
      have r191' : v191 = .bool true := r191
      clear r191
      subst r191'
      have e191 : ac.tmps.getD 191 undef = _ := getD_of t191
      refine wpOp_want rfl (by rfl) (fun K' hK' => ?_)
      go_simp
      exact hK'.out _ _ ⟨_, rfl, rfl, Below.refl _ _⟩
    refine ⟨?_, ?_⟩
    · intro E ac wc st hdep
      have t17 : ac.tmps[17]? = some (.slice Xj (nl j) cj) := (st.old 17 (by kernel_rfl)).trans (by rfl)
      obtain ⟨v192, t192, r192⟩ := st.new 104 192 (by rfl) (dep_of hdep 104 (by rfl))
      have r192' : v192 = .bool true := r192
      clear r192
      subst r192'
      have e17 : ac.tmps.getD 17 undef = _ := getD_of t17
      have e192 : ac.tmps.getD 192 undef = _ := getD_of t192
      refine wpOp_want rfl (wanted_of (by rfl) (by rfl) t192) (fun K' hK' => ?_)
      go_simp
      exact hK'.out _ _ ⟨_, rfl, rfl, Below.refl _ _⟩
    refine ⟨?_, ?_⟩
    · intro E ac wc st hdep
      obtain ⟨v193, t193, r193⟩ := st.new 105 193 (by rfl) (dep_of hdep 105 (by rfl))
      have r193' : v193 = .slice Xj (nl j) cj := r193
      clear r193
      subst r193'
      obtain ⟨v192, t192, r192⟩ := st.new 104 192 (by rfl) (dep_of hdep 104 (by rfl))
      have r192' : v192 = .bool true := r192
      clear r192
      subst r192'
      have zz := Xj0.out
      have e193 : ac.tmps.getD 193 undef = _ := getD_of t193
      have e192 : ac.tmps.getD 192 undef = _ := getD_of t192
      refine wpOp_want rfl (wanted_of (by rfl) (by rfl) t192) (fun K' hK' => ?_)
      go_simp
      exact hK'.out _ _ ⟨_, rfl, rfl, Below.refl _ _⟩
    refine ⟨?_, ?_⟩
    · intro E ac wc st hdep
      obtain ⟨v194, t194, r194⟩ := st.new 106 194 (by rfl) (dep_of hdep 106 (by rfl))
      have r194' : v194 = .int .i64 0 := r194
      clear r194
      subst r194'
      obtain ⟨v192, t192, r192⟩ := st.new 104 192 (by rfl) (dep_of hdep 104 (by rfl))
      have r192' : v192 = .bool true := r192
      clear r192
      subst r192'
      have e194 : ac.tmps.getD 194 undef = _ := getD_of t194
      have e192 : ac.tmps.getD 192 undef = _ := getD_of t192
      refine wpOp_want rfl (wanted_of (by rfl) (by rfl) t192) (fun K' hK' => ?_)
      go_simp
      exact hK'.out _ _ ⟨_, rfl, rfl, Below.refl _ _⟩
    refine ⟨?_, ?_⟩
    · intro E ac wc st hdep
      obtain ⟨v192, t192, r192⟩ := st.new 104 192 (by rfl) (dep_of hdep 104 (by rfl))
      have r192' : v192 = .bool true := r192
      clear r192
      subst r192'
      obtain ⟨v195, t195, r195⟩ := st.new 107 195 (by rfl) (dep_of hdep 107 (by rfl))
      have r195' : v195 = .bool true := r195
      clear r195
      subst r195'
      have e192 : ac.tmps.getD 192 undef = _ := getD_of t192
      have e195 : ac.tmps.getD 195 undef = _ := getD_of t195
      refine wpOp_want rfl (by rfl) (fun K' hK' => ?_)
      go_simp
      exact hK'.out _ _ ⟨_, rfl, rfl, Below.refl _ _⟩
    refine ⟨?_, ?_⟩
    · intro E ac wc st hdep
      obtain ⟨v196, t196, r196⟩ := st.new 108 196 (by rfl) (dep_of hdep 108 (by rfl))
      have r196' : v196 = .bool true := r196
      clear r196
      subst r196'
      have e196 : ac.tmps.getD 196 undef = _ := getD_of t196
      refine wpOp_want rfl (by rfl) (fun K' hK' => ?_)
      go_simp
      exact hK'.out _ _ ⟨_, rfl, rfl, Below.refl _ _⟩
    refine ⟨?_, ?_⟩
    · intro E ac wc st hdep
      have t18 : ac.tmps[18]? = some (.int .i64 0) := (st.old 18 (by kernel_rfl)).trans (by rfl)
      obtain ⟨v197, t197, r197⟩ := st.new 109 197 (by rfl) (dep_of hdep 109 (by rfl))
      have r197' : v197 = .bool true := r197
      clear r197
      subst r197'
      have e18 : ac.tmps.getD 18 undef = _ := getD_of t18
      have e197 : ac.tmps.getD 197 undef = _ := getD_of t197
      refine wpOp_want rfl (wanted_of (by rfl) (by rfl) t197) (fun K' hK' => ?_)
      go_simp
      exact hK'.out _ _ ⟨_, rfl, rfl, Below.refl _ _⟩
    refine ⟨?_, ?_⟩
    · intro E ac wc st hdep
      obtain ⟨v198, t198, r198⟩ := st.new 110 198 (by rfl) (dep_of hdep 110 (by rfl))
      have r198' : v198 = .int .i64 0 := r198
      clear r198
      subst r198'
      obtain ⟨v197, t197, r197⟩ := st.new 109 197 (by rfl) (dep_of hdep 109 (by rfl))
      have r197' : v197 = .bool true := r197
      clear r197
      subst r197'
      have e198 : ac.tmps.getD 198 undef = _ := getD_of t198
      have e197 : ac.tmps.getD 197 undef = _ := getD_of t197
      refine wpOp_want rfl (wanted_of (by rfl) (by rfl) t197) (fun K' hK' => ?_)
      go_simp
      exact hK'.out _ _ ⟨_, rfl, rfl, Below.refl _ _⟩
    refine ⟨?_, ?_⟩
    · intro E ac wc st hdep
      obtain ⟨v197, t197, r197⟩ := st.new 109 197 (by rfl) (dep_of hdep 109 (by rfl))
      have r197' : v197 = .bool true := r197
      clear r197
      subst r197'
      obtain ⟨v199, t199, r199⟩ := st.new 111 199 (by rfl) (dep_of hdep 111 (by rfl))
      have r199' : v199 = .bool true := r199
      clear r199
      subst r199'
      have e197 : ac.tmps.getD 197 undef = _ := getD_of t197
      have e199 : ac.tmps.getD 199 undef = _ := getD_of t199
      refine wpOp_want rfl (by rfl) (fun K' hK' => ?_)
      go_simp
      exact hK'.out _ _ ⟨_, rfl, rfl, Below.refl _ _⟩
    refine ⟨?_, ?_⟩
    · intro E ac wc st hdep
      obtain ⟨v200, t200, r200⟩ := st.new 112 200 (by rfl) (dep_of hdep 112 (by rfl))
      have r200' : v200 = .bool true := r200
      clear r200
      subst r200'
      have e200 : ac.tmps.getD 200 undef = _ := getD_of t200
      refine wpOp_want rfl (by rfl) (fun K' hK' => ?_)
      go_simp
      exact hK'.out _ _ ⟨_, rfl, rfl, Below.refl _ _⟩
    refine ⟨?_, ?_⟩
    · intro E ac wc st hdep
      have t19 : ac.tmps[19]? = some (.slice Xp (nl p) cp) := (st.old 19 (by kernel_rfl)).trans (by rfl)
      obtain ⟨v201, t201, r201⟩ := st.new 113 201 (by rfl) (dep_of hdep 113 (by rfl))
      have r201' : v201 = .bool true := r201
      clear r201
      subst r201'
      have e19 : ac.tmps.getD 19 undef = _ := getD_of t19
      have e201 : ac.tmps.getD 201 undef = _ := getD_of t201
      refine wpOp_want rfl (wanted_of (by rfl) (by rfl) t201) (fun K' hK' => ?_)
      go_simp
      exact hK'.out _ _ ⟨_, rfl, rfl, Below.refl _ _⟩
    refine ⟨?_, ?_⟩
    · intro E ac wc st hdep
      obtain ⟨v201, t201, r201⟩ := st.new 113 201 (by rfl) (dep_of hdep 113 (by rfl))
      have r201' : v201 = .bool true := r201
      clear r201
      subst r201'
      have e201 : ac.tmps.getD 201 undef = _ := getD_of t201
      refine wpOp_want rfl (wanted_of (by rfl) (by rfl) t201) (fun K' hK' => ?_)
      go_simp
      exact hK'.out _ _ ⟨_, rfl, ⟨_, _, rfl, by rw [Vn24.out]; exact nlit (l := [24]) _ _ _ (heap_alloc_new wc _) rfl (by decide) (by decide) (by decide), by rw [Vn24.out]; exact nl_lit (l := [24]) (by decide) (by decide)⟩, (Below.refl _ _).alloc (Nat.le_refl _) _⟩
    refine ⟨?_, ?_⟩
    · intro E ac wc st hdep
      obtain ⟨v202, t202, r202⟩ := st.new 114 202 (by rfl) (dep_of hdep 114 (by rfl))
      have r202' : v202 = .slice Xp (nl p) cp := r202
      clear r202
      subst r202'
      obtain ⟨v203, t203, r203⟩ := st.new 115 203 (by rfl) (dep_of hdep 115 (by rfl))
      obtain ⟨X203, c203, rfl, h203, n203⟩ := r203
      replace n203 := Lib.hid n203
      obtain ⟨v201, t201, r201⟩ := st.new 113 201 (by rfl) (dep_of hdep 113 (by rfl))
      have r201' : v201 = .bool true := r201
      clear r201
      subst r201'
      have e202 : ac.tmps.getD 202 undef = _ := getD_of t202
      have e203 : ac.tmps.getD 203 undef = _ := getD_of t203
      have e201 : ac.tmps.getD 201 undef = _ := getD_of t201
      refine wpOp_want rfl (wanted_of (by rfl) (by rfl) t201) (fun K' hK' => ?_)
      go_simp
      refine (Calls.mono (at_lenR n203.out (same1_t Xp cp p X203 c203 n24 wc (hp.below st.b) h203 (by rw [Xp24.out, ← Vn24.out]; have := Bn24; omega) (by have := Bn24; omega) (by rw [Xp24.out, Vn24.out]))) ?_)
      rintro e W ⟨rfl, kb⟩
      exact hK'.out _ _ ⟨_, rfl, rfl, kb⟩
    refine ⟨?_, ?_⟩
    · intro E ac wc st hdep
      obtain ⟨v201, t201, r201⟩ := st.new 113 201 (by rfl) (dep_of hdep 113 (by rfl))
      have r201' : v201 = .bool true := r201
      clear r201
      subst r201'
      obtain ⟨v204, t204, r204⟩ := st.new 116 204 (by rfl) (dep_of hdep 116 (by rfl))
      have r204' : v204 = .bool true := r204
      clear r204
      subst r204'
      have e201 : ac.tmps.getD 201 undef = _ := getD_of t201
      have e204 : ac.tmps.getD 204 undef = _ := getD_of t204
      refine wpOp_want rfl (by rfl) (fun K' hK' => ?_)
      go_simp
      exact hK'.out _ _ ⟨_, rfl, rfl, Below.refl _ _⟩
    refine ⟨?_, ?_⟩
    · intro E ac wc st hdep
      obtain ⟨v205, t205, r205⟩ := st.new 117 205 (by rfl) (dep_of hdep 117 (by rfl))
      have r205' : v205 = .bool true := r205
      clear r205
      subst r205'
      have e205 : ac.tmps.getD 205 undef = _ := getD_of t205
      refine wpOp_want rfl (by rfl) (fun K' hK' => ?_)
      go_simp
      exact hK'.out _ _ ⟨_, rfl, rfl, Below.refl _ _⟩
    refine ⟨?_, ?_⟩
    · intro E ac wc st hdep
      have t20 : ac.tmps[20]? = some (.int .i64 0) := (st.old 20 (by kernel_rfl)).trans (by rfl)
      obtain ⟨v206, t206, r206⟩ := st.new 118 206 (by rfl) (dep_of hdep 118 (by rfl))
      have r206' : v206 = .bool true := r206
      clear r206
      subst r206'
      have e20 : ac.tmps.getD 20 undef = _ := getD_of t20
      have e206 : ac.tmps.getD 206 undef = _ := getD_of t206
      refine wpOp_want rfl (wanted_of (by rfl) (by rfl) t206) (fun K' hK' => ?_)
      go_simp
      exact hK'.out _ _ ⟨_, rfl, rfl, Below.refl _ _⟩
    refine ⟨?_, ?_⟩
    · intro E ac wc st hdep
      obtain ⟨v207, t207, r207⟩ := st.new 119 207 (by rfl) (dep_of hdep 119 (by rfl))
      have r207' : v207 = .int .i64 0 := r207
      clear r207
      subst r207'
      obtain ⟨v206, t206, r206⟩ := st.new 118 206 (by rfl) (dep_of hdep 118 (by rfl))
      have r206' : v206 = .bool true := r206
      clear r206
      subst r206'
      have e207 : ac.tmps.getD 207 undef = _ := getD_of t207
      have e206 : ac.tmps.getD 206 undef = _ := getD_of t206
      refine wpOp_want rfl (wanted_of (by rfl) (by rfl) t206) (fun K' hK' => ?_)
      go_simp
      exact hK'.out _ _ ⟨_, rfl, rfl, Below.refl _ _⟩
    refine ⟨?_, ?_⟩
    · intro E ac wc st hdep
      obtain ⟨v206, t206, r206⟩ := st.new 118 206 (by rfl) (dep_of hdep 118 (by rfl))
      have r206' : v206 = .bool true := r206
      clear r206
      subst r206'
      obtain ⟨v208, t208, r208⟩ := st.new 120 208 (by rfl) (dep_of hdep 120 (by rfl))
      have r208' : v208 = .bool true := r208
      clear r208
      subst r208'
      have e206 : ac.tmps.getD 206 undef = _ := getD_of t206
      have e208 : ac.tmps.getD 208 undef = _ := getD_of t208
      refine wpOp_want rfl (by rfl) (fun K' hK' => ?_)
      go_simp
      exact hK'.out _ _ ⟨_, rfl, rfl, Below.refl _ _⟩
    refine ⟨?_, ?_⟩
    · intro E ac wc st hdep
      obtain ⟨v209, t209, r209⟩ := st.new 121 209 (by rfl) (dep_of hdep 121 (by rfl))
      have r209' : v209 = .bool true := r209
      clear r209
      subst r209'
      have e209 : ac.tmps.getD 209 undef = _ := getD_of t209
      refine wpOp_want rfl (by rfl) (fun K' hK' => ?_)
      go_simp
      exact hK'.out _ _ ⟨_, rfl, rfl, Below.refl _ _⟩
    refine ⟨?_, ?_⟩
    · intro E ac wc st hdep
      have t21 : ac.tmps[21]? = some (.slice Xo1 (nl o1) co1) := (st.old 21 (by kernel_rfl)).trans (by rfl)
      obtain ⟨v210, t210, r210⟩ := st.new 122 210 (by rfl) (dep_of hdep 122 (by rfl))
      have r210' : v210 = .bool true := r210
      clear r210
      subst r210'
      have e21 : ac.tmps.getD 21 undef = _ := getD_of t21
      have e210 : ac.tmps.getD 210 undef = _ := getD_of t210
      refine wpOp_want rfl (wanted_of (by rfl) (by rfl) t210) (fun K' hK' => ?_)
      go_simp
      exact hK'.out _ _ ⟨_, rfl, rfl, Below.refl _ _⟩
    refine ⟨?_, ?_⟩
    · intro E ac wc st hdep
      have t3 : ac.tmps[3]? = some (.slice (some ⟨w.heap.size + 1 + 1, 0, none⟩) 1 1) := (st.old 3 (by kernel_rfl)).trans (by rfl)
      obtain ⟨v210, t210, r210⟩ := st.new 122 210 (by rfl) (dep_of hdep 122 (by rfl))
      have r210' : v210 = .bool true := r210
      clear r210
      subst r210'
      have e3 : ac.tmps.getD 3 undef = _ := getD_of t3
      have e210 : ac.tmps.getD 210 undef = _ := getD_of t210
      refine wpOp_want rfl (wanted_of (by rfl) (by rfl) t210) (fun K' hK' => ?_)
      go_simp
      exact hK'.out _ _ ⟨_, rfl, rfl, Below.refl _ _⟩
    refine ⟨?_, ?_⟩
    · intro E ac wc st hdep
      obtain ⟨v211, t211, r211⟩ := st.new 123 211 (by rfl) (dep_of hdep 123 (by rfl))
      have r211' : v211 = .slice Xo1 (nl o1) co1 := r211
      clear r211
      subst r211'
      obtain ⟨v212, t212, r212⟩ := st.new 124 212 (by rfl) (dep_of hdep 124 (by rfl))
      have r212' : v212 = .slice (some ⟨w.heap.size + 1 + 1, 0, none⟩) 1 1 := r212
      clear r212
      subst r212'
      obtain ⟨v210, t210, r210⟩ := st.new 122 210 (by rfl) (dep_of hdep 122 (by rfl))
      have r210' : v210 = .bool true := r210
      clear r210
      subst r210'
      have e211 : ac.tmps.getD 211 undef = _ := getD_of t211
      have e212 : ac.tmps.getD 212 undef = _ := getD_of t212
      have e210 : ac.tmps.getD 210 undef = _ := getD_of t210
      refine wpOp_want rfl (wanted_of (by rfl) (by rfl) t210) (fun K' hK' => ?_)
      go_simp
      refine (Calls.mono (at_lenR No.out (same1_t Xo1 co1 o1 _ _ o wc (ho1.below st.b) (ho.below st.b) (by rw [Xo11.out]; have := Bo; omega) (by have := Bo; omega) (by exact Xo11.out))) ?_)
      rintro e W ⟨rfl, kb⟩
      exact hK'.out _ _ ⟨_, rfl, rfl, kb⟩
    refine ⟨?_, ?_⟩
    · intro E ac wc st hdep
      obtain ⟨v210, t210, r210⟩ := st.new 122 210 (by rfl) (dep_of hdep 122 (by rfl))
      have r210' : v210 = .bool true := r210
      clear r210
      subst r210'
      obtain ⟨v213, t213, r213⟩ := st.new 125 213 (by rfl) (dep_of hdep 125 (by rfl))
      have r213' : v213 = .bool true := r213
      clear r213
      subst r213'
      have e210 : ac.tmps.getD 210 undef = _ := getD_of t210
      have e213 : ac.tmps.getD 213 undef = _ := getD_of t213
      refine wpOp_want rfl (by rfl) (fun K' hK' => ?_)
      go_simp
      exact hK'.out _ _ ⟨_, rfl, rfl, Below.refl _ _⟩
    refine ⟨?_, ?_⟩
    · intro E ac wc st hdep
      obtain ⟨v214, t214, r214⟩ := st.new 126 214 (by rfl) (dep_of hdep 126 (by rfl))
      have r214' : v214 = .bool true := r214
      clear r214
      subst r214'
      have e214 : ac.tmps.getD 214 undef = _ := getD_of t214
      refine wpOp_want rfl (by rfl) (fun K' hK' => ?_)
      go_simp
      exact hK'.out _ _ ⟨_, rfl, rfl, Below.refl _ _⟩
    refine ⟨?_, ?_⟩
    · intro E ac wc st hdep
      have t22 : ac.tmps[22]? = some (.int .i64 0) := (st.old 22 (by kernel_rfl)).trans (by rfl)
      obtain ⟨v215, t215, r215⟩ := st.new 127 215 (by rfl) (dep_of hdep 127 (by rfl))
      have r215' : v215 = .bool true := r215
      clear r215
      subst r215'
      have e22 : ac.tmps.getD 22 undef = _ := getD_of t22
      have e215 : ac.tmps.getD 215 undef = _ := getD_of t215
      refine wpOp_want rfl (wanted_of (by rfl) (by rfl) t215) (fun K' hK' => ?_)
      go_simp
      exact hK'.out _ _ ⟨_, rfl, rfl, Below.refl _ _⟩
    refine ⟨?_, ?_⟩
    · intro E ac wc st hdep
      obtain ⟨v216, t216, r216⟩ := st.new 128 216 (by rfl) (dep_of hdep 128 (by rfl))
      have r216' : v216 = .int .i64 0 := r216
      clear r216
      subst r216'
      obtain ⟨v215, t215, r215⟩ := st.new 127 215 (by rfl) (dep_of hdep 127 (by rfl))
      have r215' : v215 = .bool true := r215
      clear r215
      subst r215'
      have e216 : ac.tmps.getD 216 undef = _ := getD_of t216
      have e215 : ac.tmps.getD 215 undef = _ := getD_of t215
      refine wpOp_want rfl (wanted_of (by rfl) (by rfl) t215) (fun K' hK' => ?_)
      go_simp
      exact hK'.out _ _ ⟨_, rfl, rfl, Below.refl _ _⟩
    refine ⟨?_, ?_⟩
    · intro E ac wc st hdep
      obtain ⟨v215, t215, r215⟩ := st.new 127 215 (by rfl) (dep_of hdep 127 (by rfl))
      have r215' : v215 = .bool true := r215
      clear r215
      subst r215'
      obtain ⟨v217, t217, r217⟩ := st.new 129 217 (by rfl) (dep_of hdep 129 (by rfl))
      have r217' : v217 = .bool true := r217
      clear r217
      subst r217'
      have e215 : ac.tmps.getD 215 undef = _ := getD_of t215
      have e217 : ac.tmps.getD 217 undef = _ := getD_of t217
      refine wpOp_want rfl (by rfl) (fun K' hK' => ?_)
      go_simp
      exact hK'.out _ _ ⟨_, rfl, rfl, Below.refl _ _⟩
    refine ⟨?_, ?_⟩
    · intro E ac wc st hdep
      obtain ⟨v218, t218, r218⟩ := st.new 130 218 (by rfl) (dep_of hdep 130 (by rfl))
      have r218' : v218 = .bool true := r218
      clear r218
      subst r218'
      have e218 : ac.tmps.getD 218 undef = _ := getD_of t218
      refine wpOp_want rfl (by rfl) (fun K' hK' => ?_)
      go_simp
      exact hK'.out _ _ ⟨_, rfl, rfl, Below.refl _ _⟩
    refine ⟨?_, ?_⟩
    · intro E ac wc st hdep
      have t24 : ac.tmps[24]? = some (.int .i64 3) := (st.old 24 (by kernel_rfl)).trans (by rfl)
      obtain ⟨v219, t219, r219⟩ := st.new 131 219 (by rfl) (dep_of hdep 131 (by rfl))
      have r219' : v219 = .bool true := r219
      clear r219
      subst r219'
      have e24 : ac.tmps.getD 24 undef = _ := getD_of t24
      have e219 : ac.tmps.getD 219 undef = _ := getD_of t219
      refine wpOp_want rfl (wanted_of (by rfl) (by rfl) t219) (fun K' hK' => ?_)
      go_simp
      exact hK'.out _ _ ⟨_, rfl, rfl, Below.refl _ _⟩
    refine ⟨?_, ?_⟩
    · intro E ac wc st hdep
      obtain ⟨v220, t220, r220⟩ := st.new 132 220 (by rfl) (dep_of hdep 132 (by rfl))
      have r220' : v220 = .int .i64 3 := r220
      clear r220
      subst r220'
      obtain ⟨v219, t219, r219⟩ := st.new 131 219 (by rfl) (dep_of hdep 131 (by rfl))
      have r219' : v219 = .bool true := r219
      clear r219
      subst r219'
      have e220 : ac.tmps.getD 220 undef = _ := getD_of t220
      have e219 : ac.tmps.getD 219 undef = _ := getD_of t219
      refine wpOp_want rfl (wanted_of (by rfl) (by rfl) t219) (fun K' hK' => ?_)
      go_simp
      exact hK'.out _ _ ⟨_, rfl, rfl, Below.refl _ _⟩
    refine ⟨?_, ?_⟩
    · intro E ac wc st hdep
      obtain ⟨v219, t219, r219⟩ := st.new 131 219 (by rfl) (dep_of hdep 131 (by rfl))
      have r219' : v219 = .bool true := r219
      clear r219
      subst r219'
      obtain ⟨v221, t221, r221⟩ := st.new 133 221 (by rfl) (dep_of hdep 133 (by rfl))
      have r221' : v221 = .bool true := r221
      clear r221
      subst r221'
      have e219 : ac.tmps.getD 219 undef = _ := getD_of t219
      have e221 : ac.tmps.getD 221 undef = _ := getD_of t221
      refine wpOp_want rfl (by rfl) (fun K' hK' => ?_)
      go_simp
      exact hK'.out _ _ ⟨_, rfl, rfl, Below.refl _ _⟩
    refine ⟨?_, ?_⟩
    · intro E ac wc st hdep
      obtain ⟨v222, t222, r222⟩ := st.new 134 222 (by rfl) (dep_of hdep 134 (by rfl))
      have r222' : v222 = .bool true := r222
      clear r222
      subst r222'
      have e222 : ac.tmps.getD 222 undef = _ := getD_of t222
      refine wpOp_want rfl (by rfl) (fun K' hK' => ?_)
      go_simp
      exact hK'.out _ _ ⟨_, rfl, rfl, Below.refl _ _⟩
    exact trivial
  · intro a' w' st
    obtain ⟨v0, t0, r0⟩ := st.new 135 0 (by rfl) rfl
    have r0' : v0 = .bool true := r0
    subst r0'
    have HF := Below.cons HBT st.b
    have e0 := getD_of t0
    have hd : a'.defers = [] := st.d
    clear st
    go_wp2_with (fail)
    refine bodyPost_ret (v := .bool true) ?_ hd ⟨rfl, HF⟩
    simp [results, Tryd.results4, go_sem, t0, e0]
end Go.Proofs.YthcmoimlnhghcaaDoor

/- What an input gives a walk: rows of limbs out of slices; the package's variable as it was laid. -/
set_option linter.unusedVariables false
set_option linter.unusedSimpArgs false
namespace Go.Proofs.YthcmoimlnhghcaaDoor
open Go.RowKit Go.ChangeShapes Go.WideShapes Go.ChangeAt

theorem row_own : ownKnob Tryd.prog.godebug = none := by kernel_rfl
theorem row_out : laidOutB Tryd.prog = true := by kernel_rfl
theorem row_glob : Tryd.prog.globalNamed "ziggurat/ntt.fields" = some 1 := by kernel_rfl
theorem row_globT : (Tryd.prog.globals[1]?).map (·.type) = some 112 := by kernel_rfl
theorem row_cells32 : Tryd.prog.cellsOf 29 = 1 := by kernel_rfl

section
variable {H : Type} {enc : TypeId × Value → H} {W : World} {base : Nat} {sp : Nat → Bool} {held : Bool}

/-- What the laws' walks ask of a slice of limbs. -/
def IsL (W : World) (A : Option Addr) (c : Nat) (l : List Nat) : Prop := Rd W A l ∧ Lim l ∧ l.length ≤ maxLen ∧ l.length ≤ c ∧ (A = none → c = 0)
theorem open_nat {fuel : Nat} {cs : List Value} {x : DataW H × List MemPlace} (h : DataW.trod enc Tryd.prog W base sp held fuel 22 cs = some x) :
    ∃ A c l, cs = [.slice A l.length c] ∧ IsL W A c l := by
  rcases open_ints Tryd.underlying22 Tryd.underlying29 row_cells32 h with ⟨rfl, _⟩ | ⟨a, len, cap, zs, rfl, _, hl, hm, hz, _, hcell, hwf⟩
  · exact ⟨none, 0, [], rfl, Rd.nil, Lim.nil, by decide, Nat.le_refl _, fun _ => rfl⟩
  · have hlz : len ≤ zs.length := by rw [hz]; split <;> omega
    have hlen : ((zs.take len).map Int.toNat).length = len := by rw [List.length_map, List.length_take]; omega
    refine ⟨some a, cap, (zs.take len).map Int.toNat, by rw [hlen], ?_, ?_, by rw [hlen]; omega, by rw [hlen]; exact hl, fun e => by cases e⟩
    · refine .inr ⟨a, rfl, fun i u hu => ?_⟩
      have hi : i < len := by
        have := (List.getElem?_eq_some_iff.1 hu).1
        rw [vals_length, hlen] at this; exact this
      have hi2 : i < zs.length := by omega
      rw [hcell i hi2]
      have h0 := bounds_u32 (hwf _ (List.getElem_mem hi2))
      simp only [vals, List.map_map, List.getElem?_map, List.getElem?_take_of_lt hi, List.getElem?_eq_getElem hi2, Option.map_some] at hu
      rw [← Option.some.inj hu]
      simp only [Function.comp, List.getD_eq_getElem?_getD, List.getElem?_eq_getElem hi2, Option.getD_some]
      rw [Int.toNat_of_nonneg h0.1]
    · intro y hy
      obtain ⟨z, hz2, rfl⟩ := List.mem_map.1 hy
      have := bounds_u32 (hwf _ (List.mem_of_mem_take hz2))
      omega

theorem open_natv {r : Reach} {b0 : Nat} {v : Value} {d : DataW H} {ps : List MemPlace} (hv : Value.okWide Tryd.prog W r b0 22 v) (h : DataW.Trod enc Tryd.prog W base sp held 22 v d ps) :
    ∃ A c l, v = .slice A l.length c ∧ IsL W A c l := by
  obtain ⟨a, len, cap, rfl⟩ := okWide_slice Tryd.underlying22 hv
  obtain ⟨fuel, hf⟩ := h
  obtain ⟨A, c, l, e, i⟩ := open_nat hf
  simp only [Value.cells, List.cons.injEq, and_true] at e
  exact ⟨A, c, l, e, i⟩

end

/-- The package's variable, as it was laid, gives the cells that the walks read. -/
theorem flds_of_laid {W : World} (h : laidMetH Tryd.prog [("ziggurat/ntt.fields", Rows.laid_ziggurat_ntt_fields)] W) : Flds W := by
  rw [MakeChecks.laidMetH_plain _ _ _ (by kernel_rfl)] at h
  obtain ⟨ps, ⟨g0, t0, cs0, f0, p0, q0, hg0, ht0, hv0, hd0, _, _⟩, _, _⟩ := h
  obtain rfl := Option.some.inj (row_glob.symm.trans hg0)
  obtain rfl := Option.some.inj (row_globT.symm.trans ht0)
  obtain ⟨xs, n, _, hx, hl, hxs, he⟩ := DataW.trod_array Tryd.underlying112 hd0
  have h3 : Tryd.prog.cellsOf 112 = 3 := by kernel_rfl
  have h1 : Tryd.prog.cellsOf 111 = 1 := by kernel_rfl
  have h0 : Tryd.prog.cellsOf 45 = 1 := by kernel_rfl
  have cell := fun i => World.var?_cell hg0 hv0 i
  obtain ⟨cl⟩ := cs0
  have hl' : cl.length = 3 := by rw [← h3]; exact hl
  match cl, hl' with
  | [c0, c1, c2], _ =>
    match xs, hxs with
    | [x0, x1, x2], _ =>
      have e0 := he 0 (by decide)
      have e1 := he 1 (by decide)
      have e2 := he 2 (by decide)
      rw [h1] at e0 e1 e2
      have one : ∀ (c : Value) (x : DataW Unit × List MemPlace) (z : Int), DataW.trod (fun _ => ()) Tryd.prog W 0 (fun _ => true) false n 111 [c] = some x → x.1 = .agg [.lit (.int .u64 z)] → c = .int .u64 z := by
        intro c x z hc hz
        obtain ⟨ys, n2, _, hy, _, hys, hey⟩ := DataW.trod_struct Tryd.underlying111 hc
        have e : DataW.trod (fun _ => ()) Tryd.prog W 0 (fun _ => true) false n2 45 (([c].drop 0).take (Tryd.prog.cellsOf 45)) = ys[0]? := hey 0 _ rfl
        rw [h0] at e
        match ys, hys with
        | [y], _ =>
          obtain ⟨z', hz1, hz2, _⟩ := DataW.trod_int Tryd.underlying45 (show DataW.trod (fun _ => ()) Tryd.prog W 0 (fun _ => true) false n2 45 [c] = some y from e)
          simp only [List.cons.injEq, and_true] at hz1
          rw [hy, hz2] at hz
          simp at hz
          rw [hz1, hz]
      simp only [Rows.laid_ziggurat_ntt_fields, Prod.mk.injEq, DataW.agg.injEq, List.map_cons, List.map_nil, List.cons.injEq, and_true] at hx
      obtain ⟨⟨hx0, hx1, hx2⟩, _⟩ := hx
      have k0 := one c0 x0 _ e0 hx0.symm
      have k1 := one c1 x1 _ e1 hx1.symm
      have k2 := one c2 x2 _ e2 hx2.symm
      subst k0 k1 k2
      exact ⟨cell 0, cell 1, cell 2⟩
/-- The door's own heap meets the condition: closed facts. -/
theorem door_met (os : Os) (args : Array Value) : laidMetH Tryd.prog [("ziggurat/ntt.fields", Rows.laid_ziggurat_ntt_fields)] ((World.doorLaid Tryd.prog 400 os).forCall (fun _ _ => 0) ⟨#[], args, []⟩).memory :=
  laidMetH_of_parts3 (fuel := 8) (laidMet_of_run' 8 (by kernel_rfl) (by kernel_rfl)) (by kernel_rfl) (by kernel_rfl)
end Go.Proofs.YthcmoimlnhghcaaDoor

/- Laws of greatest common divisors: what is used in all of them. -/
set_option linter.unusedVariables false
set_option linter.unusedSimpArgs false
namespace Go.Proofs.YthcmoimlnhghcaaDoor
open Go.RowKit Go.Shelf
attribute [local go_sem] max2_i min2_i max_two min_two

theorem nl_gcd {a b L : Nat} (ha : nl a ≤ L) (hb : nl b ≤ L) : nl (Nat.gcd a b) ≤ L := by
  by_cases h : a = 0
  · subst h; rw [Nat.gcd_zero_left]; exact hb
  · exact Nat.le_trans (nl_mono (Nat.le_of_dvd (by omega) (Nat.gcd_dvd_left a b))) ha
end Go.Proofs.YthcmoimlnhghcaaDoor

/- Laws of greatest common divisors: what Euclid's quotients give backwards. -/
set_option linter.unusedVariables false
set_option linter.unusedSimpArgs false
namespace Go.Proofs.YthcmoimlnhghcaaDoor
open Go.RowKit Go.Shelf

theorem euc_one (a b k : Nat) : (euc a b (k + 1)).1 = (euc a b k).2 := by simp only [euc]
theorem euc_two (a b k : Nat) : (euc a b (k + 1)).2 = (euc a b k).1 % (euc a b k).2 := by simp only [euc]
/-- One step backwards. -/
theorem euc_back (a b k : Nat) : quo a b k * (euc a b (k + 1)).1 + (euc a b (k + 1)).2 = (euc a b k).1 := by
  rw [euc_one, euc_two]; unfold quo
  have := Nat.div_add_mod (euc a b k).1 (euc a b k).2
  rw [Nat.mul_comm] at this; exact this
/-- Behind the first row they fall. -/
theorem euc_fall {a b k : Nat} (h : (euc a b k).2 ≠ 0) : (euc a b (k + 1)).2 < (euc a b (k + 1)).1 := by
  rw [euc_one, euc_two]; exact Nat.mod_lt _ (by omega)
theorem quo_pos {a b k : Nat} (hk : k + 1 < eun a b) : quo a b (k + 1) ≠ 0 := by
  have h1 := eun_nz a b k (by omega)
  have h2 := eun_nz a b (k + 1) hk
  have h3 := euc_fall h1
  unfold quo
  have h4 : 0 < (euc a b (k + 1)).1 / (euc a b (k + 1)).2 := Nat.div_pos (by omega) (by omega)
  omega
theorem quo_last {a b k : Nat} (hk : k + 2 = eun a b) : quo a b (k + 1) ≠ 1 := by
  have h1 := eun_nz a b k (by omega)
  have h2 := eun_zero a b
  rw [← hk] at h2
  have h3 := euc_fall h1
  have h4 := euc_back a b (k + 1)
  intro h5
  rw [h5, show k + 1 + 1 = k + 2 from rfl, h2, euc_one, Nat.one_mul, Nat.add_zero] at h4
  omega
/-- They are not above the numbers. -/
theorem euc_lek (a b : Nat) : ∀ k, (∀ i, i < k → (euc a b i).2 ≠ 0) → (euc a b k).1 ≤ max a b ∧ (euc a b k).2 ≤ max a b
  | 0, _ => by simp only [euc]; omega
  | k + 1, h => by
    have ih := euc_lek a b k (fun i hi => h i (by omega))
    have h1 := Nat.mod_lt (euc a b k).1 (show 0 < (euc a b k).2 by have := h k (by omega); omega)
    rw [euc_one, euc_two]; omega
theorem euc_nlk {a b k L : Nat} (hk : k ≤ eun a b) (ha : nl a ≤ L) (hb : nl b ≤ L) : nl (euc a b k).1 ≤ L ∧ nl (euc a b k).2 ≤ L := by
  have h := euc_lek a b k (fun i hi => eun_nz a b i (by omega))
  have hm : nl (max a b) ≤ L := by rcases Nat.le_total a b with e | e; rw [Nat.max_eq_right e]; exact hb; rw [Nat.max_eq_left e]; exact ha
  exact ⟨Nat.le_trans (nl_mono h.1) hm, Nat.le_trans (nl_mono h.2) hm⟩
theorem quo_nl {a b k L : Nat} (hk : k ≤ eun a b) (ha : nl a ≤ L) (hb : nl b ≤ L) : nl (quo a b k) ≤ L :=
  Nat.le_trans (nl_mono (Nat.div_le_self _ _)) (euc_nlk hk ha hb).1
theorem eun_b0 {a b : Nat} : eun a b = 0 ↔ b = 0 := by
  constructor
  · intro h; have := eun_zero a b; rw [h] at this; simpa [euc] using this
  · intro h; exact (eun_eq (by simpa [euc] using h) (fun i hi => by omega)).symm
end Go.Proofs.YthcmoimlnhghcaaDoor
