/- The greatest common divisor with cofactors. -/
import Derived.Test.YthcmoimlnhghcaaDoorG03
import Derived.RangeFuncCalls
import Derived.OwnWalkIn
import Derived.Laws.AppendOwn
import Derived.Test.YthcmoimlnhghcaaDoorG01
import Derived.IntWalk
import Derived.Deep.CutRange
import Derived.Test.YthcmoimlnhghcaaDoorG02
set_option maxRecDepth 100000
set_option maxHeartbeats 4000000
set_option linter.unusedVariables false
set_option linter.unusedSimpArgs false
namespace Go.Proofs.YthcmoimlnhghcaaDoor
open Go.RowKit Go.Shelf
attribute [local go_sem] max2_i min2_i max_two min_two

attribute [local go_sem] Oper.semAt_some
/-- What a call leaves that tells a divisor with cofactors. -/
def RetExt (w : World) (g : Nat) (u v : Int) (e : Ending) (w' : World) : Prop := ∃ (X : Option Addr) (c : Nat) (Y : Option Addr) (d : Nat) (Z : Option Addr) (f : Nat),
  e = .returned (.tuple #[.slice X (nl g) c, .agg #[.bool (sg u), .slice Y (nl (mg u)) d], .agg #[.bool (sg v), .slice Z (nl (mg v)) f]]) ∧ NatV w' X c g ∧ NatV w' Y d (mg u) ∧ NatV w' Z f (mg v) ∧ Below w.heap.size w w'
/-- What the variable holds: the natural itself, or the last one that was handed on. -/
def outw (A : Option Addr) (n c : Nat) (pre : List It) : Value := match pre.getLast? with
  | none => .slice A n c
  | some x => .slice x.A (nl x.a) x.c
theorem outw_snoc (A : Option Addr) (n c : Nat) (pre : List It) (x : It) : outw A n c (pre ++ [x]) = .slice x.A (nl x.a) x.c := by simp [outw]
theorem outw_notU (A : Option Addr) (n c : Nat) (pre : List It) : NotU (outw A n c pre) := by
  unfold outw; split <;> exact notU_slice _ _ _
theorem size2 {W : World} {k : Nat} {v0 v1 : Value} : ((W.setCell ⟨k, 0, none⟩ v0).setCell ⟨k, 1, none⟩ v1).heap.size = W.heap.size := by simp [World.setCell]
theorem Below.st2 {s : Nat} {w W : World} {k : Nat} {v0 v1 : Value} (h : Below s w W) (hk : s ≤ k) : Below s w ((W.setCell ⟨k, 0, none⟩ v0).setCell ⟨k, 1, none⟩ v1) := ((h.setCell (p := ⟨k, 0, none⟩) hk _).setCell (p := ⟨k, 1, none⟩) hk _)
theorem BoxA.set1 {W : World} {k : Nat} {t : TypeId} {u v : Value} (h : BoxA W k t #[u]) : BoxA (W.setCell ⟨k, 0, none⟩ v) k t #[v] := ⟨by have := heap_setCell_same W k 0 _ _ v h.at_; simpa using this⟩
theorem size1 {W : World} {k : Nat} {v : Value} : (W.setCell ⟨k, 0, none⟩ v).heap.size = W.heap.size := by simp [World.setCell]
theorem nu1 {u : Value} (h : NotU u) : ∀ v ∈ (#[u] : Array Value).toList, NotU v := by intro v hv; simp at hv; subst hv; exact h
theorem nu2 {u v : Value} (h : NotU u) (k : NotU v) : ∀ x ∈ (#[u, v] : Array Value).toList, NotU x := by intro x hx; simp at hx; rcases hx with rfl | rfl; exact h; exact k
/-- What stays as it is while the results are written. -/
structure ExG (w : World) (s p D : Nat) (CM : Array Value) (O : Value) (g : Nat) (m : Mx) (X0 : Option Addr) (x0 : Nat) (X1 : Option Addr) (x1 : Nat) (G : Option Addr) (gc : Nat) (W : World) : Prop where
  bm : BoxA W p 48 CM
  bo : BoxA W (p + 1) 22 #[O]
  n0 : NatV W X0 x0 (mg m.a)
  n1 : NatV W X1 x1 (mg m.b)
  ng : NatV W G gc g
  b : Below s w W
  z : p + 4 ≤ W.heap.size
  d : W.heap[D]? = some (.deferred (some []))
theorem ExG.drew {w W : World} {s p D : Nat} {CM : Array Value} {O : Value} {g : Nat} {m : Mx} {X0 X1 G : Option Addr} {x0 x1 gc : Nat} (h : ExG w s p D CM O g m X0 x0 X1 x1 G gc W) : ExG w s p D CM O g m X0 x0 X1 x1 G gc W.drew := by
  have hb : Below W.heap.size W W.drew := (Below.refl _ _).drew
  exact ⟨h.bm.below hb, h.bo.below hb, h.n0.below hb, h.n1.below hb, h.ng.below hb, h.b.drew, h.z, h.d⟩
theorem ExG.put {w W : World} {s p D k : Nat} {CM : Array Value} {O : Value} {g : Nat} {m : Mx} {X0 X1 G : Option Addr} {x0 x1 gc : Nat} (h : ExG w s p D CM O g m X0 x0 X1 x1 G gc W) {t : TypeId} {u0 u1 v0 v1 : Value} (hk : BoxA W k t #[u0, u1]) (h0 : NotU u0) (h1 : NotU u1) (ks : s ≤ k) (kp : k < p) (hD : p ≤ D) :
    ExG w s p D CM O g m X0 x0 X1 x1 G gc ((W.setCell ⟨k, 0, none⟩ v0).setCell ⟨k, 1, none⟩ v1) :=
  ⟨h.bm.other2 (by omega), h.bo.other2 (by omega), hk.keep2 (nu2 h0 h1) h.n0, hk.keep2 (nu2 h0 h1) h.n1, hk.keep2 (nu2 h0 h1) h.ng, Below.st2 h.b ks, by rw [size2]; exact h.z, (set2_far D (by omega)).trans h.d⟩
theorem ext_c (A : Option Addr) (c a : Nat) (B : Option Addr) (d b : Nat) (w : World) (hA : NatV w A c a) (hB : NatV w B d b) (hG : Flds w) (la : nl a ≤ 8192) (lb : nl b ≤ 8192) :
    Calls Tryd.prog 11 #[.slice A (nl a) c, .slice B (nl b) d] w (RetExt w (Nat.gcd a b) (exu a b) (exv a b)) := by
  refine (callsIn_wide (n := 4)).1 ?_
  refine callsIn_of_wp_marks Tryd.func11 rfl trivial ?_ rfl
  simp only [Tryd.ntmps11, List.size_toArray, List.length_cons, List.length_nil, Nat.reduceAdd, Nat.reduceSub, Array.replicate_succ, Array.replicate_zero, List.push_toArray, List.append_toArray, List.nil_append, List.cons_append]
  gi_wp2_with (fail)
  refine ⟨trivial, ?_⟩
  refine (callsIn_wide.2 (unit_c _)).mono ?_
  rintro e w1 ⟨A0, a0, B0, b0, C0, c0, D0, d0, rfl, m0, m1, m2, m3, hb1⟩
  gi_wp2_with (fail)
  refine ⟨trivial, ?_⟩
  refine (callsIn_wide.2 (rests_c A (nl a) c B (nl b) d _)).mono ?_
  rintro e w' ⟨rfl, rfl⟩
  gi_wp2_with (fail)
  obtain ⟨p, hp0⟩ : ∃ p, p = w1.heap.size := ⟨_, rfl⟩
  obtain ⟨s, hs0⟩ : ∃ s, s = w.heap.size := ⟨_, rfl⟩
  have hsz1 := hb1.size
  have hsp : s + 2 ≤ p := by rw [hs0, hp0]; simp at hsz1; omega
  have hb00 : Below w.heap.size w ((w.alloc (.cells #[.bool false, .slice none 0 0] 31)).alloc (.cells #[.bool false, .slice none 0 0] 31)) := (((Below.refl _ _).alloc (Nat.le_refl _) _).alloc (by simp) _)
  have hb01 : Below w.heap.size w w1 := Below.cons hb00 hb1
  have bR1 : BoxA w1 s 31 #[.bool false, .slice none 0 0] := by rw [hs0]; exact BoxA.below (W := ((w.alloc (.cells #[.bool false, .slice none 0 0] 31)).alloc (.cells #[.bool false, .slice none 0 0] 31))) ⟨at_old (by simp) (at_new rfl)⟩ hb1
  have bV1 : BoxA w1 (s + 1) 31 #[.bool false, .slice none 0 0] := by rw [hs0]; exact BoxA.below (W := ((w.alloc (.cells #[.bool false, .slice none 0 0] 31)).alloc (.cells #[.bool false, .slice none 0 0] 31))) ⟨at_new (by simp)⟩ hb1
  obtain ⟨W8, hW8⟩ : ∃ W8, ((((w1.alloc (.cells #[.bool (sg Mx.one.a), .slice A0 (nl (mg Mx.one.a)) a0, .bool (sg Mx.one.b), .slice B0 (nl (mg Mx.one.b)) b0, .bool (sg Mx.one.c), .slice C0 (nl (mg Mx.one.c)) c0, .bool (sg Mx.one.d), .slice D0 (nl (mg Mx.one.d)) d0] 48)).alloc (.cells #[.slice A (nl a) c] 22)).alloc (.cells #[.slice A (nl a) c] 22)).alloc (.cells #[.slice B (nl b) d] 22)) = W8 := ⟨_, rfl⟩
  have bM : BoxA W8 p 48 #[.bool (sg Mx.one.a), .slice A0 (nl (mg Mx.one.a)) a0, .bool (sg Mx.one.b), .slice B0 (nl (mg Mx.one.b)) b0, .bool (sg Mx.one.c), .slice C0 (nl (mg Mx.one.c)) c0, .bool (sg Mx.one.d), .slice D0 (nl (mg Mx.one.d)) d0] := by
    subst hp0 hW8; refine ⟨?_⟩; repeat (first | exact at_new (by first | (simp; done) | (simp; omega)) | refine at_old (by simp <;> omega) ?_)
  have bN : BoxA W8 (p + 1) 22 #[.slice A (nl a) c] := by
    subst hp0 hW8; refine ⟨?_⟩; repeat (first | exact at_new (by first | (simp; done) | (simp; omega)) | refine at_old (by simp <;> omega) ?_)
  have bA : Boxed W8 (p + 2) 22 (.slice A (nl a) c) := by
    subst hp0 hW8; unfold Boxed; repeat (first | exact at_new (by first | (simp; done) | (simp; omega)) | refine at_old (by simp <;> omega) ?_)
  have bB : Boxed W8 (p + 3) 22 (.slice B (nl b) d) := by
    subst hp0 hW8; unfold Boxed; repeat (first | exact at_new (by first | (simp; done) | (simp; omega)) | refine at_old (by simp <;> omega) ?_)
  have hsz : W8.heap.size = p + 4 := by subst hp0 hW8; simp
  have hB18 : Below w1.heap.size w1 W8 := by
    subst hW8
    exact (((((Below.refl _ w1).alloc (Nat.le_refl _) _).alloc (by simp) _).alloc (by simp; omega) _).alloc (by simp; omega) _)
  have hB08 := hb01.cons hB18
  have hB0 : Below s w W8 := hB08.mono (Nat.le_of_eq hs0)
  have bR := bR1.below hB18
  have bV := bV1.below hB18
  have hA8 := hA.below hB08
  have hB8 := hB.below hB08
  have M0 := m0.below hB18
  have M1 := m1.below hB18
  have M2 := m2.below hB18
  have M3 := m3.below hB18
  have hG8 := hG.below hB08
  have hsw : ∀ W, Below s w W → Flds W := fun W h => hG.below (h.mono (Nat.le_of_eq hs0.symm))
  rw [← hs0, ← hp0]
  simp only [Nat.add_assoc, Nat.reduceAdd]
  rw [hW8]
  clear hW8 hG8 m0 m1 m2 m3 bR1 bV1 hB18 hB08 hb01
  have HS := Lib.hid hs0
  have HP := Lib.hid hp0
  clear hs0 hp0 hsz1 hb1 hb00
  replace hsw := Lib.hid hsw
  refine wpIn_rangeX (w0 := W8) rfl (by omega) (gf := 41) (lb := #[.pointer (some ⟨p + 2, 0, none⟩), .pointer (some ⟨p + 3, 0, none⟩)]) rfl trivial (enters_of Tryd.func41 (by kernel_rfl) rfl)
    (rests_seq A c a B d b (p + 2) (p + 3) (by omega) W8 (by omega) (by omega) bA bB hA8 hB8) (fun X Y h k h1 h2 => h.block k h2 (by omega) (by omega))
    KpU.t (fun W l o o' h1 h2 h3 h4 => KpU.bk W l o o' h1 h2 h3 h4) (Below.refl _ _) (fun _ => rfl) (own_euH a b _) (own_euS a b _) (own_euP a b _)
    (fun pre W => (∃ k, MxB W p (eum a b k) ∧ ((k = pre.length ∧ ∀ i, i < k → (euc a b i).2 ≠ 0) ∨ (k + 1 = pre.length ∧ (euc a b k).2 = 0))) ∧ BoxA W (p + 1) 22 #[outw A (nl a) c pre] ∧ BoxA W s 31 #[.bool false, .slice none 0 0] ∧ BoxA W (s + 1) 31 #[.bool false, .slice none 0 0] ∧ Below s w W ∧ p + 4 ≤ W.heap.size)
    (fun c pre W => False)
    ?own ?ownx ?mv ?start
    (fun x => { tmps := #[.slice A (nl a) c, .slice B (nl b) d, undef, undef, .slice none 0 0, .pointer (some ⟨s, 0, none⟩), .pointer (some ⟨s + 1, 0, none⟩), .pointer (some ⟨p, 0, none⟩), .pointer (some ⟨p + 1, 0, none⟩), .slice x.A (nl x.a) x.c, .slice x.B (nl x.b) x.d, undef, undef, undef, .agg #[.bool (sg Mx.one.a), .slice A0 (nl (mg Mx.one.a)) a0, .bool (sg Mx.one.b), .slice B0 (nl (mg Mx.one.b)) b0, .bool (sg Mx.one.c), .slice C0 (nl (mg Mx.one.c)) c0, .bool (sg Mx.one.d), .slice D0 (nl (mg Mx.one.d)) d0], .slice A (nl a) c, .slice A (nl a) c, .slice B (nl b) d, .func (.func 41) #[] #[.pointer (some ⟨p + 2, 0, none⟩), .pointer (some ⟨p + 3, 0, none⟩)], .slice x.A (nl x.a) x.c, .slice x.B (nl x.b) x.d, undef, undef, undef, undef, undef, undef, undef, undef, undef, undef, undef, undef, undef, undef, undef, undef, undef, undef, undef], defers := [] }) ?assign ?body ?done ?stop
  case own =>
    refine OwnFrom.and ?_ (OwnFrom.and (own_boxA (p + 1) _ (fun xs => #[outw A (nl a) c xs]) _) (OwnFrom.and (own_boxA s _ (fun _ => _) _) (OwnFrom.and (own_boxA (s + 1) _ (fun _ => _) _) (OwnFrom.and (ownFrom_below (Nat.le_of_eq HS.out) (by omega)) (own_size _ _)))))
    rintro xs W W' row ⟨k, h1, h2⟩ hg hr
    exact ⟨k, h1.kept hg (fun r e => (hr r e).2), h2⟩
  case ownx => rintro c xs W W' row h hg hr; exact h.elim
  case mv =>
    rintro x Y Z ⟨⟨k, h1, h2⟩, h3, h4, h5, h6, h7⟩ hm
    exact ⟨⟨k, h1.mvu hm (by omega) (by omega), h2⟩, h3.mvu hm (by omega) (by omega), h4.mvu hm (by omega) (by omega), h5.mvu hm (by omega) (by omega), mvu_below h6 hm (by omega) (by omega) (by omega), Nat.le_trans h7 hm.size⟩
  case start => exact ⟨⟨0, ⟨A0, a0, B0, b0, C0, c0, D0, d0, bM, M0, M1, M2, M3⟩, .inl ⟨rfl, fun i hi => by omega⟩⟩, bN, bR, bV, hB0, by omega⟩
  case assign =>
    intro l x W K hK
    simp only [It.enc]
    gi_wp2
    exact hK
  case stop =>
    rintro D cc pre W hD hP h hK
    exact h.elim
  case done =>
    rintro D ys W hD ⟨pre, x, rfl, hE, hx0⟩ ⟨⟨k, hM, hk⟩, hO, hR, hV, hB, hs6⟩ hK
    have hxb : (euc a b pre.length).2 = 0 := by rw [← hE.2.1]; exact hx0
    have hkn : k = eun a b := by
      rcases hk with ⟨rfl, h⟩ | ⟨h1, h2⟩
      · exact absurd hxb (h pre.length (by simp))
      · have : k = pre.length := by simpa using h1
        subst this
        exact eun_eq hxb hE.2.2
    have hpn : pre.length = eun a b := eun_eq hxb hE.2.2
    have hxg : x.a = Nat.gcd a b := by
      have h1 := eun_gcd a b
      rw [← hpn, ← hE.2.1] at h1; exact h1
    rw [outw_snoc] at hO
    obtain ⟨m, Em⟩ : ∃ m, m = eum a b k := ⟨_, rfl⟩
    rw [← Em] at hM
    have eu : m.a = exu a b := by rw [Em, hkn]; rfl
    have ev : m.b = exv a b := by rw [Em, hkn]; rfl
    obtain ⟨X0, x0, X1, x1, X2, x2, X3, x3, hbox, N0, N1, N2, N3⟩ := hM
    have hG : ExG w s p D _ _ x.a m X0 x0 X1 x1 x.A x.c W := ⟨hbox, hO, N0, N1, hE.1.1, hB, hs6, hK⟩
    obtain ⟨XA, xc, xa, YA, yd, yb⟩ := x
    simp only at hG hxg hO
    have hDp : p ≤ D := by omega
    replace hxg := Lib.hid hxg
    replace eu := Lib.hid eu
    replace ev := Lib.hid ev
    clear hE hO hbox N0 N1 N2 N3 hB hs6 hK hk hkn hpn hxb hx0 Em
    gi_wp2_with (fail)
    refine wpIn_region_inv (fun E a' w' => ∃ (v4 u35 u36 u37 u38 u39 : Value),
      a' = { tmps := #[.slice A (nl a) c, .slice B (nl b) d, undef, undef, v4, .pointer (some ⟨s, 0, none⟩), .pointer (some ⟨s + 1, 0, none⟩), .pointer (some ⟨p, 0, none⟩), .pointer (some ⟨p + 1, 0, none⟩), undef, undef, undef, undef, undef, .agg #[.bool (sg Mx.one.a), .slice A0 (nl (mg Mx.one.a)) a0, .bool (sg Mx.one.b), .slice B0 (nl (mg Mx.one.b)) b0, .bool (sg Mx.one.c), .slice C0 (nl (mg Mx.one.c)) c0, .bool (sg Mx.one.d), .slice D0 (nl (mg Mx.one.d)) d0], .slice A (nl a) c, .slice A (nl a) c, .slice B (nl b) d, .func (.func 41) #[] #[.pointer (some ⟨p + 2, 0, none⟩), .pointer (some ⟨p + 3, 0, none⟩)], undef, undef, undef, undef, undef, undef, undef, undef, undef, undef, undef, undef, undef, undef, undef, undef, u35, u36, u37, u38, u39], defers := [{ target := Target.collected D, args := #[] }] } ∧
      (E 0 = true → u35 = .slice XA (nl xa) xc) ∧ (E 1 = true → u36 = .pointer (some ⟨p, 0, none⟩)) ∧ (E 2 = true → u37 = .agg #[.bool (sg m.a), .slice X0 (nl (mg m.a)) x0]) ∧ (E 3 = true → u38 = .pointer (some ⟨p, 2, none⟩)) ∧ (E 4 = true → u39 = .agg #[.bool (sg m.b), .slice X1 (nl (mg m.b)) x1]) ∧ (E 5 = true → v4 = .slice XA (nl xa) xc) ∧
      (E 6 = true → BoxA w' s 31 #[.bool (sg m.a), .slice X0 (nl (mg m.a)) x0]) ∧ (E 7 = true → BoxA w' (s + 1) 31 #[.bool (sg m.b), .slice X1 (nl (mg m.b)) x1]) ∧ (∃ r0 r1, BoxA w' s 31 #[r0, r1] ∧ NotU r0 ∧ NotU r1) ∧ (∃ r0 r1, BoxA w' (s + 1) 31 #[r0, r1] ∧ NotU r0 ∧ NotU r1) ∧
      ExG w s p D #[.bool (sg m.a), .slice X0 (nl (mg m.a)) x0, .bool (sg m.b), .slice X1 (nl (mg m.b)) x1, .bool (sg m.c), .slice X2 (nl (mg m.c)) x2, .bool (sg m.d), .slice X3 (nl (mg m.d)) x3] (.slice XA (nl xa) xc) xa m X0 x0 X1 x1 XA xc w') (by kernel_rfl) (by kernel_rfl) ?init ?fin ?step
    case init => exact ⟨_, _, _, _, _, _, rfl, by simp, by simp, by simp, by simp, by simp, by simp, by simp, by simp, ⟨_, _, hR.below (Below.refl _ _).drew, notU_bool _, notU_slice _ _ _⟩, ⟨_, _, hV.below (Below.refl _ _).drew, notU_bool _, notU_slice _ _ _⟩, hG.drew⟩
    case fin =>
      rintro E a' w' ⟨v4, u35, u36, u37, u38, u39, rfl, h0, h1, h2, h3, h4, h5, h6, h7, _, _, hG⟩ hall
      obtain rfl := h5 (hall 5 (by decide))
      have b6 := h6 (hall 6 (by decide))
      have b7 := h7 (hall 7 (by decide))
      gi_wp2_with (fail)
      have hDlt : D < w'.heap.size := (Array.getElem?_eq_some_iff.1 hG.d).1
      have hg := grownBy_putObj' w' D (.deferred none)
      have hr : ∀ r, some D = some r → ∃ o : Obj, w'.heap[r]? = some o ∧ o.isCells = false := fun r e => by cases e; exact ⟨_, hG.d, rfl⟩
      have hp : Below s w (w'.putObj D (.deferred none)) := hG.b.trans (belowK_b (w := W8) (by omega) w' D _ _ (by omega) hG.d rfl rfl)
      have b6' := b6.kept hg hr
      have b7' := b7.kept hg hr
      have e0 := b6'.c (i := 0) rfl
      have e1 := b6'.c (i := 1) rfl
      have e2 := b7'.c (i := 0) rfl
      have e3 := b7'.c (i := 1) rfl
      refine ⟨by simp, .inl ⟨_, _, rfl, run_takeDeferred hG.d, ?_⟩⟩
      refine ⟨.tuple #[.slice XA (nl xa) xc, .agg #[.bool (sg m.a), .slice X0 (nl (mg m.a)) x0], .agg #[.bool (sg m.b), .slice X1 (nl (mg m.b)) x1]], by simp [results, Tryd.results11, go_sem, e0, e1, e2, e3], ?_⟩
      rw [← hxg.out, ← eu.out, ← ev.out]
      exact ⟨XA, xc, X0, x0, X1, x1, rfl, hG.ng.kept hg hr, hG.n0.kept hg hr, hG.n1.kept hg hr, hp.mono (Nat.le_of_eq HS.out.symm)⟩
    case step =>
      rintro E a' w' i ⟨v4, u35, u36, u37, u38, u39, rfl, h0, h1, h2, h3, h4, h5, h6, h7, h8, h9, hG⟩ hi hEi hdep
      have qO := hG.bo.c (i := 0) rfl
      have qm0 := hG.bm.c (i := 0) rfl
      have qm1 := hG.bm.c (i := 1) rfl
      have qm2 := hG.bm.c (i := 2) rfl
      have qm3 := hG.bm.c (i := 3) rfl
      obtain rfl | rfl | rfl | rfl | rfl | rfl | rfl | rfl : i = 0 ∨ i = 1 ∨ i = 2 ∨ i = 3 ∨ i = 4 ∨ i = 5 ∨ i = 6 ∨ i = 7 := by
        simp at hi; omega
      · skip
        refine wpOpIn_step rfl (fun K' hK' => ?_)
        go_simp
        refine hK' _ _ ?_
        exact ⟨_, _, _, _, _, _, rfl, fun _ => rfl, keepD (by decide) h1, keepD (by decide) h2, keepD (by decide) h3, keepD (by decide) h4, keepD (by decide) h5, keepD (by decide) h6, keepD (by decide) h7, h8, h9, hG⟩
      · skip
        refine wpOpIn_step rfl (fun K' hK' => ?_)
        go_simp
        refine hK' _ _ ?_
        exact ⟨_, _, _, _, _, _, rfl, keepD (by decide) h0, fun _ => rfl, keepD (by decide) h2, keepD (by decide) h3, keepD (by decide) h4, keepD (by decide) h5, keepD (by decide) h6, keepD (by decide) h7, h8, h9, hG⟩
      · skip
        have d1 := hdep _ rfl ⟨1, .data⟩ (by simp) rfl
        obtain rfl := h1 d1
        refine wpOpIn_step rfl (fun K' hK' => ?_)
        go_simp
        refine hK' _ _ ?_
        exact ⟨_, _, _, _, _, _, rfl, keepD (by decide) h0, keepD (by decide) h1, fun _ => rfl, keepD (by decide) h3, keepD (by decide) h4, keepD (by decide) h5, keepD (by decide) h6, keepD (by decide) h7, h8, h9, hG⟩
      · skip
        refine wpOpIn_step rfl (fun K' hK' => ?_)
        go_simp
        refine hK' _ _ ?_
        exact ⟨_, _, _, _, _, _, rfl, keepD (by decide) h0, keepD (by decide) h1, keepD (by decide) h2, fun _ => rfl, keepD (by decide) h4, keepD (by decide) h5, keepD (by decide) h6, keepD (by decide) h7, h8, h9, hG⟩
      · skip
        have d3 := hdep _ rfl ⟨3, .data⟩ (by simp) rfl
        obtain rfl := h3 d3
        refine wpOpIn_step rfl (fun K' hK' => ?_)
        go_simp
        refine hK' _ _ ?_
        exact ⟨_, _, _, _, _, _, rfl, keepD (by decide) h0, keepD (by decide) h1, keepD (by decide) h2, keepD (by decide) h3, fun _ => rfl, keepD (by decide) h5, keepD (by decide) h6, keepD (by decide) h7, h8, h9, hG⟩
      · skip
        have d0 := hdep _ rfl ⟨0, .data⟩ (by simp) rfl
        obtain rfl := h0 d0
        refine wpOpIn_step rfl (fun K' hK' => ?_)
        go_simp
        refine hK' _ _ ?_
        exact ⟨_, _, _, _, _, _, rfl, keepD (by decide) h0, keepD (by decide) h1, keepD (by decide) h2, keepD (by decide) h3, keepD (by decide) h4, fun _ => rfl, keepD (by decide) h6, keepD (by decide) h7, h8, h9, hG⟩
      · skip
        have d2 := hdep _ rfl ⟨2, .data⟩ (by simp) rfl
        obtain rfl := h2 d2
        obtain ⟨r0, r1, hbx, z0, z1⟩ := h8
        obtain ⟨r2, r3, hby, z2, z3⟩ := h9
        have fz0 := hbx.f (i := 0)
        have fz1 := hbx.f (i := 1)
        have cz0 := hbx.c (i := 0) rfl
        have cz1 := hbx.c (i := 1) rfl
        have HG := hG.put (k := s) (v0 := .bool (sg m.a)) (v1 := .slice X0 (nl (mg m.a)) x0) hbx z0 z1 (by omega) (by omega) hDp
        have HS2 := hbx.store2 (.bool (sg m.a)) (.slice X0 (nl (mg m.a)) x0)
        have HO2 := hby.other2 (v0 := .bool (sg m.a)) (v1 := .slice X0 (nl (mg m.a)) x0) (k := s) (by omega)
        refine wpOpIn_step rfl (fun K' hK' => ?_)
        go_simp
        refine hK' _ _ ?_
        exact ⟨_, _, _, _, _, _, rfl, keepD (by decide) h0, keepD (by decide) h1, keepD (by decide) h2, keepD (by decide) h3, keepD (by decide) h4, keepD (by decide) h5, fun _ => HS2, keepP (by decide) h7 (fun h => h.other2 (by omega)), ⟨_, _, HS2, notU_bool _, notU_slice _ _ _⟩, ⟨_, _, HO2, z2, z3⟩, HG⟩
      · skip
        have d4 := hdep _ rfl ⟨4, .data⟩ (by simp) rfl
        obtain rfl := h4 d4
        obtain ⟨r0, r1, hbx, z0, z1⟩ := h9
        obtain ⟨r2, r3, hby, z2, z3⟩ := h8
        have fz0 := hbx.f (i := 0)
        have fz1 := hbx.f (i := 1)
        have cz0 := hbx.c (i := 0) rfl
        have cz1 := hbx.c (i := 1) rfl
        have HG := hG.put (k := s + 1) (v0 := .bool (sg m.b)) (v1 := .slice X1 (nl (mg m.b)) x1) hbx z0 z1 (by omega) (by omega) hDp
        have HS2 := hbx.store2 (.bool (sg m.b)) (.slice X1 (nl (mg m.b)) x1)
        have HO2 := hby.other2 (v0 := .bool (sg m.b)) (v1 := .slice X1 (nl (mg m.b)) x1) (k := s + 1) (by omega)
        refine wpOpIn_step rfl (fun K' hK' => ?_)
        go_simp
        refine hK' _ _ ?_
        exact ⟨_, _, _, _, _, _, rfl, keepD (by decide) h0, keepD (by decide) h1, keepD (by decide) h2, keepD (by decide) h3, keepD (by decide) h4, keepD (by decide) h5, keepP (by decide) h6 (fun h => h.other2 (by omega)), fun _ => HS2, ⟨_, _, HO2, z2, z3⟩, ⟨_, _, HS2, notU_bool _, notU_slice _ _ _⟩, HG⟩
  case body =>
    rintro l pre ⟨XA, xc, xa, YA, yd, yb⟩ W ⟨⟨k, hM, hk⟩, hO, hR, hV, hB, hs6⟩ hE
    obtain ⟨⟨hX, hY⟩, hxy, hnz⟩ := hE
    simp only at hX hY hxy
    have hkl : k = pre.length := by
      rcases hk with ⟨h, _⟩ | ⟨h1, h2⟩
      · exact h
      · exact absurd h2 (hnz k (by omega))
    subst hkl
    clear hk
    have hL := euc_nl la lb pre.length
    rw [← hxy] at hL
    simp only at hL
    have hyb : yb = (euc a b pre.length).2 := by rw [← hxy]
    have hxa : xa = (euc a b pre.length).1 := by rw [← hxy]
    replace hxy := Lib.hid hxy
    replace hyb := Lib.hid hyb
    replace hxa := Lib.hid hxa
    obtain ⟨Oc, hOc⟩ : ∃ v, v = outw A (nl a) c pre := ⟨_, rfl⟩
    have hOn : NotU Oc := by rw [hOc]; exact outw_notU _ _ _ _
    rw [← hOc] at hO
    replace hOc := Lib.hid hOc
    have fO := hO.f (i := 0)
    have qO := hO.c (i := 0) rfl
    obtain ⟨W2, hW2⟩ : ∃ W2, W2 = W.setCell ⟨p + 1, 0, none⟩ (.slice XA (nl xa) xc) := ⟨_, rfl⟩
    have hW2f : ∀ j, j ≠ p + 1 → W2.heap[j]? = W.heap[j]? := fun j hj => by rw [hW2]; exact Below.heap_setCell _ _ _ _ (by simpa using hj)
    have hsz2 : W2.heap.size = W.heap.size := by rw [hW2]; exact size1
    have hX2 : NatV W2 XA xc xa := hO.keep (nu1 hOn) hW2f hX
    have hY2 : NatV W2 YA yd yb := hO.keep (nu1 hOn) hW2f hY
    have hO2 : BoxA W2 (p + 1) 22 #[.slice XA (nl xa) xc] := by rw [hW2]; exact hO.set1
    have hR2 : BoxA W2 s 31 #[.bool false, .slice none 0 0] := ⟨(hW2f s (by omega)).trans hR.at_⟩
    have hV2 : BoxA W2 (s + 1) 31 #[.bool false, .slice none 0 0] := ⟨(hW2f (s + 1) (by omega)).trans hV.at_⟩
    have hB2 : Below s w W2 := by rw [hW2]; exact hB.setCell (p := ⟨p + 1, 0, none⟩) (by show s ≤ p + 1; omega) _
    have ko2 : KeepsOthers W W2 := ko_far hO hsz2 hW2f
    have kp2 : KpU (p + 2) (p + 3) W W2 := kpu_far hO (nu1 hOn) hW2f (by omega) (by omega)
    have hM2 : MxB W2 p (eum a b pre.length) := by
      obtain ⟨X0, x0, X1, x1, X2, x2, X3, x3, hbox, N0, N1, N2, N3⟩ := hM
      exact ⟨X0, x0, X1, x1, X2, x2, X3, x3, ⟨(hW2f p (by omega)).trans hbox.at_⟩, hO.keep (nu1 hOn) hW2f N0, hO.keep (nu1 hOn) hW2f N1, hO.keep (nu1 hOn) hW2f N2, hO.keep (nu1 hOn) hW2f N3⟩
    have hlst : ∀ V : World, outw A (nl a) c (pre ++ [(⟨XA, xc, xa, YA, yd, yb⟩ : It)]) = .slice XA (nl xa) xc := fun V => outw_snoc _ _ _ _ _
    clear hM hR hV hB
    replace ko2 := Lib.hid ko2
    replace kp2 := Lib.hid kp2
    replace hlst := Lib.hid hlst
    by_cases hy : yb = 0
    · have t1 : decide (0 < (nl yb : Int)) = false := by rw [hy, nl_zero]; rfl
      have t2 : decide (0 < nl yb) = false := by rw [hy, nl_zero]; rfl
      replace hy := Lib.hid hy
      gi_wp2_with (fail)
      rw [← hW2]
      refine ⟨ko2.out, kp2.out, ⟨pre.length, hM2, .inr ⟨by simp, by rw [← hyb.out]; exact hy.out⟩⟩, ?_, hR2, hV2, hB2, by rw [hsz2]; exact hs6⟩
      rw [hlst.out W2]; exact hO2
    · have t1 : decide (0 < (nl yb : Int)) = true := by have := nl_pos.2 hy; simp; omega
      have t2 : decide (0 < nl yb) = true := by have := nl_pos.2 hy; simp; omega
      have hy0 : 0 < yb := Nat.pos_of_ne_zero hy
      replace hy := Lib.hid hy
      have CD := ddivmod_c XA xc xa YA yd yb W2 hX2 hY2 (by omega) (by omega) hy0
      obtain ⟨q, Eq⟩ : ∃ z, z = xa / yb := ⟨_, rfl⟩
      rw [← Eq] at CD
      have hq : nl q ≤ 8192 := by rw [Eq]; exact Nat.le_trans (nl_div _ _) hL.1
      obtain ⟨m, Em⟩ : ∃ z, z = eum a b pre.length := ⟨_, rfl⟩
      rw [← Em] at hM2
      have hms : m.sz 16384 := by rw [Em]; exact (eum_sz (L := 8192) la lb (by decide) _ hnz).mono (by decide)
      have hnx : eum a b (pre.length + 1) = m.nx q := by rw [Em, Eq, hxa.out, hyb.out]; rfl
      replace Eq := Lib.hid Eq
      replace Em := Lib.hid Em
      replace hnx := Lib.hid hnx
      replace CD := Lib.hid CD
      gi_wp2_with (fail)
      rw [← hW2]
      refine ⟨trivial, ?_⟩
      refine (callsIn_wide.2 CD.out).mono ?_
      rintro e W3 ⟨Q, cq, R, cr, rfl, hQ, hRr, hb3⟩
      obtain ⟨X0, x0, X1, x1, X2, x2, X3, x3, hbox3, K0, K1, K2, K3⟩ := hM2.below hb3
      have hB3 : Below s w W3 := hB2.trans (hb3.mono (by omega))
      have q0 := hbox3.c (i := 0) rfl
      have q1 := hbox3.c (i := 1) rfl
      have q2 := hbox3.c (i := 2) rfl
      have q3 := hbox3.c (i := 3) rfl
      have q4 := hbox3.c (i := 4) rfl
      have q5 := hbox3.c (i := 5) rfl
      have q6 := hbox3.c (i := 6) rfl
      have q7 := hbox3.c (i := 7) rfl
      have CT := then_c X0 x0 X1 x1 X2 x2 X3 x3 m Q cq q W3 K0 K1 K2 K3 hQ (hsw.out _ hB3) hms (by omega)
      replace CT := Lib.hid CT
      gi_wp2_with (fail)
      refine ⟨trivial, ?_⟩
      refine (callsIn_wide.2 CT.out).mono ?_
      rintro e W4 ⟨Y0, y0, Y1, y1, Y2, y2, Y3, y3, rfl, V0, V1, V2, V3, hb4⟩
      have hbox4 := hbox3.below hb4
      have fz0 := hbox4.f (i := 0)
      have cz_0 := hbox4.c (i := 0) rfl
      have fz1 := hbox4.f (i := 1)
      have cz_1 := hbox4.c (i := 1) rfl
      have fz2 := hbox4.f (i := 2)
      have cz_2 := hbox4.c (i := 2) rfl
      have fz3 := hbox4.f (i := 3)
      have cz_3 := hbox4.c (i := 3) rfl
      have fz4 := hbox4.f (i := 4)
      have cz_4 := hbox4.c (i := 4) rfl
      have fz5 := hbox4.f (i := 5)
      have cz_5 := hbox4.c (i := 5) rfl
      have fz6 := hbox4.f (i := 6)
      have cz_6 := hbox4.c (i := 6) rfl
      have fz7 := hbox4.f (i := 7)
      have cz_7 := hbox4.c (i := 7) rfl
      gi_wp2_with (fail)
      have hO4 := (hO2.below hb3).below hb4
      have hR4 := (hR2.below hb3).below hb4
      have hV4 := (hV2.below hb3).below hb4
      refine ⟨ko2.out.trans ((ko_below hb3).trans ((ko_below hb4).trans (ko_far hbox4 size8 (fun j hj => set8_far j hj)))), kp2.out.t ((kpu_below hb3).t ((kpu_below hb4).t (kpu_far hbox4 (lista8 _ rfl) (fun j hj => set8_far j hj) (by omega) (by omega)))), ⟨pre.length + 1, ?_, .inl ⟨by simp, ?_⟩⟩, ?_, hR4.far8 (by omega), hV4.far8 (by omega), Below.st8 (hB3.trans (hb4.mono (by have := hb3.size; omega))) (by omega), by rw [size8]; exact Nat.le_trans hs6 (Nat.le_trans (Nat.le_of_eq hsz2.symm) (Nat.le_trans hb3.size hb4.size))⟩
      · rw [hnx.out]
        exact ⟨Y0, y0, Y1, y1, Y2, y2, Y3, y3, hbox4.store8 _ _ _ _ _ _ _ _, hbox4.keep8 (lista8 _ rfl) V0, hbox4.keep8 (lista8 _ rfl) V1, hbox4.keep8 (lista8 _ rfl) V2, hbox4.keep8 (lista8 _ rfl) V3⟩
      · intro i hi
        by_cases e : i = pre.length
        · rw [e, ← hyb.out]; exact hy.out
        · exact hnz i (by omega)
      · rw [hlst.out W4]; exact hO4.far8 (by omega)
end Go.Proofs.YthcmoimlnhghcaaDoor

/- Appending to a row of the call's own that holds no limbs: it stays so, and naturals stay where they lie. -/
set_option linter.unusedVariables false
set_option linter.unusedSimpArgs false
namespace Go.Proofs.YthcmoimlnhghcaaDoor
open Go.RowKit Go.Shelf
attribute [local go_sem] Oper.semAt_some

/-- The row that a slice of the call's own lies in holds no limbs. -/
def NU (w : World) (v : Value) : Prop := ∀ g, v.ownBlock = some g → ∃ cur e, w.heap[g]? = some (.cells cur e (0, 0)) ∧ ∀ u ∈ cur.toList, NotU u
theorem nu_none (w : World) (n c : Nat) : NU w (.slice none n c) := fun g h => by simp [Value.ownBlock] at h
theorem NU.same {w w' : World} {v : Value} (h : NU w v) (hk : ∀ g o, v.ownBlock = some g → w.heap[g]? = some o → o.isCells = true → w'.heap[g]? = some o) : NU w' v := fun g hg => by
  obtain ⟨cur, e, h1, h2⟩ := h g hg
  exact ⟨cur, e, hk g _ hg h1 rfl, h2⟩
theorem NU.below {w w' : World} {v : Value} (h : NU w v) (hb : Below w.heap.size w w') : NU w' v := h.same fun g o _ h1 _ => heap_below hb h1
theorem NU.kept {w w' : World} {v : Value} {row : Option Nat} (h : NU w v) (hg : w.grownBy w' row) (hr : ∀ r, row = some r → ∃ o : Obj, w.heap[r]? = some o ∧ o.isCells = false) : NU w' v := by
  refine h.same fun g o hgo h1 hc => ?_
  rw [hg.block g (Array.getElem?_eq_some_iff.1 h1).1 (fun e => by obtain ⟨o', h2, h3⟩ := hr g e.symm; rw [h1] at h2; cases h2; rw [hc] at h3; cases h3)]
  exact h1
theorem NU.far {w w' : World} {v : Value} {k : Nat} (h : NU w v) (hk : ∀ g, v.ownBlock = some g → g ≠ k) (hW : ∀ j, j ≠ k → w'.heap[j]? = w.heap[j]?) : NU w' v := h.same fun g o hgo h1 _ => (hW g (hk g hgo)).trans h1
/-- What is no limb's row may grow: limbs stay. -/
theorem u_grown {w w' : World} {v : Value} (h : NU w v) (hg : w.grownBy w' v.ownBlock) (p : Addr) (x : Nat) (e : w.cell? p = some (.int .u32 (x : Nat))) : w'.cell? p = some (.int .u32 (x : Nat)) := by
  have hlt := World.block_lt_of_cell? w _ e
  have hne : some p.block ≠ v.ownBlock := fun e2 => by
    obtain ⟨cur, t, h1, h2⟩ := h p.block e2.symm
    unfold World.cell? at e
    rw [h1] at e
    simp only at e
    split at e
    · cases e
    · have hm := Array.mem_of_getElem? e
      exact h2 _ (Array.mem_def.1 hm) x rfl
  rw [World.cell?_of_block (w := w) (a := p) (hg.block p.block hlt hne)]
  exact e
theorem NatV.grown {w w' : World} {v : Value} {A : Option Addr} {c n : Nat} (hN : NatV w A c n) (h : NU w v) (hg : w.grownBy w' v.ownBlock) : NatV w' A c n :=
  NatV.kpu (Ba := w.heap.size) (Bb := w.heap.size) hN ⟨u_grown h hg, fun o _ e => by simp at e, fun o _ e => by simp at e⟩
theorem mem_zero {z : Array Value} {n : Nat} {u : Value} (hz : 0 < z.size) (h : u ∈ (Builtin.zeroCells z n).toList) : u ∈ z.toList := by
  simp only [Builtin.zeroCells] at h
  simp at h
  obtain ⟨k, _, rfl⟩ := h
  simp only [Array.mem_toList_iff]
  have : k % z.size < z.size := Nat.mod_lt _ hz
  rw [getElem!_pos z (k % z.size) this]
  exact Array.getElem_mem this
theorem run_append_nu {P : Program} (w : World) (base : Nat) (t ty e : TypeId) (i : TypeInfo) (z : Value) (size bytes : Nat) (ht : P.underlying t = some (.slice e)) (hi : P.info? e = some i) (hz : i.zero = some z)
    (hsize : i.size = size) (hby : i.bytes = bytes) (hzs : z.cells.size = size) (hsz : 0 < size)
    (v : Value) (n : Nat) (xs : List Value) (hown : w.ownsRow base e size v n xs)
    (a : Addr) (m c : Nat) (news : List Value) (hl : news.length = m * size) (hnews : ∀ j u, news[j]? = some u → w.cell? (a.add j) = some u) (h1 : ∀ u ∈ news, u.oneCell' = true)
    (h63 : n + m ≤ maxLen) (hbytes : (n + m) * bytes ≤ 140737488355328) (hbase : base ≤ w.heap.size) (hm : 0 < m)
    (hv : NU w v) (hzn : ∀ u ∈ z.cells.toList, NotU u) (hnn : ∀ u ∈ news, NotU u) :
    ∃ v' w', (Builtin.append_ #[t, t] ty #[v, .slice (some a) m c]).run P w = .ok v' w' ∧ w'.ownsRow base e size v' (n + m) (xs ++ news) ∧ w.grownBy w' v.ownBlock ∧ NU w' v' := by
  subst hsize
  subst hby
  have hsmall : n + m ≤ 9223372036854775807 := by simp only [maxLen] at h63; omega
  have hlen : (xs ++ news).length = (n + m) * i.size := by rw [List.length_append, hown.1, hl, Nat.add_mul]
  have hxs : ∀ u ∈ xs, NotU u := by
    rcases hown.2 with ⟨_, h2⟩ | ⟨g, cap, cur, rfl, _, hg, _, _, _, htake⟩
    · have hx : xs = [] := List.eq_nil_of_length_eq_zero (by rw [hown.1, h2, Nat.zero_mul])
      rw [hx]; intro u hu; cases hu
    · obtain ⟨cur', e', h1', h2'⟩ := hv g rfl
      rw [hg] at h1'; cases h1'
      intro u hu
      rw [← htake] at hu
      exact h2' u (List.mem_of_mem_take hu)
  have grown : ∀ (old : Nat), old < n + m → ∀ (row : Option Nat),
      (w.drew.alloc (.cells (xs.toArray ++ news.toArray ++ Builtin.zeroCells z.cells (grownCap w (n + m) old e - (n + m))) e)).ownsRow base e i.size
        (.slice (some ⟨w.heap.size, 0, none⟩) (n + m) (grownCap w (n + m) old e)) (n + m) (xs ++ news) ∧
      w.grownBy (w.drew.alloc (.cells (xs.toArray ++ news.toArray ++ Builtin.zeroCells z.cells (grownCap w (n + m) old e - (n + m))) e)) row ∧
      NU (w.drew.alloc (.cells (xs.toArray ++ news.toArray ++ Builtin.zeroCells z.cells (grownCap w (n + m) old e - (n + m))) e)) (.slice (some ⟨w.heap.size, 0, none⟩) (n + m) (grownCap w (n + m) old e)) := by
    intro old ho row
    have hge := grownCap_ge w (n + m) old e
    have hcm : grownCap w (n + m) old e ≤ maxLen := grownCap_le_maxLen w (n + m) old e h63
    refine ⟨⟨hlen, .inr ⟨w.heap.size, _, _, rfl, hbase, heap_alloc_new w.drew _, hge, hcm, ?_, ?_⟩⟩, ⟨rfl, rfl, rfl, by simp, fun k hk _ => at_old (W := w.drew) hk rfl⟩, ?_⟩
    · simp only [Array.size_append, List.size_toArray, size_zeroCells, hzs, hown.1, hl, ← Nat.add_mul]
      congr 1
      omega
    · simp only [Array.toList_append, List.append_assoc]
      rw [← List.append_assoc, ← hlen]
      exact List.take_left
    · intro g hg
      have hgg : g = w.heap.size := by simpa [Value.ownBlock] using hg.symm
      subst hgg
      refine ⟨_, _, heap_alloc_new w.drew _, ?_⟩
      intro u hu
      simp only [Array.toList_append, List.mem_append] at hu
      rcases hu with (hu | hu) | hu
      · exact hxs u (by simpa using hu)
      · exact hnn u (by simpa using hu)
      · exact hzn u (mem_zero (by omega) hu)
  rcases hown.2 with ⟨rfl, rfl⟩ | ⟨g, cap, cur, rfl, hbg, hg, hnc, hcm, hcs, htake⟩
  · have hx : xs = [] := List.eq_nil_of_length_eq_zero (by simpa using hown.1)
    subst hx
    have hr := run_append_nil (P := P) w t ty e i z ht hi hz a m c news hl hnews (by omega) (by omega) (by have hb := hbytes; simp only [Nat.zero_add] at hb; omega)
    have hgr := grown 0 (by omega) (Value.ownBlock (.slice none 0 0))
    simp only [Nat.zero_add, List.nil_append, Array.empty_append] at hgr ⊢
    exact ⟨_, _, hr, hgr.1, hgr.2.1, hgr.2.2⟩
  · by_cases hroom : n + m ≤ cap
    · have hfit : n * i.size + news.length ≤ cur.size := by rw [hl, hcs, ← Nat.add_mul]; exact Nat.mul_le_mul_right _ hroom
      have hr := run_append_room (P := P) w t ty e i ht hi g n cap cur hg a m c news hl hnews h1 hroom hfit
      refine ⟨_, _, hr, ⟨hlen, .inr ⟨g, cap, _, rfl, hbg, setRow_heap w g cur _ e _ hg, hroom, hcm, ?_, ?_⟩⟩, ⟨rfl, rfl, rfl, by simp, fun k _ hk => setRow_other w g k _ (fun e => hk (by simp [Value.ownBlock, e]))⟩, ?_⟩
      · simp only [List.size_toArray, List.length_append, List.length_take, List.length_drop, Array.length_toList]
        omega
      · rw [htake, ← hlen]
        exact List.take_left
      · intro g' hg'
        have hgg : g' = g := by simpa [Value.ownBlock] using hg'.symm
        subst hgg
        refine ⟨_, _, setRow_heap w g' cur _ e _ hg, ?_⟩
        obtain ⟨cur', e', h1', h2'⟩ := hv g' rfl
        rw [hg] at h1'; cases h1'
        intro u hu
        simp only [List.mem_append] at hu
        rcases hu with (hu | hu) | hu
        · exact h2' u (List.mem_of_mem_take hu)
        · exact hnn u hu
        · exact h2' u (List.mem_of_mem_drop hu)
    · have holds : ∀ j u, xs[j]? = some u → w.cell? ((⟨g, 0, none⟩ : Addr).add j) = some u := hown.cells (g := g) rfl
      have hr := run_append_grow (P := P) w t ty e i z ht hi hz ⟨g, 0, none⟩ n cap xs hown.1 holds a m c news hl hnews (by omega) (by omega) (growslice_fits (by omega) hbytes)
      have hgr := grown cap (by omega) (Value.ownBlock (.slice (some ⟨g, 0, none⟩) n cap))
      exact ⟨_, _, hr, hgr.1, hgr.2.1, hgr.2.2⟩
theorem wpListIn_append_nu {F : Fence} {n : Nat} {P : Program} (w : World) {ops : Array Oper} {rest : List Oper} {o : Oper} {a : Act} {Q : Exit → Act → World → Prop}
    (hg : o.guard = none) (s x : Operand) (t : TypeId) (hop : o.op = Op.call { callee := Callee.builtin Builtin.append, args := #[s, x], argTypes := #[t, t] })
    (base : Nat) (e : TypeId) (i : TypeInfo) (z : Value) (size bytes : Nat) (h1 : P.underlying t = some (.slice e)) (h2 : P.info? e = some i) (h3 : i.zero = some z) (h4 : i.size = size) (h5 : i.bytes = bytes) (h6 : z.cells.size = size) (h7 : 0 < size)
    (v : Value) (k : Nat) (xs : List Value) (hs : a.eval s = v) (hown : w.ownsRow base e size v k xs) (ad : Addr) (m c : Nat) (news : List Value) (hx : a.eval x = .slice (some ad) m c) (hn : news.length = m * size)
    (hc : ∀ j u, news[j]? = some u → w.cell? (ad.add j) = some u) (h1c : ∀ u ∈ news, u.oneCell' = true) (b1 : k + m ≤ maxLen) (b2 : (k + m) * bytes ≤ 140737488355328) (b3 : base ≤ w.heap.size) (hm : 0 < m)
    (hv : NU w v) (hzn : ∀ u ∈ z.cells.toList, NotU u) (hnn : ∀ u ∈ news, NotU u)
    (hK : ∀ v' w', w'.ownsRow base e size v' (k + m) (xs ++ news) → w.grownBy w' v.ownBlock → NU w' v' → wpListIn F n P ops Q rest (a.put o.dst v') w') :
    wpListIn F n P ops Q (o :: rest) a w := by
  refine wpListIn_plain hg fun K hK' => ?_
  obtain ⟨v', w', hrun, r1, r2, r3⟩ := run_append_nu (P := P) w base t o.type e i z size bytes h1 h2 h3 h4 h5 h6 h7 v k xs hown ad m c news hn hc h1c b1 b2 b3 hm hv hzn hnn
  unfold Oper.wpIn
  refine ⟨?_, ?_⟩
  · simp [Oper.about, hop, resolve, Target.leads, Sem.run_pure]
  · rw [Oper.semAt_plain F _ _ (by rw [hop]; intro c hc'; cases hc')]
    simp [execOp, hop, resolve, invoke, builtin, hs, hx, hrun, Result.andThen]
    exact hK' _ _ (hK v' w' r1 r2 r3)
end Go.Proofs.YthcmoimlnhghcaaDoor

/- Euclid's quotients. -/
set_option linter.unusedVariables false
set_option linter.unusedSimpArgs false
namespace Go.Proofs.YthcmoimlnhghcaaDoor
open Go.RowKit Go.Shelf
attribute [local go_sem] max2_i min2_i max_two min_two

attribute [local go_sem] Oper.semAt_some
theorem info_sl : (Tryd.prog.info? 22).map (fun i => (i.zero, i.size, i.bytes)) = some (some (.slice none 0 0), 1, 24) := by kernel_rfl
theorem euc_lt {a b : Nat} {k : Nat} (h : (euc a b k).2 ≠ 0) : (euc a b (k + 1)).2 < (euc a b k).2 := by
  simp only [euc]; exact Nat.mod_lt _ (by omega)
theorem mod_half {m n : Nat} (h : n ≤ m) (h0 : 0 < n) : 2 * (m % n) < m := by
  have h1 := Nat.div_add_mod m n
  have h2 := Nat.mod_lt m h0
  have h3 : n ≤ n * (m / n) := Nat.le_mul_of_pos_right _ (Nat.div_pos h h0)
  omega
theorem euc_half (a b : Nat) : ∀ j, (∀ i, i < 2 * j → (euc a b i).2 ≠ 0) → 2 ^ j * (euc a b (2 * j)).2 ≤ b
  | 0, _ => by simp [euc]
  | j + 1, h => by
    have ih := euc_half a b j (fun i hi => h i (by omega))
    have h1 := euc_lt (h (2 * j) (by omega))
    have h2 := h (2 * j + 1) (by omega)
    have h3 : (euc a b (2 * j + 1 + 1)).2 = (euc a b (2 * j)).2 % (euc a b (2 * j + 1)).2 := rfl
    have h4 := mod_half (m := (euc a b (2 * j)).2) (n := (euc a b (2 * j + 1)).2) (by omega) (by omega)
    rw [show 2 * (j + 1) = 2 * j + 1 + 1 by omega, h3, Nat.pow_succ, Nat.mul_assoc]
    exact Nat.le_trans (Nat.mul_le_mul_left _ (by omega)) ih
theorem euc_steps {a b k : Nat} (h : ∀ i, i < k → (euc a b i).2 ≠ 0) : k ≤ 2 * bl b + 2 := by
  rcases Nat.lt_or_ge k 2 with h1 | h1
  · omega
  · obtain ⟨j, hj⟩ : ∃ j, j = (k - 1) / 2 := ⟨_, rfl⟩
    have h2 := euc_half a b j (fun i hi => h i (by omega))
    have h3 := h (2 * j) (by omega)
    have h4 : 2 ^ j ≤ b := by
      refine Nat.le_trans ?_ h2
      exact Nat.le_mul_of_pos_right _ (by omega)
    have h5 := bl_lt b
    have h6 : 2 ^ j < 2 ^ bl b := by omega
    have := (Nat.pow_lt_pow_iff_right (by decide : 1 < 2)).1 h6
    omega
theorem own_same {w w' : World} {base size n : Nat} {e : TypeId} {v : Value} {xs : List Value} (h : w.ownsRow base e size v n xs) (hk : ∀ g o, v.ownBlock = some g → w.heap[g]? = some o → o.isCells = true → w'.heap[g]? = some o) : w'.ownsRow base e size v n xs := by
  refine ⟨h.1, ?_⟩
  rcases h.2 with h1 | ⟨g, cap, cur, rfl, h2, h3, h4⟩
  · exact .inl h1
  · exact .inr ⟨g, cap, cur, rfl, h2, hk g _ rfl h3 rfl, h4⟩
theorem own_shape {w : World} {base size n : Nat} {e : TypeId} {v : Value} {xs : List Value} (h : w.ownsRow base e size v n xs) : ∃ V c, v = .slice V n c := by
  rcases h.2 with ⟨rfl, rfl⟩ | ⟨g, cap, cur, rfl, _⟩
  · exact ⟨none, 0, rfl⟩
  · exact ⟨_, cap, rfl⟩
/-- The cells of a row of slices hold the naturals f 0, f 1 .. -/
def QR (f : Nat → Nat) (W : World) (xs : List Value) : Prop := ∀ j, j < xs.length → ∃ X c, xs[j]? = some (.slice X (nl (f j)) c) ∧ NatV W X c (f j)
theorem QR.map {f : Nat → Nat} {W W' : World} {xs : List Value} (h : QR f W xs) (hN : ∀ (A : Option Addr) (c n : Nat), NatV W A c n → NatV W' A c n) : QR f W' xs := fun j hj => by
  obtain ⟨X, c, h1, h2⟩ := h j hj
  exact ⟨X, c, h1, hN _ _ _ h2⟩
/-- A slice of slices that hold the naturals f 0, f 1 .. -/
def QL (f : Nat → Nat) (W : World) (V : Option Addr) (n : Nat) : Prop := ∀ j, j < n → ∃ ad X d, V = some ad ∧ W.cell? (ad.add j) = some (.slice X (nl (f j)) d) ∧ NatV W X d (f j)
theorem QL.below {f : Nat → Nat} {W W' : World} {V : Option Addr} {n : Nat} (h : QL f W V n) (hb : Below W.heap.size W W') : QL f W' V n := fun j hj => by
  obtain ⟨ad, X, d, h1, h2, h3⟩ := h j hj
  exact ⟨ad, X, d, h1, cell_below hb h2, h3.below hb⟩
theorem ql_of {f : Nat → Nat} {W : World} {base n : Nat} {v : Value} {xs : List Value} (h : W.ownsRow base 22 1 v n xs) (hq : QR f W xs) : ∃ V c, v = .slice V n c ∧ QL f W V n ∧ n ≤ maxLen := by
  have hc := fun g (hg : v.ownBlock = some g) => h.cells hg
  have hl : xs.length = n := by have := h.1; omega
  rcases h.2 with ⟨rfl, rfl⟩ | ⟨g, cap, cur, rfl, h2, h3, h4, h5, _⟩
  · exact ⟨none, 0, rfl, fun j hj => by omega, by decide⟩
  · refine ⟨some ⟨g, 0, none⟩, cap, rfl, fun j hj => ?_, by omega⟩
    obtain ⟨X, c, e1, e2⟩ := hq j (by omega)
    exact ⟨⟨g, 0, none⟩, X, c, rfl, hc g rfl j _ e1, e2⟩
/-- What a call leaves that tells quotients. -/
def RetQs (w : World) (f : Nat → Nat) (n : Nat) (e : Ending) (w' : World) : Prop := ∃ V c, e = .returned (.slice V n c) ∧ QL f w' V n ∧ n ≤ maxLen ∧ Below w.heap.size w w'
/-- What is in the variable. -/
def QsI (a b s : Nat) (pre : List It) (W : World) : Prop := ∃ (v : Value) (xs : List Value) (k : Nat), BoxA W s 25 #[v] ∧ NotU v ∧ W.ownsRow (s + 3) 22 1 v k xs ∧ NU W v ∧ QR (quo a b) W xs ∧ ((k = pre.length ∧ ∀ i, i < k → (euc a b i).2 ≠ 0) ∨ (k + 1 = pre.length ∧ (euc a b k).2 = 0 ∧ ∀ i, i < k → (euc a b i).2 ≠ 0))
theorem own_base {w : World} {base size n : Nat} {e : TypeId} {v : Value} {xs : List Value} (h : w.ownsRow base e size v n xs) {g : Nat} (hg : v.ownBlock = some g) : base ≤ g := (h.lt g hg).1
theorem QsI.move {a b s : Nat} {pre : List It} {W W' : World} (h : QsI a b s pre W) (hs : ∀ o, o.isCells = true → W.heap[s]? = some o → W'.heap[s]? = some o) (hk : ∀ g o, s + 3 ≤ g → W.heap[g]? = some o → o.isCells = true → W'.heap[g]? = some o) (hN : ∀ (A : Option Addr) (c n : Nat), NatV W A c n → NatV W' A c n) : QsI a b s pre W' := by
  obtain ⟨v, xs, k, h1, h2, h3, h4, h5, h6⟩ := h
  exact ⟨v, xs, k, ⟨hs _ rfl h1.at_⟩, h2, own_same h3 (fun g o hg ho hc => hk g o (own_base h3 hg) ho hc), h4.same (fun g o hg ho hc => hk g o (own_base h3 hg) ho hc), h5.map hN, h6⟩
theorem quots_c (A : Option Addr) (c a : Nat) (B : Option Addr) (d b : Nat) (w : World) (hA : NatV w A c a) (hB : NatV w B d b) (la : nl a ≤ 8192) (lb : nl b ≤ 8192) :
    Calls Tryd.prog 6 #[.slice A (nl a) c, .slice B (nl b) d] w (RetQs w (quo a b) (eun a b)) := by
  refine (callsIn_wide (n := 4)).1 ?_
  have hblb := bl_le b
  obtain ⟨i0, hi, hz0, hz1, hz2⟩ := info_parts info_sl
  refine callsIn_of_wp_marks Tryd.func6 rfl trivial ?_ rfl
  simp only [Tryd.ntmps6, List.size_toArray, List.length_cons, List.length_nil, Nat.reduceAdd, Nat.reduceSub, Array.replicate_succ, Array.replicate_zero, List.push_toArray, List.append_toArray, List.nil_append, List.cons_append]
  gi_wp2_with (fail)
  refine ⟨trivial, ?_⟩
  refine (callsIn_wide.2 (rests_c A (nl a) c B (nl b) d _)).mono ?_
  rintro e w' ⟨rfl, rfl⟩
  gi_wp2_with (fail)
  obtain ⟨s, hs0⟩ : ∃ s, s = w.heap.size := ⟨_, rfl⟩
  obtain ⟨W8, hW8⟩ : ∃ W8, (((w.alloc (.cells #[.slice none 0 0] 25)).alloc (.cells #[.slice A (nl a) c] 22)).alloc (.cells #[.slice B (nl b) d] 22)) = W8 := ⟨_, rfl⟩
  have bO : BoxA W8 s 25 #[.slice none 0 0] := by
    subst hs0 hW8; refine ⟨?_⟩; repeat (first | exact at_new (by first | (simp; done) | (simp; omega)) | refine at_old (by simp <;> omega) ?_)
  have bA : Boxed W8 (s + 1) 22 (.slice A (nl a) c) := by
    subst hs0 hW8; unfold Boxed; repeat (first | exact at_new (by first | (simp; done) | (simp; omega)) | refine at_old (by simp <;> omega) ?_)
  have bB : Boxed W8 (s + 2) 22 (.slice B (nl b) d) := by
    subst hs0 hW8; unfold Boxed; repeat (first | exact at_new (by first | (simp; done) | (simp; omega)) | refine at_old (by simp <;> omega) ?_)
  have hsz : W8.heap.size = s + 3 := by subst hs0 hW8; simp
  have hB0 : Below s w W8 := by
    subst hs0 hW8
    exact ((((Below.refl _ w).alloc (Nat.le_refl _) _).alloc (by simp) _).alloc (by simp; omega) _)
  have hA8 := hA.below (hs0 ▸ hB0)
  have hB8 := hB.below (hs0 ▸ hB0)
  rw [← hs0]
  simp only [Nat.add_assoc, Nat.reduceAdd]
  rw [hW8]
  clear hW8
  have HS := Lib.hid hs0
  clear hs0
  refine wpIn_rangeX (w0 := W8) rfl (by omega) (gf := 41) (lb := #[.pointer (some ⟨s + 1, 0, none⟩), .pointer (some ⟨s + 2, 0, none⟩)]) rfl trivial (enters_of Tryd.func41 (by kernel_rfl) rfl)
    (rests_seq A c a B d b (s + 1) (s + 2) (by omega) W8 (by omega) (by omega) bA bB hA8 hB8) (fun X Y h k h1 h2 => h.block k h2 (by omega) (by omega))
    KpU.t (fun W l o o' h1 h2 h3 h4 => KpU.bk W l o o' h1 h2 h3 h4) (Below.refl _ _) (fun _ => rfl) (own_euH a b _) (own_euS a b _) (own_euP a b _)
    (fun pre W => QsI a b s pre W ∧ Below s w W ∧ s + 3 ≤ W.heap.size) (fun _ _ _ => False)
    ?own (fun _ _ _ _ _ hs _ _ => hs) ?mv ?start
    (fun x => { tmps := #[.slice A (nl a) c, .slice B (nl b) d, undef, undef, .slice none 0 0, .pointer (some ⟨s, 0, none⟩), .slice x.A (nl x.a) x.c, .slice x.B (nl x.b) x.d, undef, undef, undef, .slice A (nl a) c, .slice B (nl b) d,
      .func (.func 41) #[] #[.pointer (some ⟨s + 1, 0, none⟩), .pointer (some ⟨s + 2, 0, none⟩)], .slice x.A (nl x.a) x.c, .slice x.B (nl x.b) x.d, undef, undef, undef, undef, undef, undef, undef, undef, undef, undef, undef, undef, undef, undef, undef], defers := [] }) ?assign ?body ?done ?stop
  case own =>
    refine OwnFrom.and ?_ (OwnFrom.and (ownFrom_below (Nat.le_of_eq HS.out) (by omega)) (own_size _ _))
    intro xs W W' row h hg hr
    have hr2 : ∀ r, row = some r → ∃ o : Obj, W.heap[r]? = some o ∧ o.isCells = false := fun r e => (hr r e).2
    have key : ∀ (g : Nat) (o : Obj), W.heap[g]? = some o → o.isCells = true → W'.heap[g]? = some o := fun g o ho hc =>
      (hg.block g (Array.getElem?_eq_some_iff.1 ho).1 (fun e => by obtain ⟨o', h2, h3⟩ := hr2 g e.symm; rw [ho] at h2; cases h2; rw [hc] at h3; cases h3)).trans ho
    exact h.move (fun o hc ho => key s o ho hc) (fun g o _ ho hc => key g o ho hc) (fun A c n hN => hN.kept hg hr2)
  case mv =>
    rintro x Y Z ⟨h1, h2, h3⟩ hm
    exact ⟨h1.move (fun o _ ho => (hm.block s (Array.getElem?_eq_some_iff.1 ho).1 (by omega) (by omega)).trans ho) (fun g o hg ho _ => (hm.block g (Array.getElem?_eq_some_iff.1 ho).1 (by omega) (by omega)).trans ho) (fun A c n hN => hN.mvu hm), mvu_below h2 hm (by omega) (by omega) (by omega), Nat.le_trans h3 hm.size⟩
  case start => exact ⟨⟨.slice none 0 0, [], 0, bO, notU_slice _ _ _, World.ownsRow_nil _ _ _ _, nu_none _ _ _, fun j hj => by simp at hj, .inl ⟨rfl, fun i hi => by omega⟩⟩, hB0, by omega⟩
  case assign =>
    intro l x W K hK
    simp only [It.enc]
    gi_wp2
    exact hK
  case stop =>
    rintro D cc pre W hD hP h hK
    exact h.elim
  case done =>
    rintro D ys W hD ⟨pre, x, rfl, hE, hx0⟩ ⟨⟨v, xs, k, hO, hnv, hown, hnu, hqr, hk⟩, hB, hs3⟩ hK
    have hxb : (euc a b pre.length).2 = 0 := by rw [← hE.2.1]; exact hx0
    have hkn : k = eun a b := by
      rcases hk with ⟨rfl, h⟩ | ⟨h1, h2, h3⟩
      · exact absurd hxb (h pre.length (by simp))
      · exact eun_eq h2 h3
    clear hk
    have qO := hO.c (i := 0) rfl
    replace hkn := Lib.hid hkn
    clear hE hx0 hxb
    gi_wp2_with (fail)
    have hg := grownBy_putObj' W D (.deferred none)
    have hr : ∀ r, some D = some r → ∃ o : Obj, W.heap[r]? = some o ∧ o.isCells = false := fun r e => by cases e; exact ⟨_, hK, rfl⟩
    have hp : Below s w (W.putObj D (.deferred none)) := hB.trans (belowK_b (w := W8) (by omega) W D _ _ hD hK rfl rfl)
    have hown2 := own_same (w' := W.putObj D (.deferred none)) hown (fun g o hgo ho hc => (hg.block g (Array.getElem?_eq_some_iff.1 ho).1 (fun e => by obtain ⟨o', h2, h3⟩ := hr g e.symm; rw [ho] at h2; cases h2; rw [hc] at h3; cases h3)).trans ho)
    have hqr2 := hqr.map (W' := W.putObj D (.deferred none)) (fun A c n hN => hN.kept hg hr)
    obtain ⟨V, cv, rfl, hql, hmx⟩ := ql_of hown2 hqr2
    refine ⟨by simp, .inl ⟨_, _, rfl, run_takeDeferred hK, ?_⟩⟩
    refine ⟨_, results_tmp rfl _ _ _, ?_⟩
    rw [← hkn.out]
    exact ⟨V, cv, rfl, hql, hmx, hp.mono (Nat.le_of_eq HS.out.symm)⟩
  case body =>
    rintro l pre ⟨XA, xc, xa, YA, yd, yb⟩ W ⟨hQ, hB, hs3⟩ hE
    obtain ⟨⟨hX, hY⟩, hxy, hnz⟩ := hE
    simp only at hX hY hxy
    have hL := euc_nl la lb pre.length
    rw [← hxy] at hL
    simp only at hL
    have hyb : yb = (euc a b pre.length).2 := by rw [← hxy]
    have hxa : xa = (euc a b pre.length).1 := by rw [← hxy]
    replace hxy := Lib.hid hxy
    replace hyb := Lib.hid hyb
    replace hxa := Lib.hid hxa
    obtain ⟨v, xs, k, hO, hnv, hown, hnu, hqr, hk⟩ := hQ
    have hkl : k = pre.length := by
      rcases hk with ⟨h, _⟩ | ⟨h1, h2, _⟩
      · exact h
      · exact absurd h2 (hnz k (by omega))
    subst hkl
    clear hk
    by_cases hy : yb = 0
    · have t1 : decide (0 < (nl yb : Int)) = false := by rw [hy, nl_zero]; rfl
      have t2 : decide (0 < nl yb) = false := by rw [hy, nl_zero]; rfl
      replace hy := Lib.hid hy
      gi_wp2_with (fail)
      exact ⟨KeepsOthers.refl _, kpu_below (Below.refl _ _), ⟨v, xs, pre.length, hO, hnv, hown, hnu, hqr, .inr ⟨by simp, by rw [← hyb.out]; exact hy.out, hnz⟩⟩, hB, hs3⟩
    · have t1 : decide (0 < (nl yb : Int)) = true := by have := nl_pos.2 hy; simp; omega
      have t2 : decide (0 < nl yb) = true := by have := nl_pos.2 hy; simp; omega
      have hy0 : 0 < yb := Nat.pos_of_ne_zero hy
      have CD := ddivmod_c XA xc xa YA yd yb W hX hY (by omega) (by omega) hy0
      obtain ⟨q, Eq⟩ : ∃ z, z = xa / yb := ⟨_, rfl⟩
      rw [← Eq] at CD
      have hqq : q = quo a b pre.length := by rw [Eq, hxa.out, hyb.out]; rfl
      have hst := euc_steps (a := a) (b := b) (k := pre.length) hnz
      have hk1 : pre.length + 1 ≤ 600000 := by omega
      replace Eq := Lib.hid Eq
      replace hqq := Lib.hid hqq
      replace CD := Lib.hid CD
      replace hst := Lib.hid hst
      gi_wp2_with (fail)
      refine ⟨trivial, ?_⟩
      refine (callsIn_wide.2 CD.out).mono ?_
      rintro e W2 ⟨Q, cq, R, cr, rfl, hQ, hRr, hb2⟩
      have hO2 := hO.below hb2
      have qO := hO2.c (i := 0) rfl
      obtain ⟨W3, hW3⟩ : ∃ W3, W3 = W2.alloc (.cells #[.slice Q (nl q) cq] 22) := ⟨_, rfl⟩
      have hb3 : Below W2.heap.size W2 W3 := by rw [hW3]; exact (Below.refl _ _).alloc (Nat.le_refl _) _
      have hnew : BoxA W3 W2.heap.size 22 #[.slice Q (nl q) cq] := by rw [hW3]; exact ⟨at_new rfl⟩
      have hb23 := hb2.cons hb3
      have hown3 := own_same (w' := W3) hown (fun g o _ ho _ => heap_below hb23 ho)
      have hnu3 := hnu.below hb23
      have hO3 := hO.below hb23
      have hQ3 := hQ.below hb3
      have hqr3 := hqr.map (W' := W3) (fun A c n hN => hN.below hb23)
      have hB3 : Below s w W3 := hB.trans (hb23.mono (by omega))
      have hsz3 : s + 3 ≤ W3.heap.size := Nat.le_trans hs3 hb23.size
      have hk63 : pre.length + 1 ≤ maxLen := by simp only [maxLen]; omega
      have hkby : (pre.length + 1) * 24 ≤ 140737488355328 := by omega
      have hnews : ∀ j u, ([.slice Q (nl q) cq] : List Value)[j]? = some u → W3.cell? ((⟨W2.heap.size, 0, none⟩ : Addr).add j) = some u := by
        intro j u hu
        have hj : j = 0 := by
          cases j with
          | zero => rfl
          | succ j => simp at hu
        subst hj
        simp at hu
        subst hu
        have h := hnew.c (i := 0) rfl
        simpa [Addr.add] using h
      have hKB := Lib.hid hB3
      clear hB hb2 hb3 hown hnu hO2 hX hY hO hRr hQ hqr
      have HX : ∀ (v' : Value) (w' : World), w'.ownsRow (s + 3) 22 1 v' (pre.length + 1) (xs ++ [.slice Q (nl q) cq]) → W3.grownBy w' v.ownBlock → NU w' v' → NotU v' ∧ BoxA w' s 25 #[v] ∧ KeepsOthers W (w'.setCell ⟨s, 0, none⟩ v') ∧ KpU (s + 1) (s + 2) W (w'.setCell ⟨s, 0, none⟩ v') ∧ (QsI a b s (pre ++ [(⟨XA, xc, xa, YA, yd, yb⟩ : It)]) (w'.setCell ⟨s, 0, none⟩ v')) ∧ Below s w (w'.setCell ⟨s, 0, none⟩ v') ∧ s + 3 ≤ (w'.setCell ⟨s, 0, none⟩ v').heap.size := by
        intro v' w' ho hg hn
        have hgs : ∀ g, v.ownBlock = some g → s + 3 ≤ g := fun g h => own_base hown3 h
        have hnb : ∀ k, k < s + 3 → some k ≠ v.ownBlock := fun k hk e => by have := hgs k e.symm; omega
        have hOw : BoxA w' s 25 #[v] := ⟨(hg.block s hO3.lt (hnb s (by omega))).trans hO3.at_⟩
        have hnv' : NotU v' := by
          rcases ho.2 with ⟨rfl, _⟩ | ⟨g, cap, cur, rfl, _⟩ <;> exact notU_slice _ _ _
        have hf : ∀ j, j ≠ s → (w'.setCell ⟨s, 0, none⟩ v').heap[j]? = w'.heap[j]? := fun j hj => Below.heap_setCell _ _ _ _ (by simpa using hj)
        have ko1 : KeepsOthers W3 w' := KeepsOthers.of_grownBy hg (fun j o hj ho' => by
          obtain ⟨cur, e, h1, _⟩ := hnu3 j hj
          rw [ho'] at h1; cases h1; rfl)
        have kp1 : KpU (s + 1) (s + 2) W3 w' := ⟨u_grown hnu3 hg, fun o _ e => (hg.block (s + 1) (Array.getElem?_eq_some_iff.1 e).1 (hnb (s + 1) (by omega))).trans e, fun o _ e => (hg.block (s + 2) (Array.getElem?_eq_some_iff.1 e).1 (hnb (s + 2) (by omega))).trans e⟩
        have hNk : ∀ (A : Option Addr) (c n : Nat), NatV W3 A c n → NatV (w'.setCell ⟨s, 0, none⟩ v') A c n := fun A c n hN => hOw.keep (nu1 hnv) hf (hN.grown hnu3 hg)
        have hlx : xs.length = pre.length := by have := hown3.1; omega
        refine ⟨hnv', hOw, (ko_below hb23).trans (ko1.trans (ko_far hOw size1 hf)), (kpu_below hb23).t (kp1.t (kpu_far hOw (nu1 hnv) hf (by omega) (by omega))), ⟨v', _, pre.length + 1, hOw.set1, hnv', own_same ho (fun g o hgo ho' _ => (hf g (by have := own_base ho hgo; omega)).trans ho'), hn.same (fun g o hgo ho' _ => (hf g (by have := own_base ho hgo; omega)).trans ho'), ?_, .inl ⟨by simp, ?_⟩⟩, ?_, ?_⟩
        · intro j hj
          simp only [List.length_append, List.length_cons, List.length_nil] at hj
          by_cases e : j = pre.length
          · subst e
            refine ⟨Q, cq, ?_, ?_⟩
            · rw [← hqq.out, List.getElem?_append_right (by omega), hlx, Nat.sub_self]; rfl
            · rw [← hqq.out]; exact hNk _ _ _ hQ3
          · obtain ⟨X, cx, e1, e2⟩ := hqr3 j (by omega)
            exact ⟨X, cx, by rw [List.getElem?_append_left (by omega)]; exact e1, hNk _ _ _ e2⟩
        · intro i hi
          by_cases e : i = pre.length
          · rw [e, ← hyb.out]; exact hy
          · exact hnz i (by omega)
        · have hg' : Below s w w' := hKB.out.trans ⟨hg.os, hg.tape, hg.output, hg.size, fun k hk => hg.block k (by omega) (hnb k (by omega))⟩
          exact hg'.setCell (p := ⟨s, 0, none⟩) (Nat.le_refl _) _
        · rw [size1]; exact Nat.le_trans hsz3 hg.size
      replace HX := Lib.hid HX
      replace hy := Lib.hid hy
      clear hO3 hqr3 hQ3 hb23
      gi_wp2_with (gi_at_builtin; rw [← hW3]; refine wpListIn_append_nu _ rfl (.tmp 26) (.tmp 28) 25 rfl (s + 3) 22 i0 (.slice none 0 0) 1 24 Tryd.underlying25 hi hz0 hz1 hz2 rfl (by decide) v pre.length xs rfl hown3 ⟨W2.heap.size, 0, none⟩ 1 1 [.slice Q (nl q) cq] rfl rfl hnews (by intro u hu; simp at hu; subst hu; rfl) hk63 hkby hsz3 (by decide) hnu3 (by intro u hu; simp [Value.cells] at hu; subst hu; exact notU_slice _ _ _) (by intro u hu; simp at hu; subst hu; exact notU_slice _ _ _) ?_; intro v' w' hn1 hn2 hn3; obtain ⟨V, cV, rfl⟩ := own_shape hn1; obtain ⟨x1, x2, x3⟩ := HX.out _ w' hn1 hn2 hn3; have cz0 := x2.c (i := 0) rfl; have fz0 := x2.f (i := 0))
      exact x3
end Go.Proofs.YthcmoimlnhghcaaDoor

/- A region that draws its order and writes nothing that was there: what each operation yields is told by a kind, whatever the order. -/
set_option linter.unusedVariables false
set_option linter.unusedSimpArgs false
namespace Go.Proofs.YthcmoimlnhghcaaDoor
open Go.RowKit Go.Shelf

/-- What an operation yields. -/
inductive Kd where
  | val (v : Value)
  | nat (n : Nat)
  | one (n : Nat)
  | int (z : Int)
  | qs (f : Nat → Nat) (n : Nat)
def Kd.R : Kd → Value → World → Prop
  | .val v, u, _ => u = v
  | .nat n, u, w => ∃ X c, u = .slice X (nl n) c ∧ NatV w X c n
  | .one n, u, w => ∃ X c, u = .slice X 1 c ∧ NatV w X c n ∧ nl n = 1
  | .int z, u, w => ∃ X c, u = .agg #[.bool (sg z), .slice X (nl (mg z)) c] ∧ NatV w X c (mg z)
  | .qs f n, u, w => ∃ V c, u = .slice V n c ∧ QL f w V n
theorem Kd.keep : ∀ (k : Kd) (u : Value) (W W' : World), Below W.heap.size W W' → k.R u W → k.R u W'
  | .val v, u, W, W', hb, h => h
  | .nat n, u, W, W', hb, ⟨X, c, h1, h2⟩ => ⟨X, c, h1, h2.below hb⟩
  | .one n, u, W, W', hb, ⟨X, c, h1, h2, h3⟩ => ⟨X, c, h1, h2.below hb, h3⟩
  | .int z, u, W, W', hb, ⟨X, c, h1, h2⟩ => ⟨X, c, h1, h2.below hb⟩
  | .qs f n, u, W, W', hb, ⟨V, c, h1, h2⟩ => ⟨V, c, h1, h2.below hb⟩
def kdAt (ks : List Kd) (i : Nat) : Kd := ks.getD i (.val undef)
/-- Each operation writes a slot of its own. -/
def dstOk (ops : List Oper) (n : Nat) : Bool := ops.all (fun o => match o.dst with | some k => decide (k < n) | none => false) && decide ((ops.map (fun o => o.dst.getD 0)).Nodup)
/-- What holds while the region runs. -/
structure MSt (ops : Array Oper) (a0 : Act) (w0 : World) (ks : List Kd) (E : Nat → Bool) (a : Act) (w : World) : Prop where
  d : a.defers = a0.defers
  z : a.tmps.size = a0.tmps.size
  old : ∀ k, (ops.toList.all (fun o => o.dst != some k)) = true → a.tmps[k]? = a0.tmps[k]?
  new : ∀ i k, ((ops.toList[i]?).bind (fun o => o.dst)) = some k → E i = true → ∃ v, a.tmps[k]? = some v ∧ (kdAt ks i).R v w
  b : Below w0.heap.size w0 w
/-- One operation's duty. -/
def StepOk (P : Program) (ops : Array Oper) (Q : Exit → Act → World → Prop) (a0 : Act) (w0 : World) (ks : List Kd) (i : Nat) (o : Oper) : Prop :=
  ∀ E a w, MSt ops a0 w0 ks E a w → (∀ e ∈ o.after, Region.binds .any e = true → E e.on = true) → wpOp P ops Q i (fun a' w' => ∃ v, a' = a.put o.dst v ∧ (kdAt ks i).R v w' ∧ Below w.heap.size w w') a w
def AllSteps (P : Program) (ops : Array Oper) (Q : Exit → Act → World → Prop) (a0 : Act) (w0 : World) (ks : List Kd) : Nat → List Oper → Prop
  | _, [] => True
  | i, o :: r => StepOk P ops Q a0 w0 ks i o ∧ AllSteps P ops Q a0 w0 ks (i + 1) r
theorem allSteps_get {P : Program} {ops : Array Oper} {Q : Exit → Act → World → Prop} {a0 : Act} {w0 : World} {ks : List Kd} : ∀ (l : List Oper) (b : Nat), AllSteps P ops Q a0 w0 ks b l → ∀ (j : Nat) (o : Oper), l[j]? = some o → StepOk P ops Q a0 w0 ks (b + j) o
  | [], b, h, j, o, ho => by simp at ho
  | x :: r, b, h, j, o, ho => by
    cases j with
    | zero => simp at ho; subst ho; exact h.1
    | succ j =>
      have := allSteps_get r (b + 1) h.2 j o (by simpa using ho)
      rw [show b + (j + 1) = b + 1 + j by omega]; exact this
theorem nodup_get : ∀ (l : List Nat), l.Nodup → ∀ (i j x : Nat), l[i]? = some x → l[j]? = some x → i = j
  | [], _, i, j, x, hi, _ => by simp at hi
  | y :: r, h, i, j, x, hi, hj => by
    rw [List.nodup_cons] at h
    cases i with
    | zero =>
      simp at hi
      cases j with
      | zero => rfl
      | succ j => simp at hj; exact absurd (List.mem_of_getElem? hj) (by rw [← hi]; exact h.1)
    | succ i =>
      simp at hi
      cases j with
      | zero => simp at hj; exact absurd (List.mem_of_getElem? hi) (by rw [← hj]; exact h.1)
      | succ j => simp at hj; rw [nodup_get r h.2 i j x hi hj]
theorem wp_region_mono {P : Program} {ops : Array Oper} {Q : Exit → Act → World → Prop} {id : Nat} {a0 : Act} {w0 : World} (ks : List Kd) (hm : P.follows .mixedOrders = true)
    (hd : edgesDown ops = true) (hn : dstOk ops.toList a0.tmps.size = true)
    (hs : AllSteps P ops Q a0 w0 ks 0 ops.toList)
    (hq : ∀ a w, MSt ops a0 w0 ks (fun _ => true) a w → Q .normal a w) : (Code.region id ops true).wp P Q a0 w0 := by
  unfold dstOk at hn
  rw [Bool.and_eq_true] at hn
  obtain ⟨hn1, hn2⟩ := hn
  have hn2 := of_decide_eq_true hn2
  have hdst : ∀ (i : Nat) (o : Oper), ops.toList[i]? = some o → ∃ k, o.dst = some k ∧ k < a0.tmps.size := by
    intro i o ho
    have := List.all_eq_true.1 hn1 o (List.mem_of_getElem? ho)
    split at this
    · rename_i k hk; exact ⟨k, hk, of_decide_eq_true this⟩
    · cases this
  have huniq : ∀ (i j : Nat) (o o' : Oper) (k : Nat), ops.toList[i]? = some o → ops.toList[j]? = some o' → o.dst = some k → o'.dst = some k → i = j := by
    intro i j o o' k hi hj h1 h2
    refine nodup_get _ hn2 i j k ?_ ?_
    · rw [List.getElem?_map, hi]; simp [h1]
    · rw [List.getElem?_map, hj]; simp [h2]
  refine wp_region_inv (fun E a w => MSt ops a0 w0 ks E a w ∧ (∀ i, E i = true → i < ops.size)) hm hd ⟨⟨rfl, rfl, fun _ _ => rfl, fun i k _ h => (Bool.noConfusion h), (Below.refl _ _).drew⟩, fun i h => (Bool.noConfusion h)⟩ ?_ ?_
  · rintro E a w ⟨st, hlt⟩ hall
    refine hq a w ⟨st.d, st.z, st.old, fun i k hk _ => st.new i k hk (hall i ?_), st.b⟩
    have : i < ops.toList.length := by
      rcases Nat.lt_or_ge i ops.toList.length with h | h
      · exact h
      · rw [List.getElem?_eq_none h] at hk; cases hk
    simpa using this
  · rintro E a w i ⟨st, hlt⟩ hi hE hdep
    obtain ⟨o, ho⟩ : ∃ o, ops[i]? = some o := ⟨ops[i], Array.getElem?_eq_getElem hi⟩
    have hol : ops.toList[i]? = some o := by rw [Array.getElem?_toList]; exact ho
    have hstep := allSteps_get ops.toList 0 hs i o hol
    rw [Nat.zero_add] at hstep
    obtain ⟨k, hk, hkz⟩ := hdst i o hol
    refine wpOp_mono ?_ (hstep E a w st (hdep o ho))
    rintro a' w' ⟨v, rfl, hv, hb⟩
    rw [hk]
    refine ⟨⟨st.d, ?_, ?_, ?_, st.b.cons hb⟩, ?_⟩
    · simp only [Act.put, Array.size_setIfInBounds]; exact st.z
    · intro j hj
      have hne : j ≠ k := fun e => by
        have := List.all_eq_true.1 hj o (List.mem_of_getElem? hol)
        rw [hk, e] at this
        simp at this
      simp only [Act.put]
      rw [Array.getElem?_setIfInBounds_ne (Ne.symm hne)]
      exact st.old j hj
    · intro j kj hj hEj
      by_cases e : j = i
      · subst e
        rw [hol] at hj
        simp only [Option.bind_some] at hj
        rw [hk] at hj; cases hj
        exact ⟨v, by simp only [Act.put]; rw [Array.getElem?_setIfInBounds_self]; rw [if_pos (by rw [st.z]; exact hkz)], hv⟩
      · simp only [if_neg e] at hEj
        obtain ⟨u, h1, h2⟩ := st.new j kj hj hEj
        obtain ⟨oj, hoj, hkj⟩ : ∃ oj, ops.toList[j]? = some oj ∧ oj.dst = some kj := by
          cases h : ops.toList[j]? with
          | none => rw [h] at hj; cases hj
          | some oj => rw [h] at hj; exact ⟨oj, rfl, hj⟩
        have hne : k ≠ kj := fun e2 => e (huniq j i oj o kj hoj hol hkj (by rw [hk, e2]))
        refine ⟨u, by simp only [Act.put]; rw [Array.getElem?_setIfInBounds_ne hne]; exact h1, Kd.keep _ _ _ _ hb h2⟩
    · intro j hj
      by_cases e : j = i
      · rw [e]; exact hi
      · simp only [if_neg e] at hj; exact hlt j hj
theorem wpOp_want {P : Program} {ops : Array Oper} {Q : Exit → Act → World → Prop} {i : Nat} {o : Oper} {a : Act} {w : World} {K : Act → World → Prop} (ho : ops.toList[i]? = some o) (hw : Region.wanted o (yielded ops a.tmps) = true)
    (h : ∀ K' : Act → World → Prop, Shut (∀ a w, K a w → K' a w) → Oper.wp P o a w K' Q) : wpOp P ops Q i K a w := by
  unfold wpOp
  rw [show ops[i]? = some o by rw [← Array.getElem?_toList]; exact ho]
  simp only [hw, if_true]
  exact .inl (h _ (fun a w h => h))
end Go.Proofs.YthcmoimlnhghcaaDoor

/- Naturals as numbers, one bit; leading parts of two naturals, and the steps that they tell. -/
set_option linter.unusedVariables false
set_option linter.unusedSimpArgs false
namespace Go.Proofs.YthcmoimlnhghcaaDoor
open Go.RowKit Go.Shelf
attribute [local go_sem] max2_i min2_i max_two min_two

theorem max_four (ats : Array TypeId) (ty : TypeId) (a b c d : Value) : Builtin.max_ ats ty #[a, b, c, d] = (Builtin.max2 a b >>= fun s => Builtin.max2 s c >>= fun s => Builtin.max2 s d >>= fun s => pure s) := by simp only [Builtin.max_, List.foldlM_cons, List.foldlM_nil]
attribute [local go_sem] max_four
theorem lead_two {x y : Nat} (hx : x < 4294967296) (hy : y < 4294967296) : bits .or .u64 (x : Int) ((y : Int) * 4294967296) = ((y * 4294967296 + x : Nat) : Int) := by
  have e : ((y : Int) * 4294967296) = ((y * 4294967296 : Nat) : Int) := by simp
  rw [e, u64_or_nat _ _ (by omega) (by omega)]
  congr 1
  rw [Nat.or_comm, Nat.mul_comm, show 4294967296 = 2 ^ 32 from rfl, ← Nat.two_pow_add_eq_or_of_lt (i := 32) (by omega)]
theorem or_zero64 {x : Nat} (hx : x < 18446744073709551616) : bits .or .u64 0 (x : Int) = (x : Int) := by
  have := u64_or_nat 0 x (by omega) hx
  rw [Nat.zero_or] at this; exact this
theorem low_parts {a : Nat} (h : nl a ≤ 2) : a = gl (limbs a) 1 * 4294967296 + gl (limbs a) 0 := by
  have h1 := nl_le.1 h
  rw [limbs_gl, limbs_gl]
  have : a < 18446744073709551616 := h1
  simp only [Nat.pow_zero, Nat.div_one, Nat.pow_one]
  omega
theorem low_0 (A : Option Addr) (c a : Nat) (w : World) (hA : NatV w A c a) (hn : nl a = 0) :
    Calls Tryd.prog 25 #[.slice A 0 c] w fun e w' => e = .returned (.tuple #[.int .u64 (a : Nat), .bool true]) ∧ w' = w := by
  have hp := low_parts (a := a) (by omega)
  obtain ⟨x0, hx0⟩ : ∃ x, x = gl (limbs a) 0 := ⟨_, rfl⟩
  have hl0 : x0 < 4294967296 := by rw [hx0]; exact (lim_limbs a).gl 0
  obtain ⟨x1, hx1⟩ : ∃ x, x = gl (limbs a) 1 := ⟨_, rfl⟩
  have hl1 : x1 < 4294967296 := by rw [hx1]; exact (lim_limbs a).gl 1
  rw [← hx0, ← hx1] at hp
  have z1 : x1 = 0 := by rw [hx1, limbs_gl, div_nl (by omega)]
  have z0 : x0 = 0 := by rw [hx0, limbs_gl, div_nl (by omega)]
  have za : a = 0 := by omega
  have W0 : IntKind.u64.wrap (x0 : Int) = (x0 : Int) := by simp [IntKind.wrap, IntKind.signed, IntKind.bits]; omega
  replace hp := Lib.hid hp
  replace hx0 := Lib.hid hx0
  replace hx1 := Lib.hid hx1
  go_enter Tryd.func25, Tryd.ntmps25
  go_wp2_with (fail)
  refine wp_loop_rounds 1 ?_
  rw [rounds_succ]
  go_wp2_with (fail)
  refine bodyPost_ret (v := .tuple #[.int .u64 (a : Nat), .bool true]) (by simp [results, Tryd.results25, go_sem, za]) rfl ⟨rfl, rfl⟩
theorem low_1 (A : Option Addr) (c a : Nat) (w : World) (hA : NatV w A c a) (hn : nl a = 1) :
    Calls Tryd.prog 25 #[.slice A 1 c] w fun e w' => e = .returned (.tuple #[.int .u64 (a : Nat), .bool true]) ∧ w' = w := by
  have hp := low_parts (a := a) (by omega)
  obtain ⟨x0, hx0⟩ : ∃ x, x = gl (limbs a) 0 := ⟨_, rfl⟩
  have hl0 : x0 < 4294967296 := by rw [hx0]; exact (lim_limbs a).gl 0
  obtain ⟨x1, hx1⟩ : ∃ x, x = gl (limbs a) 1 := ⟨_, rfl⟩
  have hl1 : x1 < 4294967296 := by rw [hx1]; exact (lim_limbs a).gl 1
  rw [← hx0, ← hx1] at hp
  obtain ⟨ad, rfl, hc0⟩ := hA.rd.get 0 (by unfold nl at hn; omega)
  rw [← hx0, show ad.add 0 = ad by cases ad; simp [Addr.add]; try (split <;> simp)] at hc0
  have hc0' : w.cell? (ad.add 0) = some (.int .u32 (x0 : Nat)) := by rw [show ad.add 0 = ad by cases ad; simp [Addr.add]; try (split <;> simp)]; exact hc0
  have o0 := or_zero64 (x := x0) (by omega)
  have o0' : bits .or .u64 0 ((x0 : Int) * 1) = (x0 : Int) := by rw [Int.mul_one]; exact o0
  have z1 : x1 = 0 := by rw [hx1, limbs_gl, div_nl (by omega)]
  have za : a = x0 := by omega
  have W0 : IntKind.u64.wrap (x0 : Int) = (x0 : Int) := by simp [IntKind.wrap, IntKind.signed, IntKind.bits]; omega
  replace hp := Lib.hid hp
  replace hx0 := Lib.hid hx0
  replace hx1 := Lib.hid hx1
  go_enter Tryd.func25, Tryd.ntmps25
  go_wp2_with (fail)
  refine wp_loop_rounds 2 ?_
  rw [rounds_succ]
  go_wp2_with (fail)
  rw [rounds_succ]
  go_wp2_with (fail)
  refine bodyPost_ret (v := .tuple #[.int .u64 (a : Nat), .bool true]) (by simp [results, Tryd.results25, go_sem, za]) rfl ⟨rfl, rfl⟩
theorem low_2 (A : Option Addr) (c a : Nat) (w : World) (hA : NatV w A c a) (hn : nl a = 2) :
    Calls Tryd.prog 25 #[.slice A 2 c] w fun e w' => e = .returned (.tuple #[.int .u64 (a : Nat), .bool true]) ∧ w' = w := by
  have hp := low_parts (a := a) (by omega)
  obtain ⟨x0, hx0⟩ : ∃ x, x = gl (limbs a) 0 := ⟨_, rfl⟩
  have hl0 : x0 < 4294967296 := by rw [hx0]; exact (lim_limbs a).gl 0
  obtain ⟨x1, hx1⟩ : ∃ x, x = gl (limbs a) 1 := ⟨_, rfl⟩
  have hl1 : x1 < 4294967296 := by rw [hx1]; exact (lim_limbs a).gl 1
  rw [← hx0, ← hx1] at hp
  obtain ⟨ad, rfl, hc0⟩ := hA.rd.get 0 (by unfold nl at hn; omega)
  obtain ⟨ad', e', hc1⟩ := hA.rd.get 1 (by unfold nl at hn; omega)
  cases e'
  rw [← hx0, show ad.add 0 = ad by cases ad; simp [Addr.add]; try (split <;> simp)] at hc0
  have hc0' : w.cell? (ad.add 0) = some (.int .u32 (x0 : Nat)) := by rw [show ad.add 0 = ad by cases ad; simp [Addr.add]; try (split <;> simp)]; exact hc0
  have o0 := or_zero64 (x := x0) (by omega)
  have o0' : bits .or .u64 0 ((x0 : Int) * 1) = (x0 : Int) := by rw [Int.mul_one]; exact o0
  rw [← hx1] at hc1
  have hc1' : w.cell? ⟨ad.block, ad.off + 1, none⟩ = some (.int .u32 (x1 : Nat)) := by have h := hc1; unfold Addr.add at h; rw [if_neg (by decide)] at h; exact h
  have o1 := lead_two hl0 hl1
  rw [← hp] at o1
  have W1 : IntKind.u64.wrap ((x1 : Int) * 4294967296) = (x1 : Int) * 4294967296 := by simp [IntKind.wrap, IntKind.signed, IntKind.bits]; omega
  have W0 : IntKind.u64.wrap (x0 : Int) = (x0 : Int) := by simp [IntKind.wrap, IntKind.signed, IntKind.bits]; omega
  replace hp := Lib.hid hp
  replace hx0 := Lib.hid hx0
  replace hx1 := Lib.hid hx1
  go_enter Tryd.func25, Tryd.ntmps25
  go_wp2_with (fail)
  refine wp_loop_rounds 3 ?_
  rw [rounds_succ]
  go_wp2_with (fail)
  rw [rounds_succ]
  go_wp2_with (fail)
  rw [rounds_succ]
  go_wp2_with (fail)
  refine bodyPost_ret (v := .tuple #[.int .u64 (a : Nat), .bool true]) (by simp [results, Tryd.results25, go_sem]) rfl ⟨rfl, rfl⟩
theorem low_c (A : Option Addr) (c a : Nat) (w : World) (hA : NatV w A c a) (ha : nl a ≤ 2) :
    Calls Tryd.prog 25 #[.slice A (nl a) c] w fun e w' => e = .returned (.tuple #[.int .u64 (a : Nat), .bool true]) ∧ w' = w := by
  obtain h | h | h : nl a = 0 ∨ nl a = 1 ∨ nl a = 2 := by omega
  · rw [h]; exact low_0 A c a w hA h
  · rw [h]; exact low_1 A c a w hA h
  · rw [h]; exact low_2 A c a w hA h
theorem lowNot_c (A : Option Addr) (c n : Nat) (w : World) (ha : 2 < n) :
    Calls Tryd.prog 25 #[.slice A n c] w fun e w' => e = .returned (.tuple #[.int .u64 0, .bool false]) ∧ w' = w := by
  have t1 : decide (2 < (n : Int)) = true := by simp; omega
  have t2 : decide (2 < n) = true := by simp; omega
  go_enter Tryd.func25, Tryd.ntmps25
  go_wp2_with (fail)
  exact bodyPost_ret (v := .tuple #[.int .u64 0, .bool false]) (by simp [results, Tryd.results25, go_sem]) rfl ⟨rfl, rfl⟩
theorem bit_c (A : Option Addr) (c a i : Nat) (w : World) (hA : NatV w A c a) (ha : nl a ≤ 1073741824) (hi1 : i ≤ 1099511627776) :
    Calls Tryd.prog 32 #[.slice A (nl a) c, .int .i64 (i : Nat)] w fun e w' => e = .returned (.int .u32 (a / 2 ^ i % 2 : Nat)) ∧ w = w' := by
  obtain ⟨q, hq⟩ : ∃ q, q = i / 32 := ⟨_, rfl⟩
  obtain ⟨s, hs⟩ : ∃ s, s = i % 32 := ⟨_, rfl⟩
  have hqI : (i : Int) / 32 = (q : Int) := by omega
  have hsI : (i : Int) % 32 = (s : Int) := by omega
  have hqT : (i : Int).tdiv 32 = (q : Int) := by rw [Int.tdiv_eq_ediv_of_nonneg (by omega)]; exact hqI
  have hsT : (i : Int).tmod 32 = (s : Int) := by rw [Int.tmod_eq_emod_of_nonneg (by omega)]; exact hsI
  have hsl : s < 32 := by omega
  have his : i = 32 * q + s := by omega
  have hql : q ≤ 1099511627776 := by omega
  have hv := bit_mid a q s hsl
  rw [← his] at hv
  obtain ⟨x, hx⟩ : ∃ x, x = gl (limbs a) q := ⟨_, rfl⟩
  have hxl : x < 4294967296 := by rw [hx]; exact (lim_limbs a).gl q
  have hx2 := hx
  rw [limbs_gl] at hx2
  rw [← hx2] at hv
  obtain ⟨y, hy⟩ : ∃ y, y = x / 2 ^ s := ⟨_, rfl⟩
  have hyI : (x : Int) / 2 ^ s = (y : Int) := by rw [hy, Int.natCast_ediv, Int.natCast_pow]; rfl
  have hyl : y < 4294967296 := by rw [hy]; exact Nat.lt_of_le_of_lt (Nat.div_le_self _ _) hxl
  have hand := and_one_u32 y hyl
  rw [hy, hv, ← hy] at hand
  have t1 : decide ((i : Int) < 0) = false := by simp
  have CA := at_c A (nl a) c (limbs a) q w rfl hA.rd hql (by omega)
  rw [← hx] at CA
  replace CA := Lib.hid CA
  replace hx := Lib.hid hx
  replace hx2 := Lib.hid hx2
  replace hv := Lib.hid hv
  replace hq := Lib.hid hq
  replace hs := Lib.hid hs
  replace his := Lib.hid his
  replace hy := Lib.hid hy
  go_enter Tryd.func32, Tryd.ntmps32
  go_wp2_with (fail)
  refine CA.out.mono ?_
  rintro e w' ⟨rfl, rfl⟩
  go_wp2_with (fail)
  go_ret
  exact ⟨rfl, rfl⟩
theorem lead_c (A : Option Addr) (c a n : Nat) (w : World) (hA : NatV w A c a) (ha : nl a ≤ 1073741824) (hn : n ≤ 1099511627776) (hl : a / 2 ^ n < 1152921504606846976) :
    Calls Tryd.prog 35 #[.slice A (nl a) c, .int .i64 (n : Nat)] w fun e w' => e = .returned (.int .i64 (a / 2 ^ n : Nat)) ∧ Below w.heap.size w w' := by
  have CS := shr_ci A c a (n : Int) w hA ha (Int.natCast_nonneg n) (by omega)
  rw [Int.toNat_natCast] at CS
  obtain ⟨x, hx⟩ : ∃ x, x = a / 2 ^ n := ⟨_, rfl⟩
  rw [← hx] at CS hl ⊢
  have hx2 : nl x ≤ 2 := nl_le.2 (Nat.lt_trans hl (by decide))
  have W1 : IntKind.i64.wrap (x : Int) = (x : Int) := IntWalk.i64_in _ (by omega)
  replace hx := Lib.hid hx
  replace CS := Lib.hid CS
  go_enter Tryd.func35, Tryd.ntmps35
  go_wp2_with (fail)
  refine CS.out.mono ?_
  rintro e w1 ⟨X, cx, rfl, hX, hb⟩
  go_wp2_with (fail)
  refine (low_c X cx x w1 hX hx2).mono ?_
  rintro e w2 ⟨rfl, hw⟩
  subst hw
  go_wp2_with (fail)
  go_ret
  exact ⟨rfl, hb⟩
end Go.Proofs.YthcmoimlnhghcaaDoor

/- The steps that two leading parts tell. -/
set_option linter.unusedVariables false
set_option linter.unusedSimpArgs false
namespace Go.Proofs.YthcmoimlnhghcaaDoor
open Go.RowKit Go.Shelf
attribute [local go_sem] max2_i min2_i max_two min_two

attribute [local go_sem] max_four
/-- What a call leaves that tells steps. -/
def RetMB (w : World) (p r : Nat) (e : Ending) (w' : World) : Prop := ∃ (m : Mx) (f : Bool) (A : Option Addr) (a : Nat) (B : Option Addr) (b : Nat) (C : Option Addr) (c : Nat) (D : Option Addr) (d : Nat),
  e = .returned (.tuple #[.agg #[.bool (sg m.a), .slice A (nl (mg m.a)) a, .bool (sg m.b), .slice B (nl (mg m.b)) b, .bool (sg m.c), .slice C (nl (mg m.c)) c, .bool (sg m.d), .slice D (nl (mg m.d)) d], .bool f]) ∧
  Lst p r m ∧ m.sz 1 ∧ (f = true → m.b ≠ 0) ∧ NatV w' A a (mg m.a) ∧ NatV w' B b (mg m.b) ∧ NatV w' C c (mg m.c) ∧ NatV w' D d (mg m.d) ∧ Below w.heap.size w w'
theorem bd_mul {q c K : Int} (h0 : 0 ≤ q) (h1 : q < K) (h2 : -K < c) (h3 : c < K) : -(K * K) ≤ q * c ∧ q * c ≤ K * K := by
  have hK : 0 ≤ K := by omega
  have a1 : q * c ≤ q * K := Int.mul_le_mul_of_nonneg_left (by omega) h0
  have a2 : q * (-K) ≤ q * c := Int.mul_le_mul_of_nonneg_left (by omega) h0
  have a3 : q * K ≤ K * K := Int.mul_le_mul_of_nonneg_right (by omega) hK
  rw [Int.mul_neg] at a2
  omega
theorem sz_small {a b c d : Int} (h1 : -1073741824 < a ∧ a < 1073741824) (h2 : -1073741824 < b ∧ b < 1073741824) (h3 : -1073741824 < c ∧ c < 1073741824) (h4 : -1073741824 < d ∧ d < 1073741824) : (⟨a, b, c, d⟩ : Mx).sz 1 := by
  refine ⟨nl_le.2 ?_, nl_le.2 ?_, nl_le.2 ?_, nl_le.2 ?_⟩ <;> simp only [mg, Nat.pow_one] <;> omega
theorem steps_c (p r : Nat) (w : World) (hp : p < 1152921504606846976) (hr : r < 1152921504606846976) :
    Calls Tryd.prog 34 #[.int .i64 (p : Nat), .int .i64 (r : Nat)] w (RetMB w p r) := by
  obtain ⟨hb1, Rr⟩ := bx1 w #[.bool false, .slice none 0 0, .bool false, .slice none 0 0, .bool false, .slice none 0 0, .bool false, .slice none 0 0] 48
  have HBT := hb1
  clear hb1
  go_enter Tryd.func34, Tryd.ntmps34
  go_wp2_with (fail)
  go_loop [0, 1, 6, 7, 8, 9, 10, 11, 12] (fun vx vy va vb vc vd vq ve vf => ∃ (a b c d x y : Int), vx = .int .i64 x ∧ vy = .int .i64 y ∧ va = .int .i64 a ∧ vb = .int .i64 b ∧ vc = .int .i64 c ∧ vd = .int .i64 d ∧ Hid (Lst p r ⟨a, b, c, d⟩) ∧ Hid (x = a * p + b * r) ∧ Hid (y = c * p + d * r) ∧ (-1073741824 < a ∧ a < 1073741824) ∧ (-1073741824 < b ∧ b < 1073741824) ∧ (-1073741824 < c ∧ c < 1073741824) ∧ (-1073741824 < d ∧ d < 1073741824)) (fun vx vy va vb vc vd vq ve vf => (intOf vy + intOf vc).toNat)
  case atStart => exact ⟨1, 0, 0, 1, p, r, rfl, rfl, rfl, rfl, rfl, rfl, Lib.hid (lst_one (by omega) (by omega)), Lib.hid (by omega), Lib.hid (by omega), by omega, by omega, by omega, by omega⟩
  case round =>
    obtain ⟨a, b, c, d, x, y, rfl, rfl, rfl, rfl, rfl, rfl, hL, hx, hy, ba, bb, bc, bd⟩ := hrel
    obtain ⟨P, EP⟩ : ∃ z : Int, z = x + a := ⟨_, rfl⟩
    have IP : x + a = P := EP.symm
    obtain ⟨S, ES⟩ : ∃ z : Int, z = x + b := ⟨_, rfl⟩
    have IS : x + b = S := ES.symm
    obtain ⟨R, ER⟩ : ∃ z : Int, z = y + c := ⟨_, rfl⟩
    have IR : y + c = R := ER.symm
    obtain ⟨T, ET⟩ : ∃ z : Int, z = y + d := ⟨_, rfl⟩
    have IT : y + d = T := ET.symm
    have hk := hL.out.k
    have hp0 := hL.out.p
    have hs0 := hL.out.s
    have hr0 := hL.out.r
    have ht0 := hL.out.t
    simp only [← hx.out, ← hy.out] at hk hp0 hs0 hr0 ht0
    have hxo : a = 1 ∧ b = 0 ∧ c = 0 ∧ d = 1 → x = p ∧ y = r := fun ⟨k1, k2, k3, k4⟩ => by have h1 := hx.out; have h2 := hy.out; rw [k1, k2] at h1; rw [k3, k4] at h2; omega
    have bP : 0 ≤ P ∧ P ≤ 1152921504606846977 := by rcases hk with k | k; (have := hxo k; omega); omega
    have bS : 0 ≤ S ∧ S ≤ 1152921504606846977 := by rcases hk with k | k; (have := hxo k; omega); omega
    have bR : 0 ≤ R ∧ R ≤ 1152921504606846977 := by rcases hk with k | k; (have := hxo k; omega); omega
    have bT : 0 ≤ T ∧ T ≤ 1152921504606846977 := by rcases hk with k | k; (have := hxo k; omega); omega
    have WP : IntKind.i64.wrap P = P := IntWalk.i64_in _ (by omega)
    have WS : IntKind.i64.wrap S = S := IntWalk.i64_in _ (by omega)
    have WR : IntKind.i64.wrap R = R := IntWalk.i64_in _ (by omega)
    have WT : IntKind.i64.wrap T = T := IntWalk.i64_in _ (by omega)
    clear hk hp0 hs0 hr0 ht0 hxo
    by_cases hR : R = 0
    · skip
      have t1 : (R != 0) = false := ineF hR
      replace hR := Lib.hid hR
      replace EP := Lib.hid EP
      replace ES := Lib.hid ES
      replace ER := Lib.hid ER
      replace ET := Lib.hid ET
      obtain ⟨fb, Efb⟩ : ∃ f : Bool, f = (b != 0) := ⟨_, rfl⟩
      have If : (b != 0) = fb := Efb.symm
      have hfb : fb = true → b ≠ 0 := by rw [Efb]; simp
      replace Efb := Lib.hid Efb
      replace hfb := Lib.hid hfb
      go_wp2_with (fail)
      obtain ⟨z0, Ez0⟩ : ∃ zq : Int, zq = a := ⟨_, rfl⟩
      refine (Calls.mono (R := RetI (w.alloc (.cells #[.bool false, .slice none 0 0, .bool false, .slice none 0 0, .bool false, .slice none 0 0, .bool false, .slice none 0 0] 48)) z0) (by rw [Ez0]; with_reducible exact (iofz_c a _ (by omega) (by omega))) ?_)
      replace Ez0 := Lib.hid Ez0
      rintro e W2 ⟨Xz0, cz0, rfl, hz0, hb2⟩
      replace Rr := Rr.below hb2
      replace HBT := Below.cons HBT hb2
      clear hb2
      go_wp2_with (fail)
      obtain ⟨z1, Ez1⟩ : ∃ zq : Int, zq = b := ⟨_, rfl⟩
      refine (Calls.mono (R := RetI W2 z1) (by rw [Ez1]; with_reducible exact (iofz_c b _ (by omega) (by omega))) ?_)
      replace Ez1 := Lib.hid Ez1
      rintro e W3 ⟨Xz1, cz1, rfl, hz1, hb3⟩
      replace Rr := Rr.below hb3
      replace hz0 := hz0.below hb3
      replace HBT := Below.cons HBT hb3
      clear hb3
      go_wp2_with (fail)
      obtain ⟨z2, Ez2⟩ : ∃ zq : Int, zq = c := ⟨_, rfl⟩
      refine (Calls.mono (R := RetI W3 z2) (by rw [Ez2]; with_reducible exact (iofz_c c _ (by omega) (by omega))) ?_)
      replace Ez2 := Lib.hid Ez2
      rintro e W4 ⟨Xz2, cz2, rfl, hz2, hb4⟩
      replace Rr := Rr.below hb4
      replace hz0 := hz0.below hb4
      replace hz1 := hz1.below hb4
      replace HBT := Below.cons HBT hb4
      clear hb4
      go_wp2_with (fail)
      obtain ⟨z3, Ez3⟩ : ∃ zq : Int, zq = d := ⟨_, rfl⟩
      refine (Calls.mono (R := RetI W4 z3) (by rw [Ez3]; with_reducible exact (iofz_c d _ (by omega) (by omega))) ?_)
      replace Ez3 := Lib.hid Ez3
      rintro e W5 ⟨Xz3, cz3, rfl, hz3, hb5⟩
      replace Rr := Rr.below hb5
      replace hz0 := hz0.below hb5
      replace hz1 := hz1.below hb5
      replace hz2 := hz2.below hb5
      replace HBT := Below.cons HBT hb5
      clear hb5
      have fz0 := Rr.f (i := 0)
      have cz_0 := Rr.c (i := 0) rfl
      have fz1 := Rr.f (i := 1)
      have cz_1 := Rr.c (i := 1) rfl
      have fz2 := Rr.f (i := 2)
      have cz_2 := Rr.c (i := 2) rfl
      have fz3 := Rr.f (i := 3)
      have cz_3 := Rr.c (i := 3) rfl
      have fz4 := Rr.f (i := 4)
      have cz_4 := Rr.c (i := 4) rfl
      have fz5 := Rr.f (i := 5)
      have cz_5 := Rr.c (i := 5) rfl
      have fz6 := Rr.f (i := 6)
      have cz_6 := Rr.c (i := 6) rfl
      have fz7 := Rr.f (i := 7)
      have cz_7 := Rr.c (i := 7) rfl
      go_wp2_with (fail)
      have hz0 : z0 = a := by rw [Ez0.out]
      subst hz0
      have hz1 : z1 = b := by rw [Ez1.out]
      subst hz1
      have hz2 : z2 = c := by rw [Ez2.out]
      subst hz2
      have hz3 : z3 = d := by rw [Ez3.out]
      subst hz3
      have RS := Rr.store8 (.bool (sg z0)) (.slice Xz0 (nl (mg z0)) cz0) (.bool (sg z1)) (.slice Xz1 (nl (mg z1)) cz1) (.bool (sg z2)) (.slice Xz2 (nl (mg z2)) cz2) (.bool (sg z3)) (.slice Xz3 (nl (mg z3)) cz3)
      have e0 := RS.c (i := 0) rfl
      have e1 := RS.c (i := 1) rfl
      have e2 := RS.c (i := 2) rfl
      have e3 := RS.c (i := 3) rfl
      have e4 := RS.c (i := 4) rfl
      have e5 := RS.c (i := 5) rfl
      have e6 := RS.c (i := 6) rfl
      have e7 := RS.c (i := 7) rfl
      refine bodyPost_ret (v := .tuple #[.agg #[.bool (sg z0), .slice Xz0 (nl (mg z0)) cz0, .bool (sg z1), .slice Xz1 (nl (mg z1)) cz1, .bool (sg z2), .slice Xz2 (nl (mg z2)) cz2, .bool (sg z3), .slice Xz3 (nl (mg z3)) cz3], .bool fb]) (by simp [results, Tryd.results34, go_sem, e0, e1, e2, e3, e4, e5, e6, e7]) rfl ?_
      exact ⟨⟨z0, z1, z2, z3⟩, fb, Xz0, cz0, Xz1, cz1, Xz2, cz2, Xz3, cz3, rfl, hL.out, sz_small ba bb bc bd, hfb.out, Rr.keep8 (lista8 _ rfl) hz0, Rr.keep8 (lista8 _ rfl) hz1, Rr.keep8 (lista8 _ rfl) hz2, Rr.keep8 (lista8 _ rfl) hz3, Below.store8 HBT (by first | exact Nat.le_refl _ | omega)⟩
    · skip
      have t1 : (R != 0) = true := ineT hR
      by_cases hT : T = 0
      · skip
        have t2 : (T != 0) = false := ineF hT
        replace hT := Lib.hid hT
        replace EP := Lib.hid EP
        replace ES := Lib.hid ES
        replace ER := Lib.hid ER
        replace ET := Lib.hid ET
        obtain ⟨fb, Efb⟩ : ∃ f : Bool, f = (b != 0) := ⟨_, rfl⟩
        have If : (b != 0) = fb := Efb.symm
        have hfb : fb = true → b ≠ 0 := by rw [Efb]; simp
        replace Efb := Lib.hid Efb
        replace hfb := Lib.hid hfb
        go_wp2_with (fail)
        obtain ⟨z0, Ez0⟩ : ∃ zq : Int, zq = a := ⟨_, rfl⟩
        refine (Calls.mono (R := RetI (w.alloc (.cells #[.bool false, .slice none 0 0, .bool false, .slice none 0 0, .bool false, .slice none 0 0, .bool false, .slice none 0 0] 48)) z0) (by rw [Ez0]; with_reducible exact (iofz_c a _ (by omega) (by omega))) ?_)
        replace Ez0 := Lib.hid Ez0
        rintro e W2 ⟨Xz0, cz0, rfl, hz0, hb2⟩
        replace Rr := Rr.below hb2
        replace HBT := Below.cons HBT hb2
        clear hb2
        go_wp2_with (fail)
        obtain ⟨z1, Ez1⟩ : ∃ zq : Int, zq = b := ⟨_, rfl⟩
        refine (Calls.mono (R := RetI W2 z1) (by rw [Ez1]; with_reducible exact (iofz_c b _ (by omega) (by omega))) ?_)
        replace Ez1 := Lib.hid Ez1
        rintro e W3 ⟨Xz1, cz1, rfl, hz1, hb3⟩
        replace Rr := Rr.below hb3
        replace hz0 := hz0.below hb3
        replace HBT := Below.cons HBT hb3
        clear hb3
        go_wp2_with (fail)
        obtain ⟨z2, Ez2⟩ : ∃ zq : Int, zq = c := ⟨_, rfl⟩
        refine (Calls.mono (R := RetI W3 z2) (by rw [Ez2]; with_reducible exact (iofz_c c _ (by omega) (by omega))) ?_)
        replace Ez2 := Lib.hid Ez2
        rintro e W4 ⟨Xz2, cz2, rfl, hz2, hb4⟩
        replace Rr := Rr.below hb4
        replace hz0 := hz0.below hb4
        replace hz1 := hz1.below hb4
        replace HBT := Below.cons HBT hb4
        clear hb4
        go_wp2_with (fail)
        obtain ⟨z3, Ez3⟩ : ∃ zq : Int, zq = d := ⟨_, rfl⟩
        refine (Calls.mono (R := RetI W4 z3) (by rw [Ez3]; with_reducible exact (iofz_c d _ (by omega) (by omega))) ?_)
        replace Ez3 := Lib.hid Ez3
        rintro e W5 ⟨Xz3, cz3, rfl, hz3, hb5⟩
        replace Rr := Rr.below hb5
        replace hz0 := hz0.below hb5
        replace hz1 := hz1.below hb5
        replace hz2 := hz2.below hb5
        replace HBT := Below.cons HBT hb5
        clear hb5
        have fz0 := Rr.f (i := 0)
        have cz_0 := Rr.c (i := 0) rfl
        have fz1 := Rr.f (i := 1)
        have cz_1 := Rr.c (i := 1) rfl
        have fz2 := Rr.f (i := 2)
        have cz_2 := Rr.c (i := 2) rfl
        have fz3 := Rr.f (i := 3)
        have cz_3 := Rr.c (i := 3) rfl
        have fz4 := Rr.f (i := 4)
        have cz_4 := Rr.c (i := 4) rfl
        have fz5 := Rr.f (i := 5)
        have cz_5 := Rr.c (i := 5) rfl
        have fz6 := Rr.f (i := 6)
        have cz_6 := Rr.c (i := 6) rfl
        have fz7 := Rr.f (i := 7)
        have cz_7 := Rr.c (i := 7) rfl
        go_wp2_with (fail)
        have hz0 : z0 = a := by rw [Ez0.out]
        subst hz0
        have hz1 : z1 = b := by rw [Ez1.out]
        subst hz1
        have hz2 : z2 = c := by rw [Ez2.out]
        subst hz2
        have hz3 : z3 = d := by rw [Ez3.out]
        subst hz3
        have RS := Rr.store8 (.bool (sg z0)) (.slice Xz0 (nl (mg z0)) cz0) (.bool (sg z1)) (.slice Xz1 (nl (mg z1)) cz1) (.bool (sg z2)) (.slice Xz2 (nl (mg z2)) cz2) (.bool (sg z3)) (.slice Xz3 (nl (mg z3)) cz3)
        have e0 := RS.c (i := 0) rfl
        have e1 := RS.c (i := 1) rfl
        have e2 := RS.c (i := 2) rfl
        have e3 := RS.c (i := 3) rfl
        have e4 := RS.c (i := 4) rfl
        have e5 := RS.c (i := 5) rfl
        have e6 := RS.c (i := 6) rfl
        have e7 := RS.c (i := 7) rfl
        refine bodyPost_ret (v := .tuple #[.agg #[.bool (sg z0), .slice Xz0 (nl (mg z0)) cz0, .bool (sg z1), .slice Xz1 (nl (mg z1)) cz1, .bool (sg z2), .slice Xz2 (nl (mg z2)) cz2, .bool (sg z3), .slice Xz3 (nl (mg z3)) cz3], .bool fb]) (by simp [results, Tryd.results34, go_sem, e0, e1, e2, e3, e4, e5, e6, e7]) rfl ?_
        exact ⟨⟨z0, z1, z2, z3⟩, fb, Xz0, cz0, Xz1, cz1, Xz2, cz2, Xz3, cz3, rfl, hL.out, sz_small ba bb bc bd, hfb.out, Rr.keep8 (lista8 _ rfl) hz0, Rr.keep8 (lista8 _ rfl) hz1, Rr.keep8 (lista8 _ rfl) hz2, Rr.keep8 (lista8 _ rfl) hz3, Below.store8 HBT (by first | exact Nat.le_refl _ | omega)⟩
      · skip
        have t2 : (T != 0) = true := ineT hT
        have R0 : 0 < R := by omega
        have T0 : 0 < T := by omega
        obtain ⟨Q, EQ⟩ : ∃ z : Int, z = P / R := ⟨_, rfl⟩
        have IQ : P / R = Q := EQ.symm
        have JQ : P.tdiv R = Q := by rw [Int.tdiv_eq_ediv_of_nonneg (by omega)]; exact IQ
        have bQ : 0 ≤ Q ∧ Q ≤ 1152921504606846977 := by rw [EQ]; exact ⟨Int.ediv_nonneg (by omega) (by omega), Int.le_trans (Int.ediv_le_self _ (by omega)) (by omega)⟩
        have WQ : IntKind.i64.wrap Q = Q := IntWalk.i64_in _ (by omega)
        obtain ⟨U, EU⟩ : ∃ z : Int, z = S / T := ⟨_, rfl⟩
        have IU : S / T = U := EU.symm
        have JU : S.tdiv T = U := by rw [Int.tdiv_eq_ediv_of_nonneg (by omega)]; exact IU
        have bU : 0 ≤ U ∧ U ≤ 1152921504606846977 := by rw [EU]; exact ⟨Int.ediv_nonneg (by omega) (by omega), Int.le_trans (Int.ediv_le_self _ (by omega)) (by omega)⟩
        have WU : IntKind.i64.wrap U = U := IntWalk.i64_in _ (by omega)
        replace EQ := Lib.hid EQ
        replace EU := Lib.hid EU
        by_cases hq : Q ≠ U
        · skip
          have t3 : (Q != U) = true := ineT hq
          replace hq := Lib.hid hq
          replace EP := Lib.hid EP
          replace ES := Lib.hid ES
          replace ER := Lib.hid ER
          replace ET := Lib.hid ET
          obtain ⟨fb, Efb⟩ : ∃ f : Bool, f = (b != 0) := ⟨_, rfl⟩
          have If : (b != 0) = fb := Efb.symm
          have hfb : fb = true → b ≠ 0 := by rw [Efb]; simp
          replace Efb := Lib.hid Efb
          replace hfb := Lib.hid hfb
          go_wp2_with (fail)
          obtain ⟨z0, Ez0⟩ : ∃ zq : Int, zq = a := ⟨_, rfl⟩
          refine (Calls.mono (R := RetI (w.alloc (.cells #[.bool false, .slice none 0 0, .bool false, .slice none 0 0, .bool false, .slice none 0 0, .bool false, .slice none 0 0] 48)) z0) (by rw [Ez0]; with_reducible exact (iofz_c a _ (by omega) (by omega))) ?_)
          replace Ez0 := Lib.hid Ez0
          rintro e W2 ⟨Xz0, cz0, rfl, hz0, hb2⟩
          replace Rr := Rr.below hb2
          replace HBT := Below.cons HBT hb2
          clear hb2
          go_wp2_with (fail)
          obtain ⟨z1, Ez1⟩ : ∃ zq : Int, zq = b := ⟨_, rfl⟩
          refine (Calls.mono (R := RetI W2 z1) (by rw [Ez1]; with_reducible exact (iofz_c b _ (by omega) (by omega))) ?_)
          replace Ez1 := Lib.hid Ez1
          rintro e W3 ⟨Xz1, cz1, rfl, hz1, hb3⟩
          replace Rr := Rr.below hb3
          replace hz0 := hz0.below hb3
          replace HBT := Below.cons HBT hb3
          clear hb3
          go_wp2_with (fail)
          obtain ⟨z2, Ez2⟩ : ∃ zq : Int, zq = c := ⟨_, rfl⟩
          refine (Calls.mono (R := RetI W3 z2) (by rw [Ez2]; with_reducible exact (iofz_c c _ (by omega) (by omega))) ?_)
          replace Ez2 := Lib.hid Ez2
          rintro e W4 ⟨Xz2, cz2, rfl, hz2, hb4⟩
          replace Rr := Rr.below hb4
          replace hz0 := hz0.below hb4
          replace hz1 := hz1.below hb4
          replace HBT := Below.cons HBT hb4
          clear hb4
          go_wp2_with (fail)
          obtain ⟨z3, Ez3⟩ : ∃ zq : Int, zq = d := ⟨_, rfl⟩
          refine (Calls.mono (R := RetI W4 z3) (by rw [Ez3]; with_reducible exact (iofz_c d _ (by omega) (by omega))) ?_)
          replace Ez3 := Lib.hid Ez3
          rintro e W5 ⟨Xz3, cz3, rfl, hz3, hb5⟩
          replace Rr := Rr.below hb5
          replace hz0 := hz0.below hb5
          replace hz1 := hz1.below hb5
          replace hz2 := hz2.below hb5
          replace HBT := Below.cons HBT hb5
          clear hb5
          have fz0 := Rr.f (i := 0)
          have cz_0 := Rr.c (i := 0) rfl
          have fz1 := Rr.f (i := 1)
          have cz_1 := Rr.c (i := 1) rfl
          have fz2 := Rr.f (i := 2)
          have cz_2 := Rr.c (i := 2) rfl
          have fz3 := Rr.f (i := 3)
          have cz_3 := Rr.c (i := 3) rfl
          have fz4 := Rr.f (i := 4)
          have cz_4 := Rr.c (i := 4) rfl
          have fz5 := Rr.f (i := 5)
          have cz_5 := Rr.c (i := 5) rfl
          have fz6 := Rr.f (i := 6)
          have cz_6 := Rr.c (i := 6) rfl
          have fz7 := Rr.f (i := 7)
          have cz_7 := Rr.c (i := 7) rfl
          go_wp2_with (fail)
          have hz0 : z0 = a := by rw [Ez0.out]
          subst hz0
          have hz1 : z1 = b := by rw [Ez1.out]
          subst hz1
          have hz2 : z2 = c := by rw [Ez2.out]
          subst hz2
          have hz3 : z3 = d := by rw [Ez3.out]
          subst hz3
          have RS := Rr.store8 (.bool (sg z0)) (.slice Xz0 (nl (mg z0)) cz0) (.bool (sg z1)) (.slice Xz1 (nl (mg z1)) cz1) (.bool (sg z2)) (.slice Xz2 (nl (mg z2)) cz2) (.bool (sg z3)) (.slice Xz3 (nl (mg z3)) cz3)
          have e0 := RS.c (i := 0) rfl
          have e1 := RS.c (i := 1) rfl
          have e2 := RS.c (i := 2) rfl
          have e3 := RS.c (i := 3) rfl
          have e4 := RS.c (i := 4) rfl
          have e5 := RS.c (i := 5) rfl
          have e6 := RS.c (i := 6) rfl
          have e7 := RS.c (i := 7) rfl
          refine bodyPost_ret (v := .tuple #[.agg #[.bool (sg z0), .slice Xz0 (nl (mg z0)) cz0, .bool (sg z1), .slice Xz1 (nl (mg z1)) cz1, .bool (sg z2), .slice Xz2 (nl (mg z2)) cz2, .bool (sg z3), .slice Xz3 (nl (mg z3)) cz3], .bool fb]) (by simp [results, Tryd.results34, go_sem, e0, e1, e2, e3, e4, e5, e6, e7]) rfl ?_
          exact ⟨⟨z0, z1, z2, z3⟩, fb, Xz0, cz0, Xz1, cz1, Xz2, cz2, Xz3, cz3, rfl, hL.out, sz_small ba bb bc bd, hfb.out, Rr.keep8 (lista8 _ rfl) hz0, Rr.keep8 (lista8 _ rfl) hz1, Rr.keep8 (lista8 _ rfl) hz2, Rr.keep8 (lista8 _ rfl) hz3, Below.store8 HBT (by first | exact Nat.le_refl _ | omega)⟩
        · skip
          have hq2 : Q = U := Decidable.not_not.1 hq
          clear hq WU bU
          subst hq2
          have t3 : (Q != Q) = false := ineF rfl
          by_cases hQ : 1073741824 ≤ Q
          · skip
            have t4 : decide (1073741824 ≤ Q) = true := decide_eq_true hQ
            replace EP := Lib.hid EP
            replace ES := Lib.hid ES
            replace ER := Lib.hid ER
            replace ET := Lib.hid ET
            obtain ⟨fb, Efb⟩ : ∃ f : Bool, f = (b != 0) := ⟨_, rfl⟩
            have If : (b != 0) = fb := Efb.symm
            have hfb : fb = true → b ≠ 0 := by rw [Efb]; simp
            replace Efb := Lib.hid Efb
            replace hfb := Lib.hid hfb
            go_wp2_with (fail)
            obtain ⟨z0, Ez0⟩ : ∃ zq : Int, zq = a := ⟨_, rfl⟩
            refine (Calls.mono (R := RetI (w.alloc (.cells #[.bool false, .slice none 0 0, .bool false, .slice none 0 0, .bool false, .slice none 0 0, .bool false, .slice none 0 0] 48)) z0) (by rw [Ez0]; with_reducible exact (iofz_c a _ (by omega) (by omega))) ?_)
            replace Ez0 := Lib.hid Ez0
            rintro e W2 ⟨Xz0, cz0, rfl, hz0, hb2⟩
            replace Rr := Rr.below hb2
            replace HBT := Below.cons HBT hb2
            clear hb2
            go_wp2_with (fail)
            obtain ⟨z1, Ez1⟩ : ∃ zq : Int, zq = b := ⟨_, rfl⟩
            refine (Calls.mono (R := RetI W2 z1) (by rw [Ez1]; with_reducible exact (iofz_c b _ (by omega) (by omega))) ?_)
            replace Ez1 := Lib.hid Ez1
            rintro e W3 ⟨Xz1, cz1, rfl, hz1, hb3⟩
            replace Rr := Rr.below hb3
            replace hz0 := hz0.below hb3
            replace HBT := Below.cons HBT hb3
            clear hb3
            go_wp2_with (fail)
            obtain ⟨z2, Ez2⟩ : ∃ zq : Int, zq = c := ⟨_, rfl⟩
            refine (Calls.mono (R := RetI W3 z2) (by rw [Ez2]; with_reducible exact (iofz_c c _ (by omega) (by omega))) ?_)
            replace Ez2 := Lib.hid Ez2
            rintro e W4 ⟨Xz2, cz2, rfl, hz2, hb4⟩
            replace Rr := Rr.below hb4
            replace hz0 := hz0.below hb4
            replace hz1 := hz1.below hb4
            replace HBT := Below.cons HBT hb4
            clear hb4
            go_wp2_with (fail)
            obtain ⟨z3, Ez3⟩ : ∃ zq : Int, zq = d := ⟨_, rfl⟩
            refine (Calls.mono (R := RetI W4 z3) (by rw [Ez3]; with_reducible exact (iofz_c d _ (by omega) (by omega))) ?_)
            replace Ez3 := Lib.hid Ez3
            rintro e W5 ⟨Xz3, cz3, rfl, hz3, hb5⟩
            replace Rr := Rr.below hb5
            replace hz0 := hz0.below hb5
            replace hz1 := hz1.below hb5
            replace hz2 := hz2.below hb5
            replace HBT := Below.cons HBT hb5
            clear hb5
            have fz0 := Rr.f (i := 0)
            have cz_0 := Rr.c (i := 0) rfl
            have fz1 := Rr.f (i := 1)
            have cz_1 := Rr.c (i := 1) rfl
            have fz2 := Rr.f (i := 2)
            have cz_2 := Rr.c (i := 2) rfl
            have fz3 := Rr.f (i := 3)
            have cz_3 := Rr.c (i := 3) rfl
            have fz4 := Rr.f (i := 4)
            have cz_4 := Rr.c (i := 4) rfl
            have fz5 := Rr.f (i := 5)
            have cz_5 := Rr.c (i := 5) rfl
            have fz6 := Rr.f (i := 6)
            have cz_6 := Rr.c (i := 6) rfl
            have fz7 := Rr.f (i := 7)
            have cz_7 := Rr.c (i := 7) rfl
            go_wp2_with (fail)
            have hz0 : z0 = a := by rw [Ez0.out]
            subst hz0
            have hz1 : z1 = b := by rw [Ez1.out]
            subst hz1
            have hz2 : z2 = c := by rw [Ez2.out]
            subst hz2
            have hz3 : z3 = d := by rw [Ez3.out]
            subst hz3
            have RS := Rr.store8 (.bool (sg z0)) (.slice Xz0 (nl (mg z0)) cz0) (.bool (sg z1)) (.slice Xz1 (nl (mg z1)) cz1) (.bool (sg z2)) (.slice Xz2 (nl (mg z2)) cz2) (.bool (sg z3)) (.slice Xz3 (nl (mg z3)) cz3)
            have e0 := RS.c (i := 0) rfl
            have e1 := RS.c (i := 1) rfl
            have e2 := RS.c (i := 2) rfl
            have e3 := RS.c (i := 3) rfl
            have e4 := RS.c (i := 4) rfl
            have e5 := RS.c (i := 5) rfl
            have e6 := RS.c (i := 6) rfl
            have e7 := RS.c (i := 7) rfl
            refine bodyPost_ret (v := .tuple #[.agg #[.bool (sg z0), .slice Xz0 (nl (mg z0)) cz0, .bool (sg z1), .slice Xz1 (nl (mg z1)) cz1, .bool (sg z2), .slice Xz2 (nl (mg z2)) cz2, .bool (sg z3), .slice Xz3 (nl (mg z3)) cz3], .bool fb]) (by simp [results, Tryd.results34, go_sem, e0, e1, e2, e3, e4, e5, e6, e7]) rfl ?_
            exact ⟨⟨z0, z1, z2, z3⟩, fb, Xz0, cz0, Xz1, cz1, Xz2, cz2, Xz3, cz3, rfl, hL.out, sz_small ba bb bc bd, hfb.out, Rr.keep8 (lista8 _ rfl) hz0, Rr.keep8 (lista8 _ rfl) hz1, Rr.keep8 (lista8 _ rfl) hz2, Rr.keep8 (lista8 _ rfl) hz3, Below.store8 HBT (by first | exact Nat.le_refl _ | omega)⟩
          · skip
            have t4 : decide (1073741824 ≤ Q) = false := decide_eq_false hQ
            obtain ⟨n, Hn⟩ := Int.eq_ofNat_of_zero_le bQ.1
            replace Hn := Lib.hid Hn
            obtain ⟨g, Eg⟩ : ∃ z : Int, z = Q * c := ⟨_, rfl⟩
            have Ig : Q * c = g := Eg.symm
            obtain ⟨h, Eh⟩ : ∃ z : Int, z = Q * d := ⟨_, rfl⟩
            have Ih : Q * d = h := Eh.symm
            have bg : -1152921504606846976 ≤ g ∧ g ≤ 1152921504606846976 := by rw [Eg]; exact bd_mul (K := 1073741824) bQ.1 (by omega) bc.1 bc.2
            have bh : -1152921504606846976 ≤ h ∧ h ≤ 1152921504606846976 := by rw [Eh]; exact bd_mul (K := 1073741824) bQ.1 (by omega) bd.1 bd.2
            obtain ⟨u, Eu⟩ : ∃ z : Int, z = a - g := ⟨_, rfl⟩
            have Iu : a - g = u := Eu.symm
            obtain ⟨v, Ev⟩ : ∃ z : Int, z = b - h := ⟨_, rfl⟩
            have Iv : b - h = v := Ev.symm
            obtain ⟨u', Eu'⟩ : ∃ z : Int, z = -u := ⟨_, rfl⟩
            have Iu' : -u = u' := Eu'.symm
            obtain ⟨v', Ev'⟩ : ∃ z : Int, z = -v := ⟨_, rfl⟩
            have Iv' : -v = v' := Ev'.symm
            have Wg : IntKind.i64.wrap g = g := IntWalk.i64_in _ (by omega)
            have Wh : IntKind.i64.wrap h = h := IntWalk.i64_in _ (by omega)
            have Wu : IntKind.i64.wrap u = u := IntWalk.i64_in _ (by omega)
            have Wv : IntKind.i64.wrap v = v := IntWalk.i64_in _ (by omega)
            have Wu' : IntKind.i64.wrap u' = u' := IntWalk.i64_in _ (by omega)
            have Wv' : IntKind.i64.wrap v' = v' := IntWalk.i64_in _ (by omega)
            obtain ⟨M, EM⟩ : ∃ z : Int, z = max (max (max u u') v) v' := ⟨_, rfl⟩
            have IM : max (max (max u u') v) v' = M := EM.symm
            have bM : u ≤ M ∧ u' ≤ M ∧ v ≤ M ∧ v' ≤ M := by omega
            replace Eg := Lib.hid Eg
            replace Eh := Lib.hid Eh
            replace Eu := Lib.hid Eu
            replace Ev := Lib.hid Ev
            replace Eu' := Lib.hid Eu'
            replace Ev' := Lib.hid Ev'
            replace EM := Lib.hid EM
            by_cases hM : 1073741824 ≤ M
            · skip
              have t5 : decide (1073741824 ≤ M) = true := decide_eq_true hM
              replace EP := Lib.hid EP
              replace ES := Lib.hid ES
              replace ER := Lib.hid ER
              replace ET := Lib.hid ET
              obtain ⟨fb, Efb⟩ : ∃ f : Bool, f = (b != 0) := ⟨_, rfl⟩
              have If : (b != 0) = fb := Efb.symm
              have hfb : fb = true → b ≠ 0 := by rw [Efb]; simp
              replace Efb := Lib.hid Efb
              replace hfb := Lib.hid hfb
              go_wp2_with (fail)
              obtain ⟨z0, Ez0⟩ : ∃ zq : Int, zq = a := ⟨_, rfl⟩
              refine (Calls.mono (R := RetI (w.alloc (.cells #[.bool false, .slice none 0 0, .bool false, .slice none 0 0, .bool false, .slice none 0 0, .bool false, .slice none 0 0] 48)) z0) (by rw [Ez0]; with_reducible exact (iofz_c a _ (by omega) (by omega))) ?_)
              replace Ez0 := Lib.hid Ez0
              rintro e W2 ⟨Xz0, cz0, rfl, hz0, hb2⟩
              replace Rr := Rr.below hb2
              replace HBT := Below.cons HBT hb2
              clear hb2
              go_wp2_with (fail)
              obtain ⟨z1, Ez1⟩ : ∃ zq : Int, zq = b := ⟨_, rfl⟩
              refine (Calls.mono (R := RetI W2 z1) (by rw [Ez1]; with_reducible exact (iofz_c b _ (by omega) (by omega))) ?_)
              replace Ez1 := Lib.hid Ez1
              rintro e W3 ⟨Xz1, cz1, rfl, hz1, hb3⟩
              replace Rr := Rr.below hb3
              replace hz0 := hz0.below hb3
              replace HBT := Below.cons HBT hb3
              clear hb3
              go_wp2_with (fail)
              obtain ⟨z2, Ez2⟩ : ∃ zq : Int, zq = c := ⟨_, rfl⟩
              refine (Calls.mono (R := RetI W3 z2) (by rw [Ez2]; with_reducible exact (iofz_c c _ (by omega) (by omega))) ?_)
              replace Ez2 := Lib.hid Ez2
              rintro e W4 ⟨Xz2, cz2, rfl, hz2, hb4⟩
              replace Rr := Rr.below hb4
              replace hz0 := hz0.below hb4
              replace hz1 := hz1.below hb4
              replace HBT := Below.cons HBT hb4
              clear hb4
              go_wp2_with (fail)
              obtain ⟨z3, Ez3⟩ : ∃ zq : Int, zq = d := ⟨_, rfl⟩
              refine (Calls.mono (R := RetI W4 z3) (by rw [Ez3]; with_reducible exact (iofz_c d _ (by omega) (by omega))) ?_)
              replace Ez3 := Lib.hid Ez3
              rintro e W5 ⟨Xz3, cz3, rfl, hz3, hb5⟩
              replace Rr := Rr.below hb5
              replace hz0 := hz0.below hb5
              replace hz1 := hz1.below hb5
              replace hz2 := hz2.below hb5
              replace HBT := Below.cons HBT hb5
              clear hb5
              have fz0 := Rr.f (i := 0)
              have cz_0 := Rr.c (i := 0) rfl
              have fz1 := Rr.f (i := 1)
              have cz_1 := Rr.c (i := 1) rfl
              have fz2 := Rr.f (i := 2)
              have cz_2 := Rr.c (i := 2) rfl
              have fz3 := Rr.f (i := 3)
              have cz_3 := Rr.c (i := 3) rfl
              have fz4 := Rr.f (i := 4)
              have cz_4 := Rr.c (i := 4) rfl
              have fz5 := Rr.f (i := 5)
              have cz_5 := Rr.c (i := 5) rfl
              have fz6 := Rr.f (i := 6)
              have cz_6 := Rr.c (i := 6) rfl
              have fz7 := Rr.f (i := 7)
              have cz_7 := Rr.c (i := 7) rfl
              go_wp2_with (fail)
              have hz0 : z0 = a := by rw [Ez0.out]
              subst hz0
              have hz1 : z1 = b := by rw [Ez1.out]
              subst hz1
              have hz2 : z2 = c := by rw [Ez2.out]
              subst hz2
              have hz3 : z3 = d := by rw [Ez3.out]
              subst hz3
              have RS := Rr.store8 (.bool (sg z0)) (.slice Xz0 (nl (mg z0)) cz0) (.bool (sg z1)) (.slice Xz1 (nl (mg z1)) cz1) (.bool (sg z2)) (.slice Xz2 (nl (mg z2)) cz2) (.bool (sg z3)) (.slice Xz3 (nl (mg z3)) cz3)
              have e0 := RS.c (i := 0) rfl
              have e1 := RS.c (i := 1) rfl
              have e2 := RS.c (i := 2) rfl
              have e3 := RS.c (i := 3) rfl
              have e4 := RS.c (i := 4) rfl
              have e5 := RS.c (i := 5) rfl
              have e6 := RS.c (i := 6) rfl
              have e7 := RS.c (i := 7) rfl
              refine bodyPost_ret (v := .tuple #[.agg #[.bool (sg z0), .slice Xz0 (nl (mg z0)) cz0, .bool (sg z1), .slice Xz1 (nl (mg z1)) cz1, .bool (sg z2), .slice Xz2 (nl (mg z2)) cz2, .bool (sg z3), .slice Xz3 (nl (mg z3)) cz3], .bool fb]) (by simp [results, Tryd.results34, go_sem, e0, e1, e2, e3, e4, e5, e6, e7]) rfl ?_
              exact ⟨⟨z0, z1, z2, z3⟩, fb, Xz0, cz0, Xz1, cz1, Xz2, cz2, Xz3, cz3, rfl, hL.out, sz_small ba bb bc bd, hfb.out, Rr.keep8 (lista8 _ rfl) hz0, Rr.keep8 (lista8 _ rfl) hz1, Rr.keep8 (lista8 _ rfl) hz2, Rr.keep8 (lista8 _ rfl) hz3, Below.store8 HBT (by first | exact Nat.le_refl _ | omega)⟩
            · skip
              have t5 : decide (1073741824 ≤ M) = false := decide_eq_false hM
              obtain ⟨k, Ek⟩ : ∃ z : Int, z = Q * y := ⟨_, rfl⟩
              have Ik : Q * y = k := Ek.symm
              have bk0 : k = Q * R - g := by rw [Ek, ER, Eg.out, Int.mul_add]; omega
              have bk1 : Q * R ≤ P := by rw [EQ.out]; exact Int.ediv_mul_le P (by omega)
              have bk2 : 0 ≤ Q * R := Int.mul_nonneg bQ.1 bR.1
              obtain ⟨l, El⟩ : ∃ z : Int, z = Q * R := ⟨_, rfl⟩
              rw [← El] at bk0 bk1 bk2
              obtain ⟨j, Ej⟩ : ∃ z : Int, z = x - k := ⟨_, rfl⟩
              have Ij : x - k = j := Ej.symm
              have Wk : IntKind.i64.wrap k = k := IntWalk.i64_in _ (by omega)
              have Wj : IntKind.i64.wrap j = j := IntWalk.i64_in _ (by omega)
              have hnx := lst_nx hL.out (q := n) (x := x) (y := y) hx.out hy.out (show 0 < y + c by omega) (show 0 < y + d by omega) (show (n : Int) = (x + a) / (y + c) by rw [← Hn.out, IP, IR]; exact EQ.out) (show (n : Int) = (x + b) / (y + d) by rw [← Hn.out, IS, IT]; exact EU.out)
              have em : (⟨a, b, c, d⟩ : Mx).nx n = ⟨c, d, u, v⟩ := by simp only [Mx.nx]; rw [← Hn.out, Eu.out, Ev.out, Eg.out, Eh.out]
              rw [em, ← Hn.out] at hnx
              obtain ⟨n1, n2, n3, n4⟩ := hnx
              simp only at n1 n2 n3 n4
              rw [Ik, Ij] at n3 n4
              rw [IR] at n4
              have n1' := Lib.hid n1
              have n2' := Lib.hid n2.symm
              have n3' := Lib.hid n3.symm
              have n4' := Lib.hid n4
              clear n1 n2 n3 n4 em
              replace EP := Lib.hid EP
              replace ES := Lib.hid ES
              replace ER := Lib.hid ER
              replace ET := Lib.hid ET
              replace Ek := Lib.hid Ek
              replace El := Lib.hid El
              replace Ej := Lib.hid Ej
              replace bk0 := Lib.hid bk0
              go_wp2_with (fail)
              have bu2 : -1073741824 < u ∧ u < 1073741824 := by clear IM IP IS IR IT IQ IU JQ JU Ig Ih Iu Iv Ik Ij; omega
              have bv2 : -1073741824 < v ∧ v < 1073741824 := by clear IM IP IS IR IT IQ IU JQ JU Ig Ih Iu Iv Ik Ij; omega
              have hme : (intOf (.int .i64 j) + intOf (.int .i64 u)).toNat < (intOf (.int .i64 y) + intOf (.int .i64 c)).toNat := by
                have h1 := n4'.out
                show (j + u).toNat < (y + c).toNat
                clear IM Ig Ih Iu Iv Ik Ij
                omega
              refine ⟨⟨c, d, u, v, y, j, rfl, rfl, rfl, rfl, rfl, rfl, n1', n2', n3', bc, bd, bu2, bv2⟩, hme⟩
end Go.Proofs.YthcmoimlnhghcaaDoor

/- What a matrix makes of two naturals. -/
set_option linter.unusedVariables false
set_option linter.unusedSimpArgs false
namespace Go.Proofs.YthcmoimlnhghcaaDoor
open Go.RowKit Go.Shelf
attribute [local go_sem] max2_i min2_i max_two min_two

/-- What a call leaves that makes two naturals. -/
def RetTwo (w : World) (x y : Nat) (e : Ending) (w' : World) : Prop := ∃ (X : Option Addr) (c : Nat) (Y : Option Addr) (d : Nat),
  e = .returned (.tuple #[.slice X (nl x) c, .slice Y (nl y) d]) ∧ NatV w' X c x ∧ NatV w' Y d y ∧ Below w.heap.size w w'
theorem do_c (m0A : Option Addr) (m0c : Nat) (m1A : Option Addr) (m1c : Nat) (m2A : Option Addr) (m2c : Nat) (m3A : Option Addr) (m3c : Nat) (m : Mx) (aA : Option Addr) (ac a : Nat) (bA : Option Addr) (bc b : Nat) (w : World) (hm0 : NatV w m0A m0c (mg m.a)) (hm1 : NatV w m1A m1c (mg m.b)) (hm2 : NatV w m2A m2c (mg m.c)) (hm3 : NatV w m3A m3c (mg m.d)) (ha : NatV w aA ac a) (hb : NatV w bA bc b) (hG : Flds w) (lm : m.sz 16384) (la : nl a ≤ 16384) (lb : nl b ≤ 16384) :
    Calls Tryd.prog 36 #[.agg #[.bool (sg m.a), .slice m0A (nl (mg m.a)) m0c, .bool (sg m.b), .slice m1A (nl (mg m.b)) m1c, .bool (sg m.c), .slice m2A (nl (mg m.c)) m2c, .bool (sg m.d), .slice m3A (nl (mg m.d)) m3c], .slice aA (nl a) ac, .slice bA (nl b) bc] w (RetTwo w (mg (m.x a b)) (mg (m.y a b))) := by
  obtain ⟨lm0, lm1, lm2, lm3⟩ := lm
  obtain ⟨hb1, Rm⟩ := bx1 w #[.bool (sg m.a), .slice m0A (nl (mg m.a)) m0c, .bool (sg m.b), .slice m1A (nl (mg m.b)) m1c, .bool (sg m.c), .slice m2A (nl (mg m.c)) m2c, .bool (sg m.d), .slice m3A (nl (mg m.d)) m3c] 48
  replace hm0 := hm0.below hb1
  replace hm1 := hm1.below hb1
  replace hm2 := hm2.below hb1
  replace hm3 := hm3.below hb1
  replace ha := ha.below hb1
  replace hb := hb.below hb1
  replace hG := hG.below hb1
  have HBT := hb1
  clear hb1
  have qm0 := Rm.c (i := 0) rfl
  have qm1 := Rm.c (i := 1) rfl
  have qm2 := Rm.c (i := 2) rfl
  have qm3 := Rm.c (i := 3) rfl
  have qm4 := Rm.c (i := 4) rfl
  have qm5 := Rm.c (i := 5) rfl
  have qm6 := Rm.c (i := 6) rfl
  have qm7 := Rm.c (i := 7) rfl
  go_enter Tryd.func36, Tryd.ntmps36
  go_wp2_with (fail)
  obtain ⟨x, Ex⟩ : ∃ zq : Int, zq = (a : Int) := ⟨_, rfl⟩
  have Nx : nl (mg x) ≤ 16384 := by rw [Ex, mg_nat]; exact la
  refine (Calls.mono (R := RetI (w.alloc (.cells #[.bool (sg m.a), .slice m0A (nl (mg m.a)) m0c, .bool (sg m.b), .slice m1A (nl (mg m.b)) m1c, .bool (sg m.c), .slice m2A (nl (mg m.c)) m2c, .bool (sg m.d), .slice m3A (nl (mg m.d)) m3c] 48)) x) (by rw [Ex]; with_reducible exact (whole_c aA ac a _ ha (by omega))) ?_)
  replace Ex := Lib.hid Ex
  rintro e W2 ⟨Xx, cx, rfl, hx, hb2⟩
  replace hm0 := hm0.below hb2
  replace hm1 := hm1.below hb2
  replace hm2 := hm2.below hb2
  replace hm3 := hm3.below hb2
  replace ha := ha.below hb2
  replace hb := hb.below hb2
  replace hG := hG.below hb2
  replace Rm := Rm.below hb2
  replace qm0 := cbl hb2 qm0
  replace qm1 := cbl hb2 qm1
  replace qm2 := cbl hb2 qm2
  replace qm3 := cbl hb2 qm3
  replace qm4 := cbl hb2 qm4
  replace qm5 := cbl hb2 qm5
  replace qm6 := cbl hb2 qm6
  replace qm7 := cbl hb2 qm7
  replace HBT := Below.cons HBT hb2
  clear hb2
  go_wp2_with (fail)
  obtain ⟨y, Ey⟩ : ∃ zq : Int, zq = (b : Int) := ⟨_, rfl⟩
  have Ny : nl (mg y) ≤ 16384 := by rw [Ey, mg_nat]; exact lb
  refine (Calls.mono (R := RetI W2 y) (by rw [Ey]; with_reducible exact (whole_c bA bc b _ hb (by omega))) ?_)
  replace Ey := Lib.hid Ey
  rintro e W3 ⟨Xy, cy, rfl, hy, hb3⟩
  replace hm0 := hm0.below hb3
  replace hm1 := hm1.below hb3
  replace hm2 := hm2.below hb3
  replace hm3 := hm3.below hb3
  replace ha := ha.below hb3
  replace hb := hb.below hb3
  replace hG := hG.below hb3
  replace Rm := Rm.below hb3
  replace qm0 := cbl hb3 qm0
  replace qm1 := cbl hb3 qm1
  replace qm2 := cbl hb3 qm2
  replace qm3 := cbl hb3 qm3
  replace qm4 := cbl hb3 qm4
  replace qm5 := cbl hb3 qm5
  replace qm6 := cbl hb3 qm6
  replace qm7 := cbl hb3 qm7
  replace hx := hx.below hb3
  replace HBT := Below.cons HBT hb3
  clear hb3
  obtain ⟨hb4, Rx, Ry⟩ := bx2 W3 #[.bool (sg x), .slice Xx (nl (mg x)) cx] 31 #[.bool (sg y), .slice Xy (nl (mg y)) cy] 31
  replace hm0 := hm0.below hb4
  replace hm1 := hm1.below hb4
  replace hm2 := hm2.below hb4
  replace hm3 := hm3.below hb4
  replace ha := ha.below hb4
  replace hb := hb.below hb4
  replace hG := hG.below hb4
  replace Rm := Rm.below hb4
  replace qm0 := cbl hb4 qm0
  replace qm1 := cbl hb4 qm1
  replace qm2 := cbl hb4 qm2
  replace qm3 := cbl hb4 qm3
  replace qm4 := cbl hb4 qm4
  replace qm5 := cbl hb4 qm5
  replace qm6 := cbl hb4 qm6
  replace qm7 := cbl hb4 qm7
  replace hx := hx.below hb4
  replace hy := hy.below hb4
  replace HBT := Below.cons HBT hb4
  clear hb4
  have qx0 := Rx.c (i := 0) rfl
  have qx1 := Rx.c (i := 1) rfl
  have qy0 := Ry.c (i := 0) rfl
  have qy1 := Ry.c (i := 1) rfl
  go_wp2_with (fail)
  obtain ⟨p0, Ep0⟩ : ∃ z : Int, z = m.a * x := ⟨_, rfl⟩
  have Np0 : nl (mg p0) ≤ 32768 := by rw [Ep0]; have := nl_imul m.a x; omega
  have Cp0 := fun (W : World) (h1 : NatV W m0A m0c (mg m.a)) (h2 : NatV W Xx cx (mg x)) (hG : Flds W) => imul_c m0A m0c m.a Xx cx x W h1 h2 hG (by omega) (by omega)
  rw [← Ep0] at Cp0
  obtain ⟨q0, Eq0⟩ : ∃ z : Int, z = m.b * y := ⟨_, rfl⟩
  have Nq0 : nl (mg q0) ≤ 32768 := by rw [Eq0]; have := nl_imul m.b y; omega
  have Cq0 := fun (W : World) (h1 : NatV W m1A m1c (mg m.b)) (h2 : NatV W Xy cy (mg y)) (hG : Flds W) => imul_c m1A m1c m.b Xy cy y W h1 h2 hG (by omega) (by omega)
  rw [← Eq0] at Cq0
  obtain ⟨u, Eu⟩ : ∃ z : Int, z = p0 + q0 := ⟨_, rfl⟩
  have Cu := fun (W : World) (A : Option Addr) (c : Nat) (B : Option Addr) (d : Nat) (h1 : NatV W A c (mg p0)) (h2 : NatV W B d (mg q0)) => iadd_c A c p0 B d q0 W h1 h2 (by omega) (by omega)
  rw [← Eu] at Cu
  replace Ep0 := Lib.hid Ep0
  replace Eq0 := Lib.hid Eq0
  replace Eu := Lib.hid Eu
  replace Cp0 := Lib.hid Cp0
  replace Cq0 := Lib.hid Cq0
  replace Cu := Lib.hid Cu
  generalize hV0 : ((W3.alloc (.cells #[.bool (sg x), .slice Xx (nl (mg x)) cx] 31)).alloc (.cells #[.bool (sg y), .slice Xy (nl (mg y)) cy] 31)) = V0 at *
  replace hV0 := Lib.hid hV0
  refine wp_region_inv (fun E a' w' => ∃ (u16 u17 u18 u19 u20 u21 u22 u23 u24 u10 : Value),
    a' = { tmps := #[.agg #[.bool (sg m.a), .slice m0A (nl (mg m.a)) m0c, .bool (sg m.b), .slice m1A (nl (mg m.b)) m1c, .bool (sg m.c), .slice m2A (nl (mg m.c)) m2c, .bool (sg m.d), .slice m3A (nl (mg m.d)) m3c], .slice aA (nl a) ac, .slice bA (nl b) bc, .pointer (some ⟨w.heap.size, 0, none⟩), undef, undef, .slice none 0 0, .slice none 0 0, .pointer (some ⟨W3.heap.size, 0, none⟩), .pointer (some ⟨(W3.heap.size + 1), 0, none⟩), u10, undef, .slice aA (nl a) ac, .agg #[.bool (sg x), .slice Xx (nl (mg x)) cx], .slice bA (nl b) bc, .agg #[.bool (sg y), .slice Xy (nl (mg y)) cy], u16, u17, u18, u19, u20, u21, u22, u23, u24, undef, undef, undef, undef, undef, undef, undef, undef, undef, undef, undef, undef, undef], defers := [] } ∧
    (E 0 = true → u16 = .pointer (some ⟨w.heap.size, 0, none⟩)) ∧
    (E 1 = true → u17 = .agg #[.bool (sg m.a), .slice m0A (nl (mg m.a)) m0c]) ∧
    (E 2 = true → u18 = .agg #[.bool (sg x), .slice Xx (nl (mg x)) cx]) ∧
    (E 3 = true → PI u19 p0 w') ∧
    (E 4 = true → u20 = .pointer (some ⟨w.heap.size, 2, none⟩)) ∧
    (E 5 = true → u21 = .agg #[.bool (sg m.b), .slice m1A (nl (mg m.b)) m1c]) ∧
    (E 6 = true → u22 = .agg #[.bool (sg y), .slice Xy (nl (mg y)) cy]) ∧
    (E 7 = true → PI u23 q0 w') ∧
    (E 8 = true → PI u24 u w') ∧
    (E 9 = true → PB2 31 V0.heap.size u10 w') ∧
    (E 10 = true → PBI V0.heap.size u10 u w') ∧
    (E 10 = true → E 9 = true) ∧
    Below V0.heap.size V0 w') (by kernel_rfl) (by kernel_rfl) ?init ?fin ?step
  case init => exact ⟨_, _, _, _, _, _, _, _, _, _, rfl, by simp, by simp, by simp, by simp, by simp, by simp, by simp, by simp, by simp, by simp, by simp, by simp, (Below.refl _ _).drew⟩
  case step =>
    rintro E a' w' i ⟨u16, u17, u18, u19, u20, u21, u22, u23, u24, u10, rfl, h0, h1, h2, h3, h4, h5, h6, h7, h8, h9, h10, hD10, hB⟩ hi hEi hdep
    have qm0 := cbl hB qm0
    have qm1 := cbl hB qm1
    have qm2 := cbl hB qm2
    have qm3 := cbl hB qm3
    have qm4 := cbl hB qm4
    have qm5 := cbl hB qm5
    have qm6 := cbl hB qm6
    have qm7 := cbl hB qm7
    have qx0 := cbl hB qx0
    have qx1 := cbl hB qx1
    have qy0 := cbl hB qy0
    have qy1 := cbl hB qy1
    obtain rfl | rfl | rfl | rfl | rfl | rfl | rfl | rfl | rfl | rfl | rfl : i = 0 ∨ i = 1 ∨ i = 2 ∨ i = 3 ∨ i = 4 ∨ i = 5 ∨ i = 6 ∨ i = 7 ∨ i = 8 ∨ i = 9 ∨ i = 10 := by simp at hi; omega
    · skip
      refine wpOp_step rfl (fun K' hK' => ?_)
      go_simp
      refine hK' _ _ ?_
      exact ⟨_, _, _, _, _, _, _, _, _, _, rfl, fun _ => rfl, keepD (by decide) h1, keepD (by decide) h2, keepD (by decide) h3, keepD (by decide) h4, keepD (by decide) h5, keepD (by decide) h6, keepD (by decide) h7, keepD (by decide) h8, keepD (by decide) h9, keepD (by decide) h10, (fun h => by have := hD10 (by simpa using h); simpa using this), hB⟩
    · skip
      have d0 := hdep _ rfl ⟨0, .data⟩ (by simp) rfl
      obtain rfl := h0 d0
      refine wpOp_step rfl (fun K' hK' => ?_)
      go_simp
      refine hK' _ _ ?_
      exact ⟨_, _, _, _, _, _, _, _, _, _, rfl, keepD (by decide) h0, fun _ => rfl, keepD (by decide) h2, keepD (by decide) h3, keepD (by decide) h4, keepD (by decide) h5, keepD (by decide) h6, keepD (by decide) h7, keepD (by decide) h8, keepD (by decide) h9, keepD (by decide) h10, (fun h => by have := hD10 (by simpa using h); simpa using this), hB⟩
    · skip
      refine wpOp_step rfl (fun K' hK' => ?_)
      go_simp
      refine hK' _ _ ?_
      exact ⟨_, _, _, _, _, _, _, _, _, _, rfl, keepD (by decide) h0, keepD (by decide) h1, fun _ => rfl, keepD (by decide) h3, keepD (by decide) h4, keepD (by decide) h5, keepD (by decide) h6, keepD (by decide) h7, keepD (by decide) h8, keepD (by decide) h9, keepD (by decide) h10, (fun h => by have := hD10 (by simpa using h); simpa using this), hB⟩
    · skip
      have d1 := hdep _ rfl ⟨1, .data⟩ (by simp) rfl
      obtain rfl := h1 d1
      have d2 := hdep _ rfl ⟨2, .data⟩ (by simp) rfl
      obtain rfl := h2 d2
      refine wpOp_step rfl (fun K' hK' => ?_)
      go_simp
      refine (Calls.mono (Cp0.out w' (hm0.below hB) (hx.below hB) (hG.below hB)) ?_)
      rintro e W1 ⟨Xr, cr, rfl, kr, kb⟩
      refine hK' _ _ ?_
      exact ⟨_, _, _, _, _, _, _, _, _, _, rfl, keepD (by decide) h0, keepD (by decide) h1, keepD (by decide) h2, fun _ => ⟨Xr, cr, rfl, kr⟩, keepD (by decide) h4, keepD (by decide) h5, keepD (by decide) h6, keepP (by decide) h7 (fun h => h.below kb), keepP (by decide) h8 (fun h => h.below kb), keepP (by decide) h9 (fun h => h.below kb), keepP (by decide) h10 (fun h => h.below kb), (fun h => by have := hD10 (by simpa using h); simpa using this), Below.cons hB kb⟩
    · skip
      refine wpOp_step rfl (fun K' hK' => ?_)
      go_simp
      refine hK' _ _ ?_
      exact ⟨_, _, _, _, _, _, _, _, _, _, rfl, keepD (by decide) h0, keepD (by decide) h1, keepD (by decide) h2, keepD (by decide) h3, fun _ => rfl, keepD (by decide) h5, keepD (by decide) h6, keepD (by decide) h7, keepD (by decide) h8, keepD (by decide) h9, keepD (by decide) h10, (fun h => by have := hD10 (by simpa using h); simpa using this), hB⟩
    · skip
      have d4 := hdep _ rfl ⟨4, .data⟩ (by simp) rfl
      obtain rfl := h4 d4
      refine wpOp_step rfl (fun K' hK' => ?_)
      go_simp
      refine hK' _ _ ?_
      exact ⟨_, _, _, _, _, _, _, _, _, _, rfl, keepD (by decide) h0, keepD (by decide) h1, keepD (by decide) h2, keepD (by decide) h3, keepD (by decide) h4, fun _ => rfl, keepD (by decide) h6, keepD (by decide) h7, keepD (by decide) h8, keepD (by decide) h9, keepD (by decide) h10, (fun h => by have := hD10 (by simpa using h); simpa using this), hB⟩
    · skip
      refine wpOp_step rfl (fun K' hK' => ?_)
      go_simp
      refine hK' _ _ ?_
      exact ⟨_, _, _, _, _, _, _, _, _, _, rfl, keepD (by decide) h0, keepD (by decide) h1, keepD (by decide) h2, keepD (by decide) h3, keepD (by decide) h4, keepD (by decide) h5, fun _ => rfl, keepD (by decide) h7, keepD (by decide) h8, keepD (by decide) h9, keepD (by decide) h10, (fun h => by have := hD10 (by simpa using h); simpa using this), hB⟩
    · skip
      have d5 := hdep _ rfl ⟨5, .data⟩ (by simp) rfl
      obtain rfl := h5 d5
      have d6 := hdep _ rfl ⟨6, .data⟩ (by simp) rfl
      obtain rfl := h6 d6
      refine wpOp_step rfl (fun K' hK' => ?_)
      go_simp
      refine (Calls.mono (Cq0.out w' (hm1.below hB) (hy.below hB) (hG.below hB)) ?_)
      rintro e W1 ⟨Xr, cr, rfl, kr, kb⟩
      refine hK' _ _ ?_
      exact ⟨_, _, _, _, _, _, _, _, _, _, rfl, keepD (by decide) h0, keepD (by decide) h1, keepD (by decide) h2, keepP (by decide) h3 (fun h => h.below kb), keepD (by decide) h4, keepD (by decide) h5, keepD (by decide) h6, fun _ => ⟨Xr, cr, rfl, kr⟩, keepP (by decide) h8 (fun h => h.below kb), keepP (by decide) h9 (fun h => h.below kb), keepP (by decide) h10 (fun h => h.below kb), (fun h => by have := hD10 (by simpa using h); simpa using this), Below.cons hB kb⟩
    · skip
      have d3 := hdep _ rfl ⟨3, .data⟩ (by simp) rfl
      obtain ⟨X_3, c_3, rfl, k_3⟩ := h3 d3
      have d7 := hdep _ rfl ⟨7, .data⟩ (by simp) rfl
      obtain ⟨X_7, c_7, rfl, k_7⟩ := h7 d7
      refine wpOp_step rfl (fun K' hK' => ?_)
      go_simp
      refine (Calls.mono (Cu.out w' _ _ _ _ k_3 k_7) ?_)
      rintro e W1 ⟨Xr, cr, rfl, kr, kb⟩
      refine hK' _ _ ?_
      exact ⟨_, _, _, _, _, _, _, _, _, _, rfl, keepD (by decide) h0, keepD (by decide) h1, keepD (by decide) h2, keepP (by decide) h3 (fun h => h.below kb), keepD (by decide) h4, keepD (by decide) h5, keepD (by decide) h6, keepP (by decide) h7 (fun h => h.below kb), fun _ => ⟨Xr, cr, rfl, kr⟩, keepP (by decide) h9 (fun h => h.below kb), keepP (by decide) h10 (fun h => h.below kb), (fun h => by have := hD10 (by simpa using h); simpa using this), Below.cons hB kb⟩
    · skip
      have kb : Below w'.heap.size w' (w'.alloc (.cells #[.bool false, .slice none 0 0] 31)) := (Below.refl _ _).alloc (Nat.le_refl _) _
      refine wpOp_step rfl (fun K' hK' => ?_)
      go_simp
      refine hK' _ _ ?_
      exact ⟨_, _, _, _, _, _, _, _, _, _, rfl, keepD (by decide) h0, keepD (by decide) h1, keepD (by decide) h2, keepP (by decide) h3 (fun h => h.below kb), keepD (by decide) h4, keepD (by decide) h5, keepD (by decide) h6, keepP (by decide) h7 (fun h => h.below kb), keepP (by decide) h8 (fun h => h.below kb), fun _ => ⟨_, _, _, rfl, hB.size, ⟨at_new rfl⟩, notU_bool _, notU_slice _ _ _⟩, (fun h => by have h2 := hD10 (by simpa using h); rw [hEi] at h2; cases h2), (fun _ => by simp), Below.cons hB kb⟩
    · skip
      have d9 := hdep _ rfl ⟨9, .data⟩ (by simp) rfl
      obtain ⟨nb, z0, z1, rfl, hn, hb, nz0, nz1⟩ := h9 d9
      have d8 := hdep _ rfl ⟨8, .data⟩ (by simp) rfl
      obtain ⟨X_8, c_8, rfl, k_8⟩ := h8 d8
      have fz0 := hb.f (i := 0)
      have cz0 := hb.c (i := 0) rfl
      have fz1 := hb.f (i := 1)
      have cz1 := hb.c (i := 1) rfl
      have hp := hb.put2 (notU2 nz0 nz1) (.bool (sg u)) (.slice X_8 (nl (mg u)) c_8)
      have hs := hb.store2 (.bool (sg u)) (.slice X_8 (nl (mg u)) c_8)
      refine wpOp_step rfl (fun K' hK' => ?_)
      go_simp
      refine hK' _ _ ?_
      exact ⟨_, _, _, _, _, _, _, _, _, _, rfl, keepD (by decide) h0, keepD (by decide) h1, keepD (by decide) h2, keepP (by decide) h3 (fun h => h.put hp), keepD (by decide) h4, keepD (by decide) h5, keepD (by decide) h6, keepP (by decide) h7 (fun h => h.put hp), keepP (by decide) h8 (fun h => h.put hp), (fun _ => ⟨nb, _, _, rfl, hn, hs, notU_bool _, notU_slice _ _ _⟩), fun _ => ⟨nb, X_8, c_8, rfl, hn, hs, hp.nat k_8⟩, (fun _ => by simp [d9]), Below.store2 hB hn⟩
  case fin =>
    rintro E a' w' ⟨u16, u17, u18, u19, u20, u21, u22, u23, u24, u10, rfl, h0, h1, h2, h3, h4, h5, h6, h7, h8, h9, h10, hD10, hB⟩ hall
    obtain ⟨nbu, Xu, cu, rfl, hnu, Ru, hu⟩ := h10 (hall 10 (by simp))
    replace hm0 := hm0.below hB
    replace hm1 := hm1.below hB
    replace hm2 := hm2.below hB
    replace hm3 := hm3.below hB
    replace ha := ha.below hB
    replace hb := hb.below hB
    replace hG := hG.below hB
    replace Rm := Rm.below hB
    replace qm0 := cbl hB qm0
    replace qm1 := cbl hB qm1
    replace qm2 := cbl hB qm2
    replace qm3 := cbl hB qm3
    replace qm4 := cbl hB qm4
    replace qm5 := cbl hB qm5
    replace qm6 := cbl hB qm6
    replace qm7 := cbl hB qm7
    replace hx := hx.below hB
    replace hy := hy.below hB
    replace Rx := Rx.below hB
    replace qx0 := cbl hB qx0
    replace qx1 := cbl hB qx1
    replace Ry := Ry.below hB
    replace qy0 := cbl hB qy0
    replace qy1 := cbl hB qy1
    replace HBT := Below.cons HBT hB
    have kvu := hnu
    have qu0 := Ru.c (i := 0) rfl
    have qu1 := Ru.c (i := 1) rfl
    clear hall
    generalize hV1 : w' = V1 at *
    clear hV1
    go_wp2_with (fail)
    obtain ⟨p1, Ep1⟩ : ∃ z : Int, z = m.c * x := ⟨_, rfl⟩
    have Np1 : nl (mg p1) ≤ 32768 := by rw [Ep1]; have := nl_imul m.c x; omega
    have Cp1 := fun (W : World) (h1 : NatV W m2A m2c (mg m.c)) (h2 : NatV W Xx cx (mg x)) (hG : Flds W) => imul_c m2A m2c m.c Xx cx x W h1 h2 hG (by omega) (by omega)
    rw [← Ep1] at Cp1
    obtain ⟨q1, Eq1⟩ : ∃ z : Int, z = m.d * y := ⟨_, rfl⟩
    have Nq1 : nl (mg q1) ≤ 32768 := by rw [Eq1]; have := nl_imul m.d y; omega
    have Cq1 := fun (W : World) (h1 : NatV W m3A m3c (mg m.d)) (h2 : NatV W Xy cy (mg y)) (hG : Flds W) => imul_c m3A m3c m.d Xy cy y W h1 h2 hG (by omega) (by omega)
    rw [← Eq1] at Cq1
    obtain ⟨v, Ev⟩ : ∃ z : Int, z = p1 + q1 := ⟨_, rfl⟩
    have Cv := fun (W : World) (A : Option Addr) (c : Nat) (B : Option Addr) (d : Nat) (h1 : NatV W A c (mg p1)) (h2 : NatV W B d (mg q1)) => iadd_c A c p1 B d q1 W h1 h2 (by omega) (by omega)
    rw [← Ev] at Cv
    replace Ep1 := Lib.hid Ep1
    replace Eq1 := Lib.hid Eq1
    replace Ev := Lib.hid Ev
    replace Cp1 := Lib.hid Cp1
    replace Cq1 := Lib.hid Cq1
    replace Cv := Lib.hid Cv
    refine wp_region_inv (fun E a' w' => ∃ (u25 u26 u27 u28 u29 u30 u31 u32 u33 u11 : Value),
      a' = { tmps := #[.agg #[.bool (sg m.a), .slice m0A (nl (mg m.a)) m0c, .bool (sg m.b), .slice m1A (nl (mg m.b)) m1c, .bool (sg m.c), .slice m2A (nl (mg m.c)) m2c, .bool (sg m.d), .slice m3A (nl (mg m.d)) m3c], .slice aA (nl a) ac, .slice bA (nl b) bc, .pointer (some ⟨w.heap.size, 0, none⟩), undef, undef, .slice none 0 0, .slice none 0 0, .pointer (some ⟨W3.heap.size, 0, none⟩), .pointer (some ⟨(W3.heap.size + 1), 0, none⟩), .pointer (some ⟨nbu, 0, none⟩), u11, .slice aA (nl a) ac, .agg #[.bool (sg x), .slice Xx (nl (mg x)) cx], .slice bA (nl b) bc, .agg #[.bool (sg y), .slice Xy (nl (mg y)) cy], u16, u17, u18, u19, u20, u21, u22, u23, u24, u25, u26, u27, u28, u29, u30, u31, u32, u33, undef, undef, undef, undef], defers := [] } ∧
      (E 0 = true → u25 = .pointer (some ⟨w.heap.size, 4, none⟩)) ∧
      (E 1 = true → u26 = .agg #[.bool (sg m.c), .slice m2A (nl (mg m.c)) m2c]) ∧
      (E 2 = true → u27 = .agg #[.bool (sg x), .slice Xx (nl (mg x)) cx]) ∧
      (E 3 = true → PI u28 p1 w') ∧
      (E 4 = true → u29 = .pointer (some ⟨w.heap.size, 6, none⟩)) ∧
      (E 5 = true → u30 = .agg #[.bool (sg m.d), .slice m3A (nl (mg m.d)) m3c]) ∧
      (E 6 = true → u31 = .agg #[.bool (sg y), .slice Xy (nl (mg y)) cy]) ∧
      (E 7 = true → PI u32 q1 w') ∧
      (E 8 = true → PI u33 v w') ∧
      (E 9 = true → PB2 31 V1.heap.size u11 w') ∧
      (E 10 = true → PBI V1.heap.size u11 v w') ∧
      (E 10 = true → E 9 = true) ∧
      Below V1.heap.size V1 w') (by kernel_rfl) (by kernel_rfl) ?init ?fin ?step
    case init => exact ⟨_, _, _, _, _, _, _, _, _, _, rfl, by simp, by simp, by simp, by simp, by simp, by simp, by simp, by simp, by simp, by simp, by simp, by simp, (Below.refl _ _).drew⟩
    case step =>
      rintro E a' w' i ⟨u25, u26, u27, u28, u29, u30, u31, u32, u33, u11, rfl, h0, h1, h2, h3, h4, h5, h6, h7, h8, h9, h10, hD10, hB⟩ hi hEi hdep
      have qm0 := cbl hB qm0
      have qm1 := cbl hB qm1
      have qm2 := cbl hB qm2
      have qm3 := cbl hB qm3
      have qm4 := cbl hB qm4
      have qm5 := cbl hB qm5
      have qm6 := cbl hB qm6
      have qm7 := cbl hB qm7
      have qx0 := cbl hB qx0
      have qx1 := cbl hB qx1
      have qy0 := cbl hB qy0
      have qy1 := cbl hB qy1
      obtain rfl | rfl | rfl | rfl | rfl | rfl | rfl | rfl | rfl | rfl | rfl : i = 0 ∨ i = 1 ∨ i = 2 ∨ i = 3 ∨ i = 4 ∨ i = 5 ∨ i = 6 ∨ i = 7 ∨ i = 8 ∨ i = 9 ∨ i = 10 := by simp at hi; omega
      · skip
        refine wpOp_step rfl (fun K' hK' => ?_)
        go_simp
        refine hK' _ _ ?_
        exact ⟨_, _, _, _, _, _, _, _, _, _, rfl, fun _ => rfl, keepD (by decide) h1, keepD (by decide) h2, keepD (by decide) h3, keepD (by decide) h4, keepD (by decide) h5, keepD (by decide) h6, keepD (by decide) h7, keepD (by decide) h8, keepD (by decide) h9, keepD (by decide) h10, (fun h => by have := hD10 (by simpa using h); simpa using this), hB⟩
      · skip
        have d0 := hdep _ rfl ⟨0, .data⟩ (by simp) rfl
        obtain rfl := h0 d0
        refine wpOp_step rfl (fun K' hK' => ?_)
        go_simp
        refine hK' _ _ ?_
        exact ⟨_, _, _, _, _, _, _, _, _, _, rfl, keepD (by decide) h0, fun _ => rfl, keepD (by decide) h2, keepD (by decide) h3, keepD (by decide) h4, keepD (by decide) h5, keepD (by decide) h6, keepD (by decide) h7, keepD (by decide) h8, keepD (by decide) h9, keepD (by decide) h10, (fun h => by have := hD10 (by simpa using h); simpa using this), hB⟩
      · skip
        refine wpOp_step rfl (fun K' hK' => ?_)
        go_simp
        refine hK' _ _ ?_
        exact ⟨_, _, _, _, _, _, _, _, _, _, rfl, keepD (by decide) h0, keepD (by decide) h1, fun _ => rfl, keepD (by decide) h3, keepD (by decide) h4, keepD (by decide) h5, keepD (by decide) h6, keepD (by decide) h7, keepD (by decide) h8, keepD (by decide) h9, keepD (by decide) h10, (fun h => by have := hD10 (by simpa using h); simpa using this), hB⟩
      · skip
        have d1 := hdep _ rfl ⟨1, .data⟩ (by simp) rfl
        obtain rfl := h1 d1
        have d2 := hdep _ rfl ⟨2, .data⟩ (by simp) rfl
        obtain rfl := h2 d2
        refine wpOp_step rfl (fun K' hK' => ?_)
        go_simp
        refine (Calls.mono (Cp1.out w' (hm2.below hB) (hx.below hB) (hG.below hB)) ?_)
        rintro e W1 ⟨Xr, cr, rfl, kr, kb⟩
        refine hK' _ _ ?_
        exact ⟨_, _, _, _, _, _, _, _, _, _, rfl, keepD (by decide) h0, keepD (by decide) h1, keepD (by decide) h2, fun _ => ⟨Xr, cr, rfl, kr⟩, keepD (by decide) h4, keepD (by decide) h5, keepD (by decide) h6, keepP (by decide) h7 (fun h => h.below kb), keepP (by decide) h8 (fun h => h.below kb), keepP (by decide) h9 (fun h => h.below kb), keepP (by decide) h10 (fun h => h.below kb), (fun h => by have := hD10 (by simpa using h); simpa using this), Below.cons hB kb⟩
      · skip
        refine wpOp_step rfl (fun K' hK' => ?_)
        go_simp
        refine hK' _ _ ?_
        exact ⟨_, _, _, _, _, _, _, _, _, _, rfl, keepD (by decide) h0, keepD (by decide) h1, keepD (by decide) h2, keepD (by decide) h3, fun _ => rfl, keepD (by decide) h5, keepD (by decide) h6, keepD (by decide) h7, keepD (by decide) h8, keepD (by decide) h9, keepD (by decide) h10, (fun h => by have := hD10 (by simpa using h); simpa using this), hB⟩
      · skip
        have d4 := hdep _ rfl ⟨4, .data⟩ (by simp) rfl
        obtain rfl := h4 d4
        refine wpOp_step rfl (fun K' hK' => ?_)
        go_simp
        refine hK' _ _ ?_
        exact ⟨_, _, _, _, _, _, _, _, _, _, rfl, keepD (by decide) h0, keepD (by decide) h1, keepD (by decide) h2, keepD (by decide) h3, keepD (by decide) h4, fun _ => rfl, keepD (by decide) h6, keepD (by decide) h7, keepD (by decide) h8, keepD (by decide) h9, keepD (by decide) h10, (fun h => by have := hD10 (by simpa using h); simpa using this), hB⟩
      · skip
        refine wpOp_step rfl (fun K' hK' => ?_)
        go_simp
        refine hK' _ _ ?_
        exact ⟨_, _, _, _, _, _, _, _, _, _, rfl, keepD (by decide) h0, keepD (by decide) h1, keepD (by decide) h2, keepD (by decide) h3, keepD (by decide) h4, keepD (by decide) h5, fun _ => rfl, keepD (by decide) h7, keepD (by decide) h8, keepD (by decide) h9, keepD (by decide) h10, (fun h => by have := hD10 (by simpa using h); simpa using this), hB⟩
      · skip
        have d5 := hdep _ rfl ⟨5, .data⟩ (by simp) rfl
        obtain rfl := h5 d5
        have d6 := hdep _ rfl ⟨6, .data⟩ (by simp) rfl
        obtain rfl := h6 d6
        refine wpOp_step rfl (fun K' hK' => ?_)
        go_simp
        refine (Calls.mono (Cq1.out w' (hm3.below hB) (hy.below hB) (hG.below hB)) ?_)
        rintro e W1 ⟨Xr, cr, rfl, kr, kb⟩
        refine hK' _ _ ?_
        exact ⟨_, _, _, _, _, _, _, _, _, _, rfl, keepD (by decide) h0, keepD (by decide) h1, keepD (by decide) h2, keepP (by decide) h3 (fun h => h.below kb), keepD (by decide) h4, keepD (by decide) h5, keepD (by decide) h6, fun _ => ⟨Xr, cr, rfl, kr⟩, keepP (by decide) h8 (fun h => h.below kb), keepP (by decide) h9 (fun h => h.below kb), keepP (by decide) h10 (fun h => h.below kb), (fun h => by have := hD10 (by simpa using h); simpa using this), Below.cons hB kb⟩
      · skip
        have d3 := hdep _ rfl ⟨3, .data⟩ (by simp) rfl
        obtain ⟨X_3, c_3, rfl, k_3⟩ := h3 d3
        have d7 := hdep _ rfl ⟨7, .data⟩ (by simp) rfl
        obtain ⟨X_7, c_7, rfl, k_7⟩ := h7 d7
        refine wpOp_step rfl (fun K' hK' => ?_)
        go_simp
        refine (Calls.mono (Cv.out w' _ _ _ _ k_3 k_7) ?_)
        rintro e W1 ⟨Xr, cr, rfl, kr, kb⟩
        refine hK' _ _ ?_
        exact ⟨_, _, _, _, _, _, _, _, _, _, rfl, keepD (by decide) h0, keepD (by decide) h1, keepD (by decide) h2, keepP (by decide) h3 (fun h => h.below kb), keepD (by decide) h4, keepD (by decide) h5, keepD (by decide) h6, keepP (by decide) h7 (fun h => h.below kb), fun _ => ⟨Xr, cr, rfl, kr⟩, keepP (by decide) h9 (fun h => h.below kb), keepP (by decide) h10 (fun h => h.below kb), (fun h => by have := hD10 (by simpa using h); simpa using this), Below.cons hB kb⟩
      · skip
        have kb : Below w'.heap.size w' (w'.alloc (.cells #[.bool false, .slice none 0 0] 31)) := (Below.refl _ _).alloc (Nat.le_refl _) _
        refine wpOp_step rfl (fun K' hK' => ?_)
        go_simp
        refine hK' _ _ ?_
        exact ⟨_, _, _, _, _, _, _, _, _, _, rfl, keepD (by decide) h0, keepD (by decide) h1, keepD (by decide) h2, keepP (by decide) h3 (fun h => h.below kb), keepD (by decide) h4, keepD (by decide) h5, keepD (by decide) h6, keepP (by decide) h7 (fun h => h.below kb), keepP (by decide) h8 (fun h => h.below kb), fun _ => ⟨_, _, _, rfl, hB.size, ⟨at_new rfl⟩, notU_bool _, notU_slice _ _ _⟩, (fun h => by have h2 := hD10 (by simpa using h); rw [hEi] at h2; cases h2), (fun _ => by simp), Below.cons hB kb⟩
      · skip
        have d9 := hdep _ rfl ⟨9, .data⟩ (by simp) rfl
        obtain ⟨nb, z0, z1, rfl, hn, hb, nz0, nz1⟩ := h9 d9
        have d8 := hdep _ rfl ⟨8, .data⟩ (by simp) rfl
        obtain ⟨X_8, c_8, rfl, k_8⟩ := h8 d8
        have fz0 := hb.f (i := 0)
        have cz0 := hb.c (i := 0) rfl
        have fz1 := hb.f (i := 1)
        have cz1 := hb.c (i := 1) rfl
        have hp := hb.put2 (notU2 nz0 nz1) (.bool (sg v)) (.slice X_8 (nl (mg v)) c_8)
        have hs := hb.store2 (.bool (sg v)) (.slice X_8 (nl (mg v)) c_8)
        refine wpOp_step rfl (fun K' hK' => ?_)
        go_simp
        refine hK' _ _ ?_
        exact ⟨_, _, _, _, _, _, _, _, _, _, rfl, keepD (by decide) h0, keepD (by decide) h1, keepD (by decide) h2, keepP (by decide) h3 (fun h => h.put hp), keepD (by decide) h4, keepD (by decide) h5, keepD (by decide) h6, keepP (by decide) h7 (fun h => h.put hp), keepP (by decide) h8 (fun h => h.put hp), (fun _ => ⟨nb, _, _, rfl, hn, hs, notU_bool _, notU_slice _ _ _⟩), fun _ => ⟨nb, X_8, c_8, rfl, hn, hs, hp.nat k_8⟩, (fun _ => by simp [d9]), Below.store2 hB hn⟩
    case fin =>
      rintro E a' w' ⟨u25, u26, u27, u28, u29, u30, u31, u32, u33, u11, rfl, h0, h1, h2, h3, h4, h5, h6, h7, h8, h9, h10, hD10, hB⟩ hall
      obtain ⟨nbv, Xv, cv, rfl, hnv, Rv, hv⟩ := h10 (hall 10 (by simp))
      replace hm0 := hm0.below hB
      replace hm1 := hm1.below hB
      replace hm2 := hm2.below hB
      replace hm3 := hm3.below hB
      replace ha := ha.below hB
      replace hb := hb.below hB
      replace hG := hG.below hB
      replace Rm := Rm.below hB
      replace qm0 := cbl hB qm0
      replace qm1 := cbl hB qm1
      replace qm2 := cbl hB qm2
      replace qm3 := cbl hB qm3
      replace qm4 := cbl hB qm4
      replace qm5 := cbl hB qm5
      replace qm6 := cbl hB qm6
      replace qm7 := cbl hB qm7
      replace hx := hx.below hB
      replace hy := hy.below hB
      replace Rx := Rx.below hB
      replace qx0 := cbl hB qx0
      replace qx1 := cbl hB qx1
      replace Ry := Ry.below hB
      replace qy0 := cbl hB qy0
      replace qy1 := cbl hB qy1
      replace hu := hu.below hB
      replace Ru := Ru.below hB
      replace qu0 := cbl hB qu0
      replace qu1 := cbl hB qu1
      replace HBT := Below.cons HBT hB
      have kvv := hnv
      have qv0 := Rv.c (i := 0) rfl
      have qv1 := Rv.c (i := 1) rfl
      clear hall
      generalize hV2 : w' = V2 at *
      clear hV2
      go_wp2_with (fail)
      clear qm0
      clear qm1
      clear qm2
      clear qm3
      clear qm4
      clear qm5
      clear qm6
      clear qm7
      clear qx0
      clear qx1
      clear qy0
      clear qy1
      clear Rm
      clear Rx
      clear Ry
      go_quiet (fail)
      have hb5 : Below (V2).heap.size (V2) ((V2).drewN nq) := below_drewN (Below.refl _ _) nq
      replace hm0 := hm0.below hb5
      replace hm1 := hm1.below hb5
      replace hm2 := hm2.below hb5
      replace hm3 := hm3.below hb5
      replace ha := ha.below hb5
      replace hb := hb.below hb5
      replace hG := hG.below hb5
      replace hx := hx.below hb5
      replace hy := hy.below hb5
      replace hu := hu.below hb5
      replace Ru := Ru.below hb5
      replace qu0 := cbl hb5 qu0
      replace qu1 := cbl hb5 qu1
      replace hv := hv.below hb5
      replace Rv := Rv.below hb5
      replace qv0 := cbl hb5 qv0
      replace qv1 := cbl hb5 qv1
      replace HBT := Below.cons HBT hb5
      clear hb5
      go_wp2_with (fail)
      have eU : mg (m.x a b) = mg u := by rw [Eu.out, Ep0.out, Eq0.out, Ex.out, Ey.out]; rfl
      have eV : mg (m.y a b) = mg v := by rw [Ev.out, Ep1.out, Eq1.out, Ex.out, Ey.out]; rfl
      rw [eU, eV]
      refine bodyPost_ret (v := .tuple #[.slice Xu (nl (mg u)) cu, .slice Xv (nl (mg v)) cv]) (by simp [results, Tryd.results36, go_sem]) rfl ?_
      exact ⟨Xu, cu, Xv, cv, rfl, hu, hv, HBT⟩
end Go.Proofs.YthcmoimlnhghcaaDoor

/- The greatest common divisor by leading limbs. -/
set_option linter.unusedVariables false
set_option linter.unusedSimpArgs false
namespace Go.Proofs.YthcmoimlnhghcaaDoor
open Go.RowKit Go.Shelf
attribute [local go_sem] max2_i min2_i max_two min_two

theorem lead_lt {x : Nat} {n : Nat} (h : bl x = n + 60) : x / 2 ^ n < 1152921504606846976 := by
  have h1 := bl_lt x
  rw [h] at h1
  rw [Nat.div_lt_iff_lt_mul (Nat.two_pow_pos n)]
  rw [Nat.pow_add, Nat.mul_comm] at h1
  exact h1
theorem bl_big {x : Nat} (h : 2 < nl x) : 64 < bl x := by
  have h0 : x ≠ 0 := fun e => by rw [e, nl_zero] at h; omega
  obtain ⟨L, h1, h2, _⟩ := bl_top h0
  omega
/-- A step's numbers. -/
theorem lehmer_step {x y n : Nat} {m : Mx} (hL : Lst ((x / 2 ^ n : Nat) : Int) ((y / 2 ^ n : Nat) : Int) m) (hb : m.b ≠ 0) (h0 : 0 < x + y) :
    Nat.gcd (mg (m.x x y)) (mg (m.y x y)) = Nat.gcd x y ∧ mg (m.y x y) ≤ mg (m.x x y) ∧ mg (m.x x y) ≤ y ∧ mg (m.y x y) < y := by
  obtain ⟨h1, h2, h3⟩ := lst_end hL hb (N := 2 ^ n) (Nat.two_pow_pos n) rfl rfl h0
  refine ⟨Mx.gcd hL.u x y, ?_, ?_, ?_⟩ <;> unfold mg <;> omega
theorem lehmer_c (A : Option Addr) (c a : Nat) (B : Option Addr) (d b : Nat) (w : World) (hA : NatV w A c a) (hB : NatV w B d b) (hG : Flds w) (la : nl a ≤ 8192) (lb : nl b ≤ 8192) :
    Calls Tryd.prog 14 #[.slice A (nl a) c, .slice B (nl b) d] w (RetN w (Nat.gcd a b)) := by
  go_enter Tryd.func14, Tryd.ntmps14
  go_wp2_with (fail)
  refine (cmp_c A c a B d b w hA hB (by omega) (by omega)).mono ?_
  rintro e w1 ⟨rfl, hb1⟩
  go_upto_if 15 with (fail)
  go_cut [0, 1] from 12 to 17 (fun v0 v1 wx => ∃ (x y : Nat) (X : Option Addr) (cx : Nat) (Y : Option Addr) (cy : Nat), v0 = .slice X (nl x) cx ∧ v1 = .slice Y (nl y) cy ∧ NatV wx X cx x ∧ NatV wx Y cy y ∧ Below w.heap.size w wx ∧ Hid (Nat.gcd x y = Nat.gcd a b) ∧ y ≤ x ∧ nl x ≤ 8192 ∧ nl y ≤ 8192)
  case first =>
    by_cases h : a < b
    · have t1 : decide (cmpN a b < 0) = true := decide_eq_true (cmpN_neg.2 h)
      simp only [t1]
      go_wp2_with (fail)
      go_meet
      exact ⟨b, a, B, d, A, c, rfl, rfl, hB.below hb1, hA.below hb1, hb1, Lib.hid (Nat.gcd_comm b a), by omega, lb, la⟩
    · have t1 : decide (cmpN a b < 0) = false := decide_eq_false (fun e => h (cmpN_neg.1 e))
      simp only [t1]
      go_wp2_with (fail)
      go_meet
      exact ⟨a, b, A, c, B, d, rfl, rfl, hA.below hb1, hB.below hb1, hb1, Lib.hid rfl, by omega, la, lb⟩
  case rest =>
    obtain ⟨x0, y0, X0, cx0, Y0, cy0, rfl, rfl, hX0, hY0, hb0, hg0, hyx0, lx0, ly0⟩ := hcut
    go_wp2_with (fail)
    go_loopw [0, 1, 5, 6, 7, 8, 9, 10, 11] (fun v0 v1 v5 v6 v7 v8 v9 v10 v11 wr => ∃ (x y : Nat) (X : Option Addr) (cx : Nat) (Y : Option Addr) (cy : Nat), v0 = .slice X (nl x) cx ∧ v1 = .slice Y (nl y) cy ∧ NatV wr X cx x ∧ NatV wr Y cy y ∧ Below w.heap.size w wr ∧ Hid (Nat.gcd x y = Nat.gcd a b) ∧ y ≤ x ∧ nl x ≤ 8192 ∧ nl y ≤ 8192) (fun v0 v1 v5 v6 v7 v8 v9 v10 v11 wr => natAt wr (some v1))
    case atStart => exact ⟨x0, y0, X0, cx0, Y0, cy0, rfl, rfl, hX0, hY0, hb0, hg0, hyx0, lx0, ly0⟩
    case round =>
      obtain ⟨x, y, X, cx, Y, cy, rfl, rfl, hX, hY, hbr, hg, hyx, lx, ly⟩ := hrel
      have hY0 := Lib.hid hY
      by_cases h0 : nl y ≤ 2
      · have t1 : decide (2 < (nl y : Int)) = false := by simp; omega
        have t2 : decide (2 < nl y) = false := by simp; omega
        have CE := gcd_c X cx x Y cy y wr hX hY (by omega) (by omega)
        rw [hg.out] at CE
        replace CE := Lib.hid CE
        go_wp2_with (fail)
        refine CE.out.mono ?_
        rintro e w1 ⟨Z, cz, rfl, hZ, hb1⟩
        go_wp2_with (fail)
        go_ret
        exact ⟨Z, cz, rfl, hZ, hbr.cons hb1⟩
      · have t1 : decide (2 < (nl y : Int)) = true := by simp; omega
        have t2 : decide (2 < nl y) = true := by simp; omega
        have hbig : 64 < bl y := bl_big (by omega)
        have hble := bl_le x
        have hblx : bl y ≤ bl x := by
          have h1 := bl_ge (a := y) (fun e => by rw [e, nl_zero] at h0; omega)
          have h2 := bl_lt x
          have h3 : 2 ^ (bl y - 1) < 2 ^ bl x := by omega
          have := (Nat.pow_lt_pow_iff_right (by decide : 1 < 2)).1 h3
          omega
        obtain ⟨n, En⟩ : ∃ n, bl x = n + 60 := ⟨bl x - 60, by omega⟩
        have In : (bl x : Int) - 60 = (n : Int) := by omega
        have Wn : IntKind.i64.wrap (n : Int) = (n : Int) := IntWalk.i64_in _ (by omega)
        have px := lead_lt En
        have py : y / 2 ^ n < 1152921504606846976 := Nat.lt_of_le_of_lt (Nat.div_le_div_right hyx) px
        have hxy0 : 0 < x + y := by have : y ≠ 0 := fun e => by rw [e, nl_zero] at h0; omega
                                    omega
        have hy0 : 0 < y := by have : y ≠ 0 := fun e => by rw [e, nl_zero] at h0; omega
                               omega
        have ln : n ≤ 1099511627776 := by omega
        obtain ⟨p, Ep⟩ : ∃ z, z = x / 2 ^ n := ⟨_, rfl⟩
        obtain ⟨q, Eq⟩ : ∃ z, z = y / 2 ^ n := ⟨_, rfl⟩
        have CP := fun (W : World) (h : NatV W X cx x) => lead_c X cx x n W h (by omega) ln px
        have CQ := fun (W : World) (h : NatV W Y cy y) => lead_c Y cy y n W h (by omega) ln py
        rw [← Ep] at CP px
        rw [← Eq] at CQ py
        replace CP := Lib.hid CP
        replace CQ := Lib.hid CQ
        replace Ep := Lib.hid Ep
        replace Eq := Lib.hid Eq
        replace En := Lib.hid En
        replace hble := Lib.hid hble
        replace hblx := Lib.hid hblx
        have CB := bits_c X cx x wr hX (by omega)
        replace CB := Lib.hid CB
        go_wp2_with (fail)
        refine CB.out.mono ?_
        rintro e w1 ⟨rfl, hw1⟩
        subst hw1
        clear CB
        go_wp2_with (fail)
        refine (CP.out _ hX).mono ?_
        rintro e w1 ⟨rfl, hb1⟩
        replace hX := hX.below hb1
        replace hY := hY.below hb1
        have hbr1 := hbr.cons hb1
        go_wp2_with (fail)
        refine (CQ.out _ hY).mono ?_
        rintro e w2 ⟨rfl, hb2⟩
        replace hX := hX.below hb2
        replace hY := hY.below hb2
        have hbr2 := hbr1.cons hb2
        go_wp2_with (fail)
        refine (steps_c p q w2 px py).mono ?_
        rintro e w3 ⟨m, f, mA, ma, mB, mb, mC, mc, mD, md, rfl, hL, hsz, hf, m0, m1, m2, m3, hb3⟩
        replace hX := hX.below hb3
        replace hY := hY.below hb3
        have hbr3 := hbr2.cons hb3
        have hb4 : Below w3.heap.size w3 (w3.alloc (.cells #[.bool (sg m.a), .slice mA (nl (mg m.a)) ma, .bool (sg m.b), .slice mB (nl (mg m.b)) mb, .bool (sg m.c), .slice mC (nl (mg m.c)) mc, .bool (sg m.d), .slice mD (nl (mg m.d)) md] 48)) := (Below.refl _ _).alloc (Nat.le_refl _) _
        have RM : BoxA (w3.alloc (.cells #[.bool (sg m.a), .slice mA (nl (mg m.a)) ma, .bool (sg m.b), .slice mB (nl (mg m.b)) mb, .bool (sg m.c), .slice mC (nl (mg m.c)) mc, .bool (sg m.d), .slice mD (nl (mg m.d)) md] 48)) w3.heap.size 48 #[.bool (sg m.a), .slice mA (nl (mg m.a)) ma, .bool (sg m.b), .slice mB (nl (mg m.b)) mb, .bool (sg m.c), .slice mC (nl (mg m.c)) mc, .bool (sg m.d), .slice mD (nl (mg m.d)) md] := ⟨at_new rfl⟩
        replace hX := hX.below hb4
        replace hY := hY.below hb4
        replace m0 := m0.below hb4
        replace m1 := m1.below hb4
        replace m2 := m2.below hb4
        replace m3 := m3.below hb4
        have hbr4 := hbr3.cons hb4
        have hsx := Mx.sz_x (m := m) (l := 8192) hsz lx ly
        replace hL := Lib.hid hL
        replace hf := Lib.hid hf
        clear hb1 hb2 hb3 hb4 hbr hbr1 hbr2 hbr3 CP CQ
        cases f with
        | false =>
          go_wp2_with (fail)
          refine (ddivmod_c X cx x Y cy y _ hX hY (by omega) (by omega) hy0).mono ?_
          rintro e w5 ⟨Z, cz, R, cr, rfl, hZ, hR, hb5⟩
          have hY5 := hY.below hb5
          have hmeas : natAt w5 (some (.slice R (nl (x % y)) cr)) < y := by rw [hR.at_]; exact Nat.mod_lt _ hy0
          have hg2 : Hid (Nat.gcd y (x % y) = Nat.gcd a b) := Lib.hid (by rw [← hg.out, Nat.gcd_comm x y, Nat.gcd_rec y x, Nat.gcd_comm])
          have hrl : x % y ≤ y := Nat.le_of_lt (Nat.mod_lt _ hy0)
          have lr : nl (x % y) ≤ 8192 := Nat.le_trans (nl_mono hrl) ly
          replace hmeas := Lib.hid hmeas
          go_wp2_with (fail)
          go_roundw
          case rel => exact ⟨y, x % y, Y, cy, R, cr, rfl, rfl, hY5, hR, hbr4.cons hb5, hg2, hrl, ly, lr⟩
          case measure => rw [hY0.out.at_]; exact hmeas.out
        | true =>
          have hst := lehmer_step (x := x) (y := y) (n := n) (m := m) (by rw [← Ep.out, ← Eq.out]; exact hL.out) (hf.out rfl) hxy0
          obtain ⟨s1, s2, s3, s4⟩ := hst
          have CD := do_c mA ma mB mb mC mc mD md m X cx x Y cy y _ m0 m1 m2 m3 hX hY (hG.below hbr4) (hsz.mono (by decide)) (by omega) (by omega)
          obtain ⟨u, Eu⟩ : ∃ z, z = mg (m.x x y) := ⟨_, rfl⟩
          obtain ⟨v, Ev⟩ : ∃ z, z = mg (m.y x y) := ⟨_, rfl⟩
          rw [← Eu, ← Ev] at CD s1 s2
          rw [← Eu] at s3
          rw [← Ev] at s4
          replace CD := Lib.hid CD
          replace Eu := Lib.hid Eu
          replace Ev := Lib.hid Ev
          have q0 := RM.c (i := 0) rfl
          have q1 := RM.c (i := 1) rfl
          have q2 := RM.c (i := 2) rfl
          have q3 := RM.c (i := 3) rfl
          have q4 := RM.c (i := 4) rfl
          have q5 := RM.c (i := 5) rfl
          have q6 := RM.c (i := 6) rfl
          have q7 := RM.c (i := 7) rfl
          go_wp2_with (fail)
          refine CD.out.mono ?_
          rintro e w5 ⟨U, cu, V, cv, rfl, hU, hV, hb5⟩
          have hmeas : natAt w5 (some (.slice V (nl v) cv)) < y := by rw [hV.at_]; exact s4
          have hg2 : Hid (Nat.gcd u v = Nat.gcd a b) := Lib.hid (by rw [s1, hg.out])
          have lu : nl u ≤ 8192 := Nat.le_trans (nl_mono s3) ly
          have lv : nl v ≤ 8192 := Nat.le_trans (nl_mono s2) lu
          replace hmeas := Lib.hid hmeas
          clear q0 q1 q2 q3 q4 q5 q6 q7 s1 s3 s4
          go_wp2_with (fail)
          go_roundw
          case rel => exact ⟨u, v, U, cu, V, cv, rfl, rfl, hU, hV, hbr4.cons hb5, hg2, s2, lu, lv⟩
          case measure => rw [hY0.out.at_]; exact hmeas.out
end Go.Proofs.YthcmoimlnhghcaaDoor

/- Matrices: one behind another. -/
set_option linter.unusedVariables false
set_option linter.unusedSimpArgs false
namespace Go.Proofs.YthcmoimlnhghcaaDoor
open Go.RowKit Go.Shelf
attribute [local go_sem] max2_i min2_i max_two min_two

theorem after_c (m0A : Option Addr) (m0c : Nat) (m1A : Option Addr) (m1c : Nat) (m2A : Option Addr) (m2c : Nat) (m3A : Option Addr) (m3c : Nat) (m : Mx) (n0A : Option Addr) (n0c : Nat) (n1A : Option Addr) (n1c : Nat) (n2A : Option Addr) (n2c : Nat) (n3A : Option Addr) (n3c : Nat) (n : Mx) (w : World) (hm0 : NatV w m0A m0c (mg m.a)) (hm1 : NatV w m1A m1c (mg m.b)) (hm2 : NatV w m2A m2c (mg m.c)) (hm3 : NatV w m3A m3c (mg m.d)) (hn0 : NatV w n0A n0c (mg n.a)) (hn1 : NatV w n1A n1c (mg n.b)) (hn2 : NatV w n2A n2c (mg n.c)) (hn3 : NatV w n3A n3c (mg n.d)) (hG : Flds w) (lm : m.sz 16384) (ln : n.sz 16384) :
    Calls Tryd.prog 65 #[.agg #[.bool (sg m.a), .slice m0A (nl (mg m.a)) m0c, .bool (sg m.b), .slice m1A (nl (mg m.b)) m1c, .bool (sg m.c), .slice m2A (nl (mg m.c)) m2c, .bool (sg m.d), .slice m3A (nl (mg m.d)) m3c], .agg #[.bool (sg n.a), .slice n0A (nl (mg n.a)) n0c, .bool (sg n.b), .slice n1A (nl (mg n.b)) n1c, .bool (sg n.c), .slice n2A (nl (mg n.c)) n2c, .bool (sg n.d), .slice n3A (nl (mg n.d)) n3c]] w (RetM w (m.af n)) := by
  obtain ⟨lm0, lm1, lm2, lm3⟩ := lm
  obtain ⟨ln0, ln1, ln2, ln3⟩ := ln
  obtain ⟨hb1, Rm, Rn, Rr⟩ := bx3 w #[.bool (sg m.a), .slice m0A (nl (mg m.a)) m0c, .bool (sg m.b), .slice m1A (nl (mg m.b)) m1c, .bool (sg m.c), .slice m2A (nl (mg m.c)) m2c, .bool (sg m.d), .slice m3A (nl (mg m.d)) m3c] 48 #[.bool (sg n.a), .slice n0A (nl (mg n.a)) n0c, .bool (sg n.b), .slice n1A (nl (mg n.b)) n1c, .bool (sg n.c), .slice n2A (nl (mg n.c)) n2c, .bool (sg n.d), .slice n3A (nl (mg n.d)) n3c] 48 #[.bool false, .slice none 0 0, .bool false, .slice none 0 0, .bool false, .slice none 0 0, .bool false, .slice none 0 0] 48
  replace hm0 := hm0.below hb1
  replace hm1 := hm1.below hb1
  replace hm2 := hm2.below hb1
  replace hm3 := hm3.below hb1
  replace hn0 := hn0.below hb1
  replace hn1 := hn1.below hb1
  replace hn2 := hn2.below hb1
  replace hn3 := hn3.below hb1
  replace hG := hG.below hb1
  have HBT := hb1
  clear hb1
  have qm0 := Rm.c (i := 0) rfl
  have qm1 := Rm.c (i := 1) rfl
  have qm2 := Rm.c (i := 2) rfl
  have qm3 := Rm.c (i := 3) rfl
  have qm4 := Rm.c (i := 4) rfl
  have qm5 := Rm.c (i := 5) rfl
  have qm6 := Rm.c (i := 6) rfl
  have qm7 := Rm.c (i := 7) rfl
  have qn0 := Rn.c (i := 0) rfl
  have qn1 := Rn.c (i := 1) rfl
  have qn2 := Rn.c (i := 2) rfl
  have qn3 := Rn.c (i := 3) rfl
  have qn4 := Rn.c (i := 4) rfl
  have qn5 := Rn.c (i := 5) rfl
  have qn6 := Rn.c (i := 6) rfl
  have qn7 := Rn.c (i := 7) rfl
  have qr0 := Rr.c (i := 0) rfl
  have qr1 := Rr.c (i := 1) rfl
  have qr2 := Rr.c (i := 2) rfl
  have qr3 := Rr.c (i := 3) rfl
  have qr4 := Rr.c (i := 4) rfl
  have qr5 := Rr.c (i := 5) rfl
  have qr6 := Rr.c (i := 6) rfl
  have qr7 := Rr.c (i := 7) rfl
  clear qr0
  clear qr1
  clear qr2
  clear qr3
  clear qr4
  clear qr5
  clear qr6
  clear qr7
  go_enter Tryd.func65, Tryd.ntmps65
  go_wp2_with (fail)
  clear qm0
  clear qn0
  clear qm1
  clear qn1
  clear qm2
  clear qn2
  clear qm3
  clear qn3
  clear qm4
  clear qn4
  clear qm5
  clear qn5
  clear qm6
  clear qn6
  clear qm7
  clear qn7
  have hd2 := drb ((((w.alloc (.cells #[.bool (sg m.a), .slice m0A (nl (mg m.a)) m0c, .bool (sg m.b), .slice m1A (nl (mg m.b)) m1c, .bool (sg m.c), .slice m2A (nl (mg m.c)) m2c, .bool (sg m.d), .slice m3A (nl (mg m.d)) m3c] 48)).alloc (.cells #[.bool (sg n.a), .slice n0A (nl (mg n.a)) n0c, .bool (sg n.b), .slice n1A (nl (mg n.b)) n1c, .bool (sg n.c), .slice n2A (nl (mg n.c)) n2c, .bool (sg n.d), .slice n3A (nl (mg n.d)) n3c] 48)).alloc (.cells #[.bool false, .slice none 0 0, .bool false, .slice none 0 0, .bool false, .slice none 0 0, .bool false, .slice none 0 0] 48)))
  replace hm0 := hm0.below hd2
  replace hm1 := hm1.below hd2
  replace hm2 := hm2.below hd2
  replace hm3 := hm3.below hd2
  replace hn0 := hn0.below hd2
  replace hn1 := hn1.below hd2
  replace hn2 := hn2.below hd2
  replace hn3 := hn3.below hd2
  replace hG := hG.below hd2
  replace Rm := Rm.below hd2
  replace Rn := Rn.below hd2
  replace Rr := Rr.below hd2
  replace HBT := Below.cons HBT hd2
  clear hd2
  obtain ⟨x, Ex⟩ : ∃ zq : Int, zq = n.a * m.a + n.b * m.c := ⟨_, rfl⟩
  have C2_0 := fun (W : World) (h1 : NatV W n0A n0c (mg n.a)) (h2 : NatV W m0A m0c (mg m.a)) (h3 : NatV W n1A n1c (mg n.b)) (h4 : NatV W m2A m2c (mg m.c)) (hG : Flds W) => after1_c n0A n0c n.a m0A m0c m.a n1A n1c n.b m2A m2c m.c W h1 h2 h3 h4 hG (by omega) (by omega) (by omega) (by omega)
  simp only [← Ex] at C2_0
  replace Ex := Lib.hid Ex
  replace C2_0 := Lib.hid C2_0
  obtain ⟨y, Ey⟩ : ∃ zq : Int, zq = n.a * m.b + n.b * m.d := ⟨_, rfl⟩
  have C2_1 := fun (W : World) (h1 : NatV W n0A n0c (mg n.a)) (h2 : NatV W m1A m1c (mg m.b)) (h3 : NatV W n1A n1c (mg n.b)) (h4 : NatV W m3A m3c (mg m.d)) (hG : Flds W) => after1_c n0A n0c n.a m1A m1c m.b n1A n1c n.b m3A m3c m.d W h1 h2 h3 h4 hG (by omega) (by omega) (by omega) (by omega)
  simp only [← Ey] at C2_1
  replace Ey := Lib.hid Ey
  replace C2_1 := Lib.hid C2_1
  obtain ⟨z, Ez⟩ : ∃ zq : Int, zq = n.c * m.a + n.d * m.c := ⟨_, rfl⟩
  have C2_2 := fun (W : World) (h1 : NatV W n2A n2c (mg n.c)) (h2 : NatV W m0A m0c (mg m.a)) (h3 : NatV W n3A n3c (mg n.d)) (h4 : NatV W m2A m2c (mg m.c)) (hG : Flds W) => after1_c n2A n2c n.c m0A m0c m.a n3A n3c n.d m2A m2c m.c W h1 h2 h3 h4 hG (by omega) (by omega) (by omega) (by omega)
  simp only [← Ez] at C2_2
  replace Ez := Lib.hid Ez
  replace C2_2 := Lib.hid C2_2
  obtain ⟨v, Ev⟩ : ∃ zq : Int, zq = n.c * m.b + n.d * m.d := ⟨_, rfl⟩
  have C2_3 := fun (W : World) (h1 : NatV W n2A n2c (mg n.c)) (h2 : NatV W m1A m1c (mg m.b)) (h3 : NatV W n3A n3c (mg n.d)) (h4 : NatV W m3A m3c (mg m.d)) (hG : Flds W) => after1_c n2A n2c n.c m1A m1c m.b n3A n3c n.d m3A m3c m.d W h1 h2 h3 h4 hG (by omega) (by omega) (by omega) (by omega)
  simp only [← Ev] at C2_3
  replace Ev := Lib.hid Ev
  replace C2_3 := Lib.hid C2_3
  obtain ⟨S, hS⟩ : ∃ S : World → Prop, S = fun W => W.cell? ⟨w.heap.size, 0, none⟩ = some (.bool (sg m.a)) ∧ W.cell? ⟨w.heap.size, 1, none⟩ = some (.slice m0A (nl (mg m.a)) m0c) ∧ W.cell? ⟨w.heap.size, 2, none⟩ = some (.bool (sg m.b)) ∧ W.cell? ⟨w.heap.size, 3, none⟩ = some (.slice m1A (nl (mg m.b)) m1c) ∧ W.cell? ⟨w.heap.size, 4, none⟩ = some (.bool (sg m.c)) ∧ W.cell? ⟨w.heap.size, 5, none⟩ = some (.slice m2A (nl (mg m.c)) m2c) ∧ W.cell? ⟨w.heap.size, 6, none⟩ = some (.bool (sg m.d)) ∧ W.cell? ⟨w.heap.size, 7, none⟩ = some (.slice m3A (nl (mg m.d)) m3c) ∧ W.cell? ⟨(w.heap.size + 1), 0, none⟩ = some (.bool (sg n.a)) ∧ W.cell? ⟨(w.heap.size + 1), 1, none⟩ = some (.slice n0A (nl (mg n.a)) n0c) ∧ W.cell? ⟨(w.heap.size + 1), 2, none⟩ = some (.bool (sg n.b)) ∧ W.cell? ⟨(w.heap.size + 1), 3, none⟩ = some (.slice n1A (nl (mg n.b)) n1c) ∧ W.cell? ⟨(w.heap.size + 1), 4, none⟩ = some (.bool (sg n.c)) ∧ W.cell? ⟨(w.heap.size + 1), 5, none⟩ = some (.slice n2A (nl (mg n.c)) n2c) ∧ W.cell? ⟨(w.heap.size + 1), 6, none⟩ = some (.bool (sg n.d)) ∧ W.cell? ⟨(w.heap.size + 1), 7, none⟩ = some (.slice n3A (nl (mg n.d)) n3c) := ⟨_, rfl⟩
  have HSq : S ((((w.alloc (.cells #[.bool (sg m.a), .slice m0A (nl (mg m.a)) m0c, .bool (sg m.b), .slice m1A (nl (mg m.b)) m1c, .bool (sg m.c), .slice m2A (nl (mg m.c)) m2c, .bool (sg m.d), .slice m3A (nl (mg m.d)) m3c] 48)).alloc (.cells #[.bool (sg n.a), .slice n0A (nl (mg n.a)) n0c, .bool (sg n.b), .slice n1A (nl (mg n.b)) n1c, .bool (sg n.c), .slice n2A (nl (mg n.c)) n2c, .bool (sg n.d), .slice n3A (nl (mg n.d)) n3c] 48)).alloc (.cells #[.bool false, .slice none 0 0, .bool false, .slice none 0 0, .bool false, .slice none 0 0, .bool false, .slice none 0 0] 48))).drew := by rw [hS]; exact ⟨(Rm.c (i := 0) rfl), (Rm.c (i := 1) rfl), (Rm.c (i := 2) rfl), (Rm.c (i := 3) rfl), (Rm.c (i := 4) rfl), (Rm.c (i := 5) rfl), (Rm.c (i := 6) rfl), (Rm.c (i := 7) rfl), (Rn.c (i := 0) rfl), (Rn.c (i := 1) rfl), (Rn.c (i := 2) rfl), (Rn.c (i := 3) rfl), (Rn.c (i := 4) rfl), (Rn.c (i := 5) rfl), (Rn.c (i := 6) rfl), (Rn.c (i := 7) rfl)⟩
  have hSb : ∀ W W' : World, Below W.heap.size W W' → S W → S W' := by rw [hS]; exact fun W W' hb h => ⟨cell_below hb h.1, cell_below hb h.2.1, cell_below hb h.2.2.1, cell_below hb h.2.2.2.1, cell_below hb h.2.2.2.2.1, cell_below hb h.2.2.2.2.2.1, cell_below hb h.2.2.2.2.2.2.1, cell_below hb h.2.2.2.2.2.2.2.1, cell_below hb h.2.2.2.2.2.2.2.2.1, cell_below hb h.2.2.2.2.2.2.2.2.2.1, cell_below hb h.2.2.2.2.2.2.2.2.2.2.1, cell_below hb h.2.2.2.2.2.2.2.2.2.2.2.1, cell_below hb h.2.2.2.2.2.2.2.2.2.2.2.2.1, cell_below hb h.2.2.2.2.2.2.2.2.2.2.2.2.2.1, cell_below hb h.2.2.2.2.2.2.2.2.2.2.2.2.2.2.1, cell_below hb h.2.2.2.2.2.2.2.2.2.2.2.2.2.2.2⟩
  replace hSb := Lib.hid hSb
  replace hS := Lib.hid hS
  refine wp_region_seq S [(0, true), (1, true), (2, true), (3, true), (4, true), (5, true), (6, true), (7, true), (8, true), (10, true), (11, true), (12, true), (13, true), (14, true), (15, true), (16, true), (17, true), (18, true), (20, true), (21, true), (22, true), (23, true), (24, true), (25, true), (26, true), (27, true), (28, true), (30, true), (31, true), (32, true), (33, true), (34, true), (35, true), (36, true), (37, true), (38, true), (9, false), (19, false), (29, false), (39, false), (40, true), (41, false)] (by kernel_rfl) (by kernel_rfl) (by kernel_rfl) HSq (fun hSq => ?_)
  clear hSq
  replace HSq := Lib.hid HSq
  clear Rm Rn
  refine SeqP.take (v := ?_) rfl (fun _ _ _ h => h) (Or.inl ⟨by rfl, ?_⟩) ?_
  rotate_left 1
  · intro wq hSw; rw [hS.out] at hSw; (try dsimp only at hSw); go_simp; try with_reducible rfl
  try simp only [Act.put, List.setIfInBounds_toArray, List.set_cons_zero, List.set_cons_succ]
  refine SeqP.take (v := ?_) rfl (fun _ _ _ h => h) (Or.inl ⟨by rfl, ?_⟩) ?_
  rotate_left 1
  · intro wq hSw; rw [hS.out] at hSw; (try dsimp only at hSw); go_simp; try with_reducible rfl
  try simp only [Act.put, List.setIfInBounds_toArray, List.set_cons_zero, List.set_cons_succ]
  refine SeqP.take (v := ?_) rfl (fun _ _ _ h => h) (Or.inl ⟨by rfl, ?_⟩) ?_
  rotate_left 1
  · intro wq hSw; rw [hS.out] at hSw; (try dsimp only at hSw); go_simp; try with_reducible rfl
  try simp only [Act.put, List.setIfInBounds_toArray, List.set_cons_zero, List.set_cons_succ]
  refine SeqP.take (v := ?_) rfl (fun _ _ _ h => h) (Or.inl ⟨by rfl, ?_⟩) ?_
  rotate_left 1
  · intro wq hSw; rw [hS.out] at hSw; (try dsimp only at hSw); go_simp; try with_reducible rfl
  try simp only [Act.put, List.setIfInBounds_toArray, List.set_cons_zero, List.set_cons_succ]
  refine SeqP.take (v := ?_) rfl (fun _ _ _ h => h) (Or.inl ⟨by rfl, ?_⟩) ?_
  rotate_left 1
  · intro wq hSw; rw [hS.out] at hSw; (try dsimp only at hSw); go_simp; try with_reducible rfl
  try simp only [Act.put, List.setIfInBounds_toArray, List.set_cons_zero, List.set_cons_succ]
  refine SeqP.take (v := ?_) rfl (fun _ _ _ h => h) (Or.inl ⟨by rfl, ?_⟩) ?_
  rotate_left 1
  · intro wq hSw; rw [hS.out] at hSw; (try dsimp only at hSw); go_simp; try with_reducible rfl
  try simp only [Act.put, List.setIfInBounds_toArray, List.set_cons_zero, List.set_cons_succ]
  refine SeqP.take (v := ?_) rfl (fun _ _ _ h => h) (Or.inl ⟨by rfl, ?_⟩) ?_
  rotate_left 1
  · intro wq hSw; rw [hS.out] at hSw; (try dsimp only at hSw); go_simp; try with_reducible rfl
  try simp only [Act.put, List.setIfInBounds_toArray, List.set_cons_zero, List.set_cons_succ]
  refine SeqP.take (v := ?_) rfl (fun _ _ _ h => h) (Or.inl ⟨by rfl, ?_⟩) ?_
  rotate_left 1
  · intro wq hSw; rw [hS.out] at hSw; (try dsimp only at hSw); go_simp; try with_reducible rfl
  try simp only [Act.put, List.setIfInBounds_toArray, List.set_cons_zero, List.set_cons_succ]
  refine SeqP.take (v := ?_) rfl (fun _ _ _ h => h) (Or.inl ⟨by rfl, ?_⟩) ?_
  rotate_left 1
  · intro wq hSw; rw [hS.out] at hSw; (try dsimp only at hSw); go_simp; try with_reducible rfl
  try simp only [Act.put, List.setIfInBounds_toArray, List.set_cons_zero, List.set_cons_succ]
  refine SeqP.take (v := ?_) rfl (fun _ _ _ h => h) (Or.inl ⟨by rfl, ?_⟩) ?_
  rotate_left 1
  · intro wq hSw; rw [hS.out] at hSw; (try dsimp only at hSw); go_simp; try with_reducible rfl
  try simp only [Act.put, List.setIfInBounds_toArray, List.set_cons_zero, List.set_cons_succ]
  refine SeqP.take (v := ?_) rfl (fun _ _ _ h => h) (Or.inl ⟨by rfl, ?_⟩) ?_
  rotate_left 1
  · intro wq hSw; rw [hS.out] at hSw; (try dsimp only at hSw); go_simp; try with_reducible rfl
  try simp only [Act.put, List.setIfInBounds_toArray, List.set_cons_zero, List.set_cons_succ]
  refine SeqP.take (v := ?_) rfl (fun _ _ _ h => h) (Or.inl ⟨by rfl, ?_⟩) ?_
  rotate_left 1
  · intro wq hSw; rw [hS.out] at hSw; (try dsimp only at hSw); go_simp; try with_reducible rfl
  try simp only [Act.put, List.setIfInBounds_toArray, List.set_cons_zero, List.set_cons_succ]
  refine SeqP.take (v := ?_) rfl (fun _ _ _ h => h) (Or.inl ⟨by rfl, ?_⟩) ?_
  rotate_left 1
  · intro wq hSw; rw [hS.out] at hSw; (try dsimp only at hSw); go_simp; try with_reducible rfl
  try simp only [Act.put, List.setIfInBounds_toArray, List.set_cons_zero, List.set_cons_succ]
  refine SeqP.take (v := ?_) rfl (fun _ _ _ h => h) (Or.inl ⟨by rfl, ?_⟩) ?_
  rotate_left 1
  · intro wq hSw; rw [hS.out] at hSw; (try dsimp only at hSw); go_simp; try with_reducible rfl
  try simp only [Act.put, List.setIfInBounds_toArray, List.set_cons_zero, List.set_cons_succ]
  refine SeqP.take (v := ?_) rfl (fun _ _ _ h => h) (Or.inl ⟨by rfl, ?_⟩) ?_
  rotate_left 1
  · intro wq hSw; rw [hS.out] at hSw; (try dsimp only at hSw); go_simp; try with_reducible rfl
  try simp only [Act.put, List.setIfInBounds_toArray, List.set_cons_zero, List.set_cons_succ]
  refine SeqP.take (v := ?_) rfl (fun _ _ _ h => h) (Or.inl ⟨by rfl, ?_⟩) ?_
  rotate_left 1
  · intro wq hSw; rw [hS.out] at hSw; (try dsimp only at hSw); go_simp; try with_reducible rfl
  try simp only [Act.put, List.setIfInBounds_toArray, List.set_cons_zero, List.set_cons_succ]
  refine SeqP.take (v := ?_) rfl (fun _ _ _ h => h) (Or.inl ⟨by rfl, ?_⟩) ?_
  rotate_left 1
  · intro wq hSw; rw [hS.out] at hSw; (try dsimp only at hSw); go_simp; try with_reducible rfl
  try simp only [Act.put, List.setIfInBounds_toArray, List.set_cons_zero, List.set_cons_succ]
  refine SeqP.take (v := ?_) rfl (fun _ _ _ h => h) (Or.inl ⟨by rfl, ?_⟩) ?_
  rotate_left 1
  · intro wq hSw; rw [hS.out] at hSw; (try dsimp only at hSw); go_simp; try with_reducible rfl
  try simp only [Act.put, List.setIfInBounds_toArray, List.set_cons_zero, List.set_cons_succ]
  refine SeqP.take (v := ?_) rfl (fun _ _ _ h => h) (Or.inl ⟨by rfl, ?_⟩) ?_
  rotate_left 1
  · intro wq hSw; rw [hS.out] at hSw; (try dsimp only at hSw); go_simp; try with_reducible rfl
  try simp only [Act.put, List.setIfInBounds_toArray, List.set_cons_zero, List.set_cons_succ]
  refine SeqP.take (v := ?_) rfl (fun _ _ _ h => h) (Or.inl ⟨by rfl, ?_⟩) ?_
  rotate_left 1
  · intro wq hSw; rw [hS.out] at hSw; (try dsimp only at hSw); go_simp; try with_reducible rfl
  try simp only [Act.put, List.setIfInBounds_toArray, List.set_cons_zero, List.set_cons_succ]
  refine SeqP.take (v := ?_) rfl (fun _ _ _ h => h) (Or.inl ⟨by rfl, ?_⟩) ?_
  rotate_left 1
  · intro wq hSw; rw [hS.out] at hSw; (try dsimp only at hSw); go_simp; try with_reducible rfl
  try simp only [Act.put, List.setIfInBounds_toArray, List.set_cons_zero, List.set_cons_succ]
  refine SeqP.take (v := ?_) rfl (fun _ _ _ h => h) (Or.inl ⟨by rfl, ?_⟩) ?_
  rotate_left 1
  · intro wq hSw; rw [hS.out] at hSw; (try dsimp only at hSw); go_simp; try with_reducible rfl
  try simp only [Act.put, List.setIfInBounds_toArray, List.set_cons_zero, List.set_cons_succ]
  refine SeqP.take (v := ?_) rfl (fun _ _ _ h => h) (Or.inl ⟨by rfl, ?_⟩) ?_
  rotate_left 1
  · intro wq hSw; rw [hS.out] at hSw; (try dsimp only at hSw); go_simp; try with_reducible rfl
  try simp only [Act.put, List.setIfInBounds_toArray, List.set_cons_zero, List.set_cons_succ]
  refine SeqP.take (v := ?_) rfl (fun _ _ _ h => h) (Or.inl ⟨by rfl, ?_⟩) ?_
  rotate_left 1
  · intro wq hSw; rw [hS.out] at hSw; (try dsimp only at hSw); go_simp; try with_reducible rfl
  try simp only [Act.put, List.setIfInBounds_toArray, List.set_cons_zero, List.set_cons_succ]
  refine SeqP.take (v := ?_) rfl (fun _ _ _ h => h) (Or.inl ⟨by rfl, ?_⟩) ?_
  rotate_left 1
  · intro wq hSw; rw [hS.out] at hSw; (try dsimp only at hSw); go_simp; try with_reducible rfl
  try simp only [Act.put, List.setIfInBounds_toArray, List.set_cons_zero, List.set_cons_succ]
  refine SeqP.take (v := ?_) rfl (fun _ _ _ h => h) (Or.inl ⟨by rfl, ?_⟩) ?_
  rotate_left 1
  · intro wq hSw; rw [hS.out] at hSw; (try dsimp only at hSw); go_simp; try with_reducible rfl
  try simp only [Act.put, List.setIfInBounds_toArray, List.set_cons_zero, List.set_cons_succ]
  refine SeqP.take (v := ?_) rfl (fun _ _ _ h => h) (Or.inl ⟨by rfl, ?_⟩) ?_
  rotate_left 1
  · intro wq hSw; rw [hS.out] at hSw; (try dsimp only at hSw); go_simp; try with_reducible rfl
  try simp only [Act.put, List.setIfInBounds_toArray, List.set_cons_zero, List.set_cons_succ]
  refine SeqP.take (v := ?_) rfl (fun _ _ _ h => h) (Or.inl ⟨by rfl, ?_⟩) ?_
  rotate_left 1
  · intro wq hSw; rw [hS.out] at hSw; (try dsimp only at hSw); go_simp; try with_reducible rfl
  try simp only [Act.put, List.setIfInBounds_toArray, List.set_cons_zero, List.set_cons_succ]
  refine SeqP.take (v := ?_) rfl (fun _ _ _ h => h) (Or.inl ⟨by rfl, ?_⟩) ?_
  rotate_left 1
  · intro wq hSw; rw [hS.out] at hSw; (try dsimp only at hSw); go_simp; try with_reducible rfl
  try simp only [Act.put, List.setIfInBounds_toArray, List.set_cons_zero, List.set_cons_succ]
  refine SeqP.take (v := ?_) rfl (fun _ _ _ h => h) (Or.inl ⟨by rfl, ?_⟩) ?_
  rotate_left 1
  · intro wq hSw; rw [hS.out] at hSw; (try dsimp only at hSw); go_simp; try with_reducible rfl
  try simp only [Act.put, List.setIfInBounds_toArray, List.set_cons_zero, List.set_cons_succ]
  refine SeqP.take (v := ?_) rfl (fun _ _ _ h => h) (Or.inl ⟨by rfl, ?_⟩) ?_
  rotate_left 1
  · intro wq hSw; rw [hS.out] at hSw; (try dsimp only at hSw); go_simp; try with_reducible rfl
  try simp only [Act.put, List.setIfInBounds_toArray, List.set_cons_zero, List.set_cons_succ]
  refine SeqP.take (v := ?_) rfl (fun _ _ _ h => h) (Or.inl ⟨by rfl, ?_⟩) ?_
  rotate_left 1
  · intro wq hSw; rw [hS.out] at hSw; (try dsimp only at hSw); go_simp; try with_reducible rfl
  try simp only [Act.put, List.setIfInBounds_toArray, List.set_cons_zero, List.set_cons_succ]
  refine SeqP.take (v := ?_) rfl (fun _ _ _ h => h) (Or.inl ⟨by rfl, ?_⟩) ?_
  rotate_left 1
  · intro wq hSw; rw [hS.out] at hSw; (try dsimp only at hSw); go_simp; try with_reducible rfl
  try simp only [Act.put, List.setIfInBounds_toArray, List.set_cons_zero, List.set_cons_succ]
  refine SeqP.take (v := ?_) rfl (fun _ _ _ h => h) (Or.inl ⟨by rfl, ?_⟩) ?_
  rotate_left 1
  · intro wq hSw; rw [hS.out] at hSw; (try dsimp only at hSw); go_simp; try with_reducible rfl
  try simp only [Act.put, List.setIfInBounds_toArray, List.set_cons_zero, List.set_cons_succ]
  refine SeqP.take (v := ?_) rfl (fun _ _ _ h => h) (Or.inl ⟨by rfl, ?_⟩) ?_
  rotate_left 1
  · intro wq hSw; rw [hS.out] at hSw; (try dsimp only at hSw); go_simp; try with_reducible rfl
  try simp only [Act.put, List.setIfInBounds_toArray, List.set_cons_zero, List.set_cons_succ]
  refine SeqP.take (v := ?_) rfl (fun _ _ _ h => h) (Or.inl ⟨by rfl, ?_⟩) ?_
  rotate_left 1
  · intro wq hSw; rw [hS.out] at hSw; (try dsimp only at hSw); go_simp; try with_reducible rfl
  try simp only [Act.put, List.setIfInBounds_toArray, List.set_cons_zero, List.set_cons_succ]
  refine SeqP.call rfl (by rfl) (fun Kq hKq => ?_)
  go_simp
  go_at_call 81
  with_reducible refine (C2_0.out _ hn0 hm0 hn1 hm2 hG).mono ?_
  rintro e W3 ⟨Xx, cx, rfl, hx, hb3⟩
  replace hm0 := hm0.below hb3
  replace hm1 := hm1.below hb3
  replace hm2 := hm2.below hb3
  replace hm3 := hm3.below hb3
  replace hn0 := hn0.below hb3
  replace hn1 := hn1.below hb3
  replace hn2 := hn2.below hb3
  replace hn3 := hn3.below hb3
  replace hG := hG.below hb3
  replace Rr := Rr.below hb3
  replace HBT := Below.cons HBT hb3
  replace HSq := Lib.hid (hSb.out _ _ hb3 HSq.out)
  clear hb3
  refine hKq.out _ _ HSq.out (fun hSq => ?_)
  clear hSq hKq Kq
  try simp only [Act.put, List.setIfInBounds_toArray, List.set_cons_zero, List.set_cons_succ]
  refine SeqP.call rfl (by rfl) (fun Kq hKq => ?_)
  go_simp
  go_at_call 81
  with_reducible refine (C2_1.out _ hn0 hm1 hn1 hm3 hG).mono ?_
  rintro e W4 ⟨Xy, cy, rfl, hy, hb4⟩
  replace hm0 := hm0.below hb4
  replace hm1 := hm1.below hb4
  replace hm2 := hm2.below hb4
  replace hm3 := hm3.below hb4
  replace hn0 := hn0.below hb4
  replace hn1 := hn1.below hb4
  replace hn2 := hn2.below hb4
  replace hn3 := hn3.below hb4
  replace hG := hG.below hb4
  replace Rr := Rr.below hb4
  replace hx := hx.below hb4
  replace HBT := Below.cons HBT hb4
  replace HSq := Lib.hid (hSb.out _ _ hb4 HSq.out)
  clear hb4
  refine hKq.out _ _ HSq.out (fun hSq => ?_)
  clear hSq hKq Kq
  try simp only [Act.put, List.setIfInBounds_toArray, List.set_cons_zero, List.set_cons_succ]
  refine SeqP.call rfl (by rfl) (fun Kq hKq => ?_)
  go_simp
  go_at_call 81
  with_reducible refine (C2_2.out _ hn2 hm0 hn3 hm2 hG).mono ?_
  rintro e W5 ⟨Xz, cz, rfl, hz, hb5⟩
  replace hm0 := hm0.below hb5
  replace hm1 := hm1.below hb5
  replace hm2 := hm2.below hb5
  replace hm3 := hm3.below hb5
  replace hn0 := hn0.below hb5
  replace hn1 := hn1.below hb5
  replace hn2 := hn2.below hb5
  replace hn3 := hn3.below hb5
  replace hG := hG.below hb5
  replace Rr := Rr.below hb5
  replace hx := hx.below hb5
  replace hy := hy.below hb5
  replace HBT := Below.cons HBT hb5
  replace HSq := Lib.hid (hSb.out _ _ hb5 HSq.out)
  clear hb5
  refine hKq.out _ _ HSq.out (fun hSq => ?_)
  clear hSq hKq Kq
  try simp only [Act.put, List.setIfInBounds_toArray, List.set_cons_zero, List.set_cons_succ]
  refine SeqP.call rfl (by rfl) (fun Kq hKq => ?_)
  go_simp
  go_at_call 81
  with_reducible refine (C2_3.out _ hn2 hm1 hn3 hm3 hG).mono ?_
  rintro e W6 ⟨Xv, cv, rfl, hv, hb6⟩
  replace hm0 := hm0.below hb6
  replace hm1 := hm1.below hb6
  replace hm2 := hm2.below hb6
  replace hm3 := hm3.below hb6
  replace hn0 := hn0.below hb6
  replace hn1 := hn1.below hb6
  replace hn2 := hn2.below hb6
  replace hn3 := hn3.below hb6
  replace hG := hG.below hb6
  replace Rr := Rr.below hb6
  replace hx := hx.below hb6
  replace hy := hy.below hb6
  replace hz := hz.below hb6
  replace HBT := Below.cons HBT hb6
  replace HSq := Lib.hid (hSb.out _ _ hb6 HSq.out)
  clear hb6
  refine hKq.out _ _ HSq.out (fun hSq => ?_)
  clear hSq hKq Kq
  try simp only [Act.put, List.setIfInBounds_toArray, List.set_cons_zero, List.set_cons_succ]
  refine SeqP.take (v := ?_) rfl (fun _ _ _ h => h) (Or.inl ⟨by rfl, ?_⟩) ?_
  rotate_left 1
  · intro wq hSw; rw [hS.out] at hSw; (try dsimp only at hSw); go_simp; try with_reducible rfl
  try simp only [Act.put, List.setIfInBounds_toArray, List.set_cons_zero, List.set_cons_succ]
  have HSx := HSq.out
  rw [hS.out] at HSx
  obtain ⟨zx0, zx1, zx2, zx3, zx4, zx5, zx6, zx7, zx8, zx9, zx10, zx11, zx12, zx13, zx14, zx15⟩ := HSx
  have fz0 := Rr.f (i := 0)
  have cz_0 := Rr.c (i := 0) rfl
  have fz1 := Rr.f (i := 1)
  have cz_1 := Rr.c (i := 1) rfl
  have fz2 := Rr.f (i := 2)
  have cz_2 := Rr.c (i := 2) rfl
  have fz3 := Rr.f (i := 3)
  have cz_3 := Rr.c (i := 3) rfl
  have fz4 := Rr.f (i := 4)
  have cz_4 := Rr.c (i := 4) rfl
  have fz5 := Rr.f (i := 5)
  have cz_5 := Rr.c (i := 5) rfl
  have fz6 := Rr.f (i := 6)
  have cz_6 := Rr.c (i := 6) rfl
  have fz7 := Rr.f (i := 7)
  have cz_7 := Rr.c (i := 7) rfl
  refine SeqP.call rfl (by rfl) (fun Kq hKq => ?_)
  go_simp
  refine hKq.out _ _ (by rw [hS.out]; exact ⟨cell_other8 zx0 (by omega), cell_other8 zx1 (by omega), cell_other8 zx2 (by omega), cell_other8 zx3 (by omega), cell_other8 zx4 (by omega), cell_other8 zx5 (by omega), cell_other8 zx6 (by omega), cell_other8 zx7 (by omega), cell_other8 zx8 (by omega), cell_other8 zx9 (by omega), cell_other8 zx10 (by omega), cell_other8 zx11 (by omega), cell_other8 zx12 (by omega), cell_other8 zx13 (by omega), cell_other8 zx14 (by omega), cell_other8 zx15 (by omega)⟩) (fun hSq => ?_)
  clear hSq hKq Kq
  clear zx0 zx1 zx2 zx3 zx4 zx5 zx6 zx7 zx8 zx9 zx10 zx11 zx12 zx13 zx14 zx15
  try simp only [Act.put, List.setIfInBounds_toArray, List.set_cons_zero, List.set_cons_succ]
  refine SeqP.done ?_
  clear hSb
  clear HSq
  all_goals (try go_wp2_with (fail))
  have hzx : x = (m.af n).a := by rw [Ex.out]; rfl
  subst hzx
  have hzy : y = (m.af n).b := by rw [Ey.out]; rfl
  subst hzy
  have hzz : z = (m.af n).c := by rw [Ez.out]; rfl
  subst hzz
  have hzv : v = (m.af n).d := by rw [Ev.out]; rfl
  subst hzv
  have RS := Rr.store8 (.bool (sg (((m.af n).a)))) (.slice Xx (nl (mg (((m.af n).a)))) cx) (.bool (sg (((m.af n).b)))) (.slice Xy (nl (mg (((m.af n).b)))) cy) (.bool (sg (((m.af n).c)))) (.slice Xz (nl (mg (((m.af n).c)))) cz) (.bool (sg (((m.af n).d)))) (.slice Xv (nl (mg (((m.af n).d)))) cv)
  have e0 := RS.c (i := 0) rfl
  have e1 := RS.c (i := 1) rfl
  have e2 := RS.c (i := 2) rfl
  have e3 := RS.c (i := 3) rfl
  have e4 := RS.c (i := 4) rfl
  have e5 := RS.c (i := 5) rfl
  have e6 := RS.c (i := 6) rfl
  have e7 := RS.c (i := 7) rfl
  refine bodyPost_ret (v := .agg #[.bool (sg (((m.af n).a))), .slice Xx (nl (mg (((m.af n).a)))) cx, .bool (sg (((m.af n).b))), .slice Xy (nl (mg (((m.af n).b)))) cy, .bool (sg (((m.af n).c))), .slice Xz (nl (mg (((m.af n).c)))) cz, .bool (sg (((m.af n).d))), .slice Xv (nl (mg (((m.af n).d)))) cv]) (by simp [results, Tryd.results65, go_sem, e0, e1, e2, e3, e4, e5, e6, e7]) rfl ?_
  exact ⟨Xx, cx, Xy, cy, Xz, cz, Xv, cv, rfl, Rr.keep8 (lista8 _ rfl) hx, Rr.keep8 (lista8 _ rfl) hy, Rr.keep8 (lista8 _ rfl) hz, Rr.keep8 (lista8 _ rfl) hv, Below.store8 HBT (by first | exact Nat.le_refl _ | omega)⟩
end Go.Proofs.YthcmoimlnhghcaaDoor

/- Halves: steps of two naturals that take about half of their limbs away. -/
set_option linter.unusedVariables false
set_option linter.unusedSimpArgs false
namespace Go.Proofs.YthcmoimlnhghcaaDoor
open Go.RowKit Go.Shelf
attribute [local go_sem] max2_i min2_i max_two min_two

/-- Of how many limbs at most the steps of halves are. -/
def hf (L : Nat) : Nat := [2, 2, 3, 4, 5, 6, 7, 8, 28, 32, 53, 60, 82, 92, 115, 166, 190, 250, 275, 378, 404, 522, 549, 712, 740, 924, 953, 1184, 1214, 1548, 1579, 1962, 1994, 2498, 2531, 3086, 3120, 3882, 3917, 4732, 4768].getD L 0
theorem hf_mono {i j : Nat} (h : i ≤ j) (hj : j ≤ 40) : hf i ≤ hf j := by
  have : ∀ j, j < 41 → ∀ i, i < 41 → i ≤ j → hf i ≤ hf j := by decide
  exact this j (by omega) i (by omega) h
theorem hf_step {L : Nat} (h8 : 8 ≤ L) (h : L ≤ 40) : hf (L - 2) + 2 * hf (L - L / 2) + L + 3 ≤ hf L := by
  have : ∀ L, L < 41 → 8 ≤ L → hf (L - 2) + 2 * hf (L - L / 2) + L + 3 ≤ hf L := by decide
  exact this L (by omega) h8
theorem hf_few {L : Nat} (h : L ≤ 40) : max 1 L ≤ hf L := by
  have : ∀ L, L < 41 → max 1 L ≤ hf L := by decide
  exact this L (by omega)
theorem hf_most {L : Nat} (h : L ≤ 40) : hf L ≤ 4768 := by
  have : ∀ L, L < 41 → hf L ≤ 4768 := by decide
  exact this L (by omega)
theorem halved_c (N : Nat) : N ≤ 40 → ∀ (aA : Option Addr) (ac a : Nat) (bA : Option Addr) (bc b : Nat) (w : World), nl a = N → b ≤ a → NatV w aA ac a → NatV w bA bc b → Flds w →
    Calls Tryd.prog 37 #[.slice aA (nl a) ac, .slice bA (nl b) bc] w fun e w' => ∃ m : Mx, m.U ∧ m.sz (hf N) ∧ RetM w m e w' := by
  induction N using Nat.strongRecOn with
  | ind N ih =>
    intro hN40 aA ac a bA bc b w hNa hba ha hb hG
    subst hNa
    have hG0 := hG
    have hbn := nl_mono hba
    have la : nl a ≤ 40 := by omega
    have lb : nl b ≤ 40 := Nat.le_trans (nl_mono hba) la
    obtain ⟨n, En⟩ : ∃ z, z = nl a / 2 := ⟨_, rfl⟩
    have In : (nl a : Int) / 2 = (n : Int) := by omega
    have Jn : (nl a : Int).tdiv 2 = (n : Int) := by rw [Int.tdiv_eq_ediv_of_nonneg (by omega)]; exact In
    have Wn : IntKind.i64.wrap (n : Int) = (n : Int) := IntWalk.i64_in _ (by omega)
    obtain ⟨n1, En1⟩ : ∃ z : Int, z = (n : Int) + 1 := ⟨_, rfl⟩
    have In1 : (n : Int) + 1 = n1 := En1.symm
    have Wn1 : IntKind.i64.wrap n1 = n1 := IntWalk.i64_in _ (by omega)
    replace En := Lib.hid En
    replace En1 := Lib.hid En1
    obtain ⟨hb1, Rr⟩ := bx1 w #[.bool false, .slice none 0 0, .bool false, .slice none 0 0, .bool false, .slice none 0 0, .bool false, .slice none 0 0] 48
    replace ha := ha.below hb1
    replace hb := hb.below hb1
    replace hG := hG.below hb1
    have HBT := hb1
    clear hb1
    by_cases h1 : nl b ≤ n + 1
    · skip
      have t1 : decide ((nl b : Int) ≤ n1) = true := by simp; omega
      have CW := few_c aA ac a bA bc b _ ha hb hG (by omega) (by omega)
      go_enter Tryd.func37, Tryd.ntmps37
      go_wp2_with (fail)
      refine (Calls.mono (CW) ?_)
      rintro e W2 ⟨m, Um, Sm, m0A, m0c, m1A, m1c, m2A, m2c, m3A, m3c, rfl, hm0, hm1, hm2, hm3, hb2⟩
      replace ha := ha.below hb2
      replace hb := hb.below hb2
      replace hG := hG.below hb2
      replace Rr := Rr.below hb2
      replace HBT := Below.cons HBT hb2
      clear hb2
      have fz0 := Rr.f (i := 0)
      have cz_0 := Rr.c (i := 0) rfl
      have fz1 := Rr.f (i := 1)
      have cz_1 := Rr.c (i := 1) rfl
      have fz2 := Rr.f (i := 2)
      have cz_2 := Rr.c (i := 2) rfl
      have fz3 := Rr.f (i := 3)
      have cz_3 := Rr.c (i := 3) rfl
      have fz4 := Rr.f (i := 4)
      have cz_4 := Rr.c (i := 4) rfl
      have fz5 := Rr.f (i := 5)
      have cz_5 := Rr.c (i := 5) rfl
      have fz6 := Rr.f (i := 6)
      have cz_6 := Rr.c (i := 6) rfl
      have fz7 := Rr.f (i := 7)
      have cz_7 := Rr.c (i := 7) rfl
      go_wp2_with (fail)
      have RS := Rr.store8 (.bool (sg m.a)) (.slice m0A (nl (mg m.a)) m0c) (.bool (sg m.b)) (.slice m1A (nl (mg m.b)) m1c) (.bool (sg m.c)) (.slice m2A (nl (mg m.c)) m2c) (.bool (sg m.d)) (.slice m3A (nl (mg m.d)) m3c)
      have e0 := RS.c (i := 0) rfl
      have e1 := RS.c (i := 1) rfl
      have e2 := RS.c (i := 2) rfl
      have e3 := RS.c (i := 3) rfl
      have e4 := RS.c (i := 4) rfl
      have e5 := RS.c (i := 5) rfl
      have e6 := RS.c (i := 6) rfl
      have e7 := RS.c (i := 7) rfl
      refine bodyPost_ret (v := .agg #[.bool (sg m.a), .slice m0A (nl (mg m.a)) m0c, .bool (sg m.b), .slice m1A (nl (mg m.b)) m1c, .bool (sg m.c), .slice m2A (nl (mg m.c)) m2c, .bool (sg m.d), .slice m3A (nl (mg m.d)) m3c]) (by simp [results, Tryd.results37, go_sem, e0, e1, e2, e3, e4, e5, e6, e7]) rfl ?_
      exact ⟨m, Um, Sm.mono (by have h1 := nl_mono hba; have h2 := hf_few hN40; omega), m0A, m0c, m1A, m1c, m2A, m2c, m3A, m3c, rfl, Rr.keep8 (lista8 _ rfl) hm0, Rr.keep8 (lista8 _ rfl) hm1, Rr.keep8 (lista8 _ rfl) hm2, Rr.keep8 (lista8 _ rfl) hm3, Below.store8 HBT (by first | exact Nat.le_refl _ | omega)⟩
    · skip
      have t1 : decide ((nl b : Int) ≤ n1) = false := by simp; omega
      by_cases h2 : nl a < 8
      · skip
        have t2 : decide ((nl a : Int) < 8) = true := by simp; omega
        have t2' : decide (nl a < 8) = true := by simp; omega
        have CW := few_c aA ac a bA bc b _ ha hb hG (by omega) (by omega)
        go_enter Tryd.func37, Tryd.ntmps37
        go_wp2_with (fail)
        refine (Calls.mono (CW) ?_)
        rintro e W2 ⟨m, Um, Sm, m0A, m0c, m1A, m1c, m2A, m2c, m3A, m3c, rfl, hm0, hm1, hm2, hm3, hb2⟩
        replace ha := ha.below hb2
        replace hb := hb.below hb2
        replace hG := hG.below hb2
        replace Rr := Rr.below hb2
        replace HBT := Below.cons HBT hb2
        clear hb2
        have fz0 := Rr.f (i := 0)
        have cz_0 := Rr.c (i := 0) rfl
        have fz1 := Rr.f (i := 1)
        have cz_1 := Rr.c (i := 1) rfl
        have fz2 := Rr.f (i := 2)
        have cz_2 := Rr.c (i := 2) rfl
        have fz3 := Rr.f (i := 3)
        have cz_3 := Rr.c (i := 3) rfl
        have fz4 := Rr.f (i := 4)
        have cz_4 := Rr.c (i := 4) rfl
        have fz5 := Rr.f (i := 5)
        have cz_5 := Rr.c (i := 5) rfl
        have fz6 := Rr.f (i := 6)
        have cz_6 := Rr.c (i := 6) rfl
        have fz7 := Rr.f (i := 7)
        have cz_7 := Rr.c (i := 7) rfl
        go_wp2_with (fail)
        have RS := Rr.store8 (.bool (sg m.a)) (.slice m0A (nl (mg m.a)) m0c) (.bool (sg m.b)) (.slice m1A (nl (mg m.b)) m1c) (.bool (sg m.c)) (.slice m2A (nl (mg m.c)) m2c) (.bool (sg m.d)) (.slice m3A (nl (mg m.d)) m3c)
        have e0 := RS.c (i := 0) rfl
        have e1 := RS.c (i := 1) rfl
        have e2 := RS.c (i := 2) rfl
        have e3 := RS.c (i := 3) rfl
        have e4 := RS.c (i := 4) rfl
        have e5 := RS.c (i := 5) rfl
        have e6 := RS.c (i := 6) rfl
        have e7 := RS.c (i := 7) rfl
        refine bodyPost_ret (v := .agg #[.bool (sg m.a), .slice m0A (nl (mg m.a)) m0c, .bool (sg m.b), .slice m1A (nl (mg m.b)) m1c, .bool (sg m.c), .slice m2A (nl (mg m.c)) m2c, .bool (sg m.d), .slice m3A (nl (mg m.d)) m3c]) (by simp [results, Tryd.results37, go_sem, e0, e1, e2, e3, e4, e5, e6, e7]) rfl ?_
        exact ⟨m, Um, Sm.mono (by have h1 := nl_mono hba; have h2 := hf_few hN40; omega), m0A, m0c, m1A, m1c, m2A, m2c, m3A, m3c, rfl, Rr.keep8 (lista8 _ rfl) hm0, Rr.keep8 (lista8 _ rfl) hm1, Rr.keep8 (lista8 _ rfl) hm2, Rr.keep8 (lista8 _ rfl) hm3, Below.store8 HBT (by first | exact Nat.le_refl _ | omega)⟩
      · skip
        have t2 : decide ((nl a : Int) < 8) = false := by simp; omega
        have t2' : decide (nl a < 8) = false := by simp; omega
        have hN8 : 8 ≤ (nl a) := by omega
        have hst := hf_step hN8 hN40
        have hnN : (nl a) / 2 = n := En.out.symm
        rw [hnN] at hst
        have hmo := hf_most hN40
        obtain ⟨k32, Ek⟩ : ∃ z : Nat, z = 32 * n := ⟨_, rfl⟩
        have Ik : (32 : Int) * (n : Int) = (k32 : Int) := by omega
        have Wk : IntKind.i64.wrap (k32 : Int) = (k32 : Int) := IntWalk.i64_in _ (by omega)
        have CS := fun (x : Nat) (A : Option Addr) (c : Nat) (W : World) (h : NatV W A c x) (hx : nl x ≤ 1073741824) => shr_ci A c x (k32 : Int) W h hx (Int.natCast_nonneg _) (by omega)
        simp only [Int.toNat_natCast] at CS
        obtain ⟨fb, Efb⟩ : ∃ z, z = hf ((nl a) - n) := ⟨_, rfl⟩
        have hfb := hf_most (show (nl a) - n ≤ 40 by omega)
        rw [← Efb] at hst hfb
        have hsha : nl (a / 2 ^ k32) ≤ (nl a) - n := by rw [Ek]; exact nl_shr32 a n
        have hshb : b / 2 ^ k32 ≤ a / 2 ^ k32 := Nat.div_le_div_right hba
        replace Ek := Lib.hid Ek
        replace CS := Lib.hid CS
        replace Efb := Lib.hid Efb
        replace hnN := Lib.hid hnN
        replace hst := Lib.hid hst
        go_enter Tryd.func37, Tryd.ntmps37
        go_wp2_with (fail)
        obtain ⟨u, Eu⟩ : ∃ zq : Nat, zq = a / 2 ^ k32 := ⟨_, rfl⟩
        refine (Calls.mono (R := RetN (w.alloc (.cells #[.bool false, .slice none 0 0, .bool false, .slice none 0 0, .bool false, .slice none 0 0, .bool false, .slice none 0 0] 48)) u) (by rw [Eu]; with_reducible exact (CS.out a aA ac _ ha (by omega))) ?_)
        replace Eu := Lib.hid Eu
        rintro e W2 ⟨Xu, cu, rfl, hu, hb2⟩
        replace ha := ha.below hb2
        replace hb := hb.below hb2
        replace hG := hG.below hb2
        replace Rr := Rr.below hb2
        replace HBT := Below.cons HBT hb2
        clear hb2
        go_wp2_with (fail)
        obtain ⟨v, Ev⟩ : ∃ zq : Nat, zq = b / 2 ^ k32 := ⟨_, rfl⟩
        refine (Calls.mono (R := RetN W2 v) (by rw [Ev]; with_reducible exact (CS.out b bA bc _ hb (by omega))) ?_)
        replace Ev := Lib.hid Ev
        rintro e W3 ⟨Xv, cv, rfl, hv, hb3⟩
        replace ha := ha.below hb3
        replace hb := hb.below hb3
        replace hG := hG.below hb3
        replace Rr := Rr.below hb3
        replace hu := hu.below hb3
        replace HBT := Below.cons HBT hb3
        clear hb3
        go_wp2_with (fail)
        have hu1 : nl u ≤ (nl a) - n := by rw [Eu.out]; exact hsha
        have hvu : v ≤ u := by rw [Eu.out, Ev.out]; exact hshb
        clear hsha hshb
        have CH := ih (nl u) (by omega) (by omega) Xu cu u Xv cv v _ rfl hvu hu hv hG
        have Sm0 : hf (nl u) ≤ fb := by rw [Efb.out]; exact hf_mono hu1 (by omega)
        replace CH := Lib.hid CH
        replace Sm0 := Lib.hid Sm0
        refine (Calls.mono (CH.out) ?_)
        rintro e W4 ⟨m, Um, Sm, m0A, m0c, m1A, m1c, m2A, m2c, m3A, m3c, rfl, hm0, hm1, hm2, hm3, hb4⟩
        replace ha := ha.below hb4
        replace hb := hb.below hb4
        replace hG := hG.below hb4
        replace Rr := Rr.below hb4
        replace hu := hu.below hb4
        replace hv := hv.below hb4
        replace HBT := Below.cons HBT hb4
        clear hb4
        replace Sm := Sm.mono Sm0.out
        clear CH Sm0
        clear hu
        clear hv
        have ltr := Rr.lt
        have fbig : fb ≤ 4768 := hfb
        obtain ⟨hb5, Rm⟩ := bx1 W4 #[.bool (sg m.a), .slice m0A (nl (mg m.a)) m0c, .bool (sg m.b), .slice m1A (nl (mg m.b)) m1c, .bool (sg m.c), .slice m2A (nl (mg m.c)) m2c, .bool (sg m.d), .slice m3A (nl (mg m.d)) m3c] 48
        replace ha := ha.below hb5
        replace hb := hb.below hb5
        replace hG := hG.below hb5
        replace Rr := Rr.below hb5
        replace hm0 := hm0.below hb5
        replace hm1 := hm1.below hb5
        replace hm2 := hm2.below hb5
        replace hm3 := hm3.below hb5
        replace HBT := Below.cons HBT hb5
        clear hb5
        have qm0 := Rm.c (i := 0) rfl
        have qm1 := Rm.c (i := 1) rfl
        have qm2 := Rm.c (i := 2) rfl
        have qm3 := Rm.c (i := 3) rfl
        have qm4 := Rm.c (i := 4) rfl
        have qm5 := Rm.c (i := 5) rfl
        have qm6 := Rm.c (i := 6) rfl
        have qm7 := Rm.c (i := 7) rfl
        go_wp2_with (fail)
        have CD := do_c m0A m0c m1A m1c m2A m2c m3A m3c m aA ac a bA bc b _ hm0 hm1 hm2 hm3 ha hb hG (Sm.mono (by omega)) (by omega) (by omega)
        have hsx := Mx.sz_x (m := m) (a := a) (b := b) Sm (Nat.le_refl _) (by omega)
        have hsy := Mx.sz_y (m := m) (a := a) (b := b) Sm (Nat.le_refl _) (by omega)
        obtain ⟨x, Ex⟩ : ∃ z, z = mg (m.x a b) := ⟨_, rfl⟩
        obtain ⟨y, Ey⟩ : ∃ z, z = mg (m.y a b) := ⟨_, rfl⟩
        rw [← Ex, ← Ey] at CD
        rw [← Ex] at hsx
        rw [← Ey] at hsy
        replace Ex := Lib.hid Ex
        replace Ey := Lib.hid Ey
        replace CD := Lib.hid CD
        refine (Calls.mono CD.out ?_)
        rintro e W6 ⟨Xx, cx, Xy, cy, rfl, hx, hy, hb6⟩
        replace ha := ha.below hb6
        replace hb := hb.below hb6
        replace hG := hG.below hb6
        replace Rr := Rr.below hb6
        replace hm0 := hm0.below hb6
        replace hm1 := hm1.below hb6
        replace hm2 := hm2.below hb6
        replace hm3 := hm3.below hb6
        replace Rm := Rm.below hb6
        replace qm0 := cbl hb6 qm0
        replace qm1 := cbl hb6 qm1
        replace qm2 := cbl hb6 qm2
        replace qm3 := cbl hb6 qm3
        replace qm4 := cbl hb6 qm4
        replace qm5 := cbl hb6 qm5
        replace qm6 := cbl hb6 qm6
        replace qm7 := cbl hb6 qm7
        replace HBT := Below.cons HBT hb6
        clear hb6 CD
        go_wp2_with (fail)
        obtain ⟨cq, Ecq⟩ : ∃ z, z = cmpN x y := ⟨_, rfl⟩
        have CC := cmp_c Xx cx x Xy cy y _ hx hy (by omega) (by omega)
        rw [← Ecq] at CC
        replace CC := Lib.hid CC
        replace Ecq := Lib.hid Ecq
        refine (Calls.mono (CC.out) ?_)
        rintro e W7 ⟨rfl, hb7⟩
        replace ha := ha.below hb7
        replace hb := hb.below hb7
        replace hG := hG.below hb7
        replace Rr := Rr.below hb7
        replace hm0 := hm0.below hb7
        replace hm1 := hm1.below hb7
        replace hm2 := hm2.below hb7
        replace hm3 := hm3.below hb7
        replace Rm := Rm.below hb7
        replace qm0 := cbl hb7 qm0
        replace qm1 := cbl hb7 qm1
        replace qm2 := cbl hb7 qm2
        replace qm3 := cbl hb7 qm3
        replace qm4 := cbl hb7 qm4
        replace qm5 := cbl hb7 qm5
        replace qm6 := cbl hb7 qm6
        replace qm7 := cbl hb7 qm7
        replace hx := hx.below hb7
        replace hy := hy.below hb7
        replace HBT := Below.cons HBT hb7
        clear hb7
        clear CC
        by_cases h3 : x < y
        · skip
          have t3 : decide (cq < 0) = true := by rw [Ecq.out]; exact decide_eq_true (cmpN_neg.2 h3)
          replace h3 := Lib.hid h3
          have fz0 := Rr.f (i := 0)
          have cz_0 := Rr.c (i := 0) rfl
          have fz1 := Rr.f (i := 1)
          have cz_1 := Rr.c (i := 1) rfl
          have fz2 := Rr.f (i := 2)
          have cz_2 := Rr.c (i := 2) rfl
          have fz3 := Rr.f (i := 3)
          have cz_3 := Rr.c (i := 3) rfl
          have fz4 := Rr.f (i := 4)
          have cz_4 := Rr.c (i := 4) rfl
          have fz5 := Rr.f (i := 5)
          have cz_5 := Rr.c (i := 5) rfl
          have fz6 := Rr.f (i := 6)
          have cz_6 := Rr.c (i := 6) rfl
          have fz7 := Rr.f (i := 7)
          have cz_7 := Rr.c (i := 7) rfl
          go_wp2_with (fail)
          have RS := Rr.store8 (.bool (sg m.a)) (.slice m0A (nl (mg m.a)) m0c) (.bool (sg m.b)) (.slice m1A (nl (mg m.b)) m1c) (.bool (sg m.c)) (.slice m2A (nl (mg m.c)) m2c) (.bool (sg m.d)) (.slice m3A (nl (mg m.d)) m3c)
          have e0 := RS.c (i := 0) rfl
          have e1 := RS.c (i := 1) rfl
          have e2 := RS.c (i := 2) rfl
          have e3 := RS.c (i := 3) rfl
          have e4 := RS.c (i := 4) rfl
          have e5 := RS.c (i := 5) rfl
          have e6 := RS.c (i := 6) rfl
          have e7 := RS.c (i := 7) rfl
          refine bodyPost_ret (v := .agg #[.bool (sg m.a), .slice m0A (nl (mg m.a)) m0c, .bool (sg m.b), .slice m1A (nl (mg m.b)) m1c, .bool (sg m.c), .slice m2A (nl (mg m.c)) m2c, .bool (sg m.d), .slice m3A (nl (mg m.d)) m3c]) (by simp [results, Tryd.results37, go_sem, e0, e1, e2, e3, e4, e5, e6, e7]) rfl ?_
          exact ⟨m, Um, Sm.mono (by have := hst.out; omega), m0A, m0c, m1A, m1c, m2A, m2c, m3A, m3c, rfl, Rr.keep8 (lista8 _ rfl) hm0, Rr.keep8 (lista8 _ rfl) hm1, Rr.keep8 (lista8 _ rfl) hm2, Rr.keep8 (lista8 _ rfl) hm3, Below.store8 HBT (by first | exact Nat.le_refl _ | omega)⟩
        · skip
          have t3 : decide (cq < 0) = false := by rw [Ecq.out]; exact decide_eq_false (fun e => h3 (cmpN_neg.1 e))
          clear h3
          by_cases h4 : nl y ≤ n + 1
          · skip
            have t4 : decide ((nl y : Int) ≤ n1) = true := by simp; omega
            replace h4 := Lib.hid h4
            have fz0 := Rr.f (i := 0)
            have cz_0 := Rr.c (i := 0) rfl
            have fz1 := Rr.f (i := 1)
            have cz_1 := Rr.c (i := 1) rfl
            have fz2 := Rr.f (i := 2)
            have cz_2 := Rr.c (i := 2) rfl
            have fz3 := Rr.f (i := 3)
            have cz_3 := Rr.c (i := 3) rfl
            have fz4 := Rr.f (i := 4)
            have cz_4 := Rr.c (i := 4) rfl
            have fz5 := Rr.f (i := 5)
            have cz_5 := Rr.c (i := 5) rfl
            have fz6 := Rr.f (i := 6)
            have cz_6 := Rr.c (i := 6) rfl
            have fz7 := Rr.f (i := 7)
            have cz_7 := Rr.c (i := 7) rfl
            go_wp2_with (fail)
            have RS := Rr.store8 (.bool (sg m.a)) (.slice m0A (nl (mg m.a)) m0c) (.bool (sg m.b)) (.slice m1A (nl (mg m.b)) m1c) (.bool (sg m.c)) (.slice m2A (nl (mg m.c)) m2c) (.bool (sg m.d)) (.slice m3A (nl (mg m.d)) m3c)
            have e0 := RS.c (i := 0) rfl
            have e1 := RS.c (i := 1) rfl
            have e2 := RS.c (i := 2) rfl
            have e3 := RS.c (i := 3) rfl
            have e4 := RS.c (i := 4) rfl
            have e5 := RS.c (i := 5) rfl
            have e6 := RS.c (i := 6) rfl
            have e7 := RS.c (i := 7) rfl
            refine bodyPost_ret (v := .agg #[.bool (sg m.a), .slice m0A (nl (mg m.a)) m0c, .bool (sg m.b), .slice m1A (nl (mg m.b)) m1c, .bool (sg m.c), .slice m2A (nl (mg m.c)) m2c, .bool (sg m.d), .slice m3A (nl (mg m.d)) m3c]) (by simp [results, Tryd.results37, go_sem, e0, e1, e2, e3, e4, e5, e6, e7]) rfl ?_
            exact ⟨m, Um, Sm.mono (by have := hst.out; omega), m0A, m0c, m1A, m1c, m2A, m2c, m3A, m3c, rfl, Rr.keep8 (lista8 _ rfl) hm0, Rr.keep8 (lista8 _ rfl) hm1, Rr.keep8 (lista8 _ rfl) hm2, Rr.keep8 (lista8 _ rfl) hm3, Below.store8 HBT (by first | exact Nat.le_refl _ | omega)⟩
          · skip
            have t4 : decide ((nl y : Int) ≤ n1) = false := by simp; omega
            have hy0 : 0 < y := by rcases Nat.eq_zero_or_pos y with z | z; (rw [z, nl_zero] at h4; omega); exact z
            go_wp2_with (fail)
            have CQ := ddivmod_c Xx cx x Xy cy y _ hx hy (by omega) (by omega) hy0
            obtain ⟨q, Eq⟩ : ∃ z, z = x / y := ⟨_, rfl⟩
            obtain ⟨g, Eg⟩ : ∃ z, z = x % y := ⟨_, rfl⟩
            rw [← Eq, ← Eg] at CQ
            have hq : nl q ≤ fb + (nl a) + 1 := by rw [Eq]; exact Nat.le_trans (nl_div _ _) hsx
            have hgy : g < y := by rw [Eg]; exact Nat.mod_lt _ hy0
            have hgn : nl g ≤ nl y := nl_mono (Nat.le_of_lt hgy)
            replace CQ := Lib.hid CQ
            replace Eq := Lib.hid Eq
            replace Eg := Lib.hid Eg
            refine (Calls.mono CQ.out ?_)
            rintro e W8 ⟨Xq, cqq, Xg, cg, rfl, hq0, hg0, hb8⟩
            replace ha := ha.below hb8
            replace hb := hb.below hb8
            replace hG := hG.below hb8
            replace Rr := Rr.below hb8
            replace hm0 := hm0.below hb8
            replace hm1 := hm1.below hb8
            replace hm2 := hm2.below hb8
            replace hm3 := hm3.below hb8
            replace Rm := Rm.below hb8
            replace qm0 := cbl hb8 qm0
            replace qm1 := cbl hb8 qm1
            replace qm2 := cbl hb8 qm2
            replace qm3 := cbl hb8 qm3
            replace qm4 := cbl hb8 qm4
            replace qm5 := cbl hb8 qm5
            replace qm6 := cbl hb8 qm6
            replace qm7 := cbl hb8 qm7
            replace hx := hx.below hb8
            replace hy := hy.below hb8
            replace HBT := Below.cons HBT hb8
            clear hb8 CQ
            clear hx
            go_wp2_with (fail)
            have CT := then_c m0A m0c m1A m1c m2A m2c m3A m3c m Xq cqq q _ hm0 hm1 hm2 hm3 hq0 hG (Sm.mono (by omega)) (by omega)
            obtain ⟨p, Ep⟩ : ∃ z, z = m.nx q := ⟨_, rfl⟩
            have Up : p.U := by rw [Ep]; exact Mx.u_nx Um q
            have Sp : p.sz (2 * fb + (nl a) + 2) := by rw [Ep]; exact (Mx.sz_nx Sm hq).mono (by omega)
            rw [← Ep] at CT
            replace CT := Lib.hid CT
            replace Ep := Lib.hid Ep
            refine (Calls.mono CT.out ?_)
            rintro e W9 ⟨p0A, p0c, p1A, p1c, p2A, p2c, p3A, p3c, rfl, hp0, hp1, hp2, hp3, hb9⟩
            replace ha := ha.below hb9
            replace hb := hb.below hb9
            replace hG := hG.below hb9
            replace Rr := Rr.below hb9
            replace hm0 := hm0.below hb9
            replace hm1 := hm1.below hb9
            replace hm2 := hm2.below hb9
            replace hm3 := hm3.below hb9
            replace Rm := Rm.below hb9
            replace qm0 := cbl hb9 qm0
            replace qm1 := cbl hb9 qm1
            replace qm2 := cbl hb9 qm2
            replace qm3 := cbl hb9 qm3
            replace qm4 := cbl hb9 qm4
            replace qm5 := cbl hb9 qm5
            replace qm6 := cbl hb9 qm6
            replace qm7 := cbl hb9 qm7
            replace hy := hy.below hb9
            replace hq0 := hq0.below hb9
            replace hg0 := hg0.below hb9
            replace HBT := Below.cons HBT hb9
            clear hb9 CT
            clear hm0
            clear hm1
            clear hm2
            clear hm3
            clear hq0
            clear qm0
            clear qm1
            clear qm2
            clear qm3
            clear qm4
            clear qm5
            clear qm6
            clear qm7
            clear Um Sm hsx
            have fm0 := Rm.f (i := 0)
            have cm_0 := Rm.c (i := 0) rfl
            have fm1 := Rm.f (i := 1)
            have cm_1 := Rm.c (i := 1) rfl
            have fm2 := Rm.f (i := 2)
            have cm_2 := Rm.c (i := 2) rfl
            have fm3 := Rm.f (i := 3)
            have cm_3 := Rm.c (i := 3) rfl
            have fm4 := Rm.f (i := 4)
            have cm_4 := Rm.c (i := 4) rfl
            have fm5 := Rm.f (i := 5)
            have cm_5 := Rm.c (i := 5) rfl
            have fm6 := Rm.f (i := 6)
            have cm_6 := Rm.c (i := 6) rfl
            have fm7 := Rm.f (i := 7)
            have cm_7 := Rm.c (i := 7) rfl
            have hkm : w.heap.size + 1 ≤ W4.heap.size := by omega
            have hkr : w.heap.size ≠ W4.heap.size := by omega
            replace hkm := Lib.hid hkm
            replace hkr := Lib.hid hkr
            have ha' := Rm.keep8 (v0 := .bool (sg p.a)) (v1 := .slice p0A (nl (mg p.a)) p0c) (v2 := .bool (sg p.b)) (v3 := .slice p1A (nl (mg p.b)) p1c) (v4 := .bool (sg p.c)) (v5 := .slice p2A (nl (mg p.c)) p2c) (v6 := .bool (sg p.d)) (v7 := .slice p3A (nl (mg p.d)) p3c) (lista8 _ rfl) ha
            have hb' := Rm.keep8 (v0 := .bool (sg p.a)) (v1 := .slice p0A (nl (mg p.a)) p0c) (v2 := .bool (sg p.b)) (v3 := .slice p1A (nl (mg p.b)) p1c) (v4 := .bool (sg p.c)) (v5 := .slice p2A (nl (mg p.c)) p2c) (v6 := .bool (sg p.d)) (v7 := .slice p3A (nl (mg p.d)) p3c) (lista8 _ rfl) hb
            have hy' := Rm.keep8 (v0 := .bool (sg p.a)) (v1 := .slice p0A (nl (mg p.a)) p0c) (v2 := .bool (sg p.b)) (v3 := .slice p1A (nl (mg p.b)) p1c) (v4 := .bool (sg p.c)) (v5 := .slice p2A (nl (mg p.c)) p2c) (v6 := .bool (sg p.d)) (v7 := .slice p3A (nl (mg p.d)) p3c) (lista8 _ rfl) hy
            have hg0' := Rm.keep8 (v0 := .bool (sg p.a)) (v1 := .slice p0A (nl (mg p.a)) p0c) (v2 := .bool (sg p.b)) (v3 := .slice p1A (nl (mg p.b)) p1c) (v4 := .bool (sg p.c)) (v5 := .slice p2A (nl (mg p.c)) p2c) (v6 := .bool (sg p.d)) (v7 := .slice p3A (nl (mg p.d)) p3c) (lista8 _ rfl) hg0
            have hp0' := Rm.keep8 (v0 := .bool (sg p.a)) (v1 := .slice p0A (nl (mg p.a)) p0c) (v2 := .bool (sg p.b)) (v3 := .slice p1A (nl (mg p.b)) p1c) (v4 := .bool (sg p.c)) (v5 := .slice p2A (nl (mg p.c)) p2c) (v6 := .bool (sg p.d)) (v7 := .slice p3A (nl (mg p.d)) p3c) (lista8 _ rfl) hp0
            have hp1' := Rm.keep8 (v0 := .bool (sg p.a)) (v1 := .slice p0A (nl (mg p.a)) p0c) (v2 := .bool (sg p.b)) (v3 := .slice p1A (nl (mg p.b)) p1c) (v4 := .bool (sg p.c)) (v5 := .slice p2A (nl (mg p.c)) p2c) (v6 := .bool (sg p.d)) (v7 := .slice p3A (nl (mg p.d)) p3c) (lista8 _ rfl) hp1
            have hp2' := Rm.keep8 (v0 := .bool (sg p.a)) (v1 := .slice p0A (nl (mg p.a)) p0c) (v2 := .bool (sg p.b)) (v3 := .slice p1A (nl (mg p.b)) p1c) (v4 := .bool (sg p.c)) (v5 := .slice p2A (nl (mg p.c)) p2c) (v6 := .bool (sg p.d)) (v7 := .slice p3A (nl (mg p.d)) p3c) (lista8 _ rfl) hp2
            have hp3' := Rm.keep8 (v0 := .bool (sg p.a)) (v1 := .slice p0A (nl (mg p.a)) p0c) (v2 := .bool (sg p.b)) (v3 := .slice p1A (nl (mg p.b)) p1c) (v4 := .bool (sg p.c)) (v5 := .slice p2A (nl (mg p.c)) p2c) (v6 := .bool (sg p.d)) (v7 := .slice p3A (nl (mg p.d)) p3c) (lista8 _ rfl) hp3
            have Rm' := Rm.store8 (.bool (sg p.a)) (.slice p0A (nl (mg p.a)) p0c) (.bool (sg p.b)) (.slice p1A (nl (mg p.b)) p1c) (.bool (sg p.c)) (.slice p2A (nl (mg p.c)) p2c) (.bool (sg p.d)) (.slice p3A (nl (mg p.d)) p3c)
            have Rr' : BoxA ((((((((W9.setCell ⟨W4.heap.size, 0, none⟩ (.bool (sg p.a))).setCell ⟨W4.heap.size, 1, none⟩ (.slice p0A (nl (mg p.a)) p0c)).setCell ⟨W4.heap.size, 2, none⟩ (.bool (sg p.b))).setCell ⟨W4.heap.size, 3, none⟩ (.slice p1A (nl (mg p.b)) p1c)).setCell ⟨W4.heap.size, 4, none⟩ (.bool (sg p.c))).setCell ⟨W4.heap.size, 5, none⟩ (.slice p2A (nl (mg p.c)) p2c)).setCell ⟨W4.heap.size, 6, none⟩ (.bool (sg p.d))).setCell ⟨W4.heap.size, 7, none⟩ (.slice p3A (nl (mg p.d)) p3c)) _ _ _ := Rr.far8 hkr.out
            have HBT' := Below.store8 (k := W4.heap.size) (v0 := .bool (sg p.a)) (v1 := .slice p0A (nl (mg p.a)) p0c) (v2 := .bool (sg p.b)) (v3 := .slice p1A (nl (mg p.b)) p1c) (v4 := .bool (sg p.c)) (v5 := .slice p2A (nl (mg p.c)) p2c) (v6 := .bool (sg p.d)) (v7 := .slice p3A (nl (mg p.d)) p3c) HBT (by have := hkm.out; omega)
            have hG' := hG0.below HBT'
            go_upto_region 11 with (fail)
            clear ha hb hy hg0 hp0 hp1 hp2 hp3 Rm Rr HBT hG fm0 fm1 fm2 fm3 fm4 fm5 fm6 fm7 cm_0 cm_1 cm_2 cm_3 cm_4 cm_5 cm_6 cm_7
            have ha := ha'
            clear ha'
            have hb := hb'
            clear hb'
            have hy := hy'
            clear hy'
            have hg0 := hg0'
            clear hg0'
            have hp0 := hp0'
            clear hp0'
            have hp1 := hp1'
            clear hp1'
            have hp2 := hp2'
            clear hp2'
            have hp3 := hp3'
            clear hp3'
            have Rm := Rm'
            clear Rm'
            have Rr := Rr'
            clear Rr'
            have HBT := HBT'
            clear HBT'
            have hG := hG'
            clear hG'
            generalize hWn : ((((((((W9.setCell ⟨W4.heap.size, 0, none⟩ (.bool (sg p.a))).setCell ⟨W4.heap.size, 1, none⟩ (.slice p0A (nl (mg p.a)) p0c)).setCell ⟨W4.heap.size, 2, none⟩ (.bool (sg p.b))).setCell ⟨W4.heap.size, 3, none⟩ (.slice p1A (nl (mg p.b)) p1c)).setCell ⟨W4.heap.size, 4, none⟩ (.bool (sg p.c))).setCell ⟨W4.heap.size, 5, none⟩ (.slice p2A (nl (mg p.c)) p2c)).setCell ⟨W4.heap.size, 6, none⟩ (.bool (sg p.d))).setCell ⟨W4.heap.size, 7, none⟩ (.slice p3A (nl (mg p.d)) p3c)) = V0 at *
            clear hWn
            have qm0 := Rm.c (i := 0) rfl
            have qm1 := Rm.c (i := 1) rfl
            have qm2 := Rm.c (i := 2) rfl
            have qm3 := Rm.c (i := 3) rfl
            have qm4 := Rm.c (i := 4) rfl
            have qm5 := Rm.c (i := 5) rfl
            have qm6 := Rm.c (i := 6) rfl
            have qm7 := Rm.c (i := 7) rfl
            by_cases h5 : nl g ≤ n + 1
            · skip
              have t5 : decide ((nl g : Int) ≤ n1) = true := by simp; omega
              replace h5 := Lib.hid h5
              have fz0 := Rr.f (i := 0)
              have cz_0 := Rr.c (i := 0) rfl
              have fz1 := Rr.f (i := 1)
              have cz_1 := Rr.c (i := 1) rfl
              have fz2 := Rr.f (i := 2)
              have cz_2 := Rr.c (i := 2) rfl
              have fz3 := Rr.f (i := 3)
              have cz_3 := Rr.c (i := 3) rfl
              have fz4 := Rr.f (i := 4)
              have cz_4 := Rr.c (i := 4) rfl
              have fz5 := Rr.f (i := 5)
              have cz_5 := Rr.c (i := 5) rfl
              have fz6 := Rr.f (i := 6)
              have cz_6 := Rr.c (i := 6) rfl
              have fz7 := Rr.f (i := 7)
              have cz_7 := Rr.c (i := 7) rfl
              go_wp2_with (fail)
              have RS := Rr.store8 (.bool (sg p.a)) (.slice p0A (nl (mg p.a)) p0c) (.bool (sg p.b)) (.slice p1A (nl (mg p.b)) p1c) (.bool (sg p.c)) (.slice p2A (nl (mg p.c)) p2c) (.bool (sg p.d)) (.slice p3A (nl (mg p.d)) p3c)
              have e0 := RS.c (i := 0) rfl
              have e1 := RS.c (i := 1) rfl
              have e2 := RS.c (i := 2) rfl
              have e3 := RS.c (i := 3) rfl
              have e4 := RS.c (i := 4) rfl
              have e5 := RS.c (i := 5) rfl
              have e6 := RS.c (i := 6) rfl
              have e7 := RS.c (i := 7) rfl
              refine bodyPost_ret (v := .agg #[.bool (sg p.a), .slice p0A (nl (mg p.a)) p0c, .bool (sg p.b), .slice p1A (nl (mg p.b)) p1c, .bool (sg p.c), .slice p2A (nl (mg p.c)) p2c, .bool (sg p.d), .slice p3A (nl (mg p.d)) p3c]) (by simp [results, Tryd.results37, go_sem, e0, e1, e2, e3, e4, e5, e6, e7]) rfl ?_
              exact ⟨p, Up, Sp.mono (by have := hst.out; omega), p0A, p0c, p1A, p1c, p2A, p2c, p3A, p3c, rfl, Rr.keep8 (lista8 _ rfl) hp0, Rr.keep8 (lista8 _ rfl) hp1, Rr.keep8 (lista8 _ rfl) hp2, Rr.keep8 (lista8 _ rfl) hp3, Below.store8 HBT (by first | exact Nat.le_refl _ | omega)⟩
            · skip
              have t5 : decide ((nl g : Int) ≤ n1) = false := by simp; omega
              by_cases h6 : nl a ≤ nl y
              · skip
                have t6 : decide ((nl a : Int) ≤ (nl y : Int)) = true := by simp; omega
                have t6' : decide (nl a ≤ nl y) = true := by simp; omega
                replace h6 := Lib.hid h6
                replace h5 := Lib.hid h5
                have fz0 := Rr.f (i := 0)
                have cz_0 := Rr.c (i := 0) rfl
                have fz1 := Rr.f (i := 1)
                have cz_1 := Rr.c (i := 1) rfl
                have fz2 := Rr.f (i := 2)
                have cz_2 := Rr.c (i := 2) rfl
                have fz3 := Rr.f (i := 3)
                have cz_3 := Rr.c (i := 3) rfl
                have fz4 := Rr.f (i := 4)
                have cz_4 := Rr.c (i := 4) rfl
                have fz5 := Rr.f (i := 5)
                have cz_5 := Rr.c (i := 5) rfl
                have fz6 := Rr.f (i := 6)
                have cz_6 := Rr.c (i := 6) rfl
                have fz7 := Rr.f (i := 7)
                have cz_7 := Rr.c (i := 7) rfl
                go_wp2_with (fail)
                have RS := Rr.store8 (.bool (sg p.a)) (.slice p0A (nl (mg p.a)) p0c) (.bool (sg p.b)) (.slice p1A (nl (mg p.b)) p1c) (.bool (sg p.c)) (.slice p2A (nl (mg p.c)) p2c) (.bool (sg p.d)) (.slice p3A (nl (mg p.d)) p3c)
                have e0 := RS.c (i := 0) rfl
                have e1 := RS.c (i := 1) rfl
                have e2 := RS.c (i := 2) rfl
                have e3 := RS.c (i := 3) rfl
                have e4 := RS.c (i := 4) rfl
                have e5 := RS.c (i := 5) rfl
                have e6 := RS.c (i := 6) rfl
                have e7 := RS.c (i := 7) rfl
                refine bodyPost_ret (v := .agg #[.bool (sg p.a), .slice p0A (nl (mg p.a)) p0c, .bool (sg p.b), .slice p1A (nl (mg p.b)) p1c, .bool (sg p.c), .slice p2A (nl (mg p.c)) p2c, .bool (sg p.d), .slice p3A (nl (mg p.d)) p3c]) (by simp [results, Tryd.results37, go_sem, e0, e1, e2, e3, e4, e5, e6, e7]) rfl ?_
                exact ⟨p, Up, Sp.mono (by have := hst.out; omega), p0A, p0c, p1A, p1c, p2A, p2c, p3A, p3c, rfl, Rr.keep8 (lista8 _ rfl) hp0, Rr.keep8 (lista8 _ rfl) hp1, Rr.keep8 (lista8 _ rfl) hp2, Rr.keep8 (lista8 _ rfl) hp3, Below.store8 HBT (by first | exact Nat.le_refl _ | omega)⟩
              · skip
                have t6 : decide ((nl a : Int) ≤ (nl y : Int)) = false := by simp; omega
                have t6' : decide (nl a ≤ nl y) = false := by simp; omega
                obtain ⟨j0, Ej0⟩ : ∃ z : Int, z = 2 * (nl g : Int) := ⟨_, rfl⟩
                have Ij0 : 2 * (nl g : Int) = j0 := Ej0.symm
                obtain ⟨j1, Ej1⟩ : ∃ z : Int, z = j0 - (nl a : Int) := ⟨_, rfl⟩
                have Ij1 : j0 - (nl a : Int) = j1 := Ej1.symm
                have bj1 : 3 ≤ j1 := by omega
                have Mj1 : max j1 0 = j1 := by omega
                obtain ⟨j, Ej⟩ : ∃ z : Nat, z = (j1 / 2).toNat := ⟨_, rfl⟩
                have Ij : j1 / 2 = (j : Int) := by omega
                have Jj : j1.tdiv 2 = (j : Int) := by rw [Int.tdiv_eq_ediv_of_nonneg (by omega)]; exact Ij
                have hj1 : 1 ≤ j := by omega
                have hj2 : j ≤ 40 := by omega
                obtain ⟨j32, Ej32⟩ : ∃ z : Nat, z = 32 * j := ⟨_, rfl⟩
                have Ij32 : (32 : Int) * (j : Int) = (j32 : Int) := by omega
                have Wj0 : IntKind.i64.wrap j0 = j0 := IntWalk.i64_in _ (by omega)
                have Wj1 : IntKind.i64.wrap j1 = j1 := IntWalk.i64_in _ (by omega)
                have Wj : IntKind.i64.wrap (j : Int) = (j : Int) := IntWalk.i64_in _ (by omega)
                have Wj32 : IntKind.i64.wrap (j32 : Int) = (j32 : Int) := IntWalk.i64_in _ (by omega)
                have CS := fun (x : Nat) (A : Option Addr) (c : Nat) (W : World) (h : NatV W A c x) (hx : nl x ≤ 1073741824) => shr_ci A c x (j32 : Int) W h hx (Int.natCast_nonneg _) (by omega)
                simp only [Int.toNat_natCast] at CS
                have hny : nl (y / 2 ^ j32) ≤ (nl a) - 2 := by have h := nl_shr32 y j; rw [← Ej32] at h; omega
                have hgg : g / 2 ^ j32 ≤ y / 2 ^ j32 := Nat.div_le_div_right (Nat.le_of_lt hgy)
                obtain ⟨fd, Efd⟩ : ∃ z, z = hf ((nl a) - 2) := ⟨_, rfl⟩
                have hfd := hf_most (show (nl a) - 2 ≤ 40 by omega)
                have hst2 := hst.out
                rw [← Efd] at hst2 hfd
                replace Ej0 := Lib.hid Ej0
                replace Ej1 := Lib.hid Ej1
                replace Ej := Lib.hid Ej
                replace Ej32 := Lib.hid Ej32
                replace CS := Lib.hid CS
                replace Efd := Lib.hid Efd
                replace h5 := Lib.hid h5
                replace h6 := Lib.hid h6
                replace hst2 := Lib.hid hst2
                have hst := hst2
                go_wp2_with (fail)
                clear qm0
                clear qm1
                clear qm2
                clear qm3
                clear qm4
                clear qm5
                clear qm6
                clear qm7
                have hys : nl y ≤ 1073741824 := by omega
                have hgs : nl g ≤ 1073741824 := by omega
                have hne : W4.heap.size ≠ w.heap.size := fun e => hkr.out e.symm
                replace hne := Lib.hid hne
                have hd10 := drb (V0)
                replace ha := ha.below hd10
                replace hb := hb.below hd10
                replace hG := hG.below hd10
                replace Rr := Rr.below hd10
                replace Rm := Rm.below hd10
                replace hy := hy.below hd10
                replace hg0 := hg0.below hd10
                replace hp0 := hp0.below hd10
                replace hp1 := hp1.below hd10
                replace hp2 := hp2.below hd10
                replace hp3 := hp3.below hd10
                replace HBT := Below.cons HBT hd10
                clear hd10
                obtain ⟨S, hS⟩ : ∃ S : World → Prop, S = fun W => W.cell? ⟨W4.heap.size, 0, none⟩ = some (.bool (sg p.a)) ∧ W.cell? ⟨W4.heap.size, 1, none⟩ = some (.slice p0A (nl (mg p.a)) p0c) ∧ W.cell? ⟨W4.heap.size, 2, none⟩ = some (.bool (sg p.b)) ∧ W.cell? ⟨W4.heap.size, 3, none⟩ = some (.slice p1A (nl (mg p.b)) p1c) ∧ W.cell? ⟨W4.heap.size, 4, none⟩ = some (.bool (sg p.c)) ∧ W.cell? ⟨W4.heap.size, 5, none⟩ = some (.slice p2A (nl (mg p.c)) p2c) ∧ W.cell? ⟨W4.heap.size, 6, none⟩ = some (.bool (sg p.d)) ∧ W.cell? ⟨W4.heap.size, 7, none⟩ = some (.slice p3A (nl (mg p.d)) p3c) := ⟨_, rfl⟩
                have HSq : S (V0).drew := by rw [hS]; exact ⟨(Rm.c (i := 0) rfl), (Rm.c (i := 1) rfl), (Rm.c (i := 2) rfl), (Rm.c (i := 3) rfl), (Rm.c (i := 4) rfl), (Rm.c (i := 5) rfl), (Rm.c (i := 6) rfl), (Rm.c (i := 7) rfl)⟩
                have hSb : ∀ W W' : World, Below W.heap.size W W' → S W → S W' := by rw [hS]; exact fun W W' hb h => ⟨cell_below hb h.1, cell_below hb h.2.1, cell_below hb h.2.2.1, cell_below hb h.2.2.2.1, cell_below hb h.2.2.2.2.1, cell_below hb h.2.2.2.2.2.1, cell_below hb h.2.2.2.2.2.2.1, cell_below hb h.2.2.2.2.2.2.2⟩
                replace hSb := Lib.hid hSb
                replace hS := Lib.hid hS
                refine wp_region_seq S [(0, true), (1, true), (2, true), (3, true), (5, true), (6, true), (7, true), (4, false), (8, false), (9, false), (10, false), (11, false)] (by kernel_rfl) (by kernel_rfl) (by kernel_rfl) HSq (fun hSq => ?_)
                clear hSq
                replace HSq := Lib.hid HSq
                clear Rm
                refine SeqP.take (v := ?_) rfl (fun _ _ _ h => h) (Or.inl ⟨by rfl, ?_⟩) ?_
                rotate_left 1
                · intro wq hSw; rw [hS.out] at hSw; (try dsimp only at hSw); go_simp; try with_reducible rfl
                try simp only [Act.put, List.setIfInBounds_toArray, List.set_cons_zero, List.set_cons_succ]
                refine SeqP.take (v := ?_) rfl (fun _ _ _ h => h) (Or.inl ⟨by rfl, ?_⟩) ?_
                rotate_left 1
                · intro wq hSw; rw [hS.out] at hSw; (try dsimp only at hSw); go_simp; try with_reducible rfl
                try simp only [Act.put, List.setIfInBounds_toArray, List.set_cons_zero, List.set_cons_succ]
                refine SeqP.take (v := ?_) rfl (fun _ _ _ h => h) (Or.inl ⟨by rfl, ?_⟩) ?_
                rotate_left 1
                · intro wq hSw; rw [hS.out] at hSw; (try dsimp only at hSw); go_simp; try with_reducible rfl
                try simp only [Act.put, List.setIfInBounds_toArray, List.set_cons_zero, List.set_cons_succ]
                refine SeqP.take (v := ?_) rfl (fun _ _ _ h => h) (Or.inl ⟨by rfl, ?_⟩) ?_
                rotate_left 1
                · intro wq hSw; rw [hS.out] at hSw; (try dsimp only at hSw); go_simp; try with_reducible rfl
                try simp only [Act.put, List.setIfInBounds_toArray, List.set_cons_zero, List.set_cons_succ]
                refine SeqP.take (v := ?_) rfl (fun _ _ _ h => h) (Or.inl ⟨by rfl, ?_⟩) ?_
                rotate_left 1
                · intro wq hSw; rw [hS.out] at hSw; (try dsimp only at hSw); go_simp; try with_reducible rfl
                try simp only [Act.put, List.setIfInBounds_toArray, List.set_cons_zero, List.set_cons_succ]
                refine SeqP.take (v := ?_) rfl (fun _ _ _ h => h) (Or.inl ⟨by rfl, ?_⟩) ?_
                rotate_left 1
                · intro wq hSw; rw [hS.out] at hSw; (try dsimp only at hSw); go_simp; try with_reducible rfl
                try simp only [Act.put, List.setIfInBounds_toArray, List.set_cons_zero, List.set_cons_succ]
                refine SeqP.take (v := ?_) rfl (fun _ _ _ h => h) (Or.inl ⟨by rfl, ?_⟩) ?_
                rotate_left 1
                · intro wq hSw; rw [hS.out] at hSw; (try dsimp only at hSw); go_simp; try with_reducible rfl
                try simp only [Act.put, List.setIfInBounds_toArray, List.set_cons_zero, List.set_cons_succ]
                refine SeqP.call rfl (by rfl) (fun Kq hKq => ?_)
                go_simp
                obtain ⟨u, Eu⟩ : ∃ z : Nat, z = y / 2 ^ j32 := ⟨_, rfl⟩
                go_at_call 49
                refine (Calls.mono (R := RetN (V0).drew u) (by rw [Eu]; exact CS.out y Xy cy _ hy hys) ?_)
                replace Eu := Lib.hid Eu
                rintro e W11 ⟨Xu, cu, rfl, hu, hb11⟩
                replace ha := ha.below hb11
                replace hb := hb.below hb11
                replace hG := hG.below hb11
                replace Rr := Rr.below hb11
                replace hy := hy.below hb11
                replace hg0 := hg0.below hb11
                replace hp0 := hp0.below hb11
                replace hp1 := hp1.below hb11
                replace hp2 := hp2.below hb11
                replace hp3 := hp3.below hb11
                replace HBT := Below.cons HBT hb11
                replace HSq := Lib.hid (hSb.out _ _ hb11 HSq.out)
                clear hb11
                refine hKq.out _ _ HSq.out (fun hSq => ?_)
                clear hSq hKq Kq
                try simp only [Act.put, List.setIfInBounds_toArray, List.set_cons_zero, List.set_cons_succ]
                refine SeqP.call rfl (by rfl) (fun Kq hKq => ?_)
                go_simp
                obtain ⟨v, Ev⟩ : ∃ z : Nat, z = g / 2 ^ j32 := ⟨_, rfl⟩
                go_at_call 49
                refine (Calls.mono (R := RetN W11 v) (by rw [Ev]; exact CS.out g Xg cg _ hg0 hgs) ?_)
                replace Ev := Lib.hid Ev
                rintro e W12 ⟨Xv, cv, rfl, hv, hb12⟩
                replace ha := ha.below hb12
                replace hb := hb.below hb12
                replace hG := hG.below hb12
                replace Rr := Rr.below hb12
                replace hy := hy.below hb12
                replace hg0 := hg0.below hb12
                replace hp0 := hp0.below hb12
                replace hp1 := hp1.below hb12
                replace hp2 := hp2.below hb12
                replace hp3 := hp3.below hb12
                replace hu := hu.below hb12
                replace HBT := Below.cons HBT hb12
                replace HSq := Lib.hid (hSb.out _ _ hb12 HSq.out)
                clear hb12
                refine hKq.out _ _ HSq.out (fun hSq => ?_)
                clear hSq hKq Kq
                try simp only [Act.put, List.setIfInBounds_toArray, List.set_cons_zero, List.set_cons_succ]
                refine SeqP.call rfl (by rfl) (fun Kq hKq => ?_)
                go_simp
                have hu1 : nl u ≤ (nl a) - 2 := by rw [Eu.out]; exact hny
                have hvu : v ≤ u := by rw [Eu.out, Ev.out]; exact hgg
                have CH := ih (nl u) (by omega) (by omega) Xu cu u Xv cv v _ rfl hvu hu hv hG
                have Sm0 : hf (nl u) ≤ fd := by rw [Efd.out]; exact hf_mono hu1 (by omega)
                replace CH := Lib.hid CH
                replace Sm0 := Lib.hid Sm0
                go_at_call 37
                refine CH.out.mono ?_
                rintro e W13 ⟨o, Uo, So, o0A, o0c, o1A, o1c, o2A, o2c, o3A, o3c, rfl, ho0, ho1, ho2, ho3, hb13⟩
                replace So := So.mono Sm0.out
                clear CH Sm0
                replace ha := ha.below hb13
                replace hb := hb.below hb13
                replace hG := hG.below hb13
                replace Rr := Rr.below hb13
                replace hy := hy.below hb13
                replace hg0 := hg0.below hb13
                replace hp0 := hp0.below hb13
                replace hp1 := hp1.below hb13
                replace hp2 := hp2.below hb13
                replace hp3 := hp3.below hb13
                replace hu := hu.below hb13
                replace hv := hv.below hb13
                replace HBT := Below.cons HBT hb13
                replace HSq := Lib.hid (hSb.out _ _ hb13 HSq.out)
                clear hb13
                refine hKq.out _ _ HSq.out (fun hSq => ?_)
                clear hSq hKq Kq
                try simp only [Act.put, List.setIfInBounds_toArray, List.set_cons_zero, List.set_cons_succ]
                refine SeqP.call rfl (by rfl) (fun Kq hKq => ?_)
                go_simp
                have CF := after_c p0A p0c p1A p1c p2A p2c p3A p3c p o0A o0c o1A o1c o2A o2c o3A o3c o _ hp0 hp1 hp2 hp3 ho0 ho1 ho2 ho3 hG (Sp.mono (by omega)) (So.mono (by omega))
                obtain ⟨d, Ed⟩ : ∃ z, z = p.af o := ⟨_, rfl⟩
                have Ud : d.U := by rw [Ed]; exact Mx.u_af Up Uo
                have Sd : d.sz (hf (nl a)) := by rw [Ed]; exact (Mx.sz_af Sp So).mono (by have := hst.out; omega)
                rw [← Ed] at CF
                replace CF := Lib.hid CF
                replace Ed := Lib.hid Ed
                go_at_call 65
                refine CF.out.mono ?_
                rintro e W14 ⟨d0A, d0c, d1A, d1c, d2A, d2c, d3A, d3c, rfl, hd0, hd1, hd2, hd3, hb14⟩
                clear CF
                replace ha := ha.below hb14
                replace hb := hb.below hb14
                replace hG := hG.below hb14
                replace Rr := Rr.below hb14
                replace hy := hy.below hb14
                replace hg0 := hg0.below hb14
                replace hp0 := hp0.below hb14
                replace hp1 := hp1.below hb14
                replace hp2 := hp2.below hb14
                replace hp3 := hp3.below hb14
                replace hu := hu.below hb14
                replace hv := hv.below hb14
                replace ho0 := ho0.below hb14
                replace ho1 := ho1.below hb14
                replace ho2 := ho2.below hb14
                replace ho3 := ho3.below hb14
                replace HBT := Below.cons HBT hb14
                replace HSq := Lib.hid (hSb.out _ _ hb14 HSq.out)
                clear hb14
                refine hKq.out _ _ HSq.out (fun hSq => ?_)
                clear hSq hKq Kq
                try simp only [Act.put, List.setIfInBounds_toArray, List.set_cons_zero, List.set_cons_succ]
                have HSx := HSq.out
                rw [hS.out] at HSx
                obtain ⟨zx0, zx1, zx2, zx3, zx4, zx5, zx6, zx7⟩ := HSx
                have fz0 := Rr.f (i := 0)
                have cz_0 := Rr.c (i := 0) rfl
                have fz1 := Rr.f (i := 1)
                have cz_1 := Rr.c (i := 1) rfl
                have fz2 := Rr.f (i := 2)
                have cz_2 := Rr.c (i := 2) rfl
                have fz3 := Rr.f (i := 3)
                have cz_3 := Rr.c (i := 3) rfl
                have fz4 := Rr.f (i := 4)
                have cz_4 := Rr.c (i := 4) rfl
                have fz5 := Rr.f (i := 5)
                have cz_5 := Rr.c (i := 5) rfl
                have fz6 := Rr.f (i := 6)
                have cz_6 := Rr.c (i := 6) rfl
                have fz7 := Rr.f (i := 7)
                have cz_7 := Rr.c (i := 7) rfl
                refine SeqP.call rfl (by rfl) (fun Kq hKq => ?_)
                go_simp
                refine hKq.out _ _ (by rw [hS.out]; exact ⟨cell_other8 zx0 hne.out, cell_other8 zx1 hne.out, cell_other8 zx2 hne.out, cell_other8 zx3 hne.out, cell_other8 zx4 hne.out, cell_other8 zx5 hne.out, cell_other8 zx6 hne.out, cell_other8 zx7 hne.out⟩) (fun hSq => ?_)
                clear hSq hKq Kq zx0 zx1 zx2 zx3 zx4 zx5 zx6 zx7
                try simp only [Act.put, List.setIfInBounds_toArray, List.set_cons_zero, List.set_cons_succ]
                refine SeqP.done ?_
                clear hSb HSq
                all_goals (try go_wp2_with (fail))
                have RS := Rr.store8 (.bool (sg d.a)) (.slice d0A (nl (mg d.a)) d0c) (.bool (sg d.b)) (.slice d1A (nl (mg d.b)) d1c) (.bool (sg d.c)) (.slice d2A (nl (mg d.c)) d2c) (.bool (sg d.d)) (.slice d3A (nl (mg d.d)) d3c)
                have e0 := RS.c (i := 0) rfl
                have e1 := RS.c (i := 1) rfl
                have e2 := RS.c (i := 2) rfl
                have e3 := RS.c (i := 3) rfl
                have e4 := RS.c (i := 4) rfl
                have e5 := RS.c (i := 5) rfl
                have e6 := RS.c (i := 6) rfl
                have e7 := RS.c (i := 7) rfl
                refine bodyPost_ret (v := .agg #[.bool (sg d.a), .slice d0A (nl (mg d.a)) d0c, .bool (sg d.b), .slice d1A (nl (mg d.b)) d1c, .bool (sg d.c), .slice d2A (nl (mg d.c)) d2c, .bool (sg d.d), .slice d3A (nl (mg d.d)) d3c]) (by simp [results, Tryd.results37, go_sem, e0, e1, e2, e3, e4, e5, e6, e7]) rfl ?_
                exact ⟨d, Ud, Sd.mono (Nat.le_refl _), d0A, d0c, d1A, d1c, d2A, d2c, d3A, d3c, rfl, Rr.keep8 (lista8 _ rfl) hd0, Rr.keep8 (lista8 _ rfl) hd1, Rr.keep8 (lista8 _ rfl) hd2, Rr.keep8 (lista8 _ rfl) hd3, Below.store8 HBT (by first | exact Nat.le_refl _ | omega)⟩
end Go.Proofs.YthcmoimlnhghcaaDoor

/- The greatest common divisor by halves. -/
set_option linter.unusedVariables false
set_option linter.unusedSimpArgs false
namespace Go.Proofs.YthcmoimlnhghcaaDoor
open Go.RowKit Go.Shelf
attribute [local go_sem] max2_i min2_i max_two min_two

theorem bl_up {a b : Nat} (h : a ≤ b) : bl a ≤ bl b := by
  by_cases h0 : a = 0
  · subst h0; unfold bl; rw [if_pos rfl]; omega
  · have h1 := bl_ge h0
    have h2 := bl_lt b
    have h3 : 2 ^ (bl a - 1) < 2 ^ bl b := by omega
    have := (Nat.pow_lt_pow_iff_right (by decide : 1 < 2)).1 h3
    omega
theorem halfZ_e (A : Option Addr) (c a : Nat) (B : Option Addr) (d b : Nat) (w : World) (h : b = 0) :
    Calls Tryd.prog 20 #[.slice A (nl a) c, .slice B (nl b) d] w (RetQZ w) := by
  subst h; rw [nl_zero]; exact ddivZ_c A c (nl a) B d w
/-- What gets less with each round. -/
def hmeas (S x y : Nat) : Nat := (bl x + bl y) * 2 ^ (S + 1) + (x + y)
theorem hsum_lt {S x y : Nat} (h : bl x + bl y ≤ S) : x + y < 2 ^ (S + 1) := by
  have h1 := bl_lt x
  have h2 := bl_lt y
  have h3 : 2 ^ bl x ≤ 2 ^ S := Nat.pow_le_pow_right (by decide) (by omega)
  have h4 : 2 ^ bl y ≤ 2 ^ S := Nat.pow_le_pow_right (by decide) (by omega)
  rw [Nat.pow_succ]; omega
theorem half_dec {S x y p q : Nat} (hS : bl x + bl y ≤ S) (hyx : y ≤ x) (hqp : q ≤ p) (hq : 0 < q) (h : (p = x ∧ q = y) ∨ bl p + bl q < bl x + bl y) :
    hmeas S q (p % q) < hmeas S x y ∧ bl q + bl (p % q) ≤ S := by
  have h1 : bl (p % q) ≤ bl p := bl_up (Nat.mod_le _ _)
  have hm := Nat.mod_lt p hq
  unfold hmeas
  generalize hK : 2 ^ (S + 1) = K
  rcases h with ⟨rfl, rfl⟩ | h
  · refine ⟨?_, by omega⟩
    have h2 : (bl q + bl (p % q)) * K ≤ (bl p + bl q) * K := Nat.mul_le_mul_right _ (by omega)
    omega
  · refine ⟨?_, by omega⟩
    have h2 := hsum_lt (S := S) (x := q) (y := p % q) (by omega)
    rw [hK] at h2
    have h3 : (bl q + bl (p % q) + 1) * K ≤ (bl x + bl y) * K := Nat.mul_le_mul_right _ (by omega)
    rw [Nat.add_mul, Nat.one_mul] at h3
    omega
theorem half_sz {x y p q : Nat} (hyx : y ≤ x) (hqp : q ≤ p) (h : (p = x ∧ q = y) ∨ bl p + bl q < bl x + bl y) : q ≤ x ∨ bl q ≤ bl x := by
  rcases h with ⟨rfl, rfl⟩ | h
  · exact .inl hyx
  · have h1 := bl_up hqp
    have h2 := bl_up hyx
    exact .inr (by omega)
theorem nl_bl {q x : Nat} (h : bl q ≤ bl x) : nl q ≤ nl x := by
  by_cases h0 : q = 0
  · subst h0; rw [nl_zero]; omega
  · obtain ⟨L, e1, e2, _⟩ := bl_top h0
    have h1 := bl_le x
    have := nl_pos.2 h0
    omega
theorem half_c (A : Option Addr) (c a : Nat) (B : Option Addr) (d b : Nat) (w : World) (hA : NatV w A c a) (hB : NatV w B d b) (hG : Flds w) (la : nl a ≤ 40) (lb : nl b ≤ 40) :
    Calls Tryd.prog 15 #[.slice A (nl a) c, .slice B (nl b) d] w (RetN w (Nat.gcd a b)) := by
  obtain ⟨S, hS⟩ : ∃ S, S = bl a + bl b := ⟨_, rfl⟩
  replace hS := Lib.hid hS
  go_enter Tryd.func15, Tryd.ntmps15
  go_wp2_with (fail)
  refine (cmp_c A c a B d b w hA hB (by omega) (by omega)).mono ?_
  rintro e w1 ⟨rfl, hb1⟩
  go_upto_if 13 with (fail)
  go_cut [0, 1] from 10 to 15 (fun v0 v1 wx => ∃ (x y : Nat) (X : Option Addr) (cx : Nat) (Y : Option Addr) (cy : Nat), v0 = .slice X (nl x) cx ∧ v1 = .slice Y (nl y) cy ∧ NatV wx X cx x ∧ NatV wx Y cy y ∧ Below w.heap.size w wx ∧ Hid (Nat.gcd x y = Nat.gcd a b) ∧ y ≤ x ∧ nl x ≤ 40 ∧ Hid (bl x + bl y ≤ S))
  case first =>
    by_cases h : a < b
    · have t1 : decide (cmpN a b < 0) = true := decide_eq_true (cmpN_neg.2 h)
      simp only [t1]
      go_wp2_with (fail)
      go_meet
      exact ⟨b, a, B, d, A, c, rfl, rfl, hB.below hb1, hA.below hb1, hb1, Lib.hid (Nat.gcd_comm b a), by omega, lb, Lib.hid (by rw [hS.out]; omega)⟩
    · have t1 : decide (cmpN a b < 0) = false := decide_eq_false (fun e => h (cmpN_neg.1 e))
      simp only [t1]
      go_wp2_with (fail)
      go_meet
      exact ⟨a, b, A, c, B, d, rfl, rfl, hA.below hb1, hB.below hb1, hb1, Lib.hid rfl, by omega, la, Lib.hid (by rw [hS.out]; omega)⟩
  case rest =>
    obtain ⟨x0, y0, X0, cx0, Y0, cy0, rfl, rfl, hX0, hY0, hb0, hg0, hyx0, lx0, hS0⟩ := hcut
    go_wp2_with (fail)
    go_loopw [0, 1, 5, 6, 7, 8, 9] (fun v0 v1 v5 v6 v7 v8 v9 wr => ∃ (x y : Nat) (X : Option Addr) (cx : Nat) (Y : Option Addr) (cy : Nat), v0 = .slice X (nl x) cx ∧ v1 = .slice Y (nl y) cy ∧ NatV wr X cx x ∧ NatV wr Y cy y ∧ Below w.heap.size w wr ∧ Hid (Nat.gcd x y = Nat.gcd a b) ∧ y ≤ x ∧ nl x ≤ 40 ∧ Hid (bl x + bl y ≤ S)) (fun v0 v1 v5 v6 v7 v8 v9 wr => hmeas S (natAt wr (some v0)) (natAt wr (some v1)))
    case atStart => exact ⟨x0, y0, X0, cx0, Y0, cy0, rfl, rfl, hX0, hY0, hb0, hg0, hyx0, lx0, hS0⟩
    case round =>
      obtain ⟨x, y, X, cx, Y, cy, rfl, rfl, hX, hY, hbr, hg, hyx, lx, hSr⟩ := hrel
      have hX0' := Lib.hid hX
      have hY0' := Lib.hid hY
      clear hX0 hY0 hb0 hg0 hyx0 lx0 hS0
      have ly : nl y ≤ 40 := Nat.le_trans (nl_mono hyx) lx
      by_cases h0 : nl y < 8
      · have t1 : decide (8 ≤ (nl y : Int)) = false := by simp; omega
        have t2 : decide (8 ≤ nl y) = false := by simp; omega
        have CE := gcd_c X cx x Y cy y wr hX hY (by omega) (by omega)
        rw [hg.out] at CE
        replace CE := Lib.hid CE
        go_wp2_with (fail)
        refine CE.out.mono ?_
        rintro e w1 ⟨Z, cz, rfl, hZ, hb1⟩
        go_wp2_with (fail)
        go_ret
        exact ⟨Z, cz, rfl, hZ, hbr.cons hb1⟩
      · have t1 : decide (8 ≤ (nl y : Int)) = true := by simp; omega
        have t2 : decide (8 ≤ nl y) = true := by simp; omega
        have CH := halved_c (nl x) lx X cx x Y cy y wr rfl hyx hX hY (hG.below hbr)
        have hfx := hf_most lx
        replace CH := Lib.hid CH
        go_wp2_with (fail)
        refine CH.out.mono ?_
        rintro e w2 ⟨m, hU, hsz, mA, ma, mB, mb, mC, mc, mD, md, rfl, m0, m1, m2, m3, hb2⟩
        clear CH
        replace hX := hX.below hb2
        replace hY := hY.below hb2
        have hbr2 := hbr.cons hb2
        have CD := do_c mA ma mB mb mC mc mD md m X cx x Y cy y _ m0 m1 m2 m3 hX hY (hG.below hbr2) (hsz.mono (by omega)) (by omega) (by omega)
        have hgm := Mx.gcd hU x y
        have hsx := Mx.sz_x (a := x) (b := y) hsz lx ly
        have hsy := Mx.sz_y (a := x) (b := y) hsz lx ly
        obtain ⟨u, Eu⟩ : ∃ z, z = mg (m.x x y) := ⟨_, rfl⟩
        obtain ⟨v, Ev⟩ : ∃ z, z = mg (m.y x y) := ⟨_, rfl⟩
        rw [← Eu, ← Ev] at CD hgm
        rw [← Eu] at hsx
        rw [← Ev] at hsy
        replace CD := Lib.hid CD
        replace Eu := Lib.hid Eu
        replace Ev := Lib.hid Ev
        replace hgm := Lib.hid hgm
        go_wp2_with (fail)
        refine CD.out.mono ?_
        rintro e w3 ⟨U, cu, V, cv, rfl, hu, hv, hb3⟩
        clear CD m0 m1 m2 m3
        replace hX := hX.below hb3
        replace hY := hY.below hb3
        have hbr3 := hbr2.cons hb3
        have CC := cmp_c U cu u V cv v w3 hu hv (by omega) (by omega)
        obtain ⟨cq, Ecq⟩ : ∃ z, z = cmpN u v := ⟨_, rfl⟩
        rw [← Ecq] at CC
        replace CC := Lib.hid CC
        replace Ecq := Lib.hid Ecq
        clear hb2 hb3 hbr hbr2
        go_wp2_with (fail)
        refine CC.out.mono ?_
        rintro e w4 ⟨rfl, hb4⟩
        clear CC
        replace hX := hX.below hb4
        replace hY := hY.below hb4
        replace hu := hu.below hb4
        replace hv := hv.below hb4
        have hbr4 := hbr3.cons hb4
        clear hb4 hbr3
        go_upto_if 31 with (fail)
        go_cut [5, 6] from 28 to 33 (fun v5 v6 wx => wx = w4 ∧ ∃ (p q : Nat) (P : Option Addr) (cp : Nat) (Q : Option Addr) (cq : Nat), v5 = .slice P (nl p) cp ∧ v6 = .slice Q (nl q) cq ∧ NatV w4 P cp p ∧ NatV w4 Q cq q ∧ Hid (Nat.gcd p q = Nat.gcd x y) ∧ q ≤ p ∧ nl p ≤ 5000)
        case first =>
          by_cases h : u < v
          · have t3 : decide (cq < 0) = true := by rw [Ecq.out]; exact decide_eq_true (cmpN_neg.2 h)
            simp only [t3]
            go_wp2_with (fail)
            go_meet
            exact ⟨rfl, v, u, V, cv, U, cu, rfl, rfl, hv, hu, Lib.hid (by rw [Nat.gcd_comm, hgm.out]), by omega, by omega⟩
          · have t3 : decide (cq < 0) = false := by rw [Ecq.out]; exact decide_eq_false (fun e => h (cmpN_neg.1 e))
            simp only [t3]
            go_wp2_with (fail)
            go_meet
            exact ⟨rfl, u, v, U, cu, V, cv, rfl, rfl, hu, hv, hgm, by omega, by omega⟩
        case rest =>
          obtain ⟨rfl, p, q, P, cp, Q, cqq, rfl, rfl, hP, hQ, hgp, hqp, lp⟩ := hcut
          have lq : nl q ≤ 5000 := Nat.le_trans (nl_mono hqp) lp
          clear hu hv hgm hsx hsy
          have W0 : ∀ (A : Option Addr) (c n : Nat), NatV wc A c n → nl n ≤ 5000 → Calls Tryd.prog 30 #[.slice A (nl n) c] wc fun e w' => e = .returned (.int .i64 (bl n : Nat)) ∧ w' = wc := fun A c n h hn => bits_c A c n wc h (by omega)
          have B1 := W0 P cp p hP lp
          have B2 := W0 Q cqq q hQ lq
          have B3 := W0 X cx x hX (by omega)
          have B4 := W0 Y cy y hY (by omega)
          obtain ⟨bp, Ebp⟩ : ∃ z, z = bl p := ⟨_, rfl⟩
          obtain ⟨bq, Ebq⟩ : ∃ z, z = bl q := ⟨_, rfl⟩
          obtain ⟨bx, Ebx⟩ : ∃ z, z = bl x := ⟨_, rfl⟩
          obtain ⟨by', Eby⟩ : ∃ z, z = bl y := ⟨_, rfl⟩
          have l1 := bl_le p
          have l2 := bl_le q
          have l3 := bl_le x
          have l4 := bl_le y
          rw [← Ebp] at B1 l1
          rw [← Ebq] at B2 l2
          rw [← Ebx] at B3 l3
          rw [← Eby] at B4 l4
          obtain ⟨s1, Es1⟩ : ∃ z : Nat, z = bp + bq := ⟨_, rfl⟩
          obtain ⟨s2, Es2⟩ : ∃ z : Nat, z = bx + by' := ⟨_, rfl⟩
          have I1 : (bp : Int) + (bq : Int) = (s1 : Int) := by omega
          have I2 : (bx : Int) + (by' : Int) = (s2 : Int) := by omega
          have V1 : IntKind.i64.wrap (s1 : Int) = (s1 : Int) := IntWalk.i64_in _ (by omega)
          have V2 : IntKind.i64.wrap (s2 : Int) = (s2 : Int) := IntWalk.i64_in _ (by omega)
          replace Ebp := Lib.hid Ebp
          replace Ebq := Lib.hid Ebq
          replace Ebx := Lib.hid Ebx
          replace Eby := Lib.hid Eby
          replace Es1 := Lib.hid Es1
          replace Es2 := Lib.hid Es2
          replace B1 := Lib.hid B1
          replace B2 := Lib.hid B2
          replace B3 := Lib.hid B3
          replace B4 := Lib.hid B4
          clear W0
          go_wp2_with (fail)
          refine B1.out.mono ?_
          rintro e w' ⟨rfl, hw⟩
          subst hw
          go_wp2_with (fail)
          refine B2.out.mono ?_
          rintro e w' ⟨rfl, hw⟩
          subst hw
          go_wp2_with (fail)
          refine B3.out.mono ?_
          rintro e w' ⟨rfl, hw⟩
          subst hw
          go_wp2_with (fail)
          refine B4.out.mono ?_
          rintro e w5 ⟨rfl, hw⟩
          subst hw
          go_upto_if 44 with (fail)
          go_cut [5, 6] from 34 to 46 (fun v5 v6 wx => wx = w5 ∧ ∃ (p q : Nat) (P : Option Addr) (cp : Nat) (Q : Option Addr) (cq : Nat), v5 = .slice P (nl p) cp ∧ v6 = .slice Q (nl q) cq ∧ NatV w5 P cp p ∧ NatV w5 Q cq q ∧ Hid (Nat.gcd p q = Nat.gcd x y) ∧ q ≤ p ∧ nl p ≤ 5000 ∧ Hid ((p = x ∧ q = y) ∨ bl p + bl q < bl x + bl y))
          case first =>
            by_cases h : s2 ≤ s1
            · have t3 : decide ((s2 : Int) ≤ (s1 : Int)) = true := by simp; omega
              have t3' : decide (s2 ≤ s1) = true := by simp; omega
              simp only [t3, t3']
              go_wp2_with (fail)
              go_meet
              exact ⟨rfl, x, y, X, cx, Y, cy, rfl, rfl, hX, hY, Lib.hid rfl, hyx, by omega, Lib.hid (.inl ⟨rfl, rfl⟩)⟩
            · have t3 : decide ((s2 : Int) ≤ (s1 : Int)) = false := by simp; omega
              have t3' : decide (s2 ≤ s1) = false := by simp; omega
              simp only [t3, t3']
              go_wp2_with (fail)
              go_meet
              exact ⟨rfl, p, q, P, cp, Q, cqq, rfl, rfl, hP, hQ, hgp, hqp, lp, Lib.hid (.inr (by rw [← Ebp.out, ← Ebq.out, ← Ebx.out, ← Eby.out, ← Es1.out, ← Es2.out]; omega))⟩
          case rest =>
            clear hP hQ hgp hqp lp lq B1 B2 B3 B4
            obtain ⟨rfl, p, q, P, cp, Q, cqq, rfl, rfl, hP, hQ, hgp, hqp, lp, hor⟩ := hcut
            have lq : nl q ≤ 5000 := Nat.le_trans (nl_mono hqp) lp
            by_cases hq0 : q = 0
            · have hpg : p = Nat.gcd a b := by rw [← hg.out, ← hgp.out, hq0, Nat.gcd_zero_right]
              have t4 : ((nl q : Int) == 0) = true := ieqT (by rw [hq0, nl_zero]; rfl)
              have t4' : (nl q == 0) = true := by rw [hq0, nl_zero]; rfl
              have CZ := halfZ_e P cp p Q cqq q wc hq0
              replace hq0 := Lib.hid hq0
              replace hpg := Lib.hid hpg
              replace CZ := Lib.hid CZ
              go_wp2_with (fail)
              refine CZ.out.mono ?_
              rintro e w6 ⟨rfl, hb6⟩
              have hP6 := hP.below hb6
              go_wp2_with (fail)
              go_ret
              rw [← hpg.out]
              exact ⟨P, cp, rfl, hP6, hbr4.cons hb6⟩
            · have hq1 : 0 < q := Nat.pos_of_ne_zero hq0
              have t4 : ((nl q : Int) == 0) = false := ieqF (by have := nl_pos.2 hq0; omega)
              have t4' : (nl q == 0) = false := by have := nl_pos.2 hq0; simp; omega
              have CQ := ddivmod_c P cp p Q cqq q wc hP hQ (by omega) (by omega) hq1
              have hdec := half_dec hSr.out hyx hqp hq1 hor.out
              have hsq : nl q ≤ 40 := by
                rcases half_sz hyx hqp hor.out with h | h
                · exact Nat.le_trans (nl_mono h) lx
                · exact Nat.le_trans (nl_bl h) lx
              have hg2 : Nat.gcd q (p % q) = Nat.gcd a b := by rw [← hg.out, ← hgp.out, Nat.gcd_comm p q, Nat.gcd_rec q p, Nat.gcd_comm]
              obtain ⟨r, Er⟩ : ∃ z, z = p % q := ⟨_, rfl⟩
              have hrq : r < q := by rw [Er]; exact Nat.mod_lt _ hq1
              rw [← Er] at CQ hdec hg2
              replace CQ := Lib.hid CQ
              replace Er := Lib.hid Er
              replace hg2 := Lib.hid hg2
              replace hq0 := Lib.hid hq0
              have hd1 := Lib.hid hdec.1
              have hd2 := Lib.hid hdec.2
              clear hdec
              go_wp2_with (fail)
              refine CQ.out.mono ?_
              rintro e w6 ⟨D, cd, R, cr, rfl, hD, hR, hb6⟩
              have hQ6 := hQ.below hb6
              have hbr6 := hbr4.cons hb6
              have hme : hmeas S (natAt w6 (some (.slice Q (nl q) cqq))) (natAt w6 (some (.slice R (nl r) cr))) < hmeas S x y := by rw [hQ6.at_, hR.at_]; exact hd1.out
              replace hme := Lib.hid hme
              go_wp2_with (fail)
              go_roundw
              case rel => exact ⟨q, r, Q, cqq, R, cr, rfl, rfl, hQ6, hR, hbr6, hg2, by omega, hsq, hd2⟩
              case measure => rw [hX0'.out.at_, hY0'.out.at_]; exact hme.out
end Go.Proofs.YthcmoimlnhghcaaDoor

/- Powers modulo a natural. -/
set_option linter.unusedVariables false
set_option linter.unusedSimpArgs false
namespace Go.Proofs.YthcmoimlnhghcaaDoor
open Go.RowKit Go.Shelf
attribute [local go_sem] max2_i min2_i max_two min_two

/-- What a call leaves that makes a natural, and tells that nothing was wrong. -/
def RetNE (w : World) (n : Nat) (e : Ending) (w' : World) : Prop := ∃ (X : Option Addr) (c : Nat), e = .returned (.tuple #[.slice X (nl n) c, .int .i64 0]) ∧ NatV w' X c n ∧ Below w.heap.size w w'
theorem pm_sq {a k m : Nat} : a ^ k % m * (a ^ k % m) % m = a ^ (2 * k) % m := by
  rw [← Nat.mul_mod, ← Nat.pow_add]; congr 2; omega
theorem pm_one {a k m : Nat} : a ^ (2 * k) % m * (a % m) % m = a ^ (2 * k + 1) % m := by
  rw [← Nat.mul_mod, ← Nat.pow_succ]
theorem pm_bit (e j : Nat) : e / 2 ^ j = 2 * (e / 2 ^ (j + 1)) + e / 2 ^ j % 2 := by
  rw [Nat.pow_succ, ← Nat.div_div_eq_div_mul]; omega
theorem pmrest_c (A : Option Addr) (c x : Nat) (M : Option Addr) (cm m k : Nat) (w : World) (hA : NatV w A c x) (hM : NatV w M cm m) (hk : BoxA w k 22 #[.slice M (nl m) cm]) (lx : nl x ≤ 16777216) (lm : nl m ≤ 16777216) (h0 : 0 < m) :
    Calls Tryd.prog 28 #[.slice A (nl x) c, .pointer (some ⟨k, 0, none⟩)] w (RetN w (x % m)) := by
  have q0 := hk.c (i := 0) rfl
  have CD := ddivmod_c A c x M cm m w hA hM lx lm h0
  replace CD := Lib.hid CD
  go_enter Tryd.func28, Tryd.ntmps28
  go_wp2_with (fail)
  refine CD.out.mono ?_
  rintro e w1 ⟨Q, cq, R, cr, rfl, hQ, hR, hb1⟩
  go_wp2_with (fail)
  go_ret
  exact ⟨R, cr, rfl, hR, hb1⟩
theorem powmodZ_c (A : Option Addr) (la c : Nat) (E : Option Addr) (le ce : Nat) (M : Option Addr) (cm : Nat) (w : World) :
    Calls Tryd.prog 13 #[.slice A la c, .slice E le ce, .slice M 0 cm] w fun e w' => e = .returned (.tuple #[.slice none 0 0, .int .i64 3]) ∧ Below w.heap.size w w' := by
  have hb : Below w.heap.size w (w.alloc (.cells #[.slice M 0 cm] 22)) := (Below.refl _ _).alloc (Nat.le_refl _) _
  have RB : BoxA (w.alloc (.cells #[.slice M 0 cm] 22)) w.heap.size 22 #[.slice M 0 cm] := ⟨at_new rfl⟩
  have q0 := RB.c (i := 0) rfl
  go_enter Tryd.func13, Tryd.ntmps13
  go_wp2_with (fail)
  exact bodyPost_ret (v := .tuple #[.slice none 0 0, .int .i64 3]) (by simp [results, Tryd.results13, go_sem]) rfl ⟨rfl, hb⟩
theorem powmod_c (A : Option Addr) (c a : Nat) (E : Option Addr) (ce e : Nat) (M : Option Addr) (cm m : Nat) (w : World) (hA : NatV w A c a) (hE : NatV w E ce e) (hM : NatV w M cm m) (hG : Flds w) (la : nl a ≤ 8192) (le : nl e ≤ 8192) (lm : nl m ≤ 8192) (h0 : 0 < m) :
    Calls Tryd.prog 13 #[.slice A (nl a) c, .slice E (nl e) ce, .slice M (nl m) cm] w (RetNE w (a ^ e % m)) := by
  have hb : Below w.heap.size w (w.alloc (.cells #[.slice M (nl m) cm] 22)) := (Below.refl _ _).alloc (Nat.le_refl _) _
  have RB : BoxA (w.alloc (.cells #[.slice M (nl m) cm] 22)) w.heap.size 22 #[.slice M (nl m) cm] := ⟨at_new rfl⟩
  have q0 := RB.c (i := 0) rfl
  have t0 : ((nl m : Int) == 0) = false := ieqF (by have := nl_pos.2 (show m ≠ 0 by omega); omega)
  have t0' : (nl m == 0) = false := by have := nl_pos.2 (show m ≠ 0 by omega); simp; omega
  have A0 := hA.below hb
  have E0 := hE.below hb
  have M0 := hM.below hb
  have G0 := hG.below hb
  obtain ⟨s, hs⟩ : ∃ s, s = w.heap.size := ⟨_, rfl⟩
  have O1 : Calls Tryd.prog 29 #[.int .u64 1] (w.alloc (.cells #[.slice M (nl m) cm] 22)) (RetN _ 1) := nof_c 1 _ (by decide)
  replace O1 := Lib.hid O1
  go_enter Tryd.func13, Tryd.ntmps13
  go_wp2_with (fail)
  refine O1.out.mono ?_
  rintro ee w1 ⟨X1, c1, rfl, hX1, hb1⟩
  have RB1 := RB.below hb1
  have A1 := A0.below hb1
  have E1 := E0.below hb1
  have M1 := M0.below hb1
  have G1 := G0.below hb1
  have HB1 := hb.cons hb1
  go_wp2_with (fail)
  refine (pmrest_c X1 c1 1 M cm m _ w1 hX1 M1 RB1 (by rw [nl_one]; decide) (by omega) h0).mono ?_
  rintro ee w2 ⟨X2, c2, rfl, hX2, hb2⟩
  have RB2 := RB1.below hb2
  have A2 := A1.below hb2
  have E2 := E1.below hb2
  have M2 := M1.below hb2
  have G2 := G1.below hb2
  have HB2 := HB1.cons hb2
  go_wp2_with (fail)
  refine (pmrest_c A c a M cm m _ w2 A2 M2 RB2 (by omega) (by omega) h0).mono ?_
  rintro ee w3 ⟨Y, cy, rfl, hY, hb3⟩
  have RB3 := RB2.below hb3
  have E3 := E2.below hb3
  have M3 := M2.below hb3
  have G3 := G2.below hb3
  have X3 := hX2.below hb3
  have HB3 := HB2.cons hb3
  clear A0 A1 A2 E0 E1 E2 M0 M1 M2 G0 G1 G2 HB1 HB2 hX2 RB1 RB2 hb1 hb2 hb3 hX1 RB q0 O1
  go_wp2_with (fail)
  refine (bits_c E ce e w3 E3 (by omega)).mono ?_
  rintro ee w4 ⟨rfl, hw⟩
  subst hw
  obtain ⟨y, Ey⟩ : ∃ y, y = a % m := ⟨_, rfl⟩
  rw [← Ey] at hY
  have ly : nl y ≤ 8192 := by rw [Ey]; exact Nat.le_trans (nl_mod_le _ _) la
  have hbl := bl_le e
  obtain ⟨B, EB⟩ : ∃ B, B = bl e := ⟨_, rfl⟩
  rw [← EB] at hbl
  have st0 : 1 % m = a ^ (e / 2 ^ B) % m := by
    have h1 : e / 2 ^ B = 0 := by rw [EB]; exact Nat.div_eq_of_lt (bl_lt e)
    rw [h1, Nat.pow_zero]
  have hBI : (bl e : Int) = (B : Int) := by rw [EB]
  rw [← EB, ← Ey]
  obtain ⟨o0, Eo0⟩ : ∃ z, z = 1 % m := ⟨_, rfl⟩
  rw [← Eo0] at X3 st0 ⊢
  replace Eo0 := Lib.hid Eo0
  have HB0 := Lib.hid HB3
  have HK : ∀ W, Below w4.heap.size w4 W → BoxA W w.heap.size 22 #[.slice M (nl m) cm] ∧ NatV W E ce e ∧ NatV W M cm m ∧ Flds W ∧ NatV W Y cy y := fun W h => ⟨RB3.below h, E3.below h, M3.below h, G3.below h, hY.below h⟩
  replace HK := Lib.hid HK
  replace st0 := Lib.hid st0
  replace Ey := Lib.hid Ey
  replace EB := Lib.hid EB
  clear hBI
  have WB : IntKind.i64.wrap ((B : Int) - 1) = (B : Int) - 1 := IntWalk.i64_in _ (by omega)
  clear RB3 E3 M3 G3 HB3 hY
  go_wp2_with (fail)
  go_loopw [9, 10] (fun v9 v10 wr => ∃ (j o : Nat) (O : Option Addr) (co : Nat), v9 = .slice O (nl o) co ∧ v10 = .int .i64 ((j : Int) - 1) ∧ j ≤ B ∧ NatV wr O co o ∧ Hid (o = a ^ (e / 2 ^ j) % m) ∧ Below w4.heap.size w4 wr ∧ nl o ≤ 8192) (fun v9 v10 wr => (intOf v10 + 1).toNat)
  case atStart => exact ⟨B, o0, X2, c2, rfl, rfl, Nat.le_refl _, X3, st0, Below.refl _ _, by rw [Eo0.out]; exact Nat.le_trans (nl_mod_lt 1 (by omega)) lm⟩
  case round =>
    obtain ⟨j, o, O, co, rfl, rfl, hj, hO, ho, hbr, lo⟩ := hrel
    clear X3
    cases j with
    | zero =>
      have hoe : o = a ^ e % m := by rw [ho.out, Nat.pow_zero, Nat.div_one]
      have t1 : decide (0 ≤ ((0 : Nat) : Int) - 1) = false := by decide
      replace hoe := Lib.hid hoe
      go_wp2_with (fail)
      refine bodyPost_ret (v := .tuple #[.slice O (nl o) co, .int .i64 0]) (by simp [results, Tryd.results13, go_sem]) rfl ?_
      rw [← hoe.out]
      exact ⟨O, co, rfl, hO, HB0.out.cons hbr⟩
    | succ j =>
      rw [show (((j + 1 : Nat) : Int) - 1) = (j : Int) by omega]
      have t1 : decide (0 ≤ (j : Int)) = true := by simp
      have Wj : IntKind.i64.wrap ((j : Int) - 1) = (j : Int) - 1 := IntWalk.i64_in _ (by omega)
      obtain ⟨KB, KE, KM, KG, KY⟩ := HK.out wr hbr
      have CM := mul_c O co o O co o wr hO hO KG (by omega) (by omega)
      obtain ⟨p, Ep⟩ : ∃ p, p = o * o := ⟨_, rfl⟩
      have lp : nl p ≤ 16384 := by rw [Ep]; have := nl_mul o o; omega
      rw [← Ep] at CM
      have hs1 : p % m = a ^ (2 * (e / 2 ^ (j + 1))) % m := by rw [Ep, ho.out]; exact pm_sq
      have hbit := pm_bit e j
      have hbv : e / 2 ^ j % 2 = 0 ∨ e / 2 ^ j % 2 = 1 := by omega
      replace CM := Lib.hid CM
      replace Ep := Lib.hid Ep
      clear KE KY
      go_wp2_with (fail)
      refine CM.out.mono ?_
      rintro ee w5 ⟨P, cp, rfl, hP, hb5⟩
      have CR := pmrest_c P cp p M cm m _ w5 hP (KM.below hb5) (KB.below hb5) (by omega) (by omega) h0
      obtain ⟨q, Eq⟩ : ∃ q, q = p % m := ⟨_, rfl⟩
      rw [← Eq] at CR hs1
      have lq : nl q ≤ 8192 := by rw [Eq]; exact Nat.le_trans (nl_mod_lt p (by omega)) lm
      replace CR := Lib.hid CR
      replace Eq := Lib.hid Eq
      replace hs1 := Lib.hid hs1
      replace hbit := Lib.hid hbit
      clear KB KM KG CM
      go_wp2_with (fail)
      refine CR.out.mono ?_
      rintro ee w6 ⟨Q, cq, rfl, hQ, hb6⟩
      have hbr6 := (hbr.cons hb5).cons hb6
      obtain ⟨KB, KE, KM, KG, KY⟩ := HK.out w6 hbr6
      have CB := bit_c E ce e j w6 KE (by omega) (by omega)
      rcases hbv with hbv | hbv
      · rw [hbv] at CB
        have hfin : q = a ^ (e / 2 ^ j) % m := by rw [hs1.out]; congr 2; have h := hbit.out; rw [hbv] at h; omega
        replace hfin := Lib.hid hfin
        replace CB := Lib.hid CB
        replace hbv := Lib.hid hbv
        clear KB KE KM KG KY CR
        go_wp2_with (fail)
        refine CB.out.mono ?_
        rintro ee w7 ⟨rfl, hw⟩
        subst hw
        go_wp2_with (fail)
        go_roundw
        case rel => exact ⟨j, q, Q, cq, rfl, rfl, by omega, hQ, hfin, hbr6, lq⟩
        case measure => simp only [intOf]; omega
      · rw [hbv] at CB
        have CM := mul_c Q cq q Y cy y w6 hQ KY KG (by omega) (by omega)
        obtain ⟨u, Eu⟩ : ∃ u, u = q * y := ⟨_, rfl⟩
        have lu : nl u ≤ 16384 := by rw [Eu]; have := nl_mul q y; omega
        have hfin : u % m = a ^ (e / 2 ^ j) % m := by rw [Eu, hs1.out, Ey.out, pm_one]; congr 2; rw [hbit.out, hbv]
        rw [← Eu] at CM
        replace hfin := Lib.hid hfin
        replace CB := Lib.hid CB
        replace CM := Lib.hid CM
        replace hbv := Lib.hid hbv
        replace Eu := Lib.hid Eu
        clear KE KG KY CR
        go_wp2_with (fail)
        refine CB.out.mono ?_
        rintro ee w7 ⟨rfl, hw⟩
        subst hw
        go_wp2_with (fail)
        refine CM.out.mono ?_
        rintro ee w8 ⟨U, cu, rfl, hU, hb8⟩
        have CR := pmrest_c U cu u M cm m _ w8 hU (KM.below hb8) (KB.below hb8) (by omega) (by omega) h0
        obtain ⟨v, Ev⟩ : ∃ v, v = u % m := ⟨_, rfl⟩
        rw [← Ev] at CR hfin
        have lv : nl v ≤ 8192 := by rw [Ev]; exact Nat.le_trans (nl_mod_lt u (by omega)) lm
        replace CR := Lib.hid CR
        replace Ev := Lib.hid Ev
        clear KB KM CM CB
        go_wp2_with (fail)
        refine CR.out.mono ?_
        rintro ee w9 ⟨V, cv, rfl, hV, hb9⟩
        have hbr9 := (hbr6.cons hb8).cons hb9
        go_wp2_with (fail)
        go_roundw
        case rel => exact ⟨j, v, V, cv, rfl, rfl, by omega, hV, hfin, hbr9, lv⟩
        case measure => simp only [intOf]; omega
end Go.Proofs.YthcmoimlnhghcaaDoor

/- Inverses modulo a natural. -/
set_option linter.unusedVariables false
set_option linter.unusedSimpArgs false
namespace Go.Proofs.YthcmoimlnhghcaaDoor
open Go.RowKit Go.Shelf
attribute [local go_sem] max2_i min2_i max_two min_two

attribute [local go_sem] Oper.semAt_some
/-- The inverse. -/
noncomputable def inv (a m : Nat) : Nat := mg (exu a m % (m : Int))
theorem inv_sz {a m L : Nat} (h : nl m ≤ L) (h0 : 0 < m) : nl (inv a m) ≤ L := by
  have h1 := Int.emod_nonneg (exu a m) (show (m : Int) ≠ 0 by omega)
  have h2 := Int.emod_lt_of_pos (exu a m) (show (0 : Int) < m by omega)
  refine Nat.le_trans (nl_mono ?_) h
  unfold inv mg; omega
/-- What a call leaves that tells that there is none. -/
def RetNone (w : World) (e : Ending) (w' : World) : Prop := e = .returned (.tuple #[.slice none 0 0, .int .i64 4]) ∧ Below w.heap.size w w'
theorem inverseNot_c (aA : Option Addr) (ac a : Nat) (mA : Option Addr) (mc m : Nat) (w : World) (ha : NatV w aA ac a) (hm : NatV w mA mc m) (hG : Flds w) (la : nl a ≤ 8192) (lm : nl m ≤ 8192) (h : m = 0 ∨ Nat.gcd a m ≠ 1) :
    Calls Tryd.prog 12 #[.slice aA (nl a) ac, .slice mA (nl m) mc] w (RetNone w) := by
  replace h := Lib.hid h
  go_enter Tryd.func12, Tryd.ntmps12
  go_wp2_with (fail)
  have CX := ext_c aA ac a mA mc m _ ha hm hG la lm
  obtain ⟨g, Eg⟩ : ∃ z : Nat, z = Nat.gcd a m := ⟨_, rfl⟩
  obtain ⟨u, Eu⟩ : ∃ z : Int, z = exu a m := ⟨_, rfl⟩
  obtain ⟨v, Ev⟩ : ∃ z : Int, z = exv a m := ⟨_, rfl⟩
  obtain ⟨lu, lv⟩ := ex_sz (L := 8192) la lm (by decide)
  rw [← Eg, ← Eu, ← Ev] at CX
  rw [← Eu] at lu
  rw [← Ev] at lv
  replace CX := Lib.hid CX
  replace Eg := Lib.hid Eg
  replace Eu := Lib.hid Eu
  replace Ev := Lib.hid Ev
  refine (Calls.mono CX.out ?_)
  rintro e W1 ⟨Xg, cg, Xu, cu, Xv, cv, rfl, hg, hu, hv, hb1⟩
  replace ha := ha.below hb1
  replace hm := hm.below hb1
  replace hG := hG.below hb1
  have HBT := hb1
  clear hb1 CX
  obtain ⟨hb2, Ru, Rv⟩ := bx2 W1 #[.bool (sg u), .slice Xu (nl (mg u)) cu] 31 #[.bool (sg v), .slice Xv (nl (mg v)) cv] 31
  replace ha := ha.below hb2
  replace hm := hm.below hb2
  replace hG := hG.below hb2
  replace hg := hg.below hb2
  replace hu := hu.below hb2
  replace hv := hv.below hb2
  replace HBT := Below.cons HBT hb2
  clear hb2
  have qu0 := Ru.c (i := 0) rfl
  have qu1 := Ru.c (i := 1) rfl
  have qv0 := Rv.c (i := 0) rfl
  have qv1 := Rv.c (i := 1) rfl
  go_wp2_with (fail)
  by_cases lg : nl g ≤ 2
  · skip
    by_cases hm0 : m = 0
    · skip
      have t1 : ((nl m : Int) == 0) = true := ieqT (by rw [hm0, nl_zero]; rfl)
      have t1' : (nl m == 0) = true := by rw [hm0, nl_zero]; rfl
      replace hm0 := Lib.hid hm0
      refine (low_c Xg cg g _ hg lg).mono ?_
      rintro e w9 ⟨rfl, hw⟩
      subst hw
      go_wp2_with (fail)
      refine bodyPost_ret (v := .tuple #[.slice none 0 0, .int .i64 4]) (by simp [results, Tryd.results12, go_sem]) rfl ⟨rfl, HBT⟩
    · skip
      have t1 : ((nl m : Int) == 0) = false := ieqF (by have := nl_pos.2 hm0; omega)
      have t1' : (nl m == 0) = false := by have := nl_pos.2 hm0; simp; omega
      have hg1 : g ≠ 1 := by rw [Eg.out]; exact h.out.resolve_left hm0
      have t2 : ((g : Int) != 1) = true := ineT (by omega)
      have t2' : (g != 1) = true := by simp [hg1]
      replace hm0 := Lib.hid hm0
      replace hg1 := Lib.hid hg1
      refine (low_c Xg cg g _ hg lg).mono ?_
      rintro e w9 ⟨rfl, hw⟩
      subst hw
      go_wp2_with (fail)
      refine bodyPost_ret (v := .tuple #[.slice none 0 0, .int .i64 4]) (by simp [results, Tryd.results12, go_sem]) rfl ⟨rfl, HBT⟩
  · skip
    replace lg : 2 < nl g := by omega
    by_cases hm0 : m = 0
    · skip
      have t1 : ((nl m : Int) == 0) = true := ieqT (by rw [hm0, nl_zero]; rfl)
      have t1' : (nl m == 0) = true := by rw [hm0, nl_zero]; rfl
      replace hm0 := Lib.hid hm0
      refine (lowNot_c Xg cg (nl g) _ lg).mono ?_
      rintro e w9 ⟨rfl, hw⟩
      subst hw
      go_wp2_with (fail)
      refine bodyPost_ret (v := .tuple #[.slice none 0 0, .int .i64 4]) (by simp [results, Tryd.results12, go_sem]) rfl ⟨rfl, HBT⟩
    · skip
      have t1 : ((nl m : Int) == 0) = false := ieqF (by have := nl_pos.2 hm0; omega)
      have t1' : (nl m == 0) = false := by have := nl_pos.2 hm0; simp; omega
      replace hm0 := Lib.hid hm0
      refine (lowNot_c Xg cg (nl g) _ lg).mono ?_
      rintro e w9 ⟨rfl, hw⟩
      subst hw
      go_wp2_with (fail)
      refine bodyPost_ret (v := .tuple #[.slice none 0 0, .int .i64 4]) (by simp [results, Tryd.results12, go_sem]) rfl ⟨rfl, HBT⟩
theorem inverse_c (aA : Option Addr) (ac a : Nat) (mA : Option Addr) (mc m : Nat) (w : World) (ha : NatV w aA ac a) (hm : NatV w mA mc m) (hG : Flds w) (la : nl a ≤ 8192) (lm : nl m ≤ 8192) (h0 : 0 < m) (h1 : Nat.gcd a m = 1) :
    Calls Tryd.prog 12 #[.slice aA (nl a) ac, .slice mA (nl m) mc] w (RetNE w (inv a m)) := by
  have t1 : ((nl m : Int) == 0) = false := ieqF (by have := nl_pos.2 (show m ≠ 0 by omega); omega)
  have t1' : (nl m == 0) = false := by have := nl_pos.2 (show m ≠ 0 by omega); simp; omega
  replace h1 := Lib.hid h1
  go_enter Tryd.func12, Tryd.ntmps12
  go_wp2_with (fail)
  have CX := ext_c aA ac a mA mc m _ ha hm hG la lm
  obtain ⟨g, Eg⟩ : ∃ z : Nat, z = Nat.gcd a m := ⟨_, rfl⟩
  obtain ⟨u, Eu⟩ : ∃ z : Int, z = exu a m := ⟨_, rfl⟩
  obtain ⟨v, Ev⟩ : ∃ z : Int, z = exv a m := ⟨_, rfl⟩
  obtain ⟨lu, lv⟩ := ex_sz (L := 8192) la lm (by decide)
  rw [← Eg, ← Eu, ← Ev] at CX
  rw [← Eu] at lu
  rw [← Ev] at lv
  replace CX := Lib.hid CX
  replace Eg := Lib.hid Eg
  replace Eu := Lib.hid Eu
  replace Ev := Lib.hid Ev
  refine (Calls.mono CX.out ?_)
  rintro e W1 ⟨Xg, cg, Xu, cu, Xv, cv, rfl, hg, hu, hv, hb1⟩
  replace ha := ha.below hb1
  replace hm := hm.below hb1
  replace hG := hG.below hb1
  have HBT := hb1
  clear hb1 CX
  obtain ⟨hb2, Ru, Rv⟩ := bx2 W1 #[.bool (sg u), .slice Xu (nl (mg u)) cu] 31 #[.bool (sg v), .slice Xv (nl (mg v)) cv] 31
  replace ha := ha.below hb2
  replace hm := hm.below hb2
  replace hG := hG.below hb2
  replace hg := hg.below hb2
  replace hu := hu.below hb2
  replace hv := hv.below hb2
  replace HBT := Below.cons HBT hb2
  clear hb2
  have qu0 := Ru.c (i := 0) rfl
  have qu1 := Ru.c (i := 1) rfl
  have qv0 := Rv.c (i := 0) rfl
  have qv1 := Rv.c (i := 1) rfl
  go_wp2_with (fail)
  have hg1 : g = 1 := by rw [Eg.out]; exact h1.out
  have lg : nl g ≤ 2 := by rw [hg1, nl_one]; decide
  have t2 : ((g : Int) != 1) = false := ineF (by omega)
  have t2' : (g != 1) = false := by simp [hg1]
  replace hg1 := Lib.hid hg1
  refine (low_c Xg cg g _ hg lg).mono ?_
  rintro e w9 ⟨rfl, hw⟩
  subst hw
  clear qv0
  clear qv1
  clear Rv
  obtain ⟨n, En⟩ : ∃ z : Int, z = (m : Int) := ⟨_, rfl⟩
  have Nn : nl (mg n) ≤ 8192 := by rw [En, mg_nat]; exact lm
  have n0 : n ≠ 0 := by rw [En]; omega
  have CW := fun (W : World) (h : NatV W mA mc m) => whole_c mA mc m W h (by omega)
  rw [← En] at CW
  obtain ⟨q, Eq⟩ : ∃ z : Int, z = u / n := ⟨_, rfl⟩
  obtain ⟨r, Er⟩ : ∃ z : Int, z = u % n := ⟨_, rfl⟩
  have CD := fun (W : World) (A : Option Addr) (c : Nat) (h1 : NatV W Xu cu (mg u)) (h2 : NatV W A c (mg n)) => idiv_c Xu cu u A c n W h1 h2 (by omega) (by omega) n0
  rw [← Eq, ← Er] at CD
  have hvr : inv a m = mg r := by unfold inv; rw [Er, Eu.out, En]
  replace En := Lib.hid En
  replace CW := Lib.hid CW
  replace Eq := Lib.hid Eq
  replace Er := Lib.hid Er
  replace CD := Lib.hid CD
  replace hvr := Lib.hid hvr
  replace n0 := Lib.hid n0
  go_wp2_with (fail)
  generalize hV0 : ((W1.alloc (.cells #[.bool (sg u), .slice Xu (nl (mg u)) cu] 31)).alloc (.cells #[.bool (sg v), .slice Xv (nl (mg v)) cv] 31)) = V0 at *
  replace hV0 := Lib.hid hV0
  refine wp_region_inv (fun E a' w' => ∃ (u38 u39 u40 u41 u37 u42 u43 u44 u11 u12 u13 : Value),
    a' = { tmps := #[.slice aA (nl a) ac, .slice mA (nl m) mc, undef, undef, .slice none 0 0, .int .i64 0, .slice Xg (nl g) cg, .pointer (some ⟨W1.heap.size, 0, none⟩), .pointer (some ⟨(W1.heap.size + 1), 0, none⟩), .int .u64 (g : Nat), .bool true, u11, u12, u13, .tuple #[.slice Xg (nl g) cg, .agg #[.bool (sg u), .slice Xu (nl (mg u)) cu], .agg #[.bool (sg v), .slice Xv (nl (mg v)) cv]], .slice aA (nl a) ac, .slice mA (nl m) mc, .tuple #[.slice Xg (nl g) cg, .agg #[.bool (sg u), .slice Xu (nl (mg u)) cu], .agg #[.bool (sg v), .slice Xv (nl (mg v)) cv]], .slice Xg (nl g) cg, .agg #[.bool (sg u), .slice Xu (nl (mg u)) cu], .agg #[.bool (sg v), .slice Xv (nl (mg v)) cv], .tuple #[.int .u64 (g : Nat), .bool true], .slice Xg (nl g) cg, .tuple #[.int .u64 (g : Nat), .bool true], .int .u64 (g : Nat), .bool true, .slice mA (nl m) mc, .int .i64 (nl m : Nat), .bool false, .bool false, .bool true, .bool false, .bool false, .bool false, .int .u64 (g : Nat), .bool false, .bool false, u37, u38, u39, u40, u41, u42, u43, u44, undef, undef], defers := [] } ∧
    (E 0 = true → u38 = .agg #[.bool (sg u), .slice Xu (nl (mg u)) cu]) ∧
    (E 1 = true → u39 = .slice mA (nl m) mc) ∧
    (E 2 = true → PI u40 n w') ∧
    (E 3 = true → PII u41 q r w') ∧
    (E 4 = true → PII u37 q r w') ∧
    (E 5 = true → PI u42 q w') ∧
    (E 6 = true → PI u43 r w') ∧
    (E 7 = true → u44 = .int .i64 0) ∧
    (E 8 = true → PB2 31 V0.heap.size u11 w') ∧
    (E 9 = true → PB2 31 V0.heap.size u12 w') ∧
    (E 10 = true → PBI V0.heap.size u11 q w') ∧
    (E 11 = true → PBI V0.heap.size u12 r w') ∧
    (E 12 = true → u13 = .int .i64 0) ∧
    (E 10 = true → E 8 = true) ∧
    (E 11 = true → E 9 = true) ∧
    (E 8 = true → E 9 = true → u11 ≠ u12) ∧
    Below V0.heap.size V0 w') (by kernel_rfl) (by kernel_rfl) ?init ?fin ?step
  case init => exact ⟨_, _, _, _, _, _, _, _, _, _, _, rfl, by simp, by simp, by simp, by simp, by simp, by simp, by simp, by simp, by simp, by simp, by simp, by simp, by simp, by simp, by simp, by simp, (Below.refl _ _).drew⟩
  case step =>
    rintro E a' w' i ⟨u38, u39, u40, u41, u37, u42, u43, u44, u11, u12, u13, rfl, h0, h1, h2, h3, h4, h5, h6, h7, h8, h9, h10, h11, h12, hD10, hD11, hN8_9, hB⟩ hi hEi hdep
    have qu0 := cbl hB qu0
    have qu1 := cbl hB qu1
    obtain rfl | rfl | rfl | rfl | rfl | rfl | rfl | rfl | rfl | rfl | rfl | rfl | rfl : i = 0 ∨ i = 1 ∨ i = 2 ∨ i = 3 ∨ i = 4 ∨ i = 5 ∨ i = 6 ∨ i = 7 ∨ i = 8 ∨ i = 9 ∨ i = 10 ∨ i = 11 ∨ i = 12 := by simp at hi; omega
    · skip
      refine wpOp_step rfl (fun K' hK' => ?_)
      go_simp
      refine hK' _ _ ?_
      exact ⟨_, _, _, _, _, _, _, _, _, _, _, rfl, fun _ => rfl, keepD (by decide) h1, keepD (by decide) h2, keepD (by decide) h3, keepD (by decide) h4, keepD (by decide) h5, keepD (by decide) h6, keepD (by decide) h7, keepD (by decide) h8, keepD (by decide) h9, keepD (by decide) h10, keepD (by decide) h11, keepD (by decide) h12, (fun h => by have := hD10 (by simpa using h); simpa using this), (fun h => by have := hD11 (by simpa using h); simpa using this), (fun h k => hN8_9 (by simpa using h) (by simpa using k)), hB⟩
    · skip
      refine wpOp_step rfl (fun K' hK' => ?_)
      go_simp
      refine hK' _ _ ?_
      exact ⟨_, _, _, _, _, _, _, _, _, _, _, rfl, keepD (by decide) h0, fun _ => rfl, keepD (by decide) h2, keepD (by decide) h3, keepD (by decide) h4, keepD (by decide) h5, keepD (by decide) h6, keepD (by decide) h7, keepD (by decide) h8, keepD (by decide) h9, keepD (by decide) h10, keepD (by decide) h11, keepD (by decide) h12, (fun h => by have := hD10 (by simpa using h); simpa using this), (fun h => by have := hD11 (by simpa using h); simpa using this), (fun h k => hN8_9 (by simpa using h) (by simpa using k)), hB⟩
    · skip
      have d1 := hdep _ rfl ⟨1, .data⟩ (by simp) rfl
      obtain rfl := h1 d1
      refine wpOp_step rfl (fun K' hK' => ?_)
      go_simp
      refine (Calls.mono (CW.out w' (hm.below hB)) ?_)
      rintro e W1 ⟨Xr, cr, rfl, kr, kb⟩
      refine hK' _ _ ?_
      exact ⟨_, _, _, _, _, _, _, _, _, _, _, rfl, keepD (by decide) h0, keepD (by decide) h1, fun _ => ⟨Xr, cr, rfl, kr⟩, keepP (by decide) h3 (fun h => h.below kb), keepP (by decide) h4 (fun h => h.below kb), keepP (by decide) h5 (fun h => h.below kb), keepP (by decide) h6 (fun h => h.below kb), keepD (by decide) h7, keepP (by decide) h8 (fun h => h.below kb), keepP (by decide) h9 (fun h => h.below kb), keepP (by decide) h10 (fun h => h.below kb), keepP (by decide) h11 (fun h => h.below kb), keepD (by decide) h12, (fun h => by have := hD10 (by simpa using h); simpa using this), (fun h => by have := hD11 (by simpa using h); simpa using this), (fun h k => hN8_9 (by simpa using h) (by simpa using k)), Below.cons hB kb⟩
    · skip
      have d0 := hdep _ rfl ⟨0, .data⟩ (by simp) rfl
      obtain rfl := h0 d0
      have d2 := hdep _ rfl ⟨2, .data⟩ (by simp) rfl
      obtain ⟨X_2, c_2, rfl, k_2⟩ := h2 d2
      refine wpOp_step rfl (fun K' hK' => ?_)
      go_simp
      refine (Calls.mono (CD.out w' _ _ (hu.below hB) k_2) ?_)
      rintro e W1 ⟨Xr, cr, Yr, dr, rfl, kr, lr, kb⟩
      refine hK' _ _ ?_
      exact ⟨_, _, _, _, _, _, _, _, _, _, _, rfl, keepD (by decide) h0, keepD (by decide) h1, keepP (by decide) h2 (fun h => h.below kb), fun _ => ⟨Xr, cr, Yr, dr, rfl, kr, lr⟩, keepP (by decide) h4 (fun h => h.below kb), keepP (by decide) h5 (fun h => h.below kb), keepP (by decide) h6 (fun h => h.below kb), keepD (by decide) h7, keepP (by decide) h8 (fun h => h.below kb), keepP (by decide) h9 (fun h => h.below kb), keepP (by decide) h10 (fun h => h.below kb), keepP (by decide) h11 (fun h => h.below kb), keepD (by decide) h12, (fun h => by have := hD10 (by simpa using h); simpa using this), (fun h => by have := hD11 (by simpa using h); simpa using this), (fun h k => hN8_9 (by simpa using h) (by simpa using k)), Below.cons hB kb⟩
    · skip
      have d3 := hdep _ rfl ⟨3, .data⟩ (by simp) rfl
      obtain ⟨X_3, c_3, Y_3, d_3, rfl, k_3, l_3⟩ := h3 d3
      refine wpOp_step rfl (fun K' hK' => ?_)
      go_simp
      refine hK' _ _ ?_
      exact ⟨_, _, _, _, _, _, _, _, _, _, _, rfl, keepD (by decide) h0, keepD (by decide) h1, keepD (by decide) h2, keepD (by decide) h3, fun _ => ⟨X_3, c_3, Y_3, d_3, rfl, k_3, l_3⟩, keepD (by decide) h5, keepD (by decide) h6, keepD (by decide) h7, keepD (by decide) h8, keepD (by decide) h9, keepD (by decide) h10, keepD (by decide) h11, keepD (by decide) h12, (fun h => by have := hD10 (by simpa using h); simpa using this), (fun h => by have := hD11 (by simpa using h); simpa using this), (fun h k => hN8_9 (by simpa using h) (by simpa using k)), hB⟩
    · skip
      have d4 := hdep _ rfl ⟨4, .data⟩ (by simp) rfl
      obtain ⟨X_4, c_4, Y_4, d_4, rfl, k_4, l_4⟩ := h4 d4
      refine wpOp_step rfl (fun K' hK' => ?_)
      go_simp
      refine hK' _ _ ?_
      exact ⟨_, _, _, _, _, _, _, _, _, _, _, rfl, keepD (by decide) h0, keepD (by decide) h1, keepD (by decide) h2, keepD (by decide) h3, keepD (by decide) h4, fun _ => ⟨X_4, c_4, rfl, k_4⟩, keepD (by decide) h6, keepD (by decide) h7, keepD (by decide) h8, keepD (by decide) h9, keepD (by decide) h10, keepD (by decide) h11, keepD (by decide) h12, (fun h => by have := hD10 (by simpa using h); simpa using this), (fun h => by have := hD11 (by simpa using h); simpa using this), (fun h k => hN8_9 (by simpa using h) (by simpa using k)), hB⟩
    · skip
      have d4 := hdep _ rfl ⟨4, .data⟩ (by simp) rfl
      obtain ⟨X_4, c_4, Y_4, d_4, rfl, k_4, l_4⟩ := h4 d4
      refine wpOp_step rfl (fun K' hK' => ?_)
      go_simp
      refine hK' _ _ ?_
      exact ⟨_, _, _, _, _, _, _, _, _, _, _, rfl, keepD (by decide) h0, keepD (by decide) h1, keepD (by decide) h2, keepD (by decide) h3, keepD (by decide) h4, keepD (by decide) h5, fun _ => ⟨Y_4, d_4, rfl, l_4⟩, keepD (by decide) h7, keepD (by decide) h8, keepD (by decide) h9, keepD (by decide) h10, keepD (by decide) h11, keepD (by decide) h12, (fun h => by have := hD10 (by simpa using h); simpa using this), (fun h => by have := hD11 (by simpa using h); simpa using this), (fun h k => hN8_9 (by simpa using h) (by simpa using k)), hB⟩
    · skip
      have d4 := hdep _ rfl ⟨4, .data⟩ (by simp) rfl
      obtain ⟨X_4, c_4, Y_4, d_4, rfl, k_4, l_4⟩ := h4 d4
      refine wpOp_step rfl (fun K' hK' => ?_)
      go_simp
      refine hK' _ _ ?_
      exact ⟨_, _, _, _, _, _, _, _, _, _, _, rfl, keepD (by decide) h0, keepD (by decide) h1, keepD (by decide) h2, keepD (by decide) h3, keepD (by decide) h4, keepD (by decide) h5, keepD (by decide) h6, fun _ => rfl, keepD (by decide) h8, keepD (by decide) h9, keepD (by decide) h10, keepD (by decide) h11, keepD (by decide) h12, (fun h => by have := hD10 (by simpa using h); simpa using this), (fun h => by have := hD11 (by simpa using h); simpa using this), (fun h k => hN8_9 (by simpa using h) (by simpa using k)), hB⟩
    · skip
      have kb : Below w'.heap.size w' (w'.alloc (.cells #[.bool false, .slice none 0 0] 31)) := (Below.refl _ _).alloc (Nat.le_refl _) _
      refine wpOp_step rfl (fun K' hK' => ?_)
      go_simp
      refine hK' _ _ ?_
      exact ⟨_, _, _, _, _, _, _, _, _, _, _, rfl, keepD (by decide) h0, keepD (by decide) h1, keepP (by decide) h2 (fun h => h.below kb), keepP (by decide) h3 (fun h => h.below kb), keepP (by decide) h4 (fun h => h.below kb), keepP (by decide) h5 (fun h => h.below kb), keepP (by decide) h6 (fun h => h.below kb), keepD (by decide) h7, fun _ => ⟨_, _, _, rfl, hB.size, ⟨at_new rfl⟩, notU_bool _, notU_slice _ _ _⟩, keepP (by decide) h9 (fun h => h.below kb), (fun h => by have h2 := hD10 (by simpa using h); rw [hEi] at h2; cases h2), keepP (by decide) h11 (fun h => h.below kb), keepD (by decide) h12, (fun _ => by simp), (fun h => by have := hD11 (by simpa using h); simpa using this), (fun _ h => by obtain ⟨n2, e2, l2⟩ := (h9 (by simpa using h)).lt; rw [e2]; intro e3; simp at e3 <;> omega), Below.cons hB kb⟩
    · skip
      have kb : Below w'.heap.size w' (w'.alloc (.cells #[.bool false, .slice none 0 0] 31)) := (Below.refl _ _).alloc (Nat.le_refl _) _
      refine wpOp_step rfl (fun K' hK' => ?_)
      go_simp
      refine hK' _ _ ?_
      exact ⟨_, _, _, _, _, _, _, _, _, _, _, rfl, keepD (by decide) h0, keepD (by decide) h1, keepP (by decide) h2 (fun h => h.below kb), keepP (by decide) h3 (fun h => h.below kb), keepP (by decide) h4 (fun h => h.below kb), keepP (by decide) h5 (fun h => h.below kb), keepP (by decide) h6 (fun h => h.below kb), keepD (by decide) h7, keepP (by decide) h8 (fun h => h.below kb), fun _ => ⟨_, _, _, rfl, hB.size, ⟨at_new rfl⟩, notU_bool _, notU_slice _ _ _⟩, keepP (by decide) h10 (fun h => h.below kb), (fun h => by have h2 := hD11 (by simpa using h); rw [hEi] at h2; cases h2), keepD (by decide) h12, (fun h => by have := hD10 (by simpa using h); simpa using this), (fun _ => by simp), (fun h _ => by obtain ⟨n2, e2, l2⟩ := (h8 (by simpa using h)).lt; rw [e2]; intro e3; simp at e3 <;> omega), Below.cons hB kb⟩
    · skip
      have d8 := hdep _ rfl ⟨8, .data⟩ (by simp) rfl
      obtain ⟨nb, z0, z1, rfl, hn, hb, nz0, nz1⟩ := h8 d8
      have d5 := hdep _ rfl ⟨5, .data⟩ (by simp) rfl
      obtain ⟨X_5, c_5, rfl, k_5⟩ := h5 d5
      have fz0 := hb.f (i := 0)
      have cz0 := hb.c (i := 0) rfl
      have fz1 := hb.f (i := 1)
      have cz1 := hb.c (i := 1) rfl
      have hp := hb.put2 (notU2 nz0 nz1) (.bool (sg q)) (.slice X_5 (nl (mg q)) c_5)
      have hs := hb.store2 (.bool (sg q)) (.slice X_5 (nl (mg q)) c_5)
      refine wpOp_step rfl (fun K' hK' => ?_)
      go_simp
      refine hK' _ _ ?_
      exact ⟨_, _, _, _, _, _, _, _, _, _, _, rfl, keepD (by decide) h0, keepD (by decide) h1, keepP (by decide) h2 (fun h => h.put hp), keepP (by decide) h3 (fun h => h.put hp), keepP (by decide) h4 (fun h => h.put hp), keepP (by decide) h5 (fun h => h.put hp), keepP (by decide) h6 (fun h => h.put hp), keepD (by decide) h7, (fun _ => ⟨nb, _, _, rfl, hn, hs, notU_bool _, notU_slice _ _ _⟩), keepP' (by decide) h9 (fun e h => h.put hp (fun e3 => hN8_9 d8 (by simpa using e) e3.symm)), fun _ => ⟨nb, X_5, c_5, rfl, hn, hs, hp.nat k_5⟩, keepP' (by decide) h11 (fun e h => h.put hp (fun e3 => hN8_9 d8 (hD11 (by simpa using e)) e3.symm)), keepD (by decide) h12, (fun _ => by simp [d8]), (fun h => by have := hD11 (by simpa using h); simpa using this), (fun h k => hN8_9 (by simpa using h) (by simpa using k)), Below.store2 hB hn⟩
    · skip
      have d9 := hdep _ rfl ⟨9, .data⟩ (by simp) rfl
      obtain ⟨nb, z0, z1, rfl, hn, hb, nz0, nz1⟩ := h9 d9
      have d6 := hdep _ rfl ⟨6, .data⟩ (by simp) rfl
      obtain ⟨X_6, c_6, rfl, k_6⟩ := h6 d6
      have fz0 := hb.f (i := 0)
      have cz0 := hb.c (i := 0) rfl
      have fz1 := hb.f (i := 1)
      have cz1 := hb.c (i := 1) rfl
      have hp := hb.put2 (notU2 nz0 nz1) (.bool (sg r)) (.slice X_6 (nl (mg r)) c_6)
      have hs := hb.store2 (.bool (sg r)) (.slice X_6 (nl (mg r)) c_6)
      refine wpOp_step rfl (fun K' hK' => ?_)
      go_simp
      refine hK' _ _ ?_
      exact ⟨_, _, _, _, _, _, _, _, _, _, _, rfl, keepD (by decide) h0, keepD (by decide) h1, keepP (by decide) h2 (fun h => h.put hp), keepP (by decide) h3 (fun h => h.put hp), keepP (by decide) h4 (fun h => h.put hp), keepP (by decide) h5 (fun h => h.put hp), keepP (by decide) h6 (fun h => h.put hp), keepD (by decide) h7, keepP' (by decide) h8 (fun e h => h.put hp (hN8_9 (by simpa using e) d9)), (fun _ => ⟨nb, _, _, rfl, hn, hs, notU_bool _, notU_slice _ _ _⟩), keepP' (by decide) h10 (fun e h => h.put hp (hN8_9 (hD10 (by simpa using e)) d9)), fun _ => ⟨nb, X_6, c_6, rfl, hn, hs, hp.nat k_6⟩, keepD (by decide) h12, (fun h => by have := hD10 (by simpa using h); simpa using this), (fun _ => by simp [d9]), (fun h k => hN8_9 (by simpa using h) (by simpa using k)), Below.store2 hB hn⟩
    · skip
      have d7 := hdep _ rfl ⟨7, .data⟩ (by simp) rfl
      obtain rfl := h7 d7
      refine wpOp_step rfl (fun K' hK' => ?_)
      go_simp
      refine hK' _ _ ?_
      exact ⟨_, _, _, _, _, _, _, _, _, _, _, rfl, keepD (by decide) h0, keepD (by decide) h1, keepD (by decide) h2, keepD (by decide) h3, keepD (by decide) h4, keepD (by decide) h5, keepD (by decide) h6, keepD (by decide) h7, keepD (by decide) h8, keepD (by decide) h9, keepD (by decide) h10, keepD (by decide) h11, fun _ => rfl, (fun h => by have := hD10 (by simpa using h); simpa using this), (fun h => by have := hD11 (by simpa using h); simpa using this), (fun h k => hN8_9 (by simpa using h) (by simpa using k)), hB⟩
  case fin =>
    rintro E a' w' ⟨u38, u39, u40, u41, u37, u42, u43, u44, u11, u12, u13, rfl, h0, h1, h2, h3, h4, h5, h6, h7, h8, h9, h10, h11, h12, hD10, hD11, hN8_9, hB⟩ hall
    obtain ⟨nbr, Xr, cr, rfl, hnr, Rr, hr⟩ := h11 (hall 11 (by simp))
    replace ha := ha.below hB
    replace hm := hm.below hB
    replace hG := hG.below hB
    replace hg := hg.below hB
    replace hu := hu.below hB
    replace hv := hv.below hB
    replace Ru := Ru.below hB
    replace qu0 := cbl hB qu0
    replace qu1 := cbl hB qu1
    replace HBT := Below.cons HBT hB
    have kvr := hnr
    have qr0 := Rr.c (i := 0) rfl
    have qr1 := Rr.c (i := 1) rfl
    clear hall
    generalize hV1 : w' = V1 at *
    clear hV1
    go_wp2_with (fail)
    refine bodyPost_ret (v := .tuple #[.slice Xr (nl (mg r)) cr, .int .i64 0]) (by simp [results, Tryd.results12, go_sem]) rfl ?_
    rw [hvr.out]
    exact ⟨Xr, cr, rfl, hr, HBT⟩
end Go.Proofs.YthcmoimlnhghcaaDoor

/- Literals in the laws' walks. -/
set_option linter.unusedVariables false
set_option linter.unusedSimpArgs false
namespace Go.Proofs.YthcmoimlnhghcaaDoor
open Go.RowKit Go.Shelf
theorem at_lenR {f : Nat} {x : Value} {B : Option Addr} {d b lb : Nat} {xs : List Value} {w : World} {R : Ending → World → Prop} (hb : nl b = lb) (h : Calls Tryd.prog f (x :: .slice B (nl b) d :: xs).toArray w R) : Calls Tryd.prog f (x :: .slice B lb d :: xs).toArray w R := by
  subst hb; exact h
theorem at_len2 {f : Nat} {A B : Option Addr} {c d a b la lb : Nat} {xs : List Value} {w : World} {R : Ending → World → Prop} (ha : nl a = la) (hb : nl b = lb) (h : Calls Tryd.prog f (.slice A (nl a) c :: .slice B (nl b) d :: xs).toArray w R) : Calls Tryd.prog f (.slice A la c :: .slice B lb d :: xs).toArray w R := by
  subst ha hb; exact h
theorem alloc_sz (W : World) (o : Obj) : (W.alloc o).heap.size = W.heap.size + 1 := Array.size_push _
theorem nat_nil (w : World) : NatV w none 0 0 := ⟨.inl (by simp [vals, limbs_zero]), by rw [nl_zero]; exact Nat.le_refl _, by decide⟩
theorem lim_of {l : List Nat} (h : l.all (fun x => decide (x < 4294967296)) = true) : Lim l := fun x hx => by simpa using List.all_eq_true.1 h x hx
theorem lim_lit {l : List Nat} (h : l.all (fun x => decide (x < 4294967296)) = true) (h2 : (l.getD (l.length - 1) 0 != 0) = true) : limbs (val l) = l := limbs_val (lim_of h) (.inr (bne_iff_ne.1 h2))
theorem nl_lit {l : List Nat} (h : l.all (fun x => decide (x < 4294967296)) = true) (h2 : (l.getD (l.length - 1) 0 != 0) = true) : nl (val l) = l.length := by unfold nl; rw [lim_lit h h2]
theorem rd_lit {l : List Nat} (W : World) (s : Nat) (arr : Array Value) (t : TypeId) (h : W.heap[s]? = some (.cells arr t (0, 0))) (ha : arr.toList = vals l) : Rd W (some ⟨s, 0, none⟩) l := by
  refine .inr ⟨_, rfl, fun i u hu => ?_⟩
  rw [← ha, Array.getElem?_toList] at hu
  unfold World.cell?
  have e : (Addr.add ⟨s, 0, none⟩ i) = ⟨s, i, none⟩ := by simp only [Addr.add]; split <;> simp_all
  rw [e]
  simp [h, hu]
theorem nlit {l : List Nat} (W : World) (s : Nat) (arr : Array Value) (h : W.heap[s]? = some (.cells arr 29 (0, 0))) (ha : arr.toList = vals l) (h1 : l.all (fun x => decide (x < 4294967296)) = true) (h2 : (l.getD (l.length - 1) 0 != 0) = true) (h3 : l.length ≤ maxLen) : NatV W (some ⟨s, 0, none⟩) l.length (val l) :=
  ⟨by rw [lim_lit h1 h2]; exact rd_lit W s arr _ h ha, by rw [nl_lit h1 h2]; exact Nat.le_refl _, h3⟩
theorem same1_t (A : Option Addr) (c a : Nat) (B : Option Addr) (d b : Nat) (w : World) (hA : NatV w A c a) (hB : NatV w B d b) (ha : nl a ≤ 1099511627776) (hb : nl b ≤ 1099511627776) (h : a = b) :
    Calls Tryd.prog 10 #[.slice A (nl a) c, .slice B (nl b) d] w fun e w' => e = .returned (.bool true) ∧ Below w.heap.size w w' := by
  refine (same1_c A c a B d b w hA hB ha hb).mono ?_
  rintro e w1 ⟨rfl, h1⟩
  exact ⟨by rw [decide_eq_true h], h1⟩
end Go.Proofs.YthcmoimlnhghcaaDoor

/- The document's rationals, walked: Made; the laws' own small numbers. -/
set_option linter.unusedVariables false
set_option linter.unusedSimpArgs false
namespace Go.Proofs.YthcmoimlnhghcaaDoor
open Go.RowKit Go.Shelf
attribute [local go_sem] max2_i min2_i max_two min_two

end Go.Proofs.YthcmoimlnhghcaaDoor

/- Rounding in five directions: what the laws say of it. No Go in it. -/
set_option linter.unusedVariables false
set_option linter.unusedSimpArgs false
namespace Go.Proofs.YthcmoimlnhghcaaDoor

theorem dbl (x : Rat) : x + x = 2 * x := by grind
end Go.Proofs.YthcmoimlnhghcaaDoor

/- A rational rounded to a whole number, the document's way. -/
set_option linter.unusedVariables false
set_option linter.unusedSimpArgs false
namespace Go.Proofs.YthcmoimlnhghcaaDoor
open Go.RowKit Go.Shelf
attribute [local go_sem] max2_i min2_i max_two min_two

end Go.Proofs.YthcmoimlnhghcaaDoor

/- A rational, a dyadic number, rounded, the document's way: Cut, Round. -/
set_option linter.unusedVariables false
set_option linter.unusedSimpArgs false
namespace Go.Proofs.YthcmoimlnhghcaaDoor
open Go.RowKit Go.Shelf
attribute [local go_sem] max2_i min2_i max_two min_two

end Go.Proofs.YthcmoimlnhghcaaDoor

/- What the laws of dyadic numbers share: cutting in any direction, sizes, what is alike. -/
set_option linter.unusedVariables false
set_option linter.unusedSimpArgs false
namespace Go.Proofs.YthcmoimlnhghcaaDoor
open Go.RowKit Go.Shelf

/-- How long a dyadic number is, and how far its power lies from 0. -/
structure DB (q : Rat) (l E : Nat) : Prop where
  d : Dyd q
  l : nl (mg (dmn q)) ≤ l
  e : -(E : Int) ≤ dex q ∧ dex q ≤ E
theorem DB.ok {q : Rat} {l E : Nat} (h : DB q l E) (hl : l ≤ 100000) (hE : E ≤ 1000000) : DOk q := ⟨h.d, by have := h.l; omega, by have := h.e; omega⟩
theorem DB.mono {q : Rat} {l E l2 E2 : Nat} (h : DB q l E) (hl : l ≤ l2) (hE : E ≤ E2) : DB q l2 E2 := ⟨h.d, by have := h.l; omega, by have := h.e; omega⟩
def PD (u : Value) (q : Rat) (W : World) : Prop := ∃ X c, u = .agg #[.bool (sg (dmn q)), .slice X (nl (mg (dmn q))) c, .int .i64 (dex q)] ∧ NatV W X c (mg (dmn q))
theorem PD.below {W W' : World} {u : Value} {q : Rat} (h : PD u q W) (hb : Below W.heap.size W W') : PD u q W' := by
  obtain ⟨X, c, h1, h2⟩ := h; exact ⟨X, c, h1, h2.below hb⟩
theorem PD.put {W W' : World} {u : Value} {q : Rat} {k : Nat} (h : PD u q W) (hp : Put W W' k) : PD u q W' := by
  obtain ⟨X, c, h1, h2⟩ := h; exact ⟨X, c, h1, hp.nat h2⟩
theorem zsameT_c (aA : Option Addr) (ac : Nat) (a : Int) (bA : Option Addr) (bc : Nat) (b : Int) (w : World) (ha : NatV w aA ac (mg a)) (hb : NatV w bA bc (mg b)) (la : nl (mg a) ≤ 1073741824) (h : a = b) :
    Calls Tryd.prog 16 #[.agg #[.bool (sg a), .slice aA (nl (mg a)) ac], .agg #[.bool (sg b), .slice bA (nl (mg b)) bc]] w (fun e w' => e = .returned (.bool true) ∧ Below w.heap.size w w') := by
  subst h
  refine (zsame_c aA ac a bA bc a w ha hb la la).mono ?_
  rintro e w1 ⟨rfl, h1⟩
  exact ⟨by rw [decide_eq_true rfl], h1⟩
end Go.Proofs.YthcmoimlnhghcaaDoor
