/- The document's division, bit by bit, walked. -/
import Derived.Test.YtacjfpibilolnaaGreatDoorSC11
import Derived.Stop.RegionWithIn
set_option maxRecDepth 100000
set_option maxHeartbeats 4000000
set_option linter.unusedVariables false
set_option linter.unusedSimpArgs false
namespace Go.Proofs.YtacjfpibilolnaaGreatDoor
open Go.RowKit Go.Shelf
attribute [local go_sem] max2_i min2_i max_two min_two

theorem nat_one (W : World) (s : Nat) (h : W.heap[s]? = some (.cells #[.int .u32 1] 58 (0, 0))) : NatV W (some ⟨s, 0, none⟩) 1 1 := by
  have e : limbs 1 = [1] := by rw [limbs_pos (by decide)]; simp [limbs_zero]
  refine ⟨?_, by rw [nl_one]; exact Nat.le_refl _, by decide⟩
  rw [e]
  refine .inr ⟨_, rfl, fun i u hu => ?_⟩
  rcases i with _ | i
  · unfold World.cell?
    rw [show (Addr.add ⟨s, 0, none⟩ 0) = ⟨s, 0, none⟩ from rfl, h]
    simpa [vals] using hu
  · simp [vals] at hu
theorem own_below {w w' : World} {b n : Nat} {v : Value} {xs : List Value} (h : w.ownsRow b 58 1 v n xs) (hb : Below w.heap.size w w') : w'.ownsRow b 58 1 v n xs := by
  rcases h with ⟨h1, h2 | ⟨g, cap, cur, e, h3, h4, h5⟩⟩
  · exact ⟨h1, .inl h2⟩
  · exact ⟨h1, .inr ⟨g, cap, cur, e, h3, (hb.block g (Array.getElem?_eq_some_iff.1 h4).1).trans h4, h5⟩⟩
/-- A quotient and a rest, without an error. -/
def RetQR (w : World) (q r : Nat) (e : Ending) (w' : World) : Prop := ∃ X cx Y cy, e = .returned (.tuple #[.slice X (nl q) cx, .slice Y (nl r) cy, .int .i64 0]) ∧ NatV w' X cx q ∧ NatV w' Y cy r ∧ Below w.heap.size w w'
theorem bit_div (a k : Nat) : a / 2 ^ k = 2 * (a / 2 ^ (k + 1)) + a / 2 ^ k % 2 := by
  rw [Nat.pow_succ, ← Nat.div_div_eq_div_mul]; omega
/-- One bit of a row of limbs is set, where none stands so low. -/
theorem set_bit {L : List Nat} (hL : Lim L) {Q k n : Nat} (hl : L.length = n) (hv : val L = Q * 2 ^ (k + 1)) (hk : k / 32 < n) :
    gl L (k / 32) + 2 ^ (k % 32) < 4294967296 ∧ val (L.set (k / 32) (gl L (k / 32) + 2 ^ (k % 32))) = (2 * Q + 1) * 2 ^ k := by
  have hs : k % 32 < 32 := Nat.mod_lt _ (by decide)
  have e1 : 2 ^ k = 4294967296 ^ (k / 32) * 2 ^ (k % 32) := by
    rw [← pow32, ← Nat.pow_add]; congr 1; omega
  constructor
  · rw [val_gl hL, hv, Nat.pow_succ, e1]
    have e2 : Q * (4294967296 ^ (k / 32) * 2 ^ (k % 32) * 2) / 4294967296 ^ (k / 32) = 2 ^ (k % 32) * 2 * Q := by
      rw [show Q * (4294967296 ^ (k / 32) * 2 ^ (k % 32) * 2) = 4294967296 ^ (k / 32) * (2 ^ (k % 32) * 2 * Q) by grind]
      exact Nat.mul_div_cancel_left _ (Nat.pow_pos (by decide))
    rw [e2]
    have e3 : (4294967296 : Nat) = 2 ^ (k % 32) * 2 * 2 ^ (31 - k % 32) := by
      rw [← Nat.pow_succ, ← Nat.pow_add]
      rw [show (k % 32).succ + (31 - k % 32) = 32 by omega]
    generalize 2 ^ (k % 32) = p at *
    rw [e3, Nat.mul_mod_mul_left]
    have h1 := Nat.mod_lt Q (Nat.two_pow_pos (31 - k % 32))
    have hp : 0 < p := by
      rcases Nat.eq_zero_or_pos p with h | h
      · subst h; simp at e3
      · exact h
    have h2 := Nat.mul_le_mul_left (p * 2) (Nat.succ_le_of_lt h1)
    rw [Nat.mul_succ] at h2
    omega
  · have h := val_set (k / 32) (gl L (k / 32) + 2 ^ (k % 32)) (by rw [hl]; exact hk)
    rw [← gl_eq, Nat.mul_add, ← e1, hv] at h
    rw [Nat.pow_succ] at h
    generalize 2 ^ k = P at *
    have : Q * (P * 2) + P = (2 * Q + 1) * P := by grind
    omega
theorem NatV.set {W : World} {X : Option Addr} {c n g : Nat} (h : NatV W X c n) (far : ∀ ad, X = some ad → ad.block ≠ g) (j : Nat) (u : Value) : NatV (W.setCell ⟨g, j, none⟩ u) X c n := by
  refine ⟨?_, h.cap, h.cmax⟩
  rcases h.rd with h1 | ⟨ad, rfl, h1⟩
  · exact .inl h1
  · refine .inr ⟨ad, rfl, fun i v hv => ?_⟩
    have h2 := h1 i v hv
    refine (World.cell?_of_block (w := W) (a := ad.add i) ?_).trans h2
    refine Below.heap_setCell W ⟨g, j, none⟩ u _ ?_
    show (Addr.add ad i).block ≠ g
    unfold Addr.add; split <;> exact far ad rfl
theorem own_lt {w : World} {b g n c : Nat} {xs : List Value} (h : w.ownsRow b 58 1 (.slice (some ⟨g, 0, none⟩) n c) n xs) : g < w.heap.size := by
  rcases h.2 with ⟨e, _⟩ | ⟨g', cap, cur, e, _, h4, _⟩
  · simp at e
  · simp only [Value.slice.injEq, Option.some.injEq, Addr.mk.injEq, and_true, true_and] at e
    obtain ⟨rfl, _⟩ := e
    exact (Array.getElem?_eq_some_iff.1 h4).1
theorem rdiv_c (A : Option Addr) (c a : Nat) (B : Option Addr) (d b : Nat) (w : World) (hA : NatV w A c a) (hB : NatV w B d b) (ha : nl a ≤ 16777216) (hb : nl b ≤ 16777216) (hb0 : 0 < b) :
    Calls Tryz.prog 115 #[.slice A (nl a) c, .slice B (nl b) d] w (RetQR w (a / b) (a % b)) := by
  have hn1 : ((nl b : Int) == 0) = false := ieqF (by have := nl_pos.2 (show b ≠ 0 by omega); omega)
  have hmk := mk32 (nl a) (nl a) (by omega) (by omega) (by omega)
  rw [Int.toNat_natCast] at hmk
  have hown0 := ownsMade32 w w.heap.size (nl a) (Nat.le_refl _) (by omega)
  have hb1 : Below w.heap.size w (w.alloc (.cells (madeCells #[.int .u32 0] (nl a)) 58)) := (Below.refl _ _).alloc (Nat.le_refl _) _
  have hb2 : Below w.heap.size w ((w.alloc (.cells (madeCells #[.int .u32 0] (nl a)) 58)).alloc (.cells #[] 58)) := hb1.alloc hb1.size _
  replace hown0 := own_below hown0 ((Below.refl _ _).alloc (Nat.le_refl _) (.cells #[] 58))
  have CB := rbits_c A c a _ (hA.below hb2) (by omega)
  have hbl := bl_le a
  obtain ⟨K, hK⟩ : ∃ K, K = bl a := ⟨_, rfl⟩
  have hK0 : a / 2 ^ K = 0 := by rw [hK]; exact Nat.div_eq_of_lt (bl_lt a)
  rw [← hK] at CB hbl
  replace CB := Lib.hid CB
  replace hK := Lib.hid hK
  replace hK0 := Lib.hid hK0
  go_enter Tryz.func115, Tryz.ntmps115
  go_wp2_with (fail)
  refine CB.out.mono ?_
  rintro e WB ⟨rfl, hbB⟩
  replace hown0 := own_below hown0 hbB
  replace hb2 := Below.cons hb2 hbB
  have hRN : NatV WB (some ⟨w.heap.size + 1, 0, none⟩) 0 0 := ⟨by rw [limbs_zero]; exact Rd.nil, by rw [nl_zero]; exact Nat.le_refl _, by decide⟩
  clear hmk
  go_wp2_with (fail)
  go_loopw [8, 9, 10, 11] (fun v8 v9 v10 v11 wr => ∃ (k r : Nat) (L : List Nat) (R : Option Addr) (cr Q : Nat), v8 = .slice R (nl r) cr ∧ v9 = .int .i64 ((k : Int) - 1) ∧ k ≤ K ∧ NatV wr R cr r ∧ r < b ∧ Below w.heap.size w wr ∧ wr.ownsRow w.heap.size 58 1 (.slice (some ⟨w.heap.size, 0, none⟩) (nl a) (nl a)) (nl a) (vals L) ∧ Hid (L.length = nl a) ∧ Lim L ∧ Hid (val L = Q * 2 ^ k ∧ a / 2 ^ k = Q * b + r) ∧ Fr (w.heap.size + 1) R cr) (fun v8 v9 v10 v11 wr => (intOf v9 + 1).toNat)
  case atStart => exact ⟨K, 0, List.replicate (nl a) 0, some ⟨w.heap.size + 1, 0, none⟩, 0, 0, by rw [nl_zero], rfl, Nat.le_refl _, hRN, hb0, hb2, hown0, Lib.hid (by simp), Lim.replicate _ _ (by decide), Lib.hid ⟨by rw [val_replicate]; simp, by rw [hK0.out]; simp⟩, ⟨fun ad e => by cases e; exact Nat.le_refl _, fun e => by cases e⟩⟩
  case round =>
    obtain ⟨k, r, L, R, cr, Q, rfl, rfl, hk, hR, hrb, hbr, hown, hlen, hlim, hQR, hFr⟩ := hrel
    have hsz := own_lt hown
    cases k with
    | zero =>
      have h1 := hQR.out
      rw [Nat.pow_zero, Nat.mul_one, Nat.div_one] at h1
      have e1 : Q = a / b := by
        rw [h1.2, Nat.mul_comm, Nat.mul_add_div hb0, Nat.div_eq_of_lt hrb]; omega
      have e2 : r = a % b := by rw [h1.2, Nat.mul_comm, Nat.mul_add_mod, Nat.mod_eq_of_lt hrb]
      obtain ⟨X, cx, e, hcx, hcm, hrd⟩ := ownV_rd hown
      cases e
      have CM := rmake_c _ (nl a) (nl a) L wr hlen.out hrd hlim (by omega) (Nat.le_refl _) (fun e => by cases e)
      rw [h1.1, e1] at CM
      have CN := fun (W : World) (hW : NatV W R cr r) => rmake_c R (nl r) cr (limbs r) W rfl hW.rd (lim_limbs r) (by have := nl_mono (Nat.le_of_lt hrb); omega) hW.cap hFr.2
      rw [val_limbs, e2] at CN
      rw [← e2] at CN
      replace CM := Lib.hid CM
      replace CN := Lib.hid CN
      clear h1 e1
      replace e2 := Lib.hid e2
      go_wp2_with (fail)
      refine CM.out.mono ?_
      rintro e w2 ⟨X2, x2, rfl, k1, k2⟩
      go_wp2_with (fail)
      refine (CN.out w2 (hR.below k2)).mono ?_
      rintro e w3 ⟨X3, x3, rfl, k3, k4⟩
      go_wp2_with (fail)
      refine bodyPost_ret (v := .tuple #[.slice X2 (nl (a / b)) x2, .slice X3 (nl r) x3, .int .i64 0]) (by simp [results, Tryz.results115, go_sem]) rfl ?_
      rw [e2.out] at k3 ⊢
      exact ⟨X2, x2, X3, x3, rfl, k1.below k4, k3, (hbr.cons k2).cons k4⟩
    | succ k =>
      rw [show (((k + 1 : Nat) : Int) - 1) = (k : Int) by omega]
      have hA0 := hA.below hbr
      have hB0 := hB.below hbr
      have ho0 := hown
      have hb0' := hbr
      have hrl := nl_mono (Nat.le_of_lt hrb)
      have hk32 : k / 32 < nl a := by omega
      obtain ⟨t, ht⟩ : ∃ t, t = a / 2 ^ k % 2 := ⟨_, rfl⟩
      have ht2 : t = 0 ∨ t = 1 := by omega
      rcases ht2 with ht0 | ht1
      · skip
        have C1 := rshl_f R cr r 1 wr hR (by omega) (by decide)
        obtain ⟨r1, hr1⟩ : ∃ z, z = r * 2 ^ 1 := ⟨_, rfl⟩
        rw [← hr1] at C1
        have hr1l : nl r1 ≤ nl b + 2 := by rw [hr1]; have := nl_shl r 1; omega
        replace C1 := Lib.hid C1
        replace hr1 := Lib.hid hr1
        have htt : ((t : Int) == 1) = false := ieqF (by omega)
        replace ht := Lib.hid ht
        go_wp2_with (fail)
        refine C1.out.mono ?_
        rintro e W1 ⟨X1, c1, rfl, h1, b1, f1⟩
        have zb1 := b1.size
        have hB1 := hB0.below b1
        have hA1 := hA0.below b1
        have ho1 := own_below ho0 b1
        have hb1 := Below.cons hb0' b1
        have C2 := rbit_c A c a k W1 hA1 (by omega) (by omega)
        rw [← ht.out] at C2
        replace C2 := Lib.hid C2
        go_wp2_with (fail)
        refine C2.out.mono ?_
        rintro e w' ⟨rfl, rfl⟩
        have hrr : r1 = 2 * r + t := by rw [hr1.out, ht0]; omega
        have hk1 := bit_div a k
        rw [← ht.out, hQR.out.2] at hk1
        by_cases hge : b ≤ r1
        · have C4 := rsub_f X1 c1 r1 B d b W1 h1 hB1 (by omega) (by omega) hge
          obtain ⟨r3, hr3⟩ : ∃ z, z = r1 - b := ⟨_, rfl⟩
          rw [← hr3] at C4
          replace C4 := Lib.hid C4
          have hr3b : r3 < b := by omega
          have hfin : a / 2 ^ k = (2 * Q + 1) * b + r3 := by rw [hk1, hr3, Nat.add_mul, Nat.mul_add, Nat.mul_assoc]; omega
          obtain ⟨s1, s2⟩ := set_bit hlim hlen.out hQR.out.1 hk32
          obtain ⟨old, hold⟩ : ∃ z, z = gl L (k / 32) := ⟨_, rfl⟩
          rw [← hold] at s1 s2
          obtain ⟨pw', hpw⟩ : ∃ z, z = 2 ^ (k % 32) := ⟨_, rfl⟩
          rw [← hpw] at s1 s2
          obtain ⟨new, hnew⟩ : ∃ z, z = old + pw' := ⟨_, rfl⟩
          rw [← hnew] at s1 s2
          obtain ⟨kq, hkq⟩ : ∃ z, z = k / 32 := ⟨_, rfl⟩
          obtain ⟨ks, hks⟩ : ∃ z, z = k % 32 := ⟨_, rfl⟩
          rw [← hkq] at s2 hold
          rw [← hks] at hpw
          have hksl : ks < 32 := by omega
          have hkql : kq < nl a := by omega
          have kqI : (k : Int) / 32 = (kq : Int) := by omega
          have ksI : (k : Int) % 32 = (ks : Int) := by omega
          have pwI : (2 : Int) ^ ks = (pw' : Int) := by rw [hpw]; simp
          have pwl : pw' ≤ 2147483648 := by rw [hpw]; exact Nat.pow_le_pow_right (by decide) (show ks ≤ 31 by omega)
          have kqT : (k : Int).tdiv 32 = (kq : Int) := by rw [Int.tdiv_eq_ediv_of_nonneg (by omega)]; exact kqI
          have ksT : (k : Int).tmod 32 = (ks : Int) := by rw [Int.tmod_eq_emod_of_nonneg (by omega)]; exact ksI
          have kqW : IntKind.i64.wrap (kq : Int) = (kq : Int) := IntWalk.i64_in _ (by omega)
          have ksW : IntKind.i64.wrap (ks : Int) = (ks : Int) := IntWalk.i64_in _ (by omega)
          have pwW : IntKind.u32.wrap (pw' : Int) = (pw' : Int) := IntWalk.u32_in _ (by omega)
          have nwW : IntKind.u32.wrap (new : Int) = (new : Int) := IntWalk.u32_in _ (by omega)
          have nwO : IntKind.u32.wrap ((old : Int) + (pw' : Int)) = (new : Int) := by rw [show (old : Int) + (pw' : Int) = (new : Int) by omega]; exact nwW
          have nwI : (old : Int) + (pw' : Int) = (new : Int) := by omega
          replace hfin := Lib.hid hfin
          replace s2 := Lib.hid s2
          replace hold := Lib.hid hold
          replace hpw := Lib.hid hpw
          replace hnew := Lib.hid hnew
          replace hkq := Lib.hid hkq
          replace hks := Lib.hid hks
          replace hr3 := Lib.hid hr3
          clear hk1 hrr hge
          go_wp2_with (fail)
          refine C4.out.mono ?_
          rintro e W5 ⟨X5, c5, rfl, h5, b5, f5⟩
          have hB5 := hB1.below b5
          have hA5 := hA1.below b5
          have ho5 := own_below ho1 b5
          have hb5 := Below.cons hb1 b5
          have hcell : W5.drew.cell? ⟨w.heap.size, kq, none⟩ = some (.int .u32 (old : Nat)) := by
            have hz := ho5.cellAt kq (by omega)
            rw [vals_get L kq (by rw [hlen.out]; exact hkql), ← hold.out] at hz
            exact hz
          have hfz : W5.drew.frozen? ⟨w.heap.size, kq, none⟩ = false := ho5.frozenAt kq
          have ho5d := own_below ho5 (Below.refl _ _).drew
          obtain ⟨st1, st2⟩ := ho5d.stored kq (.int .u32 (new : Nat))
          have z5 := b5.size
          go_wp2_with (fail)
          go_region_with (fail)
          all_goals
            go_wp2_with (fail)
            go_roundw
            case rel =>
              refine ⟨k, r3, L.set kq new, X5, c5, 2 * Q + 1, by first | rfl | trivial, by first | rfl | trivial, by omega, ?_, hr3b, ?_, ?_, Lib.hid (by rw [List.length_set]; exact hlen.out), hlim.set _ _ s1, Lib.hid ⟨s2.out, hfin.out⟩, f5.le (by omega)⟩
              · exact (h5.below (Below.refl _ _).drew).set (fun ad e => by have := f5.1 ad e; omega) _ _
              · exact (hb5.drew).setCell (p := ⟨w.heap.size, kq, none⟩) (Nat.le_refl _) _
              · rw [vals_set]; exact st1
            case measure => simp only [intOf]; omega
        · have C4 := rsubNot_c X1 c1 r1 B d b W1 h1 hB1 (by omega) (by omega) (by omega)
          replace C4 := Lib.hid C4
          have hrb : r1 < b := by omega
          have hfin : a / 2 ^ k = 2 * Q * b + r1 := by rw [hk1, hrr, Nat.mul_add, Nat.mul_assoc]; omega
          have hvv : val L = 2 * Q * 2 ^ k := by rw [hQR.out.1, Nat.pow_succ, Nat.mul_comm (2 ^ k) 2, ← Nat.mul_assoc, Nat.mul_comm Q 2]
          replace hfin := Lib.hid hfin
          replace hvv := Lib.hid hvv
          clear hk1 hrr hge
          go_wp2_with (fail)
          refine C4.out.mono ?_
          rintro e w' ⟨rfl, rfl⟩
          go_wp2_with (fail)
          go_roundw
          case rel => exact ⟨k, r1, L, X1, c1, 2 * Q, by first | rfl | trivial, by first | rfl | trivial, by omega, h1, hrb, hb1, ho1, hlen, hlim, Lib.hid ⟨hvv.out, hfin.out⟩, f1.le (by omega)⟩
          case measure => simp only [intOf]; omega
      · skip
        have C1 := rshl_f R cr r 1 wr hR (by omega) (by decide)
        obtain ⟨r1, hr1⟩ : ∃ z, z = r * 2 ^ 1 := ⟨_, rfl⟩
        rw [← hr1] at C1
        have hr1l : nl r1 ≤ nl b + 2 := by rw [hr1]; have := nl_shl r 1; omega
        replace C1 := Lib.hid C1
        replace hr1 := Lib.hid hr1
        have htt : ((t : Int) == 1) = true := ieqT (by omega)
        replace ht := Lib.hid ht
        go_wp2_with (fail)
        refine C1.out.mono ?_
        rintro e W1 ⟨X1, c1, rfl, h1, b1, f1⟩
        have zb1 := b1.size
        have hB1 := hB0.below b1
        have hA1 := hA0.below b1
        have ho1 := own_below ho0 b1
        have hb1 := Below.cons hb0' b1
        have C2 := rbit_c A c a k W1 hA1 (by omega) (by omega)
        rw [← ht.out] at C2
        replace C2 := Lib.hid C2
        go_wp2_with (fail)
        refine C2.out.mono ?_
        rintro e w' ⟨rfl, rfl⟩
        have b2 : Below W1.heap.size W1 (W1.alloc (.cells #[.int .u32 1] 58)) := (Below.refl _ _).alloc (Nat.le_refl _) _
        have h2 := nat_one _ _ (heap_alloc_new W1 (.cells #[.int .u32 1] 58))
        have h1' := h1.below b2
        have zb2 := b2.size
        have hB2 := hB1.below b2
        have hA2 := hA1.below b2
        have ho2 := own_below ho1 b2
        have hb2 := Below.cons hb1 b2
        obtain ⟨r2, hr2⟩ : ∃ z, z = r1 + 1 := ⟨_, rfl⟩
        have hr2l : nl r2 ≤ nl b + 3 := by rw [hr2]; have := nl_add r1 1; rw [nl_one] at this; omega
        have C3 := radd_f X1 c1 r1 _ 1 1 _ h1' h2 (by omega) (by rw [nl_one]; decide)
        rw [← hr2, nl_one] at C3
        replace C3 := Lib.hid C3
        replace hr2 := Lib.hid hr2
        go_wp2_with (fail)
        refine C3.out.mono ?_
        rintro e W3 ⟨X3, c3, rfl, h3, b3, f3⟩
        have zb3 := b3.size
        have hB3 := hB2.below b3
        have hA3 := hA2.below b3
        have ho3 := own_below ho2 b3
        have hb3 := Below.cons hb2 b3
        have hrr : r2 = 2 * r + t := by rw [hr2.out, hr1.out, ht1]; omega
        have hk1 := bit_div a k
        rw [← ht.out, hQR.out.2] at hk1
        by_cases hge : b ≤ r2
        · have C4 := rsub_f X3 c3 r2 B d b W3 h3 hB3 (by omega) (by omega) hge
          obtain ⟨r3, hr3⟩ : ∃ z, z = r2 - b := ⟨_, rfl⟩
          rw [← hr3] at C4
          replace C4 := Lib.hid C4
          have hr3b : r3 < b := by omega
          have hfin : a / 2 ^ k = (2 * Q + 1) * b + r3 := by rw [hk1, hr3, Nat.add_mul, Nat.mul_add, Nat.mul_assoc]; omega
          obtain ⟨s1, s2⟩ := set_bit hlim hlen.out hQR.out.1 hk32
          obtain ⟨old, hold⟩ : ∃ z, z = gl L (k / 32) := ⟨_, rfl⟩
          rw [← hold] at s1 s2
          obtain ⟨pw', hpw⟩ : ∃ z, z = 2 ^ (k % 32) := ⟨_, rfl⟩
          rw [← hpw] at s1 s2
          obtain ⟨new, hnew⟩ : ∃ z, z = old + pw' := ⟨_, rfl⟩
          rw [← hnew] at s1 s2
          obtain ⟨kq, hkq⟩ : ∃ z, z = k / 32 := ⟨_, rfl⟩
          obtain ⟨ks, hks⟩ : ∃ z, z = k % 32 := ⟨_, rfl⟩
          rw [← hkq] at s2 hold
          rw [← hks] at hpw
          have hksl : ks < 32 := by omega
          have hkql : kq < nl a := by omega
          have kqI : (k : Int) / 32 = (kq : Int) := by omega
          have ksI : (k : Int) % 32 = (ks : Int) := by omega
          have pwI : (2 : Int) ^ ks = (pw' : Int) := by rw [hpw]; simp
          have pwl : pw' ≤ 2147483648 := by rw [hpw]; exact Nat.pow_le_pow_right (by decide) (show ks ≤ 31 by omega)
          have kqT : (k : Int).tdiv 32 = (kq : Int) := by rw [Int.tdiv_eq_ediv_of_nonneg (by omega)]; exact kqI
          have ksT : (k : Int).tmod 32 = (ks : Int) := by rw [Int.tmod_eq_emod_of_nonneg (by omega)]; exact ksI
          have kqW : IntKind.i64.wrap (kq : Int) = (kq : Int) := IntWalk.i64_in _ (by omega)
          have ksW : IntKind.i64.wrap (ks : Int) = (ks : Int) := IntWalk.i64_in _ (by omega)
          have pwW : IntKind.u32.wrap (pw' : Int) = (pw' : Int) := IntWalk.u32_in _ (by omega)
          have nwW : IntKind.u32.wrap (new : Int) = (new : Int) := IntWalk.u32_in _ (by omega)
          have nwO : IntKind.u32.wrap ((old : Int) + (pw' : Int)) = (new : Int) := by rw [show (old : Int) + (pw' : Int) = (new : Int) by omega]; exact nwW
          have nwI : (old : Int) + (pw' : Int) = (new : Int) := by omega
          replace hfin := Lib.hid hfin
          replace s2 := Lib.hid s2
          replace hold := Lib.hid hold
          replace hpw := Lib.hid hpw
          replace hnew := Lib.hid hnew
          replace hkq := Lib.hid hkq
          replace hks := Lib.hid hks
          replace hr3 := Lib.hid hr3
          clear hk1 hrr hge
          go_wp2_with (fail)
          refine C4.out.mono ?_
          rintro e W5 ⟨X5, c5, rfl, h5, b5, f5⟩
          have hB5 := hB3.below b5
          have hA5 := hA3.below b5
          have ho5 := own_below ho3 b5
          have hb5 := Below.cons hb3 b5
          have hcell : W5.drew.cell? ⟨w.heap.size, kq, none⟩ = some (.int .u32 (old : Nat)) := by
            have hz := ho5.cellAt kq (by omega)
            rw [vals_get L kq (by rw [hlen.out]; exact hkql), ← hold.out] at hz
            exact hz
          have hfz : W5.drew.frozen? ⟨w.heap.size, kq, none⟩ = false := ho5.frozenAt kq
          have ho5d := own_below ho5 (Below.refl _ _).drew
          obtain ⟨st1, st2⟩ := ho5d.stored kq (.int .u32 (new : Nat))
          have z5 := b5.size
          go_wp2_with (fail)
          go_region_with (fail)
          all_goals
            go_wp2_with (fail)
            go_roundw
            case rel =>
              refine ⟨k, r3, L.set kq new, X5, c5, 2 * Q + 1, by first | rfl | trivial, by first | rfl | trivial, by omega, ?_, hr3b, ?_, ?_, Lib.hid (by rw [List.length_set]; exact hlen.out), hlim.set _ _ s1, Lib.hid ⟨s2.out, hfin.out⟩, f5.le (by omega)⟩
              · exact (h5.below (Below.refl _ _).drew).set (fun ad e => by have := f5.1 ad e; omega) _ _
              · exact (hb5.drew).setCell (p := ⟨w.heap.size, kq, none⟩) (Nat.le_refl _) _
              · rw [vals_set]; exact st1
            case measure => simp only [intOf]; omega
        · have C4 := rsubNot_c X3 c3 r2 B d b W3 h3 hB3 (by omega) (by omega) (by omega)
          replace C4 := Lib.hid C4
          have hrb : r2 < b := by omega
          have hfin : a / 2 ^ k = 2 * Q * b + r2 := by rw [hk1, hrr, Nat.mul_add, Nat.mul_assoc]; omega
          have hvv : val L = 2 * Q * 2 ^ k := by rw [hQR.out.1, Nat.pow_succ, Nat.mul_comm (2 ^ k) 2, ← Nat.mul_assoc, Nat.mul_comm Q 2]
          replace hfin := Lib.hid hfin
          replace hvv := Lib.hid hvv
          clear hk1 hrr hge
          go_wp2_with (fail)
          refine C4.out.mono ?_
          rintro e w' ⟨rfl, rfl⟩
          go_wp2_with (fail)
          go_roundw
          case rel => exact ⟨k, r2, L, X3, c3, 2 * Q, by first | rfl | trivial, by first | rfl | trivial, by omega, h3, hrb, hb3, ho3, hlen, hlim, Lib.hid ⟨hvv.out, hfin.out⟩, f3.le (by omega)⟩
          case measure => simp only [intOf]; omega
end Go.Proofs.YtacjfpibilolnaaGreatDoor

/- The document's Recip, Small, walked. -/
set_option linter.unusedVariables false
set_option linter.unusedSimpArgs false
namespace Go.Proofs.YtacjfpibilolnaaGreatDoor
open Go.RowKit Go.Shelf
attribute [local go_sem] max2_i min2_i max_two min_two

/-- A quotient and a limb. -/
def RetS (w : World) (q r : Nat) (e : Ending) (w' : World) : Prop := ∃ X cx, e = .returned (.tuple #[.slice X (nl q) cx, .int .u32 (r : Nat), .int .i64 0]) ∧ NatV w' X cx q ∧ Below w.heap.size w w'
theorem rd_one (W : World) (s m : Nat) (h : W.heap[s]? = some (.cells #[.int .u32 (m : Nat)] 58 (0, 0))) : Rd W (some ⟨s, 0, none⟩) [m] := by
  refine .inr ⟨_, rfl, fun i u hu => ?_⟩
  rcases i with _ | i
  · unfold World.cell?
    rw [show (Addr.add ⟨s, 0, none⟩ 0) = ⟨s, 0, none⟩ from rfl, h]
    simpa [vals] using hu
  · simp [vals] at hu
end Go.Proofs.YtacjfpibilolnaaGreatDoor
