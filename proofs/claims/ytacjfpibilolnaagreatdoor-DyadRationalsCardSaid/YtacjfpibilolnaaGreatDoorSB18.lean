/- Rows of 64-bit numbers in memory; the transform, walked. -/
import Derived.Test.YtacjfpibilolnaaGreatDoorSB16
import Derived.Test.YtacjfpibilolnaaGreatDoorSB17
import Derived.Test.YtacjfpibilolnaaGreatDoorSB08
set_option maxRecDepth 100000
set_option maxHeartbeats 4000000
set_option linter.unusedVariables false
set_option linter.unusedSimpArgs false
namespace Go.Proofs.YtacjfpibilolnaaGreatDoor
open Go.RowKit Go.Shelf

def v64 (L : List Nat) : List Value := L.map fun n => .int .u64 (n : Nat)
/-- Block b is the row L. -/
def Arr (W : World) (b : Nat) (L : List Nat) : Prop := W.heap[b]? = some (.cells (v64 L).toArray 94 (0, 0))
theorem Arr.cell {W b L} (h : Arr W b L) (i : Nat) (hi : i < L.length) : W.cell? ⟨b, i, none⟩ = some (.int .u64 (gl L i : Nat)) := by
  unfold World.cell?; rw [h]; simp [v64, gl, hi]
theorem Arr.frozen {W b L} (h : Arr W b L) (i : Nat) : W.frozen? ⟨b, i, none⟩ = false := by
  unfold World.frozen?; rw [h]; simp
theorem Arr.store {W b L} (h : Arr W b L) (i x : Nat) : Arr (W.setCell ⟨b, i, none⟩ (.int .u64 (x : Nat))) b (L.set i x) := by
  unfold Arr
  rw [heap_setCell_same W b i _ _ _ h]
  simp [v64, List.map_set]
theorem Arr.keep {W W' b L} (h : Arr W b L) (k : W'.heap[b]? = W.heap[b]?) : Arr W' b L := k.trans h
theorem Arr.lt {W b L} (h : Arr W b L) : b < W.heap.size := (Array.getElem?_eq_some_iff.1 h).1
theorem Arr.below {W W' b L} (h : Arr W b L) (k : Below W.heap.size W W') : Arr W' b L := h.keep (k.block b h.lt)
/-- The worlds part in block b alone, and in new ones. -/
structure Only (b : Nat) (W W' : World) : Prop where
  os : W'.os = W.os
  tape : W'.tape = W.tape
  output : W'.output = W.output
  size : W.heap.size ≤ W'.heap.size
  block : ∀ k, k < W.heap.size → k ≠ b → W'.heap[k]? = W.heap[k]?
theorem Only.refl (b W) : Only b W W := ⟨rfl, rfl, rfl, Nat.le_refl _, fun _ _ _ => rfl⟩
theorem Only.of {b W W'} (h : Below W.heap.size W W') : Only b W W' := ⟨h.os, h.tape, h.output, h.size, fun k hk _ => h.block k hk⟩
theorem Only.trans {b A B C} (h : Only b A B) (k : Only b B C) : Only b A C :=
  ⟨k.os.trans h.os, k.tape.trans h.tape, k.output.trans h.output, Nat.le_trans h.size k.size, fun i hi hb => (k.block i (Nat.lt_of_lt_of_le hi h.size) hb).trans (h.block i hi hb)⟩
theorem Only.cons {b A B C} (h : Only b A B) (k : Below B.heap.size B C) : Only b A C := h.trans (.of k)
theorem Only.drew {b A B} (h : Only b A B) : Only b A B.drew := h.trans (.of (Below.refl _ _).drew)
theorem Only.set (b W i v) : Only b W (W.setCell ⟨b, i, none⟩ v) := by
  have h := (Below.refl b W).setCell (p := ⟨b, i, none⟩) (Nat.le_refl _) v
  exact ⟨h.os, h.tape, h.output, h.size, fun k _ hb => Below.heap_setCell W ⟨b, i, none⟩ v k hb⟩
theorem Only.store {b A B} (h : Only b A B) (i v) : Only b A (B.setCell ⟨b, i, none⟩ v) := h.trans (.set b B i v)
theorem Only.below {b n A B} (h : Only b A B) (hb : n ≤ b) (hn : n ≤ A.heap.size) : Below n A B := ⟨h.os, h.tape, h.output, h.size, fun k hk => h.block k (by omega) (by omega)⟩
theorem Only.arr {b c A B L} (h : Only b A B) (k : Arr A c L) (hc : c ≠ b) : Arr B c L := k.keep (h.block c k.lt hc)
theorem Only.cell {b A B p v} (h : Only b A B) (k : A.cell? p = some v) (hp : p.block ≠ b) : B.cell? p = some v :=
  (World.cell?_of_block (w := A) (a := p) (h.block p.block (World.block_lt_of_cell? A p k) hp)).trans k

theorem rows_lt {T : List Nat} {p i x : Nat} (h : ∀ t, gl T t < p) (hx : x < p) : ∀ t, gl (T.set i x) t < p := fun t => by
  by_cases e : i = t
  · subst e
    by_cases hl : i < T.length
    · rw [gl_set_eq' hl]; exact hx
    · rw [gl_of_le (by simp; omega)]; omega
  · rw [gl_set_ne' e]; exact h t
/-- One butterfly. -/
theorem butter {R : Type} (T : List Nat) (a e u d n fr H : Nat) (φ : Nat → R) (N O : Nat → R) (hl : T.length = n) (ha : a < n) (he : e < n) (hae : e = a + H) (hu : φ u = N a) (hd : φ d = N e)
    (h : ∀ y, y < n → φ (gl T y) = if y < a ∨ fr + H ≤ y ∧ y < a + H then N y else O y) : ∀ y, y < n → fr ≤ a → a < fr + H → φ (gl ((T.set a u).set e d) y) = if y < a + 1 ∨ fr + H ≤ y ∧ y < a + 1 + H then N y else O y := by
  intro y hy hfa hah
  by_cases c1 : y = e
  · have c : y < a + 1 ∨ fr + H ≤ y ∧ y < a + 1 + H := by omega
    rw [if_pos c, c1, gl_set_eq' (by rw [List.length_set, hl]; exact he), hd]
  · rw [gl_set_ne' (by omega)]
    by_cases c2 : y = a
    · have c : y < a + 1 ∨ fr + H ≤ y ∧ y < a + 1 + H := by omega
      rw [if_pos c, c2, gl_set_eq' (by omega), hu]
    · rw [gl_set_ne' (by omega), h y hy]
      by_cases c : y < a ∨ fr + H ≤ y ∧ y < a + H
      · have c' : y < a + 1 ∨ fr + H ≤ y ∧ y < a + 1 + H := by omega
        rw [if_pos c, if_pos c']
      · have c' : ¬ (y < a + 1 ∨ fr + H ≤ y ∧ y < a + 1 + H) := by omega
        rw [if_neg c, if_neg c']

theorem run_c (p b k wv : Nat) [NeZero p] {φ : Nat → Fin p} (L : List Nat) (w : World) (hφ : Hom p φ) (hp : 1 < p) (hp2 : p < 1073741824) (hk : k ≤ 20) (hL : Arr w b L) (hn : L.length = 2 ^ k) (hlt : ∀ i, gl L i < p) (hw : wv < p)
    (hroot : k = 0 ∨ pw (φ wv) (2 ^ (k - 1)) = -1) :
    Calls Tryz.prog 170 #[fld p, .slice (some ⟨b, 0, none⟩) (2 ^ k : Nat) (2 ^ k : Nat), .int .i64 (k : Nat), .int .u64 (wv : Nat)] w fun e w' => e = .returned (.tuple #[]) ∧ Only b w w' ∧
      ∃ L', Arr w' b L' ∧ L'.length = 2 ^ k ∧ (∀ i, gl L' i < p) ∧ ∀ t, t < 2 ^ k → φ (gl L' t) = dft (fun j => φ (gl L j)) (φ wv) (2 ^ k) t := by
  obtain ⟨n, hnk⟩ : ∃ n, n = 2 ^ k := ⟨_, rfl⟩
  have hnb : n ≤ 1048576 := by rw [hnk]; exact Nat.pow_le_pow_right (by decide) (show k ≤ 20 by omega)
  have hn1 : 1 ≤ n := by rw [hnk]; exact Nat.two_pow_pos k
  have hrv : ∀ x, rv k x < n := fun x => by rw [hnk]; exact rv_lt k x
  have hrr : ∀ x, x < n → rv k (rv k x) = x := fun x hx => by rw [hnk] at hx; exact rv_rv k x hx
  have hb0 : Below w.heap.size w (w.alloc (.cells #[.int .u64 (p : Nat)] 155)) := (Below.refl _ _).alloc (Nat.le_refl _) _
  have hc0 : (w.alloc (.cells #[.int .u64 (p : Nat)] 155)).cell? ⟨w.heap.size, 0, none⟩ = some (.int .u64 (p : Nat)) := by
    unfold World.cell?; rw [heap_alloc_new]; rfl
  have hu := Tryz.underlying155
  have hbl := hL.lt
  have hL0 := hL.below hb0
  rw [← hnk] at hn ⊢
  have hbw : b ≠ w.heap.size := by omega
  have hwb : w.heap.size ≠ b := by omega
  have HNK := Lib.hid hnk
  have HRV := Lib.hid hrv
  have HRR := Lib.hid hrr
  have HLN := Lib.hid hn
  have HLT := Lib.hid hlt
  have HROOT := Lib.hid hroot
  have HPHI := Lib.hid hφ
  obtain ⟨F, hF⟩ : ∃ F : Nat → Fin p, F = fun j => φ (gl L j) := ⟨_, rfl⟩
  rw [← hF]
  have HF := Lib.hid hF
  clear hnk hrv hrr hn hlt hroot hφ hF
  unfold fld at *
  go_enter Tryz.func170, Tryz.ntmps170
  go_wp2_with (fail)
  go_loopw [8, 9, 19] (fun vi vj ct wr => ∃ (i : Nat) (M : List Nat), ct = .int .i64 i ∧ i ≤ n ∧ Only b w wr ∧ wr.cell? ⟨w.heap.size, 0, none⟩ = some (.int .u64 (p : Nat)) ∧ Arr wr b M ∧ Hid (M.length = n) ∧ Hid (∀ t, t < n → gl M t = if min t (rv k t) < i then gl L (rv k t) else gl L t)) (fun vi vj ct wr => n - (intOf ct).toNat)
  case atStart => exact ⟨0, L, rfl, Nat.zero_le _, .of hb0, hc0, hL0, HLN, Lib.hid (fun t _ => by simp)⟩
  case round =>
    obtain ⟨i, M, rfl, hi, ho, hc, hM, hlen, hval⟩ := hrel
    by_cases hin : i < n
    · obtain ⟨h, hh⟩ : ∃ h, h = 64 - k := ⟨_, rfl⟩
      have hhI : (64 : Int) - (k : Int) = (h : Int) := by omega
      obtain ⟨j, hj⟩ : ∃ j, j = rv k i := ⟨_, rfl⟩
      have hjn : j < n := by rw [hj]; exact HRV.out i
      have hrb : rv 64 i < 18446744073709551616 := rv_lt 64 i
      obtain ⟨r, hr⟩ : ∃ r, r = rv 64 i := ⟨_, rfl⟩
      have hs : ((r : Int) / 2 ^ h) = (j : Int) := by
        have := rv_shift k i (by omega)
        rw [← hj, ← hr, ← hh] at this
        rw [← this]; simp
      have CR := reverse64_c i wr (by omega)
      rw [← hr] at CR hrb
      have HJ := Lib.hid hj
      have HR := Lib.hid hr
      have HH := Lib.hid hh
      have CRH := Lib.hid CR
      have hh64 : 44 ≤ h ∧ h ≤ 64 := by omega
      clear hj hr hh CR
      go_wp2_with (fail)
      refine CRH.out.mono ?_
      rintro e w2 ⟨rfl, rfl⟩
      by_cases hk0 : 0 < k
      · by_cases hij : i < j
        · have c1 := hM.cell i (by rw [hlen.out]; omega)
          have c2 := hM.cell j (by rw [hlen.out]; omega)
          have f1 := hM.frozen i
          have f2 := hM.frozen j
          have hij2 : i ≠ j := by omega
          go_wp2_with (fail)
          go_big_region
          go_wp2_with (fail)
          go_roundw
          case rel =>
            refine ⟨i + 1, (M.set i (gl M j)).set j (gl M i), by go_num, by omega, ((ho.store _ _).store _ _).drew, ?_, ?_, Lib.hid (by simp [hlen.out]), Lib.hid (swap_yes n k i j M L HRV.out HRR.out hlen.out hin HJ.out hij hval.out)⟩
            · have h1 := (Only.set b w2 i (.int .u64 (gl M j : Nat))).cell hc hwb
              exact (Only.set b _ j _).cell h1 hwb
            · exact (hM.store i _).store j _
          case measure => simp only [intOf]; omega
        · go_wp2_with (fail)
          go_roundw
          case rel => exact ⟨i + 1, M, by go_num, by omega, ho, hc, hM, hlen, Lib.hid (swap_no n k i j M L HRR.out hin HJ.out hij hval.out)⟩
          case measure => simp only [intOf]; omega
      · have hij : ¬ i < j := by
          have h1 : n = 1 := by rw [HNK.out, show k = 0 by omega]
          omega
        go_wp2_with (fail)
        go_roundw
        case rel => exact ⟨i + 1, M, by go_num, by omega, ho, hc, hM, hlen, Lib.hid (swap_no n k i j M L HRR.out hin HJ.out hij hval.out)⟩
        case measure => simp only [intOf]; omega
    · obtain rfl : i = n := by omega
      have hlt0 : ∀ t, gl M t < p := fun t => by
        by_cases ht : t < i
        · rw [hval.out t ht]; split <;> exact HLT.out _
        · rw [gl_of_le (by rw [hlen.out]; omega)]; omega
      have hst0 : ∀ t, t < i → φ (gl M t) = stg F (φ wv) k 0 t := fun t ht => by
        rw [hval.out t ht, if_pos (Nat.lt_of_le_of_lt (Nat.min_le_left _ _) ht), stg_start, HF.out]
      have HLT0 := Lib.hid hlt0
      have HST0 := Lib.hid hst0
      clear hlt0 hst0
      obtain ⟨wo, rfl⟩ : ∃ wo : World, wo = wr := ⟨_, rfl⟩
      go_wp2_with (fail)
      go_loopw [10, 11, 12, 13, 14, 15, 16] (fun vh v11 v12 v13 v14 v15 v16 wr => ∃ (s H : Nat) (M : List Nat), vh = .int .i64 H ∧ s ≤ k ∧ Hid (H = 2 ^ s) ∧ 1 ≤ H ∧ H ≤ i ∧ Only b w wr ∧ wr.cell? ⟨w.heap.size, 0, none⟩ = some (.int .u64 (p : Nat)) ∧ Arr wr b M ∧ Hid (M.length = i) ∧ Hid (∀ t, gl M t < p) ∧ Hid (∀ t, t < i → φ (gl M t) = stg F (φ wv) (k - s) s t)) (fun vh v11 v12 v13 v14 v15 v16 wr => 2 * i - (intOf vh).toNat)
      case atStart => exact ⟨0, 1, M, rfl, Nat.zero_le _, Lib.hid rfl, Nat.le_refl _, hn1, ho, hc, hM, hlen, HLT0, HST0⟩
      case round =>
        obtain ⟨s, H, M, rfl, hsk, hH, hH1, hHn, ho, hc, hM, hlen, hMp, hst⟩ := hrel
        by_cases hHlt : H < i
        · obtain ⟨K, hK⟩ : ∃ K, k = K + 1 + s := ⟨k - s - 1, by
            have h1 := hH.out
            have h2 : s ≠ k := fun e => by rw [e, ← HNK.out] at h1; omega
            omega⟩
          obtain ⟨q, hq⟩ : ∃ q, q = 2 ^ K := ⟨_, rfl⟩
          have hiq : i = 2 * H * q := by rw [HNK.out, hH.out, hq, hK, Nat.pow_add, Nat.pow_succ]; grind
          have hqI : (i : Int) / (2 * (H : Int)) = (q : Int) := by
            have : i / (2 * H) = q := by rw [hiq]; exact Nat.mul_div_cancel_left _ (by omega)
            rw [← this]; simp
          have hqn : q ≤ i := by rw [hiq]; exact Nat.le_mul_of_pos_left _ (by omega)
          have hH0 : ((2 * (H : Int)) == 0) = false := ieqF (by omega)
          have hHp : ¬ 2 * (H : Int) = 0 := by omega
          have z5 : IntKind.i64.wrap (q : Int) = (q : Int) := IntWalk.i64_in _ (by omega)
          obtain ⟨st, hst2⟩ : ∃ st, st = wv ^ q % p := ⟨_, rfl⟩
          have hstp : st < p := by rw [hst2]; exact Nat.mod_lt _ (by omega)
          have hstφ : φ st = pw (φ wv) (2 ^ K) := by rw [hst2, HPHI.out.modp, HPHI.out.pow, hq]
          have HSTP := Lib.hid hstφ
          have CP := fun (W : World) => fpow_c p wv q W hp (by omega) (by omega) (by omega)
          rw [← hst2] at CP
          have hm1 : pw (φ wv) (2 ^ (K + s)) = -1 := by
            rcases HROOT.out with h | h
            · omega
            · rwa [show k - 1 = K + s by omega] at h
          have HM1 := Lib.hid hm1
          have HKK := Lib.hid hK
          have HQ := Lib.hid hq
          have HIQ := Lib.hid hiq
          have HST2 := Lib.hid hst2
          have CPH := Lib.hid CP
          clear hm1 hK hq hst2 hstφ CP
          unfold fld at CPH
          have hod := ho.drew
          have hcd : wr.drew.cell? ⟨w.heap.size, 0, none⟩ = some (.int .u64 (p : Nat)) := hc
          have z1 : IntKind.i64.wrap (2 * (H : Int)) = 2 * (H : Int) := IntWalk.i64_in _ (by omega)
          have z2 : IntKind.u64.wrap (q : Int) = (q : Int) := IntWalk.u64_in _ (by omega)
          clear hiq
          go_wp2_with (fail)
          go_region_held3 (fun W => W.cell? ⟨w.heap.size, 0, none⟩ = some (.int .u64 (p : Nat)))
            (first
              | exact hcd
              | exact hcd2
              | go_keep)
            (first
              | (go_at_call 171; (with_reducible refine (CPH.out _).mono ?_); rintro e w3 ⟨rfl, hb3⟩; have hcd2 := cbl hb3 hcd; have hod2 := hod.cons hb3))
          go_wp2_with (fail)
          have hMd : Arr w3 b M := (show Arr wr.drew b M from hM).below hb3
          obtain ⟨wo, rfl⟩ : ∃ wo : World, wo = w3 := ⟨_, rfl⟩
          go_loopw [12, 13, 14, 15, 16] (fun v12 v13 v14 v15 v16 wr => ∃ (m fr : Nat) (N : List Nat), v12 = .int .i64 fr ∧ m ≤ q ∧ Hid (fr = m * (2 * H)) ∧ fr ≤ i ∧ Only b w wr ∧ wr.cell? ⟨w.heap.size, 0, none⟩ = some (.int .u64 (p : Nat)) ∧ Arr wr b N ∧ Hid (N.length = i) ∧ Hid (∀ t, gl N t < p) ∧ Hid (∀ t, t < i → φ (gl N t) = if t < fr then stg F (φ wv) K (s + 1) t else stg F (φ wv) (K + 1) s t)) (fun v12 v13 v14 v15 v16 wr => i - (intOf v12).toNat)
          case atStart => exact ⟨0, 0, M, rfl, Nat.zero_le _, Lib.hid (by simp), Nat.zero_le _, hod2, hcd2, hMd, hlen, hMp, Lib.hid (fun t ht => by rw [if_neg (by omega), hst.out t ht, HKK.out, Nat.add_sub_cancel])⟩
          case round =>
            obtain ⟨m, fr, N, rfl, hmq, hfr, hfi, ho, hc, hN, hNl, hNp, hNv⟩ := hrel
            by_cases hlt : fr < i
            · have hmq2 : m < q := by
                rcases Nat.lt_or_ge m q with h | h
                · exact h
                · have h1 : i ≤ m * (2 * H) := by rw [HIQ.out, Nat.mul_comm]; exact Nat.mul_le_mul_right _ h
                  have h2 := hfr.out
                  omega
              have hfH : fr + 2 * H ≤ i := by
                have h1 := hfr.out
                have h2 : (m + 1) * (2 * H) ≤ q * (2 * H) := Nat.mul_le_mul_right _ hmq2
                have h3 : q * (2 * H) = i := by rw [HIQ.out, Nat.mul_comm]
                rw [Nat.add_mul, Nat.one_mul] at h2
                omega
              obtain ⟨wo, rfl⟩ : ∃ wo : World, wo = wr := ⟨_, rfl⟩
              go_wp2_with (fail)
              go_loopw [13, 14, 15, 16] (fun v13 v14 v15 v16 wr => ∃ (t at' x : Nat) (T : List Nat), v14 = .int .i64 at' ∧ at' = fr + t ∧ v13 = .int .u64 x ∧ x < p ∧ t ≤ H ∧ Hid (φ x = pw (φ wv) (2 ^ K * t)) ∧ Only b w wr ∧ wr.cell? ⟨w.heap.size, 0, none⟩ = some (.int .u64 (p : Nat)) ∧ Arr wr b T ∧ Hid (T.length = i) ∧ Hid (∀ t, gl T t < p) ∧ Hid (∀ y, y < i → φ (gl T y) = if y < at' ∨ fr + H ≤ y ∧ y < at' + H then stg F (φ wv) K (s + 1) y else stg F (φ wv) (K + 1) s y)) (fun v13 v14 v15 v16 wr => fr + H - (intOf v14).toNat)
              case atStart => exact ⟨0, fr, 1, N, rfl, rfl, rfl, hp, Nat.zero_le _, Lib.hid (by rw [HPHI.out.one]; rfl), ho, hc, hN, hNl, hNp, Lib.hid (fun y hy => by
                rw [hNv.out y hy]
                by_cases c : y < fr
                · rw [if_pos c, if_pos (.inl c)]
                · rw [if_neg c, if_neg (by omega)])⟩
              case round =>
                obtain ⟨t, at', x, T, rfl, hat, rfl, hx, htH, hxv, ho, hc, hT, hTl, hTp, hTv⟩ := hrel
                by_cases hlt2 : t < H
                · obtain ⟨e2, he2⟩ : ∃ e2, e2 = at' + H := ⟨_, rfl⟩
                  have heI : (at' : Int) + (H : Int) = (e2 : Int) := by omega
                  have hai : at' < i := by omega
                  have hei : e2 < i := by omega
                  have hc1 := hT.cell at' (by rw [hTl.out]; exact hai)
                  have hc2 := hT.cell e2 (by rw [hTl.out]; exact hei)
                  have ha := hTp.out at'
                  have hb := hTp.out e2
                  have hTva := hTv.out at' hai
                  have hTvb := hTv.out e2 hei
                  have n1 : ¬ (at' < at' ∨ fr + H ≤ at' ∧ at' < at' + H) := by omega
                  have n2 : ¬ (e2 < at' ∨ fr + H ≤ e2 ∧ e2 < at' + H) := by omega
                  rw [if_neg n1] at hTva
                  rw [if_neg n2] at hTvb
                  clear n1 n2
                  obtain ⟨a, hae⟩ : ∃ a, a = gl T at' := ⟨_, rfl⟩
                  obtain ⟨y, hye⟩ : ∃ y, y = gl T e2 := ⟨_, rfl⟩
                  rw [← hae] at hc1 ha hTva
                  rw [← hye] at hc2 hb hTvb
                  obtain ⟨bb, hbb⟩ : ∃ bb, bb = y * x % p := ⟨_, rfl⟩
                  have hbbp : bb < p := by rw [hbb]; exact Nat.mod_lt _ (by omega)
                  have hbbφ : φ bb = φ x * φ y := by rw [hbb, HPHI.out.modp, HPHI.out.mul]; exact Fin.mul_comm _ _
                  obtain ⟨dd, hdd⟩ : ∃ dd, dd = (a + p - bb) % p := ⟨_, rfl⟩
                  have hddp : dd < p := by rw [hdd]; exact Nat.mod_lt _ (by omega)
                  have hddφ : φ dd = φ a - φ bb := by rw [hdd]; exact HPHI.out.sub (by omega)
                  obtain ⟨uu, huu⟩ : ∃ uu, uu = (a + bb) % p := ⟨_, rfl⟩
                  have huup : uu < p := by rw [huu]; exact Nat.mod_lt _ (by omega)
                  have huuφ : φ uu = φ a + φ bb := by rw [huu, HPHI.out.modp, HPHI.out.add]
                  have huI : (((a : Int) + (bb : Int)) % (p : Int)) = (uu : Int) := by rw [huu]; simp
                  obtain ⟨xx, hxx⟩ : ∃ xx, xx = x * st % p := ⟨_, rfl⟩
                  have hxxp : xx < p := by rw [hxx]; exact Nat.mod_lt _ (by omega)
                  have hxxφ : φ xx = pw (φ wv) (2 ^ K * (t + 1)) := by rw [hxx, HPHI.out.modp, HPHI.out.mul, hxv.out, HSTP.out, ← pw_add]; congr 1
                  have hboth := stg_both F (φ wv) K s m t H 0 hH.out hlt2 (φ x) hxv.out HM1.out
                  rw [← hfr.out, ← hat, ← he2, ← hTva, ← hTvb] at hboth
                  have hnew1 : φ uu = stg F (φ wv) K (s + 1) at' := by rw [hboth.1, huuφ, hbbφ]
                  have hnew2 : φ dd = stg F (φ wv) K (s + 1) e2 := by rw [hboth.2, hddφ, hbbφ]
                  have HN1 := Lib.hid hnew1
                  have HN2 := Lib.hid hnew2
                  have HXX := Lib.hid hxxφ
                  have CM := fun (W : World) => fmul_c p y x W (by omega) (by omega) (by omega) (by omega)
                  have CS := fun (W : World) => fsub_c p a bb W (by omega) (by omega) ha hbbp
                  have CX := fun (W : World) => fmul_c p x st W (by omega) (by omega) (by omega) (by omega)
                  rw [← hbb] at CM
                  rw [← hdd] at CS
                  rw [← hxx] at CX
                  unfold fld at CM CS CX
                  have CMH := Lib.hid CM
                  have CSH := Lib.hid CS
                  have CXH := Lib.hid CX
                  have hp0 : ((p : Int) == 0) = false := ieqF (by omega)
                  have hpp : ¬ (p : Int) = 0 := by omega
                  have hpn : ¬ p = 0 := by omega
                  have z1' : IntKind.i64.wrap (e2 : Int) = (e2 : Int) := IntWalk.i64_in _ (by omega)
                  have z3 : IntKind.u64.wrap ((a : Int) + (bb : Int)) = (a : Int) + (bb : Int) := IntWalk.u64_in _ (by omega)
                  have z4 : IntKind.u64.wrap (uu : Int) = (uu : Int) := IntWalk.u64_in _ (by omega)
                  have hlt3 : at' < fr + H := by omega
                  have HAT := Lib.hid hat
                  have HE2 := Lib.hid he2
                  have hb1 := Below.refl wr.heap.size wr
                  have hd1 := hb1.drew
                  have hcd := cbl hd1 hc
                  have hc1d := cbl hd1 hc1
                  have hc2d := cbl hd1 hc2
                  clear hTva hTvb hae hye hbb hbbφ hdd hddφ huu huuφ hxx hxxφ hboth hnew1 hnew2 CM CS CX hat he2
                  go_wp2_with (fail)
                  go_region_held3 (fun W => W.cell? ⟨w.heap.size, 0, none⟩ = some (.int .u64 (p : Nat)) ∧ W.cell? ⟨b, at', none⟩ = some (.int .u64 (a : Nat)) ∧ W.cell? ⟨b, e2, none⟩ = some (.int .u64 (y : Nat)))
                    (first
                      | exact ⟨hcd, hc1d, hc2d⟩
                      | exact ⟨hce, hc1e, hc2e⟩
                      | go_keep)
                    (first
                      | (go_at_call 162; (with_reducible refine (CMH.out _).mono ?_); rintro e W4 ⟨rfl, hb4⟩; have hbE := (hb1.drew).cons hb4; have hce := cbl hb4 hcd; have hc1e := cbl hb4 hc1d; have hc2e := cbl hb4 hc2d))
                  have hT4 : Arr W4 b T := (show Arr wr.drew b T from hT).below hb4
                  have hd5 := (Below.refl W4.heap.size W4).drew
                  have hcg := cbl hd5 hce
                  have hc1g := cbl hd5 hc1e
                  have hc2g := cbl hd5 hc2e
                  have hT5 : Arr W4.drew b T := hT4
                  have heI' : IntKind.i64.wrap ((at' : Int) + (H : Int)) = (e2 : Int) := by rw [heI]; exact z1'
                  go_wp2_with (fail)
                  go_region_held3 (fun W => W.cell? ⟨w.heap.size, 0, none⟩ = some (.int .u64 (p : Nat)))
                    (first
                      | exact hcg
                      | exact hcf
                      | exact (Only.set b W5 at' _).cell hcf hwb
                      | exact (Only.set b _ e2 _).cell ((Only.set b W5 at' _).cell hcf hwb) hwb
                      | go_keep)
                    (first
                      | (go_at_call 163; (with_reducible refine (CSH.out _).mono ?_); rintro e W5 ⟨rfl, hb5⟩; have hcf := cbl hb5 hcg; have hc1f := cbl hb5 hc1g; have hc2f := cbl hb5 hc2g; have hT6 := hT5.below hb5; have fz1 := hT6.frozen at'; have fz2 := hT6.frozen e2; have hbF := (hbE.drew).cons hb5))
                  go_wp2_with (fail)
                  all_goals
                    refine (CXH.out _).mono ?_
                    rintro e W6 ⟨rfl, hb6⟩
                    go_wp2_with (fail)
                    go_roundw
                    case rel =>
                      have hoS : Only b w ((W5.setCell ⟨b, at', none⟩ (.int .u64 (uu : Nat))).setCell ⟨b, e2, none⟩ (.int .u64 (dd : Nat))) := ((ho.cons hbF).store _ _).store _ _
                      have hTS : Arr ((W5.setCell ⟨b, at', none⟩ (.int .u64 (uu : Nat))).setCell ⟨b, e2, none⟩ (.int .u64 (dd : Nat))) b ((T.set at' uu).set e2 dd) := (hT6.store at' uu).store e2 dd
                      have hcS := (Only.set b (W5.setCell ⟨b, at', none⟩ (.int .u64 (uu : Nat))) e2 (.int .u64 (dd : Nat))).cell ((Only.set b W5 at' (.int .u64 (uu : Nat))).cell hcf hwb) hwb
                      refine ⟨t + 1, at' + 1, xx, (T.set at' uu).set e2 dd, by go_num, by rw [HAT.out, Nat.add_assoc], rfl, hxxp, hlt2, HXX, hoS.cons hb6, cell_below hb6 hcS, hTS.below hb6, Lib.hid (by simp [hTl.out]), Lib.hid ?_, Lib.hid ?_⟩
                      · exact fun z => rows_lt (rows_lt hTp.out huup) hddp z
                      · have hne : at' ≠ e2 := by have := HE2.out; omega
                        refine fun z hz => butter T at' e2 uu dd i fr H (fun v => φ v) (stg F (φ wv) K (s + 1)) (stg F (φ wv) (K + 1) s) hTl.out hai hei HE2.out HN1.out HN2.out hTv.out z hz (by have := HAT.out; omega) hlt3
                    case measure => simp only [intOf]; omega
                · obtain rfl : t = H := by omega
                  have hge : ¬ at' < fr + t := by omega
                  have hHAT := Lib.hid hat
                  have hz1 : IntKind.i64.wrap ((fr : Int) + 2 * (t : Int)) = (fr : Int) + 2 * (t : Int) := IntWalk.i64_in _ (by omega)
                  go_wp2_with (fail)
                  go_roundw
                  case rel =>
                    refine ⟨m + 1, fr + 2 * t, T, by go_num, hmq2, Lib.hid (by rw [hfr.out, Nat.add_mul, Nat.one_mul]), hfH, ho, hc, hT, hTl, hTp, Lib.hid (fun y hy => ?_)⟩
                    rw [hTv.out y hy]
                    by_cases c : y < fr + 2 * t
                    · rw [if_pos c, if_pos (by have := hHAT.out; omega)]
                    · rw [if_neg c, if_neg (by have := hHAT.out; omega)]
                  case measure => simp only [intOf]; omega
            · have hfri : fr = i := by omega
              have hltF : (decide ((fr : Int) < (i : Int))) = false := by simp; omega
              replace hfri := Lib.hid hfri
              clear hqI z1 z2 hqn hfi hH0
              have hH2 : IntKind.i64.wrap ((H : Int) * 2) = (H : Int) * 2 := IntWalk.i64_in _ (by omega)
              set_option maxRecDepth 20000 in
              go_wp2_with (fail)
              go_roundw
              case rel =>
                refine ⟨s + 1, 2 * H, N, by go_num, by have := HKK.out; omega, Lib.hid (by rw [hH.out, Nat.pow_succ, Nat.mul_comm]), by omega, ?_, ho, hc, hN, hNl, hNp, Lib.hid (fun y hy => ?_)⟩
                · have hq1 : 1 ≤ q := by rw [HQ.out]; exact Nat.two_pow_pos K
                  rw [HIQ.out]; exact Nat.le_mul_of_pos_right _ hq1
                · rw [hNv.out y hy, if_pos (by have := hfri.out; omega), show k - (s + 1) = K by have := HKK.out; omega]
              case measure => simp only [intOf]; omega
        · obtain rfl : H = i := by omega
          have hsk2 : s = k := by
            have h1 := hH.out
            rw [HNK.out] at h1
            exact (Nat.pow_right_inj (by decide)).1 h1.symm
          go_wp2_with (fail)
          refine bodyPost_end (v := .tuple #[]) (by simp [results, Tryz.results170, go_sem]) rfl ?_
          refine ⟨rfl, ho, M, hM, hlen.out, hMp.out, fun t ht => ?_⟩
          rw [hst.out t ht, hsk2, Nat.sub_self, hH.out, hsk2]
          rw [hH.out, hsk2] at ht
          exact stg_end F _ k t ht
end Go.Proofs.YtacjfpibilolnaaGreatDoor
