/- The sums of products modulo one prime: the walk. -/
import Derived.Test.YtacjfpibilolnaaGreatDoorSB36
set_option maxRecDepth 100000
set_option maxHeartbeats 4000000
set_option linter.unusedVariables false
set_option linter.unusedSimpArgs false
namespace Go.Proofs.YtacjfpibilolnaaGreatDoor
open Go.RowKit Go.Shelf

theorem arr_made (W : World) (n : Nat) : Arr (W.alloc (.cells (v64 (List.replicate n 0)).toArray 94)) W.heap.size (List.replicate n 0) := by
  unfold Arr; rw [heap_alloc_new]
theorem gl_rep (n i : Nat) : gl (List.replicate n 0) i = 0 := by
  simp [gl, List.getElem?_replicate]; split <;> rfl

theorem step_set {L : List Nat} {i n z : Nat} (N O : Nat → Nat) (hi : i < n) (hl : L.length = n) (hz : z = N i) (h : ∀ t, gl L t = if t < i then N t else O t) (t : Nat) : gl (L.set i z) t = if t < i + 1 then N t else O t := by
  by_cases e : t = i
  · have c : t < i + 1 := by omega
    rw [if_pos c, e, gl_set_eq' (by omega), hz]
  · rw [gl_set_ne' (by omega), h t]
    by_cases c : t < i
    · rw [if_pos c, if_pos (by omega)]
    · rw [if_neg c, if_neg (by omega)]

theorem around_c (p k : Nat) (A : Option Addr) (ca a : Nat) (B : Option Addr) (cb b : Nat) (w : World) (hP : Prm p) (hk : k ≤ 20) (hA : NatV w A ca a) (hB : NatV w B cb b) (hb : b ≠ 0) (hN : nl a + nl b ≤ 2 ^ k + 1) (hla : nl a ≤ 2 ^ k) (hlb : nl b ≤ 2 ^ k) :
    Calls Tryz.prog 160 #[fld p, .slice A (nl a) ca, .slice B (nl b) cb, .int .i64 (k : Nat)] w fun e w' => ∃ bx X, e = .returned (.slice (some ⟨bx, 0, none⟩) (2 ^ k : Nat) (2 ^ k : Nat)) ∧ w.heap.size ≤ bx ∧ Arr w' bx X ∧ X.length = 2 ^ k ∧
      (∀ t, t < 2 ^ k → gl X t = cv (gl (limbs a)) (gl (limbs b)) (nl a) t % p) ∧ Below w.heap.size w w' := by
  obtain ⟨n, hnk⟩ : ∃ n, n = 2 ^ k := ⟨_, rfl⟩
  have hnb : n ≤ 1048576 := by rw [hnk]; exact Nat.pow_le_pow_right (by decide) (show k ≤ 20 by omega)
  have hn1 : 1 ≤ n := by rw [hnk]; exact Nat.two_pow_pos k
  have hnI : (2 : Int) ^ k = (n : Int) := by rw [hnk]; simp
  have hp2 := hP.two
  have hpB := hP.small
  have HNK := Lib.hid hnk
  have HPP := Lib.hid hP
  rw [← hnk] at hN hla hlb ⊢
  have hmk := mk64 (n : Int) (by omega) (by omega)
  rw [Int.toNat_natCast] at hmk
  clear hnk
  have hp0 : ((p : Int) == 0) = false := ieqF (by omega)
  have hu := Tryz.underlying155
  have hE : ∃ E : World, E = (((w.alloc (.cells #[.int .u64 (p : Nat)] 155)).alloc (.cells (v64 (List.replicate n 0)).toArray 94)).alloc (.cells (v64 (List.replicate n 0)).toArray 94)).drew := ⟨_, rfl⟩
  obtain ⟨E, hE⟩ := hE
  have hs1 : (w.alloc (.cells #[.int .u64 (p : Nat)] 155)).heap.size = w.heap.size + 1 := by simp
  have hs2 : ((w.alloc (.cells #[.int .u64 (p : Nat)] 155)).alloc (.cells (v64 (List.replicate n 0)).toArray 94)).heap.size = w.heap.size + 1 + 1 := by simp
  have hb0 : Below w.heap.size w (w.alloc (.cells #[.int .u64 (p : Nat)] 155)) := (Below.refl _ _).alloc (Nat.le_refl _) _
  have hb1 : Below (w.heap.size + 1) (w.alloc (.cells #[.int .u64 (p : Nat)] 155)) ((w.alloc (.cells #[.int .u64 (p : Nat)] 155)).alloc (.cells (v64 (List.replicate n 0)).toArray 94)) := (Below.refl _ _).alloc (by omega) _
  have hb2 : Below (w.heap.size + 1 + 1) ((w.alloc (.cells #[.int .u64 (p : Nat)] 155)).alloc (.cells (v64 (List.replicate n 0)).toArray 94)) E := by
    rw [hE]; exact ((Below.refl _ _).alloc (by omega) _).drew
  have hbE : Below w.heap.size w E := (hb0.trans (hb1.mono (by omega))).trans (hb2.mono (by omega))
  have hcE : E.cell? ⟨w.heap.size, 0, none⟩ = some (.int .u64 (p : Nat)) := by
    have h0 : (w.alloc (.cells #[.int .u64 (p : Nat)] 155)).cell? ⟨w.heap.size, 0, none⟩ = some (.int .u64 (p : Nat)) := by
      unfold World.cell?; rw [heap_alloc_new]; rfl
    exact cell_below (hs2 ▸ hb2) (cell_below (hs1 ▸ hb1) h0)
  have hx1 : Arr E (w.heap.size + 1) (List.replicate n 0) := by
    have h0 := arr_made (w.alloc (.cells #[.int .u64 (p : Nat)] 155)) n
    rw [hs1] at h0
    exact h0.keep (hb2.block _ (by omega))
  have hx2 : Arr E (w.heap.size + 1 + 1) (List.replicate n 0) := by
    have h0 := arr_made ((w.alloc (.cells #[.int .u64 (p : Nat)] 155)).alloc (.cells (v64 (List.replicate n 0)).toArray 94)) n
    rw [hs2] at h0
    rw [hE]; exact h0
  have hsE := hbE.size
  clear hb0 hb1 hb2 hs1 hs2
  have G1 := And.intro hx1 (And.intro hx2 (show w.heap.size + 1 ≠ w.heap.size + 1 + 1 ∧ w.heap.size + 1 + 1 ≠ w.heap.size + 1 ∧ w.heap.size ≠ w.heap.size + 1 ∧ w.heap.size ≠ w.heap.size + 1 + 1 ∧ w.heap.size ≤ w.heap.size + 1 ∧ w.heap.size ≤ w.heap.size + 1 + 1 by omega))
  have G2 := And.intro hx2 (And.intro hx1 (show w.heap.size + 1 + 1 ≠ w.heap.size + 1 ∧ w.heap.size + 1 ≠ w.heap.size + 1 + 1 ∧ w.heap.size ≠ w.heap.size + 1 + 1 ∧ w.heap.size ≠ w.heap.size + 1 ∧ w.heap.size ≤ w.heap.size + 1 + 1 ∧ w.heap.size ≤ w.heap.size + 1 by omega))
  replace G1 := Lib.hid G1
  replace G2 := Lib.hid G2
  clear hx1 hx2
  unfold fld at *
  go_enter Tryz.func160, Tryz.ntmps160
  go_wp2_with (fail)
  go_big_region
  rotate_left
  · clear G1
    rw [← hE]
    generalize w.heap.size + 1 + 1 = bx at *
    generalize w.heap.size + 1 = bz at *
    have GG := G2
    clear G2
    obtain ⟨hX, hY, hxz, hzx, hsx, hsz, hlx, hlz⟩ := GG.out
    clear GG hE
    go_wp2_with (fail)
    go_loopw [11, 12, 27] (fun vi vx ct wr => ∃ (i : Nat) (M : List Nat), ct = .int .i64 i ∧ i ≤ nl a ∧ Only bx E wr ∧ Arr wr bx M ∧ Hid (M.length = n) ∧ Hid (∀ t, gl M t = if t < i then gl (limbs a) t % p else 0)) (fun vi vx ct wr => nl a - (intOf ct).toNat)
    case atStart => exact ⟨0, _, rfl, Nat.zero_le _, .refl _ _, hX, Lib.hid (by simp), Lib.hid (fun t => by rw [if_neg (by omega), gl_rep])⟩
    case round =>
      obtain ⟨i, M, rfl, hi, ho, hM, hMl, hMv⟩ := hrel
      by_cases hlt : i < nl a
      · obtain ⟨ad, rfl, hcx⟩ := (hA.rd.below (hbE.trans (ho.below hlx hsE))).get i hlt
        have hxl := (lim_limbs a).gl i
        obtain ⟨x, hx⟩ : ∃ x, x = gl (limbs a) i := ⟨_, rfl⟩
        rw [← hx] at hcx hxl
        replace hx := Lib.hid hx
        have hcp := ho.cell hcE hsx
        have hin : i < n := by omega
        have hc1 := hM.cell i (by rw [hMl.out]; exact hin)
        have hf1 := hM.frozen i
        obtain ⟨y, hy⟩ : ∃ y, y = x % p := ⟨_, rfl⟩
        have hyI : (x : Int) % (p : Int) = (y : Int) := by rw [hy]; simp
        have hyp : y < p := by rw [hy]; exact Nat.mod_lt _ (by omega)
        replace hy := Lib.hid hy
        go_wp2_with (fail)
        go_roundw
        case rel =>
          refine ⟨i + 1, M.set i y, by go_num, by omega, ho.store _ _, hM.store i y, Lib.hid (by simp [hMl.out]), Lib.hid (fun t => ?_)⟩
          by_cases e : t = i
          · have c : t < i + 1 := by omega
            rw [if_pos c, e, gl_set_eq' (by rw [hMl.out]; exact hin), hy.out, hx.out]
          · rw [gl_set_ne' (by omega), hMv.out t]
            by_cases c : t < i
            · rw [if_pos c, if_pos (by omega)]
            · rw [if_neg c, if_neg (by omega)]
        case measure => simp only [intOf]; omega
      · have hia : i = nl a := by omega
        have hMp : ∀ t, gl M t = gl (limbs a) t % p := fun t => by
          rw [hMv.out t]
          split
          · rfl
          · rw [gl_of_le (l := limbs a) (by show nl a ≤ t; omega)]; simp
        replace hMp := Lib.hid hMp
        replace hia := Lib.hid hia
        have hY1 := ho.arr hY hzx
        have hc1 := ho.cell hcE hsx
        have hb1 := hbE.trans (ho.below hlx hsE)
        have hs1 := hb1.size
        obtain ⟨W1, rfl⟩ : ∃ W1 : World, W1 = wr := ⟨_, rfl⟩
        clear hMv ho hX hY hcE hbE hsE hi
        go_wp2_with (fail)
        go_loopw [13, 14, 43] (fun vi vx ct wr => ∃ (i : Nat) (Q : List Nat), ct = .int .i64 i ∧ i ≤ nl b ∧ Only bz W1 wr ∧ Arr wr bz Q ∧ Hid (Q.length = n) ∧ Hid (∀ t, gl Q t = if t < i then gl (limbs b) t % p else 0)) (fun vi vx ct wr => nl b - (intOf ct).toNat)
        case atStart => exact ⟨0, _, rfl, Nat.zero_le _, .refl _ _, hY1, Lib.hid (by simp), Lib.hid (fun t => by rw [if_neg (by omega), gl_rep])⟩
        case round =>
          obtain ⟨j, Q, rfl, hj, ho, hQ, hQl, hQv⟩ := hrel
          by_cases hlt : j < nl b
          · obtain ⟨ad, rfl, hcx⟩ := (hB.rd.below (hb1.trans (ho.below hlz hs1))).get j hlt
            have hxl := (lim_limbs b).gl j
            obtain ⟨x, hx⟩ : ∃ x, x = gl (limbs b) j := ⟨_, rfl⟩
            rw [← hx] at hcx hxl
            replace hx := Lib.hid hx
            have hcp := ho.cell hc1 hsz
            have hjn : j < n := by omega
            have hc2 := hQ.cell j (by rw [hQl.out]; exact hjn)
            have hf2 := hQ.frozen j
            obtain ⟨y, hy⟩ : ∃ y, y = x % p := ⟨_, rfl⟩
            have hyI : (x : Int) % (p : Int) = (y : Int) := by rw [hy]; simp
            have hyp : y < p := by rw [hy]; exact Nat.mod_lt _ (by omega)
            replace hy := Lib.hid hy
            go_wp2_with (fail)
            go_roundw
            case rel =>
              refine ⟨j + 1, Q.set j y, by go_num, by omega, ho.store _ _, hQ.store j y, Lib.hid (by simp [hQl.out]), Lib.hid (fun t => ?_)⟩
              by_cases e : t = j
              · have c : t < j + 1 := by omega
                rw [if_pos c, e, gl_set_eq' (by rw [hQl.out]; exact hjn), hy.out, hx.out]
              · rw [gl_set_ne' (by omega), hQv.out t]
                by_cases c : t < j
                · rw [if_pos c, if_pos (by omega)]
                · rw [if_neg c, if_neg (by omega)]
            case measure => simp only [intOf]; omega
          · have hjb : j = nl b := by omega
            have hQp : ∀ t, gl Q t = gl (limbs b) t % p := fun t => by
              rw [hQv.out t]
              split
              · rfl
              · rw [gl_of_le (l := limbs b) (by show nl b ≤ t; omega)]; simp
            replace hQp := Lib.hid hQp
            replace hjb := Lib.hid hjb
            have hcp := ho.cell hc1 hsz
            have hM2 := ho.arr hM hxz
            have hb2 := hb1.trans (ho.below hlz hs1)
            have hs2 := hb2.size
            clear hQv ho hM hY1 hc1 hb1 hs1 hj
            obtain ⟨rw', hrw⟩ : ∃ r, r = rt p k := ⟨_, rfl⟩
            have hrwp : rw' < p := by rw [hrw]; exact Nat.mod_lt _ (by omega)
            have CR := froot_c p k wr hp2 (by omega) hk
            rw [show 3 ^ ((p - 1) / 2 ^ k) % p = rw' from hrw.symm] at CR
            replace CR := Lib.hid CR
            replace hrw := Lib.hid hrw
            unfold fld at CR
            go_wp2_with (fail)
            refine CR.out.mono ?_
            rintro e W3 ⟨rfl, hbd⟩
            clear CR
            haveI hnz : NeZero p := ⟨by omega⟩
            obtain ⟨φ, hφ⟩ : ∃ φ : Nat → Fin p, Hom p φ := ⟨_, hom_fin p⟩
            have hM3 := hM2.below hbd
            have hQ3 := hQ.below hbd
            have hc3 := cbl hbd hcp
            have hb3 := hb2.cons hbd
            have hs3 := hb3.size
            have CX := run_c p bx k rw' M W3 hφ (by omega) hpB hk hM3 (by rw [hMl.out, HNK.out]) (fun t => by rw [hMp.out]; exact Nat.mod_lt _ (by omega)) hrwp (by rw [hrw.out]; exact HPP.out.root hφ k hk)
            rw [← HNK.out] at CX
            unfold fld at CX
            replace CX := Lib.hid CX
            clear hM2 hQ hcp hb2 hs2 hbd
            go_wp2_with (fail)
            refine CX.out.mono ?_
            rintro e W4 ⟨rfl, ho4, X, hX4, hXl, hXp, hXv⟩
            replace hXl := Lib.hid hXl
            replace hXp := Lib.hid hXp
            replace hXv := Lib.hid hXv
            have hQ4 := ho4.arr hQ3 hzx
            have hc4 := ho4.cell hc3 hsx
            have hb4 := hb3.trans (ho4.below hlx hs3)
            have hs4 := hb4.size
            have CY := run_c p bz k rw' Q W4 hφ (by omega) hpB hk hQ4 (by rw [hQl.out, HNK.out]) (fun t => by rw [hQp.out]; exact Nat.mod_lt _ (by omega)) hrwp (by rw [hrw.out]; exact HPP.out.root hφ k hk)
            rw [← HNK.out] at CY
            unfold fld at CY
            replace CY := Lib.hid CY
            clear hM3 hQ3 hc3 hb3 hs3 ho4 CX
            go_wp2_with (fail)
            refine CY.out.mono ?_
            rintro e W5 ⟨rfl, ho5, Y, hY5, hYl, hYp, hYv⟩
            replace hYl := Lib.hid hYl
            replace hYp := Lib.hid hYp
            replace hYv := Lib.hid hYv
            have hX5 := ho5.arr hX4 hxz
            have hc5 := ho5.cell hc4 hsz
            have hb5 := hb4.trans (ho5.below hlz hs4)
            have hs5 := hb5.size
            clear hX4 hQ4 hc4 hb4 hs4 ho5 CY
            go_wp2_with (fail)
            go_loopw [16, 72] (fun vi ct wr => ∃ (i : Nat) (L : List Nat), ct = .int .i64 i ∧ i ≤ n ∧ Only bx W5 wr ∧ Arr wr bx L ∧ Hid (L.length = n) ∧ Hid (∀ t, gl L t = if t < i then gl X t * gl Y t % p else gl X t)) (fun vi ct wr => n - (intOf ct).toNat)
            case atStart => exact ⟨0, X, rfl, Nat.zero_le _, .refl _ _, hX5, Lib.hid hXl.out, Lib.hid (fun t => by rw [if_neg (by omega)])⟩
            case round =>
              obtain ⟨i, L, rfl, hi, ho, hL, hLl, hLv⟩ := hrel
              by_cases hlt : i < n
              · have hcp := ho.cell hc5 hsx
                have hYr := ho.arr hY5 hzx
                have q1 := hL.cell i (by rw [hLl.out]; exact hlt)
                have q2 := hYr.cell i (by rw [hYl.out]; exact hlt)
                have hxv : gl L i = gl X i := by rw [hLv.out i, if_neg (by omega)]
                have hxp := hXp.out i
                have hyp := hYp.out i
                obtain ⟨x, hx⟩ : ∃ x, x = gl X i := ⟨_, rfl⟩
                obtain ⟨y, hy⟩ : ∃ y, y = gl Y i := ⟨_, rfl⟩
                rw [hxv, ← hx] at q1
                rw [← hy] at q2 hyp
                rw [← hx] at hxp
                obtain ⟨z, hz⟩ : ∃ z, z = x * y % p := ⟨_, rfl⟩
                have CM := fun (W : World) => fmul_c p x y W (by omega) (by omega) (by omega) (by omega)
                rw [← hz] at CM
                unfold fld at CM
                replace CM := Lib.hid CM
                replace hx := Lib.hid hx
                replace hy := Lib.hid hy
                replace hz := Lib.hid hz
                have hd := (Below.refl wr.heap.size wr).drew
                have gp := cbl hd hcp
                have g1 := cbl hd q1
                have g2 := cbl hd q2
                clear hxv
                go_wp2_with (fail)
                go_region_with (go_at_call 162; (with_reducible refine (CM.out _).mono ?_); rintro e V4 ⟨rfl, hbv⟩; have hLV := (show Arr wr.drew bx L from hL).below hbv; have fz := hLV.frozen i; have hcq := hLV.cell i (by rw [hLl.out]; exact hlt))
                all_goals
                  go_wp2_with (fail)
                  go_roundw
                  case rel =>
                    refine ⟨i + 1, L.set i z, by go_num, by omega, (ho.drew.cons hbv).store _ _, hLV.store i z, Lib.hid (by simp [hLl.out]), Lib.hid (fun t => ?_)⟩
                    exact step_set (fun t => gl X t * gl Y t % p) (fun t => gl X t) hlt hLl.out (by rw [hz.out, hx.out, hy.out]) hLv.out t
                  case measure => simp only [intOf]; omega
              · have hin : i = n := by omega
                have hcp := ho.cell hc5 hsx
                have hb6 := hb5.trans (ho.below hlx hs5)
                have hs6 := hb6.size
                have hLp : ∀ t, gl L t < p := fun t => by
                  rw [hLv.out t]
                  split
                  · exact Nat.mod_lt _ (by omega)
                  · exact hXp.out t
                have hLe : ∀ t, t < n → gl L t = gl X t * gl Y t % p := fun t ht => by rw [hLv.out t, if_pos (by omega)]
                replace hLp := Lib.hid hLp
                replace hLe := Lib.hid hLe
                replace hin := Lib.hid hin
                obtain ⟨iv, hiv⟩ : ∃ iv, iv = rw' ^ (p - 2) % p := ⟨_, rfl⟩
                have hivp : iv < p := by rw [hiv]; exact Nat.mod_lt _ (by omega)
                have CI := fun (W : World) => finv_c p rw' W hp2 (by omega) (by omega)
                rw [← hiv] at CI
                have CZ := fun (W : World) (hW : Arr W bx L) => run_c p bx k iv L W hφ (by omega) hpB hk hW (by rw [hLl.out, HNK.out]) hLp.out hivp (by
                  rcases HPP.out.root hφ k hk with h | h
                  · exact .inl h
                  · right
                    have h1 := HPP.out.back hφ k
                    rw [← hrw.out, ← hiv] at h1
                    have h2 : pw (φ rw' * φ iv) (2 ^ (k - 1)) = 1 := by rw [h1, pw_one]
                    rw [pw_base, hrw.out, h] at h2
                    grind)
                rw [← HNK.out] at CZ
                unfold fld at CI CZ
                replace CI := Lib.hid CI
                replace CZ := Lib.hid CZ
                replace hiv := Lib.hid hiv
                have hd := (Below.refl wr.heap.size wr).drew
                have gp := cbl hd hcp
                have gb := hb6.cons hd
                have gL := hL.below hd
                clear hLv ho hX5 hc5 hb5 hs5 hi
                go_wp2_with (fail)
                go_region_held3 (fun W => W.cell? ⟨w.heap.size, 0, none⟩ = some (.int .u64 (p : Nat)))
                  (first
                    | exact gp
                    | exact gp7
                    | exact gp8
                    | go_keep)
                  (first
                    | (go_at_call 161; (with_reducible refine (CI.out _).mono ?_); rintro e W7 ⟨rfl, hb7⟩; have gp7 := cbl hb7 gp; have gb7 := gb.cons hb7; have gL7 := gL.below hb7)
                    | (go_at_call 170; (with_reducible refine (CZ.out _ gL7).mono ?_); rintro e W8 ⟨rfl, ho8, Z, hZ, hZl, hZp, hZv⟩; have gp8 := ho8.cell gp7 hsx; have gb8 := gb7.trans (ho8.below hlx gb7.size)))
                replace hZl := Lib.hid hZl
                replace hZp := Lib.hid hZp
                replace hZv := Lib.hid hZv
                have hs8 := gb8.size
                obtain ⟨ov, hov⟩ : ∃ ov, ov = n ^ (p - 2) % p := ⟨_, rfl⟩
                have hovp : ov < p := by rw [hov]; exact Nat.mod_lt _ (by omega)
                have CO := fun (W : World) => finv_c p n W hp2 (by omega) (by omega)
                rw [← hov] at CO
                unfold fld at CO
                replace CO := Lib.hid CO
                replace hov := Lib.hid hov
                have zn : IntKind.u64.wrap (n : Int) = (n : Int) := IntWalk.u64_in _ (by omega)
                have hd8 := (Below.refl W8.heap.size W8).drew
                have g9 := cbl hd8 gp8
                have gb9 := gb8.cons hd8
                have gZ9 := hZ.below hd8
                clear gp gb gL gp7 gb7 gL7 hcp hb6 hs6 CI CZ ho8
                go_wp2_with (fail)
                go_region_held3 (fun W => W.cell? ⟨w.heap.size, 0, none⟩ = some (.int .u64 (p : Nat)))
                  (first
                    | exact g9
                    | exact g10
                    | go_keep)
                  (first
                    | (go_at_call 161; (with_reducible refine (CO.out _).mono ?_); rintro e W10 ⟨rfl, hb10⟩; have g10 := cbl hb10 g9; have gb10 := gb9.cons hb10; have gZ10 := gZ9.below hb10))
                clear g9 gb9 gZ9 hd8 CO hs8
                have hs10 := gb10.size
                obtain ⟨WA, rfl⟩ : ∃ WA : World, WA = W10 := ⟨_, rfl⟩
                go_wp2_with (fail)
                go_loopw [18, 102] (fun vi ct wr => ∃ (i : Nat) (L : List Nat), ct = .int .i64 i ∧ i ≤ n ∧ Only bx WA wr ∧ Arr wr bx L ∧ Hid (L.length = n) ∧ Hid (∀ t, gl L t = if t < i then gl Z t * ov % p else gl Z t)) (fun vi ct wr => n - (intOf ct).toNat)
                case atStart => exact ⟨0, Z, rfl, Nat.zero_le _, .refl _ _, gZ10, Lib.hid hZl.out, Lib.hid (fun t => by rw [if_neg (by omega)])⟩
                case round =>
                  obtain ⟨i, L, rfl, hi, ho, hL, hLl, hLv⟩ := hrel
                  by_cases hlt : i < n
                  · have hcp := ho.cell g10 hsx
                    have q1 := hL.cell i (by rw [hLl.out]; exact hlt)
                    have hxv : gl L i = gl Z i := by rw [hLv.out i, if_neg (by omega)]
                    have hxp := hZp.out i
                    obtain ⟨x, hx⟩ : ∃ x, x = gl Z i := ⟨_, rfl⟩
                    rw [hxv, ← hx] at q1
                    rw [← hx] at hxp
                    obtain ⟨z, hz⟩ : ∃ z, z = x * ov % p := ⟨_, rfl⟩
                    have CM := fun (W : World) => fmul_c p x ov W (by omega) (by omega) (by omega) (by omega)
                    rw [← hz] at CM
                    unfold fld at CM
                    replace CM := Lib.hid CM
                    replace hx := Lib.hid hx
                    replace hz := Lib.hid hz
                    have hd := (Below.refl wr.heap.size wr).drew
                    have gp := cbl hd hcp
                    have g1 := cbl hd q1
                    clear hxv
                    go_wp2_with (fail)
                    go_region_with (go_at_call 162; (with_reducible refine (CM.out _).mono ?_); rintro e V4 ⟨rfl, hbv⟩; have hLV := (show Arr wr.drew bx L from hL).below hbv; have fz := hLV.frozen i; have hcq := hLV.cell i (by rw [hLl.out]; exact hlt))
                    all_goals
                      go_wp2_with (fail)
                      go_roundw
                      case rel =>
                        refine ⟨i + 1, L.set i z, by go_num, by omega, (ho.drew.cons hbv).store _ _, hLV.store i z, Lib.hid (by simp [hLl.out]), Lib.hid (fun t => ?_)⟩
                        exact step_set (fun t => gl Z t * ov % p) (fun t => gl Z t) hlt hLl.out (by rw [hz.out, hx.out]) hLv.out t
                      case measure => simp only [intOf]; omega
                  · have hin2 : i = n := by omega
                    have hfin : ∀ t, t < n → gl L t = cv (gl (limbs a)) (gl (limbs b)) (nl a) t % p := fun t ht => by
                      rw [hLv.out t, if_pos (by omega), hov.out, HNK.out]
                      refine conv_math HPP.out hφ k (nl a) (nl b) hk (gl (limbs a)) (gl (limbs b)) (gl X) (gl Y) (gl Z) (fun i hi => gl_of_le hi) (fun i hi => gl_of_le hi) (by rw [← HNK.out]; exact hN) (nl_pos.2 hb) (by rw [← HNK.out]; exact hla) (by rw [← HNK.out]; exact hlb) ?_ ?_ ?_ t (by rw [← HNK.out]; exact ht)
                      · intro t ht
                        rw [hXv.out t (by rw [HNK.out]; exact ht), HNK.out, hrw.out]
                        refine sm_congr fun j _ => ?_
                        show φ (gl M j) * _ = _
                        rw [hMp.out j, hφ.modp]
                      · intro t ht
                        rw [hYv.out t (by rw [HNK.out]; exact ht), HNK.out, hrw.out]
                        refine sm_congr fun j _ => ?_
                        show φ (gl Q j) * _ = _
                        rw [hQp.out j, hφ.modp]
                      · intro t ht
                        rw [hZv.out t (by rw [HNK.out]; exact ht), HNK.out, hiv.out, hrw.out]
                        refine sm_congr fun j hj => ?_
                        show φ (gl _ j) * _ = _
                        rw [hLe.out j (by rw [HNK.out]; exact hj)]
                    go_wp2_with (fail)
                    go_ret
                    exact ⟨bx, L, rfl, hlx, hL, hLl.out, hfin, gb10.trans (ho.below hlx hs10)⟩
  clear G2
  rw [← hE]
  generalize w.heap.size + 1 + 1 = bz at *
  generalize w.heap.size + 1 = bx at *
  have GG := G1
  clear G1
  obtain ⟨hX, hY, hxz, hzx, hsx, hsz, hlx, hlz⟩ := GG.out
  clear GG hE
  go_wp2_with (fail)
  go_loopw [11, 12, 27] (fun vi vx ct wr => ∃ (i : Nat) (M : List Nat), ct = .int .i64 i ∧ i ≤ nl a ∧ Only bx E wr ∧ Arr wr bx M ∧ Hid (M.length = n) ∧ Hid (∀ t, gl M t = if t < i then gl (limbs a) t % p else 0)) (fun vi vx ct wr => nl a - (intOf ct).toNat)
  case atStart => exact ⟨0, _, rfl, Nat.zero_le _, .refl _ _, hX, Lib.hid (by simp), Lib.hid (fun t => by rw [if_neg (by omega), gl_rep])⟩
  case round =>
    obtain ⟨i, M, rfl, hi, ho, hM, hMl, hMv⟩ := hrel
    by_cases hlt : i < nl a
    · obtain ⟨ad, rfl, hcx⟩ := (hA.rd.below (hbE.trans (ho.below hlx hsE))).get i hlt
      have hxl := (lim_limbs a).gl i
      obtain ⟨x, hx⟩ : ∃ x, x = gl (limbs a) i := ⟨_, rfl⟩
      rw [← hx] at hcx hxl
      replace hx := Lib.hid hx
      have hcp := ho.cell hcE hsx
      have hin : i < n := by omega
      have hc1 := hM.cell i (by rw [hMl.out]; exact hin)
      have hf1 := hM.frozen i
      obtain ⟨y, hy⟩ : ∃ y, y = x % p := ⟨_, rfl⟩
      have hyI : (x : Int) % (p : Int) = (y : Int) := by rw [hy]; simp
      have hyp : y < p := by rw [hy]; exact Nat.mod_lt _ (by omega)
      replace hy := Lib.hid hy
      go_wp2_with (fail)
      go_roundw
      case rel =>
        refine ⟨i + 1, M.set i y, by go_num, by omega, ho.store _ _, hM.store i y, Lib.hid (by simp [hMl.out]), Lib.hid (fun t => ?_)⟩
        by_cases e : t = i
        · have c : t < i + 1 := by omega
          rw [if_pos c, e, gl_set_eq' (by rw [hMl.out]; exact hin), hy.out, hx.out]
        · rw [gl_set_ne' (by omega), hMv.out t]
          by_cases c : t < i
          · rw [if_pos c, if_pos (by omega)]
          · rw [if_neg c, if_neg (by omega)]
      case measure => simp only [intOf]; omega
    · have hia : i = nl a := by omega
      have hMp : ∀ t, gl M t = gl (limbs a) t % p := fun t => by
        rw [hMv.out t]
        split
        · rfl
        · rw [gl_of_le (l := limbs a) (by show nl a ≤ t; omega)]; simp
      replace hMp := Lib.hid hMp
      replace hia := Lib.hid hia
      have hY1 := ho.arr hY hzx
      have hc1 := ho.cell hcE hsx
      have hb1 := hbE.trans (ho.below hlx hsE)
      have hs1 := hb1.size
      obtain ⟨W1, rfl⟩ : ∃ W1 : World, W1 = wr := ⟨_, rfl⟩
      clear hMv ho hX hY hcE hbE hsE hi
      go_wp2_with (fail)
      go_loopw [13, 14, 43] (fun vi vx ct wr => ∃ (i : Nat) (Q : List Nat), ct = .int .i64 i ∧ i ≤ nl b ∧ Only bz W1 wr ∧ Arr wr bz Q ∧ Hid (Q.length = n) ∧ Hid (∀ t, gl Q t = if t < i then gl (limbs b) t % p else 0)) (fun vi vx ct wr => nl b - (intOf ct).toNat)
      case atStart => exact ⟨0, _, rfl, Nat.zero_le _, .refl _ _, hY1, Lib.hid (by simp), Lib.hid (fun t => by rw [if_neg (by omega), gl_rep])⟩
      case round =>
        obtain ⟨j, Q, rfl, hj, ho, hQ, hQl, hQv⟩ := hrel
        by_cases hlt : j < nl b
        · obtain ⟨ad, rfl, hcx⟩ := (hB.rd.below (hb1.trans (ho.below hlz hs1))).get j hlt
          have hxl := (lim_limbs b).gl j
          obtain ⟨x, hx⟩ : ∃ x, x = gl (limbs b) j := ⟨_, rfl⟩
          rw [← hx] at hcx hxl
          replace hx := Lib.hid hx
          have hcp := ho.cell hc1 hsz
          have hjn : j < n := by omega
          have hc2 := hQ.cell j (by rw [hQl.out]; exact hjn)
          have hf2 := hQ.frozen j
          obtain ⟨y, hy⟩ : ∃ y, y = x % p := ⟨_, rfl⟩
          have hyI : (x : Int) % (p : Int) = (y : Int) := by rw [hy]; simp
          have hyp : y < p := by rw [hy]; exact Nat.mod_lt _ (by omega)
          replace hy := Lib.hid hy
          go_wp2_with (fail)
          go_roundw
          case rel =>
            refine ⟨j + 1, Q.set j y, by go_num, by omega, ho.store _ _, hQ.store j y, Lib.hid (by simp [hQl.out]), Lib.hid (fun t => ?_)⟩
            by_cases e : t = j
            · have c : t < j + 1 := by omega
              rw [if_pos c, e, gl_set_eq' (by rw [hQl.out]; exact hjn), hy.out, hx.out]
            · rw [gl_set_ne' (by omega), hQv.out t]
              by_cases c : t < j
              · rw [if_pos c, if_pos (by omega)]
              · rw [if_neg c, if_neg (by omega)]
          case measure => simp only [intOf]; omega
        · have hjb : j = nl b := by omega
          have hQp : ∀ t, gl Q t = gl (limbs b) t % p := fun t => by
            rw [hQv.out t]
            split
            · rfl
            · rw [gl_of_le (l := limbs b) (by show nl b ≤ t; omega)]; simp
          replace hQp := Lib.hid hQp
          replace hjb := Lib.hid hjb
          have hcp := ho.cell hc1 hsz
          have hM2 := ho.arr hM hxz
          have hb2 := hb1.trans (ho.below hlz hs1)
          have hs2 := hb2.size
          clear hQv ho hM hY1 hc1 hb1 hs1 hj
          obtain ⟨rw', hrw⟩ : ∃ r, r = rt p k := ⟨_, rfl⟩
          have hrwp : rw' < p := by rw [hrw]; exact Nat.mod_lt _ (by omega)
          have CR := froot_c p k wr hp2 (by omega) hk
          rw [show 3 ^ ((p - 1) / 2 ^ k) % p = rw' from hrw.symm] at CR
          replace CR := Lib.hid CR
          replace hrw := Lib.hid hrw
          unfold fld at CR
          go_wp2_with (fail)
          refine CR.out.mono ?_
          rintro e W3 ⟨rfl, hbd⟩
          clear CR
          haveI hnz : NeZero p := ⟨by omega⟩
          obtain ⟨φ, hφ⟩ : ∃ φ : Nat → Fin p, Hom p φ := ⟨_, hom_fin p⟩
          have hM3 := hM2.below hbd
          have hQ3 := hQ.below hbd
          have hc3 := cbl hbd hcp
          have hb3 := hb2.cons hbd
          have hs3 := hb3.size
          have CX := run_c p bx k rw' M W3 hφ (by omega) hpB hk hM3 (by rw [hMl.out, HNK.out]) (fun t => by rw [hMp.out]; exact Nat.mod_lt _ (by omega)) hrwp (by rw [hrw.out]; exact HPP.out.root hφ k hk)
          rw [← HNK.out] at CX
          unfold fld at CX
          replace CX := Lib.hid CX
          clear hM2 hQ hcp hb2 hs2 hbd
          go_wp2_with (fail)
          refine CX.out.mono ?_
          rintro e W4 ⟨rfl, ho4, X, hX4, hXl, hXp, hXv⟩
          replace hXl := Lib.hid hXl
          replace hXp := Lib.hid hXp
          replace hXv := Lib.hid hXv
          have hQ4 := ho4.arr hQ3 hzx
          have hc4 := ho4.cell hc3 hsx
          have hb4 := hb3.trans (ho4.below hlx hs3)
          have hs4 := hb4.size
          have CY := run_c p bz k rw' Q W4 hφ (by omega) hpB hk hQ4 (by rw [hQl.out, HNK.out]) (fun t => by rw [hQp.out]; exact Nat.mod_lt _ (by omega)) hrwp (by rw [hrw.out]; exact HPP.out.root hφ k hk)
          rw [← HNK.out] at CY
          unfold fld at CY
          replace CY := Lib.hid CY
          clear hM3 hQ3 hc3 hb3 hs3 ho4 CX
          go_wp2_with (fail)
          refine CY.out.mono ?_
          rintro e W5 ⟨rfl, ho5, Y, hY5, hYl, hYp, hYv⟩
          replace hYl := Lib.hid hYl
          replace hYp := Lib.hid hYp
          replace hYv := Lib.hid hYv
          have hX5 := ho5.arr hX4 hxz
          have hc5 := ho5.cell hc4 hsz
          have hb5 := hb4.trans (ho5.below hlz hs4)
          have hs5 := hb5.size
          clear hX4 hQ4 hc4 hb4 hs4 ho5 CY
          go_wp2_with (fail)
          go_loopw [16, 72] (fun vi ct wr => ∃ (i : Nat) (L : List Nat), ct = .int .i64 i ∧ i ≤ n ∧ Only bx W5 wr ∧ Arr wr bx L ∧ Hid (L.length = n) ∧ Hid (∀ t, gl L t = if t < i then gl X t * gl Y t % p else gl X t)) (fun vi ct wr => n - (intOf ct).toNat)
          case atStart => exact ⟨0, X, rfl, Nat.zero_le _, .refl _ _, hX5, Lib.hid hXl.out, Lib.hid (fun t => by rw [if_neg (by omega)])⟩
          case round =>
            obtain ⟨i, L, rfl, hi, ho, hL, hLl, hLv⟩ := hrel
            by_cases hlt : i < n
            · have hcp := ho.cell hc5 hsx
              have hYr := ho.arr hY5 hzx
              have q1 := hL.cell i (by rw [hLl.out]; exact hlt)
              have q2 := hYr.cell i (by rw [hYl.out]; exact hlt)
              have hxv : gl L i = gl X i := by rw [hLv.out i, if_neg (by omega)]
              have hxp := hXp.out i
              have hyp := hYp.out i
              obtain ⟨x, hx⟩ : ∃ x, x = gl X i := ⟨_, rfl⟩
              obtain ⟨y, hy⟩ : ∃ y, y = gl Y i := ⟨_, rfl⟩
              rw [hxv, ← hx] at q1
              rw [← hy] at q2 hyp
              rw [← hx] at hxp
              obtain ⟨z, hz⟩ : ∃ z, z = x * y % p := ⟨_, rfl⟩
              have CM := fun (W : World) => fmul_c p x y W (by omega) (by omega) (by omega) (by omega)
              rw [← hz] at CM
              unfold fld at CM
              replace CM := Lib.hid CM
              replace hx := Lib.hid hx
              replace hy := Lib.hid hy
              replace hz := Lib.hid hz
              have hd := (Below.refl wr.heap.size wr).drew
              have gp := cbl hd hcp
              have g1 := cbl hd q1
              have g2 := cbl hd q2
              clear hxv
              go_wp2_with (fail)
              go_region_with (go_at_call 162; (with_reducible refine (CM.out _).mono ?_); rintro e V4 ⟨rfl, hbv⟩; have hLV := (show Arr wr.drew bx L from hL).below hbv; have fz := hLV.frozen i; have hcq := hLV.cell i (by rw [hLl.out]; exact hlt))
              all_goals
                go_wp2_with (fail)
                go_roundw
                case rel =>
                  refine ⟨i + 1, L.set i z, by go_num, by omega, (ho.drew.cons hbv).store _ _, hLV.store i z, Lib.hid (by simp [hLl.out]), Lib.hid (fun t => ?_)⟩
                  exact step_set (fun t => gl X t * gl Y t % p) (fun t => gl X t) hlt hLl.out (by rw [hz.out, hx.out, hy.out]) hLv.out t
                case measure => simp only [intOf]; omega
            · have hin : i = n := by omega
              have hcp := ho.cell hc5 hsx
              have hb6 := hb5.trans (ho.below hlx hs5)
              have hs6 := hb6.size
              have hLp : ∀ t, gl L t < p := fun t => by
                rw [hLv.out t]
                split
                · exact Nat.mod_lt _ (by omega)
                · exact hXp.out t
              have hLe : ∀ t, t < n → gl L t = gl X t * gl Y t % p := fun t ht => by rw [hLv.out t, if_pos (by omega)]
              replace hLp := Lib.hid hLp
              replace hLe := Lib.hid hLe
              replace hin := Lib.hid hin
              obtain ⟨iv, hiv⟩ : ∃ iv, iv = rw' ^ (p - 2) % p := ⟨_, rfl⟩
              have hivp : iv < p := by rw [hiv]; exact Nat.mod_lt _ (by omega)
              have CI := fun (W : World) => finv_c p rw' W hp2 (by omega) (by omega)
              rw [← hiv] at CI
              have CZ := fun (W : World) (hW : Arr W bx L) => run_c p bx k iv L W hφ (by omega) hpB hk hW (by rw [hLl.out, HNK.out]) hLp.out hivp (by
                rcases HPP.out.root hφ k hk with h | h
                · exact .inl h
                · right
                  have h1 := HPP.out.back hφ k
                  rw [← hrw.out, ← hiv] at h1
                  have h2 : pw (φ rw' * φ iv) (2 ^ (k - 1)) = 1 := by rw [h1, pw_one]
                  rw [pw_base, hrw.out, h] at h2
                  grind)
              rw [← HNK.out] at CZ
              unfold fld at CI CZ
              replace CI := Lib.hid CI
              replace CZ := Lib.hid CZ
              replace hiv := Lib.hid hiv
              have hd := (Below.refl wr.heap.size wr).drew
              have gp := cbl hd hcp
              have gb := hb6.cons hd
              have gL := hL.below hd
              clear hLv ho hX5 hc5 hb5 hs5 hi
              go_wp2_with (fail)
              go_region_held3 (fun W => W.cell? ⟨w.heap.size, 0, none⟩ = some (.int .u64 (p : Nat)))
                (first
                  | exact gp
                  | exact gp7
                  | exact gp8
                  | go_keep)
                (first
                  | (go_at_call 161; (with_reducible refine (CI.out _).mono ?_); rintro e W7 ⟨rfl, hb7⟩; have gp7 := cbl hb7 gp; have gb7 := gb.cons hb7; have gL7 := gL.below hb7)
                  | (go_at_call 170; (with_reducible refine (CZ.out _ gL7).mono ?_); rintro e W8 ⟨rfl, ho8, Z, hZ, hZl, hZp, hZv⟩; have gp8 := ho8.cell gp7 hsx; have gb8 := gb7.trans (ho8.below hlx gb7.size)))
              replace hZl := Lib.hid hZl
              replace hZp := Lib.hid hZp
              replace hZv := Lib.hid hZv
              have hs8 := gb8.size
              obtain ⟨ov, hov⟩ : ∃ ov, ov = n ^ (p - 2) % p := ⟨_, rfl⟩
              have hovp : ov < p := by rw [hov]; exact Nat.mod_lt _ (by omega)
              have CO := fun (W : World) => finv_c p n W hp2 (by omega) (by omega)
              rw [← hov] at CO
              unfold fld at CO
              replace CO := Lib.hid CO
              replace hov := Lib.hid hov
              have zn : IntKind.u64.wrap (n : Int) = (n : Int) := IntWalk.u64_in _ (by omega)
              have hd8 := (Below.refl W8.heap.size W8).drew
              have g9 := cbl hd8 gp8
              have gb9 := gb8.cons hd8
              have gZ9 := hZ.below hd8
              clear gp gb gL gp7 gb7 gL7 hcp hb6 hs6 CI CZ ho8
              go_wp2_with (fail)
              go_region_held3 (fun W => W.cell? ⟨w.heap.size, 0, none⟩ = some (.int .u64 (p : Nat)))
                (first
                  | exact g9
                  | exact g10
                  | go_keep)
                (first
                  | (go_at_call 161; (with_reducible refine (CO.out _).mono ?_); rintro e W10 ⟨rfl, hb10⟩; have g10 := cbl hb10 g9; have gb10 := gb9.cons hb10; have gZ10 := gZ9.below hb10))
              clear g9 gb9 gZ9 hd8 CO hs8
              have hs10 := gb10.size
              obtain ⟨WA, rfl⟩ : ∃ WA : World, WA = W10 := ⟨_, rfl⟩
              go_wp2_with (fail)
              go_loopw [18, 102] (fun vi ct wr => ∃ (i : Nat) (L : List Nat), ct = .int .i64 i ∧ i ≤ n ∧ Only bx WA wr ∧ Arr wr bx L ∧ Hid (L.length = n) ∧ Hid (∀ t, gl L t = if t < i then gl Z t * ov % p else gl Z t)) (fun vi ct wr => n - (intOf ct).toNat)
              case atStart => exact ⟨0, Z, rfl, Nat.zero_le _, .refl _ _, gZ10, Lib.hid hZl.out, Lib.hid (fun t => by rw [if_neg (by omega)])⟩
              case round =>
                obtain ⟨i, L, rfl, hi, ho, hL, hLl, hLv⟩ := hrel
                by_cases hlt : i < n
                · have hcp := ho.cell g10 hsx
                  have q1 := hL.cell i (by rw [hLl.out]; exact hlt)
                  have hxv : gl L i = gl Z i := by rw [hLv.out i, if_neg (by omega)]
                  have hxp := hZp.out i
                  obtain ⟨x, hx⟩ : ∃ x, x = gl Z i := ⟨_, rfl⟩
                  rw [hxv, ← hx] at q1
                  rw [← hx] at hxp
                  obtain ⟨z, hz⟩ : ∃ z, z = x * ov % p := ⟨_, rfl⟩
                  have CM := fun (W : World) => fmul_c p x ov W (by omega) (by omega) (by omega) (by omega)
                  rw [← hz] at CM
                  unfold fld at CM
                  replace CM := Lib.hid CM
                  replace hx := Lib.hid hx
                  replace hz := Lib.hid hz
                  have hd := (Below.refl wr.heap.size wr).drew
                  have gp := cbl hd hcp
                  have g1 := cbl hd q1
                  clear hxv
                  go_wp2_with (fail)
                  go_region_with (go_at_call 162; (with_reducible refine (CM.out _).mono ?_); rintro e V4 ⟨rfl, hbv⟩; have hLV := (show Arr wr.drew bx L from hL).below hbv; have fz := hLV.frozen i; have hcq := hLV.cell i (by rw [hLl.out]; exact hlt))
                  all_goals
                    go_wp2_with (fail)
                    go_roundw
                    case rel =>
                      refine ⟨i + 1, L.set i z, by go_num, by omega, (ho.drew.cons hbv).store _ _, hLV.store i z, Lib.hid (by simp [hLl.out]), Lib.hid (fun t => ?_)⟩
                      exact step_set (fun t => gl Z t * ov % p) (fun t => gl Z t) hlt hLl.out (by rw [hz.out, hx.out]) hLv.out t
                    case measure => simp only [intOf]; omega
                · have hin2 : i = n := by omega
                  have hfin : ∀ t, t < n → gl L t = cv (gl (limbs a)) (gl (limbs b)) (nl a) t % p := fun t ht => by
                    rw [hLv.out t, if_pos (by omega), hov.out, HNK.out]
                    refine conv_math HPP.out hφ k (nl a) (nl b) hk (gl (limbs a)) (gl (limbs b)) (gl X) (gl Y) (gl Z) (fun i hi => gl_of_le hi) (fun i hi => gl_of_le hi) (by rw [← HNK.out]; exact hN) (nl_pos.2 hb) (by rw [← HNK.out]; exact hla) (by rw [← HNK.out]; exact hlb) ?_ ?_ ?_ t (by rw [← HNK.out]; exact ht)
                    · intro t ht
                      rw [hXv.out t (by rw [HNK.out]; exact ht), HNK.out, hrw.out]
                      refine sm_congr fun j _ => ?_
                      show φ (gl M j) * _ = _
                      rw [hMp.out j, hφ.modp]
                    · intro t ht
                      rw [hYv.out t (by rw [HNK.out]; exact ht), HNK.out, hrw.out]
                      refine sm_congr fun j _ => ?_
                      show φ (gl Q j) * _ = _
                      rw [hQp.out j, hφ.modp]
                    · intro t ht
                      rw [hZv.out t (by rw [HNK.out]; exact ht), HNK.out, hiv.out, hrw.out]
                      refine sm_congr fun j hj => ?_
                      show φ (gl _ j) * _ = _
                      rw [hLe.out j (by rw [HNK.out]; exact hj)]
                  go_wp2_with (fail)
                  go_ret
                  exact ⟨bx, L, rfl, hlx, hL, hLl.out, hfin, gb10.trans (ho.below hlx hs10)⟩
end Go.Proofs.YtacjfpibilolnaaGreatDoor
