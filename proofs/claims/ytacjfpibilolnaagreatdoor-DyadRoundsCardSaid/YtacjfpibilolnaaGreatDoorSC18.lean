/- The values of a natural, taken as a polynomial of thirds, at three points. -/
import Derived.Test.YtacjfpibilolnaaGreatDoorSC15
import Derived.WalkSmall
import Derived.Test.YtacjfpibilolnaaGreatDoorSC01
import Derived.Test.YtacjfpibilolnaaGreatDoorSC02
import Derived.Laws.BitsAllLaws
import Derived.Test.YtacjfpibilolnaaGreatDoorSC10
import Derived.Test.YtacjfpibilolnaaGreatDoorSC07
import Derived.Test.YtacjfpibilolnaaGreatDoorSC09
import Derived.Stop.RegionWithIn
set_option maxRecDepth 100000
set_option maxHeartbeats 4000000
set_option linter.unusedVariables false
set_option linter.unusedSimpArgs false
namespace Go.Proofs.YtacjfpibilolnaaGreatDoor
open Go.RowKit Go.Shelf
attribute [local go_sem] max2_i min2_i max_two min_two

end Go.Proofs.YtacjfpibilolnaaGreatDoor

/- Toom's product. -/
set_option linter.unusedVariables false
set_option linter.unusedSimpArgs false
namespace Go.Proofs.YtacjfpibilolnaaGreatDoor
open Go.RowKit Go.Shelf
attribute [local go_sem] max2_i min2_i max_two min_two

end Go.Proofs.YtacjfpibilolnaaGreatDoor

/- Toom's product: the walk. -/
set_option linter.unusedVariables false
set_option linter.unusedSimpArgs false
namespace Go.Proofs.YtacjfpibilolnaaGreatDoor
open Go.RowKit Go.Shelf
attribute [local go_sem] max2_i min2_i max_two min_two


end Go.Proofs.YtacjfpibilolnaaGreatDoor

/- Rows of three limbs, carried. -/
set_option linter.unusedVariables false
set_option linter.unusedSimpArgs false
namespace Go.Proofs.YtacjfpibilolnaaGreatDoor
open Go.RowKit Go.Shelf



end Go.Proofs.YtacjfpibilolnaaGreatDoor

/- Reckoning modulo a prime: the functions of ntt.field. -/
set_option linter.unusedVariables false
set_option linter.unusedSimpArgs false
namespace Go.Proofs.YtacjfpibilolnaaGreatDoor
open Go.RowKit Go.Shelf








end Go.Proofs.YtacjfpibilolnaaGreatDoor

/- Transforms over a commutative ring: sums, powers, the transform and back, and the sums of products. -/
set_option linter.unusedVariables false
set_option linter.unusedSimpArgs false
namespace Go.Proofs.YtacjfpibilolnaaGreatDoor

def sm {R : Type} [Add R] [OfNat R 0] (f : Nat → R) : Nat → R
  | 0 => 0
  | n + 1 => sm f n + f n
/-- The sums of products of a's first n numbers with b's. -/
def cv {R : Type} [Add R] [Mul R] [OfNat R 0] (a b : Nat → R) (n j : Nat) : R := sm (fun s => if s ≤ j then a s * b (j - s) else 0) n

section
variable {p : Nat} [NeZero p]


end

namespace NatS


end NatS

section
variable {p : Nat} [NeZero p]



end
end Go.Proofs.YtacjfpibilolnaaGreatDoor

/- The library's bits.Reverse64, walked. -/
set_option linter.unusedVariables false
set_option linter.unusedSimpArgs false
namespace Go.Proofs.YtacjfpibilolnaaGreatDoor
open Go.RowKit



end Go.Proofs.YtacjfpibilolnaaGreatDoor

/- Numbers modulo p as a ring; what the transform's loops keep. -/
set_option linter.unusedVariables false
set_option linter.unusedSimpArgs false
namespace Go.Proofs.YtacjfpibilolnaaGreatDoor

/-- φ reads a number modulo p. -/
structure Hom (p : Nat) [NeZero p] (φ : Nat → Fin p) : Prop where
  add : ∀ a b, φ (a + b) = φ a + φ b
  mul : ∀ a b, φ (a * b) = φ a * φ b
  one : φ 1 = 1
  modp : ∀ n, φ (n % p) = φ n
  inj : ∀ a b, φ a = φ b → a % p = b % p

section
variable {p : Nat} [NeZero p] {φ : Nat → Fin p}
theorem Hom.zero (h : Hom p φ) : φ 0 = 0 := by
  have := h.add 0 0
  rw [Nat.add_zero] at this; grind
end



end Go.Proofs.YtacjfpibilolnaaGreatDoor

/- Rows of 64-bit numbers in memory; the transform, walked. -/
set_option linter.unusedVariables false
set_option linter.unusedSimpArgs false
namespace Go.Proofs.YtacjfpibilolnaaGreatDoor
open Go.RowKit Go.Shelf

def v64 (L : List Nat) : List Value := L.map fun n => .int .u64 (n : Nat)
/-- Block b is the row L. -/
def Arr (W : World) (b : Nat) (L : List Nat) : Prop := W.heap[b]? = some (.cells (v64 L).toArray 94 (0, 0))
theorem Arr.cell {W b L} (h : Arr W b L) (i : Nat) (hi : i < L.length) : W.cell? ⟨b, i, none⟩ = some (.int .u64 (gl L i : Nat)) := by
  unfold World.cell?; rw [h]; simp [v64, gl, hi]
theorem Arr.frozen {W b L} (h : Arr W b L) (i : Nat) : W.frozen? ⟨b, i, none⟩ = false := by
  unfold World.frozen?; rw [h]; simp
theorem Arr.store {W b L} (h : Arr W b L) (i x : Nat) : Arr (W.setCell ⟨b, i, none⟩ (.int .u64 (x : Nat))) b (L.set i x) := by
  unfold Arr
  rw [heap_setCell_same W b i _ _ _ h]
  simp [v64, List.map_set]
theorem Arr.keep {W W' b L} (h : Arr W b L) (k : W'.heap[b]? = W.heap[b]?) : Arr W' b L := k.trans h
theorem Arr.lt {W b L} (h : Arr W b L) : b < W.heap.size := (Array.getElem?_eq_some_iff.1 h).1
theorem Arr.below {W W' b L} (h : Arr W b L) (k : Below W.heap.size W W') : Arr W' b L := h.keep (k.block b h.lt)
/-- The worlds part in block b alone, and in new ones. -/
structure Only (b : Nat) (W W' : World) : Prop where
  os : W'.os = W.os
  tape : W'.tape = W.tape
  output : W'.output = W.output
  size : W.heap.size ≤ W'.heap.size
  block : ∀ k, k < W.heap.size → k ≠ b → W'.heap[k]? = W.heap[k]?
theorem Only.refl (b W) : Only b W W := ⟨rfl, rfl, rfl, Nat.le_refl _, fun _ _ _ => rfl⟩
theorem Only.of {b W W'} (h : Below W.heap.size W W') : Only b W W' := ⟨h.os, h.tape, h.output, h.size, fun k hk _ => h.block k hk⟩
theorem Only.trans {b A B C} (h : Only b A B) (k : Only b B C) : Only b A C :=
  ⟨k.os.trans h.os, k.tape.trans h.tape, k.output.trans h.output, Nat.le_trans h.size k.size, fun i hi hb => (k.block i (Nat.lt_of_lt_of_le hi h.size) hb).trans (h.block i hi hb)⟩
theorem Only.cons {b A B C} (h : Only b A B) (k : Below B.heap.size B C) : Only b A C := h.trans (.of k)
theorem Only.drew {b A B} (h : Only b A B) : Only b A B.drew := h.trans (.of (Below.refl _ _).drew)
theorem Only.set (b W i v) : Only b W (W.setCell ⟨b, i, none⟩ v) := by
  have h := (Below.refl b W).setCell (p := ⟨b, i, none⟩) (Nat.le_refl _) v
  exact ⟨h.os, h.tape, h.output, h.size, fun k _ hb => Below.heap_setCell W ⟨b, i, none⟩ v k hb⟩
theorem Only.store {b A B} (h : Only b A B) (i v) : Only b A (B.setCell ⟨b, i, none⟩ v) := h.trans (.set b B i v)
theorem Only.below {b n A B} (h : Only b A B) (hb : n ≤ b) (hn : n ≤ A.heap.size) : Below n A B := ⟨h.os, h.tape, h.output, h.size, fun k hk => h.block k (by omega) (by omega)⟩
theorem Only.cell {b A B p v} (h : Only b A B) (k : A.cell? p = some v) (hp : p.block ≠ b) : B.cell? p = some v :=
  (World.cell?_of_block (w := A) (a := p) (h.block p.block (World.block_lt_of_cell? A p k) hp)).trans k


end Go.Proofs.YtacjfpibilolnaaGreatDoor

/- Division by school, walked: a multiple taken away, given back. -/
set_option linter.unusedVariables false
set_option linter.unusedSimpArgs false
namespace Go.Proofs.YtacjfpibilolnaaGreatDoor
open Go.RowKit Go.Shelf
attribute [local go_sem] max2_i min2_i max_two min_two

/-- Block g begins with the row X. -/
def A32 (W : World) (g : Nat) (X : List Nat) : Prop := ∃ cur : Array Value, W.heap[g]? = some (.cells cur 58 (0, 0)) ∧ X.length ≤ cur.size ∧ cur.toList.take X.length = vals X
theorem A32.cell {W g X} (h : A32 W g X) (i : Nat) (hi : i < X.length) : W.cell? ⟨g, i, none⟩ = some (.int .u32 (gl X i : Nat)) := by
  obtain ⟨cur, h1, h2, h3⟩ := h
  have h4 := vals_get X i hi
  rw [← h3, List.getElem?_take_of_lt hi, Array.getElem?_toList] at h4
  unfold World.cell?; rw [h1]; simpa using h4
theorem A32.frozen {W g X} (h : A32 W g X) (i : Nat) : W.frozen? ⟨g, i, none⟩ = false := by
  obtain ⟨cur, h1, _⟩ := h
  unfold World.frozen?; rw [h1]; simp
theorem A32.store {W g X} (h : A32 W g X) (i x : Nat) : A32 (W.setCell ⟨g, i, none⟩ (.int .u32 (x : Nat))) g (X.set i x) := by
  obtain ⟨cur, h1, h2, h3⟩ := h
  refine ⟨_, heap_setCell_same W g i _ _ _ h1, by simpa using h2, ?_⟩
  rw [List.length_set, vals_set, ← h3, Array.toList_setIfInBounds, List.take_set]
theorem A32.lt {W g X} (h : A32 W g X) : g < W.heap.size := by
  obtain ⟨cur, h1, _⟩ := h
  exact (Array.getElem?_eq_some_iff.1 h1).1
theorem A32.below {W W' g X} (h : A32 W g X) (k : Below W.heap.size W W') : A32 W' g X := by
  have hl := h.lt
  obtain ⟨cur, h1, h2⟩ := h
  exact ⟨cur, (k.block g hl).trans h1, h2⟩
theorem A32.other {W W' g b X} (h : A32 W g X) (k : Only b W W') (hb : g ≠ b) : A32 W' g X := by
  have hl := h.lt
  obtain ⟨cur, h1, h2⟩ := h
  exact ⟨cur, (k.block g hl hb).trans h1, h2⟩
theorem Only.nat {g : Nat} {W W' : World} {A : Option Addr} {c n : Nat} (h : Only g W W') (k : NatV W A c n) (far : ∀ ad, A = some ad → ad.block ≠ g) : NatV W' A c n := by
  refine ⟨?_, k.cap, k.cmax⟩
  rcases k.rd with h1 | ⟨ad, rfl, h1⟩
  · exact .inl h1
  · refine .inr ⟨ad, rfl, fun i v hv => h.cell (h1 i v hv) ?_⟩
    show (Addr.add ad i).block ≠ g
    unfold Addr.add; split <;> exact far ad rfl
theorem gl_set1 {l : List Nat} {i x : Nat} (h : i < l.length) : gl (l.set i x) i = x := by simp [gl, List.getD_eq_getElem?_getD, h]
theorem wnd_set {X : List Nat} {i k x : Nat} (h : i + k < X.length) : wnd (X.set (i + k) x) i (k + 1) = wnd X i k + 4294967296 ^ k * x := by
  rw [wnd, gl_set1 h, wnd_congr (Y := X) (fun j hj => gl_set_ne (by omega))]
theorem take_step {M X : List Nat} {i k q y cr br p d o lo br' cr' yk : Nat} (hl : i + k < M.length) (hv : wnd M i k + q * (y % 4294967296 ^ k) = wnd X i k + 4294967296 ^ k * (cr + br)) (ho : gl X (i + k) = o) (hy : yk = y / 4294967296 ^ k % 4294967296) (hp : p = q * yk + cr) (hc : cr' = p / 4294967296) (hlo : lo = p % 4294967296) (hd : o + 4294967296 * br' = d + lo + br) :
    wnd (M.set (i + k) d) i (k + 1) + q * (y % 4294967296 ^ (k + 1)) = wnd X i (k + 1) + 4294967296 ^ (k + 1) * (cr' + br') := by
  rw [wnd_set hl, wnd, ho, mod_dig, ← hy, Nat.pow_succ]
  have h1 := Nat.div_add_mod p 4294967296
  rw [← hc, ← hlo] at h1
  generalize 4294967296 ^ k = P at *
  generalize y % P = ym at *
  generalize wnd M i k = m at *
  generalize wnd X i k = x at *
  have e1 : q * yk + cr + br + d = o + 4294967296 * br' + 4294967296 * cr' := by omega
  grind
theorem take_c (g i n c : Nat) (X : List Nat) (B : Option Addr) (d y q : Nat) (w : World) (hX : A32 w g X) (hXl : Lim X) (hin : i + n + 1 ≤ X.length) (hXb : X.length ≤ 1073741824) (hc : n + 1 ≤ c) (hB : NatV w B d y) (hyn : nl y = n) (far : ∀ ad, B = some ad → ad.block ≠ g) (hq : q < 4294967296) :
    Calls Tryz.prog 144 #[.slice (some ⟨g, i, none⟩) (n + 1 : Nat) c, .slice B n d, .int .u64 (q : Nat)] w fun e w' => ∃ (X' : List Nat) (br : Nat), e = .returned (.bool (decide (0 < br))) ∧ br ≤ 1 ∧ Only g w w' ∧ A32 w' g X' ∧ Lim X' ∧ X'.length = X.length ∧ (∀ j, j < i ∨ i + n < j → gl X' j = gl X j) ∧ wnd X' i (n + 1) + q * y = wnd X i (n + 1) + 4294967296 ^ (n + 1) * br := by
  replace hyn := Lib.hid hyn
  have hXL := Lib.hid (rfl : X.length = X.length)
  obtain ⟨N, hN⟩ : ∃ N, N = X.length := ⟨_, rfl⟩
  rw [← hN] at hin hXb
  replace hN := Lib.hid hN
  replace far := Lib.hid far
  clear hXL
  go_enter Tryz.func144, Tryz.ntmps144
  go_wp2_with (fail)
  go_loopw [7, 8, 9, 10, 14] (fun vc vb vi vp ct wr => ∃ (k cr br : Nat) (M : List Nat), ct = .int .i64 k ∧ vc = .int .u64 cr ∧ vb = .int .u32 br ∧ k ≤ n + 1 ∧ cr < 4294967296 ∧ br ≤ 1 ∧ Only g w wr ∧ A32 wr g M ∧ Lim M ∧ Hid (M.length = N) ∧ Hid (∀ j, j < i ∨ i + k ≤ j → gl M j = gl X j) ∧ Hid (wnd M i k + q * (y % 4294967296 ^ k) = wnd X i k + 4294967296 ^ k * (cr + br)) ∧ Hid (k = n + 1 → cr = 0)) (fun vc vb vi vp ct wr => n + 1 - (intOf ct).toNat)
  case atStart => exact ⟨0, 0, 0, X, rfl, rfl, rfl, Nat.zero_le _, by decide, by decide, .refl _ _, hX, hXl, Lib.hid hN.out.symm, Lib.hid (fun _ _ => rfl), Lib.hid (by simp [wnd, Nat.mod_one]), Lib.hid (fun h => by omega)⟩
  case round =>
    obtain ⟨k, cr, br, M, rfl, rfl, rfl, hk, hcr, hbr, ho, hM, hMl, hlen, hout, hval, hend⟩ := hrel
    by_cases hlt : k < n + 1
    · have hik : i + k < M.length := by rw [hlen.out]; omega
      have hd0 : decide ((k : Int) < (n : Int) + 1) = true := by simp; omega
      have hcell := hM.cell (i + k) hik
      have hfz := hM.frozen (i + k)
      have hox := hout.out (i + k) (.inr (Nat.le_refl _))
      obtain ⟨o, hoo⟩ : ∃ o, o = gl M (i + k) := ⟨_, rfl⟩
      have hol : o < 4294967296 := by rw [hoo]; exact hMl.gl _
      rw [← hoo] at hcell hox
      obtain ⟨yk, hyk⟩ : ∃ z, z = y / 4294967296 ^ k % 4294967296 := ⟨_, rfl⟩
      have hykl : yk < 4294967296 := by rw [hyk]; exact dig_lt _ _
      obtain ⟨p, hp⟩ : ∃ p, p = q * yk + cr := ⟨_, rfl⟩
      have hpl : p ≤ 18446744069414584320 := by rw [hp]; have := mul_bd hq hykl; omega
      obtain ⟨lo, hlo⟩ : ∃ z, z = p % 4294967296 := ⟨_, rfl⟩
      have hloI : (p : Int) % 4294967296 = (lo : Int) := by omega
      have hlol : lo < 4294967296 := by omega
      obtain ⟨cr', hcr'⟩ : ∃ z, z = p / 4294967296 := ⟨_, rfl⟩
      have hcrI : (p : Int) / 4294967296 = (cr' : Int) := by omega
      have hcrl : cr' < 4294967296 := by omega
      have CS := sub32_c o lo br wr hol hlol hbr
      have hde := dif_eq hol hlol hbr
      have hdl := dif_lt o lo br
      have hbl := brw_le o lo br
      obtain ⟨dd, hdd⟩ : ∃ z, z = dif o lo br := ⟨_, rfl⟩
      obtain ⟨bb, hbb⟩ : ∃ z, z = brw o lo br := ⟨_, rfl⟩
      rw [← hdd, ← hbb] at CS hde
      rw [← hdd] at hdl
      rw [← hbb] at hbl
      have hst := hM.store (i + k) dd
      have hfin := take_step hik hval.out hox.symm hyk hp hcr' hlo hde
      have hgo : Hid (∀ j, j < i ∨ i + (k + 1) ≤ j → gl (M.set (i + k) dd) j = gl X j) := Lib.hid (fun j hj => by rw [gl_set_ne (by omega)]; exact hout.out j (by omega))
      have hle : Hid ((M.set (i + k) dd).length = N) := Lib.hid (by rw [List.length_set]; exact hlen.out)
      replace CS := Lib.hid CS
      replace hfin := Lib.hid hfin
      replace hik := Lib.hid hik
      replace hoo := Lib.hid hoo
      replace hlo := Lib.hid hlo
      replace hcr' := Lib.hid hcr'
      replace hdd := Lib.hid hdd
      replace hbb := Lib.hid hbb
      clear hde
      replace hox := Lib.hid hox
      by_cases hkn : k < n
      · obtain ⟨ad, hade, hcy⟩ := (ho.nat hB far.out).rd.get k (by show k < nl y; rw [hyn.out]; exact hkn)
        rw [limbs_gl, ← hyk] at hcy
        subst hade
        replace hyk := Lib.hid hyk
        obtain ⟨r, hr⟩ : ∃ r, r = q * yk := ⟨_, rfl⟩
        have hrI : (q : Int) * (yk : Int) = (r : Int) := by rw [hr]; exact (Int.natCast_mul q yk).symm
        have hrl : r ≤ 18446744065119617025 := by rw [hr]; exact mul_bd hq hykl
        have hpI : (r : Int) + (cr : Int) = (p : Int) := by rw [hp, hr]; simp
        replace hp := Lib.hid hp
        replace hr := Lib.hid hr
        go_wp2_with (fail)
        refine CS.out.mono ?_
        rintro e w' ⟨rfl, hww⟩
        subst hww
        go_wp2_with (fail)
        go_roundw
        case rel => exact ⟨k + 1, cr', bb, M.set (i + k) dd, by go_num, by first | rfl | trivial, by first | rfl | trivial, by omega, hcrl, hbl, ho.store _ _, hst, hMl.set _ _ hdl, hle, hgo, hfin, Lib.hid (fun h => by omega)⟩
        case measure => simp only [intOf]; omega
      · have hk2 : k = n := by omega
        have hy0 : yk = 0 := by rw [hyk, hk2, div_nl (Nat.le_of_eq hyn.out), Nat.zero_mod]
        have hpc : p = cr := by rw [hp, hy0]; simp
        have hc0 : cr' = 0 := by rw [hcr'.out]; omega
        have hlp : lo = p := by rw [hlo.out]; omega
        have CS2 := CS.out
        rw [hlp] at CS2
        replace CS2 := Lib.hid CS2
        clear hloI
        replace hlp := Lib.hid hlp
        subst hpc
        replace hc0 := Lib.hid hc0
        replace hk2 := Lib.hid hk2
        replace hy0 := Lib.hid hy0
        replace hyk := Lib.hid hyk
        replace hp := Lib.hid hp
        go_wp2_with (fail)
        refine CS2.out.mono ?_
        rintro e w' ⟨rfl, hww⟩
        subst hww
        go_wp2_with (fail)
        go_roundw
        case rel => exact ⟨k + 1, cr', bb, M.set (i + k) dd, by go_num, by first | rfl | trivial, by first | rfl | trivial, by omega, hcrl, hbl, ho.store _ _, hst, hMl.set _ _ hdl, hle, hgo, hfin, Lib.hid (fun h => hc0.out)⟩
        case measure => simp only [intOf]; omega
    · have hk2 : k = n + 1 := by omega
      have hc0 := hend.out hk2
      have h1 := hval.out
      rw [hk2, hc0, mod_nl (show nl y ≤ n + 1 by rw [hyn.out]; omega), Nat.zero_add] at h1
      have h2 : ∀ j, j < i ∨ i + n < j → gl M j = gl X j := fun j hj => hout.out j (by omega)
      have h3 : M.length = X.length := by rw [hlen.out, hN.out]
      replace h1 := Lib.hid h1
      replace h2 := Lib.hid h2
      replace h3 := Lib.hid h3
      replace hk2 := Lib.hid hk2
      replace hc0 := Lib.hid hc0
      go_wp2_with (fail)
      go_ret
      exact ⟨M, br, by first | rfl | (congr 2; simp), hbr, ho, hM, hMl, h3.out, h2.out, h1.out⟩
theorem back_step {M X : List Nat} {i k y cr o yk : Nat} (hl : i + k < M.length) (hv : wnd M i k + 4294967296 ^ k * cr = wnd X i k + y % 4294967296 ^ k) (ho : gl X (i + k) = o) (hy : yk = y / 4294967296 ^ k % 4294967296) :
    wnd (M.set (i + k) ((o + yk + cr) % 4294967296)) i (k + 1) + 4294967296 ^ (k + 1) * ((o + yk + cr) / 4294967296) = wnd X i (k + 1) + y % 4294967296 ^ (k + 1) := by
  rw [wnd_set hl, wnd, ho, mod_dig, ← hy, Nat.pow_succ]
  have h1 := Nat.div_add_mod (o + yk + cr) 4294967296
  generalize (o + yk + cr) % 4294967296 = s at *
  generalize (o + yk + cr) / 4294967296 = c at *
  generalize 4294967296 ^ k = P at *
  generalize y % P = ym at *
  generalize wnd M i k = m at *
  generalize wnd X i k = x at *
  grind
theorem back_c (g i n c : Nat) (X : List Nat) (B : Option Addr) (d y : Nat) (w : World) (hX : A32 w g X) (hXl : Lim X) (hin : i + n + 1 ≤ X.length) (hXb : X.length ≤ 1073741824) (hc : n + 1 ≤ c) (hB : NatV w B d y) (hyn : nl y = n) (far : ∀ ad, B = some ad → ad.block ≠ g) :
    Calls Tryz.prog 145 #[.slice (some ⟨g, i, none⟩) (n + 1 : Nat) c, .slice B n d] w fun e w' => ∃ (X' : List Nat) (cc : Nat), e = .returned (.tuple #[]) ∧ Only g w w' ∧ A32 w' g X' ∧ Lim X' ∧ X'.length = X.length ∧ (∀ j, j < i ∨ i + n < j → gl X' j = gl X j) ∧ wnd X' i (n + 1) + 4294967296 ^ (n + 1) * cc = wnd X i (n + 1) + y := by
  replace hyn := Lib.hid hyn
  obtain ⟨N, hN⟩ : ∃ N, N = X.length := ⟨_, rfl⟩
  rw [← hN] at hin hXb
  replace hN := Lib.hid hN
  replace far := Lib.hid far
  go_enter Tryz.func145, Tryz.ntmps145
  go_wp2_with (fail)
  go_loopw [4, 5, 8] (fun vc vi ct wr => ∃ (k cr : Nat) (M : List Nat), ct = .int .i64 k ∧ vc = .int .u32 cr ∧ k ≤ n ∧ cr ≤ 1 ∧ Only g w wr ∧ A32 wr g M ∧ Lim M ∧ Hid (M.length = N) ∧ Hid (∀ j, j < i ∨ i + k ≤ j → gl M j = gl X j) ∧ Hid (wnd M i k + 4294967296 ^ k * cr = wnd X i k + y % 4294967296 ^ k)) (fun vc vi ct wr => n - (intOf ct).toNat)
  case atStart => exact ⟨0, 0, X, rfl, rfl, Nat.zero_le _, by decide, .refl _ _, hX, hXl, Lib.hid hN.out.symm, Lib.hid (fun _ _ => rfl), Lib.hid (by simp [wnd, Nat.mod_one])⟩
  case round =>
    obtain ⟨k, cr, M, rfl, rfl, hk, hcr, ho, hM, hMl, hlen, hout, hval⟩ := hrel
    by_cases hlt : k < n
    · have hik : i + k < M.length := by rw [hlen.out]; omega
      have hMd : A32 wr.drew g M := hM
      have hcell := hMd.cell (i + k) hik
      have hfz := hMd.frozen (i + k)
      have hox := hout.out (i + k) (.inr (Nat.le_refl _))
      obtain ⟨o, hoo⟩ : ∃ o, o = gl M (i + k) := ⟨_, rfl⟩
      have hol : o < 4294967296 := by rw [hoo]; exact hMl.gl _
      rw [← hoo] at hcell hox
      obtain ⟨yk, hyk⟩ : ∃ z, z = y / 4294967296 ^ k % 4294967296 := ⟨_, rfl⟩
      have hykl : yk < 4294967296 := by rw [hyk]; exact dig_lt _ _
      have hfin := back_step (cr := cr) hik hval.out hox.symm hyk
      have CA := fun (W : World) => add32_c o yk cr W hol hykl hcr
      obtain ⟨s, hs⟩ : ∃ z, z = (o + yk + cr) % 4294967296 := ⟨_, rfl⟩
      obtain ⟨c', hc'⟩ : ∃ z, z = (o + yk + cr) / 4294967296 := ⟨_, rfl⟩
      have hsl : s < 4294967296 := by rw [hs]; exact Nat.mod_lt _ (by decide)
      have hcl : c' ≤ 1 := by omega
      rw [← hs, ← hc'] at hfin CA
      have hst := hMd.store (i + k) s
      have hgo : Hid (∀ j, j < i ∨ i + (k + 1) ≤ j → gl (M.set (i + k) s) j = gl X j) := Lib.hid (fun j hj => by rw [gl_set_ne (by omega)]; exact hout.out j (by omega))
      have hle : Hid ((M.set (i + k) s).length = N) := Lib.hid (by rw [List.length_set]; exact hlen.out)
      obtain ⟨ad, hade, hcy⟩ := (ho.drew.nat hB far.out).rd.get k (by show k < nl y; rw [hyn.out]; exact hlt)
      rw [limbs_gl, ← hyk] at hcy
      subst hade
      have hik2 : k < n + 1 := by omega
      replace CA := Lib.hid CA
      replace hfin := Lib.hid hfin
      replace hik := Lib.hid hik
      replace hoo := Lib.hid hoo
      replace hox := Lib.hid hox
      replace hs := Lib.hid hs
      replace hc' := Lib.hid hc'
      replace hyk := Lib.hid hyk
      go_wp2_with (fail)
      go_region_with (go_at_call 129; (with_reducible refine (CA.out _).mono ?_); rintro e w' ⟨rfl, rfl⟩)
      all_goals
        go_wp2_with (fail)
        go_roundw
        case rel => exact ⟨k + 1, c', M.set (i + k) s, by go_num, by first | rfl | trivial, by omega, hcl, ho.drew.store _ _, hst, hMl.set _ _ hsl, hle, hgo, hfin⟩
        case measure => simp only [intOf]; omega
    · have hk2 : k = n := by omega
      have hik : i + n < M.length := by rw [hlen.out]; omega
      have hcell := hM.cell (i + n) hik
      have hfz := hM.frozen (i + n)
      have hox := hout.out (i + n) (.inr (by omega))
      obtain ⟨o, hoo⟩ : ∃ o, o = gl M (i + n) := ⟨_, rfl⟩
      have hol : o < 4294967296 := by rw [hoo]; exact hMl.gl _
      rw [← hoo] at hcell hox
      have h1 := hval.out
      rw [hk2] at h1
      have hfin := back_step (cr := cr) hik h1 hox.symm rfl
      rw [div_nl (show nl y ≤ n by rw [hyn.out]; exact Nat.le_refl _), Nat.zero_mod, mod_nl (show nl y ≤ n + 1 by rw [hyn.out]; omega), Nat.add_zero] at hfin
      obtain ⟨s, hs⟩ : ∃ z, z = (o + cr) % 4294967296 := ⟨_, rfl⟩
      have hsI : ((o : Int) + (cr : Int)) % 4294967296 = (s : Int) := by omega
      have hsl : s < 4294967296 := by omega
      rw [← hs] at hfin
      have hst := hM.store (i + n) s
      have h2 : ∀ j, j < i ∨ i + n < j → gl (M.set (i + n) s) j = gl X j := fun j hj => by rw [gl_set_ne (by omega)]; exact hout.out j (by omega)
      have h3 : (M.set (i + n) s).length = X.length := by rw [List.length_set, hlen.out, hN.out]
      replace h2 := Lib.hid h2
      replace h3 := Lib.hid h3
      replace hfin := Lib.hid hfin
      replace hik := Lib.hid hik
      replace hoo := Lib.hid hoo
      replace hox := Lib.hid hox
      replace hs := Lib.hid hs
      replace hk2 := Lib.hid hk2
      clear h1
      go_wp2_with (fail)
      refine bodyPost_end (v := .tuple #[]) (by simp [results, Tryz.results145, go_sem]) rfl ?_
      refine ⟨M.set (i + n) s, _, rfl, ?_, ?_, hMl.set _ _ hsl, h3.out, h2.out, hfin.out⟩
      · first | exact ho.store _ _ | (simp only [hsI]; exact ho.store _ _)
      · first | exact hst | (simp only [hsI]; exact hst)
end Go.Proofs.YtacjfpibilolnaaGreatDoor
