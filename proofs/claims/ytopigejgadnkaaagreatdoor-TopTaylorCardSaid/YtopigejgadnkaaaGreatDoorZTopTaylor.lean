/- For all inputs a shifted polynomial's coefficients are the derivatives at the number, over factorials: TopTaylor returns true and leaves its arguments as they were. Conditions: Each package-level variable that the row lists (math/bits.deBruijn32tab and ntt.fields) holds at the call what the text lays; the tie is given and covers the pruned copy of the repository. -/
import Derived.Test.YtopigejgadnkaaaGreatDoorV06
import Derived.Test.YtopigejgadnkaaaGreatDoorV05
import Derived.Test.YtopigejgadnkaaaGreatDoorV04
import Derived.Test.YtopigejgadnkaaaGreatDoorV03
import Derived.Deep.CutRange
import Derived.Test.YtopigejgadnkaaaGreatDoorCards
import Derived.Test.YtopigejgadnkaaaGreatDoorTie
import Derived.SevenTiedAt
set_option maxRecDepth 100000
set_option maxHeartbeats 4000000
set_option linter.unusedVariables false
set_option linter.unusedSimpArgs false
namespace Go.Proofs.YtopigejgadnkaaaGreatDoor
open Go.RowKit Go.Shelf
attribute [local go_sem] max2_i min2_i max_two min_two

theorem PolV.set2 {W : World} {ad : Addr} {c : Nat} {p : List Int} {k : Nat} {t : TypeId} {u0 u1 v0 v1 : Value} (h : PolV W (some ad) c p) (R : BoxA W k t #[u0, u1]) (hu : ∀ u ∈ (#[u0, u1] : Array Value).toList, NotU u) (hne : ad.block ≠ k) : PolV ((W.setCell ⟨k, 0, none⟩ v0).setCell ⟨k, 1, none⟩ v1) (some ad) c p := by
  refine ⟨fun j hj => ?_, h.l, h.m⟩
  obtain ⟨ad', X, d, e, h1, h2, h3⟩ := h.a j hj
  cases e
  have hb : ∀ n, (ad.add n).block = ad.block := fun n => by unfold Addr.add; split <;> rfl
  have far : ((W.setCell ⟨k, 0, none⟩ v0).setCell ⟨k, 1, none⟩ v1).heap[ad.block]? = W.heap[ad.block]? := far2Z hne
  refine ⟨ad, X, d, rfl, ?_, ?_, R.keep2 hu h3⟩
  · rw [World.cell?_of_block (w := W) (a := ad.add (j * 2)) (by rw [hb]; exact far)]; exact h1
  · rw [World.cell?_of_block (w := W) (a := ⟨(ad.add (j * 2)).block, (ad.add (j * 2)).off + 1, none⟩) (by simp only [hb]; exact far)]; exact h2
theorem tay_n1 : 2 ^ 64 * (up 4294967296 8) ^ 8 * up 4294967296 8 < 4294967296 ^ 100 := by decide +kernel
theorem tay_n2 : 2 ^ 64 * 7 ^ 7 < 4294967296 ^ 3 := by decide +kernel
theorem tay_n3 : 2 ^ 64 * 7 ^ 7 * up 4294967296 8 < 4294967296 ^ 100 := by decide +kernel
theorem nlW {x : Int} {B k : Nat} (h : x.natAbs ≤ B) (hB : B < 4294967296 ^ k) : nl (mg x) ≤ k := nl_le.2 (by unfold mg; omega)
theorem tay_s {z : Int} {f : List Int} (hz : z.natAbs ≤ 4294967296) (hf : Wi (2 ^ 64) f) (h8 : f.length ≤ 8) (i m j : Nat) : nl (mg (gi (sst z (sls z f i) m) j)) ≤ 100 :=
  nlW ((wi_sst (n := 7) hz (by decide) (wi_sls (n := 7) hz (by decide) hf h8 i) (by rw [sls_len]; exact h8) m).gi j) tay_n1
theorem tay_s0 {z : Int} {f : List Int} (hz : z.natAbs ≤ 4294967296) (hf : Wi (2 ^ 64) f) (h8 : f.length ≤ 8) (i j : Nat) : nl (mg (gi (sls z f i) j)) ≤ 100 := by
  refine nlW ((wi_sls (n := 7) hz (by decide) hf h8 i).gi j) (Nat.lt_of_le_of_lt ?_ tay_n1)
  exact Nat.le_mul_of_pos_right _ (by decide +kernel)
theorem tay_w {f : List Int} (hf : Wi (2 ^ 64) f) (h8 : f.length ≤ 8) {i : Nat} (hi : i ≤ 7) : Wi (2 ^ 64 * 7 ^ 7) (ders i f) :=
  (wi_ders (n := 7) (by decide) i hf h8).mono (Nat.mul_le_mul_left _ (Nat.pow_le_pow_right (by decide) hi))
theorem tay_d {f : List Int} (hf : Wi (2 ^ 64) f) (h8 : f.length ≤ 8) {i : Nat} (hi : i ≤ 7) (j : Nat) : nl (mg (gi (ders i f) j)) ≤ 3 := nlW ((tay_w hf h8 hi).gi j) tay_n2
theorem tay_v {z : Int} {f : List Int} (hz : z.natAbs ≤ 4294967296) (hf : Wi (2 ^ 64) f) (h8 : f.length ≤ 8) {i : Nat} (hi : i ≤ 7) (j : Nat) : nl (mg (vv z 1 ((ders i f).drop j)).1) ≤ 16384 ∧ nl (mg (vv z 1 ((ders i f).drop j)).2) ≤ 16384 := by
  rw [vv_one]
  refine ⟨Nat.le_trans (nlW (Nat.le_trans (wi_ev hz (by decide) _ (fun x hx => tay_w hf h8 hi x (List.mem_of_mem_drop hx))) (Nat.mul_le_mul_left _ (up_mono (n := 8) (by decide) (by rw [List.length_drop, ders_len]; omega)))) tay_n3) (by decide), by show nl (mg 1) ≤ 16384; decide +kernel⟩
theorem fac_pred {i : Nat} (h : 0 < i) : fac (i - 1) * (i : Int) = fac i := by
  cases i with
  | zero => omega
  | succ i => rw [Nat.add_sub_cancel, fac]; simp
theorem ders_pred {i : Nat} (h : 0 < i) (f : List Int) : der (ders (i - 1) f) = ders i f := by
  cases i with
  | zero => omega
  | succ i => rw [Nat.add_sub_cancel, ders_der]
theorem fac_nl {i : Nat} (h : i ≤ 7) : nl (mg (fac i)) ≤ 1 := by
  have h1 := fac_le i h
  exact nlW (B := 5040) (by omega) (by decide)
theorem topTaylor_c (V : Option Addr) (c0 n : Nat) (sb : Nat → Bool) (ls : Nat → List Nat) (sa : Bool) (A : Option Addr) (c : Nat) (l : List Nat) (w : World) (hT : Tab w) (hG : Flds w) (hR : RawP w V n sb ls) (hn : n ≤ 9223372036854775807) (hl : Rd w A l) (Ll : Lim l) (Ql : l.length ≤ maxLen) (Cl : l.length ≤ c) (Zl : A = none → c = 0) :
    Calls Tryz.prog 4 #[.slice V n c0, .agg #[.bool sa, .slice A l.length c]] w fun e w' => e = .returned (.bool true) ∧ Below w.heap.size w w' := by
  replace Zl := Lib.hid Zl
  have hT0 := hT
  have hG0 := hG
  obtain ⟨z, Ez⟩ : ∃ z : Int, z = ival sa (val (l.take 1)) := ⟨_, rfl⟩
  have Nz : nl (mg z) ≤ 1 := by rw [Ez, mg_ival]; exact made_nl l Ll 1
  have Wz : z.natAbs ≤ 4294967296 := by have h := nl_le.1 Nz; rw [Nat.pow_one] at h; exact Nat.le_of_lt h
  have CZ := fun (W : World) (h1 : Rd W A l) => zmadeI_c sa A c l 1 1 W h1 Ll Ql Cl Zl.out (by decide) rfl
  rw [← Ez] at CZ
  replace CZ := Lib.hid CZ
  replace Ez := Lib.hid Ez
  obtain ⟨qz, Eqz⟩ : ∃ q : Rat, q = (z : Rat) := ⟨_, rfl⟩
  have Qn : qz.num = z := by rw [Eqz]; exact Rat.num_intCast z
  have Qd : qz.den = 1 := by rw [Eqz]; exact Rat.den_intCast z
  replace Qn := Lib.hid Qn
  replace Qd := Lib.hid Qd
  have CQ := fun (W : World) (A : Option Addr) (k : Nat) (h : NatV W A k (mg z)) => rwhole_c A k z W h
  rw [← Eqz] at CQ
  replace CQ := Lib.hid CQ
  replace Eqz := Lib.hid Eqz
  obtain ⟨hb1, Rr⟩ := bx1 w #[.bool sa, .slice A l.length c] 24
  replace hT := hT.below hb1
  replace hG := hG.below hb1
  replace hR := hR.below hb1
  replace hl := hl.below hb1
  have HBT := hb1
  clear hb1
  have qr0 := Rr.c (i := 0) rfl
  have qr1 := Rr.c (i := 1) rfl
  go_enter Tryz.func4, Tryz.ntmps4
  go_wp2_with (fail)
  refine (Calls.mono (head13_c _ hT hG) ?_)
  rintro e W2 ⟨rfl, hb2⟩
  replace hT := hT.below hb2
  replace hG := hG.below hb2
  replace hR := hR.below hb2
  replace hl := hl.below hb2
  replace Rr := Rr.below hb2
  replace qr0 := cbl hb2 qr0
  replace qr1 := cbl hb2 qr1
  replace HBT := Below.cons HBT hb2
  clear hb2
  go_wp2_with (fail)
  refine (Calls.mono (pmade_c V c0 n sb ls _ hR hn) ?_)
  rintro e W3 ⟨f, h8, hW, ad, cf, rfl, hf, hb3⟩
  replace hT := hT.below hb3
  replace hG := hG.below hb3
  replace hR := hR.below hb3
  replace hl := hl.below hb3
  replace Rr := Rr.below hb3
  replace qr0 := cbl hb3 qr0
  replace qr1 := cbl hb3 qr1
  replace HBT := Below.cons HBT hb3
  clear hb3
  clear hR
  obtain ⟨m, Em⟩ : ∃ m, m = f.length := ⟨_, rfl⟩
  rw [← Em]
  have hm8 : m ≤ 8 := by omega
  obtain ⟨sp, Esp⟩ : ∃ s : List Int, s = sls z f m := ⟨_, rfl⟩
  have spl : sp.length = m := by rw [Esp, sls_len, Em]
  have CS : ∀ (W : World) (B : Option Addr) (k : Nat), PolV W (some ad) cf f → NatV W B k (mg z) → Flds W → Calls Tryz.prog 20 #[.slice (some ad) m cf, .agg #[.bool (sg z), .slice B (nl (mg z)) k]] W (RetP W sp) := fun W B k h1 h2 h3 => by
    rw [Esp, Em]
    rcases Nat.eq_zero_or_pos f.length with h0 | h0
    · obtain rfl : f = [] := List.eq_nil_of_length_eq_zero h0
      exact shift0_c ad cf B k z W
    · exact shift_c (some ad) cf f B k z W h1 h2 h3 h0 (by omega) (by omega) (fun i m j => Nat.le_trans (tay_s Wz hW h8 i m j) (by decide))
  have CA : ∀ (W : World) (X : Option Addr) (k i : Nat), i < m → PolV W X k sp → Calls Tryz.prog 24 #[.slice X m k, .int .i64 (i : Nat)] W (RetI W (gi sp i)) := fun W X k i hi h => pat_c X k m sp i _ W h spl hi (by omega) rfl
  have CD : ∀ (W : World) (X : Option Addr) (k i : Nat), 0 < i → i < m → PolV W X k (ders (i - 1) f) → Flds W → Calls Tryz.prog 21 #[.slice X (ders (i - 1) f).length k] W (RetFr W (ders i f)) := fun W X k i h0 hi h hG => by have c := diff_c X k (ders (i - 1) f) W h (by rw [ders_len]; omega) hG (fun j => Nat.le_trans (tay_d hW h8 (by omega) j) (by decide)) (by rw [ders_len]; omega); rw [ders_pred h0] at c; exact c
  have CE : ∀ (W : World) (X : Option Addr) (k i : Nat) (A : Option Addr) (c : Nat) (B : Option Addr) (d : Nat), i < m → PolV W X k (ders i f) → NatV W A c (mg qz.num) → NatV W B d qz.den → Flds W → Calls Tryz.prog 23 #[.slice X (ders i f).length k, .agg #[.bool (sg qz.num), .slice A (nl (mg qz.num)) c, .slice B (nl qz.den) d]] W (RetR W ((fac i * gi sp i : Int) : Rat)) := fun W X k i A c B d hi h h1 h2 hG => by
    have c := eval_c X k (ders i f) A c B d qz W h h1 h2 hG (by rw [ders_len]; omega) (by rw [ders_len]; omega) (by rw [Qn.out]; omega) (by rw [Qd.out, ders_len, nl_one]; omega) (fun j => Nat.le_trans (tay_d hW h8 (by omega) j) (by decide)) (by rw [Qd.out, nl_one]; decide) (by rw [Qd.out, Nat.one_pow, nl_one]; decide) (by rw [Qn.out, Qd.out, show ((1 : Nat) : Int) = 1 from rfl]; exact fun j => tay_v Wz hW h8 (by omega) j)
    have e : Rat.divInt (vv qz.num (qz.den : Int) (ders i f)).1 ((qz.den : Int) ^ ((ders i f).length - 1)) = ((fac i * gi sp i : Int) : Rat) := by rw [Qn.out, Qd.out, show ((1 : Nat) : Int) = 1 from rfl, taylor_q z f i (by omega), ← Em, ← Esp]
    rw [e] at c
    exact c
  have CM : ∀ (W : World) (i : Nat) (A : Option Addr) (c : Nat) (B : Option Addr) (d : Nat), i < m → NatV W A c (mg (fac i)) → NatV W B d (mg (gi sp i)) → Flds W → Calls Tryz.prog 22 #[.agg #[.bool (sg (fac i)), .slice A (nl (mg (fac i))) c], .agg #[.bool (sg (gi sp i)), .slice B (nl (mg (gi sp i))) d]] W (RetI W (fac i * gi sp i)) := fun W i A c B d hi h1 h2 hG => imul_c A c (fac i) B d (gi sp i) W h1 h2 hG (Nat.le_trans (fac_nl (by omega)) (by decide)) (by rw [Esp]; exact Nat.le_trans (tay_s0 Wz hW h8 m i) (by decide)) (Or.inl (Nat.le_trans (fac_nl (by omega)) (by decide)))
  have CF : ∀ (W : World) (i : Nat) (A : Option Addr) (c : Nat) (B : Option Addr) (d : Nat), 0 < i → i < m → NatV W A c (mg (fac (i - 1))) → NatV W B d (mg (i : Int)) → Flds W → Calls Tryz.prog 22 #[.agg #[.bool (sg (fac (i - 1))), .slice A (nl (mg (fac (i - 1)))) c], .agg #[.bool (sg (i : Int)), .slice B (nl (mg (i : Int))) d]] W (RetI W (fac i)) := fun W i A c B d h0 hi h1 h2 hG => by have c := imul_c A c (fac (i - 1)) B d (i : Int) W h1 h2 hG (Nat.le_trans (fac_nl (by omega)) (by decide)) (Nat.le_trans (nlW (k := 1) (B := 8) (by omega) (by decide)) (by decide)) (Or.inl (Nat.le_trans (fac_nl (by omega)) (by decide))); rw [fac_pred h0] at c; exact c
  have NX : ∀ i, i < m → nl (mg (fac i * gi sp i)) ≤ 1000 := fun i hi => by have h1 := nl_imul (fac i) (gi sp i); have h2 := fac_nl (i := i) (by omega); have h3 := tay_s0 Wz hW h8 m i; rw [← Esp] at h3; omega
  replace Em := Lib.hid Em
  replace Esp := Lib.hid Esp
  replace spl := Lib.hid spl
  replace CS := Lib.hid CS
  replace CA := Lib.hid CA
  replace CD := Lib.hid CD
  replace CE := Lib.hid CE
  replace CM := Lib.hid CM
  replace CF := Lib.hid CF
  replace NX := Lib.hid NX
  replace hW := Lib.hid hW
  replace h8 := Lib.hid h8
  go_wp2_with (fail)
  refine (Calls.mono (CZ.out _ hl) ?_)
  rintro e W4 ⟨Xz, cz, rfl, hz, hb4⟩
  replace hT := hT.below hb4
  replace hG := hG.below hb4
  replace hl := hl.below hb4
  replace Rr := Rr.below hb4
  replace qr0 := cbl hb4 qr0
  replace qr1 := cbl hb4 qr1
  replace hf := hf.below hb4
  replace HBT := Below.cons HBT hb4
  clear hb4
  clear hl
  clear Rr
  clear qr0
  clear qr1
  obtain ⟨hb5, Rn⟩ := bx1 W4 #[.bool (sg z), .slice Xz (nl (mg z)) cz] 24
  replace hT := hT.below hb5
  replace hG := hG.below hb5
  replace hf := hf.below hb5
  replace hz := hz.below hb5
  replace HBT := Below.cons HBT hb5
  clear hb5
  have qn0 := Rn.c (i := 0) rfl
  have qn1 := Rn.c (i := 1) rfl
  go_wp2_with (fail)
  refine (Calls.mono (CS.out _ _ _ hf hz hG) ?_)
  rintro e W6 ⟨Xs, cs, rfl, hs, hb6⟩
  replace hT := hT.below hb6
  replace hG := hG.below hb6
  replace hf := hf.below hb6
  replace hz := hz.below hb6
  replace Rn := Rn.below hb6
  replace qn0 := cbl hb6 qn0
  replace qn1 := cbl hb6 qn1
  replace HBT := Below.cons HBT hb6
  clear hb6
  rw [spl.out]
  go_wp2_with (fail)
  obtain ⟨one, E1⟩ : ∃ z : Int, z = fac 0 := ⟨_, rfl⟩
  replace E1 := Lib.hid E1
  refine (Calls.mono ((show Calls _ _ _ _ (RetI _ one) by rw [E1.out]; exact zof_c 1 _ (by decide) (by decide))) ?_)
  rintro e W7 ⟨X1, c1, rfl, h1, hb7⟩
  replace hT := hT.below hb7
  replace hG := hG.below hb7
  replace hf := hf.below hb7
  replace hz := hz.below hb7
  replace Rn := Rn.below hb7
  replace qn0 := cbl hb7 qn0
  replace qn1 := cbl hb7 qn1
  replace hs := hs.below hb7
  replace HBT := Below.cons HBT hb7
  clear hb7
  have hR9 := Lib.hid Rn.lt
  have hf9 := hf
  have hs9 := hs
  have hz9 := hz
  have Rn9 := Rn
  have HB9 := HBT
  obtain ⟨bf, Ebf⟩ : ∃ b, b = W7.heap.size := ⟨_, rfl⟩
  obtain ⟨hb8, Ro⟩ := bx1 W7 #[.bool (sg one), .slice X1 (nl (mg one)) c1] 24
  replace hT := hT.below hb8
  replace hG := hG.below hb8
  replace hf := hf.below hb8
  replace hz := hz.below hb8
  replace Rn := Rn.below hb8
  replace qn0 := cbl hb8 qn0
  replace qn1 := cbl hb8 qn1
  replace hs := hs.below hb8
  replace h1 := h1.below hb8
  replace HBT := Below.cons HBT hb8
  clear hb8
  have qo0 := Ro.c (i := 0) rfl
  have qo1 := Ro.c (i := 1) rfl
  have SB : Below W7.heap.size W7 (W7.alloc (.cells #[.bool (sg one), .slice X1 (nl (mg one)) c1] 24)) := (Below.refl _ _).alloc (Nat.le_refl _) _
  rw [← Ebf] at Ro
  have S0 : PolV (W7.alloc (.cells #[.bool (sg one), .slice X1 (nl (mg one)) c1] 24)) (some ad) cf (ders (0 - 1) f) ∧ BoxA (W7.alloc (.cells #[.bool (sg one), .slice X1 (nl (mg one)) c1] 24)) bf 24 #[.bool (sg (fac (0 - 1))), .slice X1 (nl (mg (fac (0 - 1)))) c1] ∧ NatV (W7.alloc (.cells #[.bool (sg one), .slice X1 (nl (mg one)) c1] 24)) X1 c1 (mg (fac (0 - 1))) ∧ Below W7.heap.size W7 (W7.alloc (.cells #[.bool (sg one), .slice X1 (nl (mg one)) c1] 24)) := by
    rw [show fac (0 - 1) = one from E1.out.symm]
    have h1 := h1
    exact ⟨hf, Ro, h1, SB⟩
  have ebf : W7.heap.size = bf := Ebf.symm
  replace S0 := Lib.hid S0
  clear SB Ro
  clear qo0 qo1 h1 hf hs hz Rn qn0 qn1 hT hG HBT
  replace Ebf := Lib.hid Ebf
  go_wp2_with (fail)
  try simp only [ebf]
  go_loopw [9, 11] (fun v9 v11 wr => ∃ (i k : Nat) (X : Option Addr) (c9 : Nat) (Xf : Option Addr) (cf2 : Nat), v9 = .slice X k c9 ∧ v11 = .int .i64 i ∧ i ≤ m ∧ Hid (k = (ders (i - 1) f).length) ∧ PolV wr X c9 (ders (i - 1) f) ∧ BoxA wr bf 24 #[.bool (sg (fac (i - 1))), .slice Xf (nl (mg (fac (i - 1)))) cf2] ∧ NatV wr Xf cf2 (mg (fac (i - 1))) ∧ Below W7.heap.size W7 wr) (fun v9 v11 wr => m - (intOf v11).toNat)
  case atStart => exact ⟨0, m, some ad, cf, X1, c1, rfl, rfl, Nat.zero_le _, Lib.hid Em.out, S0.out⟩
  case round =>
    clear S0
    obtain ⟨i, k, X, c9, Xf, cf2, rfl, rfl, hi, hk, hd, Rf, hfa, H9⟩ := hrel
    have HBT := HB9.cons H9
    have hbf9 : W7.heap.size ≤ bf := Nat.le_of_eq Ebf.out.symm
    replace hbf9 := Lib.hid hbf9
    by_cases him : i < m
    · skip
      have t1 : decide ((i : Int) < (m : Int)) = true := by simp; omega
      have t1b : decide (i < m) = true := by simp; omega
      have Wi_ : IntKind.i64.wrap ((i : Int) + 1) = ((i + 1 : Nat) : Int) := by rw [show (i : Int) + 1 = ((i + 1 : Nat) : Int) by omega]; exact IntWalk.i64_in _ (by omega)
      obtain ⟨fi, Efi⟩ : ∃ z : Int, z = fac i := ⟨_, rfl⟩
      obtain ⟨p1, Ep1⟩ : ∃ p : List Int, p = ders i f := ⟨_, rfl⟩
      replace Efi := Lib.hid Efi
      replace Ep1 := Lib.hid Ep1
      go_upto_if 29 with (fail)
      go_cut [9] from 22 to 47 (fun s9 wx => ∃ (X : Option Addr) (c : Nat) (Xf : Option Addr) (cf2 : Nat), s9 = .slice X p1.length c ∧ PolV wx X c p1 ∧ BoxA wx bf 24 #[.bool (sg fi), .slice Xf (nl (mg fi)) cf2] ∧ NatV wx Xf cf2 (mg fi) ∧ Below W7.heap.size W7 wx)
      case first =>
        by_cases hi0 : i = 0
        · skip
          subst hi0
          have e1 := Efi.out
          have e2 := Ep1.out
          rw [Nat.zero_sub] at hd Rf hfa hk
          rw [← e1] at Rf hfa
          rw [← e2] at hd hk
          have hk' := hk.out
          subst hk'
          clear e1 e2
          have t2 : decide ((0 : Int) < ((0 : Nat) : Int)) = false := by decide
          go_wp2_with (fail)
          go_meet
          exact ⟨X, c9, Xf, cf2, rfl, hd, Rf, hfa, H9⟩
        · skip
          have hip : 0 < i := by omega
          have t2 : decide ((0 : Int) < (i : Int)) = true := by simp; omega
          have t2b : decide (0 < i) = true := by simp; omega
          obtain ⟨fp, Efp⟩ : ∃ z : Int, z = fac (i - 1) := ⟨_, rfl⟩
          rw [← Efp] at Rf hfa
          have Ro := Rf
          clear Rf
          have hG := hG0.below HBT
          have CD1 := CD.out wr X c9 i hip him hd hG
          rw [← hk.out, ← Ep1.out] at CD1
          have CF1 := fun (W : World) (A : Option Addr) (c : Nat) (B : Option Addr) (d : Nat) (h1 : NatV W A c (mg fp)) (h2 : NatV W B d (mg (i : Int))) (hG : Flds W) => CF.out W i A c B d hip him (by rw [← Efp]; exact h1) h2 hG
          rw [← Efp, ← Efi.out] at CF1
          obtain ⟨ii, Eii⟩ : ∃ z : Int, z = (i : Int) := ⟨_, rfl⟩
          have CO := fun (W : World) => zof_c (i : Int) W (by omega) (by omega)
          have CO2 : ∀ W : World, Calls Tryz.prog 9 #[.int .i64 (i : Int)] W (RetI W ii) := fun W => by rw [Eii]; exact CO W
          clear CO
          have CF2 : ∀ (W : World) (A : Option Addr) (c : Nat) (B : Option Addr) (d : Nat), NatV W A c (mg fp) → NatV W B d (mg ii) → Flds W → Calls Tryz.prog 22 #[.agg #[.bool (sg fp), .slice A (nl (mg fp)) c], .agg #[.bool (sg ii), .slice B (nl (mg ii)) d]] W (RetI W fi) := fun W A c B d h1 h2 h3 => by rw [Eii] at h2 ⊢; exact CF1 W A c B d h1 h2 h3
          clear CF1
          replace CD1 := Lib.hid CD1
          replace CO2 := Lib.hid CO2
          replace CF2 := Lib.hid CF2
          replace Efp := Lib.hid Efp
          replace Eii := Lib.hid Eii
          replace hk := Lib.hid hk
          clear hd
          have qo0 := Ro.c (i := 0) rfl
          have qo1 := Ro.c (i := 1) rfl
          go_wp2_with (fail)
          have bfl := Lib.hid Ro.lt
          refine (Calls.mono CD1.out ?_)
          rintro e W301 ⟨ad2, c2, rfl, hd2, hfr, hb301⟩
          replace Ro := Ro.below hb301
          replace hfa := hfa.below hb301
          replace hG := hG.below hb301
          replace H9 := Below.cons H9 hb301
          replace qo0 := cbl hb301 qo0
          replace qo1 := cbl hb301 qo1
          replace HBT := Below.cons HBT hb301
          clear hb301
          have hne2 : ad2.block ≠ bf := by have h1 := bfl.out; omega
          clear hfr
          replace hne2 := Lib.hid hne2
          go_wp2_with (fail)
          refine wp_region_fin 4 1 [.val (.agg #[.bool (sg fp), .slice Xf (nl (mg fp)) cf2]), .val (.int .i64 (i : Int)), .int ii, .int fi] (by kernel_rfl) (by kernel_rfl) (by kernel_rfl) (by kernel_rfl) (by kernel_rfl) rfl ?_ ?_
          · skip
            refine ⟨?_, ?_⟩
            · intro Ew aw wc st hdep
              have t10 : aw.tmps[10]? = some (.pointer (some ⟨bf, 0, none⟩)) := (st.old 10 (by kernel_rfl)).trans (by rfl)
              have qo0 := cbl st.b qo0
              have qo1 := cbl st.b qo1
              have e10 := tmp_of t10
              refine op_want rfl (by rfl) (fun K' hK' => ?_)
              go_simp
              exact hK'.out _ _ ⟨_, rfl, rfl, Below.refl _ _⟩
            refine ⟨?_, ?_⟩
            · intro Ew aw wc st hdep
              have t11 : aw.tmps[11]? = some (.int .i64 (i : Int)) := (st.old 11 (by kernel_rfl)).trans (by rfl)
              have e11 := tmp_of t11
              refine op_want rfl (by rfl) (fun K' hK' => ?_)
              go_simp
              exact hK'.out _ _ ⟨_, rfl, rfl, Below.refl _ _⟩
            refine ⟨?_, ?_⟩
            · intro Ew aw wc st hdep
              obtain ⟨v33, t33, r33⟩ := st.nw hdep 1 33
              obtain rfl : v33 = .int .i64 (i : Int) := r33
              have e33 := tmp_of t33
              refine op_want rfl (by rfl) (fun K' hK' => ?_)
              go_simp
              refine (Calls.mono (R := RetI wc ii) (CO2.out wc) ?_)
              rintro e W ⟨X, c, rfl, hX, kb⟩
              exact hK'.out _ _ ⟨_, rfl, ⟨X, c, rfl, hX⟩, kb⟩
            refine ⟨?_, ?_⟩
            · intro Ew aw wc st hdep
              obtain ⟨v32, t32, r32⟩ := st.nw hdep 0 32
              obtain rfl : v32 = .agg #[.bool (sg fp), .slice Xf (nl (mg fp)) cf2] := r32
              obtain ⟨v34, t34, r34⟩ := st.nw hdep 2 34
              obtain ⟨X34, c34, rfl, h34⟩ := r34
              have e32 := tmp_of t32
              have e34 := tmp_of t34
              refine op_want rfl (by rfl) (fun K' hK' => ?_)
              go_simp
              refine (Calls.mono (R := RetI wc fi) (CF2.out wc _ _ _ _ (hfa.below st.b) h34 (hG.below st.b)) ?_)
              rintro e W ⟨X, c, rfl, hX, kb⟩
              exact hK'.out _ _ ⟨_, rfl, ⟨X, c, rfl, hX⟩, kb⟩
            exact trivial
          intro vs wc hr hB
          obtain ⟨u32, r_32, rfl, k32, hr_32⟩ := hr.un
          obtain rfl : u32 = .agg #[.bool (sg fp), .slice Xf (nl (mg fp)) cf2] := k32
          obtain ⟨u33, r_33, rfl, k33, hr_33⟩ := hr_32.un
          obtain rfl : u33 = .int .i64 (i : Int) := k33
          obtain ⟨u34, r_34, rfl, k34, hr_34⟩ := hr_33.un
          obtain ⟨X34, c34, rfl, h34⟩ := k34
          obtain ⟨u35, r_35, rfl, k35, hr_35⟩ := hr_34.un
          obtain ⟨X35, c35, rfl, h35⟩ := k35
          obtain rfl := hr_35.nil
          clear hr hr_32 hr_33 hr_34 hr_35
          replace Ro := Ro.below hB
          replace hfa := hfa.below hB
          replace hG := hG.below hB
          replace H9 := Below.cons H9 hB
          replace qo0 := cbl hB qo0
          replace qo1 := cbl hB qo1
          replace hd2 := hd2.below hB
          replace HBT := Below.cons HBT hB
          clear hB
          simp only [upTo, List.take_succ_cons, List.take_zero, putAll, Act.put, seq0, seq1, seq2]
          clear hfa
          clear hG
          have hdS := hd2.set2 (v0 := .bool (sg fi)) (v1 := .slice X35 (nl (mg fi)) c35) Ro (by intro u hu; simp at hu; rcases hu with rfl | rfl <;> first | exact notU_bool _ | exact notU_slice _ _ _) hne2.out
          have hbf9' := hbf9.out
          have hbw : w.heap.size ≤ bf := Nat.le_trans HB9.size hbf9'
          have fo0_302 := Ro.f (i := 0)
          have fo1_302 := Ro.f (i := 1)
          have Ro_302 := Ro.store2 (.bool (sg fi)) (.slice X35 (nl (mg fi)) c35)
          have H9_302 := Below.store2 (v0 := .bool (sg fi)) (v1 := .slice X35 (nl (mg fi)) c35) H9 (k := bf) (by first | exact Nat.le_refl _ | omega)
          have qo0_302 := Ro_302.c (i := 0) rfl
          have qo1_302 := Ro_302.c (i := 1) rfl
          have h35_302 := Ro.keep2 (v0 := .bool (sg fi)) (v1 := .slice X35 (nl (mg fi)) c35) (nuB rfl) h35
          have HBT_302 := Below.store2 (v0 := .bool (sg fi)) (v1 := .slice X35 (nl (mg fi)) c35) HBT (k := bf) (by first | exact Nat.le_refl _ | omega)
          refine TailP.one rfl (by rfl) (fun K' hK' => ?_)
          go_simp
          refine hK'.out _ _ ?_
          try simp only [Act.put, seq0, seq1, seq2]
          refine TailP.done ?_
          clear fo0_302 fo1_302 Ro H9 qo0 qo1 h35 HBT
          go_wp2_with (fail)
          go_meet
          exact ⟨some ad2, c2, _, _, rfl, hdS, Ro_302, h35_302, H9_302⟩
      case rest =>
        obtain ⟨X2, c2, Xf2, cf3, rfl, hd2, Rf2, hfa2, H92⟩ := hcut
        clear hd Rf hfa H9 HBT hk
        have HBT := HB9.cons H92
        have hG := hG0.below HBT
        have hs := hs9.below H92
        have hz := hz9.below H92
        have Rn := Rn9.below H92
        obtain ⟨x3, Ex3⟩ : ∃ z : Int, z = fac i * gi sp i := ⟨_, rfl⟩
        obtain ⟨si, Esi⟩ : ∃ z : Int, z = gi sp i := ⟨_, rfl⟩
        obtain ⟨y, Ey⟩ : ∃ q : Rat, q = (x3 : Rat) := ⟨_, rfl⟩
        have Yn : nl (mg y.num) ≤ 1073741824 := by rw [Ey, Rat.num_intCast, Ex3]; exact Nat.le_trans (NX.out i him) (by decide)
        have Yd : nl y.den ≤ 1073741824 := by rw [Ey, Rat.den_intCast, nl_one]; decide
        have KA := fun (W : World) (h : PolV W Xs cs sp) => CA.out W Xs cs i him h
        rw [← Esi] at KA
        have KE := fun (W : World) (A : Option Addr) (c : Nat) (B : Option Addr) (d : Nat) (h : PolV W X2 c2 p1) (h1 : NatV W A c (mg qz.num)) (h2 : NatV W B d qz.den) (hG : Flds W) => CE.out W X2 c2 i A c B d him (by rw [← Ep1.out]; exact h) h1 h2 hG
        rw [← Ep1.out, ← Ex3, ← Ey] at KE
        have KM := fun (W : World) (A : Option Addr) (c : Nat) (B : Option Addr) (d : Nat) (h1 : NatV W A c (mg fi)) (h2 : NatV W B d (mg si)) (hG : Flds W) => CM.out W i A c B d him (by rw [← Efi.out]; exact h1) (by rw [← Esi]; exact h2) hG
        rw [← Efi.out, ← Esi, Efi.out, Esi, ← Ex3, ← Efi.out, ← Esi] at KM
        have KW := fun (W : World) (A : Option Addr) (k : Nat) (h : NatV W A k (mg x3)) => rwhole_c A k x3 W h
        rw [← Ey] at KW
        have KS := fun (W : World) (A : Option Addr) (c : Nat) (B : Option Addr) (d : Nat) (A2 : Option Addr) (c2 : Nat) (B2 : Option Addr) (d2 : Nat) (h1 : NatV W A c (mg y.num)) (h2 : NatV W B d y.den) (h3 : NatV W A2 c2 (mg y.num)) (h4 : NatV W B2 d2 y.den) => r9sameT_c A c B d y A2 c2 B2 d2 y W h1 h2 h3 h4 Yn Yd rfl
        replace KA := Lib.hid KA
        replace KE := Lib.hid KE
        replace KM := Lib.hid KM
        replace KW := Lib.hid KW
        replace KS := Lib.hid KS
        replace Ex3 := Lib.hid Ex3
        replace Esi := Lib.hid Esi
        replace Ey := Lib.hid Ey
        clear Yn Yd
        have qo0 := Rf2.c (i := 0) rfl
        have qo1 := Rf2.c (i := 1) rfl
        have qn0 := Rn.c (i := 0) rfl
        have qn1 := Rn.c (i := 1) rfl
        have gi0 : (0 : Int) ≤ (i : Int) := Int.natCast_nonneg i
        go_wp2_with (fail)
        generalize wc = Wx at *
        refine wp_region_fin 11 1 [.val (.slice X2 p1.length c2), .val (.agg #[.bool (sg z), .slice Xz (nl (mg z)) cz]), .rat qz, .rat y, .val (.agg #[.bool (sg fi), .slice Xf2 (nl (mg fi)) cf3]), .val (.slice Xs m cs), .val (.int .i64 (i : Int)), .int si, .int x3, .rat y, .val (.bool true)] (by kernel_rfl) (by kernel_rfl) (by kernel_rfl) (by kernel_rfl) (by kernel_rfl) rfl ?_ ?_
        · skip
          refine ⟨?_, ?_⟩
          · intro Ew aw wc st hdep
            have t9 : aw.tmps[9]? = some (.slice X2 p1.length c2) := (st.old 9 (by kernel_rfl)).trans (by rfl)
            have e9 := tmp_of t9
            refine op_want rfl (by rfl) (fun K' hK' => ?_)
            go_simp
            exact hK'.out _ _ ⟨_, rfl, rfl, Below.refl _ _⟩
          refine ⟨?_, ?_⟩
          · intro Ew aw wc st hdep
            have t7 : aw.tmps[7]? = some (.pointer (some ⟨W4.heap.size, 0, none⟩)) := (st.old 7 (by kernel_rfl)).trans (by rfl)
            have qn0 := cbl st.b qn0
            have qn1 := cbl st.b qn1
            have e7 := tmp_of t7
            refine op_want rfl (by rfl) (fun K' hK' => ?_)
            go_simp
            exact hK'.out _ _ ⟨_, rfl, rfl, Below.refl _ _⟩
          refine ⟨?_, ?_⟩
          · intro Ew aw wc st hdep
            obtain ⟨v37, t37, r37⟩ := st.nw hdep 1 37
            obtain rfl : v37 = .agg #[.bool (sg z), .slice Xz (nl (mg z)) cz] := r37
            have e37 := tmp_of t37
            refine op_want rfl (by rfl) (fun K' hK' => ?_)
            go_simp
            refine (Calls.mono (R := RetR wc qz) (CQ.out wc _ _ (hz.below st.b)) ?_)
            rintro e W ⟨X, c, Y, d, rfl, hX, hY, kb⟩
            exact hK'.out _ _ ⟨_, rfl, ⟨X, c, Y, d, rfl, hX, hY⟩, kb⟩
          refine ⟨?_, ?_⟩
          · intro Ew aw wc st hdep
            obtain ⟨v36, t36, r36⟩ := st.nw hdep 0 36
            obtain rfl : v36 = .slice X2 p1.length c2 := r36
            obtain ⟨v38, t38, r38⟩ := st.nw hdep 2 38
            obtain ⟨X38, c38, Y38, d38, rfl, h38, g38⟩ := r38
            have e36 := tmp_of t36
            have e38 := tmp_of t38
            refine op_want rfl (by rfl) (fun K' hK' => ?_)
            go_simp
            refine (Calls.mono (R := RetR wc y) (KE.out wc _ _ _ _ (hd2.below st.b) h38 g38 (hG.below st.b)) ?_)
            rintro e W ⟨X, c, Y, d, rfl, hX, hY, kb⟩
            exact hK'.out _ _ ⟨_, rfl, ⟨X, c, Y, d, rfl, hX, hY⟩, kb⟩
          refine ⟨?_, ?_⟩
          · intro Ew aw wc st hdep
            have t10 : aw.tmps[10]? = some (.pointer (some ⟨bf, 0, none⟩)) := (st.old 10 (by kernel_rfl)).trans (by rfl)
            have qo0 := cbl st.b qo0
            have qo1 := cbl st.b qo1
            have e10 := tmp_of t10
            refine op_want rfl (by rfl) (fun K' hK' => ?_)
            go_simp
            exact hK'.out _ _ ⟨_, rfl, rfl, Below.refl _ _⟩
          refine ⟨?_, ?_⟩
          · intro Ew aw wc st hdep
            have t8 : aw.tmps[8]? = some (.slice Xs m cs) := (st.old 8 (by kernel_rfl)).trans (by rfl)
            have e8 := tmp_of t8
            refine op_want rfl (by rfl) (fun K' hK' => ?_)
            go_simp
            exact hK'.out _ _ ⟨_, rfl, rfl, Below.refl _ _⟩
          refine ⟨?_, ?_⟩
          · intro Ew aw wc st hdep
            have t11 : aw.tmps[11]? = some (.int .i64 (i : Int)) := (st.old 11 (by kernel_rfl)).trans (by rfl)
            have e11 := tmp_of t11
            refine op_want rfl (by rfl) (fun K' hK' => ?_)
            go_simp
            exact hK'.out _ _ ⟨_, rfl, rfl, Below.refl _ _⟩
          refine ⟨?_, ?_⟩
          · intro Ew aw wc st hdep
            obtain ⟨v41, t41, r41⟩ := st.nw hdep 5 41
            obtain rfl : v41 = .slice Xs m cs := r41
            obtain ⟨v42, t42, r42⟩ := st.nw hdep 6 42
            obtain rfl : v42 = .int .i64 (i : Int) := r42
            have e41 := tmp_of t41
            have e42 := tmp_of t42
            refine op_want rfl (by rfl) (fun K' hK' => ?_)
            go_simp
            refine (Calls.mono (R := RetI wc si) (KA.out wc (hs.below st.b)) ?_)
            rintro e W ⟨X, c, rfl, hX, kb⟩
            exact hK'.out _ _ ⟨_, rfl, ⟨X, c, rfl, hX⟩, kb⟩
          refine ⟨?_, ?_⟩
          · intro Ew aw wc st hdep
            obtain ⟨v40, t40, r40⟩ := st.nw hdep 4 40
            obtain rfl : v40 = .agg #[.bool (sg fi), .slice Xf2 (nl (mg fi)) cf3] := r40
            obtain ⟨v43, t43, r43⟩ := st.nw hdep 7 43
            obtain ⟨X43, c43, rfl, h43⟩ := r43
            have e40 := tmp_of t40
            have e43 := tmp_of t43
            refine op_want rfl (by rfl) (fun K' hK' => ?_)
            go_simp
            refine (Calls.mono (R := RetI wc x3) (KM.out wc _ _ _ _ (hfa2.below st.b) h43 (hG.below st.b)) ?_)
            rintro e W ⟨X, c, rfl, hX, kb⟩
            exact hK'.out _ _ ⟨_, rfl, ⟨X, c, rfl, hX⟩, kb⟩
          refine ⟨?_, ?_⟩
          · intro Ew aw wc st hdep
            obtain ⟨v44, t44, r44⟩ := st.nw hdep 8 44
            obtain ⟨X44, c44, rfl, h44⟩ := r44
            have e44 := tmp_of t44
            refine op_want rfl (by rfl) (fun K' hK' => ?_)
            go_simp
            refine (Calls.mono (R := RetR wc y) (KW.out wc _ _ h44) ?_)
            rintro e W ⟨X, c, Y, d, rfl, hX, hY, kb⟩
            exact hK'.out _ _ ⟨_, rfl, ⟨X, c, Y, d, rfl, hX, hY⟩, kb⟩
          refine ⟨?_, ?_⟩
          · intro Ew aw wc st hdep
            obtain ⟨v39, t39, r39⟩ := st.nw hdep 3 39
            obtain ⟨X39, c39, Y39, d39, rfl, h39, g39⟩ := r39
            obtain ⟨v45, t45, r45⟩ := st.nw hdep 9 45
            obtain ⟨X45, c45, Y45, d45, rfl, h45, g45⟩ := r45
            have e39 := tmp_of t39
            have e45 := tmp_of t45
            refine op_want rfl (by rfl) (fun K' hK' => ?_)
            go_simp
            refine (Calls.mono (KS.out wc _ _ _ _ _ _ _ _ h39 g39 h45 g45) ?_)
            rintro e W ⟨rfl, kb⟩
            exact hK'.out _ _ ⟨_, rfl, rfl, kb⟩
          exact trivial
        intro vs wc hr hB
        obtain ⟨u36, r_36, rfl, k36, hr_36⟩ := hr.un
        obtain rfl : u36 = .slice X2 p1.length c2 := k36
        obtain ⟨u37, r_37, rfl, k37, hr_37⟩ := hr_36.un
        obtain rfl : u37 = .agg #[.bool (sg z), .slice Xz (nl (mg z)) cz] := k37
        obtain ⟨u38, r_38, rfl, k38, hr_38⟩ := hr_37.un
        obtain ⟨X38, c38, Y38, d38, rfl, h38, g38⟩ := k38
        obtain ⟨u39, r_39, rfl, k39, hr_39⟩ := hr_38.un
        obtain ⟨X39, c39, Y39, d39, rfl, h39, g39⟩ := k39
        obtain ⟨u40, r_40, rfl, k40, hr_40⟩ := hr_39.un
        obtain rfl : u40 = .agg #[.bool (sg fi), .slice Xf2 (nl (mg fi)) cf3] := k40
        obtain ⟨u41, r_41, rfl, k41, hr_41⟩ := hr_40.un
        obtain rfl : u41 = .slice Xs m cs := k41
        obtain ⟨u42, r_42, rfl, k42, hr_42⟩ := hr_41.un
        obtain rfl : u42 = .int .i64 (i : Int) := k42
        obtain ⟨u43, r_43, rfl, k43, hr_43⟩ := hr_42.un
        obtain ⟨X43, c43, rfl, h43⟩ := k43
        obtain ⟨u44, r_44, rfl, k44, hr_44⟩ := hr_43.un
        obtain ⟨X44, c44, rfl, h44⟩ := k44
        obtain ⟨u45, r_45, rfl, k45, hr_45⟩ := hr_44.un
        obtain ⟨X45, c45, Y45, d45, rfl, h45, g45⟩ := k45
        obtain ⟨u46, r_46, rfl, k46, hr_46⟩ := hr_45.un
        obtain rfl : u46 = .bool true := k46
        obtain rfl := hr_46.nil
        clear hr hr_36 hr_37 hr_38 hr_39 hr_40 hr_41 hr_42 hr_43 hr_44 hr_45 hr_46
        replace Rf2 := Rf2.below hB
        replace Rn := Rn.below hB
        replace hz := hz.below hB
        replace hs := hs.below hB
        replace hd2 := hd2.below hB
        replace hfa2 := hfa2.below hB
        replace hG := hG.below hB
        replace H92 := Below.cons H92 hB
        replace qo0 := cbl hB qo0
        replace qo1 := cbl hB qo1
        replace qn0 := cbl hB qn0
        replace qn1 := cbl hB qn1
        replace HBT := Below.cons HBT hB
        clear hB
        simp only [upTo, List.take_succ_cons, List.take_zero, putAll, Act.put, seq0, seq1, seq2]
        refine TailP.one rfl (by rfl) (fun K' hK' => ?_)
        go_simp
        refine hK'.out _ _ ?_
        try simp only [Act.put, seq0, seq1, seq2]
        refine TailP.done ?_
        have e1 := Efi.out
        have e2 := Ep1.out
        have HD := Lib.hid (And.intro hd2 (And.intro Rf2 (And.intro hfa2 H92)))
        rw [e1, e2] at HD
        replace e1 := Lib.hid e1
        replace e2 := Lib.hid e2
        go_wp2_with (fail)
        go_roundw
        case rel => exact ⟨i + 1, p1.length, X2, c2, Xf2, cf3, rfl, by congr 1, by omega, Lib.hid (by rw [e2.out]; rfl), HD.out⟩
        case measure => simp only [intOf]; omega
    · skip
      obtain rfl : i = m := by omega
      have t1 : decide ((i : Int) < (i : Int)) = false := by simp
      go_wp2_with (fail)
      exact bodyPost_ret (v := .bool true) (by simp [results, Tryz.results4, go_sem]) rfl ⟨rfl, HBT⟩
end Go.Proofs.YtopigejgadnkaaaGreatDoor

namespace Go.Proofs.YtopigejgadnkaaaGreatDoor
open Go.RowKit Go.ChangeShapes Go.WideShapes Go.ChangeAt

theorem topTaylor_lifted (os : Os) (started : os.Started) (H : Type) (enc : TypeId × Value → H) :
    ReturnsInHanded {} Tryz.checked os 4 .any (fun w args => (Rows.topTaylorSpec.pre enc Tryz.prog Tryz.f4 [] false w args ∧ laidMetH Tryz.prog [("math/bits.deBruijn32tab", Rows.laid_math_bits_deBruijn32tab), ("ziggurat/ntt.fields", Rows.laid_ziggurat_ntt_fields)] w) ∧ sizedMet enc Tryz.prog Tryz.f4 (OpenSpec.ofChange Rows.topTaylorSpec) false w args)
      (Rows.topTaylorSpec.post enc Tryz.prog Tryz.f4 false true false false) := by
  refine returnsInHanded_of_change_and (C := Tryz.checked) (X := fun w _ => laidMetH Tryz.prog [("math/bits.deBruijn32tab", Rows.laid_math_bits_deBruijn32tab), ("ziggurat/ntt.fields", Rows.laid_ziggurat_ntt_fields)] w) (fun _ _ _ hh h => h.of_heap hh) row_own started (by kernel_rfl) Tryz.func4
    (ChangeSpec.witness_shaped (enc := enc) (C := Tryz.checked) (os := os) (X := fun w _ => laidMetH Tryz.prog [("math/bits.deBruijn32tab", Rows.laid_math_bits_deBruijn32tab), ("ziggurat/ntt.fields", Rows.laid_ziggurat_ntt_fields)] w) false (World.doorLaid Tryz.prog 400 os) #[.slice none 0 0, .agg #[.bool false, .slice none 0 0]] 8 rfl (World.shaped_of_RefB (by kernel_rfl) (by kernel_rfl)) (by kernel_rfl) (by kernel_rfl) (by kernel_rfl) (door_met2 os _)) ?_
  intro W base args ds gs before hval0 hW _ _ hL _
  have hval : ∀ (j : Nat) t v, Tryz.f4.params[j]? = some t → args[j]? = some v → Value.okWide Tryz.prog W .any base t v := hval0
  have hW' := hW
  obtain ⟨p, q, hA0, hV, rfl, hfz, hnd⟩ := hW
  have hA : DataW.TrodAll enc Tryz.prog W 0 (fun _ => true) true Tryz.f4.params.toList args.toList ds p := hA0
  rw [Tryz.params4] at hA hval
  obtain ⟨v0, vs0, d0, ds0, p0, q0, hargs, rfl, rfl, h0, r0⟩ := trodAll_cons hA
  obtain ⟨v1, vs1, d1, ds1, p1, q1, rfl, rfl, rfl, h1, r1⟩ := trodAll_cons r0
  obtain ⟨rfl, rfl, rfl⟩ := trodAll_nil r1
  obtain rfl : args = #[v0, v1] := by cases args; simp_all
  obtain ⟨rfl, rfl⟩ := trodVars_none hV
  have hT := tab_of_laid2 hL
  have hG := flds_of_laid2 hL
  have k0 := h0
  have lt0 : ∀ x ∈ p0, x.block < W.heap.size := by obtain ⟨m, hm⟩ := k0; exact DataW.trod_lt m _ _ _ hm
  obtain ⟨V0, n0, c0, sb0, ls0, rfl, i0, m0⟩ := open_polv (hval 0 46 v0 rfl rfl) h0
  have k1 := h1
  have lt1 : ∀ x ∈ p1, x.block < W.heap.size := by obtain ⟨m, hm⟩ := k1; exact DataW.trod_lt m _ _ _ hm
  obtain ⟨b1, A1, c1, l1, rfl, i1⟩ := open_zi (hval 1 24 v1 rfl rfl) h1
  clear hA0 hval0 hval hL
  have hcall := topTaylor_c V0 c0 n0 sb0 ls0 b1 A1 c1 l1 W hT hG i0 m0 i1.1 i1.2.1 i1.2.2.1 i1.2.2.2.1 i1.2.2.2.2
  refine hcall.mono fun e W' ⟨he, bel⟩ => ?_
  subst he
  exact ⟨_, rfl, _, _, _, [], _, [], hW', trodAll_mk1 (shut_bool Tryz.underlying4 _), (trodAll_cons_mk (Below.trod row_out (by kernel_rfl) (of_decide_eq_true (by kernel_rfl)) k0 bel lt0) (trodAll_cons_mk (Below.trod row_out (by kernel_rfl) (of_decide_eq_true (by kernel_rfl)) k1 bel lt1) trodAll_mk0)), rfl, bel.frame _, fun h => by cases h⟩
theorem topTaylor_holds : Rows.TopTaylorSaid :=
  OpenClaim.holds_of_wide 4 Tryz.f4 rfl rfl rfl rfl rfl rfl rfl ⟨rfl, rfl, rfl, rfl, rfl⟩ rfl rfl rfl rfl rfl (by kernel_rfl) Tryz.func4 (by kernel_rfl)
    (of_decide_eq_true (by kernel_rfl)) (by unfold Func.isWrapper; first | (rw [if_pos (by decide +kernel)]; kernel_rfl) | (rw [if_neg (by decide +kernel)]; exact ⟨rfl, rfl⟩))
    (fun os started H enc _ => topTaylor_lifted os started H enc)

theorem topTaylor_card : Rows.TopTaylorCardSaid :=
  Claim7.holds_tied_plain_at .later [] [.data, .data] true (true, "1b099f4291bf57a8abed1a666a9375baa10b5959ea2cd4e08112e6e680d095a9") false
    topTaylor_holds (fun _ h => by cases h) (by kernel_rfl) (fun _ h => by cases h) topTaylor_row_tie rfl ⟨rfl, rfl⟩ (by kernel_rfl) rfl
    (fun f fn hf hfn => by
      obtain rfl : f = 4 := Option.some.inj ((show Tryz.prog.funcNamed "ziggurat/ziggurattop.TopTaylor" = some 4 by kernel_rfl).symm.trans hf) |>.symm
      obtain rfl : fn = Tryz.f4 := (Option.some.inj (Tryz.func4.symm.trans hfn)).symm
      exact ⟨by kernel_rfl, fun j t ht => by
        rw [Tryz.params4] at ht
        have hm : t ∈ [46, 24] := by simpa using Array.mem_of_getElem? ht
        have hall : ([46, 24].all fun u => !Tryz.prog.wantsStandIn u) = true := by kernel_rfl
        exact (show Tryz.prog.wantsStandIn t = false by simpa using List.all_eq_true.1 hall t hm)⟩)
    (by kernel_rfl)
#print axioms topTaylor_card
end Go.Proofs.YtopigejgadnkaaaGreatDoor
