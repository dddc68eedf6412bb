/- For all inputs the greatest common divisor, by each way, its cofactors, and Euclid's quotients are as the document says: GcdTells returns true and leaves its arguments as they were. Conditions: Each package-level variable that the row lists (ntt.fields) holds at the call what the program's text lays; the tie is given and covers the pruned copy of the repository. -/
import Derived.Test.YthcmoimlnhghcaaGreatDoorG05
import Derived.Test.YthcmoimlnhghcaaGreatDoorG06
import Derived.Test.YthcmoimlnhghcaaGreatDoorG03
import Derived.Deep.CutRange
import Derived.Test.YthcmoimlnhghcaaGreatDoorCards
import Derived.Test.YthcmoimlnhghcaaGreatDoorTie
import Derived.SevenTiedAt
set_option maxRecDepth 100000
set_option maxHeartbeats 4000000
/- Laws of greatest common divisors: GcdTells. -/
set_option linter.unusedVariables false
set_option linter.unusedSimpArgs false
namespace Go.Proofs.YthcmoimlnhghcaaGreatDoor
open Go.RowKit Go.Shelf
attribute [local go_sem] max2_i min2_i max_two min_two

theorem gcdTells_c (A : Option Addr) (c : Nat) (l : List Nat) (B : Option Addr) (d : Nat) (m : List Nat) (w : World) (hG : Flds w) (hl : Rd w A l) (Ll : Lim l) (Ql : l.length ≤ maxLen) (Cl : l.length ≤ c) (Zl : A = none → c = 0) (hm : Rd w B m) (Lm : Lim m) (Qm : m.length ≤ maxLen) (Cm : m.length ≤ d) (Zm : B = none → d = 0) :
    Calls Tryz.prog 4 #[.slice A l.length c, .slice B m.length d] w fun e w' => e = .returned (.bool true) ∧ Below w.heap.size w w' := by
  replace Zl := Lib.hid Zl
  replace Zm := Lib.hid Zm
  go_enter Tryz.func4, Tryz.ntmps4
  go_wp2_with (fail)
  refine (Calls.mono (ghead_c _ hG) ?_)
  rintro e W1 ⟨rfl, hb1⟩
  replace hG := hG.below hb1
  replace hl := hl.below hb1
  replace hm := hm.below hb1
  have HBT := hb1
  clear hb1
  go_wp2_with (fail)
  obtain ⟨a, Ea⟩ : ∃ zq : Nat, zq = val (l.take 40) := ⟨_, rfl⟩
  have Ba : nl a ≤ 40 := by rw [Ea]; exact made_nl l Ll 40
  refine (Calls.mono (R := RetN W1 a) (by rw [Ea]; exact (made_n_c A c 40 l _ hl Ll Ql Cl Zl.out (by decide))) ?_)
  replace Ea := Lib.hid Ea
  rintro e W2 ⟨X2, c2, rfl, ha, hb2⟩
  replace hG := hG.below hb2
  replace hl := hl.below hb2
  replace hm := hm.below hb2
  replace HBT := Below.cons HBT hb2
  clear hb2
  go_wp2_with (fail)
  clear hl
  obtain ⟨b, Eb⟩ : ∃ zq : Nat, zq = val (m.take 40) := ⟨_, rfl⟩
  have Bb : nl b ≤ 40 := by rw [Eb]; exact made_nl m Lm 40
  refine (Calls.mono (R := RetN W2 b) (by rw [Eb]; exact (made_n_c B d 40 m _ hm Lm Qm Cm Zm.out (by decide))) ?_)
  replace Eb := Lib.hid Eb
  rintro e W3 ⟨X3, c3, rfl, hb, hb3⟩
  replace hG := hG.below hb3
  replace hm := hm.below hb3
  replace ha := ha.below hb3
  replace HBT := Below.cons HBT hb3
  clear hb3
  go_wp2_with (fail)
  clear hm
  obtain ⟨wa, Ewa⟩ : ∃ zq : Nat, zq = Nat.gcd a b := ⟨_, rfl⟩
  have Bwa : nl wa ≤ 40 := by rw [Ewa]; exact nl_gcd (by omega) (by omega)
  refine (Calls.mono (R := RetN W3 wa) (by rw [Ewa]; exact (rgcd_c X2 c2 a X3 c3 b _ ha hb (by omega) (by omega))) ?_)
  replace Ewa := Lib.hid Ewa
  rintro e W4 ⟨X4, c4, rfl, hwa, hb4⟩
  replace hG := hG.below hb4
  replace ha := ha.below hb4
  replace hb := hb.below hb4
  replace HBT := Below.cons HBT hb4
  clear hb4
  go_wp2_with (fail)
  have SZ := ex_sz (a := a) (b := b) (L := 40) Ba Bb (by decide)
  have GD : nl (Nat.gcd a b) ≤ 40 := nl_gcd Ba Bb
  have CX := ext_c X2 c2 a X3 c3 b _ ha hb hG (by omega) (by omega)
  obtain ⟨g, Eg⟩ : ∃ z : Nat, z = Nat.gcd a b := ⟨_, rfl⟩
  obtain ⟨u, Eu⟩ : ∃ z : Int, z = exu a b := ⟨_, rfl⟩
  obtain ⟨v, Ev⟩ : ∃ z : Int, z = exv a b := ⟨_, rfl⟩
  rw [← Eg, ← Eu, ← Ev] at CX
  rw [← Eu, ← Ev] at SZ
  rw [← Eg] at GD
  obtain ⟨Nu, Nv⟩ := SZ
  have Bg := GD
  clear GD
  replace CX := Lib.hid CX
  replace Eg := Lib.hid Eg
  replace Eu := Lib.hid Eu
  replace Ev := Lib.hid Ev
  refine (Calls.mono CX.out ?_)
  rintro e W5 ⟨Xg, cg, Xu, cu, Xv, cv, rfl, hg, hu, hv, hb5⟩
  replace hG := hG.below hb5
  replace ha := ha.below hb5
  replace hb := hb.below hb5
  replace hwa := hwa.below hb5
  replace HBT := Below.cons HBT hb5
  clear hb5
  clear CX
  obtain ⟨hb6, Ru, Rv⟩ := bx2 W5 #[.bool (sg u), .slice Xu (nl (mg u)) cu] 24 #[.bool (sg v), .slice Xv (nl (mg v)) cv] 24
  replace hG := hG.below hb6
  replace ha := ha.below hb6
  replace hb := hb.below hb6
  replace hwa := hwa.below hb6
  replace hg := hg.below hb6
  replace hu := hu.below hb6
  replace hv := hv.below hb6
  replace HBT := Below.cons HBT hb6
  clear hb6
  have qu0 := Ru.c (i := 0) rfl
  have qu1 := Ru.c (i := 1) rfl
  have qv0 := Rv.c (i := 0) rfl
  have qv1 := Rv.c (i := 1) rfl
  go_wp2_with (fail)
  generalize hV5 : ((W5.alloc (.cells #[.bool (sg u), .slice Xu (nl (mg u)) cu] 24)).alloc (.cells #[.bool (sg v), .slice Xv (nl (mg v)) cv] 24)) = V5 at *
  replace hV5 := Lib.hid hV5
  have SZ := ex_sz (a := a) (b := b) (L := 40) Ba Bb (by decide)
  have GD : nl (Nat.gcd a b) ≤ 40 := nl_gcd Ba Bb
  have CX := rext_c X2 c2 a X3 c3 b _ ha hb (by omega) (by omega)
  obtain ⟨gg, Egg⟩ : ∃ z : Nat, z = Nat.gcd a b := ⟨_, rfl⟩
  obtain ⟨uu, Euu⟩ : ∃ z : Int, z = exu a b := ⟨_, rfl⟩
  obtain ⟨vv, Evv⟩ : ∃ z : Int, z = exv a b := ⟨_, rfl⟩
  rw [← Egg, ← Euu, ← Evv] at CX
  rw [← Euu, ← Evv] at SZ
  rw [← Egg] at GD
  obtain ⟨Nuu, Nvv⟩ := SZ
  have Bgg := GD
  clear GD
  replace CX := Lib.hid CX
  replace Egg := Lib.hid Egg
  replace Euu := Lib.hid Euu
  replace Evv := Lib.hid Evv
  refine (Calls.mono CX.out ?_)
  rintro e W7 ⟨Xgg, cgg, Xuu, cuu, Xvv, cvv, rfl, hgg, huu, hvv, hb7⟩
  replace hG := hG.below hb7
  replace ha := ha.below hb7
  replace hb := hb.below hb7
  replace hwa := hwa.below hb7
  replace hg := hg.below hb7
  replace hu := hu.below hb7
  replace hv := hv.below hb7
  replace Ru := Ru.below hb7
  replace qu0 := cbl hb7 qu0
  replace qu1 := cbl hb7 qu1
  replace Rv := Rv.below hb7
  replace qv0 := cbl hb7 qv0
  replace qv1 := cbl hb7 qv1
  replace HBT := Below.cons HBT hb7
  clear hb7
  clear CX
  obtain ⟨hb8, Ruu, Rvv⟩ := bx2 W7 #[.bool (sg uu), .slice Xuu (nl (mg uu)) cuu] 24 #[.bool (sg vv), .slice Xvv (nl (mg vv)) cvv] 24
  replace hG := hG.below hb8
  replace ha := ha.below hb8
  replace hb := hb.below hb8
  replace hwa := hwa.below hb8
  replace hg := hg.below hb8
  replace hu := hu.below hb8
  replace hv := hv.below hb8
  replace Ru := Ru.below hb8
  replace qu0 := cbl hb8 qu0
  replace qu1 := cbl hb8 qu1
  replace Rv := Rv.below hb8
  replace qv0 := cbl hb8 qv0
  replace qv1 := cbl hb8 qv1
  replace hgg := hgg.below hb8
  replace huu := huu.below hb8
  replace hvv := hvv.below hb8
  replace HBT := Below.cons HBT hb8
  clear hb8
  have quu0 := Ruu.c (i := 0) rfl
  have quu1 := Ruu.c (i := 1) rfl
  have qvv0 := Rvv.c (i := 0) rfl
  have qvv1 := Rvv.c (i := 1) rfl
  go_wp2_with (fail)
  generalize hV7 : ((W7.alloc (.cells #[.bool (sg uu), .slice Xuu (nl (mg uu)) cuu] 24)).alloc (.cells #[.bool (sg vv), .slice Xvv (nl (mg vv)) cvv] 24)) = V7 at *
  replace hV7 := Lib.hid hV7
  obtain ⟨n, En⟩ : ∃ z : Nat, z = eun a b := ⟨_, rfl⟩
  obtain ⟨fq, Ef⟩ : ∃ z : Nat → Nat, z = quo a b := ⟨_, rfl⟩
  have BQ : ∀ k, k < n → nl (fq k) ≤ 40 := fun k hk => by rw [Ef]; exact quo_nl (by rw [← En]; omega) (by omega) (by omega)
  replace BQ := Lib.hid BQ
  replace En := Lib.hid En
  replace Ef := Lib.hid Ef
  have CQ := quots_c X2 c2 a X3 c3 b _ ha hb (by omega) (by omega)
  rw [← En.out, ← Ef.out] at CQ
  replace CQ := Lib.hid CQ
  refine (Calls.mono CQ.out ?_)
  clear CQ
  rintro e W9 ⟨Vp, dp, rfl, hp, hmxp, hb9⟩
  replace hG := hG.below hb9
  replace ha := ha.below hb9
  replace hb := hb.below hb9
  replace hwa := hwa.below hb9
  replace hg := hg.below hb9
  replace hu := hu.below hb9
  replace hv := hv.below hb9
  replace Ru := Ru.below hb9
  replace qu0 := cbl hb9 qu0
  replace qu1 := cbl hb9 qu1
  replace Rv := Rv.below hb9
  replace qv0 := cbl hb9 qv0
  replace qv1 := cbl hb9 qv1
  replace hgg := hgg.below hb9
  replace huu := huu.below hb9
  replace hvv := hvv.below hb9
  replace Ruu := Ruu.below hb9
  replace quu0 := cbl hb9 quu0
  replace quu1 := cbl hb9 quu1
  replace Rvv := Rvv.below hb9
  replace qvv0 := cbl hb9 qvv0
  replace qvv1 := cbl hb9 qvv1
  replace HBT := Below.cons HBT hb9
  clear hb9
  go_wp2_with (fail)
  have CQ := rquots_c X2 c2 a X3 c3 b _ ha hb (by omega) (by omega)
  rw [← En.out, ← Ef.out] at CQ
  replace CQ := Lib.hid CQ
  refine (Calls.mono CQ.out ?_)
  clear CQ
  rintro e WL ⟨Vq, dq, rfl, hq, hmxq, hb10⟩
  replace hG := hG.below hb10
  replace ha := ha.below hb10
  replace hb := hb.below hb10
  replace hwa := hwa.below hb10
  replace hg := hg.below hb10
  replace hu := hu.below hb10
  replace hv := hv.below hb10
  replace Ru := Ru.below hb10
  replace qu0 := cbl hb10 qu0
  replace qu1 := cbl hb10 qu1
  replace Rv := Rv.below hb10
  replace qv0 := cbl hb10 qv0
  replace qv1 := cbl hb10 qv1
  replace hgg := hgg.below hb10
  replace huu := huu.below hb10
  replace hvv := hvv.below hb10
  replace Ruu := Ruu.below hb10
  replace quu0 := cbl hb10 quu0
  replace quu1 := cbl hb10 quu1
  replace Rvv := Rvv.below hb10
  replace qvv0 := cbl hb10 qvv0
  replace qvv1 := cbl hb10 qvv1
  replace hp := hp.below hb10
  replace HBT := Below.cons HBT hb10
  clear hb10
  clear qu0
  clear qu1
  clear qv0
  clear qv1
  clear quu0
  clear quu1
  clear qvv0
  clear qvv1
  have HK : ∀ Z, Below WL.heap.size WL Z → Flds Z ∧ NatV Z X2 c2 a ∧ NatV Z X3 c3 b ∧ NatV Z X4 c4 wa ∧ NatV Z Xg cg g ∧ NatV Z Xu cu (mg u) ∧ NatV Z Xv cv (mg v) ∧ BoxA Z W5.heap.size 24 #[.bool (sg u), .slice Xu (nl (mg u)) cu] ∧ BoxA Z (W5.heap.size + 1) 24 #[.bool (sg v), .slice Xv (nl (mg v)) cv] ∧ NatV Z Xgg cgg gg ∧ NatV Z Xuu cuu (mg uu) ∧ NatV Z Xvv cvv (mg vv) ∧ BoxA Z W7.heap.size 24 #[.bool (sg uu), .slice Xuu (nl (mg uu)) cuu] ∧ BoxA Z (W7.heap.size + 1) 24 #[.bool (sg vv), .slice Xvv (nl (mg vv)) cvv] ∧ QL fq Z Vp n ∧ QL fq Z Vq n ∧ Below w.heap.size w Z := fun Z h => ⟨hG.below h, ha.below h, hb.below h, hwa.below h, hg.below h, hu.below h, hv.below h, Ru.below h, Rv.below h, hgg.below h, huu.below h, hvv.below h, Ruu.below h, Rvv.below h, hp.below h, hq.below h, HBT.cons h⟩
  replace HK := Lib.hid HK
  clear hG ha hb hwa hg hu hv Ru Rv hgg huu hvv Ruu Rvv hp hq HBT
  have tne : ((n : Int) != (n : Int)) = false := by simp
  skip
  go_wp2_with (fail)
  go_loopw [15] (fun v15 wr => ∃ i : Nat, v15 = .int .i64 i ∧ i ≤ n ∧ Below WL.heap.size WL wr) (fun v15 wr => n - (intOf v15).toNat)
  case atStart => exact ⟨0, rfl, Nat.zero_le _, Below.refl _ _⟩
  case round =>
    obtain ⟨i, rfl, hi, hbr⟩ := hrel
    obtain ⟨kG, ka, kb, kwa, kg, ku, kv, kRu, kRv, kgg, kuu, kvv, kRuu, kRvv, kp, kq, HBT⟩ := HK.out wr hbr
    by_cases hin : i < n
    · have t1 : decide ((i : Int) < (n : Int)) = true := by simp; omega
      have t2 : decide (i < n) = true := by simp; omega
      obtain ⟨ap, Xa, da, rfl, hca, hNa⟩ := kp i hin
      obtain ⟨aq, Xb, db, rfl, hcb, hNb⟩ := kq i hin
      have Bf := BQ.out i hin
      obtain ⟨z, Ez⟩ : ∃ z, z = fq i := ⟨_, rfl⟩
      rw [← Ez] at hca hNa hcb hNb Bf
      replace Ez := Lib.hid Ez
      have Wi : IntKind.i64.wrap ((i : Int) + 1) = ((i + 1 : Nat) : Int) := by rw [show (i : Int) + 1 = ((i + 1 : Nat) : Int) by omega]; exact IntWalk.i64_in _ (by unfold maxLen at hmxq; omega)
      have g1 : (0 : Int) ≤ (i : Int) := Int.natCast_nonneg i
      have g2 : (i : Int) < (n : Int) := by omega
      have g3 : IntKind.i64.wrap (i : Int) = (i : Int) := IntWalk.i64_in _ (by unfold maxLen at hmxq; omega)
      have CS := fun (W : World) (h1 : NatV W Xa da z) (h2 : NatV W Xb db z) => same1_t Xa da z Xb db z W h1 h2 (by omega) (by omega) rfl
      replace CS := Lib.hid CS
      have hd : Below wr.heap.size wr wr.drew := (Below.refl _ _).drew
      have fa : wr.drew.cell? (ap.add i) = some (.slice Xa (nl z) da) := hca
      have fb : wr.drew.cell? (aq.add i) = some (.slice Xb (nl z) db) := hcb
      replace hNa := hNa.below hd
      replace hNb := hNb.below hd
      replace hbr := hbr.cons hd
      clear hd hca hcb HBT kG ka kb kwa kg ku kv kRu kRv kgg kuu kvv kRuu kRvv kp kq
      go_wp2_with (fail)
      go_region_held3 (fun W => W.cell? (ap.add i) = some (.slice Xa (nl z) da) ∧ W.cell? (aq.add i) = some (.slice Xb (nl z) db))
        (first | exact ⟨fa, fb⟩ | exact ⟨fa2, fb2⟩ | go_keep)
        (first | (go_at_call 38; (with_reducible refine (CS.out _ hNa hNb).mono ?_); rintro e W1 ⟨rfl, hb1⟩; have fa2 := cbl hb1 fa; have fb2 := cbl hb1 fb; have hbr2 := hbr.cons hb1))
      go_wp2_with (fail)
      go_roundw
      case rel => exact ⟨i + 1, by go_num, by omega, hbr2⟩
      case measure => simp [intOf]; omega
    · have t1 : decide ((i : Int) < (n : Int)) = false := by simp; omega
      have t2 : decide (i < n) = false := by simp; omega
      clear kp
      clear kq
      have qu0 := kRu.c (i := 0) rfl
      have qu1 := kRu.c (i := 1) rfl
      have qv0 := kRv.c (i := 0) rfl
      have qv1 := kRv.c (i := 1) rfl
      have quu0 := kRuu.c (i := 0) rfl
      have quu1 := kRuu.c (i := 1) rfl
      have qvv0 := kRvv.c (i := 0) rfl
      have qvv1 := kRvv.c (i := 1) rfl
      go_wp2_with (fail)
      obtain ⟨r1, Er1⟩ : ∃ zq : Nat, zq = Nat.gcd a b := ⟨_, rfl⟩
      have Br1 : nl r1 ≤ 40 := by rw [Er1]; exact nl_gcd (by omega) (by omega)
      refine (Calls.mono (R := RetN wr r1) (by rw [Er1]; exact (gcd_c X2 c2 a X3 c3 b _ ka kb (by omega) (by omega))) ?_)
      replace Er1 := Lib.hid Er1
      rintro e W11 ⟨X11, c11, rfl, hr1, hb11⟩
      replace kG := kG.below hb11
      replace ka := ka.below hb11
      replace kb := kb.below hb11
      replace kwa := kwa.below hb11
      replace kg := kg.below hb11
      replace ku := ku.below hb11
      replace kv := kv.below hb11
      replace kRu := kRu.below hb11
      replace kRv := kRv.below hb11
      replace kgg := kgg.below hb11
      replace kuu := kuu.below hb11
      replace kvv := kvv.below hb11
      replace kRuu := kRuu.below hb11
      replace kRvv := kRvv.below hb11
      replace qu0 := cbl hb11 qu0
      replace qu1 := cbl hb11 qu1
      replace qv0 := cbl hb11 qv0
      replace qv1 := cbl hb11 qv1
      replace quu0 := cbl hb11 quu0
      replace quu1 := cbl hb11 quu1
      replace qvv0 := cbl hb11 qvv0
      replace qvv1 := cbl hb11 qvv1
      replace HBT := Below.cons HBT hb11
      clear hb11
      go_wp2_with (fail)
      refine (Calls.mono (same1_t X11 c11 r1 X4 c4 wa _ hr1 kwa (by omega) (by omega) (by rw [Er1.out, Ewa.out])) ?_)
      rintro e W12 ⟨rfl, hb12⟩
      replace kG := kG.below hb12
      replace ka := ka.below hb12
      replace kb := kb.below hb12
      replace kwa := kwa.below hb12
      replace kg := kg.below hb12
      replace ku := ku.below hb12
      replace kv := kv.below hb12
      replace kRu := kRu.below hb12
      replace kRv := kRv.below hb12
      replace kgg := kgg.below hb12
      replace kuu := kuu.below hb12
      replace kvv := kvv.below hb12
      replace kRuu := kRuu.below hb12
      replace kRvv := kRvv.below hb12
      replace qu0 := cbl hb12 qu0
      replace qu1 := cbl hb12 qu1
      replace qv0 := cbl hb12 qv0
      replace qv1 := cbl hb12 qv1
      replace quu0 := cbl hb12 quu0
      replace quu1 := cbl hb12 quu1
      replace qvv0 := cbl hb12 qvv0
      replace qvv1 := cbl hb12 qvv1
      replace hr1 := hr1.below hb12
      replace HBT := Below.cons HBT hb12
      clear hb12
      go_wp2_with (fail)
      obtain ⟨r2, Er2⟩ : ∃ zq : Nat, zq = Nat.gcd a b := ⟨_, rfl⟩
      have Br2 : nl r2 ≤ 40 := by rw [Er2]; exact nl_gcd (by omega) (by omega)
      refine (Calls.mono (R := RetN W12 r2) (by rw [Er2]; exact (lehmer_c X2 c2 a X3 c3 b _ ka kb kG (by omega) (by omega))) ?_)
      replace Er2 := Lib.hid Er2
      rintro e W13 ⟨X13, c13, rfl, hr2, hb13⟩
      replace kG := kG.below hb13
      replace ka := ka.below hb13
      replace kb := kb.below hb13
      replace kwa := kwa.below hb13
      replace kg := kg.below hb13
      replace ku := ku.below hb13
      replace kv := kv.below hb13
      replace kRu := kRu.below hb13
      replace kRv := kRv.below hb13
      replace kgg := kgg.below hb13
      replace kuu := kuu.below hb13
      replace kvv := kvv.below hb13
      replace kRuu := kRuu.below hb13
      replace kRvv := kRvv.below hb13
      replace qu0 := cbl hb13 qu0
      replace qu1 := cbl hb13 qu1
      replace qv0 := cbl hb13 qv0
      replace qv1 := cbl hb13 qv1
      replace quu0 := cbl hb13 quu0
      replace quu1 := cbl hb13 quu1
      replace qvv0 := cbl hb13 qvv0
      replace qvv1 := cbl hb13 qvv1
      replace hr1 := hr1.below hb13
      replace HBT := Below.cons HBT hb13
      clear hb13
      go_wp2_with (fail)
      refine (Calls.mono (same1_t X13 c13 r2 X4 c4 wa _ hr2 kwa (by omega) (by omega) (by rw [Er2.out, Ewa.out])) ?_)
      rintro e W14 ⟨rfl, hb14⟩
      replace kG := kG.below hb14
      replace ka := ka.below hb14
      replace kb := kb.below hb14
      replace kwa := kwa.below hb14
      replace kg := kg.below hb14
      replace ku := ku.below hb14
      replace kv := kv.below hb14
      replace kRu := kRu.below hb14
      replace kRv := kRv.below hb14
      replace kgg := kgg.below hb14
      replace kuu := kuu.below hb14
      replace kvv := kvv.below hb14
      replace kRuu := kRuu.below hb14
      replace kRvv := kRvv.below hb14
      replace qu0 := cbl hb14 qu0
      replace qu1 := cbl hb14 qu1
      replace qv0 := cbl hb14 qv0
      replace qv1 := cbl hb14 qv1
      replace quu0 := cbl hb14 quu0
      replace quu1 := cbl hb14 quu1
      replace qvv0 := cbl hb14 qvv0
      replace qvv1 := cbl hb14 qvv1
      replace hr1 := hr1.below hb14
      replace hr2 := hr2.below hb14
      replace HBT := Below.cons HBT hb14
      clear hb14
      go_wp2_with (fail)
      obtain ⟨r3, Er3⟩ : ∃ zq : Nat, zq = Nat.gcd a b := ⟨_, rfl⟩
      have Br3 : nl r3 ≤ 40 := by rw [Er3]; exact nl_gcd (by omega) (by omega)
      refine (Calls.mono (R := RetN W14 r3) (by rw [Er3]; exact (half_c X2 c2 a X3 c3 b _ ka kb kG (by omega) (by omega))) ?_)
      replace Er3 := Lib.hid Er3
      rintro e W15 ⟨X15, c15, rfl, hr3, hb15⟩
      replace kG := kG.below hb15
      replace ka := ka.below hb15
      replace kb := kb.below hb15
      replace kwa := kwa.below hb15
      replace kg := kg.below hb15
      replace ku := ku.below hb15
      replace kv := kv.below hb15
      replace kRu := kRu.below hb15
      replace kRv := kRv.below hb15
      replace kgg := kgg.below hb15
      replace kuu := kuu.below hb15
      replace kvv := kvv.below hb15
      replace kRuu := kRuu.below hb15
      replace kRvv := kRvv.below hb15
      replace qu0 := cbl hb15 qu0
      replace qu1 := cbl hb15 qu1
      replace qv0 := cbl hb15 qv0
      replace qv1 := cbl hb15 qv1
      replace quu0 := cbl hb15 quu0
      replace quu1 := cbl hb15 quu1
      replace qvv0 := cbl hb15 qvv0
      replace qvv1 := cbl hb15 qvv1
      replace hr1 := hr1.below hb15
      replace hr2 := hr2.below hb15
      replace HBT := Below.cons HBT hb15
      clear hb15
      go_wp2_with (fail)
      refine (Calls.mono (same1_t X15 c15 r3 X4 c4 wa _ hr3 kwa (by omega) (by omega) (by rw [Er3.out, Ewa.out])) ?_)
      rintro e W16 ⟨rfl, hb16⟩
      replace kG := kG.below hb16
      replace ka := ka.below hb16
      replace kb := kb.below hb16
      replace kwa := kwa.below hb16
      replace kg := kg.below hb16
      replace ku := ku.below hb16
      replace kv := kv.below hb16
      replace kRu := kRu.below hb16
      replace kRv := kRv.below hb16
      replace kgg := kgg.below hb16
      replace kuu := kuu.below hb16
      replace kvv := kvv.below hb16
      replace kRuu := kRuu.below hb16
      replace kRvv := kRvv.below hb16
      replace qu0 := cbl hb16 qu0
      replace qu1 := cbl hb16 qu1
      replace qv0 := cbl hb16 qv0
      replace qv1 := cbl hb16 qv1
      replace quu0 := cbl hb16 quu0
      replace quu1 := cbl hb16 quu1
      replace qvv0 := cbl hb16 qvv0
      replace qvv1 := cbl hb16 qvv1
      replace hr1 := hr1.below hb16
      replace hr2 := hr2.below hb16
      replace hr3 := hr3.below hb16
      replace HBT := Below.cons HBT hb16
      clear hb16
      go_wp2_with (fail)
      refine (Calls.mono (same1_t Xg cg g Xgg cgg gg _ kg kgg (by omega) (by omega) (by rw [Eg.out, Egg.out])) ?_)
      rintro e W17 ⟨rfl, hb17⟩
      replace kG := kG.below hb17
      replace ka := ka.below hb17
      replace kb := kb.below hb17
      replace kwa := kwa.below hb17
      replace kg := kg.below hb17
      replace ku := ku.below hb17
      replace kv := kv.below hb17
      replace kRu := kRu.below hb17
      replace kRv := kRv.below hb17
      replace kgg := kgg.below hb17
      replace kuu := kuu.below hb17
      replace kvv := kvv.below hb17
      replace kRuu := kRuu.below hb17
      replace kRvv := kRvv.below hb17
      replace qu0 := cbl hb17 qu0
      replace qu1 := cbl hb17 qu1
      replace qv0 := cbl hb17 qv0
      replace qv1 := cbl hb17 qv1
      replace quu0 := cbl hb17 quu0
      replace quu1 := cbl hb17 quu1
      replace qvv0 := cbl hb17 qvv0
      replace qvv1 := cbl hb17 qvv1
      replace hr1 := hr1.below hb17
      replace hr2 := hr2.below hb17
      replace hr3 := hr3.below hb17
      replace HBT := Below.cons HBT hb17
      clear hb17
      go_wp2_with (fail)
      refine (Calls.mono (zsameT_c Xu cu u Xuu cuu uu _ ku kuu (by omega) (by rw [Eu.out, Euu.out])) ?_)
      rintro e W18 ⟨rfl, hb18⟩
      replace kG := kG.below hb18
      replace ka := ka.below hb18
      replace kb := kb.below hb18
      replace kwa := kwa.below hb18
      replace kg := kg.below hb18
      replace ku := ku.below hb18
      replace kv := kv.below hb18
      replace kRu := kRu.below hb18
      replace kRv := kRv.below hb18
      replace kgg := kgg.below hb18
      replace kuu := kuu.below hb18
      replace kvv := kvv.below hb18
      replace kRuu := kRuu.below hb18
      replace kRvv := kRvv.below hb18
      replace qu0 := cbl hb18 qu0
      replace qu1 := cbl hb18 qu1
      replace qv0 := cbl hb18 qv0
      replace qv1 := cbl hb18 qv1
      replace quu0 := cbl hb18 quu0
      replace quu1 := cbl hb18 quu1
      replace qvv0 := cbl hb18 qvv0
      replace qvv1 := cbl hb18 qvv1
      replace hr1 := hr1.below hb18
      replace hr2 := hr2.below hb18
      replace hr3 := hr3.below hb18
      replace HBT := Below.cons HBT hb18
      clear hb18
      go_wp2_with (fail)
      refine (Calls.mono (zsameT_c Xv cv v Xvv cvv vv _ kv kvv (by omega) (by rw [Ev.out, Evv.out])) ?_)
      rintro e W19 ⟨rfl, hb19⟩
      replace kG := kG.below hb19
      replace ka := ka.below hb19
      replace kb := kb.below hb19
      replace kwa := kwa.below hb19
      replace kg := kg.below hb19
      replace ku := ku.below hb19
      replace kv := kv.below hb19
      replace kRu := kRu.below hb19
      replace kRv := kRv.below hb19
      replace kgg := kgg.below hb19
      replace kuu := kuu.below hb19
      replace kvv := kvv.below hb19
      replace kRuu := kRuu.below hb19
      replace kRvv := kRvv.below hb19
      replace qu0 := cbl hb19 qu0
      replace qu1 := cbl hb19 qu1
      replace qv0 := cbl hb19 qv0
      replace qv1 := cbl hb19 qv1
      replace quu0 := cbl hb19 quu0
      replace quu1 := cbl hb19 quu1
      replace qvv0 := cbl hb19 qvv0
      replace qvv1 := cbl hb19 qvv1
      replace hr1 := hr1.below hb19
      replace hr2 := hr2.below hb19
      replace hr3 := hr3.below hb19
      replace HBT := Below.cons HBT hb19
      clear hb19
      go_wp2_with (fail)
      go_ret
      exact ⟨rfl, HBT⟩
end Go.Proofs.YthcmoimlnhghcaaGreatDoor

set_option linter.unusedVariables false
set_option linter.unusedSimpArgs false
namespace Go.Proofs.YthcmoimlnhghcaaGreatDoor
open Go.RowKit Go.ChangeShapes Go.WideShapes Go.ChangeAt

theorem gcdTells_lifted (os : Os) (started : os.Started) (H : Type) (enc : TypeId × Value → H) :
    ReturnsInHanded {} Tryz.checked os 4 .any (fun w args => (Rows.gcdTellsSpec.pre enc Tryz.prog Tryz.f4 [] false w args ∧ laidMetH Tryz.prog [("ziggurat/ntt.fields", Rows.laid_ziggurat_ntt_fields)] w) ∧ sizedMet enc Tryz.prog Tryz.f4 (OpenSpec.ofChange Rows.gcdTellsSpec) false w args)
      (Rows.gcdTellsSpec.post enc Tryz.prog Tryz.f4 false true false false) := by
  refine returnsInHanded_of_change_and (C := Tryz.checked) (X := fun w _ => laidMetH Tryz.prog [("ziggurat/ntt.fields", Rows.laid_ziggurat_ntt_fields)] w) (fun _ _ _ hh h => h.of_heap hh) row_own started (by kernel_rfl) Tryz.func4
    (ChangeSpec.witness_shaped (enc := enc) (C := Tryz.checked) (os := os) (X := fun w _ => laidMetH Tryz.prog [("ziggurat/ntt.fields", Rows.laid_ziggurat_ntt_fields)] w) false (World.doorLaid Tryz.prog 400 os) #[.slice none 0 0, .slice none 0 0] 8 rfl (World.shaped_of_RefB (by kernel_rfl) (by kernel_rfl)) (by kernel_rfl) (by kernel_rfl) (by kernel_rfl) (door_met os _)) ?_
  intro W base args ds gs before hval0 hW _ _ hL _
  have hval : ∀ (j : Nat) t v, Tryz.f4.params[j]? = some t → args[j]? = some v → Value.okWide Tryz.prog W .any base t v := hval0
  have hW' := hW
  obtain ⟨p, q, hA0, hV, rfl, hfz, hnd⟩ := hW
  have hA : DataW.TrodAll enc Tryz.prog W 0 (fun _ => true) true Tryz.f4.params.toList args.toList ds p := hA0
  rw [Tryz.params4] at hA hval
  obtain ⟨v0, vs0, d0, ds0, p0, q0, hargs, rfl, rfl, h0, r0⟩ := trodAll_cons hA
  obtain ⟨v1, vs1, d1, ds1, p1, q1, rfl, rfl, rfl, h1, r1⟩ := trodAll_cons r0
  obtain ⟨rfl, rfl, rfl⟩ := trodAll_nil r1
  obtain rfl : args = #[v0, v1] := by cases args; simp_all
  obtain ⟨rfl, rfl⟩ := trodVars_none hV
  have hG := flds_of_laid hL
  have k0 := h0
  have lt0 : ∀ x ∈ p0, x.block < W.heap.size := by obtain ⟨m, hm⟩ := k0; exact DataW.trod_lt m _ _ _ hm
  obtain ⟨A0, c0, l0, rfl, i0⟩ := open_natv (hval 0 22 v0 rfl rfl) h0
  have k1 := h1
  have lt1 : ∀ x ∈ p1, x.block < W.heap.size := by obtain ⟨m, hm⟩ := k1; exact DataW.trod_lt m _ _ _ hm
  obtain ⟨A1, c1, l1, rfl, i1⟩ := open_natv (hval 1 22 v1 rfl rfl) h1
  clear hA0 hval0 hval hL
  have hcall := gcdTells_c A0 c0 l0 A1 c1 l1 W hG i0.1 i0.2.1 i0.2.2.1 i0.2.2.2.1 i0.2.2.2.2 i1.1 i1.2.1 i1.2.2.1 i1.2.2.2.1 i1.2.2.2.2
  refine hcall.mono fun e W' ⟨he, bel⟩ => ?_
  subst he
  exact ⟨_, rfl, _, _, _, [], _, [], hW', trodAll_mk1 (shut_bool Tryz.underlying4 _), (trodAll_cons_mk (Below.trod row_out (by kernel_rfl) (of_decide_eq_true (by kernel_rfl)) k0 bel lt0) (trodAll_cons_mk (Below.trod row_out (by kernel_rfl) (of_decide_eq_true (by kernel_rfl)) k1 bel lt1) trodAll_mk0)), rfl, bel.frame _, fun h => by cases h⟩
theorem gcdTells_holds : Rows.GcdTellsSaid :=
  OpenClaim.holds_of_wide 4 Tryz.f4 rfl rfl rfl rfl rfl rfl rfl ⟨rfl, rfl, rfl, rfl, rfl⟩ rfl rfl rfl rfl rfl (by kernel_rfl) Tryz.func4 (by kernel_rfl)
    (of_decide_eq_true (by kernel_rfl)) (by unfold Func.isWrapper; first | (rw [if_pos (by decide +kernel)]; kernel_rfl) | (rw [if_neg (by decide +kernel)]; exact ⟨rfl, rfl⟩))
    (fun os started H enc _ => gcdTells_lifted os started H enc)

/-- The card, tied to the program's text. -/
theorem gcdTells_card : Rows.GcdTellsCardSaid :=
  Claim7.holds_tied_plain_at .later [] [.data] true (true, "fb26df76aa3e4b053ee34eec7cb38b2742bbed4501183c9c7cde0d6612f9eb47") false
    gcdTells_holds (fun _ h => by cases h) (by kernel_rfl) (fun _ h => by cases h) gcdTells_row_tie rfl ⟨rfl, rfl⟩ (by kernel_rfl) rfl
    (fun f fn hf hfn => by
      obtain rfl : f = 4 := Option.some.inj ((show Tryz.prog.funcNamed "ziggurat/zigguratlaw07.GcdTells" = some 4 by kernel_rfl).symm.trans hf) |>.symm
      obtain rfl : fn = Tryz.f4 := (Option.some.inj (Tryz.func4.symm.trans hfn)).symm
      exact ⟨by kernel_rfl, fun j t ht => by
        rw [Tryz.params4] at ht
        have hm : t ∈ [22, 22] := by simpa using Array.mem_of_getElem? ht
        have hall : ([22, 22].all fun u => !Tryz.prog.wantsStandIn u) = true := by kernel_rfl
        exact (show Tryz.prog.wantsStandIn t = false by simpa using List.all_eq_true.1 hall t hm)⟩)
    (by kernel_rfl)
#print axioms gcdTells_card
end Go.Proofs.YthcmoimlnhghcaaGreatDoor
