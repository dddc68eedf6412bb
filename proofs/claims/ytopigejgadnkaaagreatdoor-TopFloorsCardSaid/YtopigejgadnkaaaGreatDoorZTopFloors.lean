/- For all inputs rounding a rational down to bits is its floor over a power of 2, up its ceiling, and what a ball of it has, of as many bits, has both: TopFloors returns true and leaves its arguments as they were. Conditions: Each package-level variable that the row lists (math/bits.deBruijn32tab and ntt.fields) holds at the call what the text lays; the tie is given and covers the pruned copy of the repository. -/
import Derived.Test.YtopigejgadnkaaaGreatDoorT06
import Derived.Test.YtopigejgadnkaaaGreatDoorT04
import Derived.Test.YtopigejgadnkaaaGreatDoorT03
import Derived.Test.YtopigejgadnkaaaGreatDoorCards
import Derived.Test.YtopigejgadnkaaaGreatDoorTie
import Derived.SevenTiedAt
set_option maxRecDepth 100000
set_option maxHeartbeats 4000000
set_option linter.unusedVariables false
set_option linter.unusedSimpArgs false
namespace Go.Proofs.YtopigejgadnkaaaGreatDoor
open Go.RowKit Go.Shelf
attribute [local go_sem] max2_i min2_i max_two min_two

theorem add_szg {a b : Rat} {A B C D : Nat} (la : nl (mg a.num) ≤ A) (ma : nl a.den ≤ B) (lb : nl (mg b.num) ≤ C) (mb : nl b.den ≤ D) : nl (mg (a + b).num) ≤ A + B + C + D + 1 ∧ nl (a + b).den ≤ B + D := by
  have h0 : a.den * b.den ≠ 0 := Nat.mul_ne_zero a.den_nz b.den_nz
  rw [Rat.add_def', Rat.num_mkRat, Rat.den_mkRat, if_neg h0, if_neg h0]
  constructor
  · refine Nat.le_trans (nl_mono (Int.natAbs_ediv_le_natAbs _ _)) ?_
    have h1 : mg (a.num * (b.den : Int) + b.num * (a.den : Int)) ≤ mg a.num * b.den + mg b.num * a.den := by
      refine Nat.le_trans (Int.natAbs_add_le _ _) ?_
      rw [Int.natAbs_mul, Int.natAbs_mul]; exact Nat.le_refl _
    refine Nat.le_trans (nl_mono h1) ?_
    have h2 := nl_add (mg a.num * b.den) (mg b.num * a.den)
    have h3 := nl_mul (mg a.num) b.den
    have h4 := nl_mul (mg b.num) a.den
    omega
  · refine Nat.le_trans (nl_div _ _) ?_
    have := nl_mul a.den b.den; omega
theorem sub_szg {a b : Rat} {A B C D : Nat} (la : nl (mg a.num) ≤ A) (ma : nl a.den ≤ B) (lb : nl (mg b.num) ≤ C) (mb : nl b.den ≤ D) : nl (mg (a - b).num) ≤ A + B + C + D + 1 ∧ nl (a - b).den ≤ B + D := by
  rw [Rat.sub_eq_add_neg]
  exact add_szg la ma (by rw [Rat.neg_num, mg_neg]; exact lb) (by rw [Rat.neg_den]; exact mb)
theorem zp_two (k : Nat) : (((2 : Int) ^ k : Int) : Rat) = (2 : Rat) ^ (k : Int) := (zp_int k).symm
theorem two_sz (k : Nat) (h : k < 100) : nl (mg ((2 : Int) ^ k)) ≤ 4 := by
  refine nl_le.2 ?_
  rw [show mg ((2 : Int) ^ k) = 2 ^ k by unfold mg; rw [Int.natAbs_pow]; rfl]
  have h1 : 2 ^ k ≤ 2 ^ 100 := Nat.pow_le_pow_right (by decide) (by omega)
  refine Nat.lt_of_le_of_lt h1 ?_
  decide +kernel
theorem two_sz2 (k : Nat) (h : k < 100) : nl (mg 2 ^ k) ≤ 7 := by
  have h1 := two_sz k h
  rw [show mg ((2 : Int) ^ k) = mg 2 ^ k by unfold mg; rw [Int.natAbs_pow]] at h1
  omega
theorem floors_law {v : Rat} {z n : Int} : dval z (-n) * (2 : Rat) ^ n = (z : Rat) := dval_back rfl
theorem dabs_le (x : Rat) : x ≤ dabs x ∧ -x ≤ dabs x := by
  unfold dabs
  split
  · rename_i h; exact ⟨by grind, by grind⟩
  · rename_i h; have := Rat.not_lt.1 h; exact ⟨by grind, by grind⟩
theorem ball_has {v m r : Rat} {n : Int} (h : r = dval (rnd 1 (dabs (v - m) * (2 : Rat) ^ n)) (-n)) : m - r ≤ v ∧ v ≤ m + r := by
  have h1 : dabs (v - m) ≤ r := by
    have h2 : dabs (v - m) * (2 : Rat) ^ n ≤ ((rnd 1 (dabs (v - m) * (2 : Rat) ^ n) : Int) : Rat) := by rw [rnd_1]; exact le_ceil _
    have h3 : r * (2 : Rat) ^ n = ((rnd 1 (dabs (v - m) * (2 : Rat) ^ n) : Int) : Rat) := dval_back h.symm
    rw [← h3] at h2
    exact Rat.not_lt.1 (fun h => absurd h2 (Rat.not_le.2 ((Rat.mul_lt_mul_right (zp_pos n)).2 h)))
  obtain ⟨h4, h5⟩ := dabs_le (v - m)
  constructor <;> grind
theorem topFloors_c (sa : Bool) (b0 : Nat) (A : Option Addr) (c : Nat) (l : List Nat) (B : Option Addr) (d : Nat) (k : List Nat) (w : World) (hT : Tab w) (hG : Flds w) (hl : Rd w A l) (Ll : Lim l) (Ql : l.length ≤ maxLen) (Cl : l.length ≤ c) (Zl : A = none → c = 0) (hk : Rd w B k) (Lk : Lim k) (Qk : k.length ≤ maxLen) (Ck : k.length ≤ d) (Zk : B = none → d = 0) (hb0 : b0 < 256) :
    Calls Tryz.prog 3 #[.agg #[.bool sa, .slice A l.length c, .slice B k.length d], .int .u8 (b0 : Nat)] w fun e w' => e = .returned (.bool true) ∧ Below w.heap.size w w' := by
  replace Zl := Lib.hid Zl
  replace Zk := Lib.hid Zk
  have hT0 := hT
  have hG0 := hG
  have hl0 := hl
  have hk0 := hk
  obtain ⟨kn, Ekn⟩ : ∃ y, y = b0 % 100 := ⟨_, rfl⟩
  have Ikn : (b0 : Int) % 100 = (kn : Int) := by omega
  have Jkn : (b0 : Int).tmod 100 = (kn : Int) := by rw [Int.tmod_eq_emod_of_nonneg (by omega)]; exact Ikn
  have Bkn : kn < 100 := by omega
  replace Ekn := Lib.hid Ekn
  have Wkn : IntKind.i64.wrap (kn : Int) = (kn : Int) := IntWalk.i64_in _ (by omega)
  obtain ⟨n, En⟩ : ∃ z : Int, z = (kn : Int) := ⟨_, rfl⟩
  have bn : -100 ≤ n ∧ n ≤ 100 := by omega
  obtain ⟨v, Ev⟩ : ∃ z : Rat, z = ratM sa (val (l.take 6)) (val (k.take 6)) := ⟨_, rfl⟩
  have Nv : nl (mg v.num) ≤ 6 ∧ nl v.den ≤ 6 := by rw [Ev]; exact ratM_sz (made_nl l Ll 6) (made_nl k Lk 6) (by decide)
  have C1 := fun (W : World) (h1 : Rd W A l) (h2 : Rd W B k) => r9madeI_c sa A c l B d k 6 6 W h1 Ll Ql Cl Zl.out h2 Lk Qk Ck Zk.out (by decide) rfl
  rw [← Ev] at C1
  replace Ev := Lib.hid Ev
  replace C1 := Lib.hid C1
  have szn := mul_sz v ((2 : Rat) ^ n)
  have spn := pow_szb n (E := 100) bn
  have lvn : nl (mg (v * (2 : Rat) ^ n).num) ≤ 10 := by omega
  have Dlo := db_rnd (q := v) (n := n) (dr := 0) (l := 10) (E := 100) lvn bn
  have Dhi := db_rnd (q := v) (n := n) (dr := 1) (l := 10) (E := 100) lvn bn
  have Dm := db_rnd (q := v) (n := n) (dr := 4) (l := 10) (E := 100) lvn bn
  obtain ⟨lo, Elo⟩ : ∃ z : Rat, z = dval (rnd 0 (v * (2 : Rat) ^ n)) (-n) := ⟨_, rfl⟩
  rw [← Elo] at Dlo
  have Nlo := db_sz Dlo
  obtain ⟨hi, Ehi⟩ : ∃ z : Rat, z = dval (rnd 1 (v * (2 : Rat) ^ n)) (-n) := ⟨_, rfl⟩
  rw [← Ehi] at Dhi
  have Nhi := db_sz Dhi
  obtain ⟨m, Em⟩ : ∃ z : Rat, z = dval (rnd 4 (v * (2 : Rat) ^ n)) (-n) := ⟨_, rfl⟩
  rw [← Em] at Dm
  have Nm := db_sz Dm
  have Nvm := sub_szg Nv.1 Nv.2 Nm.1 Nm.2
  have mlh : m = lo ∨ m = hi := by rw [Em, Elo, Ehi, rnd_0, rnd_1]; rcases rnd_near (v * (2 : Rat) ^ n) with h | h <;> rw [h] <;> simp
  obtain ⟨r, Er⟩ : ∃ z : Rat, z = dval (rnd 1 (dabs (v - m) * (2 : Rat) ^ n)) (-n) := ⟨_, rfl⟩
  have Nab : nl (mg (dabs (v - m)).num) ≤ 60 := by unfold dabs; split; (rw [Rat.neg_num, mg_neg]; omega); omega
  have szr := mul_sz (dabs (v - m)) ((2 : Rat) ^ n)
  have Dr := db_rnd (q := dabs (v - m)) (n := n) (dr := 1) (l := 64) (E := 100) (by omega) bn
  rw [← Er] at Dr
  have Nr := db_sz Dr
  have BH := ball_has Er
  have Ds := db_sub (Dm.mono (l2 := 64) (E2 := 2148) (by decide) (by decide)) Dr
  have Da := db_add (Dm.mono (l2 := 64) (E2 := 2148) (by decide) (by decide)) Dr
  have Ns := db_sz Ds
  have Na := db_sz Da
  obtain ⟨two, Etwo⟩ : ∃ z : Rat, z = (2 : Rat) ^ n := ⟨_, rfl⟩
  have Ntwo := spn
  rw [← Etwo] at Ntwo
  obtain ⟨i2, Ei2⟩ : ∃ z : Int, z = 2 := ⟨_, rfl⟩
  have Ni2 : nl (mg i2) ≤ 1 := by rw [Ei2]; decide +kernel
  obtain ⟨pw, Epw⟩ : ∃ z : Int, z = i2 ^ kn := ⟨_, rfl⟩
  have Ptw : ((pw : Int) : Rat) = two := by rw [Epw, Ei2, Etwo, En]; exact zp_two kn
  obtain ⟨sv, Esv⟩ : ∃ z : Rat, z = v * two := ⟨_, rfl⟩
  have Nsv := mul_sz v two
  rw [← Esv] at Nsv
  obtain ⟨fa, Efa⟩ : ∃ z : Rat, z = lo * two := ⟨_, rfl⟩
  have Nfa := mul_sz lo two
  rw [← Efa] at Nfa
  obtain ⟨fb, Efb⟩ : ∃ z : Rat, z = hi * two := ⟨_, rfl⟩
  have Nfb := mul_sz hi two
  rw [← Efb] at Nfb
  obtain ⟨fl, Efl⟩ : ∃ z : Int, z = sv.floor := ⟨_, rfl⟩
  obtain ⟨ce, Ece⟩ : ∃ z : Int, z = sv.ceil := ⟨_, rfl⟩
  have Nce : nl (mg ce) ≤ 100 := by rw [Ece]; exact Nat.le_trans (nl_mono (ceil_abs _)) (by omega)
  obtain ⟨qf, Eqf⟩ : ∃ z : Rat, z = (fl : Rat) := ⟨_, rfl⟩
  obtain ⟨qc, Eqc⟩ : ∃ z : Rat, z = (ce : Rat) := ⟨_, rfl⟩
  have Lf : fa = qf := by rw [Efa, Eqf, Efl, Esv, Elo, Etwo, floors_law (v := v), rnd_0]
  have Lc : fb = qc := by rw [Efb, Eqc, Ece, Esv, Ehi, Etwo, floors_law (v := v), rnd_1]
  have CZ : ∀ (W : World), Calls Tryz.prog 9 #[.int .i64 2] W (RetI W i2) := fun W => by rw [Ei2]; exact zof_c 2 W (by decide) (by decide)
  have CP : ∀ (W : World) (A : Option Addr) (c : Nat), NatV W A c (mg i2) → Flds W → Calls Tryz.prog 8 #[.agg #[.bool (sg i2), .slice A (nl (mg i2)) c], .int .i64 (kn : Int)] W (RetI W pw) := fun W A c h0 h1 => by rw [Epw]; exact ipow_f A c i2 kn W h0 h1 (Nat.le_trans (Nat.mul_le_mul_right _ Ni2) (by omega)) (by omega) (by omega) (by rw [Ei2]; decide) (by rw [Ei2]; exact two_sz2 kn Bkn)
  have CW : ∀ (W : World) (A : Option Addr) (c : Nat), NatV W A c (mg pw) → Calls Tryz.prog 7 #[.agg #[.bool (sg pw), .slice A (nl (mg pw)) c]] W (RetR W two) := fun W A c h0 => by rw [← Ptw]; exact rwhole_c A c pw W h0
  have CL : ∀ (W : World) (A : Option Addr) (c : Nat) (B : Option Addr) (d : Nat), NatV W A c (mg v.num) → NatV W B d v.den → Tab W → Calls Tryz.prog 10 #[.agg #[.bool (sg v.num), .slice A (nl (mg v.num)) c, .slice B (nl v.den) d], .int .i64 (kn : Int), .int .i64 0] W (RetDe W lo 0) := fun W A c B d h0 h1 h2 => by have h := cut_in A c B d v n 0 W h0 h1 h2 (by omega) (by omega) (by decide) (by decide) (by omega); rw [← Elo, En] at h; exact h
  have CH : ∀ (W : World) (A : Option Addr) (c : Nat) (B : Option Addr) (d : Nat), NatV W A c (mg v.num) → NatV W B d v.den → Tab W → Calls Tryz.prog 10 #[.agg #[.bool (sg v.num), .slice A (nl (mg v.num)) c, .slice B (nl v.den) d], .int .i64 (kn : Int), .int .i64 1] W (RetDe W hi 0) := fun W A c B d h0 h1 h2 => by have h := cut_in A c B d v n 1 W h0 h1 h2 (by omega) (by omega) (by decide) (by decide) (by omega); rw [← Ehi, En] at h; exact h
  have CM : ∀ (W : World) (A : Option Addr) (c : Nat) (B : Option Addr) (d : Nat) (A2 : Option Addr) (c2 : Nat) (B2 : Option Addr) (d2 : Nat), NatV W A c (mg v.num) → NatV W B d v.den → NatV W A2 c2 (mg two.num) → NatV W B2 d2 two.den → Flds W → Calls Tryz.prog 11 #[.agg #[.bool (sg v.num), .slice A (nl (mg v.num)) c, .slice B (nl v.den) d], .agg #[.bool (sg two.num), .slice A2 (nl (mg two.num)) c2, .slice B2 (nl two.den) d2]] W (RetR W sv) := fun W A c B d A2 c2 B2 d2 h0 h1 h2 h3 h4 => by rw [Esv]; exact vmul_c A c B d v A2 c2 B2 d2 two W h0 h1 h2 h3 h4 (by omega) (by omega) (by omega) (by omega)
  have CA : ∀ (W : World) (A : Option Addr) (c : Nat) (B : Option Addr) (d : Nat) (A2 : Option Addr) (c2 : Nat) (B2 : Option Addr) (d2 : Nat), NatV W A c (mg lo.num) → NatV W B d lo.den → NatV W A2 c2 (mg two.num) → NatV W B2 d2 two.den → Flds W → Calls Tryz.prog 11 #[.agg #[.bool (sg lo.num), .slice A (nl (mg lo.num)) c, .slice B (nl lo.den) d], .agg #[.bool (sg two.num), .slice A2 (nl (mg two.num)) c2, .slice B2 (nl two.den) d2]] W (RetR W fa) := fun W A c B d A2 c2 B2 d2 h0 h1 h2 h3 h4 => by rw [Efa]; exact vmul_c A c B d lo A2 c2 B2 d2 two W h0 h1 h2 h3 h4 (by omega) (by omega) (by omega) (by omega)
  have CB : ∀ (W : World) (A : Option Addr) (c : Nat) (B : Option Addr) (d : Nat) (A2 : Option Addr) (c2 : Nat) (B2 : Option Addr) (d2 : Nat), NatV W A c (mg hi.num) → NatV W B d hi.den → NatV W A2 c2 (mg two.num) → NatV W B2 d2 two.den → Flds W → Calls Tryz.prog 11 #[.agg #[.bool (sg hi.num), .slice A (nl (mg hi.num)) c, .slice B (nl hi.den) d], .agg #[.bool (sg two.num), .slice A2 (nl (mg two.num)) c2, .slice B2 (nl two.den) d2]] W (RetR W fb) := fun W A c B d A2 c2 B2 d2 h0 h1 h2 h3 h4 => by rw [Efb]; exact vmul_c A c B d hi A2 c2 B2 d2 two W h0 h1 h2 h3 h4 (by omega) (by omega) (by omega) (by omega)
  have RL : ∀ (W : World) (A : Option Addr) (c : Nat), NatV W A c (mg (dmn lo)) → Calls Tryz.prog 12 #[.agg #[.bool (sg (dmn lo)), .slice A (nl (mg (dmn lo))) c, .int .i64 (dex lo)]] W (RetR W lo) := fun W A c h0 => drat_c A c lo W h0 (Dlo.ok (by decide) (by decide))
  have RH : ∀ (W : World) (A : Option Addr) (c : Nat), NatV W A c (mg (dmn hi)) → Calls Tryz.prog 12 #[.agg #[.bool (sg (dmn hi)), .slice A (nl (mg (dmn hi))) c, .int .i64 (dex hi)]] W (RetR W hi) := fun W A c h0 => drat_c A c hi W h0 (Dhi.ok (by decide) (by decide))
  have RM : ∀ (W : World) (A : Option Addr) (c : Nat), NatV W A c (mg (dmn m)) → Calls Tryz.prog 12 #[.agg #[.bool (sg (dmn m)), .slice A (nl (mg (dmn m))) c, .int .i64 (dex m)]] W (RetR W m) := fun W A c h0 => drat_c A c m W h0 (Dm.ok (by decide) (by decide))
  have CO : ∀ (W : World) (A : Option Addr) (c : Nat) (B : Option Addr) (d : Nat), NatV W A c (mg v.num) → NatV W B d v.den → Tab W → Flds W → Calls Tryz.prog 13 #[.agg #[.bool (sg v.num), .slice A (nl (mg v.num)) c, .slice B (nl v.den) d], .int .i64 (kn : Int)] W (RetB W m r) := fun W A c B d h0 h1 h2 h3 => by have h := ballof_c A c B d v n m r W h0 h1 h2 h3 Em Er (by omega) (Dm.ok (by decide) (by decide)) (by omega) (by omega) (by omega) (by omega) (by omega) (by omega); rw [En] at h; exact h
  have FL : ∀ (W : World) (A : Option Addr) (c : Nat) (B : Option Addr) (d : Nat), NatV W A c (mg sv.num) → NatV W B d sv.den → Calls Tryz.prog 15 #[.agg #[.bool (sg sv.num), .slice A (nl (mg sv.num)) c, .slice B (nl sv.den) d]] W (RetI W fl) := fun W A c B d h0 h1 => by rw [Efl]; exact vfloor_c A c B d sv W h0 h1 (by omega) (by omega)
  have CE : ∀ (W : World) (A : Option Addr) (c : Nat) (B : Option Addr) (d : Nat), NatV W A c (mg sv.num) → NatV W B d sv.den → Calls Tryz.prog 16 #[.agg #[.bool (sg sv.num), .slice A (nl (mg sv.num)) c, .slice B (nl sv.den) d]] W (RetI W ce) := fun W A c B d h0 h1 => by rw [Ece]; exact vceil_c A c B d sv W h0 h1 (by omega) (by omega) (by rw [← Ece]; omega)
  have WF : ∀ (W : World) (A : Option Addr) (c : Nat), NatV W A c (mg fl) → Calls Tryz.prog 7 #[.agg #[.bool (sg fl), .slice A (nl (mg fl)) c]] W (RetR W qf) := fun W A c h0 => by rw [Eqf]; exact rwhole_c A c fl W h0
  have WC : ∀ (W : World) (A : Option Addr) (c : Nat), NatV W A c (mg ce) → Calls Tryz.prog 7 #[.agg #[.bool (sg ce), .slice A (nl (mg ce)) c]] W (RetR W qc) := fun W A c h0 => by rw [Eqc]; exact rwhole_c A c ce W h0
  have SF : ∀ (W : World) (A : Option Addr) (c : Nat) (B : Option Addr) (d : Nat) (A2 : Option Addr) (c2 : Nat) (B2 : Option Addr) (d2 : Nat), NatV W A c (mg fa.num) → NatV W B d fa.den → NatV W A2 c2 (mg qf.num) → NatV W B2 d2 qf.den → Calls Tryz.prog 14 #[.agg #[.bool (sg fa.num), .slice A (nl (mg fa.num)) c, .slice B (nl fa.den) d], .agg #[.bool (sg qf.num), .slice A2 (nl (mg qf.num)) c2, .slice B2 (nl qf.den) d2]] W (fun e w' => e = .returned (.bool true) ∧ Below W.heap.size W w') := fun W A c B d A2 c2 B2 d2 h0 h1 h2 h3 => r9sameT_c A c B d fa A2 c2 B2 d2 qf W h0 h1 h2 h3 (by omega) (by omega) Lf
  have SC : ∀ (W : World) (A : Option Addr) (c : Nat) (B : Option Addr) (d : Nat) (A2 : Option Addr) (c2 : Nat) (B2 : Option Addr) (d2 : Nat), NatV W A c (mg fb.num) → NatV W B d fb.den → NatV W A2 c2 (mg qc.num) → NatV W B2 d2 qc.den → Calls Tryz.prog 14 #[.agg #[.bool (sg fb.num), .slice A (nl (mg fb.num)) c, .slice B (nl fb.den) d], .agg #[.bool (sg qc.num), .slice A2 (nl (mg qc.num)) c2, .slice B2 (nl qc.den) d2]] W (fun e w' => e = .returned (.bool true) ∧ Below W.heap.size W w') := fun W A c B d A2 c2 B2 d2 h0 h1 h2 h3 => r9sameT_c A c B d fb A2 c2 B2 d2 qc W h0 h1 h2 h3 (by omega) (by omega) Lc
  have SL : ∀ (W : World) (A : Option Addr) (c : Nat) (B : Option Addr) (d : Nat) (A2 : Option Addr) (c2 : Nat) (B2 : Option Addr) (d2 : Nat), NatV W A c (mg m.num) → NatV W B d m.den → NatV W A2 c2 (mg lo.num) → NatV W B2 d2 lo.den → Calls Tryz.prog 14 #[.agg #[.bool (sg m.num), .slice A (nl (mg m.num)) c, .slice B (nl m.den) d], .agg #[.bool (sg lo.num), .slice A2 (nl (mg lo.num)) c2, .slice B2 (nl lo.den) d2]] W (fun e w' => e = .returned (.bool (decide (m = lo))) ∧ Below W.heap.size W w') := fun W A c B d A2 c2 B2 d2 h0 h1 h2 h3 => r9same_c A c B d m A2 c2 B2 d2 lo W h0 h1 h2 h3 (by omega) (by omega) (by omega) (by omega)
  have SH : ∀ (W : World) (A : Option Addr) (c : Nat) (B : Option Addr) (d : Nat) (A2 : Option Addr) (c2 : Nat) (B2 : Option Addr) (d2 : Nat), NatV W A c (mg m.num) → NatV W B d m.den → NatV W A2 c2 (mg hi.num) → NatV W B2 d2 hi.den → Calls Tryz.prog 14 #[.agg #[.bool (sg m.num), .slice A (nl (mg m.num)) c, .slice B (nl m.den) d], .agg #[.bool (sg hi.num), .slice A2 (nl (mg hi.num)) c2, .slice B2 (nl hi.den) d2]] W (fun e w' => e = .returned (.bool (decide (m = hi))) ∧ Below W.heap.size W w') := fun W A c B d A2 c2 B2 d2 h0 h1 h2 h3 => r9same_c A c B d m A2 c2 B2 d2 hi W h0 h1 h2 h3 (by omega) (by omega) (by omega) (by omega)
  have HV : ∀ (W : World) (A : Option Addr) (c : Nat) (B : Option Addr) (d : Nat) (A2 : Option Addr) (c2 : Nat) (B2 : Option Addr) (d2 : Nat), NatV W A c (mg (dmn m)) → NatV W B d (mg (dmn r)) → NatV W A2 c2 (mg v.num) → NatV W B2 d2 v.den → Tab W → Flds W → Calls Tryz.prog 17 #[.agg #[.bool (sg (dmn m)), .slice A (nl (mg (dmn m))) c, .int .i64 (dex m), .bool (sg (dmn r)), .slice B (nl (mg (dmn r))) d, .int .i64 (dex r)], .agg #[.bool (sg v.num), .slice A2 (nl (mg v.num)) c2, .slice B2 (nl v.den) d2]] W (fun e w' => e = .returned (.bool true) ∧ Below W.heap.size W w') := fun W A c B d A2 c2 B2 d2 h0 h1 h2 h3 h4 h5 => bhas_c A c m B d r A2 c2 B2 d2 v true W h0 h1 h2 h3 (Dm.ok (by decide) (by decide)) (Dr.ok (by decide) (by decide)) (Ds.ok (by decide) (by decide)) (Da.ok (by decide) (by decide)) (by omega) (by omega) (by omega) (by omega) (by omega) (by omega) BH.1 (decide_eq_true BH.2).symm h4 h5
  replace En := Lib.hid En
  replace bn := Lib.hid bn
  replace szn := Lib.hid szn
  replace spn := Lib.hid spn
  replace lvn := Lib.hid lvn
  replace Dlo := Lib.hid Dlo
  replace Dhi := Lib.hid Dhi
  replace Dm := Lib.hid Dm
  replace Elo := Lib.hid Elo
  replace Ehi := Lib.hid Ehi
  replace Em := Lib.hid Em
  replace Nlo := Lib.hid Nlo
  replace Nhi := Lib.hid Nhi
  replace Nm := Lib.hid Nm
  replace Nvm := Lib.hid Nvm
  replace mlh := Lib.hid mlh
  replace Er := Lib.hid Er
  replace Nab := Lib.hid Nab
  replace szr := Lib.hid szr
  replace Dr := Lib.hid Dr
  replace Nr := Lib.hid Nr
  replace BH := Lib.hid BH
  replace Ds := Lib.hid Ds
  replace Da := Lib.hid Da
  replace Ns := Lib.hid Ns
  replace Na := Lib.hid Na
  replace Etwo := Lib.hid Etwo
  replace Ntwo := Lib.hid Ntwo
  replace Ei2 := Lib.hid Ei2
  replace Ni2 := Lib.hid Ni2
  replace Epw := Lib.hid Epw
  replace Ptw := Lib.hid Ptw
  replace Esv := Lib.hid Esv
  replace Nsv := Lib.hid Nsv
  replace Efa := Lib.hid Efa
  replace Nfa := Lib.hid Nfa
  replace Efb := Lib.hid Efb
  replace Nfb := Lib.hid Nfb
  replace Efl := Lib.hid Efl
  replace Ece := Lib.hid Ece
  replace Nce := Lib.hid Nce
  replace Eqf := Lib.hid Eqf
  replace Eqc := Lib.hid Eqc
  replace Lf := Lib.hid Lf
  replace Lc := Lib.hid Lc
  replace Nv := Lib.hid Nv
  replace CZ := Lib.hid CZ
  replace CP := Lib.hid CP
  replace CW := Lib.hid CW
  replace CL := Lib.hid CL
  replace CH := Lib.hid CH
  replace CM := Lib.hid CM
  replace CA := Lib.hid CA
  replace CB := Lib.hid CB
  replace RL := Lib.hid RL
  replace RH := Lib.hid RH
  replace RM := Lib.hid RM
  replace CO := Lib.hid CO
  replace FL := Lib.hid FL
  replace CE := Lib.hid CE
  replace WF := Lib.hid WF
  replace WC := Lib.hid WC
  replace SF := Lib.hid SF
  replace SC := Lib.hid SC
  replace SL := Lib.hid SL
  replace SH := Lib.hid SH
  replace HV := Lib.hid HV
  obtain ⟨hb1, Ra⟩ := bx1 w #[.bool sa, .slice A l.length c, .slice B k.length d] 26
  replace hT := hT.below hb1
  replace hG := hG.below hb1
  replace hl := hl.below hb1
  replace hk := hk.below hb1
  have HBT := hb1
  clear hb1
  have qa0 := Ra.c (i := 0) rfl
  have qa1 := Ra.c (i := 1) rfl
  have qa2 := Ra.c (i := 2) rfl
  go_enter Tryz.func3, Tryz.ntmps3
  go_wp2_with (fail)
  refine (Calls.mono (head13_c _ hT hG) ?_)
  rintro e W2 ⟨rfl, hb2⟩
  replace hT := hT.below hb2
  replace hG := hG.below hb2
  replace hl := hl.below hb2
  replace hk := hk.below hb2
  replace Ra := Ra.below hb2
  replace qa0 := cbl hb2 qa0
  replace qa1 := cbl hb2 qa1
  replace qa2 := cbl hb2 qa2
  replace HBT := Below.cons HBT hb2
  clear hb2
  go_wp2_with (fail)
  refine (Calls.mono (C1.out _ hl hk) ?_)
  rintro e W3 ⟨Xv, cv, Yv, dv, rfl, hv, gv, hb3⟩
  replace hT := hT.below hb3
  replace hG := hG.below hb3
  replace hl := hl.below hb3
  replace hk := hk.below hb3
  replace Ra := Ra.below hb3
  replace qa0 := cbl hb3 qa0
  replace qa1 := cbl hb3 qa1
  replace qa2 := cbl hb3 qa2
  replace HBT := Below.cons HBT hb3
  clear hb3
  clear Ra
  clear qa0
  clear qa1
  clear qa2
  obtain ⟨hb4, Rv⟩ := bx1 W3 #[.bool (sg v.num), .slice Xv (nl (mg v.num)) cv, .slice Yv (nl v.den) dv] 26
  replace hT := hT.below hb4
  replace hG := hG.below hb4
  replace hv := hv.below hb4
  replace gv := gv.below hb4
  replace HBT := Below.cons HBT hb4
  clear hb4
  have qv0 := Rv.c (i := 0) rfl
  have qv1 := Rv.c (i := 1) rfl
  have qv2 := Rv.c (i := 2) rfl
  go_wp2_with (fail)
  refine (Calls.mono (CZ.out _) ?_)
  rintro e W5 ⟨Xi2, ci2, rfl, hi2, hb5⟩
  replace hT := hT.below hb5
  replace hG := hG.below hb5
  replace hv := hv.below hb5
  replace gv := gv.below hb5
  replace Rv := Rv.below hb5
  replace qv0 := cbl hb5 qv0
  replace qv1 := cbl hb5 qv1
  replace qv2 := cbl hb5 qv2
  replace HBT := Below.cons HBT hb5
  clear hb5
  go_wp2_with (fail)
  refine (Calls.mono (CP.out _ _ _ hi2 hG) ?_)
  rintro e W6 ⟨Xpw, cpw, rfl, hpw, hb6⟩
  replace hT := hT.below hb6
  replace hG := hG.below hb6
  replace hv := hv.below hb6
  replace gv := gv.below hb6
  replace Rv := Rv.below hb6
  replace qv0 := cbl hb6 qv0
  replace qv1 := cbl hb6 qv1
  replace qv2 := cbl hb6 qv2
  replace hi2 := hi2.below hb6
  replace HBT := Below.cons HBT hb6
  clear hb6
  go_wp2_with (fail)
  clear hi2
  refine (Calls.mono (CW.out _ _ _ hpw) ?_)
  rintro e W7 ⟨Xtwo, ctwo, Ytwo, dtwo, rfl, htwo, gtwo, hb7⟩
  replace hT := hT.below hb7
  replace hG := hG.below hb7
  replace hv := hv.below hb7
  replace gv := gv.below hb7
  replace Rv := Rv.below hb7
  replace qv0 := cbl hb7 qv0
  replace qv1 := cbl hb7 qv1
  replace qv2 := cbl hb7 qv2
  replace hpw := hpw.below hb7
  replace HBT := Below.cons HBT hb7
  clear hb7
  clear hpw
  obtain ⟨hb8, Rtwo⟩ := bx1 W7 #[.bool (sg two.num), .slice Xtwo (nl (mg two.num)) ctwo, .slice Ytwo (nl two.den) dtwo] 26
  replace hT := hT.below hb8
  replace hG := hG.below hb8
  replace hv := hv.below hb8
  replace gv := gv.below hb8
  replace Rv := Rv.below hb8
  replace qv0 := cbl hb8 qv0
  replace qv1 := cbl hb8 qv1
  replace qv2 := cbl hb8 qv2
  replace htwo := htwo.below hb8
  replace gtwo := gtwo.below hb8
  replace HBT := Below.cons HBT hb8
  clear hb8
  have qtwo0 := Rtwo.c (i := 0) rfl
  have qtwo1 := Rtwo.c (i := 1) rfl
  have qtwo2 := Rtwo.c (i := 2) rfl
  go_wp2_with (fail)
  refine (Calls.mono (CL.out _ _ _ _ _ hv gv hT) ?_)
  rintro e W9 ⟨Xlo, clo, rfl, hlo, hb9⟩
  replace hT := hT.below hb9
  replace hG := hG.below hb9
  replace hv := hv.below hb9
  replace gv := gv.below hb9
  replace Rv := Rv.below hb9
  replace qv0 := cbl hb9 qv0
  replace qv1 := cbl hb9 qv1
  replace qv2 := cbl hb9 qv2
  replace htwo := htwo.below hb9
  replace gtwo := gtwo.below hb9
  replace Rtwo := Rtwo.below hb9
  replace qtwo0 := cbl hb9 qtwo0
  replace qtwo1 := cbl hb9 qtwo1
  replace qtwo2 := cbl hb9 qtwo2
  replace HBT := Below.cons HBT hb9
  clear hb9
  obtain ⟨hb10, Rlo⟩ := bx1 W9 #[.bool (sg (dmn lo)), .slice Xlo (nl (mg (dmn lo))) clo, .int .i64 (dex lo)] 33
  replace hT := hT.below hb10
  replace hG := hG.below hb10
  replace hv := hv.below hb10
  replace gv := gv.below hb10
  replace Rv := Rv.below hb10
  replace qv0 := cbl hb10 qv0
  replace qv1 := cbl hb10 qv1
  replace qv2 := cbl hb10 qv2
  replace htwo := htwo.below hb10
  replace gtwo := gtwo.below hb10
  replace Rtwo := Rtwo.below hb10
  replace qtwo0 := cbl hb10 qtwo0
  replace qtwo1 := cbl hb10 qtwo1
  replace qtwo2 := cbl hb10 qtwo2
  replace hlo := hlo.below hb10
  replace HBT := Below.cons HBT hb10
  clear hb10
  have qlo0 := Rlo.c (i := 0) rfl
  have qlo1 := Rlo.c (i := 1) rfl
  have qlo2 := Rlo.c (i := 2) rfl
  go_wp2_with (fail)
  refine (Calls.mono (CH.out _ _ _ _ _ hv gv hT) ?_)
  rintro e W11 ⟨Xhi, chi, rfl, hhi, hb11⟩
  replace hT := hT.below hb11
  replace hG := hG.below hb11
  replace hv := hv.below hb11
  replace gv := gv.below hb11
  replace Rv := Rv.below hb11
  replace qv0 := cbl hb11 qv0
  replace qv1 := cbl hb11 qv1
  replace qv2 := cbl hb11 qv2
  replace htwo := htwo.below hb11
  replace gtwo := gtwo.below hb11
  replace Rtwo := Rtwo.below hb11
  replace qtwo0 := cbl hb11 qtwo0
  replace qtwo1 := cbl hb11 qtwo1
  replace qtwo2 := cbl hb11 qtwo2
  replace hlo := hlo.below hb11
  replace Rlo := Rlo.below hb11
  replace qlo0 := cbl hb11 qlo0
  replace qlo1 := cbl hb11 qlo1
  replace qlo2 := cbl hb11 qlo2
  replace HBT := Below.cons HBT hb11
  clear hb11
  obtain ⟨hb12, Rhi⟩ := bx1 W11 #[.bool (sg (dmn hi)), .slice Xhi (nl (mg (dmn hi))) chi, .int .i64 (dex hi)] 33
  replace hT := hT.below hb12
  replace hG := hG.below hb12
  replace hv := hv.below hb12
  replace gv := gv.below hb12
  replace Rv := Rv.below hb12
  replace qv0 := cbl hb12 qv0
  replace qv1 := cbl hb12 qv1
  replace qv2 := cbl hb12 qv2
  replace htwo := htwo.below hb12
  replace gtwo := gtwo.below hb12
  replace Rtwo := Rtwo.below hb12
  replace qtwo0 := cbl hb12 qtwo0
  replace qtwo1 := cbl hb12 qtwo1
  replace qtwo2 := cbl hb12 qtwo2
  replace hlo := hlo.below hb12
  replace Rlo := Rlo.below hb12
  replace qlo0 := cbl hb12 qlo0
  replace qlo1 := cbl hb12 qlo1
  replace qlo2 := cbl hb12 qlo2
  replace hhi := hhi.below hb12
  replace HBT := Below.cons HBT hb12
  clear hb12
  have qhi0 := Rhi.c (i := 0) rfl
  have qhi1 := Rhi.c (i := 1) rfl
  have qhi2 := Rhi.c (i := 2) rfl
  go_wp2_with (fail)
  refine (Calls.mono (CM.out _ _ _ _ _ _ _ _ _ hv gv htwo gtwo hG) ?_)
  rintro e W13 ⟨Xsv, csv, Ysv, dsv, rfl, hsv, gsv, hb13⟩
  replace hT := hT.below hb13
  replace hG := hG.below hb13
  replace hv := hv.below hb13
  replace gv := gv.below hb13
  replace Rv := Rv.below hb13
  replace qv0 := cbl hb13 qv0
  replace qv1 := cbl hb13 qv1
  replace qv2 := cbl hb13 qv2
  replace htwo := htwo.below hb13
  replace gtwo := gtwo.below hb13
  replace Rtwo := Rtwo.below hb13
  replace qtwo0 := cbl hb13 qtwo0
  replace qtwo1 := cbl hb13 qtwo1
  replace qtwo2 := cbl hb13 qtwo2
  replace hlo := hlo.below hb13
  replace Rlo := Rlo.below hb13
  replace qlo0 := cbl hb13 qlo0
  replace qlo1 := cbl hb13 qlo1
  replace qlo2 := cbl hb13 qlo2
  replace hhi := hhi.below hb13
  replace Rhi := Rhi.below hb13
  replace qhi0 := cbl hb13 qhi0
  replace qhi1 := cbl hb13 qhi1
  replace qhi2 := cbl hb13 qhi2
  replace HBT := Below.cons HBT hb13
  clear hb13
  obtain ⟨hb14, Rsv⟩ := bx1 W13 #[.bool (sg sv.num), .slice Xsv (nl (mg sv.num)) csv, .slice Ysv (nl sv.den) dsv] 26
  replace hT := hT.below hb14
  replace hG := hG.below hb14
  replace hv := hv.below hb14
  replace gv := gv.below hb14
  replace Rv := Rv.below hb14
  replace qv0 := cbl hb14 qv0
  replace qv1 := cbl hb14 qv1
  replace qv2 := cbl hb14 qv2
  replace htwo := htwo.below hb14
  replace gtwo := gtwo.below hb14
  replace Rtwo := Rtwo.below hb14
  replace qtwo0 := cbl hb14 qtwo0
  replace qtwo1 := cbl hb14 qtwo1
  replace qtwo2 := cbl hb14 qtwo2
  replace hlo := hlo.below hb14
  replace Rlo := Rlo.below hb14
  replace qlo0 := cbl hb14 qlo0
  replace qlo1 := cbl hb14 qlo1
  replace qlo2 := cbl hb14 qlo2
  replace hhi := hhi.below hb14
  replace Rhi := Rhi.below hb14
  replace qhi0 := cbl hb14 qhi0
  replace qhi1 := cbl hb14 qhi1
  replace qhi2 := cbl hb14 qhi2
  replace hsv := hsv.below hb14
  replace gsv := gsv.below hb14
  replace HBT := Below.cons HBT hb14
  clear hb14
  have qsv0 := Rsv.c (i := 0) rfl
  have qsv1 := Rsv.c (i := 1) rfl
  have qsv2 := Rsv.c (i := 2) rfl
  go_wp2_with (fail)
  generalize hW0_ : (W13.alloc (.cells #[.bool (sg sv.num), .slice Xsv (nl (mg sv.num)) csv, .slice Ysv (nl sv.den) dsv] 26)) = Wr0 at *
  replace hW0_ := Lib.hid hW0_
  have zz_w := Lib.hid HBT.size
  have zz_v := Lib.hid Rv.lt
  have zz_two := Lib.hid Rtwo.lt
  have zz_lo := Lib.hid Rlo.lt
  have zz_hi := Lib.hid Rhi.lt
  have zz_sv := Lib.hid Rsv.lt
  refine wp_region_fin 5 1 [.val (.agg #[.bool (sg (dmn lo)), .slice Xlo (nl (mg (dmn lo))) clo, .int .i64 (dex lo)]), .rat lo, .val (.agg #[.bool (sg two.num), .slice Xtwo (nl (mg two.num)) ctwo, .slice Ytwo (nl two.den) dtwo]), .rat fa, .box 26 Wr0.heap.size #[.bool false, .slice none 0 0, .slice none 0 0]] (by kernel_rfl) (by kernel_rfl) (by kernel_rfl) (by kernel_rfl) (by kernel_rfl) rfl ?_ ?_
  · skip
    refine ⟨?_, ?_⟩
    · intro Ew aw wc st hdep
      have t9 : aw.tmps[9]? = some (.pointer (some ⟨W9.heap.size, 0, none⟩)) := (st.old 9 (by kernel_rfl)).trans (by rfl)
      have qlo0 := cbl st.b qlo0
      have qlo1 := cbl st.b qlo1
      have qlo2 := cbl st.b qlo2
      have e9 := tmp_of t9
      refine op_want rfl (by rfl) (fun K' hK' => ?_)
      go_simp
      exact hK'.out _ _ ⟨_, rfl, rfl, Below.refl _ _⟩
    refine ⟨?_, ?_⟩
    · intro Ew aw wc st hdep
      obtain ⟨v43, t43, r43⟩ := st.nw hdep 0 43
      obtain rfl : v43 = .agg #[.bool (sg (dmn lo)), .slice Xlo (nl (mg (dmn lo))) clo, .int .i64 (dex lo)] := r43
      have e43 := tmp_of t43
      refine op_want rfl (by rfl) (fun K' hK' => ?_)
      go_simp
      refine (Calls.mono (R := RetR wc lo) (RL.out wc _ _ (hlo.below st.b)) ?_)
      rintro e W ⟨X, c, Y, d, rfl, hX, hY, kb⟩
      exact hK'.out _ _ ⟨_, rfl, ⟨X, c, Y, d, rfl, hX, hY⟩, kb⟩
    refine ⟨?_, ?_⟩
    · intro Ew aw wc st hdep
      have t8 : aw.tmps[8]? = some (.pointer (some ⟨W7.heap.size, 0, none⟩)) := (st.old 8 (by kernel_rfl)).trans (by rfl)
      have qtwo0 := cbl st.b qtwo0
      have qtwo1 := cbl st.b qtwo1
      have qtwo2 := cbl st.b qtwo2
      have e8 := tmp_of t8
      refine op_want rfl (by rfl) (fun K' hK' => ?_)
      go_simp
      exact hK'.out _ _ ⟨_, rfl, rfl, Below.refl _ _⟩
    refine ⟨?_, ?_⟩
    · intro Ew aw wc st hdep
      obtain ⟨v44, t44, r44⟩ := st.nw hdep 1 44
      obtain ⟨X44, c44, Y44, d44, rfl, h44, g44⟩ := r44
      obtain ⟨v45, t45, r45⟩ := st.nw hdep 2 45
      obtain rfl : v45 = .agg #[.bool (sg two.num), .slice Xtwo (nl (mg two.num)) ctwo, .slice Ytwo (nl two.den) dtwo] := r45
      have e44 := tmp_of t44
      have e45 := tmp_of t45
      refine op_want rfl (by rfl) (fun K' hK' => ?_)
      go_simp
      refine (Calls.mono (R := RetR wc fa) (CA.out wc _ _ _ _ _ _ _ _ h44 g44 (htwo.below st.b) (gtwo.below st.b) (hG.below st.b)) ?_)
      rintro e W ⟨X, c, Y, d, rfl, hX, hY, kb⟩
      exact hK'.out _ _ ⟨_, rfl, ⟨X, c, Y, d, rfl, hX, hY⟩, kb⟩
    refine ⟨?_, ?_⟩
    · intro Ew aw wc st hdep
      refine op_want rfl (by rfl) (fun K' hK' => ?_)
      go_simp
      exact hK'.out _ _ ⟨_, rfl, ⟨_, rfl, st.b.size, ⟨at_new rfl⟩⟩, (Below.refl _ _).alloc (Nat.le_refl _) _⟩
    exact trivial
  intro vs wc hr hB
  obtain ⟨u43, r_43, rfl, k43, hr_43⟩ := hr.un
  obtain rfl : u43 = .agg #[.bool (sg (dmn lo)), .slice Xlo (nl (mg (dmn lo))) clo, .int .i64 (dex lo)] := k43
  obtain ⟨u44, r_44, rfl, k44, hr_44⟩ := hr_43.un
  obtain ⟨X44, c44, Y44, d44, rfl, h44, g44⟩ := k44
  obtain ⟨u45, r_45, rfl, k45, hr_45⟩ := hr_44.un
  obtain rfl : u45 = .agg #[.bool (sg two.num), .slice Xtwo (nl (mg two.num)) ctwo, .slice Ytwo (nl two.den) dtwo] := k45
  obtain ⟨u46, r_46, rfl, k46, hr_46⟩ := hr_45.un
  obtain ⟨X46, c46, Y46, d46, rfl, h46, g46⟩ := k46
  obtain ⟨u14, r_14, rfl, k14, hr_14⟩ := hr_46.un
  obtain ⟨nb14, rfl, hn14, h14⟩ := k14
  obtain rfl := hr_14.nil
  clear hr hr_43 hr_44 hr_45 hr_46 hr_14
  replace hT := hT.below hB
  replace hG := hG.below hB
  replace hv := hv.below hB
  replace gv := gv.below hB
  replace Rv := Rv.below hB
  replace qv0 := cbl hB qv0
  replace qv1 := cbl hB qv1
  replace qv2 := cbl hB qv2
  replace htwo := htwo.below hB
  replace gtwo := gtwo.below hB
  replace Rtwo := Rtwo.below hB
  replace qtwo0 := cbl hB qtwo0
  replace qtwo1 := cbl hB qtwo1
  replace qtwo2 := cbl hB qtwo2
  replace hlo := hlo.below hB
  replace Rlo := Rlo.below hB
  replace qlo0 := cbl hB qlo0
  replace qlo1 := cbl hB qlo1
  replace qlo2 := cbl hB qlo2
  replace hhi := hhi.below hB
  replace Rhi := Rhi.below hB
  replace qhi0 := cbl hB qhi0
  replace qhi1 := cbl hB qhi1
  replace qhi2 := cbl hB qhi2
  replace hsv := hsv.below hB
  replace gsv := gsv.below hB
  replace Rsv := Rsv.below hB
  replace qsv0 := cbl hB qsv0
  replace qsv1 := cbl hB qsv1
  replace qsv2 := cbl hB qsv2
  replace HBT := Below.cons HBT hB
  clear hB
  simp only [upTo, List.take_succ_cons, List.take_zero, putAll, Act.put, seq0, seq1, seq2]
  have Rfa := h14
  clear h14
  have qfa0 := Rfa.c (i := 0) rfl
  have qfa1 := Rfa.c (i := 1) rfl
  have qfa2 := Rfa.c (i := 2) rfl
  replace zz_w := zz_w.out
  replace zz_v := zz_v.out
  replace zz_two := zz_two.out
  replace zz_lo := zz_lo.out
  replace zz_hi := zz_hi.out
  replace zz_sv := zz_sv.out
  have ffa0_15 := Rfa.f (i := 0)
  have ffa1_15 := Rfa.f (i := 1)
  have ffa2_15 := Rfa.f (i := 2)
  have Rv_15 : BoxA (((wc.setCell ⟨nb14, 0, none⟩ (.bool (sg fa.num))).setCell ⟨nb14, 1, none⟩ (.slice X46 (nl (mg fa.num)) c46)).setCell ⟨nb14, 2, none⟩ (.slice Y46 (nl fa.den) d46)) _ _ _ := Rv.other3 (by first | omega | (simp; done) | (simp; omega))
  have Rtwo_15 : BoxA (((wc.setCell ⟨nb14, 0, none⟩ (.bool (sg fa.num))).setCell ⟨nb14, 1, none⟩ (.slice X46 (nl (mg fa.num)) c46)).setCell ⟨nb14, 2, none⟩ (.slice Y46 (nl fa.den) d46)) _ _ _ := Rtwo.other3 (by first | omega | (simp; done) | (simp; omega))
  have Rlo_15 : BoxA (((wc.setCell ⟨nb14, 0, none⟩ (.bool (sg fa.num))).setCell ⟨nb14, 1, none⟩ (.slice X46 (nl (mg fa.num)) c46)).setCell ⟨nb14, 2, none⟩ (.slice Y46 (nl fa.den) d46)) _ _ _ := Rlo.other3 (by first | omega | (simp; done) | (simp; omega))
  have Rhi_15 : BoxA (((wc.setCell ⟨nb14, 0, none⟩ (.bool (sg fa.num))).setCell ⟨nb14, 1, none⟩ (.slice X46 (nl (mg fa.num)) c46)).setCell ⟨nb14, 2, none⟩ (.slice Y46 (nl fa.den) d46)) _ _ _ := Rhi.other3 (by first | omega | (simp; done) | (simp; omega))
  have Rsv_15 : BoxA (((wc.setCell ⟨nb14, 0, none⟩ (.bool (sg fa.num))).setCell ⟨nb14, 1, none⟩ (.slice X46 (nl (mg fa.num)) c46)).setCell ⟨nb14, 2, none⟩ (.slice Y46 (nl fa.den) d46)) _ _ _ := Rsv.other3 (by first | omega | (simp; done) | (simp; omega))
  have Rfa_15 := Rfa.store3 (.bool (sg fa.num)) (.slice X46 (nl (mg fa.num)) c46) (.slice Y46 (nl fa.den) d46)
  have hv_15 := Rfa.keep3 (v0 := .bool (sg fa.num)) (v1 := .slice X46 (nl (mg fa.num)) c46) (v2 := .slice Y46 (nl fa.den) d46) (nuB rfl) hv
  have gv_15 := Rfa.keep3 (v0 := .bool (sg fa.num)) (v1 := .slice X46 (nl (mg fa.num)) c46) (v2 := .slice Y46 (nl fa.den) d46) (nuB rfl) gv
  have qv0_15 := Rv_15.c (i := 0) rfl
  have qv1_15 := Rv_15.c (i := 1) rfl
  have qv2_15 := Rv_15.c (i := 2) rfl
  have htwo_15 := Rfa.keep3 (v0 := .bool (sg fa.num)) (v1 := .slice X46 (nl (mg fa.num)) c46) (v2 := .slice Y46 (nl fa.den) d46) (nuB rfl) htwo
  have gtwo_15 := Rfa.keep3 (v0 := .bool (sg fa.num)) (v1 := .slice X46 (nl (mg fa.num)) c46) (v2 := .slice Y46 (nl fa.den) d46) (nuB rfl) gtwo
  have qtwo0_15 := Rtwo_15.c (i := 0) rfl
  have qtwo1_15 := Rtwo_15.c (i := 1) rfl
  have qtwo2_15 := Rtwo_15.c (i := 2) rfl
  have hlo_15 := Rfa.keep3 (v0 := .bool (sg fa.num)) (v1 := .slice X46 (nl (mg fa.num)) c46) (v2 := .slice Y46 (nl fa.den) d46) (nuB rfl) hlo
  have qlo0_15 := Rlo_15.c (i := 0) rfl
  have qlo1_15 := Rlo_15.c (i := 1) rfl
  have qlo2_15 := Rlo_15.c (i := 2) rfl
  have hhi_15 := Rfa.keep3 (v0 := .bool (sg fa.num)) (v1 := .slice X46 (nl (mg fa.num)) c46) (v2 := .slice Y46 (nl fa.den) d46) (nuB rfl) hhi
  have qhi0_15 := Rhi_15.c (i := 0) rfl
  have qhi1_15 := Rhi_15.c (i := 1) rfl
  have qhi2_15 := Rhi_15.c (i := 2) rfl
  have hsv_15 := Rfa.keep3 (v0 := .bool (sg fa.num)) (v1 := .slice X46 (nl (mg fa.num)) c46) (v2 := .slice Y46 (nl fa.den) d46) (nuB rfl) hsv
  have gsv_15 := Rfa.keep3 (v0 := .bool (sg fa.num)) (v1 := .slice X46 (nl (mg fa.num)) c46) (v2 := .slice Y46 (nl fa.den) d46) (nuB rfl) gsv
  have qsv0_15 := Rsv_15.c (i := 0) rfl
  have qsv1_15 := Rsv_15.c (i := 1) rfl
  have qsv2_15 := Rsv_15.c (i := 2) rfl
  have h46_15 := Rfa.keep3 (v0 := .bool (sg fa.num)) (v1 := .slice X46 (nl (mg fa.num)) c46) (v2 := .slice Y46 (nl fa.den) d46) (nuB rfl) h46
  have g46_15 := Rfa.keep3 (v0 := .bool (sg fa.num)) (v1 := .slice X46 (nl (mg fa.num)) c46) (v2 := .slice Y46 (nl fa.den) d46) (nuB rfl) g46
  have qfa0_15 := Rfa_15.c (i := 0) rfl
  have qfa1_15 := Rfa_15.c (i := 1) rfl
  have qfa2_15 := Rfa_15.c (i := 2) rfl
  have HBT_15 := Below.store3 (v0 := .bool (sg fa.num)) (v1 := .slice X46 (nl (mg fa.num)) c46) (v2 := .slice Y46 (nl fa.den) d46) HBT (k := nb14) (by first | exact Nat.le_refl _ | omega)
  have hT_15 := hT0.below HBT_15
  have hG_15 := hG0.below HBT_15
  clear zz_w zz_v zz_two zz_lo zz_hi zz_sv
  refine TailP.one rfl (by rfl) (fun K' hK' => ?_)
  go_simp
  refine hK'.out _ _ ?_
  try simp only [Act.put, seq0, seq1, seq2]
  refine TailP.done ?_
  clear ffa0_15 ffa1_15 ffa2_15 Rv Rtwo Rlo Rhi Rsv Rfa hT hG hv gv qv0 qv1 qv2 htwo gtwo qtwo0 qtwo1 qtwo2 hlo qlo0 qlo1 qlo2 hhi qhi0 qhi1 qhi2 hsv gsv qsv0 qsv1 qsv2 h46 g46 qfa0 qfa1 qfa2 HBT
  generalize hVr0 : (((wc.setCell ⟨nb14, 0, none⟩ (.bool (sg fa.num))).setCell ⟨nb14, 1, none⟩ (.slice X46 (nl (mg fa.num)) c46)).setCell ⟨nb14, 2, none⟩ (.slice Y46 (nl fa.den) d46)) = Vr0 at *
  clear hVr0
  go_wp2_with (fail)
  generalize hW1_ : Vr0 = Wr1 at *
  replace hW1_ := Lib.hid hW1_
  have zz_w := Lib.hid HBT_15.size
  have zz_v := Lib.hid Rv_15.lt
  have zz_two := Lib.hid Rtwo_15.lt
  have zz_lo := Lib.hid Rlo_15.lt
  have zz_hi := Lib.hid Rhi_15.lt
  have zz_sv := Lib.hid Rsv_15.lt
  have zz_fa := Lib.hid Rfa_15.lt
  refine wp_region_fin 5 1 [.val (.agg #[.bool (sg (dmn hi)), .slice Xhi (nl (mg (dmn hi))) chi, .int .i64 (dex hi)]), .rat hi, .val (.agg #[.bool (sg two.num), .slice Xtwo (nl (mg two.num)) ctwo, .slice Ytwo (nl two.den) dtwo]), .rat fb, .box 26 Wr1.heap.size #[.bool false, .slice none 0 0, .slice none 0 0]] (by kernel_rfl) (by kernel_rfl) (by kernel_rfl) (by kernel_rfl) (by kernel_rfl) rfl ?_ ?_
  · skip
    refine ⟨?_, ?_⟩
    · intro Ew aw wc st hdep
      have t11 : aw.tmps[11]? = some (.pointer (some ⟨W11.heap.size, 0, none⟩)) := (st.old 11 (by kernel_rfl)).trans (by rfl)
      have qhi0_15 := cbl st.b qhi0_15
      have qhi1_15 := cbl st.b qhi1_15
      have qhi2_15 := cbl st.b qhi2_15
      have e11 := tmp_of t11
      refine op_want rfl (by rfl) (fun K' hK' => ?_)
      go_simp
      exact hK'.out _ _ ⟨_, rfl, rfl, Below.refl _ _⟩
    refine ⟨?_, ?_⟩
    · intro Ew aw wc st hdep
      obtain ⟨v47, t47, r47⟩ := st.nw hdep 0 47
      obtain rfl : v47 = .agg #[.bool (sg (dmn hi)), .slice Xhi (nl (mg (dmn hi))) chi, .int .i64 (dex hi)] := r47
      have e47 := tmp_of t47
      refine op_want rfl (by rfl) (fun K' hK' => ?_)
      go_simp
      refine (Calls.mono (R := RetR wc hi) (RH.out wc _ _ (hhi_15.below st.b)) ?_)
      rintro e W ⟨X, c, Y, d, rfl, hX, hY, kb⟩
      exact hK'.out _ _ ⟨_, rfl, ⟨X, c, Y, d, rfl, hX, hY⟩, kb⟩
    refine ⟨?_, ?_⟩
    · intro Ew aw wc st hdep
      have t8 : aw.tmps[8]? = some (.pointer (some ⟨W7.heap.size, 0, none⟩)) := (st.old 8 (by kernel_rfl)).trans (by rfl)
      have qtwo0_15 := cbl st.b qtwo0_15
      have qtwo1_15 := cbl st.b qtwo1_15
      have qtwo2_15 := cbl st.b qtwo2_15
      have e8 := tmp_of t8
      refine op_want rfl (by rfl) (fun K' hK' => ?_)
      go_simp
      exact hK'.out _ _ ⟨_, rfl, rfl, Below.refl _ _⟩
    refine ⟨?_, ?_⟩
    · intro Ew aw wc st hdep
      obtain ⟨v48, t48, r48⟩ := st.nw hdep 1 48
      obtain ⟨X48, c48, Y48, d48, rfl, h48, g48⟩ := r48
      obtain ⟨v49, t49, r49⟩ := st.nw hdep 2 49
      obtain rfl : v49 = .agg #[.bool (sg two.num), .slice Xtwo (nl (mg two.num)) ctwo, .slice Ytwo (nl two.den) dtwo] := r49
      have e48 := tmp_of t48
      have e49 := tmp_of t49
      refine op_want rfl (by rfl) (fun K' hK' => ?_)
      go_simp
      refine (Calls.mono (R := RetR wc fb) (CB.out wc _ _ _ _ _ _ _ _ h48 g48 (htwo_15.below st.b) (gtwo_15.below st.b) (hG_15.below st.b)) ?_)
      rintro e W ⟨X, c, Y, d, rfl, hX, hY, kb⟩
      exact hK'.out _ _ ⟨_, rfl, ⟨X, c, Y, d, rfl, hX, hY⟩, kb⟩
    refine ⟨?_, ?_⟩
    · intro Ew aw wc st hdep
      refine op_want rfl (by rfl) (fun K' hK' => ?_)
      go_simp
      exact hK'.out _ _ ⟨_, rfl, ⟨_, rfl, st.b.size, ⟨at_new rfl⟩⟩, (Below.refl _ _).alloc (Nat.le_refl _) _⟩
    exact trivial
  intro vs wc hr hB
  obtain ⟨u47, r_47, rfl, k47, hr_47⟩ := hr.un
  obtain rfl : u47 = .agg #[.bool (sg (dmn hi)), .slice Xhi (nl (mg (dmn hi))) chi, .int .i64 (dex hi)] := k47
  obtain ⟨u48, r_48, rfl, k48, hr_48⟩ := hr_47.un
  obtain ⟨X48, c48, Y48, d48, rfl, h48, g48⟩ := k48
  obtain ⟨u49, r_49, rfl, k49, hr_49⟩ := hr_48.un
  obtain rfl : u49 = .agg #[.bool (sg two.num), .slice Xtwo (nl (mg two.num)) ctwo, .slice Ytwo (nl two.den) dtwo] := k49
  obtain ⟨u50, r_50, rfl, k50, hr_50⟩ := hr_49.un
  obtain ⟨X50, c50, Y50, d50, rfl, h50, g50⟩ := k50
  obtain ⟨u15, r_15, rfl, k15, hr_15⟩ := hr_50.un
  obtain ⟨nb15, rfl, hn15, h15⟩ := k15
  obtain rfl := hr_15.nil
  clear hr hr_47 hr_48 hr_49 hr_50 hr_15
  replace Rv_15 := Rv_15.below hB
  replace Rtwo_15 := Rtwo_15.below hB
  replace Rlo_15 := Rlo_15.below hB
  replace Rhi_15 := Rhi_15.below hB
  replace Rsv_15 := Rsv_15.below hB
  replace Rfa_15 := Rfa_15.below hB
  replace hT_15 := hT_15.below hB
  replace hG_15 := hG_15.below hB
  replace hv_15 := hv_15.below hB
  replace gv_15 := gv_15.below hB
  replace qv0_15 := cbl hB qv0_15
  replace qv1_15 := cbl hB qv1_15
  replace qv2_15 := cbl hB qv2_15
  replace htwo_15 := htwo_15.below hB
  replace gtwo_15 := gtwo_15.below hB
  replace qtwo0_15 := cbl hB qtwo0_15
  replace qtwo1_15 := cbl hB qtwo1_15
  replace qtwo2_15 := cbl hB qtwo2_15
  replace hlo_15 := hlo_15.below hB
  replace qlo0_15 := cbl hB qlo0_15
  replace qlo1_15 := cbl hB qlo1_15
  replace qlo2_15 := cbl hB qlo2_15
  replace hhi_15 := hhi_15.below hB
  replace qhi0_15 := cbl hB qhi0_15
  replace qhi1_15 := cbl hB qhi1_15
  replace qhi2_15 := cbl hB qhi2_15
  replace hsv_15 := hsv_15.below hB
  replace gsv_15 := gsv_15.below hB
  replace qsv0_15 := cbl hB qsv0_15
  replace qsv1_15 := cbl hB qsv1_15
  replace qsv2_15 := cbl hB qsv2_15
  replace h46_15 := h46_15.below hB
  replace g46_15 := g46_15.below hB
  replace qfa0_15 := cbl hB qfa0_15
  replace qfa1_15 := cbl hB qfa1_15
  replace qfa2_15 := cbl hB qfa2_15
  have HBT := Below.cons HBT_15 hB
  clear hB
  simp only [upTo, List.take_succ_cons, List.take_zero, putAll, Act.put, seq0, seq1, seq2]
  have Rfb := h15
  clear h15
  have qfb0 := Rfb.c (i := 0) rfl
  have qfb1 := Rfb.c (i := 1) rfl
  have qfb2 := Rfb.c (i := 2) rfl
  replace zz_w := zz_w.out
  replace zz_v := zz_v.out
  replace zz_two := zz_two.out
  replace zz_lo := zz_lo.out
  replace zz_hi := zz_hi.out
  replace zz_sv := zz_sv.out
  replace zz_fa := zz_fa.out
  have ffb0_16 := Rfb.f (i := 0)
  have ffb1_16 := Rfb.f (i := 1)
  have ffb2_16 := Rfb.f (i := 2)
  have Rv_16 : BoxA (((wc.setCell ⟨nb15, 0, none⟩ (.bool (sg fb.num))).setCell ⟨nb15, 1, none⟩ (.slice X50 (nl (mg fb.num)) c50)).setCell ⟨nb15, 2, none⟩ (.slice Y50 (nl fb.den) d50)) _ _ _ := Rv_15.other3 (by first | omega | (simp; done) | (simp; omega))
  have Rtwo_16 : BoxA (((wc.setCell ⟨nb15, 0, none⟩ (.bool (sg fb.num))).setCell ⟨nb15, 1, none⟩ (.slice X50 (nl (mg fb.num)) c50)).setCell ⟨nb15, 2, none⟩ (.slice Y50 (nl fb.den) d50)) _ _ _ := Rtwo_15.other3 (by first | omega | (simp; done) | (simp; omega))
  have Rlo_16 : BoxA (((wc.setCell ⟨nb15, 0, none⟩ (.bool (sg fb.num))).setCell ⟨nb15, 1, none⟩ (.slice X50 (nl (mg fb.num)) c50)).setCell ⟨nb15, 2, none⟩ (.slice Y50 (nl fb.den) d50)) _ _ _ := Rlo_15.other3 (by first | omega | (simp; done) | (simp; omega))
  have Rhi_16 : BoxA (((wc.setCell ⟨nb15, 0, none⟩ (.bool (sg fb.num))).setCell ⟨nb15, 1, none⟩ (.slice X50 (nl (mg fb.num)) c50)).setCell ⟨nb15, 2, none⟩ (.slice Y50 (nl fb.den) d50)) _ _ _ := Rhi_15.other3 (by first | omega | (simp; done) | (simp; omega))
  have Rsv_16 : BoxA (((wc.setCell ⟨nb15, 0, none⟩ (.bool (sg fb.num))).setCell ⟨nb15, 1, none⟩ (.slice X50 (nl (mg fb.num)) c50)).setCell ⟨nb15, 2, none⟩ (.slice Y50 (nl fb.den) d50)) _ _ _ := Rsv_15.other3 (by first | omega | (simp; done) | (simp; omega))
  have Rfa_16 : BoxA (((wc.setCell ⟨nb15, 0, none⟩ (.bool (sg fb.num))).setCell ⟨nb15, 1, none⟩ (.slice X50 (nl (mg fb.num)) c50)).setCell ⟨nb15, 2, none⟩ (.slice Y50 (nl fb.den) d50)) _ _ _ := Rfa_15.other3 (by first | omega | (simp; done) | (simp; omega))
  have Rfb_16 := Rfb.store3 (.bool (sg fb.num)) (.slice X50 (nl (mg fb.num)) c50) (.slice Y50 (nl fb.den) d50)
  have hv_16 := Rfb.keep3 (v0 := .bool (sg fb.num)) (v1 := .slice X50 (nl (mg fb.num)) c50) (v2 := .slice Y50 (nl fb.den) d50) (nuB rfl) hv_15
  have gv_16 := Rfb.keep3 (v0 := .bool (sg fb.num)) (v1 := .slice X50 (nl (mg fb.num)) c50) (v2 := .slice Y50 (nl fb.den) d50) (nuB rfl) gv_15
  have qv0_16 := Rv_16.c (i := 0) rfl
  have qv1_16 := Rv_16.c (i := 1) rfl
  have qv2_16 := Rv_16.c (i := 2) rfl
  have htwo_16 := Rfb.keep3 (v0 := .bool (sg fb.num)) (v1 := .slice X50 (nl (mg fb.num)) c50) (v2 := .slice Y50 (nl fb.den) d50) (nuB rfl) htwo_15
  have gtwo_16 := Rfb.keep3 (v0 := .bool (sg fb.num)) (v1 := .slice X50 (nl (mg fb.num)) c50) (v2 := .slice Y50 (nl fb.den) d50) (nuB rfl) gtwo_15
  have qtwo0_16 := Rtwo_16.c (i := 0) rfl
  have qtwo1_16 := Rtwo_16.c (i := 1) rfl
  have qtwo2_16 := Rtwo_16.c (i := 2) rfl
  have hlo_16 := Rfb.keep3 (v0 := .bool (sg fb.num)) (v1 := .slice X50 (nl (mg fb.num)) c50) (v2 := .slice Y50 (nl fb.den) d50) (nuB rfl) hlo_15
  have qlo0_16 := Rlo_16.c (i := 0) rfl
  have qlo1_16 := Rlo_16.c (i := 1) rfl
  have qlo2_16 := Rlo_16.c (i := 2) rfl
  have hhi_16 := Rfb.keep3 (v0 := .bool (sg fb.num)) (v1 := .slice X50 (nl (mg fb.num)) c50) (v2 := .slice Y50 (nl fb.den) d50) (nuB rfl) hhi_15
  have qhi0_16 := Rhi_16.c (i := 0) rfl
  have qhi1_16 := Rhi_16.c (i := 1) rfl
  have qhi2_16 := Rhi_16.c (i := 2) rfl
  have hsv_16 := Rfb.keep3 (v0 := .bool (sg fb.num)) (v1 := .slice X50 (nl (mg fb.num)) c50) (v2 := .slice Y50 (nl fb.den) d50) (nuB rfl) hsv_15
  have gsv_16 := Rfb.keep3 (v0 := .bool (sg fb.num)) (v1 := .slice X50 (nl (mg fb.num)) c50) (v2 := .slice Y50 (nl fb.den) d50) (nuB rfl) gsv_15
  have qsv0_16 := Rsv_16.c (i := 0) rfl
  have qsv1_16 := Rsv_16.c (i := 1) rfl
  have qsv2_16 := Rsv_16.c (i := 2) rfl
  have h46_16 := Rfb.keep3 (v0 := .bool (sg fb.num)) (v1 := .slice X50 (nl (mg fb.num)) c50) (v2 := .slice Y50 (nl fb.den) d50) (nuB rfl) h46_15
  have g46_16 := Rfb.keep3 (v0 := .bool (sg fb.num)) (v1 := .slice X50 (nl (mg fb.num)) c50) (v2 := .slice Y50 (nl fb.den) d50) (nuB rfl) g46_15
  have qfa0_16 := Rfa_16.c (i := 0) rfl
  have qfa1_16 := Rfa_16.c (i := 1) rfl
  have qfa2_16 := Rfa_16.c (i := 2) rfl
  have h50_16 := Rfb.keep3 (v0 := .bool (sg fb.num)) (v1 := .slice X50 (nl (mg fb.num)) c50) (v2 := .slice Y50 (nl fb.den) d50) (nuB rfl) h50
  have g50_16 := Rfb.keep3 (v0 := .bool (sg fb.num)) (v1 := .slice X50 (nl (mg fb.num)) c50) (v2 := .slice Y50 (nl fb.den) d50) (nuB rfl) g50
  have qfb0_16 := Rfb_16.c (i := 0) rfl
  have qfb1_16 := Rfb_16.c (i := 1) rfl
  have qfb2_16 := Rfb_16.c (i := 2) rfl
  have HBT_16 := Below.store3 (v0 := .bool (sg fb.num)) (v1 := .slice X50 (nl (mg fb.num)) c50) (v2 := .slice Y50 (nl fb.den) d50) HBT (k := nb15) (by first | exact Nat.le_refl _ | omega)
  have hT_16 := hT0.below HBT_16
  have hG_16 := hG0.below HBT_16
  clear zz_w zz_v zz_two zz_lo zz_hi zz_sv zz_fa
  refine TailP.one rfl (by rfl) (fun K' hK' => ?_)
  go_simp
  refine hK'.out _ _ ?_
  try simp only [Act.put, seq0, seq1, seq2]
  refine TailP.done ?_
  clear ffb0_16 ffb1_16 ffb2_16 Rv_15 Rtwo_15 Rlo_15 Rhi_15 Rsv_15 Rfa_15 Rfb hT_15 hG_15 hv_15 gv_15 qv0_15 qv1_15 qv2_15 htwo_15 gtwo_15 qtwo0_15 qtwo1_15 qtwo2_15 hlo_15 qlo0_15 qlo1_15 qlo2_15 hhi_15 qhi0_15 qhi1_15 qhi2_15 hsv_15 gsv_15 qsv0_15 qsv1_15 qsv2_15 h46_15 g46_15 qfa0_15 qfa1_15 qfa2_15 h50 g50 qfb0 qfb1 qfb2 HBT
  generalize hVr1 : (((wc.setCell ⟨nb15, 0, none⟩ (.bool (sg fb.num))).setCell ⟨nb15, 1, none⟩ (.slice X50 (nl (mg fb.num)) c50)).setCell ⟨nb15, 2, none⟩ (.slice Y50 (nl fb.den) d50)) = Vr1 at *
  clear hVr1
  go_wp2_with (fail)
  refine (Calls.mono (CO.out _ _ _ _ _ hv_16 gv_16 hT_16 hG_16) ?_)
  rintro e W17 ⟨Xm, cm, Xr, cr, rfl, hm, hr, hb17⟩
  replace Rv_16 := Rv_16.below hb17
  replace Rtwo_16 := Rtwo_16.below hb17
  replace Rlo_16 := Rlo_16.below hb17
  replace Rhi_16 := Rhi_16.below hb17
  replace Rsv_16 := Rsv_16.below hb17
  replace Rfa_16 := Rfa_16.below hb17
  replace Rfb_16 := Rfb_16.below hb17
  replace hT_16 := hT_16.below hb17
  replace hG_16 := hG_16.below hb17
  replace hv_16 := hv_16.below hb17
  replace gv_16 := gv_16.below hb17
  replace qv0_16 := cbl hb17 qv0_16
  replace qv1_16 := cbl hb17 qv1_16
  replace qv2_16 := cbl hb17 qv2_16
  replace htwo_16 := htwo_16.below hb17
  replace gtwo_16 := gtwo_16.below hb17
  replace qtwo0_16 := cbl hb17 qtwo0_16
  replace qtwo1_16 := cbl hb17 qtwo1_16
  replace qtwo2_16 := cbl hb17 qtwo2_16
  replace hlo_16 := hlo_16.below hb17
  replace qlo0_16 := cbl hb17 qlo0_16
  replace qlo1_16 := cbl hb17 qlo1_16
  replace qlo2_16 := cbl hb17 qlo2_16
  replace hhi_16 := hhi_16.below hb17
  replace qhi0_16 := cbl hb17 qhi0_16
  replace qhi1_16 := cbl hb17 qhi1_16
  replace qhi2_16 := cbl hb17 qhi2_16
  replace hsv_16 := hsv_16.below hb17
  replace gsv_16 := gsv_16.below hb17
  replace qsv0_16 := cbl hb17 qsv0_16
  replace qsv1_16 := cbl hb17 qsv1_16
  replace qsv2_16 := cbl hb17 qsv2_16
  replace h46_16 := h46_16.below hb17
  replace g46_16 := g46_16.below hb17
  replace qfa0_16 := cbl hb17 qfa0_16
  replace qfa1_16 := cbl hb17 qfa1_16
  replace qfa2_16 := cbl hb17 qfa2_16
  replace h50_16 := h50_16.below hb17
  replace g50_16 := g50_16.below hb17
  replace qfb0_16 := cbl hb17 qfb0_16
  replace qfb1_16 := cbl hb17 qfb1_16
  replace qfb2_16 := cbl hb17 qfb2_16
  have HBT := Below.cons HBT_16 hb17
  clear hb17
  obtain ⟨hb18, Rx⟩ := bx1 W17 #[.bool (sg (dmn m)), .slice Xm (nl (mg (dmn m))) cm, .int .i64 (dex m), .bool (sg (dmn r)), .slice Xr (nl (mg (dmn r))) cr, .int .i64 (dex r)] 40
  replace Rv_16 := Rv_16.below hb18
  replace Rtwo_16 := Rtwo_16.below hb18
  replace Rlo_16 := Rlo_16.below hb18
  replace Rhi_16 := Rhi_16.below hb18
  replace Rsv_16 := Rsv_16.below hb18
  replace Rfa_16 := Rfa_16.below hb18
  replace Rfb_16 := Rfb_16.below hb18
  replace hT_16 := hT_16.below hb18
  replace hG_16 := hG_16.below hb18
  replace hv_16 := hv_16.below hb18
  replace gv_16 := gv_16.below hb18
  replace qv0_16 := cbl hb18 qv0_16
  replace qv1_16 := cbl hb18 qv1_16
  replace qv2_16 := cbl hb18 qv2_16
  replace htwo_16 := htwo_16.below hb18
  replace gtwo_16 := gtwo_16.below hb18
  replace qtwo0_16 := cbl hb18 qtwo0_16
  replace qtwo1_16 := cbl hb18 qtwo1_16
  replace qtwo2_16 := cbl hb18 qtwo2_16
  replace hlo_16 := hlo_16.below hb18
  replace qlo0_16 := cbl hb18 qlo0_16
  replace qlo1_16 := cbl hb18 qlo1_16
  replace qlo2_16 := cbl hb18 qlo2_16
  replace hhi_16 := hhi_16.below hb18
  replace qhi0_16 := cbl hb18 qhi0_16
  replace qhi1_16 := cbl hb18 qhi1_16
  replace qhi2_16 := cbl hb18 qhi2_16
  replace hsv_16 := hsv_16.below hb18
  replace gsv_16 := gsv_16.below hb18
  replace qsv0_16 := cbl hb18 qsv0_16
  replace qsv1_16 := cbl hb18 qsv1_16
  replace qsv2_16 := cbl hb18 qsv2_16
  replace h46_16 := h46_16.below hb18
  replace g46_16 := g46_16.below hb18
  replace qfa0_16 := cbl hb18 qfa0_16
  replace qfa1_16 := cbl hb18 qfa1_16
  replace qfa2_16 := cbl hb18 qfa2_16
  replace h50_16 := h50_16.below hb18
  replace g50_16 := g50_16.below hb18
  replace qfb0_16 := cbl hb18 qfb0_16
  replace qfb1_16 := cbl hb18 qfb1_16
  replace qfb2_16 := cbl hb18 qfb2_16
  replace hm := hm.below hb18
  replace hr := hr.below hb18
  replace HBT := Below.cons HBT hb18
  clear hb18
  have qx0 := Rx.c (i := 0) rfl
  have qx1 := Rx.c (i := 1) rfl
  have qx2 := Rx.c (i := 2) rfl
  have qx3 := Rx.c (i := 3) rfl
  have qx4 := Rx.c (i := 4) rfl
  have qx5 := Rx.c (i := 5) rfl
  go_wp2_with (fail)
  refine (Calls.mono (RM.out _ _ _ hm) ?_)
  rintro e W19 ⟨Xmq, cmq, Ymq, dmq, rfl, hmq, gmq, hb19⟩
  replace Rv_16 := Rv_16.below hb19
  replace Rtwo_16 := Rtwo_16.below hb19
  replace Rlo_16 := Rlo_16.below hb19
  replace Rhi_16 := Rhi_16.below hb19
  replace Rsv_16 := Rsv_16.below hb19
  replace Rfa_16 := Rfa_16.below hb19
  replace Rfb_16 := Rfb_16.below hb19
  replace hT_16 := hT_16.below hb19
  replace hG_16 := hG_16.below hb19
  replace hv_16 := hv_16.below hb19
  replace gv_16 := gv_16.below hb19
  replace qv0_16 := cbl hb19 qv0_16
  replace qv1_16 := cbl hb19 qv1_16
  replace qv2_16 := cbl hb19 qv2_16
  replace htwo_16 := htwo_16.below hb19
  replace gtwo_16 := gtwo_16.below hb19
  replace qtwo0_16 := cbl hb19 qtwo0_16
  replace qtwo1_16 := cbl hb19 qtwo1_16
  replace qtwo2_16 := cbl hb19 qtwo2_16
  replace hlo_16 := hlo_16.below hb19
  replace qlo0_16 := cbl hb19 qlo0_16
  replace qlo1_16 := cbl hb19 qlo1_16
  replace qlo2_16 := cbl hb19 qlo2_16
  replace hhi_16 := hhi_16.below hb19
  replace qhi0_16 := cbl hb19 qhi0_16
  replace qhi1_16 := cbl hb19 qhi1_16
  replace qhi2_16 := cbl hb19 qhi2_16
  replace hsv_16 := hsv_16.below hb19
  replace gsv_16 := gsv_16.below hb19
  replace qsv0_16 := cbl hb19 qsv0_16
  replace qsv1_16 := cbl hb19 qsv1_16
  replace qsv2_16 := cbl hb19 qsv2_16
  replace h46_16 := h46_16.below hb19
  replace g46_16 := g46_16.below hb19
  replace qfa0_16 := cbl hb19 qfa0_16
  replace qfa1_16 := cbl hb19 qfa1_16
  replace qfa2_16 := cbl hb19 qfa2_16
  replace h50_16 := h50_16.below hb19
  replace g50_16 := g50_16.below hb19
  replace qfb0_16 := cbl hb19 qfb0_16
  replace qfb1_16 := cbl hb19 qfb1_16
  replace qfb2_16 := cbl hb19 qfb2_16
  replace hm := hm.below hb19
  replace hr := hr.below hb19
  replace Rx := Rx.below hb19
  replace qx0 := cbl hb19 qx0
  replace qx1 := cbl hb19 qx1
  replace qx2 := cbl hb19 qx2
  replace qx3 := cbl hb19 qx3
  replace qx4 := cbl hb19 qx4
  replace qx5 := cbl hb19 qx5
  replace HBT := Below.cons HBT hb19
  clear hb19
  obtain ⟨hb20, Rmq⟩ := bx1 W19 #[.bool (sg m.num), .slice Xmq (nl (mg m.num)) cmq, .slice Ymq (nl m.den) dmq] 26
  replace Rv_16 := Rv_16.below hb20
  replace Rtwo_16 := Rtwo_16.below hb20
  replace Rlo_16 := Rlo_16.below hb20
  replace Rhi_16 := Rhi_16.below hb20
  replace Rsv_16 := Rsv_16.below hb20
  replace Rfa_16 := Rfa_16.below hb20
  replace Rfb_16 := Rfb_16.below hb20
  replace hT_16 := hT_16.below hb20
  replace hG_16 := hG_16.below hb20
  replace hv_16 := hv_16.below hb20
  replace gv_16 := gv_16.below hb20
  replace qv0_16 := cbl hb20 qv0_16
  replace qv1_16 := cbl hb20 qv1_16
  replace qv2_16 := cbl hb20 qv2_16
  replace htwo_16 := htwo_16.below hb20
  replace gtwo_16 := gtwo_16.below hb20
  replace qtwo0_16 := cbl hb20 qtwo0_16
  replace qtwo1_16 := cbl hb20 qtwo1_16
  replace qtwo2_16 := cbl hb20 qtwo2_16
  replace hlo_16 := hlo_16.below hb20
  replace qlo0_16 := cbl hb20 qlo0_16
  replace qlo1_16 := cbl hb20 qlo1_16
  replace qlo2_16 := cbl hb20 qlo2_16
  replace hhi_16 := hhi_16.below hb20
  replace qhi0_16 := cbl hb20 qhi0_16
  replace qhi1_16 := cbl hb20 qhi1_16
  replace qhi2_16 := cbl hb20 qhi2_16
  replace hsv_16 := hsv_16.below hb20
  replace gsv_16 := gsv_16.below hb20
  replace qsv0_16 := cbl hb20 qsv0_16
  replace qsv1_16 := cbl hb20 qsv1_16
  replace qsv2_16 := cbl hb20 qsv2_16
  replace h46_16 := h46_16.below hb20
  replace g46_16 := g46_16.below hb20
  replace qfa0_16 := cbl hb20 qfa0_16
  replace qfa1_16 := cbl hb20 qfa1_16
  replace qfa2_16 := cbl hb20 qfa2_16
  replace h50_16 := h50_16.below hb20
  replace g50_16 := g50_16.below hb20
  replace qfb0_16 := cbl hb20 qfb0_16
  replace qfb1_16 := cbl hb20 qfb1_16
  replace qfb2_16 := cbl hb20 qfb2_16
  replace hm := hm.below hb20
  replace hr := hr.below hb20
  replace Rx := Rx.below hb20
  replace qx0 := cbl hb20 qx0
  replace qx1 := cbl hb20 qx1
  replace qx2 := cbl hb20 qx2
  replace qx3 := cbl hb20 qx3
  replace qx4 := cbl hb20 qx4
  replace qx5 := cbl hb20 qx5
  replace hmq := hmq.below hb20
  replace gmq := gmq.below hb20
  replace HBT := Below.cons HBT hb20
  clear hb20
  have qmq0 := Rmq.c (i := 0) rfl
  have qmq1 := Rmq.c (i := 1) rfl
  have qmq2 := Rmq.c (i := 2) rfl
  go_wp2_with (fail)
  generalize hW9_ : (W19.alloc (.cells #[.bool (sg m.num), .slice Xmq (nl (mg m.num)) cmq, .slice Ymq (nl m.den) dmq] 26)) = Wq9 at *
  replace hW9_ := Lib.hid hW9_
  by_cases hml : m = lo
  · skip
    have SLb := SL.out
    simp only [decide_eq_true hml] at SLb
    replace SLb := Lib.hid SLb
    replace hml := Lib.hid hml
    have hd21 := drb (Wq9)
    replace Rv_16 := Rv_16.below hd21
    replace Rtwo_16 := Rtwo_16.below hd21
    replace Rlo_16 := Rlo_16.below hd21
    replace Rhi_16 := Rhi_16.below hd21
    replace Rsv_16 := Rsv_16.below hd21
    replace Rfa_16 := Rfa_16.below hd21
    replace Rfb_16 := Rfb_16.below hd21
    replace hT_16 := hT_16.below hd21
    replace hG_16 := hG_16.below hd21
    replace hv_16 := hv_16.below hd21
    replace gv_16 := gv_16.below hd21
    replace qv0_16 := cbl hd21 qv0_16
    replace qv1_16 := cbl hd21 qv1_16
    replace qv2_16 := cbl hd21 qv2_16
    replace htwo_16 := htwo_16.below hd21
    replace gtwo_16 := gtwo_16.below hd21
    replace qtwo0_16 := cbl hd21 qtwo0_16
    replace qtwo1_16 := cbl hd21 qtwo1_16
    replace qtwo2_16 := cbl hd21 qtwo2_16
    replace hlo_16 := hlo_16.below hd21
    replace qlo0_16 := cbl hd21 qlo0_16
    replace qlo1_16 := cbl hd21 qlo1_16
    replace qlo2_16 := cbl hd21 qlo2_16
    replace hhi_16 := hhi_16.below hd21
    replace qhi0_16 := cbl hd21 qhi0_16
    replace qhi1_16 := cbl hd21 qhi1_16
    replace qhi2_16 := cbl hd21 qhi2_16
    replace hsv_16 := hsv_16.below hd21
    replace gsv_16 := gsv_16.below hd21
    replace qsv0_16 := cbl hd21 qsv0_16
    replace qsv1_16 := cbl hd21 qsv1_16
    replace qsv2_16 := cbl hd21 qsv2_16
    replace h46_16 := h46_16.below hd21
    replace g46_16 := g46_16.below hd21
    replace qfa0_16 := cbl hd21 qfa0_16
    replace qfa1_16 := cbl hd21 qfa1_16
    replace qfa2_16 := cbl hd21 qfa2_16
    replace h50_16 := h50_16.below hd21
    replace g50_16 := g50_16.below hd21
    replace qfb0_16 := cbl hd21 qfb0_16
    replace qfb1_16 := cbl hd21 qfb1_16
    replace qfb2_16 := cbl hd21 qfb2_16
    replace hm := hm.below hd21
    replace hr := hr.below hd21
    replace Rx := Rx.below hd21
    replace qx0 := cbl hd21 qx0
    replace qx1 := cbl hd21 qx1
    replace qx2 := cbl hd21 qx2
    replace qx3 := cbl hd21 qx3
    replace qx4 := cbl hd21 qx4
    replace qx5 := cbl hd21 qx5
    replace hmq := hmq.below hd21
    replace gmq := gmq.below hd21
    replace Rmq := Rmq.below hd21
    replace qmq0 := cbl hd21 qmq0
    replace qmq1 := cbl hd21 qmq1
    replace qmq2 := cbl hd21 qmq2
    replace HBT := Below.cons HBT hd21
    clear hd21
    obtain ⟨S, hS⟩ : ∃ S : World → Prop, S = fun W => W.cell? ⟨W3.heap.size, 0, none⟩ = some (.bool (sg v.num)) ∧ W.cell? ⟨W3.heap.size, 1, none⟩ = some (.slice Xv (nl (mg v.num)) cv) ∧ W.cell? ⟨W3.heap.size, 2, none⟩ = some (.slice Yv (nl v.den) dv) ∧ W.cell? ⟨W13.heap.size, 0, none⟩ = some (.bool (sg sv.num)) ∧ W.cell? ⟨W13.heap.size, 1, none⟩ = some (.slice Xsv (nl (mg sv.num)) csv) ∧ W.cell? ⟨W13.heap.size, 2, none⟩ = some (.slice Ysv (nl sv.den) dsv) ∧ W.cell? ⟨nb14, 0, none⟩ = some (.bool (sg fa.num)) ∧ W.cell? ⟨nb14, 1, none⟩ = some (.slice X46 (nl (mg fa.num)) c46) ∧ W.cell? ⟨nb14, 2, none⟩ = some (.slice Y46 (nl fa.den) d46) ∧ W.cell? ⟨nb15, 0, none⟩ = some (.bool (sg fb.num)) ∧ W.cell? ⟨nb15, 1, none⟩ = some (.slice X50 (nl (mg fb.num)) c50) ∧ W.cell? ⟨nb15, 2, none⟩ = some (.slice Y50 (nl fb.den) d50) ∧ W.cell? ⟨W19.heap.size, 0, none⟩ = some (.bool (sg m.num)) ∧ W.cell? ⟨W19.heap.size, 1, none⟩ = some (.slice Xmq (nl (mg m.num)) cmq) ∧ W.cell? ⟨W19.heap.size, 2, none⟩ = some (.slice Ymq (nl m.den) dmq) ∧ W.cell? ⟨W9.heap.size, 0, none⟩ = some (.bool (sg (dmn lo))) ∧ W.cell? ⟨W9.heap.size, 1, none⟩ = some (.slice Xlo (nl (mg (dmn lo))) clo) ∧ W.cell? ⟨W9.heap.size, 2, none⟩ = some (.int .i64 (dex lo)) ∧ W.cell? ⟨W11.heap.size, 0, none⟩ = some (.bool (sg (dmn hi))) ∧ W.cell? ⟨W11.heap.size, 1, none⟩ = some (.slice Xhi (nl (mg (dmn hi))) chi) ∧ W.cell? ⟨W11.heap.size, 2, none⟩ = some (.int .i64 (dex hi)) ∧ W.cell? ⟨W17.heap.size, 0, none⟩ = some (.bool (sg (dmn m))) ∧ W.cell? ⟨W17.heap.size, 1, none⟩ = some (.slice Xm (nl (mg (dmn m))) cm) ∧ W.cell? ⟨W17.heap.size, 2, none⟩ = some (.int .i64 (dex m)) ∧ W.cell? ⟨W17.heap.size, 3, none⟩ = some (.bool (sg (dmn r))) ∧ W.cell? ⟨W17.heap.size, 4, none⟩ = some (.slice Xr (nl (mg (dmn r))) cr) ∧ W.cell? ⟨W17.heap.size, 5, none⟩ = some (.int .i64 (dex r)) := ⟨_, rfl⟩
    have HSq : S (Wq9).drew := by rw [hS]; exact ⟨(Rv_16.c (i := 0) rfl), (Rv_16.c (i := 1) rfl), (Rv_16.c (i := 2) rfl), (Rsv_16.c (i := 0) rfl), (Rsv_16.c (i := 1) rfl), (Rsv_16.c (i := 2) rfl), (Rfa_16.c (i := 0) rfl), (Rfa_16.c (i := 1) rfl), (Rfa_16.c (i := 2) rfl), (Rfb_16.c (i := 0) rfl), (Rfb_16.c (i := 1) rfl), (Rfb_16.c (i := 2) rfl), (Rmq.c (i := 0) rfl), (Rmq.c (i := 1) rfl), (Rmq.c (i := 2) rfl), (Rlo_16.c (i := 0) rfl), (Rlo_16.c (i := 1) rfl), (Rlo_16.c (i := 2) rfl), (Rhi_16.c (i := 0) rfl), (Rhi_16.c (i := 1) rfl), (Rhi_16.c (i := 2) rfl), (Rx.c (i := 0) rfl), (Rx.c (i := 1) rfl), (Rx.c (i := 2) rfl), (Rx.c (i := 3) rfl), (Rx.c (i := 4) rfl), (Rx.c (i := 5) rfl)⟩
    have hSb : ∀ W W' : World, Below W.heap.size W W' → S W → S W' := by rw [hS]; exact fun W W' hb h => ⟨cell_below hb h.1, cell_below hb h.2.1, cell_below hb h.2.2.1, cell_below hb h.2.2.2.1, cell_below hb h.2.2.2.2.1, cell_below hb h.2.2.2.2.2.1, cell_below hb h.2.2.2.2.2.2.1, cell_below hb h.2.2.2.2.2.2.2.1, cell_below hb h.2.2.2.2.2.2.2.2.1, cell_below hb h.2.2.2.2.2.2.2.2.2.1, cell_below hb h.2.2.2.2.2.2.2.2.2.2.1, cell_below hb h.2.2.2.2.2.2.2.2.2.2.2.1, cell_below hb h.2.2.2.2.2.2.2.2.2.2.2.2.1, cell_below hb h.2.2.2.2.2.2.2.2.2.2.2.2.2.1, cell_below hb h.2.2.2.2.2.2.2.2.2.2.2.2.2.2.1, cell_below hb h.2.2.2.2.2.2.2.2.2.2.2.2.2.2.2.1, cell_below hb h.2.2.2.2.2.2.2.2.2.2.2.2.2.2.2.2.1, cell_below hb h.2.2.2.2.2.2.2.2.2.2.2.2.2.2.2.2.2.1, cell_below hb h.2.2.2.2.2.2.2.2.2.2.2.2.2.2.2.2.2.2.1, cell_below hb h.2.2.2.2.2.2.2.2.2.2.2.2.2.2.2.2.2.2.2.1, cell_below hb h.2.2.2.2.2.2.2.2.2.2.2.2.2.2.2.2.2.2.2.2.1, cell_below hb h.2.2.2.2.2.2.2.2.2.2.2.2.2.2.2.2.2.2.2.2.2.1, cell_below hb h.2.2.2.2.2.2.2.2.2.2.2.2.2.2.2.2.2.2.2.2.2.2.1, cell_below hb h.2.2.2.2.2.2.2.2.2.2.2.2.2.2.2.2.2.2.2.2.2.2.2.1, cell_below hb h.2.2.2.2.2.2.2.2.2.2.2.2.2.2.2.2.2.2.2.2.2.2.2.2.1, cell_below hb h.2.2.2.2.2.2.2.2.2.2.2.2.2.2.2.2.2.2.2.2.2.2.2.2.2.1, cell_below hb h.2.2.2.2.2.2.2.2.2.2.2.2.2.2.2.2.2.2.2.2.2.2.2.2.2.2⟩
    replace hSb := Lib.hid hSb
    replace hS := Lib.hid hS
    refine wp_region_seq S [(0, true), (1, true), (2, true), (3, true), (4, true), (5, true), (6, true), (7, true), (8, true), (9, true), (10, true), (11, true), (12, false), (13, false), (14, false), (15, true), (16, true), (17, true), (18, true), (19, false), (20, false), (21, false), (22, true), (23, true), (24, true), (25, true), (26, false), (27, false), (28, true), (29, true), (30, true), (31, true), (32, true), (33, true), (34, true), (35, true), (36, true), (37, true), (38, false), (39, true), (40, true)] (by kernel_rfl) (by kernel_rfl) (by kernel_rfl) HSq (fun hSq => ?_)
    clear hSq
    replace HSq := Lib.hid HSq
    clear Rv_16 Rsv_16 Rfa_16 Rfb_16 Rmq Rlo_16 Rhi_16 Rx
    refine SeqP.take (v := ?_) rfl (fun _ _ _ h => h) (Or.inl ⟨by rfl, ?_⟩) ?_
    rotate_left 1
    · intro wq hSw; rw [hS.out] at hSw; (try dsimp only at hSw); go_simp; try with_reducible rfl
    try simp only [Act.put, seq0, seq1, seq2]
    refine SeqP.take (v := ?_) rfl (fun _ _ _ h => h) (Or.inl ⟨by rfl, ?_⟩) ?_
    rotate_left 1
    · intro wq hSw; rw [hS.out] at hSw; (try dsimp only at hSw); go_simp; try with_reducible rfl
    try simp only [Act.put, seq0, seq1, seq2]
    refine SeqP.take (v := ?_) rfl (fun _ _ _ h => h) (Or.inl ⟨by rfl, ?_⟩) ?_
    rotate_left 1
    · intro wq hSw; rw [hS.out] at hSw; (try dsimp only at hSw); go_simp; try with_reducible rfl
    try simp only [Act.put, seq0, seq1, seq2]
    refine SeqP.take (v := ?_) rfl (fun _ _ _ h => h) (Or.inl ⟨by rfl, ?_⟩) ?_
    rotate_left 1
    · intro wq hSw; rw [hS.out] at hSw; (try dsimp only at hSw); go_simp; try with_reducible rfl
    try simp only [Act.put, seq0, seq1, seq2]
    refine SeqP.take (v := ?_) rfl (fun _ _ _ h => h) (Or.inl ⟨by rfl, ?_⟩) ?_
    rotate_left 1
    · intro wq hSw; rw [hS.out] at hSw; (try dsimp only at hSw); go_simp; try with_reducible rfl
    try simp only [Act.put, seq0, seq1, seq2]
    refine SeqP.take (v := ?_) rfl (fun _ _ _ h => h) (Or.inl ⟨by rfl, ?_⟩) ?_
    rotate_left 1
    · intro wq hSw; rw [hS.out] at hSw; (try dsimp only at hSw); go_simp; try with_reducible rfl
    try simp only [Act.put, seq0, seq1, seq2]
    refine SeqP.take (v := ?_) rfl (fun _ _ _ h => h) (Or.inl ⟨by rfl, ?_⟩) ?_
    rotate_left 1
    · intro wq hSw; rw [hS.out] at hSw; (try dsimp only at hSw); go_simp; try with_reducible rfl
    try simp only [Act.put, seq0, seq1, seq2]
    refine SeqP.take (v := ?_) rfl (fun _ _ _ h => h) (Or.inl ⟨by rfl, ?_⟩) ?_
    rotate_left 1
    · intro wq hSw; rw [hS.out] at hSw; (try dsimp only at hSw); go_simp; try with_reducible rfl
    try simp only [Act.put, seq0, seq1, seq2]
    refine SeqP.take (v := ?_) rfl (fun _ _ _ h => h) (Or.inl ⟨by rfl, ?_⟩) ?_
    rotate_left 1
    · intro wq hSw; rw [hS.out] at hSw; (try dsimp only at hSw); go_simp; try with_reducible rfl
    try simp only [Act.put, seq0, seq1, seq2]
    refine SeqP.take (v := ?_) rfl (fun _ _ _ h => h) (Or.inl ⟨by rfl, ?_⟩) ?_
    rotate_left 1
    · intro wq hSw; rw [hS.out] at hSw; (try dsimp only at hSw); go_simp; try with_reducible rfl
    try simp only [Act.put, seq0, seq1, seq2]
    refine SeqP.take (v := ?_) rfl (fun _ _ _ h => h) (Or.inl ⟨by rfl, ?_⟩) ?_
    rotate_left 1
    · intro wq hSw; rw [hS.out] at hSw; (try dsimp only at hSw); go_simp; try with_reducible rfl
    try simp only [Act.put, seq0, seq1, seq2]
    refine SeqP.take (v := ?_) rfl (fun _ _ _ h => h) (Or.inl ⟨by rfl, ?_⟩) ?_
    rotate_left 1
    · intro wq hSw; rw [hS.out] at hSw; (try dsimp only at hSw); go_simp; try with_reducible rfl
    try simp only [Act.put, seq0, seq1, seq2]
    refine SeqP.call rfl (by rfl) (fun Kq hKq => ?_)
    go_simp
    go_at_call 15
    with_reducible refine (FL.out _ _ _ _ _ hsv_16 gsv_16).mono ?_
    rintro e W22 ⟨Xfl__22, cfl__22, rfl, hfl__22, hb22⟩
    replace Rtwo_16 := Rtwo_16.below hb22
    replace hT_16 := hT_16.below hb22
    replace hG_16 := hG_16.below hb22
    replace hv_16 := hv_16.below hb22
    replace gv_16 := gv_16.below hb22
    replace htwo_16 := htwo_16.below hb22
    replace gtwo_16 := gtwo_16.below hb22
    replace qtwo0_16 := cbl hb22 qtwo0_16
    replace qtwo1_16 := cbl hb22 qtwo1_16
    replace qtwo2_16 := cbl hb22 qtwo2_16
    replace hlo_16 := hlo_16.below hb22
    replace hhi_16 := hhi_16.below hb22
    replace hsv_16 := hsv_16.below hb22
    replace gsv_16 := gsv_16.below hb22
    replace h46_16 := h46_16.below hb22
    replace g46_16 := g46_16.below hb22
    replace h50_16 := h50_16.below hb22
    replace g50_16 := g50_16.below hb22
    replace hm := hm.below hb22
    replace hr := hr.below hb22
    replace hmq := hmq.below hb22
    replace gmq := gmq.below hb22
    replace HBT := Below.cons HBT hb22
    replace HSq := Lib.hid (hSb.out _ _ hb22 HSq.out)
    clear hb22
    refine hKq.out _ _ HSq.out (fun hSq => ?_)
    clear hSq hKq Kq
    try simp only [Act.put, seq0, seq1, seq2]
    refine SeqP.call rfl (by rfl) (fun Kq hKq => ?_)
    go_simp
    go_at_call 7
    with_reducible refine (WF.out _ _ _ hfl__22).mono ?_
    rintro e W23 ⟨Xqf__23, cqf__23, Yqf__23, dqf__23, rfl, hqf__23, gqf__23, hb23⟩
    replace Rtwo_16 := Rtwo_16.below hb23
    replace hT_16 := hT_16.below hb23
    replace hG_16 := hG_16.below hb23
    replace hv_16 := hv_16.below hb23
    replace gv_16 := gv_16.below hb23
    replace htwo_16 := htwo_16.below hb23
    replace gtwo_16 := gtwo_16.below hb23
    replace qtwo0_16 := cbl hb23 qtwo0_16
    replace qtwo1_16 := cbl hb23 qtwo1_16
    replace qtwo2_16 := cbl hb23 qtwo2_16
    replace hlo_16 := hlo_16.below hb23
    replace hhi_16 := hhi_16.below hb23
    replace hsv_16 := hsv_16.below hb23
    replace gsv_16 := gsv_16.below hb23
    replace h46_16 := h46_16.below hb23
    replace g46_16 := g46_16.below hb23
    replace h50_16 := h50_16.below hb23
    replace g50_16 := g50_16.below hb23
    replace hm := hm.below hb23
    replace hr := hr.below hb23
    replace hmq := hmq.below hb23
    replace gmq := gmq.below hb23
    replace hfl__22 := hfl__22.below hb23
    replace HBT := Below.cons HBT hb23
    replace HSq := Lib.hid (hSb.out _ _ hb23 HSq.out)
    clear hb23
    refine hKq.out _ _ HSq.out (fun hSq => ?_)
    clear hSq hKq Kq
    try simp only [Act.put, seq0, seq1, seq2]
    refine SeqP.call rfl (by rfl) (fun Kq hKq => ?_)
    go_simp
    go_at_call 14
    with_reducible refine (SF.out _ _ _ _ _ _ _ _ _ h46_16 g46_16 hqf__23 gqf__23).mono ?_
    rintro e W24 ⟨rfl, hb24⟩
    replace Rtwo_16 := Rtwo_16.below hb24
    replace hT_16 := hT_16.below hb24
    replace hG_16 := hG_16.below hb24
    replace hv_16 := hv_16.below hb24
    replace gv_16 := gv_16.below hb24
    replace htwo_16 := htwo_16.below hb24
    replace gtwo_16 := gtwo_16.below hb24
    replace qtwo0_16 := cbl hb24 qtwo0_16
    replace qtwo1_16 := cbl hb24 qtwo1_16
    replace qtwo2_16 := cbl hb24 qtwo2_16
    replace hlo_16 := hlo_16.below hb24
    replace hhi_16 := hhi_16.below hb24
    replace hsv_16 := hsv_16.below hb24
    replace gsv_16 := gsv_16.below hb24
    replace h50_16 := h50_16.below hb24
    replace g50_16 := g50_16.below hb24
    replace hm := hm.below hb24
    replace hr := hr.below hb24
    replace hmq := hmq.below hb24
    replace gmq := gmq.below hb24
    replace HBT := Below.cons HBT hb24
    replace HSq := Lib.hid (hSb.out _ _ hb24 HSq.out)
    clear hb24
    refine hKq.out _ _ HSq.out (fun hSq => ?_)
    clear hSq hKq Kq
    try simp only [Act.put, seq0, seq1, seq2]
    refine SeqP.take (v := ?_) rfl (fun _ _ _ h => h) (Or.inl ⟨by rfl, ?_⟩) ?_
    rotate_left 1
    · intro wq hSw; rw [hS.out] at hSw; (try dsimp only at hSw); go_simp; try with_reducible rfl
    try simp only [Act.put, seq0, seq1, seq2]
    refine SeqP.take (v := ?_) rfl (fun _ _ _ h => h) (Or.inl ⟨by rfl, ?_⟩) ?_
    rotate_left 1
    · intro wq hSw; rw [hS.out] at hSw; (try dsimp only at hSw); go_simp; try with_reducible rfl
    try simp only [Act.put, seq0, seq1, seq2]
    refine SeqP.take (v := ?_) rfl (fun _ _ _ h => h) (Or.inl ⟨by rfl, ?_⟩) ?_
    rotate_left 1
    · intro wq hSw; rw [hS.out] at hSw; (try dsimp only at hSw); go_simp; try with_reducible rfl
    try simp only [Act.put, seq0, seq1, seq2]
    refine SeqP.take (v := ?_) rfl (fun _ _ _ h => h) (Or.inl ⟨by rfl, ?_⟩) ?_
    rotate_left 1
    · intro wq hSw; rw [hS.out] at hSw; (try dsimp only at hSw); go_simp; try with_reducible rfl
    try simp only [Act.put, seq0, seq1, seq2]
    refine SeqP.call rfl (by rfl) (fun Kq hKq => ?_)
    go_simp
    go_at_call 16
    with_reducible refine (CE.out _ _ _ _ _ hsv_16 gsv_16).mono ?_
    rintro e W25 ⟨Xce__25, cce__25, rfl, hce__25, hb25⟩
    replace Rtwo_16 := Rtwo_16.below hb25
    replace hT_16 := hT_16.below hb25
    replace hG_16 := hG_16.below hb25
    replace hv_16 := hv_16.below hb25
    replace gv_16 := gv_16.below hb25
    replace htwo_16 := htwo_16.below hb25
    replace gtwo_16 := gtwo_16.below hb25
    replace qtwo0_16 := cbl hb25 qtwo0_16
    replace qtwo1_16 := cbl hb25 qtwo1_16
    replace qtwo2_16 := cbl hb25 qtwo2_16
    replace hlo_16 := hlo_16.below hb25
    replace hhi_16 := hhi_16.below hb25
    replace hsv_16 := hsv_16.below hb25
    replace gsv_16 := gsv_16.below hb25
    replace h50_16 := h50_16.below hb25
    replace g50_16 := g50_16.below hb25
    replace hm := hm.below hb25
    replace hr := hr.below hb25
    replace hmq := hmq.below hb25
    replace gmq := gmq.below hb25
    replace HBT := Below.cons HBT hb25
    replace HSq := Lib.hid (hSb.out _ _ hb25 HSq.out)
    clear hb25
    refine hKq.out _ _ HSq.out (fun hSq => ?_)
    clear hSq hKq Kq
    try simp only [Act.put, seq0, seq1, seq2]
    refine SeqP.call rfl (by rfl) (fun Kq hKq => ?_)
    go_simp
    go_at_call 7
    with_reducible refine (WC.out _ _ _ hce__25).mono ?_
    rintro e W26 ⟨Xqc__26, cqc__26, Yqc__26, dqc__26, rfl, hqc__26, gqc__26, hb26⟩
    replace Rtwo_16 := Rtwo_16.below hb26
    replace hT_16 := hT_16.below hb26
    replace hG_16 := hG_16.below hb26
    replace hv_16 := hv_16.below hb26
    replace gv_16 := gv_16.below hb26
    replace htwo_16 := htwo_16.below hb26
    replace gtwo_16 := gtwo_16.below hb26
    replace qtwo0_16 := cbl hb26 qtwo0_16
    replace qtwo1_16 := cbl hb26 qtwo1_16
    replace qtwo2_16 := cbl hb26 qtwo2_16
    replace hlo_16 := hlo_16.below hb26
    replace hhi_16 := hhi_16.below hb26
    replace hsv_16 := hsv_16.below hb26
    replace gsv_16 := gsv_16.below hb26
    replace h50_16 := h50_16.below hb26
    replace g50_16 := g50_16.below hb26
    replace hm := hm.below hb26
    replace hr := hr.below hb26
    replace hmq := hmq.below hb26
    replace gmq := gmq.below hb26
    replace hce__25 := hce__25.below hb26
    replace HBT := Below.cons HBT hb26
    replace HSq := Lib.hid (hSb.out _ _ hb26 HSq.out)
    clear hb26
    refine hKq.out _ _ HSq.out (fun hSq => ?_)
    clear hSq hKq Kq
    try simp only [Act.put, seq0, seq1, seq2]
    refine SeqP.call rfl (by rfl) (fun Kq hKq => ?_)
    go_simp
    go_at_call 14
    with_reducible refine (SC.out _ _ _ _ _ _ _ _ _ h50_16 g50_16 hqc__26 gqc__26).mono ?_
    rintro e W27 ⟨rfl, hb27⟩
    replace Rtwo_16 := Rtwo_16.below hb27
    replace hT_16 := hT_16.below hb27
    replace hG_16 := hG_16.below hb27
    replace hv_16 := hv_16.below hb27
    replace gv_16 := gv_16.below hb27
    replace htwo_16 := htwo_16.below hb27
    replace gtwo_16 := gtwo_16.below hb27
    replace qtwo0_16 := cbl hb27 qtwo0_16
    replace qtwo1_16 := cbl hb27 qtwo1_16
    replace qtwo2_16 := cbl hb27 qtwo2_16
    replace hlo_16 := hlo_16.below hb27
    replace hhi_16 := hhi_16.below hb27
    replace hsv_16 := hsv_16.below hb27
    replace gsv_16 := gsv_16.below hb27
    replace hm := hm.below hb27
    replace hr := hr.below hb27
    replace hmq := hmq.below hb27
    replace gmq := gmq.below hb27
    replace HBT := Below.cons HBT hb27
    replace HSq := Lib.hid (hSb.out _ _ hb27 HSq.out)
    clear hb27
    refine hKq.out _ _ HSq.out (fun hSq => ?_)
    clear hSq hKq Kq
    try simp only [Act.put, seq0, seq1, seq2]
    refine SeqP.take (v := ?_) rfl (fun _ _ _ h => h) (Or.inl ⟨by rfl, ?_⟩) ?_
    rotate_left 1
    · intro wq hSw; rw [hS.out] at hSw; (try dsimp only at hSw); go_simp; try with_reducible rfl
    try simp only [Act.put, seq0, seq1, seq2]
    refine SeqP.take (v := ?_) rfl (fun _ _ _ h => h) (Or.inl ⟨by rfl, ?_⟩) ?_
    rotate_left 1
    · intro wq hSw; rw [hS.out] at hSw; (try dsimp only at hSw); go_simp; try with_reducible rfl
    try simp only [Act.put, seq0, seq1, seq2]
    refine SeqP.take (v := ?_) rfl (fun _ _ _ h => h) (Or.inl ⟨by rfl, ?_⟩) ?_
    rotate_left 1
    · intro wq hSw; rw [hS.out] at hSw; (try dsimp only at hSw); go_simp; try with_reducible rfl
    try simp only [Act.put, seq0, seq1, seq2]
    refine SeqP.take (v := ?_) rfl (fun _ _ _ h => h) (Or.inl ⟨by rfl, ?_⟩) ?_
    rotate_left 1
    · intro wq hSw; rw [hS.out] at hSw; (try dsimp only at hSw); go_simp; try with_reducible rfl
    try simp only [Act.put, seq0, seq1, seq2]
    refine SeqP.call rfl (by rfl) (fun Kq hKq => ?_)
    go_simp
    go_at_call 12
    with_reducible refine (RL.out _ _ _ hlo_16).mono ?_
    rintro e W28 ⟨Xlq__28, clq__28, Ylq__28, dlq__28, rfl, hlq__28, glq__28, hb28⟩
    replace Rtwo_16 := Rtwo_16.below hb28
    replace hT_16 := hT_16.below hb28
    replace hG_16 := hG_16.below hb28
    replace hv_16 := hv_16.below hb28
    replace gv_16 := gv_16.below hb28
    replace htwo_16 := htwo_16.below hb28
    replace gtwo_16 := gtwo_16.below hb28
    replace qtwo0_16 := cbl hb28 qtwo0_16
    replace qtwo1_16 := cbl hb28 qtwo1_16
    replace qtwo2_16 := cbl hb28 qtwo2_16
    replace hlo_16 := hlo_16.below hb28
    replace hhi_16 := hhi_16.below hb28
    replace hsv_16 := hsv_16.below hb28
    replace gsv_16 := gsv_16.below hb28
    replace hm := hm.below hb28
    replace hr := hr.below hb28
    replace hmq := hmq.below hb28
    replace gmq := gmq.below hb28
    replace HBT := Below.cons HBT hb28
    replace HSq := Lib.hid (hSb.out _ _ hb28 HSq.out)
    clear hb28
    refine hKq.out _ _ HSq.out (fun hSq => ?_)
    clear hSq hKq Kq
    try simp only [Act.put, seq0, seq1, seq2]
    refine SeqP.call rfl (by rfl) (fun Kq hKq => ?_)
    go_simp
    go_at_call 14
    with_reducible refine (SLb.out _ _ _ _ _ _ _ _ _ hmq gmq hlq__28 glq__28).mono ?_
    rintro e W29 ⟨rfl, hb29⟩
    replace Rtwo_16 := Rtwo_16.below hb29
    replace hT_16 := hT_16.below hb29
    replace hG_16 := hG_16.below hb29
    replace hv_16 := hv_16.below hb29
    replace gv_16 := gv_16.below hb29
    replace htwo_16 := htwo_16.below hb29
    replace gtwo_16 := gtwo_16.below hb29
    replace qtwo0_16 := cbl hb29 qtwo0_16
    replace qtwo1_16 := cbl hb29 qtwo1_16
    replace qtwo2_16 := cbl hb29 qtwo2_16
    replace hlo_16 := hlo_16.below hb29
    replace hhi_16 := hhi_16.below hb29
    replace hsv_16 := hsv_16.below hb29
    replace gsv_16 := gsv_16.below hb29
    replace hm := hm.below hb29
    replace hr := hr.below hb29
    replace hmq := hmq.below hb29
    replace gmq := gmq.below hb29
    replace HBT := Below.cons HBT hb29
    replace HSq := Lib.hid (hSb.out _ _ hb29 HSq.out)
    clear hb29
    refine hKq.out _ _ HSq.out (fun hSq => ?_)
    clear hSq hKq Kq
    try simp only [Act.put, seq0, seq1, seq2]
    refine SeqP.take (v := ?_) rfl (fun _ _ _ h => h) (Or.inl ⟨by rfl, ?_⟩) ?_
    rotate_left 1
    · intro wq hSw; rw [hS.out] at hSw; (try dsimp only at hSw); go_simp; try with_reducible rfl
    try simp only [Act.put, seq0, seq1, seq2]
    refine SeqP.take (v := undef) rfl (fun _ _ _ h => h) (Or.inr ⟨by rfl, rfl⟩) ?_
    try simp only [Act.put, seq0, seq1, seq2]
    refine SeqP.take (v := undef) rfl (fun _ _ _ h => h) (Or.inr ⟨by rfl, rfl⟩) ?_
    try simp only [Act.put, seq0, seq1, seq2]
    refine SeqP.take (v := undef) rfl (fun _ _ _ h => h) (Or.inr ⟨by rfl, rfl⟩) ?_
    try simp only [Act.put, seq0, seq1, seq2]
    refine SeqP.take (v := undef) rfl (fun _ _ _ h => h) (Or.inr ⟨by rfl, rfl⟩) ?_
    try simp only [Act.put, seq0, seq1, seq2]
    refine SeqP.take (v := ?_) rfl (fun _ _ _ h => h) (Or.inl ⟨by rfl, ?_⟩) ?_
    rotate_left 1
    · intro wq hSw; rw [hS.out] at hSw; (try dsimp only at hSw); go_simp; try with_reducible rfl
    try simp only [Act.put, seq0, seq1, seq2]
    refine SeqP.take (v := ?_) rfl (fun _ _ _ h => h) (Or.inl ⟨by rfl, ?_⟩) ?_
    rotate_left 1
    · intro wq hSw; rw [hS.out] at hSw; (try dsimp only at hSw); go_simp; try with_reducible rfl
    try simp only [Act.put, seq0, seq1, seq2]
    refine SeqP.take (v := ?_) rfl (fun _ _ _ h => h) (Or.inl ⟨by rfl, ?_⟩) ?_
    rotate_left 1
    · intro wq hSw; rw [hS.out] at hSw; (try dsimp only at hSw); go_simp; try with_reducible rfl
    try simp only [Act.put, seq0, seq1, seq2]
    refine SeqP.take (v := ?_) rfl (fun _ _ _ h => h) (Or.inl ⟨by rfl, ?_⟩) ?_
    rotate_left 1
    · intro wq hSw; rw [hS.out] at hSw; (try dsimp only at hSw); go_simp; try with_reducible rfl
    try simp only [Act.put, seq0, seq1, seq2]
    refine SeqP.take (v := ?_) rfl (fun _ _ _ h => h) (Or.inl ⟨by rfl, ?_⟩) ?_
    rotate_left 1
    · intro wq hSw; rw [hS.out] at hSw; (try dsimp only at hSw); go_simp; try with_reducible rfl
    try simp only [Act.put, seq0, seq1, seq2]
    refine SeqP.call rfl (by rfl) (fun Kq hKq => ?_)
    go_simp
    go_at_call 17
    with_reducible refine (HV.out _ _ _ _ _ _ _ _ _ hm hr hv_16 gv_16 hT_16 hG_16).mono ?_
    rintro e W30 ⟨rfl, hb30⟩
    replace Rtwo_16 := Rtwo_16.below hb30
    replace hT_16 := hT_16.below hb30
    replace hG_16 := hG_16.below hb30
    replace hv_16 := hv_16.below hb30
    replace gv_16 := gv_16.below hb30
    replace htwo_16 := htwo_16.below hb30
    replace gtwo_16 := gtwo_16.below hb30
    replace qtwo0_16 := cbl hb30 qtwo0_16
    replace qtwo1_16 := cbl hb30 qtwo1_16
    replace qtwo2_16 := cbl hb30 qtwo2_16
    replace hlo_16 := hlo_16.below hb30
    replace hhi_16 := hhi_16.below hb30
    replace hsv_16 := hsv_16.below hb30
    replace gsv_16 := gsv_16.below hb30
    replace hm := hm.below hb30
    replace hr := hr.below hb30
    replace hmq := hmq.below hb30
    replace gmq := gmq.below hb30
    replace HBT := Below.cons HBT hb30
    replace HSq := Lib.hid (hSb.out _ _ hb30 HSq.out)
    clear hb30
    refine hKq.out _ _ HSq.out (fun hSq => ?_)
    clear hSq hKq Kq
    try simp only [Act.put, seq0, seq1, seq2]
    refine SeqP.take (v := ?_) rfl (fun _ _ _ h => h) (Or.inl ⟨by rfl, ?_⟩) ?_
    rotate_left 1
    · intro wq hSw; rw [hS.out] at hSw; (try dsimp only at hSw); go_simp; try with_reducible rfl
    try simp only [Act.put, seq0, seq1, seq2]
    refine SeqP.take (v := ?_) rfl (fun _ _ _ h => h) (Or.inl ⟨by rfl, ?_⟩) ?_
    rotate_left 1
    · intro wq hSw; rw [hS.out] at hSw; (try dsimp only at hSw); go_simp; try with_reducible rfl
    try simp only [Act.put, seq0, seq1, seq2]
    refine SeqP.done ?_
    clear hSb
    clear HSq
    go_wp2_with (fail)
    go_ret
    exact ⟨rfl, HBT⟩
  · skip
    have SLb := SL.out
    simp only [decide_eq_false hml] at SLb
    replace SLb := Lib.hid SLb
    have SHb := SH.out
    simp only [decide_eq_true (mlh.out.resolve_left hml)] at SHb
    replace SHb := Lib.hid SHb
    replace hml := Lib.hid hml
    have hd121 := drb (Wq9)
    replace Rv_16 := Rv_16.below hd121
    replace Rtwo_16 := Rtwo_16.below hd121
    replace Rlo_16 := Rlo_16.below hd121
    replace Rhi_16 := Rhi_16.below hd121
    replace Rsv_16 := Rsv_16.below hd121
    replace Rfa_16 := Rfa_16.below hd121
    replace Rfb_16 := Rfb_16.below hd121
    replace hT_16 := hT_16.below hd121
    replace hG_16 := hG_16.below hd121
    replace hv_16 := hv_16.below hd121
    replace gv_16 := gv_16.below hd121
    replace qv0_16 := cbl hd121 qv0_16
    replace qv1_16 := cbl hd121 qv1_16
    replace qv2_16 := cbl hd121 qv2_16
    replace htwo_16 := htwo_16.below hd121
    replace gtwo_16 := gtwo_16.below hd121
    replace qtwo0_16 := cbl hd121 qtwo0_16
    replace qtwo1_16 := cbl hd121 qtwo1_16
    replace qtwo2_16 := cbl hd121 qtwo2_16
    replace hlo_16 := hlo_16.below hd121
    replace qlo0_16 := cbl hd121 qlo0_16
    replace qlo1_16 := cbl hd121 qlo1_16
    replace qlo2_16 := cbl hd121 qlo2_16
    replace hhi_16 := hhi_16.below hd121
    replace qhi0_16 := cbl hd121 qhi0_16
    replace qhi1_16 := cbl hd121 qhi1_16
    replace qhi2_16 := cbl hd121 qhi2_16
    replace hsv_16 := hsv_16.below hd121
    replace gsv_16 := gsv_16.below hd121
    replace qsv0_16 := cbl hd121 qsv0_16
    replace qsv1_16 := cbl hd121 qsv1_16
    replace qsv2_16 := cbl hd121 qsv2_16
    replace h46_16 := h46_16.below hd121
    replace g46_16 := g46_16.below hd121
    replace qfa0_16 := cbl hd121 qfa0_16
    replace qfa1_16 := cbl hd121 qfa1_16
    replace qfa2_16 := cbl hd121 qfa2_16
    replace h50_16 := h50_16.below hd121
    replace g50_16 := g50_16.below hd121
    replace qfb0_16 := cbl hd121 qfb0_16
    replace qfb1_16 := cbl hd121 qfb1_16
    replace qfb2_16 := cbl hd121 qfb2_16
    replace hm := hm.below hd121
    replace hr := hr.below hd121
    replace Rx := Rx.below hd121
    replace qx0 := cbl hd121 qx0
    replace qx1 := cbl hd121 qx1
    replace qx2 := cbl hd121 qx2
    replace qx3 := cbl hd121 qx3
    replace qx4 := cbl hd121 qx4
    replace qx5 := cbl hd121 qx5
    replace hmq := hmq.below hd121
    replace gmq := gmq.below hd121
    replace Rmq := Rmq.below hd121
    replace qmq0 := cbl hd121 qmq0
    replace qmq1 := cbl hd121 qmq1
    replace qmq2 := cbl hd121 qmq2
    replace HBT := Below.cons HBT hd121
    clear hd121
    obtain ⟨S, hS⟩ : ∃ S : World → Prop, S = fun W => W.cell? ⟨W3.heap.size, 0, none⟩ = some (.bool (sg v.num)) ∧ W.cell? ⟨W3.heap.size, 1, none⟩ = some (.slice Xv (nl (mg v.num)) cv) ∧ W.cell? ⟨W3.heap.size, 2, none⟩ = some (.slice Yv (nl v.den) dv) ∧ W.cell? ⟨W13.heap.size, 0, none⟩ = some (.bool (sg sv.num)) ∧ W.cell? ⟨W13.heap.size, 1, none⟩ = some (.slice Xsv (nl (mg sv.num)) csv) ∧ W.cell? ⟨W13.heap.size, 2, none⟩ = some (.slice Ysv (nl sv.den) dsv) ∧ W.cell? ⟨nb14, 0, none⟩ = some (.bool (sg fa.num)) ∧ W.cell? ⟨nb14, 1, none⟩ = some (.slice X46 (nl (mg fa.num)) c46) ∧ W.cell? ⟨nb14, 2, none⟩ = some (.slice Y46 (nl fa.den) d46) ∧ W.cell? ⟨nb15, 0, none⟩ = some (.bool (sg fb.num)) ∧ W.cell? ⟨nb15, 1, none⟩ = some (.slice X50 (nl (mg fb.num)) c50) ∧ W.cell? ⟨nb15, 2, none⟩ = some (.slice Y50 (nl fb.den) d50) ∧ W.cell? ⟨W19.heap.size, 0, none⟩ = some (.bool (sg m.num)) ∧ W.cell? ⟨W19.heap.size, 1, none⟩ = some (.slice Xmq (nl (mg m.num)) cmq) ∧ W.cell? ⟨W19.heap.size, 2, none⟩ = some (.slice Ymq (nl m.den) dmq) ∧ W.cell? ⟨W9.heap.size, 0, none⟩ = some (.bool (sg (dmn lo))) ∧ W.cell? ⟨W9.heap.size, 1, none⟩ = some (.slice Xlo (nl (mg (dmn lo))) clo) ∧ W.cell? ⟨W9.heap.size, 2, none⟩ = some (.int .i64 (dex lo)) ∧ W.cell? ⟨W11.heap.size, 0, none⟩ = some (.bool (sg (dmn hi))) ∧ W.cell? ⟨W11.heap.size, 1, none⟩ = some (.slice Xhi (nl (mg (dmn hi))) chi) ∧ W.cell? ⟨W11.heap.size, 2, none⟩ = some (.int .i64 (dex hi)) ∧ W.cell? ⟨W17.heap.size, 0, none⟩ = some (.bool (sg (dmn m))) ∧ W.cell? ⟨W17.heap.size, 1, none⟩ = some (.slice Xm (nl (mg (dmn m))) cm) ∧ W.cell? ⟨W17.heap.size, 2, none⟩ = some (.int .i64 (dex m)) ∧ W.cell? ⟨W17.heap.size, 3, none⟩ = some (.bool (sg (dmn r))) ∧ W.cell? ⟨W17.heap.size, 4, none⟩ = some (.slice Xr (nl (mg (dmn r))) cr) ∧ W.cell? ⟨W17.heap.size, 5, none⟩ = some (.int .i64 (dex r)) := ⟨_, rfl⟩
    have HSq : S (Wq9).drew := by rw [hS]; exact ⟨(Rv_16.c (i := 0) rfl), (Rv_16.c (i := 1) rfl), (Rv_16.c (i := 2) rfl), (Rsv_16.c (i := 0) rfl), (Rsv_16.c (i := 1) rfl), (Rsv_16.c (i := 2) rfl), (Rfa_16.c (i := 0) rfl), (Rfa_16.c (i := 1) rfl), (Rfa_16.c (i := 2) rfl), (Rfb_16.c (i := 0) rfl), (Rfb_16.c (i := 1) rfl), (Rfb_16.c (i := 2) rfl), (Rmq.c (i := 0) rfl), (Rmq.c (i := 1) rfl), (Rmq.c (i := 2) rfl), (Rlo_16.c (i := 0) rfl), (Rlo_16.c (i := 1) rfl), (Rlo_16.c (i := 2) rfl), (Rhi_16.c (i := 0) rfl), (Rhi_16.c (i := 1) rfl), (Rhi_16.c (i := 2) rfl), (Rx.c (i := 0) rfl), (Rx.c (i := 1) rfl), (Rx.c (i := 2) rfl), (Rx.c (i := 3) rfl), (Rx.c (i := 4) rfl), (Rx.c (i := 5) rfl)⟩
    have hSb : ∀ W W' : World, Below W.heap.size W W' → S W → S W' := by rw [hS]; exact fun W W' hb h => ⟨cell_below hb h.1, cell_below hb h.2.1, cell_below hb h.2.2.1, cell_below hb h.2.2.2.1, cell_below hb h.2.2.2.2.1, cell_below hb h.2.2.2.2.2.1, cell_below hb h.2.2.2.2.2.2.1, cell_below hb h.2.2.2.2.2.2.2.1, cell_below hb h.2.2.2.2.2.2.2.2.1, cell_below hb h.2.2.2.2.2.2.2.2.2.1, cell_below hb h.2.2.2.2.2.2.2.2.2.2.1, cell_below hb h.2.2.2.2.2.2.2.2.2.2.2.1, cell_below hb h.2.2.2.2.2.2.2.2.2.2.2.2.1, cell_below hb h.2.2.2.2.2.2.2.2.2.2.2.2.2.1, cell_below hb h.2.2.2.2.2.2.2.2.2.2.2.2.2.2.1, cell_below hb h.2.2.2.2.2.2.2.2.2.2.2.2.2.2.2.1, cell_below hb h.2.2.2.2.2.2.2.2.2.2.2.2.2.2.2.2.1, cell_below hb h.2.2.2.2.2.2.2.2.2.2.2.2.2.2.2.2.2.1, cell_below hb h.2.2.2.2.2.2.2.2.2.2.2.2.2.2.2.2.2.2.1, cell_below hb h.2.2.2.2.2.2.2.2.2.2.2.2.2.2.2.2.2.2.2.1, cell_below hb h.2.2.2.2.2.2.2.2.2.2.2.2.2.2.2.2.2.2.2.2.1, cell_below hb h.2.2.2.2.2.2.2.2.2.2.2.2.2.2.2.2.2.2.2.2.2.1, cell_below hb h.2.2.2.2.2.2.2.2.2.2.2.2.2.2.2.2.2.2.2.2.2.2.1, cell_below hb h.2.2.2.2.2.2.2.2.2.2.2.2.2.2.2.2.2.2.2.2.2.2.2.1, cell_below hb h.2.2.2.2.2.2.2.2.2.2.2.2.2.2.2.2.2.2.2.2.2.2.2.2.1, cell_below hb h.2.2.2.2.2.2.2.2.2.2.2.2.2.2.2.2.2.2.2.2.2.2.2.2.2.1, cell_below hb h.2.2.2.2.2.2.2.2.2.2.2.2.2.2.2.2.2.2.2.2.2.2.2.2.2.2⟩
    replace hSb := Lib.hid hSb
    replace hS := Lib.hid hS
    refine wp_region_seq S [(0, true), (1, true), (2, true), (3, true), (4, true), (5, true), (6, true), (7, true), (8, true), (9, true), (10, true), (11, true), (12, false), (13, false), (14, false), (15, true), (16, true), (17, true), (18, true), (19, false), (20, false), (21, false), (22, true), (23, true), (24, true), (25, true), (26, false), (27, false), (28, true), (29, true), (30, true), (31, false), (32, false), (33, true), (34, true), (35, true), (36, true), (37, true), (38, false), (39, true), (40, true)] (by kernel_rfl) (by kernel_rfl) (by kernel_rfl) HSq (fun hSq => ?_)
    clear hSq
    replace HSq := Lib.hid HSq
    clear Rv_16 Rsv_16 Rfa_16 Rfb_16 Rmq Rlo_16 Rhi_16 Rx
    refine SeqP.take (v := ?_) rfl (fun _ _ _ h => h) (Or.inl ⟨by rfl, ?_⟩) ?_
    rotate_left 1
    · intro wq hSw; rw [hS.out] at hSw; (try dsimp only at hSw); go_simp; try with_reducible rfl
    try simp only [Act.put, seq0, seq1, seq2]
    refine SeqP.take (v := ?_) rfl (fun _ _ _ h => h) (Or.inl ⟨by rfl, ?_⟩) ?_
    rotate_left 1
    · intro wq hSw; rw [hS.out] at hSw; (try dsimp only at hSw); go_simp; try with_reducible rfl
    try simp only [Act.put, seq0, seq1, seq2]
    refine SeqP.take (v := ?_) rfl (fun _ _ _ h => h) (Or.inl ⟨by rfl, ?_⟩) ?_
    rotate_left 1
    · intro wq hSw; rw [hS.out] at hSw; (try dsimp only at hSw); go_simp; try with_reducible rfl
    try simp only [Act.put, seq0, seq1, seq2]
    refine SeqP.take (v := ?_) rfl (fun _ _ _ h => h) (Or.inl ⟨by rfl, ?_⟩) ?_
    rotate_left 1
    · intro wq hSw; rw [hS.out] at hSw; (try dsimp only at hSw); go_simp; try with_reducible rfl
    try simp only [Act.put, seq0, seq1, seq2]
    refine SeqP.take (v := ?_) rfl (fun _ _ _ h => h) (Or.inl ⟨by rfl, ?_⟩) ?_
    rotate_left 1
    · intro wq hSw; rw [hS.out] at hSw; (try dsimp only at hSw); go_simp; try with_reducible rfl
    try simp only [Act.put, seq0, seq1, seq2]
    refine SeqP.take (v := ?_) rfl (fun _ _ _ h => h) (Or.inl ⟨by rfl, ?_⟩) ?_
    rotate_left 1
    · intro wq hSw; rw [hS.out] at hSw; (try dsimp only at hSw); go_simp; try with_reducible rfl
    try simp only [Act.put, seq0, seq1, seq2]
    refine SeqP.take (v := ?_) rfl (fun _ _ _ h => h) (Or.inl ⟨by rfl, ?_⟩) ?_
    rotate_left 1
    · intro wq hSw; rw [hS.out] at hSw; (try dsimp only at hSw); go_simp; try with_reducible rfl
    try simp only [Act.put, seq0, seq1, seq2]
    refine SeqP.take (v := ?_) rfl (fun _ _ _ h => h) (Or.inl ⟨by rfl, ?_⟩) ?_
    rotate_left 1
    · intro wq hSw; rw [hS.out] at hSw; (try dsimp only at hSw); go_simp; try with_reducible rfl
    try simp only [Act.put, seq0, seq1, seq2]
    refine SeqP.take (v := ?_) rfl (fun _ _ _ h => h) (Or.inl ⟨by rfl, ?_⟩) ?_
    rotate_left 1
    · intro wq hSw; rw [hS.out] at hSw; (try dsimp only at hSw); go_simp; try with_reducible rfl
    try simp only [Act.put, seq0, seq1, seq2]
    refine SeqP.take (v := ?_) rfl (fun _ _ _ h => h) (Or.inl ⟨by rfl, ?_⟩) ?_
    rotate_left 1
    · intro wq hSw; rw [hS.out] at hSw; (try dsimp only at hSw); go_simp; try with_reducible rfl
    try simp only [Act.put, seq0, seq1, seq2]
    refine SeqP.take (v := ?_) rfl (fun _ _ _ h => h) (Or.inl ⟨by rfl, ?_⟩) ?_
    rotate_left 1
    · intro wq hSw; rw [hS.out] at hSw; (try dsimp only at hSw); go_simp; try with_reducible rfl
    try simp only [Act.put, seq0, seq1, seq2]
    refine SeqP.take (v := ?_) rfl (fun _ _ _ h => h) (Or.inl ⟨by rfl, ?_⟩) ?_
    rotate_left 1
    · intro wq hSw; rw [hS.out] at hSw; (try dsimp only at hSw); go_simp; try with_reducible rfl
    try simp only [Act.put, seq0, seq1, seq2]
    refine SeqP.call rfl (by rfl) (fun Kq hKq => ?_)
    go_simp
    go_at_call 15
    with_reducible refine (FL.out _ _ _ _ _ hsv_16 gsv_16).mono ?_
    rintro e W122 ⟨Xfl__122, cfl__122, rfl, hfl__122, hb122⟩
    replace Rtwo_16 := Rtwo_16.below hb122
    replace hT_16 := hT_16.below hb122
    replace hG_16 := hG_16.below hb122
    replace hv_16 := hv_16.below hb122
    replace gv_16 := gv_16.below hb122
    replace htwo_16 := htwo_16.below hb122
    replace gtwo_16 := gtwo_16.below hb122
    replace qtwo0_16 := cbl hb122 qtwo0_16
    replace qtwo1_16 := cbl hb122 qtwo1_16
    replace qtwo2_16 := cbl hb122 qtwo2_16
    replace hlo_16 := hlo_16.below hb122
    replace hhi_16 := hhi_16.below hb122
    replace hsv_16 := hsv_16.below hb122
    replace gsv_16 := gsv_16.below hb122
    replace h46_16 := h46_16.below hb122
    replace g46_16 := g46_16.below hb122
    replace h50_16 := h50_16.below hb122
    replace g50_16 := g50_16.below hb122
    replace hm := hm.below hb122
    replace hr := hr.below hb122
    replace hmq := hmq.below hb122
    replace gmq := gmq.below hb122
    replace HBT := Below.cons HBT hb122
    replace HSq := Lib.hid (hSb.out _ _ hb122 HSq.out)
    clear hb122
    refine hKq.out _ _ HSq.out (fun hSq => ?_)
    clear hSq hKq Kq
    try simp only [Act.put, seq0, seq1, seq2]
    refine SeqP.call rfl (by rfl) (fun Kq hKq => ?_)
    go_simp
    go_at_call 7
    with_reducible refine (WF.out _ _ _ hfl__122).mono ?_
    rintro e W123 ⟨Xqf__123, cqf__123, Yqf__123, dqf__123, rfl, hqf__123, gqf__123, hb123⟩
    replace Rtwo_16 := Rtwo_16.below hb123
    replace hT_16 := hT_16.below hb123
    replace hG_16 := hG_16.below hb123
    replace hv_16 := hv_16.below hb123
    replace gv_16 := gv_16.below hb123
    replace htwo_16 := htwo_16.below hb123
    replace gtwo_16 := gtwo_16.below hb123
    replace qtwo0_16 := cbl hb123 qtwo0_16
    replace qtwo1_16 := cbl hb123 qtwo1_16
    replace qtwo2_16 := cbl hb123 qtwo2_16
    replace hlo_16 := hlo_16.below hb123
    replace hhi_16 := hhi_16.below hb123
    replace hsv_16 := hsv_16.below hb123
    replace gsv_16 := gsv_16.below hb123
    replace h46_16 := h46_16.below hb123
    replace g46_16 := g46_16.below hb123
    replace h50_16 := h50_16.below hb123
    replace g50_16 := g50_16.below hb123
    replace hm := hm.below hb123
    replace hr := hr.below hb123
    replace hmq := hmq.below hb123
    replace gmq := gmq.below hb123
    replace hfl__122 := hfl__122.below hb123
    replace HBT := Below.cons HBT hb123
    replace HSq := Lib.hid (hSb.out _ _ hb123 HSq.out)
    clear hb123
    refine hKq.out _ _ HSq.out (fun hSq => ?_)
    clear hSq hKq Kq
    try simp only [Act.put, seq0, seq1, seq2]
    refine SeqP.call rfl (by rfl) (fun Kq hKq => ?_)
    go_simp
    go_at_call 14
    with_reducible refine (SF.out _ _ _ _ _ _ _ _ _ h46_16 g46_16 hqf__123 gqf__123).mono ?_
    rintro e W124 ⟨rfl, hb124⟩
    replace Rtwo_16 := Rtwo_16.below hb124
    replace hT_16 := hT_16.below hb124
    replace hG_16 := hG_16.below hb124
    replace hv_16 := hv_16.below hb124
    replace gv_16 := gv_16.below hb124
    replace htwo_16 := htwo_16.below hb124
    replace gtwo_16 := gtwo_16.below hb124
    replace qtwo0_16 := cbl hb124 qtwo0_16
    replace qtwo1_16 := cbl hb124 qtwo1_16
    replace qtwo2_16 := cbl hb124 qtwo2_16
    replace hlo_16 := hlo_16.below hb124
    replace hhi_16 := hhi_16.below hb124
    replace hsv_16 := hsv_16.below hb124
    replace gsv_16 := gsv_16.below hb124
    replace h50_16 := h50_16.below hb124
    replace g50_16 := g50_16.below hb124
    replace hm := hm.below hb124
    replace hr := hr.below hb124
    replace hmq := hmq.below hb124
    replace gmq := gmq.below hb124
    replace HBT := Below.cons HBT hb124
    replace HSq := Lib.hid (hSb.out _ _ hb124 HSq.out)
    clear hb124
    refine hKq.out _ _ HSq.out (fun hSq => ?_)
    clear hSq hKq Kq
    try simp only [Act.put, seq0, seq1, seq2]
    refine SeqP.take (v := ?_) rfl (fun _ _ _ h => h) (Or.inl ⟨by rfl, ?_⟩) ?_
    rotate_left 1
    · intro wq hSw; rw [hS.out] at hSw; (try dsimp only at hSw); go_simp; try with_reducible rfl
    try simp only [Act.put, seq0, seq1, seq2]
    refine SeqP.take (v := ?_) rfl (fun _ _ _ h => h) (Or.inl ⟨by rfl, ?_⟩) ?_
    rotate_left 1
    · intro wq hSw; rw [hS.out] at hSw; (try dsimp only at hSw); go_simp; try with_reducible rfl
    try simp only [Act.put, seq0, seq1, seq2]
    refine SeqP.take (v := ?_) rfl (fun _ _ _ h => h) (Or.inl ⟨by rfl, ?_⟩) ?_
    rotate_left 1
    · intro wq hSw; rw [hS.out] at hSw; (try dsimp only at hSw); go_simp; try with_reducible rfl
    try simp only [Act.put, seq0, seq1, seq2]
    refine SeqP.take (v := ?_) rfl (fun _ _ _ h => h) (Or.inl ⟨by rfl, ?_⟩) ?_
    rotate_left 1
    · intro wq hSw; rw [hS.out] at hSw; (try dsimp only at hSw); go_simp; try with_reducible rfl
    try simp only [Act.put, seq0, seq1, seq2]
    refine SeqP.call rfl (by rfl) (fun Kq hKq => ?_)
    go_simp
    go_at_call 16
    with_reducible refine (CE.out _ _ _ _ _ hsv_16 gsv_16).mono ?_
    rintro e W125 ⟨Xce__125, cce__125, rfl, hce__125, hb125⟩
    replace Rtwo_16 := Rtwo_16.below hb125
    replace hT_16 := hT_16.below hb125
    replace hG_16 := hG_16.below hb125
    replace hv_16 := hv_16.below hb125
    replace gv_16 := gv_16.below hb125
    replace htwo_16 := htwo_16.below hb125
    replace gtwo_16 := gtwo_16.below hb125
    replace qtwo0_16 := cbl hb125 qtwo0_16
    replace qtwo1_16 := cbl hb125 qtwo1_16
    replace qtwo2_16 := cbl hb125 qtwo2_16
    replace hlo_16 := hlo_16.below hb125
    replace hhi_16 := hhi_16.below hb125
    replace hsv_16 := hsv_16.below hb125
    replace gsv_16 := gsv_16.below hb125
    replace h50_16 := h50_16.below hb125
    replace g50_16 := g50_16.below hb125
    replace hm := hm.below hb125
    replace hr := hr.below hb125
    replace hmq := hmq.below hb125
    replace gmq := gmq.below hb125
    replace HBT := Below.cons HBT hb125
    replace HSq := Lib.hid (hSb.out _ _ hb125 HSq.out)
    clear hb125
    refine hKq.out _ _ HSq.out (fun hSq => ?_)
    clear hSq hKq Kq
    try simp only [Act.put, seq0, seq1, seq2]
    refine SeqP.call rfl (by rfl) (fun Kq hKq => ?_)
    go_simp
    go_at_call 7
    with_reducible refine (WC.out _ _ _ hce__125).mono ?_
    rintro e W126 ⟨Xqc__126, cqc__126, Yqc__126, dqc__126, rfl, hqc__126, gqc__126, hb126⟩
    replace Rtwo_16 := Rtwo_16.below hb126
    replace hT_16 := hT_16.below hb126
    replace hG_16 := hG_16.below hb126
    replace hv_16 := hv_16.below hb126
    replace gv_16 := gv_16.below hb126
    replace htwo_16 := htwo_16.below hb126
    replace gtwo_16 := gtwo_16.below hb126
    replace qtwo0_16 := cbl hb126 qtwo0_16
    replace qtwo1_16 := cbl hb126 qtwo1_16
    replace qtwo2_16 := cbl hb126 qtwo2_16
    replace hlo_16 := hlo_16.below hb126
    replace hhi_16 := hhi_16.below hb126
    replace hsv_16 := hsv_16.below hb126
    replace gsv_16 := gsv_16.below hb126
    replace h50_16 := h50_16.below hb126
    replace g50_16 := g50_16.below hb126
    replace hm := hm.below hb126
    replace hr := hr.below hb126
    replace hmq := hmq.below hb126
    replace gmq := gmq.below hb126
    replace hce__125 := hce__125.below hb126
    replace HBT := Below.cons HBT hb126
    replace HSq := Lib.hid (hSb.out _ _ hb126 HSq.out)
    clear hb126
    refine hKq.out _ _ HSq.out (fun hSq => ?_)
    clear hSq hKq Kq
    try simp only [Act.put, seq0, seq1, seq2]
    refine SeqP.call rfl (by rfl) (fun Kq hKq => ?_)
    go_simp
    go_at_call 14
    with_reducible refine (SC.out _ _ _ _ _ _ _ _ _ h50_16 g50_16 hqc__126 gqc__126).mono ?_
    rintro e W127 ⟨rfl, hb127⟩
    replace Rtwo_16 := Rtwo_16.below hb127
    replace hT_16 := hT_16.below hb127
    replace hG_16 := hG_16.below hb127
    replace hv_16 := hv_16.below hb127
    replace gv_16 := gv_16.below hb127
    replace htwo_16 := htwo_16.below hb127
    replace gtwo_16 := gtwo_16.below hb127
    replace qtwo0_16 := cbl hb127 qtwo0_16
    replace qtwo1_16 := cbl hb127 qtwo1_16
    replace qtwo2_16 := cbl hb127 qtwo2_16
    replace hlo_16 := hlo_16.below hb127
    replace hhi_16 := hhi_16.below hb127
    replace hsv_16 := hsv_16.below hb127
    replace gsv_16 := gsv_16.below hb127
    replace hm := hm.below hb127
    replace hr := hr.below hb127
    replace hmq := hmq.below hb127
    replace gmq := gmq.below hb127
    replace HBT := Below.cons HBT hb127
    replace HSq := Lib.hid (hSb.out _ _ hb127 HSq.out)
    clear hb127
    refine hKq.out _ _ HSq.out (fun hSq => ?_)
    clear hSq hKq Kq
    try simp only [Act.put, seq0, seq1, seq2]
    refine SeqP.take (v := ?_) rfl (fun _ _ _ h => h) (Or.inl ⟨by rfl, ?_⟩) ?_
    rotate_left 1
    · intro wq hSw; rw [hS.out] at hSw; (try dsimp only at hSw); go_simp; try with_reducible rfl
    try simp only [Act.put, seq0, seq1, seq2]
    refine SeqP.take (v := ?_) rfl (fun _ _ _ h => h) (Or.inl ⟨by rfl, ?_⟩) ?_
    rotate_left 1
    · intro wq hSw; rw [hS.out] at hSw; (try dsimp only at hSw); go_simp; try with_reducible rfl
    try simp only [Act.put, seq0, seq1, seq2]
    refine SeqP.take (v := ?_) rfl (fun _ _ _ h => h) (Or.inl ⟨by rfl, ?_⟩) ?_
    rotate_left 1
    · intro wq hSw; rw [hS.out] at hSw; (try dsimp only at hSw); go_simp; try with_reducible rfl
    try simp only [Act.put, seq0, seq1, seq2]
    refine SeqP.take (v := ?_) rfl (fun _ _ _ h => h) (Or.inl ⟨by rfl, ?_⟩) ?_
    rotate_left 1
    · intro wq hSw; rw [hS.out] at hSw; (try dsimp only at hSw); go_simp; try with_reducible rfl
    try simp only [Act.put, seq0, seq1, seq2]
    refine SeqP.call rfl (by rfl) (fun Kq hKq => ?_)
    go_simp
    go_at_call 12
    with_reducible refine (RL.out _ _ _ hlo_16).mono ?_
    rintro e W128 ⟨Xlq__128, clq__128, Ylq__128, dlq__128, rfl, hlq__128, glq__128, hb128⟩
    replace Rtwo_16 := Rtwo_16.below hb128
    replace hT_16 := hT_16.below hb128
    replace hG_16 := hG_16.below hb128
    replace hv_16 := hv_16.below hb128
    replace gv_16 := gv_16.below hb128
    replace htwo_16 := htwo_16.below hb128
    replace gtwo_16 := gtwo_16.below hb128
    replace qtwo0_16 := cbl hb128 qtwo0_16
    replace qtwo1_16 := cbl hb128 qtwo1_16
    replace qtwo2_16 := cbl hb128 qtwo2_16
    replace hlo_16 := hlo_16.below hb128
    replace hhi_16 := hhi_16.below hb128
    replace hsv_16 := hsv_16.below hb128
    replace gsv_16 := gsv_16.below hb128
    replace hm := hm.below hb128
    replace hr := hr.below hb128
    replace hmq := hmq.below hb128
    replace gmq := gmq.below hb128
    replace HBT := Below.cons HBT hb128
    replace HSq := Lib.hid (hSb.out _ _ hb128 HSq.out)
    clear hb128
    refine hKq.out _ _ HSq.out (fun hSq => ?_)
    clear hSq hKq Kq
    try simp only [Act.put, seq0, seq1, seq2]
    refine SeqP.call rfl (by rfl) (fun Kq hKq => ?_)
    go_simp
    go_at_call 14
    with_reducible refine (SLb.out _ _ _ _ _ _ _ _ _ hmq gmq hlq__128 glq__128).mono ?_
    rintro e W129 ⟨rfl, hb129⟩
    replace Rtwo_16 := Rtwo_16.below hb129
    replace hT_16 := hT_16.below hb129
    replace hG_16 := hG_16.below hb129
    replace hv_16 := hv_16.below hb129
    replace gv_16 := gv_16.below hb129
    replace htwo_16 := htwo_16.below hb129
    replace gtwo_16 := gtwo_16.below hb129
    replace qtwo0_16 := cbl hb129 qtwo0_16
    replace qtwo1_16 := cbl hb129 qtwo1_16
    replace qtwo2_16 := cbl hb129 qtwo2_16
    replace hlo_16 := hlo_16.below hb129
    replace hhi_16 := hhi_16.below hb129
    replace hsv_16 := hsv_16.below hb129
    replace gsv_16 := gsv_16.below hb129
    replace hm := hm.below hb129
    replace hr := hr.below hb129
    replace hmq := hmq.below hb129
    replace gmq := gmq.below hb129
    replace HBT := Below.cons HBT hb129
    replace HSq := Lib.hid (hSb.out _ _ hb129 HSq.out)
    clear hb129
    refine hKq.out _ _ HSq.out (fun hSq => ?_)
    clear hSq hKq Kq
    try simp only [Act.put, seq0, seq1, seq2]
    refine SeqP.take (v := ?_) rfl (fun _ _ _ h => h) (Or.inl ⟨by rfl, ?_⟩) ?_
    rotate_left 1
    · intro wq hSw; rw [hS.out] at hSw; (try dsimp only at hSw); go_simp; try with_reducible rfl
    try simp only [Act.put, seq0, seq1, seq2]
    refine SeqP.take (v := ?_) rfl (fun _ _ _ h => h) (Or.inl ⟨by rfl, ?_⟩) ?_
    rotate_left 1
    · intro wq hSw; rw [hS.out] at hSw; (try dsimp only at hSw); go_simp; try with_reducible rfl
    try simp only [Act.put, seq0, seq1, seq2]
    refine SeqP.take (v := ?_) rfl (fun _ _ _ h => h) (Or.inl ⟨by rfl, ?_⟩) ?_
    rotate_left 1
    · intro wq hSw; rw [hS.out] at hSw; (try dsimp only at hSw); go_simp; try with_reducible rfl
    try simp only [Act.put, seq0, seq1, seq2]
    refine SeqP.call rfl (by rfl) (fun Kq hKq => ?_)
    go_simp
    go_at_call 12
    with_reducible refine (RH.out _ _ _ hhi_16).mono ?_
    rintro e W130 ⟨Xhq__130, chq__130, Yhq__130, dhq__130, rfl, hhq__130, ghq__130, hb130⟩
    replace Rtwo_16 := Rtwo_16.below hb130
    replace hT_16 := hT_16.below hb130
    replace hG_16 := hG_16.below hb130
    replace hv_16 := hv_16.below hb130
    replace gv_16 := gv_16.below hb130
    replace htwo_16 := htwo_16.below hb130
    replace gtwo_16 := gtwo_16.below hb130
    replace qtwo0_16 := cbl hb130 qtwo0_16
    replace qtwo1_16 := cbl hb130 qtwo1_16
    replace qtwo2_16 := cbl hb130 qtwo2_16
    replace hlo_16 := hlo_16.below hb130
    replace hhi_16 := hhi_16.below hb130
    replace hsv_16 := hsv_16.below hb130
    replace gsv_16 := gsv_16.below hb130
    replace hm := hm.below hb130
    replace hr := hr.below hb130
    replace hmq := hmq.below hb130
    replace gmq := gmq.below hb130
    replace HBT := Below.cons HBT hb130
    replace HSq := Lib.hid (hSb.out _ _ hb130 HSq.out)
    clear hb130
    refine hKq.out _ _ HSq.out (fun hSq => ?_)
    clear hSq hKq Kq
    try simp only [Act.put, seq0, seq1, seq2]
    refine SeqP.call rfl (by rfl) (fun Kq hKq => ?_)
    go_simp
    go_at_call 14
    with_reducible refine (SHb.out _ _ _ _ _ _ _ _ _ hmq gmq hhq__130 ghq__130).mono ?_
    rintro e W131 ⟨rfl, hb131⟩
    replace Rtwo_16 := Rtwo_16.below hb131
    replace hT_16 := hT_16.below hb131
    replace hG_16 := hG_16.below hb131
    replace hv_16 := hv_16.below hb131
    replace gv_16 := gv_16.below hb131
    replace htwo_16 := htwo_16.below hb131
    replace gtwo_16 := gtwo_16.below hb131
    replace qtwo0_16 := cbl hb131 qtwo0_16
    replace qtwo1_16 := cbl hb131 qtwo1_16
    replace qtwo2_16 := cbl hb131 qtwo2_16
    replace hlo_16 := hlo_16.below hb131
    replace hhi_16 := hhi_16.below hb131
    replace hsv_16 := hsv_16.below hb131
    replace gsv_16 := gsv_16.below hb131
    replace hm := hm.below hb131
    replace hr := hr.below hb131
    replace hmq := hmq.below hb131
    replace gmq := gmq.below hb131
    replace HBT := Below.cons HBT hb131
    replace HSq := Lib.hid (hSb.out _ _ hb131 HSq.out)
    clear hb131
    refine hKq.out _ _ HSq.out (fun hSq => ?_)
    clear hSq hKq Kq
    try simp only [Act.put, seq0, seq1, seq2]
    refine SeqP.take (v := ?_) rfl (fun _ _ _ h => h) (Or.inl ⟨by rfl, ?_⟩) ?_
    rotate_left 1
    · intro wq hSw; rw [hS.out] at hSw; (try dsimp only at hSw); go_simp; try with_reducible rfl
    try simp only [Act.put, seq0, seq1, seq2]
    refine SeqP.take (v := ?_) rfl (fun _ _ _ h => h) (Or.inl ⟨by rfl, ?_⟩) ?_
    rotate_left 1
    · intro wq hSw; rw [hS.out] at hSw; (try dsimp only at hSw); go_simp; try with_reducible rfl
    try simp only [Act.put, seq0, seq1, seq2]
    refine SeqP.take (v := ?_) rfl (fun _ _ _ h => h) (Or.inl ⟨by rfl, ?_⟩) ?_
    rotate_left 1
    · intro wq hSw; rw [hS.out] at hSw; (try dsimp only at hSw); go_simp; try with_reducible rfl
    try simp only [Act.put, seq0, seq1, seq2]
    refine SeqP.take (v := ?_) rfl (fun _ _ _ h => h) (Or.inl ⟨by rfl, ?_⟩) ?_
    rotate_left 1
    · intro wq hSw; rw [hS.out] at hSw; (try dsimp only at hSw); go_simp; try with_reducible rfl
    try simp only [Act.put, seq0, seq1, seq2]
    refine SeqP.take (v := ?_) rfl (fun _ _ _ h => h) (Or.inl ⟨by rfl, ?_⟩) ?_
    rotate_left 1
    · intro wq hSw; rw [hS.out] at hSw; (try dsimp only at hSw); go_simp; try with_reducible rfl
    try simp only [Act.put, seq0, seq1, seq2]
    refine SeqP.call rfl (by rfl) (fun Kq hKq => ?_)
    go_simp
    go_at_call 17
    with_reducible refine (HV.out _ _ _ _ _ _ _ _ _ hm hr hv_16 gv_16 hT_16 hG_16).mono ?_
    rintro e W132 ⟨rfl, hb132⟩
    replace Rtwo_16 := Rtwo_16.below hb132
    replace hT_16 := hT_16.below hb132
    replace hG_16 := hG_16.below hb132
    replace hv_16 := hv_16.below hb132
    replace gv_16 := gv_16.below hb132
    replace htwo_16 := htwo_16.below hb132
    replace gtwo_16 := gtwo_16.below hb132
    replace qtwo0_16 := cbl hb132 qtwo0_16
    replace qtwo1_16 := cbl hb132 qtwo1_16
    replace qtwo2_16 := cbl hb132 qtwo2_16
    replace hlo_16 := hlo_16.below hb132
    replace hhi_16 := hhi_16.below hb132
    replace hsv_16 := hsv_16.below hb132
    replace gsv_16 := gsv_16.below hb132
    replace hm := hm.below hb132
    replace hr := hr.below hb132
    replace hmq := hmq.below hb132
    replace gmq := gmq.below hb132
    replace HBT := Below.cons HBT hb132
    replace HSq := Lib.hid (hSb.out _ _ hb132 HSq.out)
    clear hb132
    refine hKq.out _ _ HSq.out (fun hSq => ?_)
    clear hSq hKq Kq
    try simp only [Act.put, seq0, seq1, seq2]
    refine SeqP.take (v := ?_) rfl (fun _ _ _ h => h) (Or.inl ⟨by rfl, ?_⟩) ?_
    rotate_left 1
    · intro wq hSw; rw [hS.out] at hSw; (try dsimp only at hSw); go_simp; try with_reducible rfl
    try simp only [Act.put, seq0, seq1, seq2]
    refine SeqP.take (v := ?_) rfl (fun _ _ _ h => h) (Or.inl ⟨by rfl, ?_⟩) ?_
    rotate_left 1
    · intro wq hSw; rw [hS.out] at hSw; (try dsimp only at hSw); go_simp; try with_reducible rfl
    try simp only [Act.put, seq0, seq1, seq2]
    refine SeqP.done ?_
    clear hSb
    clear HSq
    go_wp2_with (fail)
    go_ret
    exact ⟨rfl, HBT⟩
end Go.Proofs.YtopigejgadnkaaaGreatDoor

namespace Go.Proofs.YtopigejgadnkaaaGreatDoor
open Go.RowKit Go.ChangeShapes Go.WideShapes Go.ChangeAt

theorem topFloors_lifted (os : Os) (started : os.Started) (H : Type) (enc : TypeId × Value → H) :
    ReturnsInHanded {} Tryz.checked os 3 .any (fun w args => (Rows.topFloorsSpec.pre enc Tryz.prog Tryz.f3 [] false w args ∧ laidMetH Tryz.prog [("math/bits.deBruijn32tab", Rows.laid_math_bits_deBruijn32tab), ("ziggurat/ntt.fields", Rows.laid_ziggurat_ntt_fields)] w) ∧ sizedMet enc Tryz.prog Tryz.f3 (OpenSpec.ofChange Rows.topFloorsSpec) false w args)
      (Rows.topFloorsSpec.post enc Tryz.prog Tryz.f3 false true false false) := by
  refine returnsInHanded_of_change_and (C := Tryz.checked) (X := fun w _ => laidMetH Tryz.prog [("math/bits.deBruijn32tab", Rows.laid_math_bits_deBruijn32tab), ("ziggurat/ntt.fields", Rows.laid_ziggurat_ntt_fields)] w) (fun _ _ _ hh h => h.of_heap hh) row_own started (by kernel_rfl) Tryz.func3
    (ChangeSpec.witness_shaped (enc := enc) (C := Tryz.checked) (os := os) (X := fun w _ => laidMetH Tryz.prog [("math/bits.deBruijn32tab", Rows.laid_math_bits_deBruijn32tab), ("ziggurat/ntt.fields", Rows.laid_ziggurat_ntt_fields)] w) false (World.doorLaid Tryz.prog 400 os) #[.agg #[.bool false, .slice none 0 0, .slice none 0 0], .int .u8 0] 8 rfl (World.shaped_of_RefB (by kernel_rfl) (by kernel_rfl)) (by kernel_rfl) (by kernel_rfl) (by kernel_rfl) (door_met2 os _)) ?_
  intro W base args ds gs before hval0 hW _ _ hL _
  have hval : ∀ (j : Nat) t v, Tryz.f3.params[j]? = some t → args[j]? = some v → Value.okWide Tryz.prog W .any base t v := hval0
  have hW' := hW
  obtain ⟨p, q, hA0, hV, rfl, hfz, hnd⟩ := hW
  have hA : DataW.TrodAll enc Tryz.prog W 0 (fun _ => true) true Tryz.f3.params.toList args.toList ds p := hA0
  rw [Tryz.params3] at hA hval
  obtain ⟨v0, vs0, d0, ds0, p0, q0, hargs, rfl, rfl, h0, r0⟩ := trodAll_cons hA
  obtain ⟨v1, vs1, d1, ds1, p1, q1, rfl, rfl, rfl, h1, r1⟩ := trodAll_cons r0
  obtain ⟨rfl, rfl, rfl⟩ := trodAll_nil r1
  obtain rfl : args = #[v0, v1] := by cases args; simp_all
  obtain ⟨rfl, rfl⟩ := trodVars_none hV
  have hT := tab_of_laid2 hL
  have hG := flds_of_laid2 hL
  have k0 := h0
  have lt0 : ∀ x ∈ p0, x.block < W.heap.size := by obtain ⟨m, hm⟩ := k0; exact DataW.trod_lt m _ _ _ hm
  obtain ⟨b0, A0, c0, l0, B0, e0, m0, rfl, i0, j0⟩ := open_ra (hval 0 26 v0 rfl rfl) h0
  obtain ⟨z1, rfl, rfl, rfl, w1⟩ := open_int Tryz.underlying5 (hval 1 5 v1 rfl rfl) h1
  have bz1 := bounds_u8 w1
  obtain ⟨n1, rfl⟩ := Int.eq_ofNat_of_zero_le bz1.1
  have bn1 : n1 < 256 := by omega
  clear hA0 hval0 hval hL
  have hcall := topFloors_c b0 n1 A0 c0 l0 B0 e0 m0 W hT hG i0.1 i0.2.1 i0.2.2.1 i0.2.2.2.1 i0.2.2.2.2 j0.1 j0.2.1 j0.2.2.1 j0.2.2.2.1 j0.2.2.2.2 bn1
  refine hcall.mono fun e W' ⟨he, bel⟩ => ?_
  subst he
  exact ⟨_, rfl, _, _, _, [], _, [], hW', trodAll_mk1 (shut_bool Tryz.underlying4 _), (trodAll_cons_mk (Below.trod row_out (by kernel_rfl) (of_decide_eq_true (by kernel_rfl)) k0 bel lt0) (trodAll_cons_mk (shut_int Tryz.underlying5 w1) trodAll_mk0)), rfl, bel.frame _, fun h => by cases h⟩
theorem topFloors_holds : Rows.TopFloorsSaid :=
  OpenClaim.holds_of_wide 3 Tryz.f3 rfl rfl rfl rfl rfl rfl rfl ⟨rfl, rfl, rfl, rfl, rfl⟩ rfl rfl rfl rfl rfl (by kernel_rfl) Tryz.func3 (by kernel_rfl)
    (of_decide_eq_true (by kernel_rfl)) (by unfold Func.isWrapper; first | (rw [if_pos (by decide +kernel)]; kernel_rfl) | (rw [if_neg (by decide +kernel)]; exact ⟨rfl, rfl⟩))
    (fun os started H enc _ => topFloors_lifted os started H enc)

theorem topFloors_card : Rows.TopFloorsCardSaid :=
  Claim7.holds_tied_plain_at .later [] [.data, .data] true (true, "1b099f4291bf57a8abed1a666a9375baa10b5959ea2cd4e08112e6e680d095a9") false
    topFloors_holds (fun _ h => by cases h) (by kernel_rfl) (fun _ h => by cases h) topFloors_row_tie rfl ⟨rfl, rfl⟩ (by kernel_rfl) rfl
    (fun f fn hf hfn => by
      obtain rfl : f = 3 := Option.some.inj ((show Tryz.prog.funcNamed "ziggurat/ziggurattop.TopFloors" = some 3 by kernel_rfl).symm.trans hf) |>.symm
      obtain rfl : fn = Tryz.f3 := (Option.some.inj (Tryz.func3.symm.trans hfn)).symm
      exact ⟨by kernel_rfl, fun j t ht => by
        rw [Tryz.params3] at ht
        have hm : t ∈ [26, 5] := by simpa using Array.mem_of_getElem? ht
        have hall : ([26, 5].all fun u => !Tryz.prog.wantsStandIn u) = true := by kernel_rfl
        exact (show Tryz.prog.wantsStandIn t = false by simpa using List.all_eq_true.1 hall t hm)⟩)
    (by kernel_rfl)
#print axioms topFloors_card
end Go.Proofs.YtopigejgadnkaaaGreatDoor
