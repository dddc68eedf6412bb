/- The document's rationals, walked: Made; the laws' own small numbers. -/
import Derived.Test.YtacjfpibilolnaaGreatDoorSC42
import Derived.Test.YtacjfpibilolnaaGreatDoorSC01
set_option maxRecDepth 100000
set_option maxHeartbeats 4000000
set_option linter.unusedVariables false
set_option linter.unusedSimpArgs false
namespace Go.Proofs.YtacjfpibilolnaaGreatDoor
open Go.RowKit Go.Shelf
attribute [local go_sem] max2_i min2_i max_two min_two

/-- The rational that is made of any sign and two naturals. -/
def ratM (s : Bool) (n d : Nat) : Rat := Rat.divInt (ival s n) ((if d = 0 then 1 else d : Nat) : Int)
theorem r9made_z (sa : Bool) (A : Option Addr) (c : Nat) (l : List Nat) (B : Option Addr) (d : Nat) (k : List Nat) (m : Nat) (w : World) (hl : Rd w A l) (Ll : Lim l) (Ql : l.length ≤ maxLen) (Cl : l.length ≤ c) (Zl : A = none → c = 0) (hk : Rd w B k) (Lk : Lim k) (Qk : k.length ≤ maxLen) (Ck : k.length ≤ d) (Zk : B = none → d = 0) (hm : m ≤ 65536) (h0 : val (k.take m) = 0) :
    Calls Tryz.prog 13 #[.agg #[.bool sa, .slice A l.length c, .slice B k.length d], .int .i64 (m : Nat)] w (RetR w (ratM sa (val (l.take m)) (val (k.take m)))) := by
  replace Zl := Lib.hid Zl
  replace Zk := Lib.hid Zk
  have Bl : nl (val (l.take m)) ≤ 65536 := Nat.le_trans (made_nl l Ll m) hm
  have Bk : nl (val (k.take m)) ≤ 65536 := Nat.le_trans (made_nl k Lk m) hm
  unfold ratM
  rw [if_pos h0]
  obtain ⟨u, Eu⟩ : ∃ z, z = val (l.take m) := ⟨_, rfl⟩
  obtain ⟨v, Ev⟩ : ∃ z, z = val (k.take m) := ⟨_, rfl⟩
  rw [← Eu] at Bl
  rw [← Ev] at Bk h0
  rw [← Eu]
  have hd := fun (W : World) (h : Rd W B k) => made_n_c B d m k W h Lk Qk Ck Zk.out (by omega)
  rw [← Ev] at hd
  have hn := fun (W : World) (h : Rd W A l) => zmade_c sa A c m l W h Ll Ql Cl Zl.out (by omega)
  rw [← Eu] at hn
  have t1 : ((nl v : Int) == 0) = true := ieqT (by rw [h0, nl_zero]; rfl)
  have t2 : (nl v == 0) = true := by rw [h0, nl_zero]; rfl
  obtain ⟨y, Ey⟩ : ∃ z : Rat, z = Rat.divInt (ival sa u) ((1 : Nat) : Int) := ⟨_, rfl⟩
  rw [← Ey]
  replace hd := Lib.hid hd
  replace hn := Lib.hid hn
  replace h0 := Lib.hid h0
  replace Eu := Lib.hid Eu
  replace Ev := Lib.hid Ev
  replace Ey := Lib.hid Ey
  obtain ⟨hb1, Ra, Rr⟩ := bx2 w #[.bool sa, .slice A l.length c, .slice B k.length d] 26 #[.bool false, .slice none 0 0, .slice none 0 0] 26
  replace hl := hl.below hb1
  replace hk := hk.below hb1
  have HBT := hb1
  clear hb1
  have qa0 := Ra.c (i := 0) rfl
  have qa1 := Ra.c (i := 1) rfl
  have qa2 := Ra.c (i := 2) rfl
  have qr0 := Rr.c (i := 0) rfl
  have qr1 := Rr.c (i := 1) rfl
  have qr2 := Rr.c (i := 2) rfl
  go_enter Tryz.func13, Tryz.ntmps13
  go_wp2_with (fail)
  obtain ⟨dn, Edn⟩ : ∃ zq : Nat, zq = v := ⟨_, rfl⟩
  refine (Calls.mono (R := RetN ((w.alloc (.cells #[.bool sa, .slice A l.length c, .slice B k.length d] 26)).alloc (.cells #[.bool false, .slice none 0 0, .slice none 0 0] 26)) dn) (by rw [Edn]; with_reducible exact (hd.out _ hk)) ?_)
  replace Edn := Lib.hid Edn
  rintro e W2 ⟨Xdn, cdn, rfl, hdn, hb2⟩
  replace hl := hl.below hb2
  replace hk := hk.below hb2
  replace Ra := Ra.below hb2
  replace qa0 := cbl hb2 qa0
  replace qa1 := cbl hb2 qa1
  replace qa2 := cbl hb2 qa2
  replace Rr := Rr.below hb2
  replace qr0 := cbl hb2 qr0
  replace qr1 := cbl hb2 qr1
  replace qr2 := cbl hb2 qr2
  replace HBT := Below.cons HBT hb2
  clear hb2
  have hzd : dn = v := Edn.out
  subst hzd
  obtain ⟨hb3, Rl⟩ := bx1 W2 #[.int .u32 1] 58
  replace hl := hl.below hb3
  replace hk := hk.below hb3
  replace Ra := Ra.below hb3
  replace qa0 := cbl hb3 qa0
  replace qa1 := cbl hb3 qa1
  replace qa2 := cbl hb3 qa2
  replace Rr := Rr.below hb3
  replace qr0 := cbl hb3 qr0
  replace qr1 := cbl hb3 qr1
  replace qr2 := cbl hb3 qr2
  replace hdn := hdn.below hb3
  replace HBT := Below.cons HBT hb3
  clear hb3
  have ql0 := Rl.c (i := 0) rfl
  have hone := nat_one _ _ Rl.at_
  go_wp2_with (fail)
  obtain ⟨nu, Enu⟩ : ∃ zq : Int, zq = ival sa u := ⟨_, rfl⟩
  have Nnu : nl (mg nu) ≤ 65536 := by rw [Enu, mg_ival]; exact Bl
  refine (Calls.mono (R := RetI (W2.alloc (.cells #[.int .u32 1] 58)) nu) (by rw [Enu]; with_reducible exact (hn.out _ hl)) ?_)
  replace Enu := Lib.hid Enu
  rintro e W4 ⟨Xnu, cnu, rfl, hnu, hb4⟩
  replace hl := hl.below hb4
  replace hk := hk.below hb4
  replace Ra := Ra.below hb4
  replace qa0 := cbl hb4 qa0
  replace qa1 := cbl hb4 qa1
  replace qa2 := cbl hb4 qa2
  replace Rr := Rr.below hb4
  replace qr0 := cbl hb4 qr0
  replace qr1 := cbl hb4 qr1
  replace qr2 := cbl hb4 qr2
  replace hdn := hdn.below hb4
  replace Rl := Rl.below hb4
  replace ql0 := cbl hb4 ql0
  replace hone := hone.below hb4
  replace HBT := Below.cons HBT hb4
  clear hb4
  go_wp2_with (fail)
  have CN := r9nat_c _ _ 1 _ hone
  rw [nl_one] at CN
  replace CN := Lib.hid CN
  obtain ⟨dv, Edv⟩ : ∃ zq : Int, zq = ((1 : Nat) : Int) := ⟨_, rfl⟩
  have Ndv : nl (mg dv) ≤ 65536 := by rw [Edv, mg_nat, nl_one]; omega
  have pdv : 0 < dv := by rw [Edv]; decide
  refine (Calls.mono (R := RetI W4 dv) (by rw [Edv]; with_reducible exact CN.out) ?_)
  replace Edv := Lib.hid Edv
  rintro e W5 ⟨Xdv, cdv, rfl, hdv, hb5⟩
  replace hl := hl.below hb5
  replace hk := hk.below hb5
  replace Ra := Ra.below hb5
  replace qa0 := cbl hb5 qa0
  replace qa1 := cbl hb5 qa1
  replace qa2 := cbl hb5 qa2
  replace Rr := Rr.below hb5
  replace qr0 := cbl hb5 qr0
  replace qr1 := cbl hb5 qr1
  replace qr2 := cbl hb5 qr2
  replace hdn := hdn.below hb5
  replace Rl := Rl.below hb5
  replace ql0 := cbl hb5 ql0
  replace hone := hone.below hb5
  replace hnu := hnu.below hb5
  replace HBT := Below.cons HBT hb5
  clear hb5
  go_wp2_with (fail)
  obtain ⟨q, Eq⟩ : ∃ zq : Rat, zq = Rat.divInt nu dv := ⟨_, rfl⟩
  refine (Calls.mono (R := RetR W5 q) (by rw [Eq]; with_reducible exact (r9over_c Xnu cnu nu Xdv cdv dv _ hnu hdv (by omega) (by omega) pdv)) ?_)
  replace Eq := Lib.hid Eq
  rintro e W6 ⟨Xq, cq, Yq, dq, rfl, hq, gq, hb6⟩
  replace hl := hl.below hb6
  replace hk := hk.below hb6
  replace Ra := Ra.below hb6
  replace qa0 := cbl hb6 qa0
  replace qa1 := cbl hb6 qa1
  replace qa2 := cbl hb6 qa2
  replace Rr := Rr.below hb6
  replace qr0 := cbl hb6 qr0
  replace qr1 := cbl hb6 qr1
  replace qr2 := cbl hb6 qr2
  replace hdn := hdn.below hb6
  replace Rl := Rl.below hb6
  replace ql0 := cbl hb6 ql0
  replace hone := hone.below hb6
  replace hnu := hnu.below hb6
  replace hdv := hdv.below hb6
  replace HBT := Below.cons HBT hb6
  clear hb6
  have fzr0 := Rr.f (i := 0)
  have fzr1 := Rr.f (i := 1)
  have fzr2 := Rr.f (i := 2)
  go_wp2_with (fail)
  have hzq : q = y := by rw [Eq.out, Enu.out, Edv.out, Ey.out]
  subst hzq
  have RS := Rr.store3 (.bool (sg q.num)) (.slice Xq (nl (mg q.num)) cq) (.slice Yq (nl q.den) dq)
  have e0 := RS.c (i := 0) rfl
  have e1 := RS.c (i := 1) rfl
  have e2 := RS.c (i := 2) rfl
  refine bodyPost_ret (v := .agg #[.bool (sg q.num), .slice Xq (nl (mg q.num)) cq, .slice Yq (nl q.den) dq]) (by simp [results, Tryz.results13, go_sem, e0, e1, e2]) rfl ?_
  exact ⟨Xq, cq, Yq, dq, rfl, (Rr.keep3 (nuB rfl) hq), (Rr.keep3 (nuB rfl) gq), (Below.store3 HBT (by first | exact Nat.le_refl _ | omega))⟩
theorem r9made_n (sa : Bool) (A : Option Addr) (c : Nat) (l : List Nat) (B : Option Addr) (d : Nat) (k : List Nat) (m : Nat) (w : World) (hl : Rd w A l) (Ll : Lim l) (Ql : l.length ≤ maxLen) (Cl : l.length ≤ c) (Zl : A = none → c = 0) (hk : Rd w B k) (Lk : Lim k) (Qk : k.length ≤ maxLen) (Ck : k.length ≤ d) (Zk : B = none → d = 0) (hm : m ≤ 65536) (h0 : val (k.take m) ≠ 0) :
    Calls Tryz.prog 13 #[.agg #[.bool sa, .slice A l.length c, .slice B k.length d], .int .i64 (m : Nat)] w (RetR w (ratM sa (val (l.take m)) (val (k.take m)))) := by
  replace Zl := Lib.hid Zl
  replace Zk := Lib.hid Zk
  have Bl : nl (val (l.take m)) ≤ 65536 := Nat.le_trans (made_nl l Ll m) hm
  have Bk : nl (val (k.take m)) ≤ 65536 := Nat.le_trans (made_nl k Lk m) hm
  unfold ratM
  rw [if_neg h0]
  obtain ⟨u, Eu⟩ : ∃ z, z = val (l.take m) := ⟨_, rfl⟩
  obtain ⟨v, Ev⟩ : ∃ z, z = val (k.take m) := ⟨_, rfl⟩
  rw [← Eu] at Bl
  rw [← Ev] at Bk h0
  rw [← Eu, ← Ev]
  have hd := fun (W : World) (h : Rd W B k) => made_n_c B d m k W h Lk Qk Ck Zk.out (by omega)
  rw [← Ev] at hd
  have hn := fun (W : World) (h : Rd W A l) => zmade_c sa A c m l W h Ll Ql Cl Zl.out (by omega)
  rw [← Eu] at hn
  have pv := nl_pos.2 h0
  have t1 : ((nl v : Int) == 0) = false := ieqF (by omega)
  have t2 : (nl v == 0) = false := by simp; omega
  have p0 : (0 : Int) < (v : Int) := by omega
  obtain ⟨y, Ey⟩ : ∃ z : Rat, z = Rat.divInt (ival sa u) ((v : Nat) : Int) := ⟨_, rfl⟩
  rw [← Ey]
  replace hd := Lib.hid hd
  replace hn := Lib.hid hn
  replace h0 := Lib.hid h0
  replace Eu := Lib.hid Eu
  replace Ev := Lib.hid Ev
  replace Ey := Lib.hid Ey
  obtain ⟨hb1, Ra, Rr⟩ := bx2 w #[.bool sa, .slice A l.length c, .slice B k.length d] 26 #[.bool false, .slice none 0 0, .slice none 0 0] 26
  replace hl := hl.below hb1
  replace hk := hk.below hb1
  have HBT := hb1
  clear hb1
  have qa0 := Ra.c (i := 0) rfl
  have qa1 := Ra.c (i := 1) rfl
  have qa2 := Ra.c (i := 2) rfl
  have qr0 := Rr.c (i := 0) rfl
  have qr1 := Rr.c (i := 1) rfl
  have qr2 := Rr.c (i := 2) rfl
  go_enter Tryz.func13, Tryz.ntmps13
  go_wp2_with (fail)
  obtain ⟨dn, Edn⟩ : ∃ zq : Nat, zq = v := ⟨_, rfl⟩
  refine (Calls.mono (R := RetN ((w.alloc (.cells #[.bool sa, .slice A l.length c, .slice B k.length d] 26)).alloc (.cells #[.bool false, .slice none 0 0, .slice none 0 0] 26)) dn) (by rw [Edn]; with_reducible exact (hd.out _ hk)) ?_)
  replace Edn := Lib.hid Edn
  rintro e W2 ⟨Xdn, cdn, rfl, hdn, hb2⟩
  replace hl := hl.below hb2
  replace hk := hk.below hb2
  replace Ra := Ra.below hb2
  replace qa0 := cbl hb2 qa0
  replace qa1 := cbl hb2 qa1
  replace qa2 := cbl hb2 qa2
  replace Rr := Rr.below hb2
  replace qr0 := cbl hb2 qr0
  replace qr1 := cbl hb2 qr1
  replace qr2 := cbl hb2 qr2
  replace HBT := Below.cons HBT hb2
  clear hb2
  have hzd : dn = v := Edn.out
  subst hzd
  go_wp2_with (fail)
  obtain ⟨nu, Enu⟩ : ∃ zq : Int, zq = ival sa u := ⟨_, rfl⟩
  have Nnu : nl (mg nu) ≤ 65536 := by rw [Enu, mg_ival]; exact Bl
  refine (Calls.mono (R := RetI W2 nu) (by rw [Enu]; with_reducible exact (hn.out _ hl)) ?_)
  replace Enu := Lib.hid Enu
  rintro e W3 ⟨Xnu, cnu, rfl, hnu, hb3⟩
  replace hl := hl.below hb3
  replace hk := hk.below hb3
  replace Ra := Ra.below hb3
  replace qa0 := cbl hb3 qa0
  replace qa1 := cbl hb3 qa1
  replace qa2 := cbl hb3 qa2
  replace Rr := Rr.below hb3
  replace qr0 := cbl hb3 qr0
  replace qr1 := cbl hb3 qr1
  replace qr2 := cbl hb3 qr2
  replace hdn := hdn.below hb3
  replace HBT := Below.cons HBT hb3
  clear hb3
  go_wp2_with (fail)
  obtain ⟨dv, Edv⟩ : ∃ zq : Int, zq = (dn : Int) := ⟨_, rfl⟩
  have Ndv : nl (mg dv) ≤ 65536 := by rw [Edv, mg_nat]; exact Bk
  have pdv : 0 < dv := by rw [Edv]; exact p0
  refine (Calls.mono (R := RetI W3 dv) (by rw [Edv]; with_reducible exact (r9nat_c _ _ dn _ hdn)) ?_)
  replace Edv := Lib.hid Edv
  rintro e W4 ⟨Xdv, cdv, rfl, hdv, hb4⟩
  replace hl := hl.below hb4
  replace hk := hk.below hb4
  replace Ra := Ra.below hb4
  replace qa0 := cbl hb4 qa0
  replace qa1 := cbl hb4 qa1
  replace qa2 := cbl hb4 qa2
  replace Rr := Rr.below hb4
  replace qr0 := cbl hb4 qr0
  replace qr1 := cbl hb4 qr1
  replace qr2 := cbl hb4 qr2
  replace hdn := hdn.below hb4
  replace hnu := hnu.below hb4
  replace HBT := Below.cons HBT hb4
  clear hb4
  go_wp2_with (fail)
  obtain ⟨q, Eq⟩ : ∃ zq : Rat, zq = Rat.divInt nu dv := ⟨_, rfl⟩
  refine (Calls.mono (R := RetR W4 q) (by rw [Eq]; with_reducible exact (r9over_c Xnu cnu nu Xdv cdv dv _ hnu hdv (by omega) (by omega) pdv)) ?_)
  replace Eq := Lib.hid Eq
  rintro e W5 ⟨Xq, cq, Yq, dq, rfl, hq, gq, hb5⟩
  replace hl := hl.below hb5
  replace hk := hk.below hb5
  replace Ra := Ra.below hb5
  replace qa0 := cbl hb5 qa0
  replace qa1 := cbl hb5 qa1
  replace qa2 := cbl hb5 qa2
  replace Rr := Rr.below hb5
  replace qr0 := cbl hb5 qr0
  replace qr1 := cbl hb5 qr1
  replace qr2 := cbl hb5 qr2
  replace hdn := hdn.below hb5
  replace hnu := hnu.below hb5
  replace hdv := hdv.below hb5
  replace HBT := Below.cons HBT hb5
  clear hb5
  have fzr0 := Rr.f (i := 0)
  have fzr1 := Rr.f (i := 1)
  have fzr2 := Rr.f (i := 2)
  go_wp2_with (fail)
  have hzq : q = y := by rw [Eq.out, Enu.out, Edv.out, Ey.out]
  subst hzq
  have RS := Rr.store3 (.bool (sg q.num)) (.slice Xq (nl (mg q.num)) cq) (.slice Yq (nl q.den) dq)
  have e0 := RS.c (i := 0) rfl
  have e1 := RS.c (i := 1) rfl
  have e2 := RS.c (i := 2) rfl
  refine bodyPost_ret (v := .agg #[.bool (sg q.num), .slice Xq (nl (mg q.num)) cq, .slice Yq (nl q.den) dq]) (by simp [results, Tryz.results13, go_sem, e0, e1, e2]) rfl ?_
  exact ⟨Xq, cq, Yq, dq, rfl, (Rr.keep3 (nuB rfl) hq), (Rr.keep3 (nuB rfl) gq), (Below.store3 HBT (by first | exact Nat.le_refl _ | omega))⟩
theorem r9made_c (sa : Bool) (A : Option Addr) (c : Nat) (l : List Nat) (B : Option Addr) (d : Nat) (k : List Nat) (m : Nat) (w : World) (hl : Rd w A l) (Ll : Lim l) (Ql : l.length ≤ maxLen) (Cl : l.length ≤ c) (Zl : A = none → c = 0) (hk : Rd w B k) (Lk : Lim k) (Qk : k.length ≤ maxLen) (Ck : k.length ≤ d) (Zk : B = none → d = 0) (hm : m ≤ 65536) :
    Calls Tryz.prog 13 #[.agg #[.bool sa, .slice A l.length c, .slice B k.length d], .int .i64 (m : Nat)] w (RetR w (ratM sa (val (l.take m)) (val (k.take m)))) := by
  by_cases h0 : val (k.take m) = 0
  · exact r9made_z sa A c l B d k m w hl Ll Ql Cl Zl hk Lk Qk Ck Zk hm h0
  · exact r9made_n sa A c l B d k m w hl Ll Ql Cl Zl hk Lk Qk Ck Zk hm h0
/-- A whole number and a power, as they are given. -/
def RetDr (w : World) (z x : Int) (e : Ending) (w' : World) : Prop := ∃ A c, e = .returned (.agg #[.bool (sg z), .slice A (nl (mg z)) c, .int .i64 x]) ∧ NatV w' A c (mg z) ∧ Below w.heap.size w w'
theorem retDr_nz {w w' : World} {z x : Int} {e : Ending} (h : RetDr w z x e w') (hn : Nz z x) : RetD w (dval z x) e w' := by
  obtain ⟨A, c, h1, h2, h3⟩ := h
  obtain ⟨k1, k2⟩ := form_of_nz hn
  exact ⟨A, c, by rw [k1, k2]; exact h1, by rw [k1]; exact h2, h3⟩
theorem ld_c (z x : Int) (w : World) (h0 : -9223372036854775808 ≤ z) (h1 : z < 9223372036854775808) :
    Calls Tryz.prog 58 #[.int .i64 z, .int .i64 x] w (RetDr w z x) := by
  obtain ⟨hb1, Rr⟩ := bx1 w #[.bool false, .slice none 0 0, .int .i64 0] 28
  have HBT := hb1
  clear hb1
  have qr0 := Rr.c (i := 0) rfl
  have qr1 := Rr.c (i := 1) rfl
  have qr2 := Rr.c (i := 2) rfl
  go_enter Tryz.func58, Tryz.ntmps58
  go_wp2_with (fail)
  obtain ⟨v, Ev⟩ : ∃ zq : Int, zq = z := ⟨_, rfl⟩
  refine (Calls.mono (R := RetI (w.alloc (.cells #[.bool false, .slice none 0 0, .int .i64 0] 28)) v) (by rw [Ev]; with_reducible exact (zof_c z _ h0 h1)) ?_)
  replace Ev := Lib.hid Ev
  rintro e W2 ⟨Xv, cv, rfl, hv, hb2⟩
  replace Rr := Rr.below hb2
  replace qr0 := cbl hb2 qr0
  replace qr1 := cbl hb2 qr1
  replace qr2 := cbl hb2 qr2
  replace HBT := Below.cons HBT hb2
  clear hb2
  have fzr0 := Rr.f (i := 0)
  have fzr1 := Rr.f (i := 1)
  have fzr2 := Rr.f (i := 2)
  go_wp2_with (fail)
  have hzv : v = z := by exact Ev.out
  subst hzv
  have RS := Rr.store3 (.bool (sg v)) (.slice Xv (nl (mg v)) cv) (.int .i64 x)
  have e0 := RS.c (i := 0) rfl
  have e1 := RS.c (i := 1) rfl
  have e2 := RS.c (i := 2) rfl
  refine bodyPost_ret (v := .agg #[.bool (sg v), .slice Xv (nl (mg v)) cv, .int .i64 x]) (by simp [results, Tryz.results58, go_sem, e0, e1, e2]) rfl ?_
  exact ⟨Xv, cv, rfl, (Rr.keep3 (nuB rfl) hv), (Below.store3 HBT (by first | exact Nat.le_refl _ | omega))⟩
theorem lq_c (n m : Int) (w : World) (n0 : -1000000 ≤ n) (n1 : n ≤ 1000000) (m0 : 0 < m) (m1 : m ≤ 1000000) :
    Calls Tryz.prog 57 #[.int .i64 n, .int .i64 m] w (RetR w (Rat.divInt n m)) := by
  obtain ⟨y, Ey⟩ : ∃ z : Rat, z = Rat.divInt n m := ⟨_, rfl⟩
  rw [← Ey]
  replace Ey := Lib.hid Ey
  obtain ⟨hb1, Rr⟩ := bx1 w #[.bool false, .slice none 0 0, .slice none 0 0] 26
  have HBT := hb1
  clear hb1
  have qr0 := Rr.c (i := 0) rfl
  have qr1 := Rr.c (i := 1) rfl
  have qr2 := Rr.c (i := 2) rfl
  go_enter Tryz.func57, Tryz.ntmps57
  go_wp2_with (fail)
  obtain ⟨u, Eu⟩ : ∃ zq : Int, zq = n := ⟨_, rfl⟩
  have Nu : nl (mg u) ≤ 1 := by rw [Eu]; exact nl_le.2 (by unfold mg; omega)
  refine (Calls.mono (R := RetI (w.alloc (.cells #[.bool false, .slice none 0 0, .slice none 0 0] 26)) u) (by rw [Eu]; with_reducible exact (zof_c n _ (by omega) (by omega))) ?_)
  replace Eu := Lib.hid Eu
  rintro e W2 ⟨Xu, cu, rfl, hu, hb2⟩
  replace Rr := Rr.below hb2
  replace qr0 := cbl hb2 qr0
  replace qr1 := cbl hb2 qr1
  replace qr2 := cbl hb2 qr2
  replace HBT := Below.cons HBT hb2
  clear hb2
  go_wp2_with (fail)
  obtain ⟨v, Ev⟩ : ∃ zq : Int, zq = m := ⟨_, rfl⟩
  have Nv : nl (mg v) ≤ 1 := by rw [Ev]; exact nl_le.2 (by unfold mg; omega)
  have pv : 0 < v := by omega
  refine (Calls.mono (R := RetI W2 v) (by rw [Ev]; with_reducible exact (zof_c m _ (by omega) (by omega))) ?_)
  replace Ev := Lib.hid Ev
  rintro e W3 ⟨Xv, cv, rfl, hv, hb3⟩
  replace Rr := Rr.below hb3
  replace qr0 := cbl hb3 qr0
  replace qr1 := cbl hb3 qr1
  replace qr2 := cbl hb3 qr2
  replace hu := hu.below hb3
  replace HBT := Below.cons HBT hb3
  clear hb3
  go_wp2_with (fail)
  obtain ⟨q, Eq⟩ : ∃ zq : Rat, zq = Rat.divInt u v := ⟨_, rfl⟩
  have CT4 := (r9make_c Xu cu u Xv cv v _ hu hv (by omega) (by omega) pv)
  rw [← Eq] at CT4
  replace Eq := Lib.hid Eq
  replace CT4 := Lib.hid CT4
  refine (Calls.mono CT4.out ?_)
  clear CT4
  rintro e W4 ⟨Xq, cq, Yq, dq, rfl, hq, gq, hb4⟩
  replace Rr := Rr.below hb4
  replace qr0 := cbl hb4 qr0
  replace qr1 := cbl hb4 qr1
  replace qr2 := cbl hb4 qr2
  replace hu := hu.below hb4
  replace hv := hv.below hb4
  replace HBT := Below.cons HBT hb4
  clear hb4
  obtain ⟨hb5, Rq⟩ := bx1 W4 #[.bool (sg q.num), .slice Xq (nl (mg q.num)) cq, .slice Yq (nl q.den) dq] 26
  replace Rr := Rr.below hb5
  replace qr0 := cbl hb5 qr0
  replace qr1 := cbl hb5 qr1
  replace qr2 := cbl hb5 qr2
  replace hu := hu.below hb5
  replace hv := hv.below hb5
  replace hq := hq.below hb5
  replace gq := gq.below hb5
  replace HBT := Below.cons HBT hb5
  clear hb5
  have qq0 := Rq.c (i := 0) rfl
  have qq1 := Rq.c (i := 1) rfl
  have qq2 := Rq.c (i := 2) rfl
  have fzr0 := Rr.f (i := 0)
  have fzr1 := Rr.f (i := 1)
  have fzr2 := Rr.f (i := 2)
  go_wp2_with (fail)
  have hzq : q = y := by rw [Eq.out, Eu.out, Ev.out, Ey.out]
  subst hzq
  have RS := Rr.store3 (.bool (sg q.num)) (.slice Xq (nl (mg q.num)) cq) (.slice Yq (nl q.den) dq)
  have e0 := RS.c (i := 0) rfl
  have e1 := RS.c (i := 1) rfl
  have e2 := RS.c (i := 2) rfl
  refine bodyPost_ret (v := .agg #[.bool (sg q.num), .slice Xq (nl (mg q.num)) cq, .slice Yq (nl q.den) dq]) (by simp [results, Tryz.results57, go_sem, e0, e1, e2]) rfl ?_
  exact ⟨Xq, cq, Yq, dq, rfl, (Rr.keep3 (nuB rfl) hq), (Rr.keep3 (nuB rfl) gq), (Below.store3 HBT (by first | exact Nat.le_refl _ | omega))⟩
end Go.Proofs.YtacjfpibilolnaaGreatDoor

/- Rounding in five directions: what the laws say of it. No Go in it. -/
set_option linter.unusedVariables false
set_option linter.unusedSimpArgs false
namespace Go.Proofs.YtacjfpibilolnaaGreatDoor

theorem rnd_4 (x : Rat) : rnd 4 x = if x - x.floor < x.ceil - x ∨ x - x.floor = x.ceil - x ∧ x.floor % 2 = 0 then x.floor else x.ceil := by
  unfold rnd; simp
end Go.Proofs.YtacjfpibilolnaaGreatDoor
