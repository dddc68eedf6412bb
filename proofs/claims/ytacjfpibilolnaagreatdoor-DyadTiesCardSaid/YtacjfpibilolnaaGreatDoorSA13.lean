/- The document's rationals, walked: Made; the laws' own small numbers. -/
import Derived.Test.YtacjfpibilolnaaGreatDoorSA12
import Derived.Test.YtacjfpibilolnaaGreatDoorSA01
set_option linter.unusedVariables false
set_option linter.unusedSimpArgs false
namespace Go.Proofs.YtacjfpibilolnaaGreatDoor
open Go.RowKit Go.Shelf
attribute [local go_sem] max2_i min2_i max_two min_two

/-- The rational that is made of any sign and two naturals. -/
def ratM (s : Bool) (n d : Nat) : Rat := Rat.divInt (ival s n) ((if d = 0 then 1 else d : Nat) : Int)
set_option maxRecDepth 100000 in
set_option maxHeartbeats 4000000 in
theorem r9made_z (sa : Bool) (A : Option Addr) (c : Nat) (l : List Nat) (B : Option Addr) (d : Nat) (k : List Nat) (m : Nat) (w : World) (hl : Rd w A l) (Ll : Lim l) (Ql : l.length ≤ maxLen) (Cl : l.length ≤ c) (Zl : A = none → c = 0) (hk : Rd w B k) (Lk : Lim k) (Qk : k.length ≤ maxLen) (Ck : k.length ≤ d) (Zk : B = none → d = 0) (hm : m ≤ 65536) (h0 : val (k.take m) = 0) :
    Calls Tryz.prog 13 #[.agg #[.bool sa, .slice A l.length c, .slice B k.length d], .int .i64 (m : Nat)] w (RetR w (ratM sa (val (l.take m)) (val (k.take m)))) := by
  replace Zl := Lib.hid Zl
  replace Zk := Lib.hid Zk
  have Bl : nl (val (l.take m)) ≤ 65536 := Nat.le_trans (made_nl l Ll m) hm
  have Bk : nl (val (k.take m)) ≤ 65536 := Nat.le_trans (made_nl k Lk m) hm
  unfold ratM
  rw [if_pos h0]
  obtain ⟨u, Eu⟩ : ∃ z, z = val (l.take m) := ⟨_, rfl⟩
  obtain ⟨v, Ev⟩ : ∃ z, z = val (k.take m) := ⟨_, rfl⟩
  rw [← Eu] at Bl
  rw [← Ev] at Bk h0
  rw [← Eu]
  have hd := fun (W : World) (h : Rd W B k) => made_n_c B d m k W h Lk Qk Ck Zk.out (by omega)
  rw [← Ev] at hd
  have hn := fun (W : World) (h : Rd W A l) => zmade_c sa A c m l W h Ll Ql Cl Zl.out (by omega)
  rw [← Eu] at hn
  have t1 : ((nl v : Int) == 0) = true := ieqT (by rw [h0, nl_zero]; rfl)
  have t2 : (nl v == 0) = true := by rw [h0, nl_zero]; rfl
  obtain ⟨y, Ey⟩ : ∃ z : Rat, z = Rat.divInt (ival sa u) ((1 : Nat) : Int) := ⟨_, rfl⟩
  rw [← Ey]
  replace hd := Lib.hid hd
  replace hn := Lib.hid hn
  replace h0 := Lib.hid h0
  replace Eu := Lib.hid Eu
  replace Ev := Lib.hid Ev
  replace Ey := Lib.hid Ey
  have hb1 : Below (w).heap.size (w) ((w.alloc (.cells #[.bool sa, .slice A l.length c, .slice B k.length d] 26)).alloc (.cells #[.bool false, .slice none 0 0, .slice none 0 0] 26)) := (Below.alloc (Below.alloc (Below.refl _ _) (Nat.le_refl _) _) (by simp <;> omega) _)
  replace hl := hl.below hb1
  replace hk := hk.below hb1
  have HBT := hb1
  clear hb1
  have Ra : BoxA ((w.alloc (.cells #[.bool sa, .slice A l.length c, .slice B k.length d] 26)).alloc (.cells #[.bool false, .slice none 0 0, .slice none 0 0] 26)) w.heap.size 26 #[.bool sa, .slice A l.length c, .slice B k.length d] := ⟨by repeat (first | exact at_new (by first | (simp; done) | (simp; omega)) | refine at_old (by first | (simp; done) | (simp; omega)) ?_)⟩
  have qa0 := Ra.c (i := 0) rfl
  have qa1 := Ra.c (i := 1) rfl
  have qa2 := Ra.c (i := 2) rfl
  have Rr : BoxA ((w.alloc (.cells #[.bool sa, .slice A l.length c, .slice B k.length d] 26)).alloc (.cells #[.bool false, .slice none 0 0, .slice none 0 0] 26)) (w.heap.size + 1) 26 #[.bool false, .slice none 0 0, .slice none 0 0] := ⟨by repeat (first | exact at_new (by first | (simp; done) | (simp; omega)) | refine at_old (by first | (simp; done) | (simp; omega)) ?_)⟩
  have qr0 := Rr.c (i := 0) rfl
  have qr1 := Rr.c (i := 1) rfl
  have qr2 := Rr.c (i := 2) rfl
  go_enter Tryz.func13, Tryz.ntmps13
  go_wp2_with (fail)
  obtain ⟨dn, Edn⟩ : ∃ zq : Nat, zq = v := ⟨_, rfl⟩
  refine (Calls.mono (R := RetN ((w.alloc (.cells #[.bool sa, .slice A l.length c, .slice B k.length d] 26)).alloc (.cells #[.bool false, .slice none 0 0, .slice none 0 0] 26)) dn) (by rw [Edn]; with_reducible exact (hd.out _ hk)) ?_)
  replace Edn := Lib.hid Edn
  rintro e W2 ⟨Xdn, cdn, rfl, hdn, hb2⟩
  replace hl := hl.below hb2
  replace hk := hk.below hb2
  replace Ra := Ra.below hb2
  replace qa0 := cell_below hb2 qa0
  replace qa1 := cell_below hb2 qa1
  replace qa2 := cell_below hb2 qa2
  replace Rr := Rr.below hb2
  replace qr0 := cell_below hb2 qr0
  replace qr1 := cell_below hb2 qr1
  replace qr2 := cell_below hb2 qr2
  replace HBT := Below.cons HBT hb2
  clear hb2
  have hzd : dn = v := Edn.out
  subst hzd
  have hb3 : Below (W2).heap.size (W2) (W2.alloc (.cells #[.int .u32 1] 58)) := (Below.alloc (Below.refl _ _) (Nat.le_refl _) _)
  replace hl := hl.below hb3
  replace hk := hk.below hb3
  replace Ra := Ra.below hb3
  replace qa0 := cell_below hb3 qa0
  replace qa1 := cell_below hb3 qa1
  replace qa2 := cell_below hb3 qa2
  replace Rr := Rr.below hb3
  replace qr0 := cell_below hb3 qr0
  replace qr1 := cell_below hb3 qr1
  replace qr2 := cell_below hb3 qr2
  replace hdn := hdn.below hb3
  replace HBT := Below.cons HBT hb3
  clear hb3
  have Rl : BoxA (W2.alloc (.cells #[.int .u32 1] 58)) W2.heap.size 58 #[.int .u32 1] := ⟨by repeat (first | exact at_new (by first | (simp; done) | (simp; omega)) | refine at_old (by first | (simp; done) | (simp; omega)) ?_)⟩
  have ql0 := Rl.c (i := 0) rfl
  have hone := nat_one _ _ Rl.at_
  go_wp2_with (fail)
  obtain ⟨nu, Enu⟩ : ∃ zq : Int, zq = ival sa u := ⟨_, rfl⟩
  have Nnu : nl (mg nu) ≤ 65536 := by rw [Enu, mg_ival]; exact Bl
  refine (Calls.mono (R := RetI (W2.alloc (.cells #[.int .u32 1] 58)) nu) (by rw [Enu]; with_reducible exact (hn.out _ hl)) ?_)
  replace Enu := Lib.hid Enu
  rintro e W4 ⟨Xnu, cnu, rfl, hnu, hb4⟩
  replace hl := hl.below hb4
  replace hk := hk.below hb4
  replace Ra := Ra.below hb4
  replace qa0 := cell_below hb4 qa0
  replace qa1 := cell_below hb4 qa1
  replace qa2 := cell_below hb4 qa2
  replace Rr := Rr.below hb4
  replace qr0 := cell_below hb4 qr0
  replace qr1 := cell_below hb4 qr1
  replace qr2 := cell_below hb4 qr2
  replace hdn := hdn.below hb4
  replace Rl := Rl.below hb4
  replace ql0 := cell_below hb4 ql0
  replace hone := hone.below hb4
  replace HBT := Below.cons HBT hb4
  clear hb4
  go_wp2_with (fail)
  have CN := r9nat_c _ _ 1 _ hone
  rw [nl_one] at CN
  replace CN := Lib.hid CN
  obtain ⟨dv, Edv⟩ : ∃ zq : Int, zq = ((1 : Nat) : Int) := ⟨_, rfl⟩
  have Ndv : nl (mg dv) ≤ 65536 := by rw [Edv, mg_nat, nl_one]; omega
  have pdv : 0 < dv := by rw [Edv]; decide
  refine (Calls.mono (R := RetI W4 dv) (by rw [Edv]; with_reducible exact CN.out) ?_)
  replace Edv := Lib.hid Edv
  rintro e W5 ⟨Xdv, cdv, rfl, hdv, hb5⟩
  replace hl := hl.below hb5
  replace hk := hk.below hb5
  replace Ra := Ra.below hb5
  replace qa0 := cell_below hb5 qa0
  replace qa1 := cell_below hb5 qa1
  replace qa2 := cell_below hb5 qa2
  replace Rr := Rr.below hb5
  replace qr0 := cell_below hb5 qr0
  replace qr1 := cell_below hb5 qr1
  replace qr2 := cell_below hb5 qr2
  replace hdn := hdn.below hb5
  replace Rl := Rl.below hb5
  replace ql0 := cell_below hb5 ql0
  replace hone := hone.below hb5
  replace hnu := hnu.below hb5
  replace HBT := Below.cons HBT hb5
  clear hb5
  go_wp2_with (fail)
  obtain ⟨q, Eq⟩ : ∃ zq : Rat, zq = Rat.divInt nu dv := ⟨_, rfl⟩
  refine (Calls.mono (R := RetR W5 q) (by rw [Eq]; with_reducible exact (r9over_c Xnu cnu nu Xdv cdv dv _ hnu hdv (by omega) (by omega) pdv)) ?_)
  replace Eq := Lib.hid Eq
  rintro e W6 ⟨Xq, cq, Yq, dq, rfl, hq, gq, hb6⟩
  replace hl := hl.below hb6
  replace hk := hk.below hb6
  replace Ra := Ra.below hb6
  replace qa0 := cell_below hb6 qa0
  replace qa1 := cell_below hb6 qa1
  replace qa2 := cell_below hb6 qa2
  replace Rr := Rr.below hb6
  replace qr0 := cell_below hb6 qr0
  replace qr1 := cell_below hb6 qr1
  replace qr2 := cell_below hb6 qr2
  replace hdn := hdn.below hb6
  replace Rl := Rl.below hb6
  replace ql0 := cell_below hb6 ql0
  replace hone := hone.below hb6
  replace hnu := hnu.below hb6
  replace hdv := hdv.below hb6
  replace HBT := Below.cons HBT hb6
  clear hb6
  have fzr0 := Rr.f (i := 0)
  have fzr1 := Rr.f (i := 1)
  have fzr2 := Rr.f (i := 2)
  go_wp2_with (fail)
  have hzq : q = y := by rw [Eq.out, Enu.out, Edv.out, Ey.out]
  subst hzq
  have RS := Rr.store3 (.bool (sg q.num)) (.slice Xq (nl (mg q.num)) cq) (.slice Yq (nl q.den) dq)
  have e0 := RS.c (i := 0) rfl
  have e1 := RS.c (i := 1) rfl
  have e2 := RS.c (i := 2) rfl
  refine bodyPost_ret (v := .agg #[.bool (sg q.num), .slice Xq (nl (mg q.num)) cq, .slice Yq (nl q.den) dq]) (by simp [results, Tryz.results13, go_sem, e0, e1, e2]) rfl ?_
  exact ⟨Xq, cq, Yq, dq, rfl, (Rr.keep3 (by intro u hu; simp at hu; rcases hu with rfl | rfl | rfl <;> first | exact notU_bool _ | exact notU_slice _ _ _ | exact notU_i64 _) hq), (Rr.keep3 (by intro u hu; simp at hu; rcases hu with rfl | rfl | rfl <;> first | exact notU_bool _ | exact notU_slice _ _ _ | exact notU_i64 _) gq), (Below.store3 HBT (by first | exact Nat.le_refl _ | omega))⟩
set_option maxRecDepth 100000 in
set_option maxHeartbeats 4000000 in
theorem r9made_n (sa : Bool) (A : Option Addr) (c : Nat) (l : List Nat) (B : Option Addr) (d : Nat) (k : List Nat) (m : Nat) (w : World) (hl : Rd w A l) (Ll : Lim l) (Ql : l.length ≤ maxLen) (Cl : l.length ≤ c) (Zl : A = none → c = 0) (hk : Rd w B k) (Lk : Lim k) (Qk : k.length ≤ maxLen) (Ck : k.length ≤ d) (Zk : B = none → d = 0) (hm : m ≤ 65536) (h0 : val (k.take m) ≠ 0) :
    Calls Tryz.prog 13 #[.agg #[.bool sa, .slice A l.length c, .slice B k.length d], .int .i64 (m : Nat)] w (RetR w (ratM sa (val (l.take m)) (val (k.take m)))) := by
  replace Zl := Lib.hid Zl
  replace Zk := Lib.hid Zk
  have Bl : nl (val (l.take m)) ≤ 65536 := Nat.le_trans (made_nl l Ll m) hm
  have Bk : nl (val (k.take m)) ≤ 65536 := Nat.le_trans (made_nl k Lk m) hm
  unfold ratM
  rw [if_neg h0]
  obtain ⟨u, Eu⟩ : ∃ z, z = val (l.take m) := ⟨_, rfl⟩
  obtain ⟨v, Ev⟩ : ∃ z, z = val (k.take m) := ⟨_, rfl⟩
  rw [← Eu] at Bl
  rw [← Ev] at Bk h0
  rw [← Eu, ← Ev]
  have hd := fun (W : World) (h : Rd W B k) => made_n_c B d m k W h Lk Qk Ck Zk.out (by omega)
  rw [← Ev] at hd
  have hn := fun (W : World) (h : Rd W A l) => zmade_c sa A c m l W h Ll Ql Cl Zl.out (by omega)
  rw [← Eu] at hn
  have pv := nl_pos.2 h0
  have t1 : ((nl v : Int) == 0) = false := ieqF (by omega)
  have t2 : (nl v == 0) = false := by simp; omega
  have p0 : (0 : Int) < (v : Int) := by omega
  obtain ⟨y, Ey⟩ : ∃ z : Rat, z = Rat.divInt (ival sa u) ((v : Nat) : Int) := ⟨_, rfl⟩
  rw [← Ey]
  replace hd := Lib.hid hd
  replace hn := Lib.hid hn
  replace h0 := Lib.hid h0
  replace Eu := Lib.hid Eu
  replace Ev := Lib.hid Ev
  replace Ey := Lib.hid Ey
  have hb1 : Below (w).heap.size (w) ((w.alloc (.cells #[.bool sa, .slice A l.length c, .slice B k.length d] 26)).alloc (.cells #[.bool false, .slice none 0 0, .slice none 0 0] 26)) := (Below.alloc (Below.alloc (Below.refl _ _) (Nat.le_refl _) _) (by simp <;> omega) _)
  replace hl := hl.below hb1
  replace hk := hk.below hb1
  have HBT := hb1
  clear hb1
  have Ra : BoxA ((w.alloc (.cells #[.bool sa, .slice A l.length c, .slice B k.length d] 26)).alloc (.cells #[.bool false, .slice none 0 0, .slice none 0 0] 26)) w.heap.size 26 #[.bool sa, .slice A l.length c, .slice B k.length d] := ⟨by repeat (first | exact at_new (by first | (simp; done) | (simp; omega)) | refine at_old (by first | (simp; done) | (simp; omega)) ?_)⟩
  have qa0 := Ra.c (i := 0) rfl
  have qa1 := Ra.c (i := 1) rfl
  have qa2 := Ra.c (i := 2) rfl
  have Rr : BoxA ((w.alloc (.cells #[.bool sa, .slice A l.length c, .slice B k.length d] 26)).alloc (.cells #[.bool false, .slice none 0 0, .slice none 0 0] 26)) (w.heap.size + 1) 26 #[.bool false, .slice none 0 0, .slice none 0 0] := ⟨by repeat (first | exact at_new (by first | (simp; done) | (simp; omega)) | refine at_old (by first | (simp; done) | (simp; omega)) ?_)⟩
  have qr0 := Rr.c (i := 0) rfl
  have qr1 := Rr.c (i := 1) rfl
  have qr2 := Rr.c (i := 2) rfl
  go_enter Tryz.func13, Tryz.ntmps13
  go_wp2_with (fail)
  obtain ⟨dn, Edn⟩ : ∃ zq : Nat, zq = v := ⟨_, rfl⟩
  refine (Calls.mono (R := RetN ((w.alloc (.cells #[.bool sa, .slice A l.length c, .slice B k.length d] 26)).alloc (.cells #[.bool false, .slice none 0 0, .slice none 0 0] 26)) dn) (by rw [Edn]; with_reducible exact (hd.out _ hk)) ?_)
  replace Edn := Lib.hid Edn
  rintro e W2 ⟨Xdn, cdn, rfl, hdn, hb2⟩
  replace hl := hl.below hb2
  replace hk := hk.below hb2
  replace Ra := Ra.below hb2
  replace qa0 := cell_below hb2 qa0
  replace qa1 := cell_below hb2 qa1
  replace qa2 := cell_below hb2 qa2
  replace Rr := Rr.below hb2
  replace qr0 := cell_below hb2 qr0
  replace qr1 := cell_below hb2 qr1
  replace qr2 := cell_below hb2 qr2
  replace HBT := Below.cons HBT hb2
  clear hb2
  have hzd : dn = v := Edn.out
  subst hzd
  go_wp2_with (fail)
  obtain ⟨nu, Enu⟩ : ∃ zq : Int, zq = ival sa u := ⟨_, rfl⟩
  have Nnu : nl (mg nu) ≤ 65536 := by rw [Enu, mg_ival]; exact Bl
  refine (Calls.mono (R := RetI W2 nu) (by rw [Enu]; with_reducible exact (hn.out _ hl)) ?_)
  replace Enu := Lib.hid Enu
  rintro e W3 ⟨Xnu, cnu, rfl, hnu, hb3⟩
  replace hl := hl.below hb3
  replace hk := hk.below hb3
  replace Ra := Ra.below hb3
  replace qa0 := cell_below hb3 qa0
  replace qa1 := cell_below hb3 qa1
  replace qa2 := cell_below hb3 qa2
  replace Rr := Rr.below hb3
  replace qr0 := cell_below hb3 qr0
  replace qr1 := cell_below hb3 qr1
  replace qr2 := cell_below hb3 qr2
  replace hdn := hdn.below hb3
  replace HBT := Below.cons HBT hb3
  clear hb3
  go_wp2_with (fail)
  obtain ⟨dv, Edv⟩ : ∃ zq : Int, zq = (dn : Int) := ⟨_, rfl⟩
  have Ndv : nl (mg dv) ≤ 65536 := by rw [Edv, mg_nat]; exact Bk
  have pdv : 0 < dv := by rw [Edv]; exact p0
  refine (Calls.mono (R := RetI W3 dv) (by rw [Edv]; with_reducible exact (r9nat_c _ _ dn _ hdn)) ?_)
  replace Edv := Lib.hid Edv
  rintro e W4 ⟨Xdv, cdv, rfl, hdv, hb4⟩
  replace hl := hl.below hb4
  replace hk := hk.below hb4
  replace Ra := Ra.below hb4
  replace qa0 := cell_below hb4 qa0
  replace qa1 := cell_below hb4 qa1
  replace qa2 := cell_below hb4 qa2
  replace Rr := Rr.below hb4
  replace qr0 := cell_below hb4 qr0
  replace qr1 := cell_below hb4 qr1
  replace qr2 := cell_below hb4 qr2
  replace hdn := hdn.below hb4
  replace hnu := hnu.below hb4
  replace HBT := Below.cons HBT hb4
  clear hb4
  go_wp2_with (fail)
  obtain ⟨q, Eq⟩ : ∃ zq : Rat, zq = Rat.divInt nu dv := ⟨_, rfl⟩
  refine (Calls.mono (R := RetR W4 q) (by rw [Eq]; with_reducible exact (r9over_c Xnu cnu nu Xdv cdv dv _ hnu hdv (by omega) (by omega) pdv)) ?_)
  replace Eq := Lib.hid Eq
  rintro e W5 ⟨Xq, cq, Yq, dq, rfl, hq, gq, hb5⟩
  replace hl := hl.below hb5
  replace hk := hk.below hb5
  replace Ra := Ra.below hb5
  replace qa0 := cell_below hb5 qa0
  replace qa1 := cell_below hb5 qa1
  replace qa2 := cell_below hb5 qa2
  replace Rr := Rr.below hb5
  replace qr0 := cell_below hb5 qr0
  replace qr1 := cell_below hb5 qr1
  replace qr2 := cell_below hb5 qr2
  replace hdn := hdn.below hb5
  replace hnu := hnu.below hb5
  replace hdv := hdv.below hb5
  replace HBT := Below.cons HBT hb5
  clear hb5
  have fzr0 := Rr.f (i := 0)
  have fzr1 := Rr.f (i := 1)
  have fzr2 := Rr.f (i := 2)
  go_wp2_with (fail)
  have hzq : q = y := by rw [Eq.out, Enu.out, Edv.out, Ey.out]
  subst hzq
  have RS := Rr.store3 (.bool (sg q.num)) (.slice Xq (nl (mg q.num)) cq) (.slice Yq (nl q.den) dq)
  have e0 := RS.c (i := 0) rfl
  have e1 := RS.c (i := 1) rfl
  have e2 := RS.c (i := 2) rfl
  refine bodyPost_ret (v := .agg #[.bool (sg q.num), .slice Xq (nl (mg q.num)) cq, .slice Yq (nl q.den) dq]) (by simp [results, Tryz.results13, go_sem, e0, e1, e2]) rfl ?_
  exact ⟨Xq, cq, Yq, dq, rfl, (Rr.keep3 (by intro u hu; simp at hu; rcases hu with rfl | rfl | rfl <;> first | exact notU_bool _ | exact notU_slice _ _ _ | exact notU_i64 _) hq), (Rr.keep3 (by intro u hu; simp at hu; rcases hu with rfl | rfl | rfl <;> first | exact notU_bool _ | exact notU_slice _ _ _ | exact notU_i64 _) gq), (Below.store3 HBT (by first | exact Nat.le_refl _ | omega))⟩
theorem r9made_c (sa : Bool) (A : Option Addr) (c : Nat) (l : List Nat) (B : Option Addr) (d : Nat) (k : List Nat) (m : Nat) (w : World) (hl : Rd w A l) (Ll : Lim l) (Ql : l.length ≤ maxLen) (Cl : l.length ≤ c) (Zl : A = none → c = 0) (hk : Rd w B k) (Lk : Lim k) (Qk : k.length ≤ maxLen) (Ck : k.length ≤ d) (Zk : B = none → d = 0) (hm : m ≤ 65536) :
    Calls Tryz.prog 13 #[.agg #[.bool sa, .slice A l.length c, .slice B k.length d], .int .i64 (m : Nat)] w (RetR w (ratM sa (val (l.take m)) (val (k.take m)))) := by
  by_cases h0 : val (k.take m) = 0
  · exact r9made_z sa A c l B d k m w hl Ll Ql Cl Zl hk Lk Qk Ck Zk hm h0
  · exact r9made_n sa A c l B d k m w hl Ll Ql Cl Zl hk Lk Qk Ck Zk hm h0
/-- A whole number and a power, as they are given. -/
def RetDr (w : World) (z x : Int) (e : Ending) (w' : World) : Prop := ∃ A c, e = .returned (.agg #[.bool (sg z), .slice A (nl (mg z)) c, .int .i64 x]) ∧ NatV w' A c (mg z) ∧ Below w.heap.size w w'
theorem retDr_nz {w w' : World} {z x : Int} {e : Ending} (h : RetDr w z x e w') (hn : Nz z x) : RetD w (dval z x) e w' := by
  obtain ⟨A, c, h1, h2, h3⟩ := h
  obtain ⟨k1, k2⟩ := form_of_nz hn
  exact ⟨A, c, by rw [k1, k2]; exact h1, by rw [k1]; exact h2, h3⟩
set_option maxRecDepth 100000 in
set_option maxHeartbeats 4000000 in
theorem ld_c (z x : Int) (w : World) (h0 : -9223372036854775808 ≤ z) (h1 : z < 9223372036854775808) :
    Calls Tryz.prog 58 #[.int .i64 z, .int .i64 x] w (RetDr w z x) := by
  have hb1 : Below (w).heap.size (w) (w.alloc (.cells #[.bool false, .slice none 0 0, .int .i64 0] 28)) := (Below.alloc (Below.refl _ _) (Nat.le_refl _) _)
  have HBT := hb1
  clear hb1
  have Rr : BoxA (w.alloc (.cells #[.bool false, .slice none 0 0, .int .i64 0] 28)) w.heap.size 28 #[.bool false, .slice none 0 0, .int .i64 0] := ⟨by repeat (first | exact at_new (by first | (simp; done) | (simp; omega)) | refine at_old (by first | (simp; done) | (simp; omega)) ?_)⟩
  have qr0 := Rr.c (i := 0) rfl
  have qr1 := Rr.c (i := 1) rfl
  have qr2 := Rr.c (i := 2) rfl
  go_enter Tryz.func58, Tryz.ntmps58
  go_wp2_with (fail)
  obtain ⟨v, Ev⟩ : ∃ zq : Int, zq = z := ⟨_, rfl⟩
  refine (Calls.mono (R := RetI (w.alloc (.cells #[.bool false, .slice none 0 0, .int .i64 0] 28)) v) (by rw [Ev]; with_reducible exact (zof_c z _ h0 h1)) ?_)
  replace Ev := Lib.hid Ev
  rintro e W2 ⟨Xv, cv, rfl, hv, hb2⟩
  replace Rr := Rr.below hb2
  replace qr0 := cell_below hb2 qr0
  replace qr1 := cell_below hb2 qr1
  replace qr2 := cell_below hb2 qr2
  replace HBT := Below.cons HBT hb2
  clear hb2
  have fzr0 := Rr.f (i := 0)
  have fzr1 := Rr.f (i := 1)
  have fzr2 := Rr.f (i := 2)
  go_wp2_with (fail)
  have hzv : v = z := by exact Ev.out
  subst hzv
  have RS := Rr.store3 (.bool (sg v)) (.slice Xv (nl (mg v)) cv) (.int .i64 x)
  have e0 := RS.c (i := 0) rfl
  have e1 := RS.c (i := 1) rfl
  have e2 := RS.c (i := 2) rfl
  refine bodyPost_ret (v := .agg #[.bool (sg v), .slice Xv (nl (mg v)) cv, .int .i64 x]) (by simp [results, Tryz.results58, go_sem, e0, e1, e2]) rfl ?_
  exact ⟨Xv, cv, rfl, (Rr.keep3 (by intro u hu; simp at hu; rcases hu with rfl | rfl | rfl <;> first | exact notU_bool _ | exact notU_slice _ _ _ | exact notU_i64 _) hv), (Below.store3 HBT (by first | exact Nat.le_refl _ | omega))⟩
set_option maxRecDepth 100000 in
set_option maxHeartbeats 4000000 in
theorem lq_c (n m : Int) (w : World) (n0 : -1000000 ≤ n) (n1 : n ≤ 1000000) (m0 : 0 < m) (m1 : m ≤ 1000000) :
    Calls Tryz.prog 57 #[.int .i64 n, .int .i64 m] w (RetR w (Rat.divInt n m)) := by
  obtain ⟨y, Ey⟩ : ∃ z : Rat, z = Rat.divInt n m := ⟨_, rfl⟩
  rw [← Ey]
  replace Ey := Lib.hid Ey
  have hb1 : Below (w).heap.size (w) (w.alloc (.cells #[.bool false, .slice none 0 0, .slice none 0 0] 26)) := (Below.alloc (Below.refl _ _) (Nat.le_refl _) _)
  have HBT := hb1
  clear hb1
  have Rr : BoxA (w.alloc (.cells #[.bool false, .slice none 0 0, .slice none 0 0] 26)) w.heap.size 26 #[.bool false, .slice none 0 0, .slice none 0 0] := ⟨by repeat (first | exact at_new (by first | (simp; done) | (simp; omega)) | refine at_old (by first | (simp; done) | (simp; omega)) ?_)⟩
  have qr0 := Rr.c (i := 0) rfl
  have qr1 := Rr.c (i := 1) rfl
  have qr2 := Rr.c (i := 2) rfl
  go_enter Tryz.func57, Tryz.ntmps57
  go_wp2_with (fail)
  obtain ⟨u, Eu⟩ : ∃ zq : Int, zq = n := ⟨_, rfl⟩
  have Nu : nl (mg u) ≤ 1 := by rw [Eu]; exact nl_le.2 (by unfold mg; omega)
  refine (Calls.mono (R := RetI (w.alloc (.cells #[.bool false, .slice none 0 0, .slice none 0 0] 26)) u) (by rw [Eu]; with_reducible exact (zof_c n _ (by omega) (by omega))) ?_)
  replace Eu := Lib.hid Eu
  rintro e W2 ⟨Xu, cu, rfl, hu, hb2⟩
  replace Rr := Rr.below hb2
  replace qr0 := cell_below hb2 qr0
  replace qr1 := cell_below hb2 qr1
  replace qr2 := cell_below hb2 qr2
  replace HBT := Below.cons HBT hb2
  clear hb2
  go_wp2_with (fail)
  obtain ⟨v, Ev⟩ : ∃ zq : Int, zq = m := ⟨_, rfl⟩
  have Nv : nl (mg v) ≤ 1 := by rw [Ev]; exact nl_le.2 (by unfold mg; omega)
  have pv : 0 < v := by omega
  refine (Calls.mono (R := RetI W2 v) (by rw [Ev]; with_reducible exact (zof_c m _ (by omega) (by omega))) ?_)
  replace Ev := Lib.hid Ev
  rintro e W3 ⟨Xv, cv, rfl, hv, hb3⟩
  replace Rr := Rr.below hb3
  replace qr0 := cell_below hb3 qr0
  replace qr1 := cell_below hb3 qr1
  replace qr2 := cell_below hb3 qr2
  replace hu := hu.below hb3
  replace HBT := Below.cons HBT hb3
  clear hb3
  go_wp2_with (fail)
  obtain ⟨q, Eq⟩ : ∃ zq : Rat, zq = Rat.divInt u v := ⟨_, rfl⟩
  have CT4 := (r9make_c Xu cu u Xv cv v _ hu hv (by omega) (by omega) pv)
  rw [← Eq] at CT4
  replace Eq := Lib.hid Eq
  replace CT4 := Lib.hid CT4
  refine (Calls.mono CT4.out ?_)
  clear CT4
  rintro e W4 ⟨Xq, cq, Yq, dq, rfl, hq, gq, hb4⟩
  replace Rr := Rr.below hb4
  replace qr0 := cell_below hb4 qr0
  replace qr1 := cell_below hb4 qr1
  replace qr2 := cell_below hb4 qr2
  replace hu := hu.below hb4
  replace hv := hv.below hb4
  replace HBT := Below.cons HBT hb4
  clear hb4
  have hb5 : Below (W4).heap.size (W4) (W4.alloc (.cells #[.bool (sg q.num), .slice Xq (nl (mg q.num)) cq, .slice Yq (nl q.den) dq] 26)) := (Below.alloc (Below.refl _ _) (Nat.le_refl _) _)
  replace Rr := Rr.below hb5
  replace qr0 := cell_below hb5 qr0
  replace qr1 := cell_below hb5 qr1
  replace qr2 := cell_below hb5 qr2
  replace hu := hu.below hb5
  replace hv := hv.below hb5
  replace hq := hq.below hb5
  replace gq := gq.below hb5
  replace HBT := Below.cons HBT hb5
  clear hb5
  have Rq : BoxA (W4.alloc (.cells #[.bool (sg q.num), .slice Xq (nl (mg q.num)) cq, .slice Yq (nl q.den) dq] 26)) W4.heap.size 26 #[.bool (sg q.num), .slice Xq (nl (mg q.num)) cq, .slice Yq (nl q.den) dq] := ⟨by repeat (first | exact at_new (by first | (simp; done) | (simp; omega)) | refine at_old (by first | (simp; done) | (simp; omega)) ?_)⟩
  have qq0 := Rq.c (i := 0) rfl
  have qq1 := Rq.c (i := 1) rfl
  have qq2 := Rq.c (i := 2) rfl
  have fzr0 := Rr.f (i := 0)
  have fzr1 := Rr.f (i := 1)
  have fzr2 := Rr.f (i := 2)
  go_wp2_with (fail)
  have hzq : q = y := by rw [Eq.out, Eu.out, Ev.out, Ey.out]
  subst hzq
  have RS := Rr.store3 (.bool (sg q.num)) (.slice Xq (nl (mg q.num)) cq) (.slice Yq (nl q.den) dq)
  have e0 := RS.c (i := 0) rfl
  have e1 := RS.c (i := 1) rfl
  have e2 := RS.c (i := 2) rfl
  refine bodyPost_ret (v := .agg #[.bool (sg q.num), .slice Xq (nl (mg q.num)) cq, .slice Yq (nl q.den) dq]) (by simp [results, Tryz.results57, go_sem, e0, e1, e2]) rfl ?_
  exact ⟨Xq, cq, Yq, dq, rfl, (Rr.keep3 (by intro u hu; simp at hu; rcases hu with rfl | rfl | rfl <;> first | exact notU_bool _ | exact notU_slice _ _ _ | exact notU_i64 _) hq), (Rr.keep3 (by intro u hu; simp at hu; rcases hu with rfl | rfl | rfl <;> first | exact notU_bool _ | exact notU_slice _ _ _ | exact notU_i64 _) gq), (Below.store3 HBT (by first | exact Nat.le_refl _ | omega))⟩
end Go.Proofs.YtacjfpibilolnaaGreatDoor

/- Rounding in five directions: what the laws say of it. No Go in it. -/
set_option linter.unusedVariables false
set_option linter.unusedSimpArgs false
namespace Go.Proofs.YtacjfpibilolnaaGreatDoor

theorem zp_self (n : Int) : (2 : Rat) ^ n * (2 : Rat) ^ (-n) = 1 := by
  rw [← zp_add, Int.add_right_neg, Rat.zpow_zero]
theorem up_down (v : Rat) (n : Int) : v * (2 : Rat) ^ n * (2 : Rat) ^ (-n) = v := by
  rw [Rat.mul_assoc, zp_self, Rat.mul_one]
theorem dval_le_iff {z n : Int} {v : Rat} : dval z (-n) ≤ v ↔ (z : Rat) ≤ v * (2 : Rat) ^ n := by
  have hp := zp_pos n
  have hq := zp_pos (-n)
  have h1 := zp_self n
  unfold dval
  constructor
  · intro h
    have h2 := Rat.mul_le_mul_of_nonneg_right h (Rat.le_of_lt hp)
    rw [Rat.mul_assoc, Rat.mul_comm ((2 : Rat) ^ (-n)), h1, Rat.mul_one] at h2
    exact h2
  · intro h
    have h2 := Rat.mul_le_mul_of_nonneg_right h (Rat.le_of_lt hq)
    rw [up_down] at h2
    exact h2
theorem le_dval_iff {z n : Int} {v : Rat} : v ≤ dval z (-n) ↔ v * (2 : Rat) ^ n ≤ (z : Rat) := by
  have hp := zp_pos n
  have hq := zp_pos (-n)
  have h1 := zp_self n
  unfold dval
  constructor
  · intro h
    have h2 := Rat.mul_le_mul_of_nonneg_right h (Rat.le_of_lt hp)
    rw [Rat.mul_assoc (z : Rat), Rat.mul_comm ((2 : Rat) ^ (-n)), h1, Rat.mul_one] at h2
    exact h2
  · intro h
    have h2 := Rat.mul_le_mul_of_nonneg_right h (Rat.le_of_lt hq)
    rw [up_down] at h2
    exact h2
theorem floor_le (x : Rat) : (x.floor : Rat) ≤ x := Rat.le_floor_iff.1 (Int.le_refl _)
theorem lt_floor (x : Rat) : x < ((x.floor + 1 : Int) : Rat) := Rat.floor_lt_iff.1 (by omega)
theorem le_ceil (x : Rat) : x ≤ (x.ceil : Rat) := Rat.ceil_le_iff.1 (Int.le_refl _)
theorem ceil_lt (x : Rat) : ((x.ceil - 1 : Int) : Rat) < x := Rat.lt_ceil_iff.1 (by omega)
/-- The sign of a number times a power of 2. -/
theorem mul_zp_neg {v : Rat} (n : Int) : v * (2 : Rat) ^ n < 0 ↔ v < 0 := by
  have hp := zp_pos n
  have h := Rat.mul_lt_mul_right (a := v) (b := 0) hp
  rw [Rat.zero_mul] at h
  exact h
theorem rcast_add1 (z : Int) : ((z + 1 : Int) : Rat) = (z : Rat) + 1 := by rw [Rat.intCast_add]; rfl
/-- Down and up. -/
theorem side_low (v : Rat) (n : Int) : dval (v * (2 : Rat) ^ n).floor (-n) ≤ v := dval_le_iff.2 (floor_le _)
theorem side_high (v : Rat) (n : Int) : v ≤ dval (v * (2 : Rat) ^ n).ceil (-n) := le_dval_iff.2 (le_ceil _)
theorem rnd_2 (v : Rat) (n : Int) : rnd 2 (v * (2 : Rat) ^ n) = if v < 0 then (v * (2 : Rat) ^ n).ceil else (v * (2 : Rat) ^ n).floor := by
  unfold rnd
  by_cases h : v < 0
  · have h2 := (mul_zp_neg n).2 h
    simp [h, h2]
  · have h2 : ¬ v * (2 : Rat) ^ n < 0 := fun k => h ((mul_zp_neg n).1 k)
    simp [h, h2]
theorem rnd_3 (v : Rat) (n : Int) : rnd 3 (v * (2 : Rat) ^ n) = if v < 0 then (v * (2 : Rat) ^ n).floor else (v * (2 : Rat) ^ n).ceil := by
  unfold rnd
  by_cases h : v < 0
  · have h2 := (mul_zp_neg n).2 h
    simp [h, h2]
  · have h2 : ¬ v * (2 : Rat) ^ n < 0 := fun k => h ((mul_zp_neg n).1 k)
    simp [h, h2]
theorem rnd_0 (x : Rat) : rnd 0 x = x.floor := by unfold rnd; simp
theorem rnd_1 (x : Rat) : rnd 1 x = x.ceil := by unfold rnd; simp
theorem rnd_4 (x : Rat) : rnd 4 x = if x - x.floor < x.ceil - x ∨ x - x.floor = x.ceil - x ∧ x.floor % 2 = 0 then x.floor else x.ceil := by
  unfold rnd; simp
/-- Halves. -/
theorem half_val (m n : Int) : dval (2 * m + 1) (-n - 1) * (2 : Rat) ^ n = (m : Rat) + 1 / 2 := by
  unfold dval
  rw [Rat.mul_assoc, ← zp_add, show -n - 1 + n = -1 by omega, Rat.zpow_neg, Rat.zpow_one, rcast_add1, Rat.intCast_mul]
  have : ((2 : Int) : Rat) = 2 := rfl
  rw [this]
  have : (2 : Rat)⁻¹ * 2 = 1 := Rat.inv_mul_cancel 2 (by decide)
  grind
theorem half_near (m : Int) : rnd 4 ((m : Rat) + 1 / 2) = if m % 2 = 1 then m + 1 else m := by
  have f : ((m : Rat) + 1 / 2).floor = m := floor_eq (by grind) (by rw [rcast_add1]; grind)
  have c : ((m : Rat) + 1 / 2).ceil = m + 1 := ceil_eq (by rw [show m + 1 - 1 = m by omega]; grind) (by rw [rcast_add1]; grind)
  rw [rnd_4, f, c, rcast_add1]
  by_cases h : m % 2 = 1
  · rw [if_pos h, if_neg]
    rintro (k | ⟨_, k⟩)
    · grind
    · omega
  · rw [if_neg h, if_pos]
    exact .inr ⟨by grind, by omega⟩
theorem zp_one_le {k : Int} (h : 0 ≤ k) : ∃ n : Nat, k = n ∧ (2 : Rat) ^ k = ((2 ^ n : Int) : Rat) := by
  obtain ⟨n, rfl⟩ := Int.eq_ofNat_of_zero_le h
  exact ⟨n, rfl, zp_int n⟩
theorem twice_floor {v : Rat} {m n : Int} (h : n ≤ m) : (dval (v * (2 : Rat) ^ m).floor (-m) * (2 : Rat) ^ n).floor = (v * (2 : Rat) ^ n).floor := by
  obtain ⟨k, hk, hp⟩ := zp_one_le (show 0 ≤ m - n by omega)
  have hpn := zp_pos n
  apply floor_eq
  · have h1 := floor_le (v * (2 : Rat) ^ n)
    have h2 : ((v * (2 : Rat) ^ n).floor * 2 ^ k : Int) ≤ (v * (2 : Rat) ^ m).floor := by
      rw [Rat.le_floor_iff, Rat.intCast_mul, ← hp]
      have h3 := Rat.mul_le_mul_of_nonneg_right h1 (Rat.le_of_lt (zp_pos (m - n)))
      rw [Rat.mul_assoc v, ← zp_add, show n + (m - n) = m by omega] at h3
      exact h3
    have h4 := Rat.intCast_le_intCast.2 h2
    rw [Rat.intCast_mul, ← hp] at h4
    have h5 := Rat.mul_le_mul_of_nonneg_right h4 (Rat.le_of_lt (zp_pos (n - m)))
    rw [Rat.mul_assoc, ← zp_add, show m - n + (n - m) = 0 by omega, Rat.zpow_zero, Rat.mul_one] at h5
    unfold dval
    rw [Rat.mul_assoc, ← zp_add, show -m + n = n - m by omega]
    exact h5
  · have h1 := lt_floor (v * (2 : Rat) ^ n)
    have h2 := side_low v m
    have h3 := Rat.mul_le_mul_of_nonneg_right h2 (Rat.le_of_lt hpn)
    grind
theorem twice_ceil {v : Rat} {m n : Int} (h : n ≤ m) : (dval (v * (2 : Rat) ^ m).ceil (-m) * (2 : Rat) ^ n).ceil = (v * (2 : Rat) ^ n).ceil := by
  obtain ⟨k, hk, hp⟩ := zp_one_le (show 0 ≤ m - n by omega)
  have hpn := zp_pos n
  apply ceil_eq
  · have h1 := ceil_lt (v * (2 : Rat) ^ n)
    have h2 := side_high v m
    have h3 := Rat.mul_le_mul_of_nonneg_right h2 (Rat.le_of_lt hpn)
    grind
  · have h1 := le_ceil (v * (2 : Rat) ^ n)
    have h2 : (v * (2 : Rat) ^ m).ceil ≤ ((v * (2 : Rat) ^ n).ceil * 2 ^ k : Int) := by
      rw [Rat.ceil_le_iff, Rat.intCast_mul, ← hp]
      have h3 := Rat.mul_le_mul_of_nonneg_right h1 (Rat.le_of_lt (zp_pos (m - n)))
      rw [Rat.mul_assoc v, ← zp_add, show n + (m - n) = m by omega] at h3
      exact h3
    have h4 := Rat.intCast_le_intCast.2 h2
    rw [Rat.intCast_mul, ← hp] at h4
    have h5 := Rat.mul_le_mul_of_nonneg_right h4 (Rat.le_of_lt (zp_pos (n - m)))
    rw [Rat.mul_assoc (_ : Rat) ((2 : Rat) ^ (m - n)), ← zp_add, show m - n + (n - m) = 0 by omega, Rat.zpow_zero, Rat.mul_one] at h5
    unfold dval
    rw [Rat.mul_assoc, ← zp_add, show -m + n = n - m by omega]
    exact h5
theorem dval_nn {z n : Int} : dval z n < 0 ↔ z < 0 := by
  unfold dval
  rw [mul_zp_neg]
  exact Rat.intCast_lt_intCast (b := 0)
theorem floor_neg {x : Rat} : x.floor < 0 ↔ x < 0 := by
  rw [Rat.floor_lt_iff]; rfl
theorem ceil_nn {x : Rat} (h : x < 0) : x.ceil ≤ 0 := by
  rw [Rat.ceil_le_iff]; exact Rat.le_of_lt h
theorem ceil_pos {x : Rat} (h : ¬ x < 0) : 0 ≤ x.ceil := by
  have := le_ceil x
  have h2 : (0 : Rat) ≤ (x.ceil : Rat) := Rat.le_trans (Rat.not_lt.1 h) this
  exact Rat.intCast_le_intCast.1 h2
theorem rnd_twice {v : Rat} {m n i : Int} (h : n ≤ m) (h0 : 0 ≤ i) (h3 : i ≤ 3) : rnd i (dval (rnd i (v * (2 : Rat) ^ m)) (-m) * (2 : Rat) ^ n) = rnd i (v * (2 : Rat) ^ n) := by
  obtain rfl | rfl | rfl | rfl : i = 0 ∨ i = 1 ∨ i = 2 ∨ i = 3 := by omega
  · rw [rnd_0, rnd_0, rnd_0, twice_floor h]
  · rw [rnd_1, rnd_1, rnd_1, twice_ceil h]
  · rw [rnd_2, rnd_2, rnd_2]
    by_cases hv : v < 0
    · rw [if_pos hv, if_pos hv]
      by_cases hc : dval (v * (2 : Rat) ^ m).ceil (-m) < 0
      · rw [if_pos hc, twice_ceil h]
      · rw [if_neg hc]
        have hz : (v * (2 : Rat) ^ m).ceil = 0 := by
          have h1 := ceil_nn ((mul_zp_neg m).2 hv)
          have h2 : ¬ (v * (2 : Rat) ^ m).ceil < 0 := fun k => hc (dval_nn.2 k)
          omega
        have h4 := twice_ceil (v := v) h
        rw [hz, dval_zero, Rat.zero_mul] at h4 ⊢
        rw [← h4]; rfl
    · rw [if_neg hv, if_neg hv]
      have hc : ¬ dval (v * (2 : Rat) ^ m).floor (-m) < 0 := by
        rw [dval_nn, floor_neg, mul_zp_neg]; exact hv
      rw [if_neg hc, twice_floor h]
  · rw [rnd_3, rnd_3, rnd_3]
    by_cases hv : v < 0
    · rw [if_pos hv, if_pos hv]
      have hc : dval (v * (2 : Rat) ^ m).floor (-m) < 0 := by
        rw [dval_nn, floor_neg, mul_zp_neg]; exact hv
      rw [if_pos hc, twice_floor h]
    · rw [if_neg hv, if_neg hv]
      have hc : ¬ dval (v * (2 : Rat) ^ m).ceil (-m) < 0 := by
        rw [dval_nn]
        have := ceil_pos (x := v * (2 : Rat) ^ m) (by rw [mul_zp_neg]; exact hv)
        omega
      rw [if_neg hc, twice_ceil h]
end Go.Proofs.YtacjfpibilolnaaGreatDoor

/- A rational rounded to a whole number, the document's way. -/
set_option linter.unusedVariables false
set_option linter.unusedSimpArgs false
namespace Go.Proofs.YtacjfpibilolnaaGreatDoor
open Go.RowKit Go.Shelf
attribute [local go_sem] max2_i min2_i max_two min_two

theorem floor_abs (x : Rat) : mg x.floor ≤ mg x.num := by
  rw [Rat.floor_def]
  exact Int.natAbs_ediv_le_natAbs _ _
theorem ceil_abs (x : Rat) : mg x.ceil ≤ mg x.num := by
  rw [Rat.ceil_eq_neg_floor_neg, mg_neg]
  refine Nat.le_trans (floor_abs _) ?_
  rw [Rat.neg_num, mg_neg]; exact Nat.le_refl _
theorem rnd_abs (dr : Int) (x : Rat) : mg (rnd dr x) ≤ mg x.num := by
  unfold rnd
  split
  · exact floor_abs x
  · split
    · exact ceil_abs x
    · split
      · exact floor_abs x
      · exact ceil_abs x
theorem sub_sz2 (a b : Rat) (la : nl (mg a.num) ≤ 100000) (ma : nl a.den ≤ 100000) (lb : nl (mg b.num) ≤ 100000) (mb : nl b.den ≤ 100000) : nl (mg (a - b).num) ≤ 200001 ∧ nl (a - b).den ≤ 200000 := by
  rw [Rat.sub_eq_add_neg]
  exact add_sz2 a (-b) la ma (by rw [Rat.neg_num, mg_neg]; exact lb) (by rw [Rat.neg_den]; exact mb)
theorem rcmp_sub {x y : Rat} : rcmp x y = if x < y then -1 else if x = y then 0 else 1 := by
  unfold rcmp
  by_cases h : x < y
  · rw [if_pos h, if_pos h]
  · rw [if_neg h, if_neg h]
    by_cases k : x = y
    · rw [if_pos k, if_neg (by rw [k]; exact Rat.lt_irrefl)]
    · rw [if_neg k, if_pos]
      have := Rat.not_lt.1 h
      grind
theorem PBR.put {W W' : World} {u : Value} {q : Rat} {n0 k : Nat} (h : PBR n0 u q W) (hp : Put W W' k) (hne : u ≠ .pointer (some ⟨k, 0, none⟩)) : PBR n0 u q W' := by
  obtain ⟨nb, X, c, Y, d, h1, h2, h3, h4, h5⟩ := h
  exact ⟨nb, X, c, Y, d, h1, h2, ⟨(hp.far nb (fun e => hne (by rw [h1, e]))).trans h3.at_⟩, hp.nat h4, hp.nat h5⟩
theorem num_neg {a : Rat} : a < 0 ↔ a.num < 0 := by rw [← Rat.not_le, ← Rat.num_nonneg]; omega
/-- A sure direction is down or up, by the sign. -/
theorem sure_cases (a : Rat) (dr : Int) (d0 : 0 ≤ dr) (d3 : dr ≤ 3) : (a.num.sign = -1 ∨ a.num.sign = 0 ∨ a.num.sign = 1) ∧
    (rnd dr a = a.floor ∧ (dr = 0 ∨ dr = 2 ∧ ¬ a.num.sign < 0 ∨ dr = 3 ∧ a.num.sign < 0) ∨ rnd dr a = a.ceil ∧ (dr = 1 ∨ dr = 2 ∧ a.num.sign < 0 ∨ dr = 3 ∧ ¬ a.num.sign < 0)) := by
  have hs : a.num.sign < 0 ↔ a < 0 := by rw [Int.sign_neg_iff, num_neg]
  refine ⟨by rcases Int.lt_trichotomy a.num 0 with h | h | h; exact .inl (Int.sign_eq_neg_one_of_neg h); exact .inr (.inl (by rw [h]; rfl)); exact .inr (.inr (Int.sign_eq_one_of_pos h)), ?_⟩
  unfold rnd
  rw [hs]
  obtain rfl | rfl | rfl | rfl : dr = 0 ∨ dr = 1 ∨ dr = 2 ∨ dr = 3 := by omega
  · simp
  · simp
  · by_cases h : a < 0 <;> simp [h]
  · by_cases h : a < 0 <;> simp [h]
theorem near_cases (a : Rat) : rcmp (a - (a.floor : Rat)) ((a.ceil : Rat) - a) = -1 ∧ rnd 4 a = a.floor ∨ rcmp (a - (a.floor : Rat)) ((a.ceil : Rat) - a) = 0 ∧ a.floor % 2 = 0 ∧ rnd 4 a = a.floor ∨
    rcmp (a - (a.floor : Rat)) ((a.ceil : Rat) - a) = 0 ∧ a.floor % 2 = 1 ∧ rnd 4 a = a.ceil ∨ rcmp (a - (a.floor : Rat)) ((a.ceil : Rat) - a) = 1 ∧ rnd 4 a = a.ceil := by
  rw [rcmp_sub, rnd_4]
  by_cases c1 : a - (a.floor : Rat) < (a.ceil : Rat) - a
  · rw [if_pos c1, if_pos (.inl c1)]; exact .inl ⟨rfl, rfl⟩
  · rw [if_neg c1]
    by_cases c2 : a - (a.floor : Rat) = (a.ceil : Rat) - a
    · rw [if_pos c2]
      by_cases c3 : a.floor % 2 = 0
      · rw [if_pos (.inr ⟨c2, c3⟩)]; exact .inr (.inl ⟨rfl, c3, rfl⟩)
      · rw [if_neg (by rintro (k | ⟨_, k⟩); exact c1 k; exact c3 k)]; exact .inr (.inr (.inl ⟨rfl, by omega, rfl⟩))
    · rw [if_neg c2, if_neg (by rintro (k | ⟨k, _⟩); exact c1 k; exact c2 k)]; exact .inr (.inr (.inr ⟨rfl, rfl⟩))
set_option maxRecDepth 100000 in
set_option maxHeartbeats 2000000 in
theorem twhole_s (aA : Option Addr) (ac : Nat) (aB : Option Addr) (ad : Nat) (a : Rat) (dr : Int) (w : World) (ha : NatV w aA ac (mg a.num)) (ga : NatV w aB ad a.den)  (la : nl (mg a.num) ≤ 100000) (ma : nl a.den ≤ 100000) (d0 : 0 ≤ dr) (d3 : dr ≤ 3) :
    Calls Tryz.prog 66 #[.agg #[.bool (sg a.num), .slice aA (nl (mg a.num)) ac, .slice aB (nl a.den) ad], .int .i64 dr] w (RetI w (rnd dr a)) := by
  have lf := Nat.le_trans (nl_mono (ceil_abs a)) la
  replace lf : nl (mg a.ceil) ≤ 1048576 := by omega
  have HS := sure_cases a dr d0 d3
  obtain ⟨sn, Esn⟩ : ∃ z, z = a.num.sign := ⟨_, rfl⟩
  rw [← Esn] at HS
  have CG := fun (W : World) (h1 : NatV W aA ac (mg a.num)) (h2 : NatV W aB ad a.den) => r9sign_c aA ac aB ad a W h1 h2 (by omega)
  rw [← Esn] at CG
  obtain ⟨y, Ey⟩ : ∃ z : Int, z = rnd dr a := ⟨_, rfl⟩
  rw [← Ey] at HS ⊢
  replace CG := Lib.hid CG
  replace Esn := Lib.hid Esn
  replace HS := Lib.hid HS
  replace Ey := Lib.hid Ey
  obtain ⟨lo, Elo⟩ : ∃ z, z = a.floor := ⟨_, rfl⟩
  obtain ⟨up, Eup⟩ : ∃ z, z = a.ceil := ⟨_, rfl⟩
  have C1 := fun (W : World) (h1 : NatV W aA ac (mg a.num)) (h2 : NatV W aB ad a.den) => r9floor_c aA ac aB ad a W h1 h2 (by omega) (by omega)
  rw [← Elo] at C1
  have C2 := fun (W : World) (h1 : NatV W aA ac (mg a.num)) (h2 : NatV W aB ad a.den) => r9ceil_c aA ac aB ad a W h1 h2 (by omega) (by omega) lf
  rw [← Eup] at C2
  replace C1 := Lib.hid C1
  replace C2 := Lib.hid C2
  replace Elo := Lib.hid Elo
  replace Eup := Lib.hid Eup
  have hb1 : Below (w).heap.size (w) ((w.alloc (.cells #[.bool (sg a.num), .slice aA (nl (mg a.num)) ac, .slice aB (nl a.den) ad] 26)).alloc (.cells #[.bool false, .slice none 0 0] 24)) := (Below.alloc (Below.alloc (Below.refl _ _) (Nat.le_refl _) _) (by simp <;> omega) _)
  replace ha := ha.below hb1
  replace ga := ga.below hb1
  have HBT := hb1
  clear hb1
  have Ra : BoxA ((w.alloc (.cells #[.bool (sg a.num), .slice aA (nl (mg a.num)) ac, .slice aB (nl a.den) ad] 26)).alloc (.cells #[.bool false, .slice none 0 0] 24)) w.heap.size 26 #[.bool (sg a.num), .slice aA (nl (mg a.num)) ac, .slice aB (nl a.den) ad] := ⟨by repeat (first | exact at_new (by first | (simp; done) | (simp; omega)) | refine at_old (by first | (simp; done) | (simp; omega)) ?_)⟩
  have qa0 := Ra.c (i := 0) rfl
  have qa1 := Ra.c (i := 1) rfl
  have qa2 := Ra.c (i := 2) rfl
  have Rr : BoxA ((w.alloc (.cells #[.bool (sg a.num), .slice aA (nl (mg a.num)) ac, .slice aB (nl a.den) ad] 26)).alloc (.cells #[.bool false, .slice none 0 0] 24)) (w.heap.size + 1) 24 #[.bool false, .slice none 0 0] := ⟨by repeat (first | exact at_new (by first | (simp; done) | (simp; omega)) | refine at_old (by first | (simp; done) | (simp; omega)) ?_)⟩
  have qr0 := Rr.c (i := 0) rfl
  have qr1 := Rr.c (i := 1) rfl
  go_enter Tryz.func66, Tryz.ntmps66
  go_wp2_with (fail)
  generalize hW0 : ((w.alloc (.cells #[.bool (sg a.num), .slice aA (nl (mg a.num)) ac, .slice aB (nl a.den) ad] 26)).alloc (.cells #[.bool false, .slice none 0 0] 24)) = W0 at *
  replace hW0 := Lib.hid hW0
  refine wp_region_inv (fun E a' w' => ∃ (u11 u12 u13 u14 u5 u6 : Value),
    a' = { tmps := #[.agg #[.bool (sg a.num), .slice aA (nl (mg a.num)) ac, .slice aB (nl a.den) ad], .int .i64 dr, .pointer (some ⟨w.heap.size, 0, none⟩), undef, .pointer (some ⟨(w.heap.size + 1), 0, none⟩), u5, u6, undef, undef, undef, undef, u11, u12, u13, u14, undef, undef, undef, undef, undef, undef, undef, undef, undef, undef, undef, undef, undef, undef, undef, undef, undef, undef, undef, undef, undef, undef, undef, undef, undef, undef, undef, undef, undef, undef, undef, undef, undef, undef, undef, undef, undef, undef, undef, undef, undef, undef, undef, undef, undef, undef, undef, undef, undef], defers := [] } ∧
    (E 0 = true → u11 = .agg #[.bool (sg a.num), .slice aA (nl (mg a.num)) ac, .slice aB (nl a.den) ad]) ∧
    (E 1 = true → PI u12 lo w') ∧
    (E 2 = true → u13 = .agg #[.bool (sg a.num), .slice aA (nl (mg a.num)) ac, .slice aB (nl a.den) ad]) ∧
    (E 3 = true → PI u14 up w') ∧
    (E 4 = true → PB2 24 W0.heap.size u5 w') ∧
    (E 5 = true → PB2 24 W0.heap.size u6 w') ∧
    (E 6 = true → PBI W0.heap.size u5 lo w') ∧
    (E 7 = true → PBI W0.heap.size u6 up w') ∧
    (E 6 = true → E 4 = true) ∧
    (E 7 = true → E 5 = true) ∧
    (E 4 = true → E 5 = true → u5 ≠ u6) ∧
    Below W0.heap.size W0 w') (by kernel_rfl) (by kernel_rfl) ?init ?fin ?step
  case init => exact ⟨_, _, _, _, _, _, rfl, by simp, by simp, by simp, by simp, by simp, by simp, by simp, by simp, by simp, by simp, by simp, (Below.refl _ _).drew⟩
  case step =>
    rintro E a' w' i ⟨u11, u12, u13, u14, u5, u6, rfl, h0, h1, h2, h3, h4, h5, h6, h7, hD6, hD7, hN4_5, hB⟩ hi hEi hdep
    have qa0 := cell_below hB qa0
    have qa1 := cell_below hB qa1
    have qa2 := cell_below hB qa2
    obtain rfl | rfl | rfl | rfl | rfl | rfl | rfl | rfl : i = 0 ∨ i = 1 ∨ i = 2 ∨ i = 3 ∨ i = 4 ∨ i = 5 ∨ i = 6 ∨ i = 7 := by simp at hi; omega
    · skip
      refine wpOp_step rfl (fun K' hK' => ?_)
      go_simp
      refine hK' _ _ ?_
      exact ⟨_, _, _, _, _, _, rfl, fun _ => rfl, keepD (by decide) h1, keepD (by decide) h2, keepD (by decide) h3, keepD (by decide) h4, keepD (by decide) h5, keepD (by decide) h6, keepD (by decide) h7, (fun h => by have := hD6 (by simpa using h); simpa using this), (fun h => by have := hD7 (by simpa using h); simpa using this), (fun h k => hN4_5 (by simpa using h) (by simpa using k)), hB⟩
    · skip
      have d0 := hdep _ rfl ⟨0, .data⟩ (by simp) rfl
      obtain rfl := h0 d0
      refine wpOp_step rfl (fun K' hK' => ?_)
      go_simp
      refine (Calls.mono (C1.out w' (ha.below hB) (ga.below hB)) ?_)
      rintro e W1 ⟨Xr, cr, rfl, kr, kb⟩
      refine hK' _ _ ?_
      exact ⟨_, _, _, _, _, _, rfl, keepD (by decide) h0, fun _ => ⟨Xr, cr, rfl, kr⟩, keepD (by decide) h2, keepP (by decide) h3 (fun h => h.below kb), keepP (by decide) h4 (fun h => h.below kb), keepP (by decide) h5 (fun h => h.below kb), keepP (by decide) h6 (fun h => h.below kb), keepP (by decide) h7 (fun h => h.below kb), (fun h => by have := hD6 (by simpa using h); simpa using this), (fun h => by have := hD7 (by simpa using h); simpa using this), (fun h k => hN4_5 (by simpa using h) (by simpa using k)), Below.cons hB kb⟩
    · skip
      refine wpOp_step rfl (fun K' hK' => ?_)
      go_simp
      refine hK' _ _ ?_
      exact ⟨_, _, _, _, _, _, rfl, keepD (by decide) h0, keepD (by decide) h1, fun _ => rfl, keepD (by decide) h3, keepD (by decide) h4, keepD (by decide) h5, keepD (by decide) h6, keepD (by decide) h7, (fun h => by have := hD6 (by simpa using h); simpa using this), (fun h => by have := hD7 (by simpa using h); simpa using this), (fun h k => hN4_5 (by simpa using h) (by simpa using k)), hB⟩
    · skip
      have d2 := hdep _ rfl ⟨2, .data⟩ (by simp) rfl
      obtain rfl := h2 d2
      refine wpOp_step rfl (fun K' hK' => ?_)
      go_simp
      refine (Calls.mono (C2.out w' (ha.below hB) (ga.below hB)) ?_)
      rintro e W1 ⟨Xr, cr, rfl, kr, kb⟩
      refine hK' _ _ ?_
      exact ⟨_, _, _, _, _, _, rfl, keepD (by decide) h0, keepP (by decide) h1 (fun h => h.below kb), keepD (by decide) h2, fun _ => ⟨Xr, cr, rfl, kr⟩, keepP (by decide) h4 (fun h => h.below kb), keepP (by decide) h5 (fun h => h.below kb), keepP (by decide) h6 (fun h => h.below kb), keepP (by decide) h7 (fun h => h.below kb), (fun h => by have := hD6 (by simpa using h); simpa using this), (fun h => by have := hD7 (by simpa using h); simpa using this), (fun h k => hN4_5 (by simpa using h) (by simpa using k)), Below.cons hB kb⟩
    · skip
      have kb : Below w'.heap.size w' (w'.alloc (.cells #[.bool false, .slice none 0 0] 24)) := (Below.refl _ _).alloc (Nat.le_refl _) _
      refine wpOp_step rfl (fun K' hK' => ?_)
      go_simp
      refine hK' _ _ ?_
      exact ⟨_, _, _, _, _, _, rfl, keepD (by decide) h0, keepP (by decide) h1 (fun h => h.below kb), keepD (by decide) h2, keepP (by decide) h3 (fun h => h.below kb), fun _ => ⟨_, _, _, rfl, hB.size, ⟨at_new rfl⟩, notU_bool _, notU_slice _ _ _⟩, keepP (by decide) h5 (fun h => h.below kb), (fun h => by have h2 := hD6 (by simpa using h); rw [hEi] at h2; cases h2), keepP (by decide) h7 (fun h => h.below kb), (fun _ => by simp), (fun h => by have := hD7 (by simpa using h); simpa using this), (fun _ h => by obtain ⟨n2, e2, l2⟩ := (h5 (by simpa using h)).lt; rw [e2]; intro e3; simp at e3 <;> omega), Below.cons hB kb⟩
    · skip
      have kb : Below w'.heap.size w' (w'.alloc (.cells #[.bool false, .slice none 0 0] 24)) := (Below.refl _ _).alloc (Nat.le_refl _) _
      refine wpOp_step rfl (fun K' hK' => ?_)
      go_simp
      refine hK' _ _ ?_
      exact ⟨_, _, _, _, _, _, rfl, keepD (by decide) h0, keepP (by decide) h1 (fun h => h.below kb), keepD (by decide) h2, keepP (by decide) h3 (fun h => h.below kb), keepP (by decide) h4 (fun h => h.below kb), fun _ => ⟨_, _, _, rfl, hB.size, ⟨at_new rfl⟩, notU_bool _, notU_slice _ _ _⟩, keepP (by decide) h6 (fun h => h.below kb), (fun h => by have h2 := hD7 (by simpa using h); rw [hEi] at h2; cases h2), (fun h => by have := hD6 (by simpa using h); simpa using this), (fun _ => by simp), (fun h _ => by obtain ⟨n2, e2, l2⟩ := (h4 (by simpa using h)).lt; rw [e2]; intro e3; simp at e3 <;> omega), Below.cons hB kb⟩
    · skip
      have d4 := hdep _ rfl ⟨4, .data⟩ (by simp) rfl
      obtain ⟨nb, z0, z1, rfl, hn, hb, nz0, nz1⟩ := h4 d4
      have d1 := hdep _ rfl ⟨1, .data⟩ (by simp) rfl
      obtain ⟨X_1, c_1, rfl, k_1⟩ := h1 d1
      have fz0 := hb.f (i := 0)
      have cz0 := hb.c (i := 0) rfl
      have fz1 := hb.f (i := 1)
      have cz1 := hb.c (i := 1) rfl
      have hp := hb.put2 (notU2 nz0 nz1) (.bool (sg lo)) (.slice X_1 (nl (mg lo)) c_1)
      have hs := hb.store2 (.bool (sg lo)) (.slice X_1 (nl (mg lo)) c_1)
      refine wpOp_step rfl (fun K' hK' => ?_)
      go_simp
      refine hK' _ _ ?_
      exact ⟨_, _, _, _, _, _, rfl, keepD (by decide) h0, keepP (by decide) h1 (fun h => h.put hp), keepD (by decide) h2, keepP (by decide) h3 (fun h => h.put hp), (fun _ => ⟨nb, _, _, rfl, hn, hs, notU_bool _, notU_slice _ _ _⟩), keepP' (by decide) h5 (fun e h => h.put hp (fun e3 => hN4_5 d4 (by simpa using e) e3.symm)), fun _ => ⟨nb, X_1, c_1, rfl, hn, hs, hp.nat k_1⟩, keepP' (by decide) h7 (fun e h => h.put hp (fun e3 => hN4_5 d4 (hD7 (by simpa using e)) e3.symm)), (fun _ => by simp [d4]), (fun h => by have := hD7 (by simpa using h); simpa using this), (fun h k => hN4_5 (by simpa using h) (by simpa using k)), Below.store2 hB hn⟩
    · skip
      have d5 := hdep _ rfl ⟨5, .data⟩ (by simp) rfl
      obtain ⟨nb, z0, z1, rfl, hn, hb, nz0, nz1⟩ := h5 d5
      have d3 := hdep _ rfl ⟨3, .data⟩ (by simp) rfl
      obtain ⟨X_3, c_3, rfl, k_3⟩ := h3 d3
      have fz0 := hb.f (i := 0)
      have cz0 := hb.c (i := 0) rfl
      have fz1 := hb.f (i := 1)
      have cz1 := hb.c (i := 1) rfl
      have hp := hb.put2 (notU2 nz0 nz1) (.bool (sg up)) (.slice X_3 (nl (mg up)) c_3)
      have hs := hb.store2 (.bool (sg up)) (.slice X_3 (nl (mg up)) c_3)
      refine wpOp_step rfl (fun K' hK' => ?_)
      go_simp
      refine hK' _ _ ?_
      exact ⟨_, _, _, _, _, _, rfl, keepD (by decide) h0, keepP (by decide) h1 (fun h => h.put hp), keepD (by decide) h2, keepP (by decide) h3 (fun h => h.put hp), keepP' (by decide) h4 (fun e h => h.put hp (hN4_5 (by simpa using e) d5)), (fun _ => ⟨nb, _, _, rfl, hn, hs, notU_bool _, notU_slice _ _ _⟩), keepP' (by decide) h6 (fun e h => h.put hp (hN4_5 (hD6 (by simpa using e)) d5)), fun _ => ⟨nb, X_3, c_3, rfl, hn, hs, hp.nat k_3⟩, (fun h => by have := hD6 (by simpa using h); simpa using this), (fun _ => by simp [d5]), (fun h k => hN4_5 (by simpa using h) (by simpa using k)), Below.store2 hB hn⟩
  case fin =>
    rintro E a' w' ⟨u11, u12, u13, u14, u5, u6, rfl, h0, h1, h2, h3, h4, h5, h6, h7, hD6, hD7, hN4_5, hB⟩ hall
    obtain ⟨nblo, Xlo, clo, rfl, hnlo, Rlo, hlo⟩ := h6 (hall 6 (by simp))
    obtain ⟨nbup, Xup, cup, rfl, hnup, Rup, hup⟩ := h7 (hall 7 (by simp))
    replace ha := ha.below hB
    replace ga := ga.below hB
    replace Ra := Ra.below hB
    replace qa0 := cell_below hB qa0
    replace qa1 := cell_below hB qa1
    replace qa2 := cell_below hB qa2
    replace Rr := Rr.below hB
    replace qr0 := cell_below hB qr0
    replace qr1 := cell_below hB qr1
    replace HBT := Below.cons HBT hB
    have kvlo := hnlo
    have qlo0 := Rlo.c (i := 0) rfl
    have qlo1 := Rlo.c (i := 1) rfl
    have kvup := hnup
    have qup0 := Rup.c (i := 0) rfl
    have qup1 := Rup.c (i := 1) rfl
    have hz : w.heap.size + 2 = W0.heap.size := by rw [← hW0.out]; simp
    go_wp2_with (fail)
    refine (Calls.mono (CG.out _ ha ga) ?_)
    rintro e W2 ⟨rfl, hb2⟩
    replace ha := ha.below hb2
    replace ga := ga.below hb2
    replace Ra := Ra.below hb2
    replace qa0 := cell_below hb2 qa0
    replace qa1 := cell_below hb2 qa1
    replace qa2 := cell_below hb2 qa2
    replace Rr := Rr.below hb2
    replace qr0 := cell_below hb2 qr0
    replace qr1 := cell_below hb2 qr1
    replace hlo := hlo.below hb2
    replace Rlo := Rlo.below hb2
    replace qlo0 := cell_below hb2 qlo0
    replace qlo1 := cell_below hb2 qlo1
    replace hup := hup.below hb2
    replace Rup := Rup.below hb2
    replace qup0 := cell_below hb2 qup0
    replace qup1 := cell_below hb2 qup1
    replace HBT := Below.cons HBT hb2
    clear hb2
    obtain ⟨hs3, HS⟩ := HS.out
    rcases HS with ⟨hy, rfl | ⟨rfl, h1⟩ | ⟨rfl, h1⟩⟩ | ⟨hy, rfl | ⟨rfl, h1⟩ | ⟨rfl, h1⟩⟩
    · skip
      replace hy := Lib.hid hy
      obtain ⟨tb, Etb⟩ : ∃ z, z = decide (sn < 0) := ⟨_, rfl⟩
      have t1 : decide (sn < 0) = tb := Etb.symm
      replace Etb := Lib.hid Etb
      clear hs3
      have fzr0 := Rr.f (i := 0)
      have fzr1 := Rr.f (i := 1)
      go_wp2_with (fail)
      have hzy : lo = y := by rw [hy.out, Elo.out]
      subst hzy
      have RS := Rr.store2 (.bool (sg lo)) (.slice Xlo (nl (mg lo)) clo)
      have e0 := RS.c (i := 0) rfl
      have e1 := RS.c (i := 1) rfl
      refine bodyPost_ret (v := .agg #[.bool (sg lo), .slice Xlo (nl (mg lo)) clo]) (by simp [results, Tryz.results66, go_sem, e0, e1]) rfl ?_
      exact ⟨Xlo, clo, rfl, (Rr.keep2 (by intro u hu; simp at hu; rcases hu with rfl | rfl <;> first | exact notU_bool _ | exact notU_slice _ _ _ | exact notU_i64 _) hlo), (Below.store2 HBT (by first | exact Nat.le_refl _ | omega))⟩
    · skip
      replace hy := Lib.hid hy
      have t1 : decide (sn < 0) = false := decide_eq_false (by omega)
      clear h1 hs3
      have fzr0 := Rr.f (i := 0)
      have fzr1 := Rr.f (i := 1)
      go_wp2_with (fail)
      have hzy : lo = y := by rw [hy.out, Elo.out]
      subst hzy
      have RS := Rr.store2 (.bool (sg lo)) (.slice Xlo (nl (mg lo)) clo)
      have e0 := RS.c (i := 0) rfl
      have e1 := RS.c (i := 1) rfl
      refine bodyPost_ret (v := .agg #[.bool (sg lo), .slice Xlo (nl (mg lo)) clo]) (by simp [results, Tryz.results66, go_sem, e0, e1]) rfl ?_
      exact ⟨Xlo, clo, rfl, (Rr.keep2 (by intro u hu; simp at hu; rcases hu with rfl | rfl <;> first | exact notU_bool _ | exact notU_slice _ _ _ | exact notU_i64 _) hlo), (Below.store2 HBT (by first | exact Nat.le_refl _ | omega))⟩
    · skip
      replace hy := Lib.hid hy
      have t1 : decide (sn < 0) = true := decide_eq_true (by omega)
      clear h1 hs3
      have fzr0 := Rr.f (i := 0)
      have fzr1 := Rr.f (i := 1)
      go_wp2_with (fail)
      have hzy : lo = y := by rw [hy.out, Elo.out]
      subst hzy
      have RS := Rr.store2 (.bool (sg lo)) (.slice Xlo (nl (mg lo)) clo)
      have e0 := RS.c (i := 0) rfl
      have e1 := RS.c (i := 1) rfl
      refine bodyPost_ret (v := .agg #[.bool (sg lo), .slice Xlo (nl (mg lo)) clo]) (by simp [results, Tryz.results66, go_sem, e0, e1]) rfl ?_
      exact ⟨Xlo, clo, rfl, (Rr.keep2 (by intro u hu; simp at hu; rcases hu with rfl | rfl <;> first | exact notU_bool _ | exact notU_slice _ _ _ | exact notU_i64 _) hlo), (Below.store2 HBT (by first | exact Nat.le_refl _ | omega))⟩
    · skip
      replace hy := Lib.hid hy
      obtain ⟨tb, Etb⟩ : ∃ z, z = decide (sn < 0) := ⟨_, rfl⟩
      have t1 : decide (sn < 0) = tb := Etb.symm
      replace Etb := Lib.hid Etb
      clear hs3
      have fzr0 := Rr.f (i := 0)
      have fzr1 := Rr.f (i := 1)
      go_wp2_with (fail)
      have hzy : up = y := by rw [hy.out, Eup.out]
      subst hzy
      have RS := Rr.store2 (.bool (sg up)) (.slice Xup (nl (mg up)) cup)
      have e0 := RS.c (i := 0) rfl
      have e1 := RS.c (i := 1) rfl
      refine bodyPost_ret (v := .agg #[.bool (sg up), .slice Xup (nl (mg up)) cup]) (by simp [results, Tryz.results66, go_sem, e0, e1]) rfl ?_
      exact ⟨Xup, cup, rfl, (Rr.keep2 (by intro u hu; simp at hu; rcases hu with rfl | rfl <;> first | exact notU_bool _ | exact notU_slice _ _ _ | exact notU_i64 _) hup), (Below.store2 HBT (by first | exact Nat.le_refl _ | omega))⟩
    · skip
      replace hy := Lib.hid hy
      have t1 : decide (sn < 0) = true := decide_eq_true (by omega)
      clear h1 hs3
      have fzr0 := Rr.f (i := 0)
      have fzr1 := Rr.f (i := 1)
      go_wp2_with (fail)
      have hzy : up = y := by rw [hy.out, Eup.out]
      subst hzy
      have RS := Rr.store2 (.bool (sg up)) (.slice Xup (nl (mg up)) cup)
      have e0 := RS.c (i := 0) rfl
      have e1 := RS.c (i := 1) rfl
      refine bodyPost_ret (v := .agg #[.bool (sg up), .slice Xup (nl (mg up)) cup]) (by simp [results, Tryz.results66, go_sem, e0, e1]) rfl ?_
      exact ⟨Xup, cup, rfl, (Rr.keep2 (by intro u hu; simp at hu; rcases hu with rfl | rfl <;> first | exact notU_bool _ | exact notU_slice _ _ _ | exact notU_i64 _) hup), (Below.store2 HBT (by first | exact Nat.le_refl _ | omega))⟩
    · skip
      replace hy := Lib.hid hy
      have t1 : decide (sn < 0) = false := decide_eq_false (by omega)
      clear h1 hs3
      have fzr0 := Rr.f (i := 0)
      have fzr1 := Rr.f (i := 1)
      go_wp2_with (fail)
      have hzy : up = y := by rw [hy.out, Eup.out]
      subst hzy
      have RS := Rr.store2 (.bool (sg up)) (.slice Xup (nl (mg up)) cup)
      have e0 := RS.c (i := 0) rfl
      have e1 := RS.c (i := 1) rfl
      refine bodyPost_ret (v := .agg #[.bool (sg up), .slice Xup (nl (mg up)) cup]) (by simp [results, Tryz.results66, go_sem, e0, e1]) rfl ?_
      exact ⟨Xup, cup, rfl, (Rr.keep2 (by intro u hu; simp at hu; rcases hu with rfl | rfl <;> first | exact notU_bool _ | exact notU_slice _ _ _ | exact notU_i64 _) hup), (Below.store2 HBT (by first | exact Nat.le_refl _ | omega))⟩
set_option maxRecDepth 100000 in
set_option maxHeartbeats 2000000 in
theorem twhole_n (aA : Option Addr) (ac : Nat) (aB : Option Addr) (ad : Nat) (a : Rat) (w : World) (ha : NatV w aA ac (mg a.num)) (ga : NatV w aB ad a.den) (la : nl (mg a.num) ≤ 100000) (ma : nl a.den ≤ 100000) :
    Calls Tryz.prog 66 #[.agg #[.bool (sg a.num), .slice aA (nl (mg a.num)) ac, .slice aB (nl a.den) ad], .int .i64 4] w (RetI w (rnd 4 a)) := by
  have Nlo := Nat.le_trans (nl_mono (floor_abs a)) la
  have Nup := Nat.le_trans (nl_mono (ceil_abs a)) la
  have lf : nl (mg a.ceil) ≤ 1048576 := by omega
  have SA := sub_sz2 a (a.floor : Rat) la ma (by rw [Rat.num_intCast]; exact Nlo) (by rw [Rat.den_intCast, nl_one]; omega)
  have SB := sub_sz2 (a.ceil : Rat) a (by rw [Rat.num_intCast]; exact Nup) (by rw [Rat.den_intCast, nl_one]; omega) la ma
  have HC := near_cases a
  obtain ⟨fa, Efa⟩ : ∃ z, z = a - (a.floor : Rat) := ⟨_, rfl⟩
  obtain ⟨fb, Efb⟩ : ∃ z, z = (a.ceil : Rat) - a := ⟨_, rfl⟩
  rw [← Efa] at SA HC
  rw [← Efb] at SB HC
  obtain ⟨rc, Erc⟩ : ∃ z, z = rcmp fa fb := ⟨_, rfl⟩
  obtain ⟨y, Ey⟩ : ∃ z : Int, z = rnd 4 a := ⟨_, rfl⟩
  rw [← Erc, ← Ey] at HC
  rw [← Ey]
  obtain ⟨sn, Esn⟩ : ∃ z, z = a.num.sign := ⟨_, rfl⟩
  have CG := fun (W : World) (h1 : NatV W aA ac (mg a.num)) (h2 : NatV W aB ad a.den) => r9sign_c aA ac aB ad a W h1 h2 (by omega)
  rw [← Esn] at CG
  replace CG := Lib.hid CG
  replace Esn := Lib.hid Esn
  replace HC := Lib.hid HC
  replace Efa := Lib.hid Efa
  replace Efb := Lib.hid Efb
  replace Erc := Lib.hid Erc
  replace Ey := Lib.hid Ey
  obtain ⟨bn, Ebn⟩ : ∃ z, z = decide (sn < 0) := ⟨_, rfl⟩
  have tb : decide (sn < 0) = bn := Ebn.symm
  replace Ebn := Lib.hid Ebn
  obtain ⟨lo, Elo⟩ : ∃ z, z = a.floor := ⟨_, rfl⟩
  obtain ⟨up, Eup⟩ : ∃ z, z = a.ceil := ⟨_, rfl⟩
  have C1 := fun (W : World) (h1 : NatV W aA ac (mg a.num)) (h2 : NatV W aB ad a.den) => r9floor_c aA ac aB ad a W h1 h2 (by omega) (by omega)
  rw [← Elo] at C1
  have C2 := fun (W : World) (h1 : NatV W aA ac (mg a.num)) (h2 : NatV W aB ad a.den) => r9ceil_c aA ac aB ad a W h1 h2 (by omega) (by omega) lf
  rw [← Eup] at C2
  replace C1 := Lib.hid C1
  replace C2 := Lib.hid C2
  replace Elo := Lib.hid Elo
  replace Eup := Lib.hid Eup
  have hb1 : Below (w).heap.size (w) ((w.alloc (.cells #[.bool (sg a.num), .slice aA (nl (mg a.num)) ac, .slice aB (nl a.den) ad] 26)).alloc (.cells #[.bool false, .slice none 0 0] 24)) := (Below.alloc (Below.alloc (Below.refl _ _) (Nat.le_refl _) _) (by simp <;> omega) _)
  replace ha := ha.below hb1
  replace ga := ga.below hb1
  have HBT := hb1
  clear hb1
  have Ra : BoxA ((w.alloc (.cells #[.bool (sg a.num), .slice aA (nl (mg a.num)) ac, .slice aB (nl a.den) ad] 26)).alloc (.cells #[.bool false, .slice none 0 0] 24)) w.heap.size 26 #[.bool (sg a.num), .slice aA (nl (mg a.num)) ac, .slice aB (nl a.den) ad] := ⟨by repeat (first | exact at_new (by first | (simp; done) | (simp; omega)) | refine at_old (by first | (simp; done) | (simp; omega)) ?_)⟩
  have qa0 := Ra.c (i := 0) rfl
  have qa1 := Ra.c (i := 1) rfl
  have qa2 := Ra.c (i := 2) rfl
  have Rr : BoxA ((w.alloc (.cells #[.bool (sg a.num), .slice aA (nl (mg a.num)) ac, .slice aB (nl a.den) ad] 26)).alloc (.cells #[.bool false, .slice none 0 0] 24)) (w.heap.size + 1) 24 #[.bool false, .slice none 0 0] := ⟨by repeat (first | exact at_new (by first | (simp; done) | (simp; omega)) | refine at_old (by first | (simp; done) | (simp; omega)) ?_)⟩
  have qr0 := Rr.c (i := 0) rfl
  have qr1 := Rr.c (i := 1) rfl
  go_enter Tryz.func66, Tryz.ntmps66
  go_wp2_with (fail)
  generalize hW0 : ((w.alloc (.cells #[.bool (sg a.num), .slice aA (nl (mg a.num)) ac, .slice aB (nl a.den) ad] 26)).alloc (.cells #[.bool false, .slice none 0 0] 24)) = W0 at *
  replace hW0 := Lib.hid hW0
  refine wp_region_inv (fun E a' w' => ∃ (u11 u12 u13 u14 u5 u6 : Value),
    a' = { tmps := #[.agg #[.bool (sg a.num), .slice aA (nl (mg a.num)) ac, .slice aB (nl a.den) ad], .int .i64 4, .pointer (some ⟨w.heap.size, 0, none⟩), undef, .pointer (some ⟨(w.heap.size + 1), 0, none⟩), u5, u6, undef, undef, undef, undef, u11, u12, u13, u14, undef, undef, undef, undef, undef, undef, undef, undef, undef, undef, undef, undef, undef, undef, undef, undef, undef, undef, undef, undef, undef, undef, undef, undef, undef, undef, undef, undef, undef, undef, undef, undef, undef, undef, undef, undef, undef, undef, undef, undef, undef, undef, undef, undef, undef, undef, undef, undef, undef], defers := [] } ∧
    (E 0 = true → u11 = .agg #[.bool (sg a.num), .slice aA (nl (mg a.num)) ac, .slice aB (nl a.den) ad]) ∧
    (E 1 = true → PI u12 lo w') ∧
    (E 2 = true → u13 = .agg #[.bool (sg a.num), .slice aA (nl (mg a.num)) ac, .slice aB (nl a.den) ad]) ∧
    (E 3 = true → PI u14 up w') ∧
    (E 4 = true → PB2 24 W0.heap.size u5 w') ∧
    (E 5 = true → PB2 24 W0.heap.size u6 w') ∧
    (E 6 = true → PBI W0.heap.size u5 lo w') ∧
    (E 7 = true → PBI W0.heap.size u6 up w') ∧
    (E 6 = true → E 4 = true) ∧
    (E 7 = true → E 5 = true) ∧
    (E 4 = true → E 5 = true → u5 ≠ u6) ∧
    Below W0.heap.size W0 w') (by kernel_rfl) (by kernel_rfl) ?init ?fin ?step
  case init => exact ⟨_, _, _, _, _, _, rfl, by simp, by simp, by simp, by simp, by simp, by simp, by simp, by simp, by simp, by simp, by simp, (Below.refl _ _).drew⟩
  case step =>
    rintro E a' w' i ⟨u11, u12, u13, u14, u5, u6, rfl, h0, h1, h2, h3, h4, h5, h6, h7, hD6, hD7, hN4_5, hB⟩ hi hEi hdep
    have qa0 := cell_below hB qa0
    have qa1 := cell_below hB qa1
    have qa2 := cell_below hB qa2
    obtain rfl | rfl | rfl | rfl | rfl | rfl | rfl | rfl : i = 0 ∨ i = 1 ∨ i = 2 ∨ i = 3 ∨ i = 4 ∨ i = 5 ∨ i = 6 ∨ i = 7 := by simp at hi; omega
    · skip
      refine wpOp_step rfl (fun K' hK' => ?_)
      go_simp
      refine hK' _ _ ?_
      exact ⟨_, _, _, _, _, _, rfl, fun _ => rfl, keepD (by decide) h1, keepD (by decide) h2, keepD (by decide) h3, keepD (by decide) h4, keepD (by decide) h5, keepD (by decide) h6, keepD (by decide) h7, (fun h => by have := hD6 (by simpa using h); simpa using this), (fun h => by have := hD7 (by simpa using h); simpa using this), (fun h k => hN4_5 (by simpa using h) (by simpa using k)), hB⟩
    · skip
      have d0 := hdep _ rfl ⟨0, .data⟩ (by simp) rfl
      obtain rfl := h0 d0
      refine wpOp_step rfl (fun K' hK' => ?_)
      go_simp
      refine (Calls.mono (C1.out w' (ha.below hB) (ga.below hB)) ?_)
      rintro e W1 ⟨Xr, cr, rfl, kr, kb⟩
      refine hK' _ _ ?_
      exact ⟨_, _, _, _, _, _, rfl, keepD (by decide) h0, fun _ => ⟨Xr, cr, rfl, kr⟩, keepD (by decide) h2, keepP (by decide) h3 (fun h => h.below kb), keepP (by decide) h4 (fun h => h.below kb), keepP (by decide) h5 (fun h => h.below kb), keepP (by decide) h6 (fun h => h.below kb), keepP (by decide) h7 (fun h => h.below kb), (fun h => by have := hD6 (by simpa using h); simpa using this), (fun h => by have := hD7 (by simpa using h); simpa using this), (fun h k => hN4_5 (by simpa using h) (by simpa using k)), Below.cons hB kb⟩
    · skip
      refine wpOp_step rfl (fun K' hK' => ?_)
      go_simp
      refine hK' _ _ ?_
      exact ⟨_, _, _, _, _, _, rfl, keepD (by decide) h0, keepD (by decide) h1, fun _ => rfl, keepD (by decide) h3, keepD (by decide) h4, keepD (by decide) h5, keepD (by decide) h6, keepD (by decide) h7, (fun h => by have := hD6 (by simpa using h); simpa using this), (fun h => by have := hD7 (by simpa using h); simpa using this), (fun h k => hN4_5 (by simpa using h) (by simpa using k)), hB⟩
    · skip
      have d2 := hdep _ rfl ⟨2, .data⟩ (by simp) rfl
      obtain rfl := h2 d2
      refine wpOp_step rfl (fun K' hK' => ?_)
      go_simp
      refine (Calls.mono (C2.out w' (ha.below hB) (ga.below hB)) ?_)
      rintro e W1 ⟨Xr, cr, rfl, kr, kb⟩
      refine hK' _ _ ?_
      exact ⟨_, _, _, _, _, _, rfl, keepD (by decide) h0, keepP (by decide) h1 (fun h => h.below kb), keepD (by decide) h2, fun _ => ⟨Xr, cr, rfl, kr⟩, keepP (by decide) h4 (fun h => h.below kb), keepP (by decide) h5 (fun h => h.below kb), keepP (by decide) h6 (fun h => h.below kb), keepP (by decide) h7 (fun h => h.below kb), (fun h => by have := hD6 (by simpa using h); simpa using this), (fun h => by have := hD7 (by simpa using h); simpa using this), (fun h k => hN4_5 (by simpa using h) (by simpa using k)), Below.cons hB kb⟩
    · skip
      have kb : Below w'.heap.size w' (w'.alloc (.cells #[.bool false, .slice none 0 0] 24)) := (Below.refl _ _).alloc (Nat.le_refl _) _
      refine wpOp_step rfl (fun K' hK' => ?_)
      go_simp
      refine hK' _ _ ?_
      exact ⟨_, _, _, _, _, _, rfl, keepD (by decide) h0, keepP (by decide) h1 (fun h => h.below kb), keepD (by decide) h2, keepP (by decide) h3 (fun h => h.below kb), fun _ => ⟨_, _, _, rfl, hB.size, ⟨at_new rfl⟩, notU_bool _, notU_slice _ _ _⟩, keepP (by decide) h5 (fun h => h.below kb), (fun h => by have h2 := hD6 (by simpa using h); rw [hEi] at h2; cases h2), keepP (by decide) h7 (fun h => h.below kb), (fun _ => by simp), (fun h => by have := hD7 (by simpa using h); simpa using this), (fun _ h => by obtain ⟨n2, e2, l2⟩ := (h5 (by simpa using h)).lt; rw [e2]; intro e3; simp at e3 <;> omega), Below.cons hB kb⟩
    · skip
      have kb : Below w'.heap.size w' (w'.alloc (.cells #[.bool false, .slice none 0 0] 24)) := (Below.refl _ _).alloc (Nat.le_refl _) _
      refine wpOp_step rfl (fun K' hK' => ?_)
      go_simp
      refine hK' _ _ ?_
      exact ⟨_, _, _, _, _, _, rfl, keepD (by decide) h0, keepP (by decide) h1 (fun h => h.below kb), keepD (by decide) h2, keepP (by decide) h3 (fun h => h.below kb), keepP (by decide) h4 (fun h => h.below kb), fun _ => ⟨_, _, _, rfl, hB.size, ⟨at_new rfl⟩, notU_bool _, notU_slice _ _ _⟩, keepP (by decide) h6 (fun h => h.below kb), (fun h => by have h2 := hD7 (by simpa using h); rw [hEi] at h2; cases h2), (fun h => by have := hD6 (by simpa using h); simpa using this), (fun _ => by simp), (fun h _ => by obtain ⟨n2, e2, l2⟩ := (h4 (by simpa using h)).lt; rw [e2]; intro e3; simp at e3 <;> omega), Below.cons hB kb⟩
    · skip
      have d4 := hdep _ rfl ⟨4, .data⟩ (by simp) rfl
      obtain ⟨nb, z0, z1, rfl, hn, hb, nz0, nz1⟩ := h4 d4
      have d1 := hdep _ rfl ⟨1, .data⟩ (by simp) rfl
      obtain ⟨X_1, c_1, rfl, k_1⟩ := h1 d1
      have fz0 := hb.f (i := 0)
      have cz0 := hb.c (i := 0) rfl
      have fz1 := hb.f (i := 1)
      have cz1 := hb.c (i := 1) rfl
      have hp := hb.put2 (notU2 nz0 nz1) (.bool (sg lo)) (.slice X_1 (nl (mg lo)) c_1)
      have hs := hb.store2 (.bool (sg lo)) (.slice X_1 (nl (mg lo)) c_1)
      refine wpOp_step rfl (fun K' hK' => ?_)
      go_simp
      refine hK' _ _ ?_
      exact ⟨_, _, _, _, _, _, rfl, keepD (by decide) h0, keepP (by decide) h1 (fun h => h.put hp), keepD (by decide) h2, keepP (by decide) h3 (fun h => h.put hp), (fun _ => ⟨nb, _, _, rfl, hn, hs, notU_bool _, notU_slice _ _ _⟩), keepP' (by decide) h5 (fun e h => h.put hp (fun e3 => hN4_5 d4 (by simpa using e) e3.symm)), fun _ => ⟨nb, X_1, c_1, rfl, hn, hs, hp.nat k_1⟩, keepP' (by decide) h7 (fun e h => h.put hp (fun e3 => hN4_5 d4 (hD7 (by simpa using e)) e3.symm)), (fun _ => by simp [d4]), (fun h => by have := hD7 (by simpa using h); simpa using this), (fun h k => hN4_5 (by simpa using h) (by simpa using k)), Below.store2 hB hn⟩
    · skip
      have d5 := hdep _ rfl ⟨5, .data⟩ (by simp) rfl
      obtain ⟨nb, z0, z1, rfl, hn, hb, nz0, nz1⟩ := h5 d5
      have d3 := hdep _ rfl ⟨3, .data⟩ (by simp) rfl
      obtain ⟨X_3, c_3, rfl, k_3⟩ := h3 d3
      have fz0 := hb.f (i := 0)
      have cz0 := hb.c (i := 0) rfl
      have fz1 := hb.f (i := 1)
      have cz1 := hb.c (i := 1) rfl
      have hp := hb.put2 (notU2 nz0 nz1) (.bool (sg up)) (.slice X_3 (nl (mg up)) c_3)
      have hs := hb.store2 (.bool (sg up)) (.slice X_3 (nl (mg up)) c_3)
      refine wpOp_step rfl (fun K' hK' => ?_)
      go_simp
      refine hK' _ _ ?_
      exact ⟨_, _, _, _, _, _, rfl, keepD (by decide) h0, keepP (by decide) h1 (fun h => h.put hp), keepD (by decide) h2, keepP (by decide) h3 (fun h => h.put hp), keepP' (by decide) h4 (fun e h => h.put hp (hN4_5 (by simpa using e) d5)), (fun _ => ⟨nb, _, _, rfl, hn, hs, notU_bool _, notU_slice _ _ _⟩), keepP' (by decide) h6 (fun e h => h.put hp (hN4_5 (hD6 (by simpa using e)) d5)), fun _ => ⟨nb, X_3, c_3, rfl, hn, hs, hp.nat k_3⟩, (fun h => by have := hD6 (by simpa using h); simpa using this), (fun _ => by simp [d5]), (fun h k => hN4_5 (by simpa using h) (by simpa using k)), Below.store2 hB hn⟩
  case fin =>
    rintro E a' w' ⟨u11, u12, u13, u14, u5, u6, rfl, h0, h1, h2, h3, h4, h5, h6, h7, hD6, hD7, hN4_5, hB⟩ hall
    obtain ⟨nblo, Xlo, clo, rfl, hnlo, Rlo, hlo⟩ := h6 (hall 6 (by simp))
    obtain ⟨nbup, Xup, cup, rfl, hnup, Rup, hup⟩ := h7 (hall 7 (by simp))
    replace ha := ha.below hB
    replace ga := ga.below hB
    replace Ra := Ra.below hB
    replace qa0 := cell_below hB qa0
    replace qa1 := cell_below hB qa1
    replace qa2 := cell_below hB qa2
    replace Rr := Rr.below hB
    replace qr0 := cell_below hB qr0
    replace qr1 := cell_below hB qr1
    replace HBT := Below.cons HBT hB
    have kvlo := hnlo
    have qlo0 := Rlo.c (i := 0) rfl
    have qlo1 := Rlo.c (i := 1) rfl
    have kvup := hnup
    have qup0 := Rup.c (i := 0) rfl
    have qup1 := Rup.c (i := 1) rfl
    have hz : w.heap.size + 2 = W0.heap.size := by rw [← hW0.out]; simp
    have Hlo : lo = a.floor := Elo.out
    have Hup : up = a.ceil := Eup.out
    rw [← Hlo] at Nlo
    rw [← Hup] at Nup
    replace Hlo := Lib.hid Hlo
    replace Hup := Lib.hid Hup
    go_wp2_with (fail)
    refine (Calls.mono (CG.out _ ha ga) ?_)
    rintro e W2 ⟨rfl, hb2⟩
    replace ha := ha.below hb2
    replace ga := ga.below hb2
    replace Ra := Ra.below hb2
    replace qa0 := cell_below hb2 qa0
    replace qa1 := cell_below hb2 qa1
    replace qa2 := cell_below hb2 qa2
    replace Rr := Rr.below hb2
    replace qr0 := cell_below hb2 qr0
    replace qr1 := cell_below hb2 qr1
    replace hlo := hlo.below hb2
    replace Rlo := Rlo.below hb2
    replace qlo0 := cell_below hb2 qlo0
    replace qlo1 := cell_below hb2 qlo1
    replace hup := hup.below hb2
    replace Rup := Rup.below hb2
    replace qup0 := cell_below hb2 qup0
    replace qup1 := cell_below hb2 qup1
    replace HBT := Below.cons HBT hb2
    clear hb2
    go_wp2_with (fail)
    obtain ⟨xl, Exl⟩ : ∃ z : Rat, z = (lo : Rat) := ⟨_, rfl⟩
    obtain ⟨xu, Exu⟩ : ∃ z : Rat, z = (up : Rat) := ⟨_, rfl⟩
    have Nxl : nl (mg xl.num) ≤ 100000 ∧ nl xl.den ≤ 1 := by rw [Exl, Rat.num_intCast, Rat.den_intCast, nl_one]; exact ⟨Nlo, Nat.le_refl _⟩
    have Nxu : nl (mg xu.num) ≤ 100000 ∧ nl xu.den ≤ 1 := by rw [Exu, Rat.num_intCast, Rat.den_intCast, nl_one]; exact ⟨Nup, Nat.le_refl _⟩
    have C3 := fun (W : World) (A : Option Addr) (c : Nat) (h : NatV W A c (mg lo)) => r9whole_c A c lo W h
    rw [← Exl] at C3
    have C4 := fun (W : World) (A : Option Addr) (c : Nat) (h : NatV W A c (mg up)) => r9whole_c A c up W h
    rw [← Exu] at C4
    have C5 := fun (W : World) (A : Option Addr) (c : Nat) (B : Option Addr) (d : Nat) (h1 : NatV W aA ac (mg a.num)) (h2 : NatV W aB ad a.den) (h3 : NatV W A c (mg xl.num)) (h4 : NatV W B d xl.den) => (show Calls Tryz.prog 32 #[.agg #[.bool (sg a.num), .slice aA (nl (mg a.num)) ac, .slice aB (nl a.den) ad], .agg #[.bool (sg xl.num), .slice A (nl (mg xl.num)) c, .slice B (nl xl.den) d]] W (RetR W fa) by rw [Efa.out, ← Hlo.out, ← Exl]; exact r9sub_c aA ac aB ad a A c B d xl W h1 h2 h3 h4 (by omega) (by omega) (by omega) (by omega))
    have C6 := fun (W : World) (A : Option Addr) (c : Nat) (B : Option Addr) (d : Nat) (h1 : NatV W aA ac (mg a.num)) (h2 : NatV W aB ad a.den) (h3 : NatV W A c (mg xu.num)) (h4 : NatV W B d xu.den) => (show Calls Tryz.prog 32 #[.agg #[.bool (sg xu.num), .slice A (nl (mg xu.num)) c, .slice B (nl xu.den) d], .agg #[.bool (sg a.num), .slice aA (nl (mg a.num)) ac, .slice aB (nl a.den) ad]] W (RetR W fb) by rw [Efb.out, ← Hup.out, ← Exu]; exact r9sub_c A c B d xu aA ac aB ad a W h3 h4 h1 h2 (by omega) (by omega) (by omega) (by omega))
    replace C3 := Lib.hid C3
    replace C4 := Lib.hid C4
    replace C5 := Lib.hid C5
    replace C6 := Lib.hid C6
    replace Exl := Lib.hid Exl
    replace Exu := Lib.hid Exu
    refine wp_region_inv (fun E a' w' => ∃ (u39 u40 u41 u42 u43 u44 u45 u46 u8 u9 : Value),
      a' = { tmps := #[.agg #[.bool (sg a.num), .slice aA (nl (mg a.num)) ac, .slice aB (nl a.den) ad], .int .i64 4, .pointer (some ⟨w.heap.size, 0, none⟩), undef, .pointer (some ⟨(w.heap.size + 1), 0, none⟩), .pointer (some ⟨nblo, 0, none⟩), .pointer (some ⟨nbup, 0, none⟩), .bool bn, u8, u9, undef, .agg #[.bool (sg a.num), .slice aA (nl (mg a.num)) ac, .slice aB (nl a.den) ad], u12, .agg #[.bool (sg a.num), .slice aA (nl (mg a.num)) ac, .slice aB (nl a.den) ad], u14, .agg #[.bool (sg a.num), .slice aA (nl (mg a.num)) ac, .slice aB (nl a.den) ad], .int .i64 sn, .bool bn, .int .i64 4, .bool false, .bool false, .int .i64 4, .bool false, .bool false, undef, undef, .bool false, .bool false, .bool false, .int .i64 4, .bool false, .bool false, undef, .bool false, .bool false, undef, .int .i64 4, .bool false, undef, u39, u40, u41, u42, u43, u44, u45, u46, undef, undef, undef, undef, undef, undef, undef, undef, undef, undef, undef, undef, undef, undef, undef, undef, undef], defers := [] } ∧
      (E 0 = true → u39 = .agg #[.bool (sg a.num), .slice aA (nl (mg a.num)) ac, .slice aB (nl a.den) ad]) ∧
      (E 1 = true → u40 = .agg #[.bool (sg lo), .slice Xlo (nl (mg lo)) clo]) ∧
      (E 2 = true → PR u41 xl w') ∧
      (E 3 = true → PR u42 fa w') ∧
      (E 4 = true → u43 = .agg #[.bool (sg up), .slice Xup (nl (mg up)) cup]) ∧
      (E 5 = true → PR u44 xu w') ∧
      (E 6 = true → u45 = .agg #[.bool (sg a.num), .slice aA (nl (mg a.num)) ac, .slice aB (nl a.den) ad]) ∧
      (E 7 = true → PR u46 fb w') ∧
      (E 8 = true → PB3 26 W2.heap.size u8 w') ∧
      (E 9 = true → PB3 26 W2.heap.size u9 w') ∧
      (E 10 = true → PBR W2.heap.size u8 fa w') ∧
      (E 11 = true → PBR W2.heap.size u9 fb w') ∧
      (E 10 = true → E 8 = true) ∧
      (E 11 = true → E 9 = true) ∧
      (E 8 = true → E 9 = true → u8 ≠ u9) ∧
      Below W2.heap.size W2 w') (by kernel_rfl) (by kernel_rfl) ?init ?fin ?step
    case init => exact ⟨_, _, _, _, _, _, _, _, _, _, rfl, by simp, by simp, by simp, by simp, by simp, by simp, by simp, by simp, by simp, by simp, by simp, by simp, by simp, by simp, by simp, (Below.refl _ _).drew⟩
    case step =>
      rintro E a' w' i ⟨u39, u40, u41, u42, u43, u44, u45, u46, u8, u9, rfl, h0, h1, h2, h3, h4, h5, h6, h7, h8, h9, h10, h11, hD10, hD11, hN8_9, hB⟩ hi hEi hdep
      have qa0 := cell_below hB qa0
      have qa1 := cell_below hB qa1
      have qa2 := cell_below hB qa2
      have qlo0 := cell_below hB qlo0
      have qlo1 := cell_below hB qlo1
      have qup0 := cell_below hB qup0
      have qup1 := cell_below hB qup1
      obtain rfl | rfl | rfl | rfl | rfl | rfl | rfl | rfl | rfl | rfl | rfl | rfl : i = 0 ∨ i = 1 ∨ i = 2 ∨ i = 3 ∨ i = 4 ∨ i = 5 ∨ i = 6 ∨ i = 7 ∨ i = 8 ∨ i = 9 ∨ i = 10 ∨ i = 11 := by simp at hi; omega
      · skip
        refine wpOp_step rfl (fun K' hK' => ?_)
        go_simp
        refine hK' _ _ ?_
        exact ⟨_, _, _, _, _, _, _, _, _, _, rfl, fun _ => rfl, keepD (by decide) h1, keepD (by decide) h2, keepD (by decide) h3, keepD (by decide) h4, keepD (by decide) h5, keepD (by decide) h6, keepD (by decide) h7, keepD (by decide) h8, keepD (by decide) h9, keepD (by decide) h10, keepD (by decide) h11, (fun h => by have := hD10 (by simpa using h); simpa using this), (fun h => by have := hD11 (by simpa using h); simpa using this), (fun h k => hN8_9 (by simpa using h) (by simpa using k)), hB⟩
      · skip
        refine wpOp_step rfl (fun K' hK' => ?_)
        go_simp
        refine hK' _ _ ?_
        exact ⟨_, _, _, _, _, _, _, _, _, _, rfl, keepD (by decide) h0, fun _ => rfl, keepD (by decide) h2, keepD (by decide) h3, keepD (by decide) h4, keepD (by decide) h5, keepD (by decide) h6, keepD (by decide) h7, keepD (by decide) h8, keepD (by decide) h9, keepD (by decide) h10, keepD (by decide) h11, (fun h => by have := hD10 (by simpa using h); simpa using this), (fun h => by have := hD11 (by simpa using h); simpa using this), (fun h k => hN8_9 (by simpa using h) (by simpa using k)), hB⟩
      · skip
        have d1 := hdep _ rfl ⟨1, .data⟩ (by simp) rfl
        obtain rfl := h1 d1
        refine wpOp_step rfl (fun K' hK' => ?_)
        go_simp
        refine (Calls.mono (C3.out w' _ _ (hlo.below hB)) ?_)
        rintro e W1 ⟨Xr, cr, Yr, dr, rfl, kr, lr, kb⟩
        refine hK' _ _ ?_
        exact ⟨_, _, _, _, _, _, _, _, _, _, rfl, keepD (by decide) h0, keepD (by decide) h1, fun _ => ⟨Xr, cr, Yr, dr, rfl, kr, lr⟩, keepP (by decide) h3 (fun h => h.below kb), keepD (by decide) h4, keepP (by decide) h5 (fun h => h.below kb), keepD (by decide) h6, keepP (by decide) h7 (fun h => h.below kb), keepP (by decide) h8 (fun h => h.below kb), keepP (by decide) h9 (fun h => h.below kb), keepP (by decide) h10 (fun h => h.below kb), keepP (by decide) h11 (fun h => h.below kb), (fun h => by have := hD10 (by simpa using h); simpa using this), (fun h => by have := hD11 (by simpa using h); simpa using this), (fun h k => hN8_9 (by simpa using h) (by simpa using k)), Below.cons hB kb⟩
      · skip
        have d0 := hdep _ rfl ⟨0, .data⟩ (by simp) rfl
        obtain rfl := h0 d0
        have d2 := hdep _ rfl ⟨2, .data⟩ (by simp) rfl
        obtain ⟨X_2, c_2, Y_2, d_2, rfl, k_2, l_2⟩ := h2 d2
        refine wpOp_step rfl (fun K' hK' => ?_)
        go_simp
        refine (Calls.mono (C5.out w' X_2 c_2 Y_2 d_2 (ha.below hB) (ga.below hB) k_2 l_2) ?_)
        rintro e W1 ⟨Xr, cr, Yr, dr, rfl, kr, lr, kb⟩
        refine hK' _ _ ?_
        exact ⟨_, _, _, _, _, _, _, _, _, _, rfl, keepD (by decide) h0, keepD (by decide) h1, keepP (by decide) h2 (fun h => h.below kb), fun _ => ⟨Xr, cr, Yr, dr, rfl, kr, lr⟩, keepD (by decide) h4, keepP (by decide) h5 (fun h => h.below kb), keepD (by decide) h6, keepP (by decide) h7 (fun h => h.below kb), keepP (by decide) h8 (fun h => h.below kb), keepP (by decide) h9 (fun h => h.below kb), keepP (by decide) h10 (fun h => h.below kb), keepP (by decide) h11 (fun h => h.below kb), (fun h => by have := hD10 (by simpa using h); simpa using this), (fun h => by have := hD11 (by simpa using h); simpa using this), (fun h k => hN8_9 (by simpa using h) (by simpa using k)), Below.cons hB kb⟩
      · skip
        refine wpOp_step rfl (fun K' hK' => ?_)
        go_simp
        refine hK' _ _ ?_
        exact ⟨_, _, _, _, _, _, _, _, _, _, rfl, keepD (by decide) h0, keepD (by decide) h1, keepD (by decide) h2, keepD (by decide) h3, fun _ => rfl, keepD (by decide) h5, keepD (by decide) h6, keepD (by decide) h7, keepD (by decide) h8, keepD (by decide) h9, keepD (by decide) h10, keepD (by decide) h11, (fun h => by have := hD10 (by simpa using h); simpa using this), (fun h => by have := hD11 (by simpa using h); simpa using this), (fun h k => hN8_9 (by simpa using h) (by simpa using k)), hB⟩
      · skip
        have d4 := hdep _ rfl ⟨4, .data⟩ (by simp) rfl
        obtain rfl := h4 d4
        refine wpOp_step rfl (fun K' hK' => ?_)
        go_simp
        refine (Calls.mono (C4.out w' _ _ (hup.below hB)) ?_)
        rintro e W1 ⟨Xr, cr, Yr, dr, rfl, kr, lr, kb⟩
        refine hK' _ _ ?_
        exact ⟨_, _, _, _, _, _, _, _, _, _, rfl, keepD (by decide) h0, keepD (by decide) h1, keepP (by decide) h2 (fun h => h.below kb), keepP (by decide) h3 (fun h => h.below kb), keepD (by decide) h4, fun _ => ⟨Xr, cr, Yr, dr, rfl, kr, lr⟩, keepD (by decide) h6, keepP (by decide) h7 (fun h => h.below kb), keepP (by decide) h8 (fun h => h.below kb), keepP (by decide) h9 (fun h => h.below kb), keepP (by decide) h10 (fun h => h.below kb), keepP (by decide) h11 (fun h => h.below kb), (fun h => by have := hD10 (by simpa using h); simpa using this), (fun h => by have := hD11 (by simpa using h); simpa using this), (fun h k => hN8_9 (by simpa using h) (by simpa using k)), Below.cons hB kb⟩
      · skip
        refine wpOp_step rfl (fun K' hK' => ?_)
        go_simp
        refine hK' _ _ ?_
        exact ⟨_, _, _, _, _, _, _, _, _, _, rfl, keepD (by decide) h0, keepD (by decide) h1, keepD (by decide) h2, keepD (by decide) h3, keepD (by decide) h4, keepD (by decide) h5, fun _ => rfl, keepD (by decide) h7, keepD (by decide) h8, keepD (by decide) h9, keepD (by decide) h10, keepD (by decide) h11, (fun h => by have := hD10 (by simpa using h); simpa using this), (fun h => by have := hD11 (by simpa using h); simpa using this), (fun h k => hN8_9 (by simpa using h) (by simpa using k)), hB⟩
      · skip
        have d5 := hdep _ rfl ⟨5, .data⟩ (by simp) rfl
        obtain ⟨X_5, c_5, Y_5, d_5, rfl, k_5, l_5⟩ := h5 d5
        have d6 := hdep _ rfl ⟨6, .data⟩ (by simp) rfl
        obtain rfl := h6 d6
        refine wpOp_step rfl (fun K' hK' => ?_)
        go_simp
        refine (Calls.mono (C6.out w' X_5 c_5 Y_5 d_5 (ha.below hB) (ga.below hB) k_5 l_5) ?_)
        rintro e W1 ⟨Xr, cr, Yr, dr, rfl, kr, lr, kb⟩
        refine hK' _ _ ?_
        exact ⟨_, _, _, _, _, _, _, _, _, _, rfl, keepD (by decide) h0, keepD (by decide) h1, keepP (by decide) h2 (fun h => h.below kb), keepP (by decide) h3 (fun h => h.below kb), keepD (by decide) h4, keepP (by decide) h5 (fun h => h.below kb), keepD (by decide) h6, fun _ => ⟨Xr, cr, Yr, dr, rfl, kr, lr⟩, keepP (by decide) h8 (fun h => h.below kb), keepP (by decide) h9 (fun h => h.below kb), keepP (by decide) h10 (fun h => h.below kb), keepP (by decide) h11 (fun h => h.below kb), (fun h => by have := hD10 (by simpa using h); simpa using this), (fun h => by have := hD11 (by simpa using h); simpa using this), (fun h k => hN8_9 (by simpa using h) (by simpa using k)), Below.cons hB kb⟩
      · skip
        have kb : Below w'.heap.size w' (w'.alloc (.cells #[.bool false, .slice none 0 0, .slice none 0 0] 26)) := (Below.refl _ _).alloc (Nat.le_refl _) _
        refine wpOp_step rfl (fun K' hK' => ?_)
        go_simp
        refine hK' _ _ ?_
        exact ⟨_, _, _, _, _, _, _, _, _, _, rfl, keepD (by decide) h0, keepD (by decide) h1, keepP (by decide) h2 (fun h => h.below kb), keepP (by decide) h3 (fun h => h.below kb), keepD (by decide) h4, keepP (by decide) h5 (fun h => h.below kb), keepD (by decide) h6, keepP (by decide) h7 (fun h => h.below kb), fun _ => ⟨_, _, _, _, rfl, hB.size, ⟨at_new rfl⟩, notU_bool _, notU_slice _ _ _, notU_slice _ _ _⟩, keepP (by decide) h9 (fun h => h.below kb), (fun h => by have h2 := hD10 (by simpa using h); rw [hEi] at h2; cases h2), keepP (by decide) h11 (fun h => h.below kb), (fun _ => by simp), (fun h => by have := hD11 (by simpa using h); simpa using this), (fun _ h => by obtain ⟨n2, e2, l2⟩ := (h9 (by simpa using h)).lt; rw [e2]; intro e3; simp at e3 <;> omega), Below.cons hB kb⟩
      · skip
        have kb : Below w'.heap.size w' (w'.alloc (.cells #[.bool false, .slice none 0 0, .slice none 0 0] 26)) := (Below.refl _ _).alloc (Nat.le_refl _) _
        refine wpOp_step rfl (fun K' hK' => ?_)
        go_simp
        refine hK' _ _ ?_
        exact ⟨_, _, _, _, _, _, _, _, _, _, rfl, keepD (by decide) h0, keepD (by decide) h1, keepP (by decide) h2 (fun h => h.below kb), keepP (by decide) h3 (fun h => h.below kb), keepD (by decide) h4, keepP (by decide) h5 (fun h => h.below kb), keepD (by decide) h6, keepP (by decide) h7 (fun h => h.below kb), keepP (by decide) h8 (fun h => h.below kb), fun _ => ⟨_, _, _, _, rfl, hB.size, ⟨at_new rfl⟩, notU_bool _, notU_slice _ _ _, notU_slice _ _ _⟩, keepP (by decide) h10 (fun h => h.below kb), (fun h => by have h2 := hD11 (by simpa using h); rw [hEi] at h2; cases h2), (fun h => by have := hD10 (by simpa using h); simpa using this), (fun _ => by simp), (fun h _ => by obtain ⟨n2, e2, l2⟩ := (h8 (by simpa using h)).lt; rw [e2]; intro e3; simp at e3 <;> omega), Below.cons hB kb⟩
      · skip
        have d8 := hdep _ rfl ⟨8, .data⟩ (by simp) rfl
        obtain ⟨nb, z0, z1, z2, rfl, hn, hb, nz0, nz1, nz2⟩ := h8 d8
        have d3 := hdep _ rfl ⟨3, .data⟩ (by simp) rfl
        obtain ⟨X_3, c_3, Y_3, d_3, rfl, k_3, l_3⟩ := h3 d3
        have fz0 := hb.f (i := 0)
        have cz0 := hb.c (i := 0) rfl
        have fz1 := hb.f (i := 1)
        have cz1 := hb.c (i := 1) rfl
        have fz2 := hb.f (i := 2)
        have cz2 := hb.c (i := 2) rfl
        have hp := hb.put3 (notU3 nz0 nz1 nz2) (.bool (sg fa.num)) (.slice X_3 (nl (mg fa.num)) c_3) (.slice Y_3 (nl fa.den) d_3)
        have hs := hb.store3 (.bool (sg fa.num)) (.slice X_3 (nl (mg fa.num)) c_3) (.slice Y_3 (nl fa.den) d_3)
        refine wpOp_step rfl (fun K' hK' => ?_)
        go_simp
        refine hK' _ _ ?_
        exact ⟨_, _, _, _, _, _, _, _, _, _, rfl, keepD (by decide) h0, keepD (by decide) h1, keepP (by decide) h2 (fun h => h.put hp), keepP (by decide) h3 (fun h => h.put hp), keepD (by decide) h4, keepP (by decide) h5 (fun h => h.put hp), keepD (by decide) h6, keepP (by decide) h7 (fun h => h.put hp), (fun _ => ⟨nb, _, _, _, rfl, hn, hs, notU_bool _, notU_slice _ _ _, notU_slice _ _ _⟩), keepP' (by decide) h9 (fun e h => h.put hp (fun e3 => hN8_9 d8 (by simpa using e) e3.symm)), fun _ => ⟨nb, X_3, c_3, Y_3, d_3, rfl, hn, hs, hp.nat k_3, hp.nat l_3⟩, keepP' (by decide) h11 (fun e h => h.put hp (fun e3 => hN8_9 d8 (hD11 (by simpa using e)) e3.symm)), (fun _ => by simp [d8]), (fun h => by have := hD11 (by simpa using h); simpa using this), (fun h k => hN8_9 (by simpa using h) (by simpa using k)), Below.store3 hB hn⟩
      · skip
        have d9 := hdep _ rfl ⟨9, .data⟩ (by simp) rfl
        obtain ⟨nb, z0, z1, z2, rfl, hn, hb, nz0, nz1, nz2⟩ := h9 d9
        have d7 := hdep _ rfl ⟨7, .data⟩ (by simp) rfl
        obtain ⟨X_7, c_7, Y_7, d_7, rfl, k_7, l_7⟩ := h7 d7
        have fz0 := hb.f (i := 0)
        have cz0 := hb.c (i := 0) rfl
        have fz1 := hb.f (i := 1)
        have cz1 := hb.c (i := 1) rfl
        have fz2 := hb.f (i := 2)
        have cz2 := hb.c (i := 2) rfl
        have hp := hb.put3 (notU3 nz0 nz1 nz2) (.bool (sg fb.num)) (.slice X_7 (nl (mg fb.num)) c_7) (.slice Y_7 (nl fb.den) d_7)
        have hs := hb.store3 (.bool (sg fb.num)) (.slice X_7 (nl (mg fb.num)) c_7) (.slice Y_7 (nl fb.den) d_7)
        refine wpOp_step rfl (fun K' hK' => ?_)
        go_simp
        refine hK' _ _ ?_
        exact ⟨_, _, _, _, _, _, _, _, _, _, rfl, keepD (by decide) h0, keepD (by decide) h1, keepP (by decide) h2 (fun h => h.put hp), keepP (by decide) h3 (fun h => h.put hp), keepD (by decide) h4, keepP (by decide) h5 (fun h => h.put hp), keepD (by decide) h6, keepP (by decide) h7 (fun h => h.put hp), keepP' (by decide) h8 (fun e h => h.put hp (hN8_9 (by simpa using e) d9)), (fun _ => ⟨nb, _, _, _, rfl, hn, hs, notU_bool _, notU_slice _ _ _, notU_slice _ _ _⟩), keepP' (by decide) h10 (fun e h => h.put hp (hN8_9 (hD10 (by simpa using e)) d9)), fun _ => ⟨nb, X_7, c_7, Y_7, d_7, rfl, hn, hs, hp.nat k_7, hp.nat l_7⟩, (fun h => by have := hD10 (by simpa using h); simpa using this), (fun _ => by simp [d9]), (fun h k => hN8_9 (by simpa using h) (by simpa using k)), Below.store3 hB hn⟩
    case fin =>
      rintro E a' w' ⟨u39, u40, u41, u42, u43, u44, u45, u46, u8, u9, rfl, h0, h1, h2, h3, h4, h5, h6, h7, h8, h9, h10, h11, hD10, hD11, hN8_9, hB⟩ hall
      obtain ⟨nbfa, Xfa, cfa, Yfa, dfa, rfl, hnfa, Rfa, hfa, gfa⟩ := h10 (hall 10 (by simp))
      obtain ⟨nbfb, Xfb, cfb, Yfb, dfb, rfl, hnfb, Rfb, hfb, gfb⟩ := h11 (hall 11 (by simp))
      replace ha := ha.below hB
      replace ga := ga.below hB
      replace Ra := Ra.below hB
      replace qa0 := cell_below hB qa0
      replace qa1 := cell_below hB qa1
      replace qa2 := cell_below hB qa2
      replace Rr := Rr.below hB
      replace qr0 := cell_below hB qr0
      replace qr1 := cell_below hB qr1
      replace hlo := hlo.below hB
      replace Rlo := Rlo.below hB
      replace qlo0 := cell_below hB qlo0
      replace qlo1 := cell_below hB qlo1
      replace hup := hup.below hB
      replace Rup := Rup.below hB
      replace qup0 := cell_below hB qup0
      replace qup1 := cell_below hB qup1
      replace HBT := Below.cons HBT hB
      have kvfa := hnfa
      have qfa0 := Rfa.c (i := 0) rfl
      have qfa1 := Rfa.c (i := 1) rfl
      have qfa2 := Rfa.c (i := 2) rfl
      have kvfb := hnfb
      have qfb0 := Rfb.c (i := 0) rfl
      have qfb1 := Rfb.c (i := 1) rfl
      have qfb2 := Rfb.c (i := 2) rfl
      have CC := fun (W : World) (A : Option Addr) (c : Nat) (B : Option Addr) (d : Nat) (A2 : Option Addr) (c2 : Nat) (B2 : Option Addr) (d2 : Nat) (h1 : NatV W A c (mg fa.num)) (h2 : NatV W B d fa.den) (h3 : NatV W A2 c2 (mg fb.num)) (h4 : NatV W B2 d2 fb.den) => r9cmp_c A c B d fa A2 c2 B2 d2 fb W h1 h2 h3 h4 (by omega) (by omega) (by omega) (by omega)
      rw [← Erc.out] at CC
      replace CC := Lib.hid CC
      go_wp2_with (fail)
      refine (Calls.mono (CC.out _ _ _ _ _ _ _ _ _ hfa gfa hfb gfb) ?_)
      rintro e W3 ⟨rfl, hb3⟩
      replace ha := ha.below hb3
      replace ga := ga.below hb3
      replace Ra := Ra.below hb3
      replace qa0 := cell_below hb3 qa0
      replace qa1 := cell_below hb3 qa1
      replace qa2 := cell_below hb3 qa2
      replace Rr := Rr.below hb3
      replace qr0 := cell_below hb3 qr0
      replace qr1 := cell_below hb3 qr1
      replace hlo := hlo.below hb3
      replace Rlo := Rlo.below hb3
      replace qlo0 := cell_below hb3 qlo0
      replace qlo1 := cell_below hb3 qlo1
      replace hup := hup.below hb3
      replace Rup := Rup.below hb3
      replace qup0 := cell_below hb3 qup0
      replace qup1 := cell_below hb3 qup1
      replace hfa := hfa.below hb3
      replace gfa := gfa.below hb3
      replace Rfa := Rfa.below hb3
      replace qfa0 := cell_below hb3 qfa0
      replace qfa1 := cell_below hb3 qfa1
      replace qfa2 := cell_below hb3 qfa2
      replace hfb := hfb.below hb3
      replace gfb := gfb.below hb3
      replace Rfb := Rfb.below hb3
      replace qfb0 := cell_below hb3 qfb0
      replace qfb1 := cell_below hb3 qfb1
      replace qfb2 := cell_below hb3 qfb2
      replace HBT := Below.cons HBT hb3
      clear hb3
      have HC2 := HC.out
      rw [← Hlo.out] at HC2
      clear CC HC
      rcases HC2 with ⟨rfl, hy⟩ | ⟨rfl, ho, hy⟩ | ⟨rfl, ho, hy⟩ | ⟨rfl, hy⟩
      · skip
        replace hy := Lib.hid hy
        have fzr0 := Rr.f (i := 0)
        have fzr1 := Rr.f (i := 1)
        go_wp2_with (fail)
        have hzy : lo = y := by rw [hy.out]
        subst hzy
        have RS := Rr.store2 (.bool (sg lo)) (.slice Xlo (nl (mg lo)) clo)
        have e0 := RS.c (i := 0) rfl
        have e1 := RS.c (i := 1) rfl
        refine bodyPost_ret (v := .agg #[.bool (sg lo), .slice Xlo (nl (mg lo)) clo]) (by simp [results, Tryz.results66, go_sem, e0, e1]) rfl ?_
        exact ⟨Xlo, clo, rfl, (Rr.keep2 (by intro u hu; simp at hu; rcases hu with rfl | rfl <;> first | exact notU_bool _ | exact notU_slice _ _ _ | exact notU_i64 _) hlo), (Below.store2 HBT (by first | exact Nat.le_refl _ | omega))⟩
      · skip
        replace hy := Lib.hid hy
        replace ho := Lib.hid ho
        go_wp2_with (fail)
        have hbit : mg lo / 2 ^ 0 % 2 = 0 := by have := ho.out; rw [Nat.pow_zero, Nat.div_one]; unfold mg; omega
        have CB := rbit_c _ _ (mg lo) 0 _ hlo (by omega) (by decide)
        rw [hbit] at CB
        clear hbit
        refine (Calls.mono CB ?_)
        clear CB
        rintro e w' ⟨rfl, hw⟩
        first | subst hw | (replace hw := hw.symm; subst hw)
        have fzr0 := Rr.f (i := 0)
        have fzr1 := Rr.f (i := 1)
        go_wp2_with (fail)
        have hzy : lo = y := by rw [hy.out]
        subst hzy
        have RS := Rr.store2 (.bool (sg lo)) (.slice Xlo (nl (mg lo)) clo)
        have e0 := RS.c (i := 0) rfl
        have e1 := RS.c (i := 1) rfl
        refine bodyPost_ret (v := .agg #[.bool (sg lo), .slice Xlo (nl (mg lo)) clo]) (by simp [results, Tryz.results66, go_sem, e0, e1]) rfl ?_
        exact ⟨Xlo, clo, rfl, (Rr.keep2 (by intro u hu; simp at hu; rcases hu with rfl | rfl <;> first | exact notU_bool _ | exact notU_slice _ _ _ | exact notU_i64 _) hlo), (Below.store2 HBT (by first | exact Nat.le_refl _ | omega))⟩
      · skip
        replace hy := Lib.hid hy
        replace ho := Lib.hid ho
        go_wp2_with (fail)
        have hbit : mg lo / 2 ^ 0 % 2 = 1 := by have := ho.out; rw [Nat.pow_zero, Nat.div_one]; unfold mg; omega
        have CB := rbit_c _ _ (mg lo) 0 _ hlo (by omega) (by decide)
        rw [hbit] at CB
        clear hbit
        refine (Calls.mono CB ?_)
        clear CB
        rintro e w' ⟨rfl, hw⟩
        first | subst hw | (replace hw := hw.symm; subst hw)
        have fzr0 := Rr.f (i := 0)
        have fzr1 := Rr.f (i := 1)
        go_wp2_with (fail)
        have hzy : up = y := by rw [hy.out, Hup.out]
        subst hzy
        have RS := Rr.store2 (.bool (sg up)) (.slice Xup (nl (mg up)) cup)
        have e0 := RS.c (i := 0) rfl
        have e1 := RS.c (i := 1) rfl
        refine bodyPost_ret (v := .agg #[.bool (sg up), .slice Xup (nl (mg up)) cup]) (by simp [results, Tryz.results66, go_sem, e0, e1]) rfl ?_
        exact ⟨Xup, cup, rfl, (Rr.keep2 (by intro u hu; simp at hu; rcases hu with rfl | rfl <;> first | exact notU_bool _ | exact notU_slice _ _ _ | exact notU_i64 _) hup), (Below.store2 HBT (by first | exact Nat.le_refl _ | omega))⟩
      · skip
        replace hy := Lib.hid hy
        have fzr0 := Rr.f (i := 0)
        have fzr1 := Rr.f (i := 1)
        go_wp2_with (fail)
        have hzy : up = y := by rw [hy.out, Hup.out]
        subst hzy
        have RS := Rr.store2 (.bool (sg up)) (.slice Xup (nl (mg up)) cup)
        have e0 := RS.c (i := 0) rfl
        have e1 := RS.c (i := 1) rfl
        refine bodyPost_ret (v := .agg #[.bool (sg up), .slice Xup (nl (mg up)) cup]) (by simp [results, Tryz.results66, go_sem, e0, e1]) rfl ?_
        exact ⟨Xup, cup, rfl, (Rr.keep2 (by intro u hu; simp at hu; rcases hu with rfl | rfl <;> first | exact notU_bool _ | exact notU_slice _ _ _ | exact notU_i64 _) hup), (Below.store2 HBT (by first | exact Nat.le_refl _ | omega))⟩
theorem twhole_c (aA : Option Addr) (ac : Nat) (aB : Option Addr) (ad : Nat) (a : Rat) (dr : Int) (w : World) (ha : NatV w aA ac (mg a.num)) (ga : NatV w aB ad a.den) (la : nl (mg a.num) ≤ 100000) (ma : nl a.den ≤ 100000) (d0 : 0 ≤ dr) (d4 : dr ≤ 4) :
    Calls Tryz.prog 66 #[.agg #[.bool (sg a.num), .slice aA (nl (mg a.num)) ac, .slice aB (nl a.den) ad], .int .i64 dr] w (RetI w (rnd dr a)) := by
  by_cases h : dr = 4
  · subst h; exact twhole_n aA ac aB ad a w ha ga la ma
  · exact twhole_s aA ac aB ad a dr w ha ga la ma d0 (by omega)
end Go.Proofs.YtacjfpibilolnaaGreatDoor
