/- The document's whole numbers, walked: Make, Of, Cmp, Sign, Neg, Same, Made. -/
import Derived.Test.YtacjfpibilolnaaGreatDoorSC13
import Derived.Test.YtacjfpibilolnaaGreatDoorSC12
set_option maxRecDepth 100000
set_option maxHeartbeats 4000000
set_option linter.unusedVariables false
set_option linter.unusedSimpArgs false
namespace Go.Proofs.YtacjfpibilolnaaGreatDoor
open Go.RowKit Go.Shelf
attribute [local go_sem] max2_i min2_i max_two min_two

theorem run_append_none {P : Program} {w : World} (base : Nat) (t ty e : TypeId) (i : TypeInfo) (size : Nat) (ht : P.underlying t = some (.slice e)) (hi : P.info? e = some i)
    (v : Value) (n : Nat) (xs : List Value) (hown : w.ownsRow base e size v n xs) (k : Nat) :
    (Builtin.append_ #[t, t] ty #[v, .slice none 0 k]).run P w = .ok v w := by
  rcases hown.2 with ⟨rfl, rfl⟩ | ⟨g, cap, cur, rfl, _, _, hnc, _⟩
  · simp [Builtin.append_, run_underlying ht, sizeOf, typeInfo, hi, Builtin.lenOf, Builtin.firstCells]
  · simp [Builtin.append_, run_underlying ht, sizeOf, typeInfo, hi, Builtin.lenOf, Builtin.firstCells, hnc, storeCells]
theorem wpList_append_none {P : Program} {w : World} {ops : Array Oper} {rest : List Oper} {o : Oper} {a : Act} {Q : Exit → Act → World → Prop} (hgd : o.guard = none) (s x : Operand) (t : TypeId)
    (ho : o.op = .call { callee := .builtin .append, args := #[s, x], argTypes := #[t, t] })
    (base : Nat) (e : TypeId) (i : TypeInfo) (size : Nat) (ht : P.underlying t = some (.slice e)) (hi : P.info? e = some i)
    (v : Value) (n : Nat) (xs : List Value) (hs : a.eval s = v) (hown : w.ownsRow base e size v n xs) (k : Nat) (hx : a.eval x = .slice none 0 k)
    (h : wpList P ops Q rest (a.put o.dst v) w) : wpList P ops Q (o :: rest) a w := by
  refine wpList_plain hgd fun K hK => ?_
  have hrun := run_append_none (P := P) (w := w) base t o.type e i size ht hi v n xs hown k
  unfold Oper.wp
  simp [execOp, ho, resolve, invoke, builtin, hs, hx, hrun, Result.andThen]
  exact hK _ _ h
theorem rmake_none (c : Nat) (w : World) :
    Calls Tryz.prog 98 #[.slice none 0 c] w (RetN w 0) := by
  obtain ⟨i0, hi, hz0, hz1, hz2⟩ := info_parts info_u32
  have hb1 : Below w.heap.size w (w.alloc (.cells #[] 58)) := (Below.refl _ _).alloc (Nat.le_refl _) _
  go_enter Tryz.func98, Tryz.ntmps98
  go_wp2_with (fail)
  go_loop [3] (fun v => v = .int .i64 0) (fun v => (intOf v).toNat)
  case atStart => rfl
  case round =>
    obtain rfl := hrel
    go_wp2_with (at_builtin; refine wpList_append_none rfl _ _ 22 rfl w.heap.size 58 i0 1 Tryz.underlying22 hi _ 0 [] rfl (World.ownsRow_lit w #[] 0 (Nat.le_refl _) (by decide) rfl) c rfl ?_)
    go_wp2
    go_ret
    exact ⟨some ⟨w.heap.size, 0, none⟩, 0, by rw [nl_zero]; rfl, ⟨by rw [limbs_zero]; exact .inl rfl, by rw [nl_zero]; exact Nat.le_refl _, by decide⟩, hb1⟩
theorem rmake_n (A : Option Addr) (c a : Nat) (w : World) (hA : NatV w A c a) (ha : nl a ≤ 1099511627776) :
    Calls Tryz.prog 98 #[.slice A (nl a) c] w (RetN w a) := by
  cases A with
  | some ad =>
    have := rmake_c (some ad) (nl a) c (limbs a) w rfl hA.rd (lim_limbs a) ha hA.cap (fun e => by cases e)
    rwa [val_limbs] at this
  | none =>
    have h0 : nl a = 0 := by
      rcases Nat.eq_zero_or_pos (nl a) with h | h
      · exact h
      · obtain ⟨ad, e, _⟩ := hA.rd.get 0 h; cases e
    have h1 : a = 0 := nl_eq_zero.1 h0
    subst h1
    rw [h0]
    exact rmake_none c w
theorem rof_c (n : Nat) (w : World) (hn : n < 18446744073709551616) :
    Calls Tryz.prog 79 #[.int .u64 (n : Nat)] w (RetN w n) := by
  obtain ⟨a, Ea⟩ : ∃ a, a = n % 4294967296 := ⟨_, rfl⟩
  obtain ⟨b, Eb⟩ : ∃ b, b = n / 4294967296 := ⟨_, rfl⟩
  have Ia : (n : Int) % 4294967296 = (a : Int) := by omega
  have Ib : (n : Int) / 4294967296 = (b : Int) := by omega
  have Ba : a < 4294967296 := by omega
  have Bb : b < 4294967296 := by omega
  have Ja : (a : Int) % 4294967296 = (a : Int) := by omega
  have Jb : (b : Int) % 4294967296 = (b : Int) := by omega
  have Ka : Int.tmod (n : Int) 4294967296 = (a : Int) := by rw [Int.tmod_eq_emod_of_nonneg (Int.natCast_nonneg n)]; exact Ia
  have Kb : Int.tdiv (n : Int) 4294967296 = (b : Int) := by rw [Int.tdiv_eq_ediv_of_nonneg (Int.natCast_nonneg n)]; exact Ib
  have ev : val [a, b] = n := by rw [Ea, Eb]; exact two_limbs hn
  replace ev := Lib.hid ev
  replace Ea := Lib.hid Ea
  replace Eb := Lib.hid Eb
  have hb0 : Below w.heap.size w (w.alloc (.cells #[.int .u32 (a : Nat), .int .u32 (b : Nat)] 58)) := (Below.refl _ _).alloc (Nat.le_refl _) _
  have hr := rd_two _ _ a b (heap_alloc_new w (.cells #[.int .u32 (a : Nat), .int .u32 (b : Nat)] 58))
  have C := rmake_c _ 2 2 [a, b] _ rfl hr (Lim.cons Ba (Lim.cons Bb Lim.nil)) (by decide) (Nat.le_refl _) (fun e => by cases e)
  rw [ev.out] at C
  replace C := Lib.hid C
  have HBT := hb0
  go_enter Tryz.func79, Tryz.ntmps79
  go_wp2_with (fail)
  refine C.out.mono ?_
  rintro e W1 ⟨X, cx, rfl, hX, hb1⟩
  replace HBT := Below.cons HBT hb1
  go_wp2_with (fail)
  go_ret
  exact ⟨X, cx, rfl, hX, HBT⟩
theorem rz_f (aA : Option Addr) (ac a : Nat) (z : Int) (w : World) (ha : NatV w aA ac a) (hl : nl a ≤ 1099511627776) (ez : mg z = a) (es : sg z = false) :
    Calls Tryz.prog 71 #[.bool false, .slice aA (nl a) ac] w (RetI w z) := by
  obtain ⟨sb, Esb⟩ : ∃ x, x = sg z := ⟨_, rfl⟩
  rw [← Esb] at es
  replace es := Lib.hid es
  replace Esb := Lib.hid Esb
  replace ez := Lib.hid ez
  obtain ⟨hb1, Rr⟩ := bx1 w #[.bool false, .slice none 0 0] 24
  replace ha := ha.below hb1
  have HBT := hb1
  clear hb1
  have qr0 := Rr.c (i := 0) rfl
  have qr1 := Rr.c (i := 1) rfl
  go_enter Tryz.func71, Tryz.ntmps71
  go_wp2_with (fail)
  refine (Calls.mono (rmake_n aA ac a _ ha hl) ?_)
  rintro e W2 ⟨X, cx, rfl, hX, hb2⟩
  replace ha := ha.below hb2
  replace Rr := Rr.below hb2
  replace qr0 := cbl hb2 qr0
  replace qr1 := cbl hb2 qr1
  replace HBT := Below.cons HBT hb2
  clear hb2
  have fzr0 := Rr.f (i := 0)
  have fzr1 := Rr.f (i := 1)
  go_wp2_with (fail)
  have RS := Rr.store2 (.bool false) (.slice X (nl a) cx)
  have e0 := RS.c (i := 0) rfl
  have e1 := RS.c (i := 1) rfl
  refine bodyPost_ret (v := .agg #[.bool false, .slice X (nl a) cx]) (by simp [results, Tryz.results71, go_sem, e0, e1]) rfl ?_
  exact ⟨X, cx, by rw [ez.out, ← Esb.out, es.out], by rw [ez.out]; exact Rr.keep2 (nuB rfl) hX, Below.store2 HBT (by first | exact Nat.le_refl _ | omega)⟩
theorem rz_t (aA : Option Addr) (ac a : Nat) (z : Int) (w : World) (ha : NatV w aA ac a) (hl : nl a ≤ 1099511627776) (ez : mg z = a) (es : sg z = decide (0 < nl a)) :
    Calls Tryz.prog 71 #[.bool true, .slice aA (nl a) ac] w (RetI w z) := by
  obtain ⟨sb, Esb⟩ : ∃ x, x = sg z := ⟨_, rfl⟩
  rw [← Esb] at es
  have t1 : decide (0 < nl a) = sb := es.symm
  have t2 : decide ((0 : Int) < (nl a : Int)) = sb := by rw [es, decide_eq_decide]; omega
  replace es := Lib.hid es
  replace Esb := Lib.hid Esb
  replace ez := Lib.hid ez
  obtain ⟨hb1, Rr⟩ := bx1 w #[.bool false, .slice none 0 0] 24
  replace ha := ha.below hb1
  have HBT := hb1
  clear hb1
  have qr0 := Rr.c (i := 0) rfl
  have qr1 := Rr.c (i := 1) rfl
  go_enter Tryz.func71, Tryz.ntmps71
  go_wp2_with (fail)
  refine (Calls.mono (rmake_n aA ac a _ ha hl) ?_)
  rintro e W2 ⟨X, cx, rfl, hX, hb2⟩
  replace ha := ha.below hb2
  replace Rr := Rr.below hb2
  replace qr0 := cbl hb2 qr0
  replace qr1 := cbl hb2 qr1
  replace HBT := Below.cons HBT hb2
  clear hb2
  have fzr0 := Rr.f (i := 0)
  have fzr1 := Rr.f (i := 1)
  go_wp2_with (fail)
  have RS := Rr.store2 (.bool sb) (.slice X (nl a) cx)
  have e0 := RS.c (i := 0) rfl
  have e1 := RS.c (i := 1) rfl
  refine bodyPost_ret (v := .agg #[.bool sb, .slice X (nl a) cx]) (by simp [results, Tryz.results71, go_sem, e0, e1]) rfl ?_
  exact ⟨X, cx, by rw [ez.out, ← Esb.out], by rw [ez.out]; exact Rr.keep2 (nuB rfl) hX, Below.store2 HBT (by first | exact Nat.le_refl _ | omega)⟩
theorem rz_c (s : Bool) (aA : Option Addr) (ac a : Nat) (w : World) (ha : NatV w aA ac a) (hl : nl a ≤ 1099511627776) :
    Calls Tryz.prog 71 #[.bool s, .slice aA (nl a) ac] w (RetI w (ival s a)) := by
  cases s
  · exact rz_f aA ac a _ w ha hl (mg_ival _ _) (sg_ival_f a)
  · exact rz_t aA ac a _ w ha hl (mg_ival _ _) (sg_ival_t a)
theorem zof_nn (n : Nat) (w : World) (hn : n < 9223372036854775808) :
    Calls Tryz.prog 31 #[.int .i64 (n : Nat)] w (RetI w n) := by
  have t1 : decide ((n : Int) < 0) = false := by simp
  have I1 : (n : Int) % 18446744073709551616 = (n : Int) := by omega
  have W1' : IntKind.u64.wrap (n : Int) = (n : Int) := by simp [IntKind.wrap, IntKind.signed, IntKind.bits]; omega
  obtain ⟨hb1, Rr⟩ := bx1 w #[.bool false, .slice none 0 0] 24
  have HBT := hb1
  clear hb1
  have qr0 := Rr.c (i := 0) rfl
  have qr1 := Rr.c (i := 1) rfl
  go_enter Tryz.func31, Tryz.ntmps31
  go_wp2_with (fail)
  obtain ⟨m, Em⟩ : ∃ zq : Nat, zq = n := ⟨_, rfl⟩
  have Bm : nl m ≤ 2 := by rw [Em]; exact nl_le.2 (Nat.lt_trans hn (by decide))
  refine (Calls.mono (R := RetN (w.alloc (.cells #[.bool false, .slice none 0 0] 24)) m) (by rw [Em]; with_reducible exact (rof_c n _  (by omega))) ?_)
  replace Em := Lib.hid Em
  rintro e W2 ⟨Xm, cm, rfl, hm, hb2⟩
  replace Rr := Rr.below hb2
  replace qr0 := cbl hb2 qr0
  replace qr1 := cbl hb2 qr1
  replace HBT := Below.cons HBT hb2
  clear hb2
  go_wp2_with (fail)
  obtain ⟨z, Ez⟩ : ∃ zq : Int, zq = ival false m := ⟨_, rfl⟩
  refine (Calls.mono (R := RetI W2 z) (by rw [Ez]; with_reducible exact (rz_c false Xm cm m _ hm (by omega))) ?_)
  replace Ez := Lib.hid Ez
  rintro e W3 ⟨Xz, cz, rfl, hz, hb3⟩
  replace Rr := Rr.below hb3
  replace qr0 := cbl hb3 qr0
  replace qr1 := cbl hb3 qr1
  replace hm := hm.below hb3
  replace HBT := Below.cons HBT hb3
  clear hb3
  have fzr0 := Rr.f (i := 0)
  have fzr1 := Rr.f (i := 1)
  go_wp2_with (fail)
  have hzz : z = (n : Int) := by rw [Ez.out, Em.out]; rfl
  subst hzz
  have RS := Rr.store2 (.bool (sg (((n : Int))))) (.slice Xz (nl (mg (((n : Int))))) cz)
  have e0 := RS.c (i := 0) rfl
  have e1 := RS.c (i := 1) rfl
  refine bodyPost_ret (v := .agg #[.bool (sg (((n : Int)))), .slice Xz (nl (mg (((n : Int))))) cz]) (by simp [results, Tryz.results31, go_sem, e0, e1]) rfl ?_
  exact ⟨Xz, cz, rfl, (Rr.keep2 (nuB rfl) hz), (Below.store2 HBT (by first | exact Nat.le_refl _ | omega))⟩
theorem zof_neg (n : Nat) (w : World) (hn : n ≤ 9223372036854775808) (h0 : 0 < n) :
    Calls Tryz.prog 31 #[.int .i64 (-(n : Int))] w (RetI w (-(n : Int))) := by
  have t1 : decide (-(n : Int) < 0) = true := by simp; omega
  have t1b : decide (0 < n) = true := by simp; exact h0
  have I1 : (-(n : Int)) % 18446744073709551616 = 18446744073709551616 - (n : Int) := by omega
  have W1' : IntKind.u64.wrap (-(n : Int)) = 18446744073709551616 - (n : Int) := by simp [IntKind.wrap, IntKind.signed, IntKind.bits]; omega
  have W2' : IntKind.u64.wrap (-(18446744073709551616 - (n : Int))) = (n : Int) := by simp [IntKind.wrap, IntKind.signed, IntKind.bits]; omega
  have I2 : (-(18446744073709551616 - (n : Int))) % 18446744073709551616 = (n : Int) := by omega
  have I3 : ((n : Int) - 18446744073709551616) % 18446744073709551616 = (n : Int) := by omega
  obtain ⟨hb1, Rr⟩ := bx1 w #[.bool false, .slice none 0 0] 24
  have HBT := hb1
  clear hb1
  have qr0 := Rr.c (i := 0) rfl
  have qr1 := Rr.c (i := 1) rfl
  go_enter Tryz.func31, Tryz.ntmps31
  go_wp2_with (fail)
  obtain ⟨m, Em⟩ : ∃ zq : Nat, zq = n := ⟨_, rfl⟩
  have Bm : nl m ≤ 2 := by rw [Em]; exact nl_le.2 (Nat.lt_of_le_of_lt hn (by decide))
  refine (Calls.mono (R := RetN (w.alloc (.cells #[.bool false, .slice none 0 0] 24)) m) (by rw [Em]; with_reducible exact (rof_c n _  (by omega))) ?_)
  replace Em := Lib.hid Em
  rintro e W2 ⟨Xm, cm, rfl, hm, hb2⟩
  replace Rr := Rr.below hb2
  replace qr0 := cbl hb2 qr0
  replace qr1 := cbl hb2 qr1
  replace HBT := Below.cons HBT hb2
  clear hb2
  go_wp2_with (fail)
  obtain ⟨z, Ez⟩ : ∃ zq : Int, zq = ival true m := ⟨_, rfl⟩
  refine (Calls.mono (R := RetI W2 z) (by rw [Ez]; with_reducible exact (rz_c true Xm cm m _ hm (by omega))) ?_)
  replace Ez := Lib.hid Ez
  rintro e W3 ⟨Xz, cz, rfl, hz, hb3⟩
  replace Rr := Rr.below hb3
  replace qr0 := cbl hb3 qr0
  replace qr1 := cbl hb3 qr1
  replace hm := hm.below hb3
  replace HBT := Below.cons HBT hb3
  clear hb3
  have fzr0 := Rr.f (i := 0)
  have fzr1 := Rr.f (i := 1)
  go_wp2_with (fail)
  have hzz : z = (-(n : Int)) := by rw [Ez.out, Em.out]; rfl
  subst hzz
  have RS := Rr.store2 (.bool (sg (((-(n : Int)))))) (.slice Xz (nl (mg (((-(n : Int)))))) cz)
  have e0 := RS.c (i := 0) rfl
  have e1 := RS.c (i := 1) rfl
  refine bodyPost_ret (v := .agg #[.bool (sg (((-(n : Int))))), .slice Xz (nl (mg (((-(n : Int)))))) cz]) (by simp [results, Tryz.results31, go_sem, e0, e1]) rfl ?_
  exact ⟨Xz, cz, rfl, (Rr.keep2 (nuB rfl) hz), (Below.store2 HBT (by first | exact Nat.le_refl _ | omega))⟩
theorem zof_c (z : Int) (w : World) (h0 : -9223372036854775808 ≤ z) (h1 : z < 9223372036854775808) :
    Calls Tryz.prog 31 #[.int .i64 z] w (RetI w z) := by
  rcases Int.lt_or_le z 0 with h | h
  · obtain ⟨n, rfl⟩ := Int.exists_eq_neg_ofNat (show z ≤ 0 by omega)
    exact zof_neg n w (by omega) (by omega)
  · obtain ⟨n, rfl⟩ := Int.eq_ofNat_of_zero_le h
    exact zof_nn n w (by omega)
theorem zcmp_c (aA : Option Addr) (ac : Nat) (a : Int) (bA : Option Addr) (bc : Nat) (b : Int) (w : World) (ha : NatV w aA ac (mg a)) (hb : NatV w bA bc (mg b)) (la : nl (mg a) ≤ 1073741824) (lb : nl (mg b) ≤ 1073741824) :
    Calls Tryz.prog 69 #[.agg #[.bool (sg a), .slice aA (nl (mg a)) ac], .agg #[.bool (sg b), .slice bA (nl (mg b)) bc]] w fun e w' => e = .returned (.int .i64 (icmp a b)) ∧ Below w.heap.size w w' := by
  by_cases h1 : a < 0
  · by_cases h2 : b < 0
    · have ta : sg a = true := sg_t h1
      have tb : sg b = true := sg_t h2
      rw [icmp_bb h1 h2]
      obtain ⟨hb1, Ra, Rb⟩ := bx2 w #[.bool true, .slice aA (nl (mg a)) ac] 24 #[.bool true, .slice bA (nl (mg b)) bc] 24
      replace ha := ha.below hb1
      replace hb := hb.below hb1
      have HBT := hb1
      clear hb1
      have qa0 := Ra.c (i := 0) rfl
      have qa1 := Ra.c (i := 1) rfl
      have qb0 := Rb.c (i := 0) rfl
      have qb1 := Rb.c (i := 1) rfl
      replace h1 := Lib.hid h1
      replace h2 := Lib.hid h2
      go_enter Tryz.func69, Tryz.ntmps69
      go_wp2_with (fail)
      refine (Calls.mono (rcmp_c bA bc (mg b) aA ac (mg a) _ hb ha (by omega) (by omega)) ?_)
      rintro e w' ⟨rfl, hw⟩
      subst hw
      go_wp2_with (fail)
      go_ret
      exact ⟨rfl, HBT⟩
    · have ta : sg a = true := sg_t h1
      have tb : sg b = false := sg_f (by omega)
      rw [show icmp a b = -1 by unfold icmp; rw [if_pos (by omega)]]
      obtain ⟨hb1, Ra, Rb⟩ := bx2 w #[.bool true, .slice aA (nl (mg a)) ac] 24 #[.bool false, .slice bA (nl (mg b)) bc] 24
      replace ha := ha.below hb1
      replace hb := hb.below hb1
      have HBT := hb1
      clear hb1
      have qa0 := Ra.c (i := 0) rfl
      have qa1 := Ra.c (i := 1) rfl
      have qb0 := Rb.c (i := 0) rfl
      have qb1 := Rb.c (i := 1) rfl
      replace h1 := Lib.hid h1
      replace h2 := Lib.hid h2
      go_enter Tryz.func69, Tryz.ntmps69
      go_wp2_with (fail)
      go_ret
      exact ⟨rfl, HBT⟩
  · by_cases h2 : b < 0
    · have ta : sg a = false := sg_f (by omega)
      have tb : sg b = true := sg_t h2
      rw [show icmp a b = 1 by unfold icmp; rw [if_neg (by omega), if_pos (by omega)]]
      obtain ⟨hb1, Ra, Rb⟩ := bx2 w #[.bool false, .slice aA (nl (mg a)) ac] 24 #[.bool true, .slice bA (nl (mg b)) bc] 24
      replace ha := ha.below hb1
      replace hb := hb.below hb1
      have HBT := hb1
      clear hb1
      have qa0 := Ra.c (i := 0) rfl
      have qa1 := Ra.c (i := 1) rfl
      have qb0 := Rb.c (i := 0) rfl
      have qb1 := Rb.c (i := 1) rfl
      replace h1 := Lib.hid h1
      replace h2 := Lib.hid h2
      go_enter Tryz.func69, Tryz.ntmps69
      go_wp2_with (fail)
      go_ret
      exact ⟨rfl, HBT⟩
    · have ta : sg a = false := sg_f (by omega)
      have tb : sg b = false := sg_f (by omega)
      rw [icmp_nn (by omega) (by omega)]
      obtain ⟨hb1, Ra, Rb⟩ := bx2 w #[.bool false, .slice aA (nl (mg a)) ac] 24 #[.bool false, .slice bA (nl (mg b)) bc] 24
      replace ha := ha.below hb1
      replace hb := hb.below hb1
      have HBT := hb1
      clear hb1
      have qa0 := Ra.c (i := 0) rfl
      have qa1 := Ra.c (i := 1) rfl
      have qb0 := Rb.c (i := 0) rfl
      have qb1 := Rb.c (i := 1) rfl
      replace h1 := Lib.hid h1
      replace h2 := Lib.hid h2
      go_enter Tryz.func69, Tryz.ntmps69
      go_wp2_with (fail)
      refine (Calls.mono (rcmp_c aA ac (mg a) bA bc (mg b) _ ha hb (by omega) (by omega)) ?_)
      rintro e w' ⟨rfl, hw⟩
      subst hw
      go_wp2_with (fail)
      go_ret
      exact ⟨rfl, HBT⟩
theorem nat0 (W : World) : NatV W none 0 (mg 0) := ⟨.inl (by simp [vals, limbs_zero, mg]), by simp [mg, nl_zero], by decide⟩
theorem icmp_sign (a : Int) : icmp a 0 = a.sign := by
  unfold icmp
  rcases Int.lt_trichotomy a 0 with h | h | h
  · rw [if_pos h, Int.sign_eq_neg_one_of_neg h]
  · rw [h]; rfl
  · rw [if_neg (by omega), if_pos h, Int.sign_eq_one_of_pos h]
theorem zsign_c (aA : Option Addr) (ac : Nat) (a : Int) (w : World) (ha : NatV w aA ac (mg a)) (la : nl (mg a) ≤ 1073741824) :
    Calls Tryz.prog 29 #[.agg #[.bool (sg a), .slice aA (nl (mg a)) ac]] w (fun e w' => e = .returned (.int .i64 a.sign) ∧ Below w.heap.size w w') := by
  obtain ⟨hb1, Ra⟩ := bx1 w #[.bool (sg a), .slice aA (nl (mg a)) ac] 24
  replace ha := ha.below hb1
  have HBT := hb1
  clear hb1
  have qa0 := Ra.c (i := 0) rfl
  have qa1 := Ra.c (i := 1) rfl
  have CC := zcmp_c aA ac a none 0 0 (w.alloc (.cells #[.bool (sg a), .slice aA (nl (mg a)) ac] 24)) ha (nat0 _) (by omega) (by simp [mg, nl_zero])
  rw [icmp_sign, show sg 0 = false from rfl, show nl (mg 0) = 0 from nl_zero] at CC
  replace CC := Lib.hid CC
  go_enter Tryz.func29, Tryz.ntmps29
  go_wp2_with (fail)
  refine (Calls.mono (CC.out) ?_)
  rintro e W2 ⟨rfl, hb2⟩
  replace ha := ha.below hb2
  replace Ra := Ra.below hb2
  replace qa0 := cbl hb2 qa0
  replace qa1 := cbl hb2 qa1
  replace HBT := Below.cons HBT hb2
  clear hb2
  go_wp2_with (fail)
  go_ret
  exact ⟨rfl, HBT⟩
theorem zneg_c (aA : Option Addr) (ac : Nat) (a : Int) (w : World) (ha : NatV w aA ac (mg a)) (la : nl (mg a) ≤ 1073741824) :
    Calls Tryz.prog 80 #[.agg #[.bool (sg a), .slice aA (nl (mg a)) ac]] w (RetI w (-a)) := by
  obtain ⟨n, En⟩ : ∃ n : Bool, n = !sg a := ⟨_, rfl⟩
  have In : (!sg a) = n := En.symm
  have hv : ival n (mg a) = -a := by rw [En]; unfold ival sg mg; by_cases h : a < 0 <;> simp [h] <;> omega
  replace En := Lib.hid En
  replace hv := Lib.hid hv
  obtain ⟨hb1, Ra, Rr⟩ := bx2 w #[.bool (sg a), .slice aA (nl (mg a)) ac] 24 #[.bool false, .slice none 0 0] 24
  replace ha := ha.below hb1
  have HBT := hb1
  clear hb1
  have qa0 := Ra.c (i := 0) rfl
  have qa1 := Ra.c (i := 1) rfl
  have qr0 := Rr.c (i := 0) rfl
  have qr1 := Rr.c (i := 1) rfl
  go_enter Tryz.func80, Tryz.ntmps80
  go_wp2_with (fail)
  obtain ⟨z, Ez⟩ : ∃ zq : Int, zq = ival n (mg a) := ⟨_, rfl⟩
  refine (Calls.mono (R := RetI ((w.alloc (.cells #[.bool (sg a), .slice aA (nl (mg a)) ac] 24)).alloc (.cells #[.bool false, .slice none 0 0] 24)) z) (by rw [Ez]; with_reducible exact (rz_c n aA ac (mg a) _ ha (by omega))) ?_)
  replace Ez := Lib.hid Ez
  rintro e W2 ⟨Xz, cz, rfl, hz, hb2⟩
  replace ha := ha.below hb2
  replace Ra := Ra.below hb2
  replace qa0 := cbl hb2 qa0
  replace qa1 := cbl hb2 qa1
  replace Rr := Rr.below hb2
  replace qr0 := cbl hb2 qr0
  replace qr1 := cbl hb2 qr1
  replace HBT := Below.cons HBT hb2
  clear hb2
  have fzr0 := Rr.f (i := 0)
  have fzr1 := Rr.f (i := 1)
  go_wp2_with (fail)
  have hzz : z = (-a) := by rw [Ez.out]; exact hv.out
  subst hzz
  have RS := Rr.store2 (.bool (sg (((-a))))) (.slice Xz (nl (mg (((-a))))) cz)
  have e0 := RS.c (i := 0) rfl
  have e1 := RS.c (i := 1) rfl
  refine bodyPost_ret (v := .agg #[.bool (sg (((-a)))), .slice Xz (nl (mg (((-a))))) cz]) (by simp [results, Tryz.results80, go_sem, e0, e1]) rfl ?_
  exact ⟨Xz, cz, rfl, (Rr.keep2 (nuB rfl) hz), (Below.store2 HBT (by first | exact Nat.le_refl _ | omega))⟩
theorem zsame_y (aA : Option Addr) (ac : Nat) (a : Int) (bA : Option Addr) (bc : Nat) (b : Int) (w : World) (ha : NatV w aA ac (mg a)) (hb : NatV w bA bc (mg b)) (la : nl (mg a) ≤ 1073741824) (lb : nl (mg b) ≤ 1073741824) (h0 : a = b) :
    Calls Tryz.prog 20 #[.agg #[.bool (sg a), .slice aA (nl (mg a)) ac], .agg #[.bool (sg b), .slice bA (nl (mg b)) bc]] w (fun e w' => e = .returned (.bool true) ∧ Below w.heap.size w w') := by
  have ic : icmp a b = 0 := icmp_zero.2 h0
  have es : (sg a == sg b) = true := by rw [h0]; simp
  obtain ⟨ib, Eib⟩ : ∃ z, z = icmp a b := ⟨_, rfl⟩
  rw [← Eib] at ic
  have CC := fun W => zcmp_c aA ac a bA bc b W
  rw [← Eib] at CC
  replace CC := Lib.hid CC
  replace Eib := Lib.hid Eib
  replace h0 := Lib.hid h0
  obtain ⟨hb1, Ra, Rb⟩ := bx2 w #[.bool (sg a), .slice aA (nl (mg a)) ac] 24 #[.bool (sg b), .slice bA (nl (mg b)) bc] 24
  replace ha := ha.below hb1
  replace hb := hb.below hb1
  have HBT := hb1
  clear hb1
  have qa0 := Ra.c (i := 0) rfl
  have qa1 := Ra.c (i := 1) rfl
  have qb0 := Rb.c (i := 0) rfl
  have qb1 := Rb.c (i := 1) rfl
  go_enter Tryz.func20, Tryz.ntmps20
  go_wp2_with (fail)
  refine (Calls.mono (CC.out _ ha hb la lb) ?_)
  rintro e W2 ⟨rfl, hb2⟩
  replace ha := ha.below hb2
  replace hb := hb.below hb2
  replace Ra := Ra.below hb2
  replace qa0 := cbl hb2 qa0
  replace qa1 := cbl hb2 qa1
  replace Rb := Rb.below hb2
  replace qb0 := cbl hb2 qb0
  replace qb1 := cbl hb2 qb1
  replace HBT := Below.cons HBT hb2
  clear hb2
  go_wp2_with (fail)
  go_ret
  exact ⟨rfl, HBT⟩
theorem zsame_n (aA : Option Addr) (ac : Nat) (a : Int) (bA : Option Addr) (bc : Nat) (b : Int) (w : World) (ha : NatV w aA ac (mg a)) (hb : NatV w bA bc (mg b)) (la : nl (mg a) ≤ 1073741824) (lb : nl (mg b) ≤ 1073741824) (h0 : a ≠ b) :
    Calls Tryz.prog 20 #[.agg #[.bool (sg a), .slice aA (nl (mg a)) ac], .agg #[.bool (sg b), .slice bA (nl (mg b)) bc]] w (fun e w' => e = .returned (.bool false) ∧ Below w.heap.size w w') := by
  have ic : (icmp a b == 0) = false := by simp; exact fun e => h0 (icmp_zero.1 e)
  obtain ⟨ib, Eib⟩ : ∃ z, z = icmp a b := ⟨_, rfl⟩
  rw [← Eib] at ic
  have CC := fun W => zcmp_c aA ac a bA bc b W
  rw [← Eib] at CC
  replace CC := Lib.hid CC
  replace Eib := Lib.hid Eib
  replace h0 := Lib.hid h0
  obtain ⟨hb1, Ra, Rb⟩ := bx2 w #[.bool (sg a), .slice aA (nl (mg a)) ac] 24 #[.bool (sg b), .slice bA (nl (mg b)) bc] 24
  replace ha := ha.below hb1
  replace hb := hb.below hb1
  have HBT := hb1
  clear hb1
  have qa0 := Ra.c (i := 0) rfl
  have qa1 := Ra.c (i := 1) rfl
  have qb0 := Rb.c (i := 0) rfl
  have qb1 := Rb.c (i := 1) rfl
  go_enter Tryz.func20, Tryz.ntmps20
  go_wp2_with (fail)
  refine (Calls.mono (CC.out _ ha hb la lb) ?_)
  rintro e W2 ⟨rfl, hb2⟩
  replace ha := ha.below hb2
  replace hb := hb.below hb2
  replace Ra := Ra.below hb2
  replace qa0 := cbl hb2 qa0
  replace qa1 := cbl hb2 qa1
  replace Rb := Rb.below hb2
  replace qb0 := cbl hb2 qb0
  replace qb1 := cbl hb2 qb1
  replace HBT := Below.cons HBT hb2
  clear hb2
  go_wp2_with (fail)
  go_ret
  exact ⟨rfl, HBT⟩
theorem zsame_c (aA : Option Addr) (ac : Nat) (a : Int) (bA : Option Addr) (bc : Nat) (b : Int) (w : World) (ha : NatV w aA ac (mg a)) (hb : NatV w bA bc (mg b)) (la : nl (mg a) ≤ 1073741824) (lb : nl (mg b) ≤ 1073741824) :
    Calls Tryz.prog 20 #[.agg #[.bool (sg a), .slice aA (nl (mg a)) ac], .agg #[.bool (sg b), .slice bA (nl (mg b)) bc]] w fun e w' => e = .returned (.bool (decide (a = b))) ∧ Below w.heap.size w w' := by
  by_cases h : a = b
  · rw [decide_eq_true h]; exact zsame_y aA ac a bA bc b w ha hb la lb h
  · rw [decide_eq_false h]; exact zsame_n aA ac a bA bc b w ha hb la lb h
end Go.Proofs.YtacjfpibilolnaaGreatDoor
