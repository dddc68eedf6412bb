/- Division, walked: all ways. -/
import Derived.Test.YtacjfpibilolnaaGreatDoorSC17
import Derived.Test.YtacjfpibilolnaaGreatDoorSC19
set_option maxRecDepth 100000
set_option maxHeartbeats 4000000
set_option linter.unusedVariables false
set_option linter.unusedSimpArgs false
namespace Go.Proofs.YtacjfpibilolnaaGreatDoor
open Go.RowKit Go.Shelf
attribute [local go_sem] max2_i min2_i max_two min_two

theorem ddivLt_c (A : Option Addr) (c a : Nat) (B : Option Addr) (d b : Nat) (w : World) (hA : NatV w A c a) (hB : NatV w B d b) (ha : nl a ≤ 16777216) (hb : nl b ≤ 16777216) (hab : a < b) :
    Calls Tryz.prog 131 #[.slice A (nl a) c, .slice B (nl b) d] w (RetQR w (a / b) (a % b)) := by
  have hb0 : b ≠ 0 := by omega
  have hbp := nl_pos.2 hb0
  have t1 : ((nl b : Int) == 0) = false := ieqF (by omega)
  have t3 : decide (cmpN a b < 0) = true := by rw [decide_eq_true_eq, cmpN_neg]; exact hab
  have CC := cmp_c A c a B d b w hA hB (by omega) (by omega)
  rw [Nat.div_eq_of_lt hab, Nat.mod_eq_of_lt hab]
  replace CC := Lib.hid CC
  go_enter Tryz.func131, Tryz.ntmps131
  go_wp2_with (fail)
  refine CC.out.mono ?_
  rintro e W1 ⟨rfl, b1⟩
  have hA1 := hA.below b1
  go_wp2_with (fail)
  exact bodyPost_ret (v := .tuple #[.slice none 0 0, .slice A (nl a) c, .int .i64 0]) (by simp [results, Tryz.results131, go_sem]) rfl ⟨none, 0, A, c, by rw [nl_zero], ⟨by rw [limbs_zero]; exact Rd.nil, by rw [nl_zero]; exact Nat.le_refl _, by decide⟩, hA1, b1⟩
theorem limb_one {b : Nat} (h : nl b = 1) : gl (limbs b) 0 = b ∧ b < 4294967296 := by
  have h1 := nl_lt b
  rw [h, Nat.pow_one] at h1
  rw [limbs_gl, Nat.pow_zero, Nat.div_one]
  exact ⟨Nat.mod_eq_of_lt h1, h1⟩
theorem make1_c (W : World) (s m : Nat) (h : W.heap[s]? = some (.cells #[.int .u32 (m : Nat)] 58 (0, 0))) (hm : m < 4294967296) :
    Calls Tryz.prog 109 #[.slice (some ⟨s, 0, none⟩) 1 1] W (RetN W m) := by
  have := make_c (some ⟨s, 0, none⟩) 1 1 [m] W rfl (rd_one W s m h) (Lim.one hm) (by decide) (Nat.le_refl _)
  rwa [show val [m] = m by simp [val]] at this
theorem ddiv1_c (A : Option Addr) (c a : Nat) (B : Option Addr) (d b : Nat) (w : World) (hA : NatV w A c a) (hB : NatV w B d b) (ha : nl a ≤ 16777216) (hb : nl b = 1) (hab : b ≤ a) :
    Calls Tryz.prog 131 #[.slice A (nl a) c, .slice B (nl b) d] w (RetQR w (a / b) (a % b)) := by
  have hb0 : 0 < b := Nat.pos_of_ne_zero (fun e => by rw [e, nl_zero] at hb; omega)
  obtain ⟨hl, hb32⟩ := limb_one hb
  have t3 : decide (cmpN a b < 0) = false := by rw [decide_eq_false_iff_not, cmpN_neg]; omega
  have CC := cmp_c A c a B d b w hA hB (by omega) (by omega)
  obtain ⟨bd, rfl, hcb⟩ := hB.rd.get 0 (by show 0 < nl b; omega)
  rw [hl] at hcb
  rw [hb] at CC ⊢
  obtain ⟨r, hr⟩ : ∃ r, r = a % b := ⟨_, rfl⟩
  have hr32 : r < 4294967296 := by rw [hr]; exact Nat.lt_trans (Nat.mod_lt _ hb0) hb32
  rw [← hr]
  replace CC := Lib.hid CC
  go_enter Tryz.func131, Tryz.ntmps131
  go_wp2_with (fail)
  refine CC.out.mono ?_
  rintro e W1 ⟨rfl, b1⟩
  have hA1 := hA.below b1
  replace hcb := cbl b1 hcb
  have hcb0 : W1.cell? bd = some (.int .u32 (b : Nat)) := by
    have e : bd.add 0 = bd := by first | exact Addr.add_zero _ | (cases bd; simp [Addr.add]; try (split <;> simp)) | rfl
    rwa [e] at hcb
  have CS := dsmall_c A c a b W1 hA1 ha hb32 hb0
  rw [← hr] at CS
  replace hr := Lib.hid hr
  replace CS := Lib.hid CS
  go_wp2_with (fail)
  refine CS.out.mono ?_
  rintro e W2 ⟨X, cx, rfl, h1, b2⟩
  have b3 : Below W2.heap.size W2 (W2.alloc (.cells #[.int .u32 (r : Nat)] 58)) := (Below.refl _ _).alloc (Nat.le_refl _) _
  have CM := make1_c _ _ r (heap_alloc_new W2 (.cells #[.int .u32 (r : Nat)] 58)) hr32
  have hX := h1.below b3
  replace CM := Lib.hid CM
  go_wp2_with (fail)
  refine CM.out.mono ?_
  rintro e W4 ⟨Y, cy, rfl, h2, b4⟩
  go_wp2_with (fail)
  exact bodyPost_ret (v := .tuple #[.slice X (nl (a / b)) cx, .slice Y (nl r) cy, .int .i64 0]) (by simp [results, Tryz.results131, go_sem]) rfl ⟨X, cx, Y, cy, rfl, hX.below b4, h2, ((b1.cons b2).cons b3).cons b4⟩
/-- div.DivMod, whole. -/
theorem ddivmod_c (A : Option Addr) (c a : Nat) (B : Option Addr) (d b : Nat) (w : World) (hA : NatV w A c a) (hB : NatV w B d b) (ha : nl a ≤ 16777216) (hb : nl b ≤ 16777216) (hb0 : 0 < b) :
    Calls Tryz.prog 131 #[.slice A (nl a) c, .slice B (nl b) d] w (RetQR w (a / b) (a % b)) := by
  rcases Nat.lt_or_ge a b with h | h
  · exact ddivLt_c A c a B d b w hA hB ha hb h
  · have hp := nl_pos.2 (show b ≠ 0 by omega)
    by_cases h1 : nl b = 1
    · exact ddiv1_c A c a B d b w hA hB ha h1 h
    · exact divmod2_c A c a B d b w hA hB ha (by omega) h
end Go.Proofs.YtacjfpibilolnaaGreatDoor
