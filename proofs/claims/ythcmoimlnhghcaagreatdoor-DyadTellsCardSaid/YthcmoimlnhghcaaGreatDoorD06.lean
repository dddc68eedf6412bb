/- Live questions, whose answers are fixed (head of the laws of dyadic numbers). -/
import Derived.Test.YthcmoimlnhghcaaGreatDoorD05
import Derived.Test.YthcmoimlnhghcaaGreatDoorD02
import Derived.Maps.AppendAt
set_option maxRecDepth 100000
set_option maxHeartbeats 4000000
set_option linter.unusedVariables false
set_option linter.unusedSimpArgs false
namespace Go.Proofs.YthcmoimlnhghcaaGreatDoor
open Go.RowKit Go.Shelf
attribute [local go_sem] max2_i min2_i max_two min_two

theorem ld_nz (z x : Int) (w : World) (h0 : -9223372036854775808 ≤ z) (h1 : z < 9223372036854775808) (hn : Nz z x) :
    Calls Tryz.prog 50 #[.int .i64 z, .int .i64 x] w (RetD w (dval z x)) :=
  (ld_c z x w h0 h1).mono fun _ _ h => retDr_nz h hn
theorem tsame0_c (aA : Option Addr) (ac : Nat) (a : Rat) (w : World) (ha : NatV w aA ac (mg (dmn a))) (oa : DOk a) (h : a = 0) :
    Calls Tryz.prog 11 #[.agg #[.bool (sg (dmn a)), .slice aA (nl (mg (dmn a))) ac, .int .i64 (dex a)], .agg #[.bool false, .slice none 0 0, .int .i64 0]] w fun e w' => e = .returned (.bool true) ∧ Below w.heap.size w w' := by
  have h1 := tsameT_c aA ac a none 0 0 w ha (nat_none w) oa h
  rw [dmn_zero, dex_zero, mg0, sg0, nl_zero] at h1
  exact h1
def hq1_3 : Rat := Rat.divInt 1 3
theorem Nhq1_3 : nl (mg hq1_3.num) ≤ 1 ∧ nl hq1_3.den ≤ 1 := ⟨nl_le.2 (by unfold hq1_3; decide +kernel), nl_le.2 (by unfold hq1_3; decide +kernel)⟩
theorem cohq1_3 (W : World)   : Calls Tryz.prog 48 #[.int .i64 1, .int .i64 3] W (RetR W hq1_3) := by
  unfold hq1_3; exact lq_c 1 3 W (by decide) (by decide) (by decide) (by decide)
def ka : Rat := dval 1 (-2)
theorem Oka : DB ka 1 100 := ⟨by unfold ka; exact dyd_val _ _, by unfold ka; decide +kernel, by unfold ka; decide +kernel⟩
theorem hc1 (W : World) (Ahq1_3 : Option Addr) (chq1_3 : Nat) (Bhq1_3 : Option Addr) (dhq1_3 : Nat) (hhq1_3 : NatV W Ahq1_3 chq1_3 (mg hq1_3.num)) (ghq1_3 : NatV W Bhq1_3 dhq1_3 hq1_3.den) (hT : Tab W) : Calls Tryz.prog 47 #[.agg #[.bool (sg hq1_3.num), .slice Ahq1_3 (nl (mg hq1_3.num)) chq1_3, .slice Bhq1_3 (nl hq1_3.den) dhq1_3], .int .i64 2, .int .i64 0] W (RetDe W ka 0) := by
  rw [show ka = dval (rnd 0 (hq1_3 * (2 : Rat) ^ (2 : Int))) (-(2)) by unfold ka hq1_3; decide +kernel]
  exact cut_in Ahq1_3 chq1_3 Bhq1_3 dhq1_3 hq1_3 2 0 W hhq1_3 ghq1_3 hT (Nat.le_trans Nhq1_3.1 (by decide)) (Nat.le_trans Nhq1_3.2 (by decide)) (by decide) (by decide) (by decide)
def kb : Rat := dval 1 (-1)
theorem Okb : DB kb 1 100 := ⟨by unfold kb; exact dyd_val _ _, by unfold kb; decide +kernel, by unfold kb; decide +kernel⟩
theorem hc2 (W : World) (Ahq1_3 : Option Addr) (chq1_3 : Nat) (Bhq1_3 : Option Addr) (dhq1_3 : Nat) (hhq1_3 : NatV W Ahq1_3 chq1_3 (mg hq1_3.num)) (ghq1_3 : NatV W Bhq1_3 dhq1_3 hq1_3.den) (hT : Tab W) : Calls Tryz.prog 47 #[.agg #[.bool (sg hq1_3.num), .slice Ahq1_3 (nl (mg hq1_3.num)) chq1_3, .slice Bhq1_3 (nl hq1_3.den) dhq1_3], .int .i64 2, .int .i64 1] W (RetDe W kb 0) := by
  rw [show kb = dval (rnd 1 (hq1_3 * (2 : Rat) ^ (2 : Int))) (-(2)) by unfold kb hq1_3; decide +kernel]
  exact cut_in Ahq1_3 chq1_3 Bhq1_3 dhq1_3 hq1_3 2 1 W hhq1_3 ghq1_3 hT (Nat.le_trans Nhq1_3.1 (by decide)) (Nat.le_trans Nhq1_3.2 (by decide)) (by decide) (by decide) (by decide)
def kc : Rat := dval 1 (-2)
theorem Okc : DB kc 1 100 := ⟨by unfold kc; exact dyd_val _ _, by unfold kc; decide +kernel, by unfold kc; decide +kernel⟩
theorem hc3 (W : World) (Ahq1_3 : Option Addr) (chq1_3 : Nat) (Bhq1_3 : Option Addr) (dhq1_3 : Nat) (hhq1_3 : NatV W Ahq1_3 chq1_3 (mg hq1_3.num)) (ghq1_3 : NatV W Bhq1_3 dhq1_3 hq1_3.den) (hT : Tab W) : Calls Tryz.prog 47 #[.agg #[.bool (sg hq1_3.num), .slice Ahq1_3 (nl (mg hq1_3.num)) chq1_3, .slice Bhq1_3 (nl hq1_3.den) dhq1_3], .int .i64 2, .int .i64 4] W (RetDe W kc 0) := by
  rw [show kc = dval (rnd 4 (hq1_3 * (2 : Rat) ^ (2 : Int))) (-(2)) by unfold kc hq1_3; decide +kernel]
  exact cut_in Ahq1_3 chq1_3 Bhq1_3 dhq1_3 hq1_3 2 4 W hhq1_3 ghq1_3 hT (Nat.le_trans Nhq1_3.1 (by decide)) (Nat.le_trans Nhq1_3.2 (by decide)) (by decide) (by decide) (by decide)
def hq3_8 : Rat := Rat.divInt 3 8
theorem Nhq3_8 : nl (mg hq3_8.num) ≤ 1 ∧ nl hq3_8.den ≤ 1 := ⟨nl_le.2 (by unfold hq3_8; decide +kernel), nl_le.2 (by unfold hq3_8; decide +kernel)⟩
theorem cohq3_8 (W : World)   : Calls Tryz.prog 48 #[.int .i64 3, .int .i64 8] W (RetR W hq3_8) := by
  unfold hq3_8; exact lq_c 3 8 W (by decide) (by decide) (by decide) (by decide)
def kf : Rat := dval 1 (-1)
theorem Okf : DB kf 1 100 := ⟨by unfold kf; exact dyd_val _ _, by unfold kf; decide +kernel, by unfold kf; decide +kernel⟩
theorem hc4 (W : World) (Ahq3_8 : Option Addr) (chq3_8 : Nat) (Bhq3_8 : Option Addr) (dhq3_8 : Nat) (hhq3_8 : NatV W Ahq3_8 chq3_8 (mg hq3_8.num)) (ghq3_8 : NatV W Bhq3_8 dhq3_8 hq3_8.den) (hT : Tab W) : Calls Tryz.prog 47 #[.agg #[.bool (sg hq3_8.num), .slice Ahq3_8 (nl (mg hq3_8.num)) chq3_8, .slice Bhq3_8 (nl hq3_8.den) dhq3_8], .int .i64 2, .int .i64 4] W (RetDe W kf 0) := by
  rw [show kf = dval (rnd 4 (hq3_8 * (2 : Rat) ^ (2 : Int))) (-(2)) by unfold kf hq3_8; decide +kernel]
  exact cut_in Ahq3_8 chq3_8 Bhq3_8 dhq3_8 hq3_8 2 4 W hhq3_8 ghq3_8 hT (Nat.le_trans Nhq3_8.1 (by decide)) (Nat.le_trans Nhq3_8.2 (by decide)) (by decide) (by decide) (by decide)
def hq5_8 : Rat := Rat.divInt 5 8
theorem Nhq5_8 : nl (mg hq5_8.num) ≤ 1 ∧ nl hq5_8.den ≤ 1 := ⟨nl_le.2 (by unfold hq5_8; decide +kernel), nl_le.2 (by unfold hq5_8; decide +kernel)⟩
theorem cohq5_8 (W : World)   : Calls Tryz.prog 48 #[.int .i64 5, .int .i64 8] W (RetR W hq5_8) := by
  unfold hq5_8; exact lq_c 5 8 W (by decide) (by decide) (by decide) (by decide)
def kg : Rat := dval 1 (-1)
theorem Okg : DB kg 1 100 := ⟨by unfold kg; exact dyd_val _ _, by unfold kg; decide +kernel, by unfold kg; decide +kernel⟩
theorem hc5 (W : World) (Ahq5_8 : Option Addr) (chq5_8 : Nat) (Bhq5_8 : Option Addr) (dhq5_8 : Nat) (hhq5_8 : NatV W Ahq5_8 chq5_8 (mg hq5_8.num)) (ghq5_8 : NatV W Bhq5_8 dhq5_8 hq5_8.den) (hT : Tab W) : Calls Tryz.prog 47 #[.agg #[.bool (sg hq5_8.num), .slice Ahq5_8 (nl (mg hq5_8.num)) chq5_8, .slice Bhq5_8 (nl hq5_8.den) dhq5_8], .int .i64 2, .int .i64 4] W (RetDe W kg 0) := by
  rw [show kg = dval (rnd 4 (hq5_8 * (2 : Rat) ^ (2 : Int))) (-(2)) by unfold kg hq5_8; decide +kernel]
  exact cut_in Ahq5_8 chq5_8 Bhq5_8 dhq5_8 hq5_8 2 4 W hhq5_8 ghq5_8 hT (Nat.le_trans Nhq5_8.1 (by decide)) (Nat.le_trans Nhq5_8.2 (by decide)) (by decide) (by decide) (by decide)
def hqn1_3 : Rat := Rat.divInt (-1) 3
theorem Nhqn1_3 : nl (mg hqn1_3.num) ≤ 1 ∧ nl hqn1_3.den ≤ 1 := ⟨nl_le.2 (by unfold hqn1_3; decide +kernel), nl_le.2 (by unfold hqn1_3; decide +kernel)⟩
theorem cohqn1_3 (W : World)   : Calls Tryz.prog 48 #[.int .i64 (-1), .int .i64 3] W (RetR W hqn1_3) := by
  unfold hqn1_3; exact lq_c (-1) 3 W (by decide) (by decide) (by decide) (by decide)
def kh : Rat := dval (-1) (-2)
theorem Okh : DB kh 1 100 := ⟨by unfold kh; exact dyd_val _ _, by unfold kh; decide +kernel, by unfold kh; decide +kernel⟩
theorem hc6 (W : World) (Ahqn1_3 : Option Addr) (chqn1_3 : Nat) (Bhqn1_3 : Option Addr) (dhqn1_3 : Nat) (hhqn1_3 : NatV W Ahqn1_3 chqn1_3 (mg hqn1_3.num)) (ghqn1_3 : NatV W Bhqn1_3 dhqn1_3 hqn1_3.den) (hT : Tab W) : Calls Tryz.prog 47 #[.agg #[.bool (sg hqn1_3.num), .slice Ahqn1_3 (nl (mg hqn1_3.num)) chqn1_3, .slice Bhqn1_3 (nl hqn1_3.den) dhqn1_3], .int .i64 2, .int .i64 2] W (RetDe W kh 0) := by
  rw [show kh = dval (rnd 2 (hqn1_3 * (2 : Rat) ^ (2 : Int))) (-(2)) by unfold kh hqn1_3; decide +kernel]
  exact cut_in Ahqn1_3 chqn1_3 Bhqn1_3 dhqn1_3 hqn1_3 2 2 W hhqn1_3 ghqn1_3 hT (Nat.le_trans Nhqn1_3.1 (by decide)) (Nat.le_trans Nhqn1_3.2 (by decide)) (by decide) (by decide) (by decide)
def ki : Rat := dval (-1) (-1)
theorem Oki : DB ki 1 100 := ⟨by unfold ki; exact dyd_val _ _, by unfold ki; decide +kernel, by unfold ki; decide +kernel⟩
theorem hc7 (W : World) (Ahqn1_3 : Option Addr) (chqn1_3 : Nat) (Bhqn1_3 : Option Addr) (dhqn1_3 : Nat) (hhqn1_3 : NatV W Ahqn1_3 chqn1_3 (mg hqn1_3.num)) (ghqn1_3 : NatV W Bhqn1_3 dhqn1_3 hqn1_3.den) (hT : Tab W) : Calls Tryz.prog 47 #[.agg #[.bool (sg hqn1_3.num), .slice Ahqn1_3 (nl (mg hqn1_3.num)) chqn1_3, .slice Bhqn1_3 (nl hqn1_3.den) dhqn1_3], .int .i64 2, .int .i64 3] W (RetDe W ki 0) := by
  rw [show ki = dval (rnd 3 (hqn1_3 * (2 : Rat) ^ (2 : Int))) (-(2)) by unfold ki hqn1_3; decide +kernel]
  exact cut_in Ahqn1_3 chqn1_3 Bhqn1_3 dhqn1_3 hqn1_3 2 3 W hhqn1_3 ghqn1_3 hT (Nat.le_trans Nhqn1_3.1 (by decide)) (Nat.le_trans Nhqn1_3.2 (by decide)) (by decide) (by decide) (by decide)
def hd7_n3 : Rat := dval 7 (-3)
theorem Ohd7_n3 : DB hd7_n3 1 100 := ⟨by unfold hd7_n3; exact dyd_val _ _, by unfold hd7_n3; decide +kernel, by unfold hd7_n3; decide +kernel⟩
theorem cohd7_n3 (W : World)   : Calls Tryz.prog 50 #[.int .i64 7, .int .i64 (-3)] W (RetD W hd7_n3) := by
  have hn : Nz 7 (-3) := Or.inl (by decide)
  unfold hd7_n3; exact ld_nz 7 (-3) W (by decide) (by decide) hn
def kl : Rat := dval 1 (-1)
theorem Okl : DB kl 1 100 := ⟨by unfold kl; exact dyd_val _ _, by unfold kl; decide +kernel, by unfold kl; decide +kernel⟩
theorem hc8 (W : World) (Ahd7_n3 : Option Addr) (chd7_n3 : Nat) (hhd7_n3 : NatV W Ahd7_n3 chd7_n3 (mg (dmn hd7_n3))) (hT : Tab W) : Calls Tryz.prog 49 #[.agg #[.bool (sg (dmn hd7_n3)), .slice Ahd7_n3 (nl (mg (dmn hd7_n3))) chd7_n3, .int .i64 (dex hd7_n3)], .int .i64 1, .int .i64 0] W (RetDe W kl 0) := by
  rw [show kl = dval (rnd 0 (hd7_n3 * (2 : Rat) ^ (1 : Int))) (-(1)) by unfold kl hd7_n3; decide +kernel]
  exact dround_c Ahd7_n3 chd7_n3 hd7_n3 1 0 W hhd7_n3 hT (Ohd7_n3.ok (by decide) (by decide)) (by decide) (by decide) (by decide)
def hz12 : Int := 12
theorem Nhz12 : nl (mg hz12) ≤ 1 := nl_le.2 (by unfold hz12; decide +kernel)
theorem cohz12 (W : World)   : Calls Tryz.prog 51 #[.int .i64 12] W (RetI W hz12) := by
  unfold hz12; exact zof_c 12 W (by decide) (by decide)
def hmhz12 : Rat := dval 3 1
theorem Ohmhz12 : DB hmhz12 1 100 := ⟨by unfold hmhz12; exact dyd_val _ _, by unfold hmhz12; decide +kernel, by unfold hmhz12; decide +kernel⟩
theorem hc9 (W : World) (Ahz12 : Option Addr) (chz12 : Nat) (hhz12 : NatV W Ahz12 chz12 (mg hz12)) (hT : Tab W) : Calls Tryz.prog 12 #[.agg #[.bool (sg hz12), .slice Ahz12 (nl (mg hz12)) chz12], .int .i64 (-1)] W (RetD W hmhz12) := by
  rw [show hmhz12 = dval hz12 (-1) by unfold hmhz12 hz12; decide +kernel]
  exact dmake_c Ahz12 chz12 hz12 (-1) W hhz12 hT (Nat.le_trans Nhz12 (by decide)) (by decide)
def hd3_1 : Rat := dval 3 1
theorem Ohd3_1 : DB hd3_1 1 100 := ⟨by unfold hd3_1; exact dyd_val _ _, by unfold hd3_1; decide +kernel, by unfold hd3_1; decide +kernel⟩
theorem cohd3_1 (W : World)   : Calls Tryz.prog 50 #[.int .i64 3, .int .i64 1] W (RetD W hd3_1) := by
  have hn : Nz 3 1 := Or.inl (by decide)
  unfold hd3_1; exact ld_nz 3 1 W (by decide) (by decide) hn
theorem hc10 (W : World) (Ahmhz12 : Option Addr) (chmhz12 : Nat) (Ahd3_1 : Option Addr) (chd3_1 : Nat) (hhmhz12 : NatV W Ahmhz12 chmhz12 (mg (dmn hmhz12))) (hhd3_1 : NatV W Ahd3_1 chd3_1 (mg (dmn hd3_1))) : Calls Tryz.prog 11 #[.agg #[.bool (sg (dmn hmhz12)), .slice Ahmhz12 (nl (mg (dmn hmhz12))) chmhz12, .int .i64 (dex hmhz12)], .agg #[.bool (sg (dmn hd3_1)), .slice Ahd3_1 (nl (mg (dmn hd3_1))) chd3_1, .int .i64 (dex hd3_1)]] W (fun e w' => e = .returned (.bool true) ∧ Below W.heap.size W w') := by
  exact tsameT_c Ahmhz12 chmhz12 hmhz12 Ahd3_1 chd3_1 hd3_1 W hhmhz12 hhd3_1 (Ohmhz12.ok (by decide) (by decide)) (by unfold hmhz12 hd3_1; decide +kernel)
def hz0 : Int := 0
theorem Nhz0 : nl (mg hz0) ≤ 1 := nl_le.2 (by unfold hz0; decide +kernel)
theorem cohz0 (W : World)   : Calls Tryz.prog 51 #[.int .i64 0] W (RetI W hz0) := by
  unfold hz0; exact zof_c 0 W (by decide) (by decide)
def hmhz0 : Rat := (0 : Rat)
theorem Ohmhz0 : DB hmhz0 1 100 := ⟨by unfold hmhz0; exact by rw [← dval_zero 0]; exact dyd_val 0 0, by unfold hmhz0; decide +kernel, by unfold hmhz0; decide +kernel⟩
theorem hc11 (W : World) (Ahz0 : Option Addr) (chz0 : Nat) (hhz0 : NatV W Ahz0 chz0 (mg hz0)) (hT : Tab W) : Calls Tryz.prog 12 #[.agg #[.bool (sg hz0), .slice Ahz0 (nl (mg hz0)) chz0], .int .i64 7] W (RetD W hmhz0) := by
  rw [show hmhz0 = dval hz0 7 by unfold hmhz0 hz0; decide +kernel]
  exact dmake_c Ahz0 chz0 hz0 7 W hhz0 hT (Nat.le_trans Nhz0 (by decide)) (by decide)
theorem hc12 (W : World) (Ahmhz0 : Option Addr) (chmhz0 : Nat) (hhmhz0 : NatV W Ahmhz0 chmhz0 (mg (dmn hmhz0))) : Calls Tryz.prog 11 #[.agg #[.bool (sg (dmn hmhz0)), .slice Ahmhz0 (nl (mg (dmn hmhz0))) chmhz0, .int .i64 (dex hmhz0)], .agg #[.bool false, .slice none 0 0, .int .i64 0]] W (fun e w' => e = .returned (.bool true) ∧ Below W.heap.size W w') := by
  exact tsame0_c Ahmhz0 chmhz0 hmhz0 W hhmhz0 (Ohmhz0.ok (by decide) (by decide)) rfl
theorem hc13 (W : World) (Ahd3_1 : Option Addr) (chd3_1 : Nat) (hhd3_1 : NatV W Ahd3_1 chd3_1 (mg (dmn hd3_1))) : Calls Tryz.prog 7 #[.agg #[.bool (sg (dmn hd3_1)), .slice Ahd3_1 (nl (mg (dmn hd3_1))) chd3_1, .int .i64 (dex hd3_1)]] W (fun e w' => e = .returned (.bool true) ∧ Below W.heap.size W w') := by
  exact drightT_c Ahd3_1 chd3_1 hd3_1 W hhd3_1 (Nat.le_trans Ohd3_1.l (by decide)) (by have := Ohd3_1.e; omega)
def hr2_0 : Int := 2
theorem Nhr2_0 : nl (mg hr2_0) ≤ 1 := nl_le.2 (by unfold hr2_0; decide +kernel)
theorem cohr2_0 (W : World)   : Calls Tryz.prog 50 #[.int .i64 2, .int .i64 0] W (RetDr W hr2_0 0) := by
  unfold hr2_0; exact ld_c 2 0 W (by decide) (by decide)
theorem hc14 (W : World) (Ahr2_0 : Option Addr) (chr2_0 : Nat) (hhr2_0 : NatV W Ahr2_0 chr2_0 (mg hr2_0)) : Calls Tryz.prog 7 #[.agg #[.bool (sg hr2_0), .slice Ahr2_0 (nl (mg hr2_0)) chr2_0, .int .i64 0]] W (fun e w' => e = .returned (.bool false) ∧ Below W.heap.size W w') := by
  have CR := dright_c Ahr2_0 chr2_0 hr2_0 0 W hhr2_0 (Nat.le_trans Nhr2_0 (by decide))
  rw [show rightD hr2_0 0 = false by unfold hr2_0; decide +kernel] at CR
  exact CR
def hr0_1 : Int := 0
theorem Nhr0_1 : nl (mg hr0_1) ≤ 1 := nl_le.2 (by unfold hr0_1; decide +kernel)
theorem cohr0_1 (W : World)   : Calls Tryz.prog 50 #[.int .i64 0, .int .i64 1] W (RetDr W hr0_1 1) := by
  unfold hr0_1; exact ld_c 0 1 W (by decide) (by decide)
theorem hc15 (W : World) (Ahr0_1 : Option Addr) (chr0_1 : Nat) (hhr0_1 : NatV W Ahr0_1 chr0_1 (mg hr0_1)) : Calls Tryz.prog 7 #[.agg #[.bool (sg hr0_1), .slice Ahr0_1 (nl (mg hr0_1)) chr0_1, .int .i64 1]] W (fun e w' => e = .returned (.bool false) ∧ Below W.heap.size W w') := by
  have CR := dright_c Ahr0_1 chr0_1 hr0_1 1 W hhr0_1 (Nat.le_trans Nhr0_1 (by decide))
  rw [show rightD hr0_1 1 = false by unfold hr0_1; decide +kernel] at CR
  exact CR
def hr1_100001 : Int := 1
theorem Nhr1_100001 : nl (mg hr1_100001) ≤ 1 := nl_le.2 (by unfold hr1_100001; decide +kernel)
theorem cohr1_100001 (W : World)   : Calls Tryz.prog 50 #[.int .i64 1, .int .i64 100001] W (RetDr W hr1_100001 100001) := by
  unfold hr1_100001; exact ld_c 1 100001 W (by decide) (by decide)
theorem hc16 (W : World) (Ahr1_100001 : Option Addr) (chr1_100001 : Nat) (hhr1_100001 : NatV W Ahr1_100001 chr1_100001 (mg hr1_100001)) : Calls Tryz.prog 7 #[.agg #[.bool (sg hr1_100001), .slice Ahr1_100001 (nl (mg hr1_100001)) chr1_100001, .int .i64 100001]] W (fun e w' => e = .returned (.bool false) ∧ Below W.heap.size W w') := by
  have CR := dright_c Ahr1_100001 chr1_100001 hr1_100001 100001 W hhr1_100001 (Nat.le_trans Nhr1_100001 (by decide))
  rw [show rightD hr1_100001 100001 = false by unfold hr1_100001; decide +kernel] at CR
  exact CR
def hd1_n2 : Rat := dval 1 (-2)
theorem Ohd1_n2 : DB hd1_n2 1 100 := ⟨by unfold hd1_n2; exact dyd_val _ _, by unfold hd1_n2; decide +kernel, by unfold hd1_n2; decide +kernel⟩
theorem cohd1_n2 (W : World)   : Calls Tryz.prog 50 #[.int .i64 1, .int .i64 (-2)] W (RetD W hd1_n2) := by
  have hn : Nz 1 (-2) := Or.inl (by decide)
  unfold hd1_n2; exact ld_nz 1 (-2) W (by decide) (by decide) hn
theorem hc17 (W : World) (Aka : Option Addr) (cka : Nat) (Ahd1_n2 : Option Addr) (chd1_n2 : Nat) (hka : NatV W Aka cka (mg (dmn ka))) (hhd1_n2 : NatV W Ahd1_n2 chd1_n2 (mg (dmn hd1_n2))) : Calls Tryz.prog 11 #[.agg #[.bool (sg (dmn ka)), .slice Aka (nl (mg (dmn ka))) cka, .int .i64 (dex ka)], .agg #[.bool (sg (dmn hd1_n2)), .slice Ahd1_n2 (nl (mg (dmn hd1_n2))) chd1_n2, .int .i64 (dex hd1_n2)]] W (fun e w' => e = .returned (.bool true) ∧ Below W.heap.size W w') := by
  exact tsameT_c Aka cka ka Ahd1_n2 chd1_n2 hd1_n2 W hka hhd1_n2 (Oka.ok (by decide) (by decide)) (by unfold ka hd1_n2; decide +kernel)
def hd1_n1 : Rat := dval 1 (-1)
theorem Ohd1_n1 : DB hd1_n1 1 100 := ⟨by unfold hd1_n1; exact dyd_val _ _, by unfold hd1_n1; decide +kernel, by unfold hd1_n1; decide +kernel⟩
theorem cohd1_n1 (W : World)   : Calls Tryz.prog 50 #[.int .i64 1, .int .i64 (-1)] W (RetD W hd1_n1) := by
  have hn : Nz 1 (-1) := Or.inl (by decide)
  unfold hd1_n1; exact ld_nz 1 (-1) W (by decide) (by decide) hn
theorem hc18 (W : World) (Akb : Option Addr) (ckb : Nat) (Ahd1_n1 : Option Addr) (chd1_n1 : Nat) (hkb : NatV W Akb ckb (mg (dmn kb))) (hhd1_n1 : NatV W Ahd1_n1 chd1_n1 (mg (dmn hd1_n1))) : Calls Tryz.prog 11 #[.agg #[.bool (sg (dmn kb)), .slice Akb (nl (mg (dmn kb))) ckb, .int .i64 (dex kb)], .agg #[.bool (sg (dmn hd1_n1)), .slice Ahd1_n1 (nl (mg (dmn hd1_n1))) chd1_n1, .int .i64 (dex hd1_n1)]] W (fun e w' => e = .returned (.bool true) ∧ Below W.heap.size W w') := by
  exact tsameT_c Akb ckb kb Ahd1_n1 chd1_n1 hd1_n1 W hkb hhd1_n1 (Okb.ok (by decide) (by decide)) (by unfold kb hd1_n1; decide +kernel)
theorem hc19 (W : World) (Akc : Option Addr) (ckc : Nat) (Ahd1_n2 : Option Addr) (chd1_n2 : Nat) (hkc : NatV W Akc ckc (mg (dmn kc))) (hhd1_n2 : NatV W Ahd1_n2 chd1_n2 (mg (dmn hd1_n2))) : Calls Tryz.prog 11 #[.agg #[.bool (sg (dmn kc)), .slice Akc (nl (mg (dmn kc))) ckc, .int .i64 (dex kc)], .agg #[.bool (sg (dmn hd1_n2)), .slice Ahd1_n2 (nl (mg (dmn hd1_n2))) chd1_n2, .int .i64 (dex hd1_n2)]] W (fun e w' => e = .returned (.bool true) ∧ Below W.heap.size W w') := by
  exact tsameT_c Akc ckc kc Ahd1_n2 chd1_n2 hd1_n2 W hkc hhd1_n2 (Okc.ok (by decide) (by decide)) (by unfold kc hd1_n2; decide +kernel)
theorem hc20 (W : World) (Akf : Option Addr) (ckf : Nat) (Ahd1_n1 : Option Addr) (chd1_n1 : Nat) (hkf : NatV W Akf ckf (mg (dmn kf))) (hhd1_n1 : NatV W Ahd1_n1 chd1_n1 (mg (dmn hd1_n1))) : Calls Tryz.prog 11 #[.agg #[.bool (sg (dmn kf)), .slice Akf (nl (mg (dmn kf))) ckf, .int .i64 (dex kf)], .agg #[.bool (sg (dmn hd1_n1)), .slice Ahd1_n1 (nl (mg (dmn hd1_n1))) chd1_n1, .int .i64 (dex hd1_n1)]] W (fun e w' => e = .returned (.bool true) ∧ Below W.heap.size W w') := by
  exact tsameT_c Akf ckf kf Ahd1_n1 chd1_n1 hd1_n1 W hkf hhd1_n1 (Okf.ok (by decide) (by decide)) (by unfold kf hd1_n1; decide +kernel)
theorem hc21 (W : World) (Akg : Option Addr) (ckg : Nat) (Ahd1_n1 : Option Addr) (chd1_n1 : Nat) (hkg : NatV W Akg ckg (mg (dmn kg))) (hhd1_n1 : NatV W Ahd1_n1 chd1_n1 (mg (dmn hd1_n1))) : Calls Tryz.prog 11 #[.agg #[.bool (sg (dmn kg)), .slice Akg (nl (mg (dmn kg))) ckg, .int .i64 (dex kg)], .agg #[.bool (sg (dmn hd1_n1)), .slice Ahd1_n1 (nl (mg (dmn hd1_n1))) chd1_n1, .int .i64 (dex hd1_n1)]] W (fun e w' => e = .returned (.bool true) ∧ Below W.heap.size W w') := by
  exact tsameT_c Akg ckg kg Ahd1_n1 chd1_n1 hd1_n1 W hkg hhd1_n1 (Okg.ok (by decide) (by decide)) (by unfold kg hd1_n1; decide +kernel)
def hdn1_n2 : Rat := dval (-1) (-2)
theorem cohdn1_n2 (W : World)   : Calls Tryz.prog 50 #[.int .i64 (-1), .int .i64 (-2)] W (RetD W hdn1_n2) := by
  have hn : Nz (-1) (-2) := Or.inl (by decide)
  unfold hdn1_n2; exact ld_nz (-1) (-2) W (by decide) (by decide) hn
theorem hc22 (W : World) (Akh : Option Addr) (ckh : Nat) (Ahdn1_n2 : Option Addr) (chdn1_n2 : Nat) (hkh : NatV W Akh ckh (mg (dmn kh))) (hhdn1_n2 : NatV W Ahdn1_n2 chdn1_n2 (mg (dmn hdn1_n2))) : Calls Tryz.prog 11 #[.agg #[.bool (sg (dmn kh)), .slice Akh (nl (mg (dmn kh))) ckh, .int .i64 (dex kh)], .agg #[.bool (sg (dmn hdn1_n2)), .slice Ahdn1_n2 (nl (mg (dmn hdn1_n2))) chdn1_n2, .int .i64 (dex hdn1_n2)]] W (fun e w' => e = .returned (.bool true) ∧ Below W.heap.size W w') := by
  exact tsameT_c Akh ckh kh Ahdn1_n2 chdn1_n2 hdn1_n2 W hkh hhdn1_n2 (Okh.ok (by decide) (by decide)) (by unfold kh hdn1_n2; decide +kernel)
def hdn1_n1 : Rat := dval (-1) (-1)
theorem cohdn1_n1 (W : World)   : Calls Tryz.prog 50 #[.int .i64 (-1), .int .i64 (-1)] W (RetD W hdn1_n1) := by
  have hn : Nz (-1) (-1) := Or.inl (by decide)
  unfold hdn1_n1; exact ld_nz (-1) (-1) W (by decide) (by decide) hn
theorem hc23 (W : World) (Aki : Option Addr) (cki : Nat) (Ahdn1_n1 : Option Addr) (chdn1_n1 : Nat) (hki : NatV W Aki cki (mg (dmn ki))) (hhdn1_n1 : NatV W Ahdn1_n1 chdn1_n1 (mg (dmn hdn1_n1))) : Calls Tryz.prog 11 #[.agg #[.bool (sg (dmn ki)), .slice Aki (nl (mg (dmn ki))) cki, .int .i64 (dex ki)], .agg #[.bool (sg (dmn hdn1_n1)), .slice Ahdn1_n1 (nl (mg (dmn hdn1_n1))) chdn1_n1, .int .i64 (dex hdn1_n1)]] W (fun e w' => e = .returned (.bool true) ∧ Below W.heap.size W w') := by
  exact tsameT_c Aki cki ki Ahdn1_n1 chdn1_n1 hdn1_n1 W hki hhdn1_n1 (Oki.ok (by decide) (by decide)) (by unfold ki hdn1_n1; decide +kernel)
theorem hc24 (W : World) (Akl : Option Addr) (ckl : Nat) (Ahd1_n1 : Option Addr) (chd1_n1 : Nat) (hkl : NatV W Akl ckl (mg (dmn kl))) (hhd1_n1 : NatV W Ahd1_n1 chd1_n1 (mg (dmn hd1_n1))) : Calls Tryz.prog 11 #[.agg #[.bool (sg (dmn kl)), .slice Akl (nl (mg (dmn kl))) ckl, .int .i64 (dex kl)], .agg #[.bool (sg (dmn hd1_n1)), .slice Ahd1_n1 (nl (mg (dmn hd1_n1))) chd1_n1, .int .i64 (dex hd1_n1)]] W (fun e w' => e = .returned (.bool true) ∧ Below W.heap.size W w') := by
  exact tsameT_c Akl ckl kl Ahd1_n1 chd1_n1 hd1_n1 W hkl hhd1_n1 (Okl.ok (by decide) (by decide)) (by unfold kl hd1_n1; decide +kernel)
def hdn3_n1 : Rat := dval (-3) (-1)
theorem Ohdn3_n1 : DB hdn3_n1 1 100 := ⟨by unfold hdn3_n1; exact dyd_val _ _, by unfold hdn3_n1; decide +kernel, by unfold hdn3_n1; decide +kernel⟩
theorem cohdn3_n1 (W : World)   : Calls Tryz.prog 50 #[.int .i64 (-3), .int .i64 (-1)] W (RetD W hdn3_n1) := by
  have hn : Nz (-3) (-1) := Or.inl (by decide)
  unfold hdn3_n1; exact ld_nz (-3) (-1) W (by decide) (by decide) hn
def hs2 : Int := -2
theorem Nhs2 : nl (mg hs2) ≤ 1 := nl_le.2 (by unfold hs2; decide +kernel)
theorem hc25 (W : World) (Ahdn3_n1 : Option Addr) (chdn3_n1 : Nat) (hhdn3_n1 : NatV W Ahdn3_n1 chdn3_n1 (mg (dmn hdn3_n1))) : Calls Tryz.prog 52 #[.agg #[.bool (sg (dmn hdn3_n1)), .slice Ahdn3_n1 (nl (mg (dmn hdn3_n1))) chdn3_n1, .int .i64 (dex hdn3_n1)], .int .i64 0] W (RetI W hs2) := by
  rw [show hs2 = shf (dmn hdn3_n1) (dex hdn3_n1 + 0) by unfold hs2 hdn3_n1; decide +kernel]
  exact dscaled_c Ahdn3_n1 chdn3_n1 hdn3_n1 0 W hhdn3_n1 (Ohdn3_n1.ok (by decide) (by decide)) (by decide)
def hzn2 : Int := -2
theorem cohzn2 (W : World)   : Calls Tryz.prog 51 #[.int .i64 (-2)] W (RetI W hzn2) := by
  unfold hzn2; exact zof_c (-2) W (by decide) (by decide)
theorem hc26 (W : World) (Ahs2 : Option Addr) (chs2 : Nat) (Ahzn2 : Option Addr) (chzn2 : Nat) (hhs2 : NatV W Ahs2 chs2 (mg hs2)) (hhzn2 : NatV W Ahzn2 chzn2 (mg hzn2)) : Calls Tryz.prog 42 #[.agg #[.bool (sg hs2), .slice Ahs2 (nl (mg hs2)) chs2], .agg #[.bool (sg hzn2), .slice Ahzn2 (nl (mg hzn2)) chzn2]] W (fun e w' => e = .returned (.bool true) ∧ Below W.heap.size W w') := by
  exact zsameT_c Ahs2 chs2 hs2 Ahzn2 chzn2 hzn2 W hhs2 hhzn2 (Nat.le_trans Nhs2 (by decide)) rfl
def hd1_n1b : Rat := hd1_n1
theorem Ohd1_n1b : DB hd1_n1b 1 100 := Ohd1_n1
theorem cohd1_n1b (W : World)   : Calls Tryz.prog 50 #[.int .i64 1, .int .i64 (-1)] W (RetD W hd1_n1b) := by
  exact cohd1_n1 W
def hadd : Rat := dval 1 0
theorem Ohadd : DB hadd 1 100 := ⟨by unfold hadd; exact dyd_val _ _, by unfold hadd; decide +kernel, by unfold hadd; decide +kernel⟩
theorem hc27 (W : World) (Ahd1_n1 : Option Addr) (chd1_n1 : Nat) (Ahd1_n1b : Option Addr) (chd1_n1b : Nat) (hhd1_n1 : NatV W Ahd1_n1 chd1_n1 (mg (dmn hd1_n1))) (hhd1_n1b : NatV W Ahd1_n1b chd1_n1b (mg (dmn hd1_n1b))) (hT : Tab W) : Calls Tryz.prog 20 #[.agg #[.bool (sg (dmn hd1_n1)), .slice Ahd1_n1 (nl (mg (dmn hd1_n1))) chd1_n1, .int .i64 (dex hd1_n1)], .agg #[.bool (sg (dmn hd1_n1b)), .slice Ahd1_n1b (nl (mg (dmn hd1_n1b))) chd1_n1b, .int .i64 (dex hd1_n1b)]] W (RetD W hadd) := by
  rw [show hadd = hd1_n1 + hd1_n1b by unfold hadd hd1_n1 hd1_n1b hd1_n1; decide +kernel]
  exact dadd_c Ahd1_n1 chd1_n1 hd1_n1 Ahd1_n1b chd1_n1b hd1_n1b W hhd1_n1 hhd1_n1b (Ohd1_n1.ok (by decide) (by decide)) (Ohd1_n1b.ok (by decide) (by decide)) hT
def hd1_0 : Rat := dval 1 0
theorem Ohd1_0 : DB hd1_0 1 100 := ⟨by unfold hd1_0; exact dyd_val _ _, by unfold hd1_0; decide +kernel, by unfold hd1_0; decide +kernel⟩
theorem cohd1_0 (W : World)   : Calls Tryz.prog 50 #[.int .i64 1, .int .i64 0] W (RetD W hd1_0) := by
  have hn : Nz 1 0 := Or.inl (by decide)
  unfold hd1_0; exact ld_nz 1 0 W (by decide) (by decide) hn
theorem hc28 (W : World) (Ahadd : Option Addr) (chadd : Nat) (Ahd1_0 : Option Addr) (chd1_0 : Nat) (hhadd : NatV W Ahadd chadd (mg (dmn hadd))) (hhd1_0 : NatV W Ahd1_0 chd1_0 (mg (dmn hd1_0))) : Calls Tryz.prog 11 #[.agg #[.bool (sg (dmn hadd)), .slice Ahadd (nl (mg (dmn hadd))) chadd, .int .i64 (dex hadd)], .agg #[.bool (sg (dmn hd1_0)), .slice Ahd1_0 (nl (mg (dmn hd1_0))) chd1_0, .int .i64 (dex hd1_0)]] W (fun e w' => e = .returned (.bool true) ∧ Below W.heap.size W w') := by
  exact tsameT_c Ahadd chadd hadd Ahd1_0 chd1_0 hd1_0 W hhadd hhd1_0 (Ohadd.ok (by decide) (by decide)) (by unfold hadd hd1_0; decide +kernel)
def hd3_0 : Rat := dval 3 0
theorem Ohd3_0 : DB hd3_0 1 100 := ⟨by unfold hd3_0; exact dyd_val _ _, by unfold hd3_0; decide +kernel, by unfold hd3_0; decide +kernel⟩
theorem cohd3_0 (W : World)   : Calls Tryz.prog 50 #[.int .i64 3, .int .i64 0] W (RetD W hd3_0) := by
  have hn : Nz 3 0 := Or.inl (by decide)
  unfold hd3_0; exact ld_nz 3 0 W (by decide) (by decide) hn
def hmid : Rat := dval 1 1
theorem Ohmid : DB hmid 1 100 := ⟨by unfold hmid; exact dyd_val _ _, by unfold hmid; decide +kernel, by unfold hmid; decide +kernel⟩
theorem hc29 (W : World) (Ahd1_0 : Option Addr) (chd1_0 : Nat) (Ahd3_0 : Option Addr) (chd3_0 : Nat) (hhd1_0 : NatV W Ahd1_0 chd1_0 (mg (dmn hd1_0))) (hhd3_0 : NatV W Ahd3_0 chd3_0 (mg (dmn hd3_0))) (hT : Tab W) : Calls Tryz.prog 26 #[.agg #[.bool (sg (dmn hd1_0)), .slice Ahd1_0 (nl (mg (dmn hd1_0))) chd1_0, .int .i64 (dex hd1_0)], .agg #[.bool (sg (dmn hd3_0)), .slice Ahd3_0 (nl (mg (dmn hd3_0))) chd3_0, .int .i64 (dex hd3_0)]] W (RetD W hmid) := by
  rw [show hmid = (hd1_0 + hd3_0) * (1 / 2) by unfold hmid hd1_0 hd3_0; decide +kernel]
  exact dmid_c Ahd1_0 chd1_0 hd1_0 Ahd3_0 chd3_0 hd3_0 W hhd1_0 hhd3_0 (Ohd1_0.ok (by decide) (by decide)) (Ohd3_0.ok (by decide) (by decide)) hT
def hd1_1 : Rat := dval 1 1
theorem cohd1_1 (W : World)   : Calls Tryz.prog 50 #[.int .i64 1, .int .i64 1] W (RetD W hd1_1) := by
  have hn : Nz 1 1 := Or.inl (by decide)
  unfold hd1_1; exact ld_nz 1 1 W (by decide) (by decide) hn
theorem hc30 (W : World) (Ahmid : Option Addr) (chmid : Nat) (Ahd1_1 : Option Addr) (chd1_1 : Nat) (hhmid : NatV W Ahmid chmid (mg (dmn hmid))) (hhd1_1 : NatV W Ahd1_1 chd1_1 (mg (dmn hd1_1))) : Calls Tryz.prog 11 #[.agg #[.bool (sg (dmn hmid)), .slice Ahmid (nl (mg (dmn hmid))) chmid, .int .i64 (dex hmid)], .agg #[.bool (sg (dmn hd1_1)), .slice Ahd1_1 (nl (mg (dmn hd1_1))) chd1_1, .int .i64 (dex hd1_1)]] W (fun e w' => e = .returned (.bool true) ∧ Below W.heap.size W w') := by
  exact tsameT_c Ahmid chmid hmid Ahd1_1 chd1_1 hd1_1 W hhmid hhd1_1 (Ohmid.ok (by decide) (by decide)) (by unfold hmid hd1_1; decide +kernel)
theorem hc31 (W : World) (Ahd1_n1 : Option Addr) (chd1_n1 : Nat) (Ahd1_n2 : Option Addr) (chd1_n2 : Nat) (hhd1_n1 : NatV W Ahd1_n1 chd1_n1 (mg (dmn hd1_n1))) (hhd1_n2 : NatV W Ahd1_n2 chd1_n2 (mg (dmn hd1_n2))) : Calls Tryz.prog 14 #[.agg #[.bool (sg (dmn hd1_n1)), .slice Ahd1_n1 (nl (mg (dmn hd1_n1))) chd1_n1, .int .i64 (dex hd1_n1)], .agg #[.bool (sg (dmn hd1_n2)), .slice Ahd1_n2 (nl (mg (dmn hd1_n2))) chd1_n2, .int .i64 (dex hd1_n2)]] W (fun e w' => e = .returned (.int .i64 1) ∧ Below W.heap.size W w') := by
  have CR := dcmp_c Ahd1_n1 chd1_n1 hd1_n1 Ahd1_n2 chd1_n2 hd1_n2 W hhd1_n1 hhd1_n2 (Ohd1_n1.ok (by decide) (by decide)) (Ohd1_n2.ok (by decide) (by decide))
  rw [show rcmp hd1_n1 hd1_n2 = 1 by unfold hd1_n1 hd1_n2; decide +kernel] at CR
  exact CR
def hdn3_n2 : Rat := dval (-3) (-2)
theorem Ohdn3_n2 : DB hdn3_n2 1 100 := ⟨by unfold hdn3_n2; exact dyd_val _ _, by unfold hdn3_n2; decide +kernel, by unfold hdn3_n2; decide +kernel⟩
theorem cohdn3_n2 (W : World)   : Calls Tryz.prog 50 #[.int .i64 (-3), .int .i64 (-2)] W (RetD W hdn3_n2) := by
  have hn : Nz (-3) (-2) := Or.inl (by decide)
  unfold hdn3_n2; exact ld_nz (-3) (-2) W (by decide) (by decide) hn
def hrat : Rat := hdn3_n2
theorem Nhrat : nl (mg hrat.num) ≤ 1 ∧ nl hrat.den ≤ 1 := ⟨nl_le.2 (by unfold hrat; decide +kernel), nl_le.2 (by unfold hrat; decide +kernel)⟩
theorem hc32 (W : World) (Ahdn3_n2 : Option Addr) (chdn3_n2 : Nat) (hhdn3_n2 : NatV W Ahdn3_n2 chdn3_n2 (mg (dmn hdn3_n2))) : Calls Tryz.prog 29 #[.agg #[.bool (sg (dmn hdn3_n2)), .slice Ahdn3_n2 (nl (mg (dmn hdn3_n2))) chdn3_n2, .int .i64 (dex hdn3_n2)]] W (RetR W hrat) := by
  exact drat_c Ahdn3_n2 chdn3_n2 hdn3_n2 W hhdn3_n2 (Ohdn3_n2.ok (by decide) (by decide))
def hqn3_4 : Rat := Rat.divInt (-3) 4
theorem cohqn3_4 (W : World)   : Calls Tryz.prog 48 #[.int .i64 (-3), .int .i64 4] W (RetR W hqn3_4) := by
  unfold hqn3_4; exact lq_c (-3) 4 W (by decide) (by decide) (by decide) (by decide)
theorem hc33 (W : World) (Ahrat : Option Addr) (chrat : Nat) (Bhrat : Option Addr) (dhrat : Nat) (Ahqn3_4 : Option Addr) (chqn3_4 : Nat) (Bhqn3_4 : Option Addr) (dhqn3_4 : Nat) (hhrat : NatV W Ahrat chrat (mg hrat.num)) (ghrat : NatV W Bhrat dhrat hrat.den) (hhqn3_4 : NatV W Ahqn3_4 chqn3_4 (mg hqn3_4.num)) (ghqn3_4 : NatV W Bhqn3_4 dhqn3_4 hqn3_4.den) : Calls Tryz.prog 28 #[.agg #[.bool (sg hrat.num), .slice Ahrat (nl (mg hrat.num)) chrat, .slice Bhrat (nl hrat.den) dhrat], .agg #[.bool (sg hqn3_4.num), .slice Ahqn3_4 (nl (mg hqn3_4.num)) chqn3_4, .slice Bhqn3_4 (nl hqn3_4.den) dhqn3_4]] W (fun e w' => e = .returned (.bool true) ∧ Below W.heap.size W w') := by
  exact r9sameT_c Ahrat chrat Bhrat dhrat hrat Ahqn3_4 chqn3_4 Bhqn3_4 dhqn3_4 hqn3_4 W hhrat ghrat hhqn3_4 ghqn3_4 (Nat.le_trans Nhrat.1 (by decide)) (Nat.le_trans Nhrat.2 (by decide)) (by unfold hrat hdn3_n2 hqn3_4; decide +kernel)
def hdn1_5 : Rat := dval (-1) 5
theorem cohdn1_5 (W : World)   : Calls Tryz.prog 50 #[.int .i64 (-1), .int .i64 5] W (RetD W hdn1_5) := by
  have hn : Nz (-1) 5 := Or.inl (by decide)
  unfold hdn1_5; exact ld_nz (-1) 5 W (by decide) (by decide) hn
theorem hc34 (W : World) (Ahdn1_5 : Option Addr) (chdn1_5 : Nat) (hhdn1_5 : NatV W Ahdn1_5 chdn1_5 (mg (dmn hdn1_5))) : Calls Tryz.prog 16 #[.agg #[.bool (sg (dmn hdn1_5)), .slice Ahdn1_5 (nl (mg (dmn hdn1_5))) chdn1_5, .int .i64 (dex hdn1_5)]] W (fun e w' => e = .returned (.int .i64 (-1)) ∧ Below W.heap.size W w') := by
  have CR := dsign_c Ahdn1_5 chdn1_5 hdn1_5 W hhdn1_5
  rw [show (dmn hdn1_5).sign = -1 by unfold hdn1_5; decide +kernel] at CR
  exact CR
theorem dhead_c (w : World) (hT : Tab w) :
    Calls Tryz.prog 6 #[] w fun e w' => e = .returned (.bool true) ∧ Below w.heap.size w w' := by
  go_enter Tryz.func6, Tryz.ntmps6
  go_wp2_with (fail)
  refine (Calls.mono (cohq1_3 _  ) ?_)
  rintro e W1 ⟨Xhq1_3, chq1_3, Yhq1_3, dhq1_3, rfl, hhq1_3, ghq1_3, hb1⟩
  replace hT := hT.below hb1
  have HBT := hb1
  clear hb1
  go_wp2_with (fail)
  refine (Calls.mono (hc1 _ Xhq1_3 chq1_3 Yhq1_3 dhq1_3 hhq1_3 ghq1_3 hT) ?_)
  rintro e W2 ⟨Xka, cka, rfl, hka, hb2⟩
  replace hT := hT.below hb2
  replace hhq1_3 := hhq1_3.below hb2
  replace ghq1_3 := ghq1_3.below hb2
  replace HBT := Below.cons HBT hb2
  clear hb2
  clear hhq1_3 ghq1_3
  obtain ⟨hb3, Rka⟩ := bx1 W2 #[.bool (sg (dmn ka)), .slice Xka (nl (mg (dmn ka))) cka, .int .i64 (dex ka)] 26
  replace hT := hT.below hb3
  replace hka := hka.below hb3
  replace HBT := Below.cons HBT hb3
  clear hb3
  go_wp2_with (fail)
  refine (Calls.mono (cohq1_3 _  ) ?_)
  rintro e W4 ⟨Xhq1_3, chq1_3, Yhq1_3, dhq1_3, rfl, hhq1_3, ghq1_3, hb4⟩
  replace hT := hT.below hb4
  replace hka := hka.below hb4
  replace Rka := Rka.below hb4
  replace HBT := Below.cons HBT hb4
  clear hb4
  go_wp2_with (fail)
  refine (Calls.mono (hc2 _ Xhq1_3 chq1_3 Yhq1_3 dhq1_3 hhq1_3 ghq1_3 hT) ?_)
  rintro e W5 ⟨Xkb, ckb, rfl, hkb, hb5⟩
  replace hT := hT.below hb5
  replace hka := hka.below hb5
  replace Rka := Rka.below hb5
  replace hhq1_3 := hhq1_3.below hb5
  replace ghq1_3 := ghq1_3.below hb5
  replace HBT := Below.cons HBT hb5
  clear hb5
  clear hhq1_3 ghq1_3
  obtain ⟨hb6, Rkb⟩ := bx1 W5 #[.bool (sg (dmn kb)), .slice Xkb (nl (mg (dmn kb))) ckb, .int .i64 (dex kb)] 26
  replace hT := hT.below hb6
  replace hka := hka.below hb6
  replace Rka := Rka.below hb6
  replace hkb := hkb.below hb6
  replace HBT := Below.cons HBT hb6
  clear hb6
  go_wp2_with (fail)
  refine (Calls.mono (cohq1_3 _  ) ?_)
  rintro e W7 ⟨Xhq1_3, chq1_3, Yhq1_3, dhq1_3, rfl, hhq1_3, ghq1_3, hb7⟩
  replace hT := hT.below hb7
  replace hka := hka.below hb7
  replace Rka := Rka.below hb7
  replace hkb := hkb.below hb7
  replace Rkb := Rkb.below hb7
  replace HBT := Below.cons HBT hb7
  clear hb7
  go_wp2_with (fail)
  refine (Calls.mono (hc3 _ Xhq1_3 chq1_3 Yhq1_3 dhq1_3 hhq1_3 ghq1_3 hT) ?_)
  rintro e W8 ⟨Xkc, ckc, rfl, hkc, hb8⟩
  replace hT := hT.below hb8
  replace hka := hka.below hb8
  replace Rka := Rka.below hb8
  replace hkb := hkb.below hb8
  replace Rkb := Rkb.below hb8
  replace hhq1_3 := hhq1_3.below hb8
  replace ghq1_3 := ghq1_3.below hb8
  replace HBT := Below.cons HBT hb8
  clear hb8
  clear hhq1_3 ghq1_3
  obtain ⟨hb9, Rkc⟩ := bx1 W8 #[.bool (sg (dmn kc)), .slice Xkc (nl (mg (dmn kc))) ckc, .int .i64 (dex kc)] 26
  replace hT := hT.below hb9
  replace hka := hka.below hb9
  replace Rka := Rka.below hb9
  replace hkb := hkb.below hb9
  replace Rkb := Rkb.below hb9
  replace hkc := hkc.below hb9
  replace HBT := Below.cons HBT hb9
  clear hb9
  go_wp2_with (fail)
  refine (Calls.mono (cohq3_8 _  ) ?_)
  rintro e W10 ⟨Xhq3_8, chq3_8, Yhq3_8, dhq3_8, rfl, hhq3_8, ghq3_8, hb10⟩
  replace hT := hT.below hb10
  replace hka := hka.below hb10
  replace Rka := Rka.below hb10
  replace hkb := hkb.below hb10
  replace Rkb := Rkb.below hb10
  replace hkc := hkc.below hb10
  replace Rkc := Rkc.below hb10
  replace HBT := Below.cons HBT hb10
  clear hb10
  go_wp2_with (fail)
  refine (Calls.mono (hc4 _ Xhq3_8 chq3_8 Yhq3_8 dhq3_8 hhq3_8 ghq3_8 hT) ?_)
  rintro e W11 ⟨Xkf, ckf, rfl, hkf, hb11⟩
  replace hT := hT.below hb11
  replace hka := hka.below hb11
  replace Rka := Rka.below hb11
  replace hkb := hkb.below hb11
  replace Rkb := Rkb.below hb11
  replace hkc := hkc.below hb11
  replace Rkc := Rkc.below hb11
  replace hhq3_8 := hhq3_8.below hb11
  replace ghq3_8 := ghq3_8.below hb11
  replace HBT := Below.cons HBT hb11
  clear hb11
  clear hhq3_8 ghq3_8
  obtain ⟨hb12, Rkf⟩ := bx1 W11 #[.bool (sg (dmn kf)), .slice Xkf (nl (mg (dmn kf))) ckf, .int .i64 (dex kf)] 26
  replace hT := hT.below hb12
  replace hka := hka.below hb12
  replace Rka := Rka.below hb12
  replace hkb := hkb.below hb12
  replace Rkb := Rkb.below hb12
  replace hkc := hkc.below hb12
  replace Rkc := Rkc.below hb12
  replace hkf := hkf.below hb12
  replace HBT := Below.cons HBT hb12
  clear hb12
  go_wp2_with (fail)
  refine (Calls.mono (cohq5_8 _  ) ?_)
  rintro e W13 ⟨Xhq5_8, chq5_8, Yhq5_8, dhq5_8, rfl, hhq5_8, ghq5_8, hb13⟩
  replace hT := hT.below hb13
  replace hka := hka.below hb13
  replace Rka := Rka.below hb13
  replace hkb := hkb.below hb13
  replace Rkb := Rkb.below hb13
  replace hkc := hkc.below hb13
  replace Rkc := Rkc.below hb13
  replace hkf := hkf.below hb13
  replace Rkf := Rkf.below hb13
  replace HBT := Below.cons HBT hb13
  clear hb13
  go_wp2_with (fail)
  refine (Calls.mono (hc5 _ Xhq5_8 chq5_8 Yhq5_8 dhq5_8 hhq5_8 ghq5_8 hT) ?_)
  rintro e W14 ⟨Xkg, ckg, rfl, hkg, hb14⟩
  replace hT := hT.below hb14
  replace hka := hka.below hb14
  replace Rka := Rka.below hb14
  replace hkb := hkb.below hb14
  replace Rkb := Rkb.below hb14
  replace hkc := hkc.below hb14
  replace Rkc := Rkc.below hb14
  replace hkf := hkf.below hb14
  replace Rkf := Rkf.below hb14
  replace hhq5_8 := hhq5_8.below hb14
  replace ghq5_8 := ghq5_8.below hb14
  replace HBT := Below.cons HBT hb14
  clear hb14
  clear hhq5_8 ghq5_8
  obtain ⟨hb15, Rkg⟩ := bx1 W14 #[.bool (sg (dmn kg)), .slice Xkg (nl (mg (dmn kg))) ckg, .int .i64 (dex kg)] 26
  replace hT := hT.below hb15
  replace hka := hka.below hb15
  replace Rka := Rka.below hb15
  replace hkb := hkb.below hb15
  replace Rkb := Rkb.below hb15
  replace hkc := hkc.below hb15
  replace Rkc := Rkc.below hb15
  replace hkf := hkf.below hb15
  replace Rkf := Rkf.below hb15
  replace hkg := hkg.below hb15
  replace HBT := Below.cons HBT hb15
  clear hb15
  go_wp2_with (fail)
  refine (Calls.mono (cohqn1_3 _  ) ?_)
  rintro e W16 ⟨Xhqn1_3, chqn1_3, Yhqn1_3, dhqn1_3, rfl, hhqn1_3, ghqn1_3, hb16⟩
  replace hT := hT.below hb16
  replace hka := hka.below hb16
  replace Rka := Rka.below hb16
  replace hkb := hkb.below hb16
  replace Rkb := Rkb.below hb16
  replace hkc := hkc.below hb16
  replace Rkc := Rkc.below hb16
  replace hkf := hkf.below hb16
  replace Rkf := Rkf.below hb16
  replace hkg := hkg.below hb16
  replace Rkg := Rkg.below hb16
  replace HBT := Below.cons HBT hb16
  clear hb16
  go_wp2_with (fail)
  refine (Calls.mono (hc6 _ Xhqn1_3 chqn1_3 Yhqn1_3 dhqn1_3 hhqn1_3 ghqn1_3 hT) ?_)
  rintro e W17 ⟨Xkh, ckh, rfl, hkh, hb17⟩
  replace hT := hT.below hb17
  replace hka := hka.below hb17
  replace Rka := Rka.below hb17
  replace hkb := hkb.below hb17
  replace Rkb := Rkb.below hb17
  replace hkc := hkc.below hb17
  replace Rkc := Rkc.below hb17
  replace hkf := hkf.below hb17
  replace Rkf := Rkf.below hb17
  replace hkg := hkg.below hb17
  replace Rkg := Rkg.below hb17
  replace hhqn1_3 := hhqn1_3.below hb17
  replace ghqn1_3 := ghqn1_3.below hb17
  replace HBT := Below.cons HBT hb17
  clear hb17
  clear hhqn1_3 ghqn1_3
  obtain ⟨hb18, Rkh⟩ := bx1 W17 #[.bool (sg (dmn kh)), .slice Xkh (nl (mg (dmn kh))) ckh, .int .i64 (dex kh)] 26
  replace hT := hT.below hb18
  replace hka := hka.below hb18
  replace Rka := Rka.below hb18
  replace hkb := hkb.below hb18
  replace Rkb := Rkb.below hb18
  replace hkc := hkc.below hb18
  replace Rkc := Rkc.below hb18
  replace hkf := hkf.below hb18
  replace Rkf := Rkf.below hb18
  replace hkg := hkg.below hb18
  replace Rkg := Rkg.below hb18
  replace hkh := hkh.below hb18
  replace HBT := Below.cons HBT hb18
  clear hb18
  go_wp2_with (fail)
  refine (Calls.mono (cohqn1_3 _  ) ?_)
  rintro e W19 ⟨Xhqn1_3, chqn1_3, Yhqn1_3, dhqn1_3, rfl, hhqn1_3, ghqn1_3, hb19⟩
  replace hT := hT.below hb19
  replace hka := hka.below hb19
  replace Rka := Rka.below hb19
  replace hkb := hkb.below hb19
  replace Rkb := Rkb.below hb19
  replace hkc := hkc.below hb19
  replace Rkc := Rkc.below hb19
  replace hkf := hkf.below hb19
  replace Rkf := Rkf.below hb19
  replace hkg := hkg.below hb19
  replace Rkg := Rkg.below hb19
  replace hkh := hkh.below hb19
  replace Rkh := Rkh.below hb19
  replace HBT := Below.cons HBT hb19
  clear hb19
  go_wp2_with (fail)
  refine (Calls.mono (hc7 _ Xhqn1_3 chqn1_3 Yhqn1_3 dhqn1_3 hhqn1_3 ghqn1_3 hT) ?_)
  rintro e W20 ⟨Xki, cki, rfl, hki, hb20⟩
  replace hT := hT.below hb20
  replace hka := hka.below hb20
  replace Rka := Rka.below hb20
  replace hkb := hkb.below hb20
  replace Rkb := Rkb.below hb20
  replace hkc := hkc.below hb20
  replace Rkc := Rkc.below hb20
  replace hkf := hkf.below hb20
  replace Rkf := Rkf.below hb20
  replace hkg := hkg.below hb20
  replace Rkg := Rkg.below hb20
  replace hkh := hkh.below hb20
  replace Rkh := Rkh.below hb20
  replace hhqn1_3 := hhqn1_3.below hb20
  replace ghqn1_3 := ghqn1_3.below hb20
  replace HBT := Below.cons HBT hb20
  clear hb20
  clear hhqn1_3 ghqn1_3
  obtain ⟨hb21, Rki⟩ := bx1 W20 #[.bool (sg (dmn ki)), .slice Xki (nl (mg (dmn ki))) cki, .int .i64 (dex ki)] 26
  replace hT := hT.below hb21
  replace hka := hka.below hb21
  replace Rka := Rka.below hb21
  replace hkb := hkb.below hb21
  replace Rkb := Rkb.below hb21
  replace hkc := hkc.below hb21
  replace Rkc := Rkc.below hb21
  replace hkf := hkf.below hb21
  replace Rkf := Rkf.below hb21
  replace hkg := hkg.below hb21
  replace Rkg := Rkg.below hb21
  replace hkh := hkh.below hb21
  replace Rkh := Rkh.below hb21
  replace hki := hki.below hb21
  replace HBT := Below.cons HBT hb21
  clear hb21
  go_wp2_with (fail)
  refine (Calls.mono (cohq1_3 _  ) ?_)
  rintro e W22 ⟨Xhq1_3, chq1_3, Yhq1_3, dhq1_3, rfl, hhq1_3, ghq1_3, hb22⟩
  replace hT := hT.below hb22
  replace hka := hka.below hb22
  replace Rka := Rka.below hb22
  replace hkb := hkb.below hb22
  replace Rkb := Rkb.below hb22
  replace hkc := hkc.below hb22
  replace Rkc := Rkc.below hb22
  replace hkf := hkf.below hb22
  replace Rkf := Rkf.below hb22
  replace hkg := hkg.below hb22
  replace Rkg := Rkg.below hb22
  replace hkh := hkh.below hb22
  replace Rkh := Rkh.below hb22
  replace hki := hki.below hb22
  replace Rki := Rki.below hb22
  replace HBT := Below.cons HBT hb22
  clear hb22
  go_wp2_with (fail)
  refine (Calls.mono (cut_big Xhq1_3 chq1_3 Yhq1_3 dhq1_3 hq1_3 2 5 _ hhq1_3 ghq1_3 (by decide)) ?_)
  rintro e W23 ⟨Xkk, ckk, rfl, hkk, hb23⟩
  replace hT := hT.below hb23
  replace hka := hka.below hb23
  replace Rka := Rka.below hb23
  replace hkb := hkb.below hb23
  replace Rkb := Rkb.below hb23
  replace hkc := hkc.below hb23
  replace Rkc := Rkc.below hb23
  replace hkf := hkf.below hb23
  replace Rkf := Rkf.below hb23
  replace hkg := hkg.below hb23
  replace Rkg := Rkg.below hb23
  replace hkh := hkh.below hb23
  replace Rkh := Rkh.below hb23
  replace hki := hki.below hb23
  replace Rki := Rki.below hb23
  replace hhq1_3 := hhq1_3.below hb23
  replace ghq1_3 := ghq1_3.below hb23
  replace HBT := Below.cons HBT hb23
  clear hb23
  clear hhq1_3 ghq1_3
  obtain ⟨hb24, Rkk⟩ := bx1 W23 #[.bool (sg (dmn 0)), .slice Xkk (nl (mg (dmn 0))) ckk, .int .i64 (dex 0)] 26
  replace hT := hT.below hb24
  replace hka := hka.below hb24
  replace Rka := Rka.below hb24
  replace hkb := hkb.below hb24
  replace Rkb := Rkb.below hb24
  replace hkc := hkc.below hb24
  replace Rkc := Rkc.below hb24
  replace hkf := hkf.below hb24
  replace Rkf := Rkf.below hb24
  replace hkg := hkg.below hb24
  replace Rkg := Rkg.below hb24
  replace hkh := hkh.below hb24
  replace Rkh := Rkh.below hb24
  replace hki := hki.below hb24
  replace Rki := Rki.below hb24
  replace hkk := hkk.below hb24
  replace HBT := Below.cons HBT hb24
  clear hb24
  go_wp2_with (fail)
  clear hkk
  clear Rkk
  refine (Calls.mono (cohd7_n3 _  ) ?_)
  rintro e W25 ⟨Xhd7_n3, chd7_n3, rfl, hhd7_n3, hb25⟩
  replace hT := hT.below hb25
  replace hka := hka.below hb25
  replace Rka := Rka.below hb25
  replace hkb := hkb.below hb25
  replace Rkb := Rkb.below hb25
  replace hkc := hkc.below hb25
  replace Rkc := Rkc.below hb25
  replace hkf := hkf.below hb25
  replace Rkf := Rkf.below hb25
  replace hkg := hkg.below hb25
  replace Rkg := Rkg.below hb25
  replace hkh := hkh.below hb25
  replace Rkh := Rkh.below hb25
  replace hki := hki.below hb25
  replace Rki := Rki.below hb25
  replace HBT := Below.cons HBT hb25
  clear hb25
  go_wp2_with (fail)
  refine (Calls.mono (hc8 _ Xhd7_n3 chd7_n3 hhd7_n3 hT) ?_)
  rintro e W26 ⟨Xkl, ckl, rfl, hkl, hb26⟩
  replace hT := hT.below hb26
  replace hka := hka.below hb26
  replace Rka := Rka.below hb26
  replace hkb := hkb.below hb26
  replace Rkb := Rkb.below hb26
  replace hkc := hkc.below hb26
  replace Rkc := Rkc.below hb26
  replace hkf := hkf.below hb26
  replace Rkf := Rkf.below hb26
  replace hkg := hkg.below hb26
  replace Rkg := Rkg.below hb26
  replace hkh := hkh.below hb26
  replace Rkh := Rkh.below hb26
  replace hki := hki.below hb26
  replace Rki := Rki.below hb26
  replace hhd7_n3 := hhd7_n3.below hb26
  replace HBT := Below.cons HBT hb26
  clear hb26
  clear hhd7_n3
  obtain ⟨hb27, Rkl⟩ := bx1 W26 #[.bool (sg (dmn kl)), .slice Xkl (nl (mg (dmn kl))) ckl, .int .i64 (dex kl)] 26
  replace hT := hT.below hb27
  replace hka := hka.below hb27
  replace Rka := Rka.below hb27
  replace hkb := hkb.below hb27
  replace Rkb := Rkb.below hb27
  replace hkc := hkc.below hb27
  replace Rkc := Rkc.below hb27
  replace hkf := hkf.below hb27
  replace Rkf := Rkf.below hb27
  replace hkg := hkg.below hb27
  replace Rkg := Rkg.below hb27
  replace hkh := hkh.below hb27
  replace Rkh := Rkh.below hb27
  replace hki := hki.below hb27
  replace Rki := Rki.below hb27
  replace hkl := hkl.below hb27
  replace HBT := Below.cons HBT hb27
  clear hb27
  go_wp2_with (fail)
  refine (Calls.mono (cohd7_n3 _  ) ?_)
  rintro e W28 ⟨Xhd7_n3, chd7_n3, rfl, hhd7_n3, hb28⟩
  replace hT := hT.below hb28
  replace hka := hka.below hb28
  replace Rka := Rka.below hb28
  replace hkb := hkb.below hb28
  replace Rkb := Rkb.below hb28
  replace hkc := hkc.below hb28
  replace Rkc := Rkc.below hb28
  replace hkf := hkf.below hb28
  replace Rkf := Rkf.below hb28
  replace hkg := hkg.below hb28
  replace Rkg := Rkg.below hb28
  replace hkh := hkh.below hb28
  replace Rkh := Rkh.below hb28
  replace hki := hki.below hb28
  replace Rki := Rki.below hb28
  replace hkl := hkl.below hb28
  replace Rkl := Rkl.below hb28
  replace HBT := Below.cons HBT hb28
  clear hb28
  go_wp2_with (fail)
  refine (Calls.mono (round_neg Xhd7_n3 chd7_n3 hd7_n3 1 (-1) _ hhd7_n3 (by decide)) ?_)
  rintro e W29 ⟨Xn0, cn0, rfl, hn0, hb29⟩
  replace hT := hT.below hb29
  replace hka := hka.below hb29
  replace Rka := Rka.below hb29
  replace hkb := hkb.below hb29
  replace Rkb := Rkb.below hb29
  replace hkc := hkc.below hb29
  replace Rkc := Rkc.below hb29
  replace hkf := hkf.below hb29
  replace Rkf := Rkf.below hb29
  replace hkg := hkg.below hb29
  replace Rkg := Rkg.below hb29
  replace hkh := hkh.below hb29
  replace Rkh := Rkh.below hb29
  replace hki := hki.below hb29
  replace Rki := Rki.below hb29
  replace hkl := hkl.below hb29
  replace Rkl := Rkl.below hb29
  replace hhd7_n3 := hhd7_n3.below hb29
  replace HBT := Below.cons HBT hb29
  clear hb29
  clear hhd7_n3
  obtain ⟨hb30, Rn0⟩ := bx1 W29 #[.bool (sg (dmn 0)), .slice Xn0 (nl (mg (dmn 0))) cn0, .int .i64 (dex 0)] 26
  replace hT := hT.below hb30
  replace hka := hka.below hb30
  replace Rka := Rka.below hb30
  replace hkb := hkb.below hb30
  replace Rkb := Rkb.below hb30
  replace hkc := hkc.below hb30
  replace Rkc := Rkc.below hb30
  replace hkf := hkf.below hb30
  replace Rkf := Rkf.below hb30
  replace hkg := hkg.below hb30
  replace Rkg := Rkg.below hb30
  replace hkh := hkh.below hb30
  replace Rkh := Rkh.below hb30
  replace hki := hki.below hb30
  replace Rki := Rki.below hb30
  replace hkl := hkl.below hb30
  replace Rkl := Rkl.below hb30
  replace hn0 := hn0.below hb30
  replace HBT := Below.cons HBT hb30
  clear hb30
  clear hn0
  clear Rn0
  go_wp2_with (fail)
  have hd31 := drb ((W29.alloc (.cells #[.bool (sg (dmn 0)), .slice Xn0 (nl (mg (dmn 0))) cn0, .int .i64 (dex 0)] 26)))
  replace hT := hT.below hd31
  replace hka := hka.below hd31
  replace Rka := Rka.below hd31
  replace hkb := hkb.below hd31
  replace Rkb := Rkb.below hd31
  replace hkc := hkc.below hd31
  replace Rkc := Rkc.below hd31
  replace hkf := hkf.below hd31
  replace Rkf := Rkf.below hd31
  replace hkg := hkg.below hd31
  replace Rkg := Rkg.below hd31
  replace hkh := hkh.below hd31
  replace Rkh := Rkh.below hd31
  replace hki := hki.below hd31
  replace Rki := Rki.below hd31
  replace hkl := hkl.below hd31
  replace Rkl := Rkl.below hd31
  replace HBT := Below.cons HBT hd31
  clear hd31
  simp only [List.append]
  obtain ⟨S, hS⟩ : ∃ S : World → Prop, S = fun W => W.cell? ⟨W2.heap.size, 0, none⟩ = some (.bool (sg (dmn ka))) ∧ W.cell? ⟨W2.heap.size, 1, none⟩ = some (.slice Xka (nl (mg (dmn ka))) cka) ∧ W.cell? ⟨W2.heap.size, 2, none⟩ = some (.int .i64 (dex ka)) ∧ W.cell? ⟨W5.heap.size, 0, none⟩ = some (.bool (sg (dmn kb))) ∧ W.cell? ⟨W5.heap.size, 1, none⟩ = some (.slice Xkb (nl (mg (dmn kb))) ckb) ∧ W.cell? ⟨W5.heap.size, 2, none⟩ = some (.int .i64 (dex kb)) ∧ W.cell? ⟨W8.heap.size, 0, none⟩ = some (.bool (sg (dmn kc))) ∧ W.cell? ⟨W8.heap.size, 1, none⟩ = some (.slice Xkc (nl (mg (dmn kc))) ckc) ∧ W.cell? ⟨W8.heap.size, 2, none⟩ = some (.int .i64 (dex kc)) ∧ W.cell? ⟨W11.heap.size, 0, none⟩ = some (.bool (sg (dmn kf))) ∧ W.cell? ⟨W11.heap.size, 1, none⟩ = some (.slice Xkf (nl (mg (dmn kf))) ckf) ∧ W.cell? ⟨W11.heap.size, 2, none⟩ = some (.int .i64 (dex kf)) ∧ W.cell? ⟨W14.heap.size, 0, none⟩ = some (.bool (sg (dmn kg))) ∧ W.cell? ⟨W14.heap.size, 1, none⟩ = some (.slice Xkg (nl (mg (dmn kg))) ckg) ∧ W.cell? ⟨W14.heap.size, 2, none⟩ = some (.int .i64 (dex kg)) ∧ W.cell? ⟨W17.heap.size, 0, none⟩ = some (.bool (sg (dmn kh))) ∧ W.cell? ⟨W17.heap.size, 1, none⟩ = some (.slice Xkh (nl (mg (dmn kh))) ckh) ∧ W.cell? ⟨W17.heap.size, 2, none⟩ = some (.int .i64 (dex kh)) ∧ W.cell? ⟨W20.heap.size, 0, none⟩ = some (.bool (sg (dmn ki))) ∧ W.cell? ⟨W20.heap.size, 1, none⟩ = some (.slice Xki (nl (mg (dmn ki))) cki) ∧ W.cell? ⟨W20.heap.size, 2, none⟩ = some (.int .i64 (dex ki)) ∧ W.cell? ⟨W26.heap.size, 0, none⟩ = some (.bool (sg (dmn kl))) ∧ W.cell? ⟨W26.heap.size, 1, none⟩ = some (.slice Xkl (nl (mg (dmn kl))) ckl) ∧ W.cell? ⟨W26.heap.size, 2, none⟩ = some (.int .i64 (dex kl)) := ⟨_, rfl⟩
  have HSq : S ((W29.alloc (.cells #[.bool (sg (dmn 0)), .slice Xn0 (nl (mg (dmn 0))) cn0, .int .i64 (dex 0)] 26))).drew := by rw [hS]; exact ⟨(Rka.c (i := 0) rfl), (Rka.c (i := 1) rfl), (Rka.c (i := 2) rfl), (Rkb.c (i := 0) rfl), (Rkb.c (i := 1) rfl), (Rkb.c (i := 2) rfl), (Rkc.c (i := 0) rfl), (Rkc.c (i := 1) rfl), (Rkc.c (i := 2) rfl), (Rkf.c (i := 0) rfl), (Rkf.c (i := 1) rfl), (Rkf.c (i := 2) rfl), (Rkg.c (i := 0) rfl), (Rkg.c (i := 1) rfl), (Rkg.c (i := 2) rfl), (Rkh.c (i := 0) rfl), (Rkh.c (i := 1) rfl), (Rkh.c (i := 2) rfl), (Rki.c (i := 0) rfl), (Rki.c (i := 1) rfl), (Rki.c (i := 2) rfl), (Rkl.c (i := 0) rfl), (Rkl.c (i := 1) rfl), (Rkl.c (i := 2) rfl)⟩
  have hSb : ∀ W W' : World, Below W.heap.size W W' → S W → S W' := by rw [hS]; exact fun W W' hb h => ⟨cell_below hb h.1, cell_below hb h.2.1, cell_below hb h.2.2.1, cell_below hb h.2.2.2.1, cell_below hb h.2.2.2.2.1, cell_below hb h.2.2.2.2.2.1, cell_below hb h.2.2.2.2.2.2.1, cell_below hb h.2.2.2.2.2.2.2.1, cell_below hb h.2.2.2.2.2.2.2.2.1, cell_below hb h.2.2.2.2.2.2.2.2.2.1, cell_below hb h.2.2.2.2.2.2.2.2.2.2.1, cell_below hb h.2.2.2.2.2.2.2.2.2.2.2.1, cell_below hb h.2.2.2.2.2.2.2.2.2.2.2.2.1, cell_below hb h.2.2.2.2.2.2.2.2.2.2.2.2.2.1, cell_below hb h.2.2.2.2.2.2.2.2.2.2.2.2.2.2.1, cell_below hb h.2.2.2.2.2.2.2.2.2.2.2.2.2.2.2.1, cell_below hb h.2.2.2.2.2.2.2.2.2.2.2.2.2.2.2.2.1, cell_below hb h.2.2.2.2.2.2.2.2.2.2.2.2.2.2.2.2.2.1, cell_below hb h.2.2.2.2.2.2.2.2.2.2.2.2.2.2.2.2.2.2.1, cell_below hb h.2.2.2.2.2.2.2.2.2.2.2.2.2.2.2.2.2.2.2.1, cell_below hb h.2.2.2.2.2.2.2.2.2.2.2.2.2.2.2.2.2.2.2.2.1, cell_below hb h.2.2.2.2.2.2.2.2.2.2.2.2.2.2.2.2.2.2.2.2.2.1, cell_below hb h.2.2.2.2.2.2.2.2.2.2.2.2.2.2.2.2.2.2.2.2.2.2.1, cell_below hb h.2.2.2.2.2.2.2.2.2.2.2.2.2.2.2.2.2.2.2.2.2.2.2⟩
  replace hSb := Lib.hid hSb
  replace hS := Lib.hid hS
  refine wp_region_seq S [(0, false), (1, false), (2, false), (3, false), (4, true), (7, true), (5, false), (6, false), (8, false), (9, true), (10, true), (11, false), (12, false), (13, true), (14, true), (15, false), (16, false), (17, true), (18, true), (19, true), (20, false), (21, false), (22, true), (23, true), (24, true), (25, false), (26, false), (27, true), (28, true), (29, true), (30, true), (31, false), (32, false), (33, true), (34, true), (35, true), (36, true), (37, true), (38, true), (39, true), (40, false), (41, false), (42, true), (43, true), (44, true), (45, false), (46, false), (47, true), (48, true), (49, true), (50, false), (51, false), (52, true), (53, true), (54, true), (55, false), (56, false), (57, true), (58, true), (59, true), (60, false), (61, false), (62, true), (63, true), (64, true), (65, false), (66, false), (67, true), (68, true), (69, true), (70, true), (71, true), (72, true), (73, true), (74, false), (75, false), (76, true), (77, true), (78, true), (79, true), (80, true), (81, true), (82, true), (83, true), (84, true), (85, true), (86, false), (87, false), (88, false), (89, false), (90, true), (91, true), (92, false), (93, false), (94, false), (95, false), (96, false), (97, true), (98, true), (99, false), (100, false), (101, false), (102, false), (103, false), (104, true), (105, true), (106, false), (107, false), (108, false), (109, true), (110, true), (111, true), (112, false), (113, false), (114, false), (115, false), (116, true), (117, true), (118, false), (119, false), (120, true), (121, true), (122, true)] (by kernel_rfl) (by kernel_rfl) (by kernel_rfl) HSq (fun hSq => ?_)
  clear hSq
  replace HSq := Lib.hid HSq
  clear Rka Rkb Rkc Rkf Rkg Rkh Rki Rkl
  have HBr := Below.refl ((W29.alloc (.cells #[.bool (sg (dmn 0)), .slice Xn0 (nl (mg (dmn 0))) cn0, .int .i64 (dex 0)] 26))).drew.heap.size ((W29.alloc (.cells #[.bool (sg (dmn 0)), .slice Xn0 (nl (mg (dmn 0))) cn0, .int .i64 (dex 0)] 26))).drew
  refine SeqP.call rfl (by rfl) (fun Kq hKq => ?_)
  go_simp
  go_at_call 51
  with_reducible refine (cohz12 _).mono ?_
  rintro e W32 ⟨Xhz12_32, chz12_32, rfl, hhz12_32, hb32⟩
  replace HBr := Below.cons HBr hb32
  clear hb32
  refine hKq.out _ _ (hSb.out _ _ HBr HSq.out) (fun hSq => ?_)
  clear hSq hKq Kq
  try simp only [Act.put, seq0, seq1, seq2]
  refine SeqP.call rfl (by rfl) (fun Kq hKq => ?_)
  go_simp
  go_at_call 12
  with_reducible refine (hc9 _ _ _ hhz12_32 (hT.below HBr)).mono ?_
  rintro e W33 ⟨Xhmhz12_33, chmhz12_33, rfl, hhmhz12_33, hb33⟩
  replace HBr := Below.cons HBr hb33
  clear hb33
  refine hKq.out _ _ (hSb.out _ _ HBr HSq.out) (fun hSq => ?_)
  clear hSq hKq Kq
  try simp only [Act.put, seq0, seq1, seq2]
  refine SeqP.call rfl (by rfl) (fun Kq hKq => ?_)
  go_simp
  go_at_call 50
  with_reducible refine (cohd3_1 _).mono ?_
  rintro e W34 ⟨Xhd3_1_34, chd3_1_34, rfl, hhd3_1_34, hb34⟩
  replace hhmhz12_33 := hhmhz12_33.below hb34
  replace HBr := Below.cons HBr hb34
  clear hb34
  refine hKq.out _ _ (hSb.out _ _ HBr HSq.out) (fun hSq => ?_)
  clear hSq hKq Kq
  try simp only [Act.put, seq0, seq1, seq2]
  refine SeqP.call rfl (by rfl) (fun Kq hKq => ?_)
  go_simp
  go_at_call 11
  with_reducible refine (hc10 _ _ _ _ _ hhmhz12_33 hhd3_1_34).mono ?_
  rintro e W35 ⟨rfl, hb35⟩
  replace HBr := Below.cons HBr hb35
  clear hb35
  refine hKq.out _ _ (hSb.out _ _ HBr HSq.out) (fun hSq => ?_)
  clear hSq hKq Kq
  try simp only [Act.put, seq0, seq1, seq2]
  iterate 2 (refine SeqP.take (v := ?_) rfl (fun _ _ _ h => h) (Or.inl ⟨by rfl, ?_⟩) ?_; rotate_left 1; (focus (intro wq hSw; rw [hS.out] at hSw; (try dsimp only at hSw); go_simp; try with_reducible rfl)); try simp only [Act.put, seq0, seq1, seq2])
  refine SeqP.call rfl (by rfl) (fun Kq hKq => ?_)
  go_simp
  go_at_call 51
  with_reducible refine (cohz0 _).mono ?_
  rintro e W36 ⟨Xhz0_36, chz0_36, rfl, hhz0_36, hb36⟩
  replace HBr := Below.cons HBr hb36
  clear hb36
  refine hKq.out _ _ (hSb.out _ _ HBr HSq.out) (fun hSq => ?_)
  clear hSq hKq Kq
  try simp only [Act.put, seq0, seq1, seq2]
  refine SeqP.call rfl (by rfl) (fun Kq hKq => ?_)
  go_simp
  go_at_call 12
  with_reducible refine (hc11 _ _ _ hhz0_36 (hT.below HBr)).mono ?_
  rintro e W37 ⟨Xhmhz0_37, chmhz0_37, rfl, hhmhz0_37, hb37⟩
  replace HBr := Below.cons HBr hb37
  clear hb37
  refine hKq.out _ _ (hSb.out _ _ HBr HSq.out) (fun hSq => ?_)
  clear hSq hKq Kq
  try simp only [Act.put, seq0, seq1, seq2]
  refine SeqP.call rfl (by rfl) (fun Kq hKq => ?_)
  go_simp
  go_at_call 11
  with_reducible refine (hc12 _ _ _ hhmhz0_37).mono ?_
  rintro e W38 ⟨rfl, hb38⟩
  replace HBr := Below.cons HBr hb38
  clear hb38
  refine hKq.out _ _ (hSb.out _ _ HBr HSq.out) (fun hSq => ?_)
  clear hSq hKq Kq
  try simp only [Act.put, seq0, seq1, seq2]
  iterate 2 (refine SeqP.take (v := ?_) rfl (fun _ _ _ h => h) (Or.inl ⟨by rfl, ?_⟩) ?_; rotate_left 1; (focus (intro wq hSw; rw [hS.out] at hSw; (try dsimp only at hSw); go_simp; try with_reducible rfl)); try simp only [Act.put, seq0, seq1, seq2])
  refine SeqP.call rfl (by rfl) (fun Kq hKq => ?_)
  go_simp
  go_at_call 50
  with_reducible refine (cohd3_1 _).mono ?_
  rintro e W39 ⟨Xhd3_1_39, chd3_1_39, rfl, hhd3_1_39, hb39⟩
  replace HBr := Below.cons HBr hb39
  clear hb39
  refine hKq.out _ _ (hSb.out _ _ HBr HSq.out) (fun hSq => ?_)
  clear hSq hKq Kq
  try simp only [Act.put, seq0, seq1, seq2]
  refine SeqP.call rfl (by rfl) (fun Kq hKq => ?_)
  go_simp
  go_at_call 7
  with_reducible refine (hc13 _ _ _ hhd3_1_39).mono ?_
  rintro e W40 ⟨rfl, hb40⟩
  replace HBr := Below.cons HBr hb40
  clear hb40
  refine hKq.out _ _ (hSb.out _ _ HBr HSq.out) (fun hSq => ?_)
  clear hSq hKq Kq
  try simp only [Act.put, seq0, seq1, seq2]
  iterate 2 (refine SeqP.take (v := ?_) rfl (fun _ _ _ h => h) (Or.inl ⟨by rfl, ?_⟩) ?_; rotate_left 1; (focus (intro wq hSw; rw [hS.out] at hSw; (try dsimp only at hSw); go_simp; try with_reducible rfl)); try simp only [Act.put, seq0, seq1, seq2])
  refine SeqP.call rfl (by rfl) (fun Kq hKq => ?_)
  go_simp
  go_at_call 50
  with_reducible refine (cohr2_0 _).mono ?_
  rintro e W41 ⟨Xhr2_0_41, chr2_0_41, rfl, hhr2_0_41, hb41⟩
  replace HBr := Below.cons HBr hb41
  clear hb41
  refine hKq.out _ _ (hSb.out _ _ HBr HSq.out) (fun hSq => ?_)
  clear hSq hKq Kq
  try simp only [Act.put, seq0, seq1, seq2]
  refine SeqP.call rfl (by rfl) (fun Kq hKq => ?_)
  go_simp
  go_at_call 7
  with_reducible refine (hc14 _ _ _ hhr2_0_41).mono ?_
  rintro e W42 ⟨rfl, hb42⟩
  replace HBr := Below.cons HBr hb42
  clear hb42
  refine hKq.out _ _ (hSb.out _ _ HBr HSq.out) (fun hSq => ?_)
  clear hSq hKq Kq
  try simp only [Act.put, seq0, seq1, seq2]
  iterate 3 (refine SeqP.take (v := ?_) rfl (fun _ _ _ h => h) (Or.inl ⟨by rfl, ?_⟩) ?_; rotate_left 1; (focus (intro wq hSw; rw [hS.out] at hSw; (try dsimp only at hSw); go_simp; try with_reducible rfl)); try simp only [Act.put, seq0, seq1, seq2])
  refine SeqP.call rfl (by rfl) (fun Kq hKq => ?_)
  go_simp
  go_at_call 50
  with_reducible refine (cohr0_1 _).mono ?_
  rintro e W43 ⟨Xhr0_1_43, chr0_1_43, rfl, hhr0_1_43, hb43⟩
  replace HBr := Below.cons HBr hb43
  clear hb43
  refine hKq.out _ _ (hSb.out _ _ HBr HSq.out) (fun hSq => ?_)
  clear hSq hKq Kq
  try simp only [Act.put, seq0, seq1, seq2]
  refine SeqP.call rfl (by rfl) (fun Kq hKq => ?_)
  go_simp
  go_at_call 7
  with_reducible refine (hc15 _ _ _ hhr0_1_43).mono ?_
  rintro e W44 ⟨rfl, hb44⟩
  replace HBr := Below.cons HBr hb44
  clear hb44
  refine hKq.out _ _ (hSb.out _ _ HBr HSq.out) (fun hSq => ?_)
  clear hSq hKq Kq
  try simp only [Act.put, seq0, seq1, seq2]
  iterate 3 (refine SeqP.take (v := ?_) rfl (fun _ _ _ h => h) (Or.inl ⟨by rfl, ?_⟩) ?_; rotate_left 1; (focus (intro wq hSw; rw [hS.out] at hSw; (try dsimp only at hSw); go_simp; try with_reducible rfl)); try simp only [Act.put, seq0, seq1, seq2])
  refine SeqP.call rfl (by rfl) (fun Kq hKq => ?_)
  go_simp
  go_at_call 50
  with_reducible refine (cohr1_100001 _).mono ?_
  rintro e W45 ⟨Xhr1_100001_45, chr1_100001_45, rfl, hhr1_100001_45, hb45⟩
  replace HBr := Below.cons HBr hb45
  clear hb45
  refine hKq.out _ _ (hSb.out _ _ HBr HSq.out) (fun hSq => ?_)
  clear hSq hKq Kq
  try simp only [Act.put, seq0, seq1, seq2]
  refine SeqP.call rfl (by rfl) (fun Kq hKq => ?_)
  go_simp
  go_at_call 7
  with_reducible refine (hc16 _ _ _ hhr1_100001_45).mono ?_
  rintro e W46 ⟨rfl, hb46⟩
  replace HBr := Below.cons HBr hb46
  clear hb46
  refine hKq.out _ _ (hSb.out _ _ HBr HSq.out) (fun hSq => ?_)
  clear hSq hKq Kq
  try simp only [Act.put, seq0, seq1, seq2]
  iterate 4 (refine SeqP.take (v := ?_) rfl (fun _ _ _ h => h) (Or.inl ⟨by rfl, ?_⟩) ?_; rotate_left 1; (focus (intro wq hSw; rw [hS.out] at hSw; (try dsimp only at hSw); go_simp; try with_reducible rfl)); try simp only [Act.put, seq0, seq1, seq2])
  refine SeqP.call rfl (by rfl) (fun Kq hKq => ?_)
  go_simp
  go_at_call 50
  with_reducible refine (cohd1_n2 _).mono ?_
  rintro e W47 ⟨Xhd1_n2_47, chd1_n2_47, rfl, hhd1_n2_47, hb47⟩
  replace HBr := Below.cons HBr hb47
  clear hb47
  refine hKq.out _ _ (hSb.out _ _ HBr HSq.out) (fun hSq => ?_)
  clear hSq hKq Kq
  try simp only [Act.put, seq0, seq1, seq2]
  refine SeqP.call rfl (by rfl) (fun Kq hKq => ?_)
  go_simp
  go_at_call 11
  with_reducible refine (hc17 _ _ _ _ _ (hka.below HBr) hhd1_n2_47).mono ?_
  rintro e W48 ⟨rfl, hb48⟩
  replace HBr := Below.cons HBr hb48
  clear hb48
  refine hKq.out _ _ (hSb.out _ _ HBr HSq.out) (fun hSq => ?_)
  clear hSq hKq Kq
  try simp only [Act.put, seq0, seq1, seq2]
  iterate 7 (refine SeqP.take (v := ?_) rfl (fun _ _ _ h => h) (Or.inl ⟨by rfl, ?_⟩) ?_; rotate_left 1; (focus (intro wq hSw; rw [hS.out] at hSw; (try dsimp only at hSw); go_simp; try with_reducible rfl)); try simp only [Act.put, seq0, seq1, seq2])
  refine SeqP.call rfl (by rfl) (fun Kq hKq => ?_)
  go_simp
  go_at_call 50
  with_reducible refine (cohd1_n1 _).mono ?_
  rintro e W49 ⟨Xhd1_n1_49, chd1_n1_49, rfl, hhd1_n1_49, hb49⟩
  replace HBr := Below.cons HBr hb49
  clear hb49
  refine hKq.out _ _ (hSb.out _ _ HBr HSq.out) (fun hSq => ?_)
  clear hSq hKq Kq
  try simp only [Act.put, seq0, seq1, seq2]
  refine SeqP.call rfl (by rfl) (fun Kq hKq => ?_)
  go_simp
  go_at_call 11
  with_reducible refine (hc18 _ _ _ _ _ (hkb.below HBr) hhd1_n1_49).mono ?_
  rintro e W50 ⟨rfl, hb50⟩
  replace HBr := Below.cons HBr hb50
  clear hb50
  refine hKq.out _ _ (hSb.out _ _ HBr HSq.out) (fun hSq => ?_)
  clear hSq hKq Kq
  try simp only [Act.put, seq0, seq1, seq2]
  iterate 3 (refine SeqP.take (v := ?_) rfl (fun _ _ _ h => h) (Or.inl ⟨by rfl, ?_⟩) ?_; rotate_left 1; (focus (intro wq hSw; rw [hS.out] at hSw; (try dsimp only at hSw); go_simp; try with_reducible rfl)); try simp only [Act.put, seq0, seq1, seq2])
  refine SeqP.call rfl (by rfl) (fun Kq hKq => ?_)
  go_simp
  go_at_call 50
  with_reducible refine (cohd1_n2 _).mono ?_
  rintro e W51 ⟨Xhd1_n2_51, chd1_n2_51, rfl, hhd1_n2_51, hb51⟩
  replace HBr := Below.cons HBr hb51
  clear hb51
  refine hKq.out _ _ (hSb.out _ _ HBr HSq.out) (fun hSq => ?_)
  clear hSq hKq Kq
  try simp only [Act.put, seq0, seq1, seq2]
  refine SeqP.call rfl (by rfl) (fun Kq hKq => ?_)
  go_simp
  go_at_call 11
  with_reducible refine (hc19 _ _ _ _ _ (hkc.below HBr) hhd1_n2_51).mono ?_
  rintro e W52 ⟨rfl, hb52⟩
  replace HBr := Below.cons HBr hb52
  clear hb52
  refine hKq.out _ _ (hSb.out _ _ HBr HSq.out) (fun hSq => ?_)
  clear hSq hKq Kq
  try simp only [Act.put, seq0, seq1, seq2]
  iterate 3 (refine SeqP.take (v := ?_) rfl (fun _ _ _ h => h) (Or.inl ⟨by rfl, ?_⟩) ?_; rotate_left 1; (focus (intro wq hSw; rw [hS.out] at hSw; (try dsimp only at hSw); go_simp; try with_reducible rfl)); try simp only [Act.put, seq0, seq1, seq2])
  refine SeqP.call rfl (by rfl) (fun Kq hKq => ?_)
  go_simp
  go_at_call 50
  with_reducible refine (cohd1_n1 _).mono ?_
  rintro e W53 ⟨Xhd1_n1_53, chd1_n1_53, rfl, hhd1_n1_53, hb53⟩
  replace HBr := Below.cons HBr hb53
  clear hb53
  refine hKq.out _ _ (hSb.out _ _ HBr HSq.out) (fun hSq => ?_)
  clear hSq hKq Kq
  try simp only [Act.put, seq0, seq1, seq2]
  refine SeqP.call rfl (by rfl) (fun Kq hKq => ?_)
  go_simp
  go_at_call 11
  with_reducible refine (hc20 _ _ _ _ _ (hkf.below HBr) hhd1_n1_53).mono ?_
  rintro e W54 ⟨rfl, hb54⟩
  replace HBr := Below.cons HBr hb54
  clear hb54
  refine hKq.out _ _ (hSb.out _ _ HBr HSq.out) (fun hSq => ?_)
  clear hSq hKq Kq
  try simp only [Act.put, seq0, seq1, seq2]
  iterate 3 (refine SeqP.take (v := ?_) rfl (fun _ _ _ h => h) (Or.inl ⟨by rfl, ?_⟩) ?_; rotate_left 1; (focus (intro wq hSw; rw [hS.out] at hSw; (try dsimp only at hSw); go_simp; try with_reducible rfl)); try simp only [Act.put, seq0, seq1, seq2])
  refine SeqP.call rfl (by rfl) (fun Kq hKq => ?_)
  go_simp
  go_at_call 50
  with_reducible refine (cohd1_n1 _).mono ?_
  rintro e W55 ⟨Xhd1_n1_55, chd1_n1_55, rfl, hhd1_n1_55, hb55⟩
  replace HBr := Below.cons HBr hb55
  clear hb55
  refine hKq.out _ _ (hSb.out _ _ HBr HSq.out) (fun hSq => ?_)
  clear hSq hKq Kq
  try simp only [Act.put, seq0, seq1, seq2]
  refine SeqP.call rfl (by rfl) (fun Kq hKq => ?_)
  go_simp
  go_at_call 11
  with_reducible refine (hc21 _ _ _ _ _ (hkg.below HBr) hhd1_n1_55).mono ?_
  rintro e W56 ⟨rfl, hb56⟩
  replace HBr := Below.cons HBr hb56
  clear hb56
  refine hKq.out _ _ (hSb.out _ _ HBr HSq.out) (fun hSq => ?_)
  clear hSq hKq Kq
  try simp only [Act.put, seq0, seq1, seq2]
  iterate 3 (refine SeqP.take (v := ?_) rfl (fun _ _ _ h => h) (Or.inl ⟨by rfl, ?_⟩) ?_; rotate_left 1; (focus (intro wq hSw; rw [hS.out] at hSw; (try dsimp only at hSw); go_simp; try with_reducible rfl)); try simp only [Act.put, seq0, seq1, seq2])
  refine SeqP.call rfl (by rfl) (fun Kq hKq => ?_)
  go_simp
  go_at_call 50
  with_reducible refine (cohdn1_n2 _).mono ?_
  rintro e W57 ⟨Xhdn1_n2_57, chdn1_n2_57, rfl, hhdn1_n2_57, hb57⟩
  replace HBr := Below.cons HBr hb57
  clear hb57
  refine hKq.out _ _ (hSb.out _ _ HBr HSq.out) (fun hSq => ?_)
  clear hSq hKq Kq
  try simp only [Act.put, seq0, seq1, seq2]
  refine SeqP.call rfl (by rfl) (fun Kq hKq => ?_)
  go_simp
  go_at_call 11
  with_reducible refine (hc22 _ _ _ _ _ (hkh.below HBr) hhdn1_n2_57).mono ?_
  rintro e W58 ⟨rfl, hb58⟩
  replace HBr := Below.cons HBr hb58
  clear hb58
  refine hKq.out _ _ (hSb.out _ _ HBr HSq.out) (fun hSq => ?_)
  clear hSq hKq Kq
  try simp only [Act.put, seq0, seq1, seq2]
  iterate 3 (refine SeqP.take (v := ?_) rfl (fun _ _ _ h => h) (Or.inl ⟨by rfl, ?_⟩) ?_; rotate_left 1; (focus (intro wq hSw; rw [hS.out] at hSw; (try dsimp only at hSw); go_simp; try with_reducible rfl)); try simp only [Act.put, seq0, seq1, seq2])
  refine SeqP.call rfl (by rfl) (fun Kq hKq => ?_)
  go_simp
  go_at_call 50
  with_reducible refine (cohdn1_n1 _).mono ?_
  rintro e W59 ⟨Xhdn1_n1_59, chdn1_n1_59, rfl, hhdn1_n1_59, hb59⟩
  replace HBr := Below.cons HBr hb59
  clear hb59
  refine hKq.out _ _ (hSb.out _ _ HBr HSq.out) (fun hSq => ?_)
  clear hSq hKq Kq
  try simp only [Act.put, seq0, seq1, seq2]
  refine SeqP.call rfl (by rfl) (fun Kq hKq => ?_)
  go_simp
  go_at_call 11
  with_reducible refine (hc23 _ _ _ _ _ (hki.below HBr) hhdn1_n1_59).mono ?_
  rintro e W60 ⟨rfl, hb60⟩
  replace HBr := Below.cons HBr hb60
  clear hb60
  refine hKq.out _ _ (hSb.out _ _ HBr HSq.out) (fun hSq => ?_)
  clear hSq hKq Kq
  try simp only [Act.put, seq0, seq1, seq2]
  iterate 7 (refine SeqP.take (v := ?_) rfl (fun _ _ _ h => h) (Or.inl ⟨by rfl, ?_⟩) ?_; rotate_left 1; (focus (intro wq hSw; rw [hS.out] at hSw; (try dsimp only at hSw); go_simp; try with_reducible rfl)); try simp only [Act.put, seq0, seq1, seq2])
  refine SeqP.call rfl (by rfl) (fun Kq hKq => ?_)
  go_simp
  go_at_call 50
  with_reducible refine (cohd1_n1 _).mono ?_
  rintro e W61 ⟨Xhd1_n1_61, chd1_n1_61, rfl, hhd1_n1_61, hb61⟩
  replace HBr := Below.cons HBr hb61
  clear hb61
  refine hKq.out _ _ (hSb.out _ _ HBr HSq.out) (fun hSq => ?_)
  clear hSq hKq Kq
  try simp only [Act.put, seq0, seq1, seq2]
  refine SeqP.call rfl (by rfl) (fun Kq hKq => ?_)
  go_simp
  go_at_call 11
  with_reducible refine (hc24 _ _ _ _ _ (hkl.below HBr) hhd1_n1_61).mono ?_
  rintro e W62 ⟨rfl, hb62⟩
  replace HBr := Below.cons HBr hb62
  clear hb62
  refine hKq.out _ _ (hSb.out _ _ HBr HSq.out) (fun hSq => ?_)
  clear hSq hKq Kq
  try simp only [Act.put, seq0, seq1, seq2]
  iterate 10 (refine SeqP.take (v := ?_) rfl (fun _ _ _ h => h) (Or.inl ⟨by rfl, ?_⟩) ?_; rotate_left 1; (focus (intro wq hSw; rw [hS.out] at hSw; (try dsimp only at hSw); go_simp; try with_reducible rfl)); try simp only [Act.put, seq0, seq1, seq2])
  refine SeqP.call rfl (by rfl) (fun Kq hKq => ?_)
  go_simp
  go_at_call 50
  with_reducible refine (cohdn3_n1 _).mono ?_
  rintro e W63 ⟨Xhdn3_n1_63, chdn3_n1_63, rfl, hhdn3_n1_63, hb63⟩
  replace HBr := Below.cons HBr hb63
  clear hb63
  refine hKq.out _ _ (hSb.out _ _ HBr HSq.out) (fun hSq => ?_)
  clear hSq hKq Kq
  try simp only [Act.put, seq0, seq1, seq2]
  refine SeqP.call rfl (by rfl) (fun Kq hKq => ?_)
  go_simp
  go_at_call 52
  with_reducible refine (hc25 _ _ _ hhdn3_n1_63).mono ?_
  rintro e W64 ⟨Xhs2_64, chs2_64, rfl, hhs2_64, hb64⟩
  replace HBr := Below.cons HBr hb64
  clear hb64
  refine hKq.out _ _ (hSb.out _ _ HBr HSq.out) (fun hSq => ?_)
  clear hSq hKq Kq
  try simp only [Act.put, seq0, seq1, seq2]
  refine SeqP.call rfl (by rfl) (fun Kq hKq => ?_)
  go_simp
  go_at_call 51
  with_reducible refine (cohzn2 _).mono ?_
  rintro e W65 ⟨Xhzn2_65, chzn2_65, rfl, hhzn2_65, hb65⟩
  replace hhs2_64 := hhs2_64.below hb65
  replace HBr := Below.cons HBr hb65
  clear hb65
  refine hKq.out _ _ (hSb.out _ _ HBr HSq.out) (fun hSq => ?_)
  clear hSq hKq Kq
  try simp only [Act.put, seq0, seq1, seq2]
  refine SeqP.call rfl (by rfl) (fun Kq hKq => ?_)
  go_simp
  go_at_call 42
  with_reducible refine (hc26 _ _ _ _ _ hhs2_64 hhzn2_65).mono ?_
  rintro e W66 ⟨rfl, hb66⟩
  replace HBr := Below.cons HBr hb66
  clear hb66
  refine hKq.out _ _ (hSb.out _ _ HBr HSq.out) (fun hSq => ?_)
  clear hSq hKq Kq
  try simp only [Act.put, seq0, seq1, seq2]
  iterate 2 (refine SeqP.take (v := ?_) rfl (fun _ _ _ h => h) (Or.inl ⟨by rfl, ?_⟩) ?_; rotate_left 1; (focus (intro wq hSw; rw [hS.out] at hSw; (try dsimp only at hSw); go_simp; try with_reducible rfl)); try simp only [Act.put, seq0, seq1, seq2])
  refine SeqP.call rfl (by rfl) (fun Kq hKq => ?_)
  go_simp
  go_at_call 50
  with_reducible refine (cohd1_n1 _).mono ?_
  rintro e W67 ⟨Xhd1_n1_67, chd1_n1_67, rfl, hhd1_n1_67, hb67⟩
  replace HBr := Below.cons HBr hb67
  clear hb67
  refine hKq.out _ _ (hSb.out _ _ HBr HSq.out) (fun hSq => ?_)
  clear hSq hKq Kq
  try simp only [Act.put, seq0, seq1, seq2]
  refine SeqP.call rfl (by rfl) (fun Kq hKq => ?_)
  go_simp
  go_at_call 50
  with_reducible refine (cohd1_n1b _).mono ?_
  rintro e W68 ⟨Xhd1_n1b_68, chd1_n1b_68, rfl, hhd1_n1b_68, hb68⟩
  replace hhd1_n1_67 := hhd1_n1_67.below hb68
  replace HBr := Below.cons HBr hb68
  clear hb68
  refine hKq.out _ _ (hSb.out _ _ HBr HSq.out) (fun hSq => ?_)
  clear hSq hKq Kq
  try simp only [Act.put, seq0, seq1, seq2]
  refine SeqP.call rfl (by rfl) (fun Kq hKq => ?_)
  go_simp
  go_at_call 20
  with_reducible refine (hc27 _ _ _ _ _ hhd1_n1_67 hhd1_n1b_68 (hT.below HBr)).mono ?_
  rintro e W69 ⟨Xhadd_69, chadd_69, rfl, hhadd_69, hb69⟩
  replace HBr := Below.cons HBr hb69
  clear hb69
  refine hKq.out _ _ (hSb.out _ _ HBr HSq.out) (fun hSq => ?_)
  clear hSq hKq Kq
  try simp only [Act.put, seq0, seq1, seq2]
  refine SeqP.call rfl (by rfl) (fun Kq hKq => ?_)
  go_simp
  go_at_call 50
  with_reducible refine (cohd1_0 _).mono ?_
  rintro e W70 ⟨Xhd1_0_70, chd1_0_70, rfl, hhd1_0_70, hb70⟩
  replace hhadd_69 := hhadd_69.below hb70
  replace HBr := Below.cons HBr hb70
  clear hb70
  refine hKq.out _ _ (hSb.out _ _ HBr HSq.out) (fun hSq => ?_)
  clear hSq hKq Kq
  try simp only [Act.put, seq0, seq1, seq2]
  refine SeqP.call rfl (by rfl) (fun Kq hKq => ?_)
  go_simp
  go_at_call 11
  with_reducible refine (hc28 _ _ _ _ _ hhadd_69 hhd1_0_70).mono ?_
  rintro e W71 ⟨rfl, hb71⟩
  replace HBr := Below.cons HBr hb71
  clear hb71
  refine hKq.out _ _ (hSb.out _ _ HBr HSq.out) (fun hSq => ?_)
  clear hSq hKq Kq
  try simp only [Act.put, seq0, seq1, seq2]
  iterate 2 (refine SeqP.take (v := ?_) rfl (fun _ _ _ h => h) (Or.inl ⟨by rfl, ?_⟩) ?_; rotate_left 1; (focus (intro wq hSw; rw [hS.out] at hSw; (try dsimp only at hSw); go_simp; try with_reducible rfl)); try simp only [Act.put, seq0, seq1, seq2])
  refine SeqP.call rfl (by rfl) (fun Kq hKq => ?_)
  go_simp
  go_at_call 50
  with_reducible refine (cohd1_0 _).mono ?_
  rintro e W72 ⟨Xhd1_0_72, chd1_0_72, rfl, hhd1_0_72, hb72⟩
  replace HBr := Below.cons HBr hb72
  clear hb72
  refine hKq.out _ _ (hSb.out _ _ HBr HSq.out) (fun hSq => ?_)
  clear hSq hKq Kq
  try simp only [Act.put, seq0, seq1, seq2]
  refine SeqP.call rfl (by rfl) (fun Kq hKq => ?_)
  go_simp
  go_at_call 50
  with_reducible refine (cohd3_0 _).mono ?_
  rintro e W73 ⟨Xhd3_0_73, chd3_0_73, rfl, hhd3_0_73, hb73⟩
  replace hhd1_0_72 := hhd1_0_72.below hb73
  replace HBr := Below.cons HBr hb73
  clear hb73
  refine hKq.out _ _ (hSb.out _ _ HBr HSq.out) (fun hSq => ?_)
  clear hSq hKq Kq
  try simp only [Act.put, seq0, seq1, seq2]
  refine SeqP.call rfl (by rfl) (fun Kq hKq => ?_)
  go_simp
  go_at_call 26
  with_reducible refine (hc29 _ _ _ _ _ hhd1_0_72 hhd3_0_73 (hT.below HBr)).mono ?_
  rintro e W74 ⟨Xhmid_74, chmid_74, rfl, hhmid_74, hb74⟩
  replace HBr := Below.cons HBr hb74
  clear hb74
  refine hKq.out _ _ (hSb.out _ _ HBr HSq.out) (fun hSq => ?_)
  clear hSq hKq Kq
  try simp only [Act.put, seq0, seq1, seq2]
  refine SeqP.call rfl (by rfl) (fun Kq hKq => ?_)
  go_simp
  go_at_call 50
  with_reducible refine (cohd1_1 _).mono ?_
  rintro e W75 ⟨Xhd1_1_75, chd1_1_75, rfl, hhd1_1_75, hb75⟩
  replace hhmid_74 := hhmid_74.below hb75
  replace HBr := Below.cons HBr hb75
  clear hb75
  refine hKq.out _ _ (hSb.out _ _ HBr HSq.out) (fun hSq => ?_)
  clear hSq hKq Kq
  try simp only [Act.put, seq0, seq1, seq2]
  refine SeqP.call rfl (by rfl) (fun Kq hKq => ?_)
  go_simp
  go_at_call 11
  with_reducible refine (hc30 _ _ _ _ _ hhmid_74 hhd1_1_75).mono ?_
  rintro e W76 ⟨rfl, hb76⟩
  replace HBr := Below.cons HBr hb76
  clear hb76
  refine hKq.out _ _ (hSb.out _ _ HBr HSq.out) (fun hSq => ?_)
  clear hSq hKq Kq
  try simp only [Act.put, seq0, seq1, seq2]
  iterate 2 (refine SeqP.take (v := ?_) rfl (fun _ _ _ h => h) (Or.inl ⟨by rfl, ?_⟩) ?_; rotate_left 1; (focus (intro wq hSw; rw [hS.out] at hSw; (try dsimp only at hSw); go_simp; try with_reducible rfl)); try simp only [Act.put, seq0, seq1, seq2])
  refine SeqP.call rfl (by rfl) (fun Kq hKq => ?_)
  go_simp
  go_at_call 50
  with_reducible refine (cohd1_n1 _).mono ?_
  rintro e W77 ⟨Xhd1_n1_77, chd1_n1_77, rfl, hhd1_n1_77, hb77⟩
  replace HBr := Below.cons HBr hb77
  clear hb77
  refine hKq.out _ _ (hSb.out _ _ HBr HSq.out) (fun hSq => ?_)
  clear hSq hKq Kq
  try simp only [Act.put, seq0, seq1, seq2]
  refine SeqP.call rfl (by rfl) (fun Kq hKq => ?_)
  go_simp
  go_at_call 50
  with_reducible refine (cohd1_n2 _).mono ?_
  rintro e W78 ⟨Xhd1_n2_78, chd1_n2_78, rfl, hhd1_n2_78, hb78⟩
  replace hhd1_n1_77 := hhd1_n1_77.below hb78
  replace HBr := Below.cons HBr hb78
  clear hb78
  refine hKq.out _ _ (hSb.out _ _ HBr HSq.out) (fun hSq => ?_)
  clear hSq hKq Kq
  try simp only [Act.put, seq0, seq1, seq2]
  refine SeqP.call rfl (by rfl) (fun Kq hKq => ?_)
  go_simp
  go_at_call 14
  with_reducible refine (hc31 _ _ _ _ _ hhd1_n1_77 hhd1_n2_78).mono ?_
  rintro e W79 ⟨rfl, hb79⟩
  replace HBr := Below.cons HBr hb79
  clear hb79
  refine hKq.out _ _ (hSb.out _ _ HBr HSq.out) (fun hSq => ?_)
  clear hSq hKq Kq
  try simp only [Act.put, seq0, seq1, seq2]
  iterate 3 (refine SeqP.take (v := ?_) rfl (fun _ _ _ h => h) (Or.inl ⟨by rfl, ?_⟩) ?_; rotate_left 1; (focus (intro wq hSw; rw [hS.out] at hSw; (try dsimp only at hSw); go_simp; try with_reducible rfl)); try simp only [Act.put, seq0, seq1, seq2])
  refine SeqP.call rfl (by rfl) (fun Kq hKq => ?_)
  go_simp
  go_at_call 50
  with_reducible refine (cohdn3_n2 _).mono ?_
  rintro e W80 ⟨Xhdn3_n2_80, chdn3_n2_80, rfl, hhdn3_n2_80, hb80⟩
  replace HBr := Below.cons HBr hb80
  clear hb80
  refine hKq.out _ _ (hSb.out _ _ HBr HSq.out) (fun hSq => ?_)
  clear hSq hKq Kq
  try simp only [Act.put, seq0, seq1, seq2]
  refine SeqP.call rfl (by rfl) (fun Kq hKq => ?_)
  go_simp
  go_at_call 29
  with_reducible refine (hc32 _ _ _ hhdn3_n2_80).mono ?_
  rintro e W81 ⟨Xhrat_81, chrat_81, Yhrat_81, dhrat_81, rfl, hhrat_81, ghrat_81, hb81⟩
  replace HBr := Below.cons HBr hb81
  clear hb81
  refine hKq.out _ _ (hSb.out _ _ HBr HSq.out) (fun hSq => ?_)
  clear hSq hKq Kq
  try simp only [Act.put, seq0, seq1, seq2]
  refine SeqP.call rfl (by rfl) (fun Kq hKq => ?_)
  go_simp
  go_at_call 48
  with_reducible refine (cohqn3_4 _).mono ?_
  rintro e W82 ⟨Xhqn3_4_82, chqn3_4_82, Yhqn3_4_82, dhqn3_4_82, rfl, hhqn3_4_82, ghqn3_4_82, hb82⟩
  replace hhrat_81 := hhrat_81.below hb82
  replace ghrat_81 := ghrat_81.below hb82
  replace HBr := Below.cons HBr hb82
  clear hb82
  refine hKq.out _ _ (hSb.out _ _ HBr HSq.out) (fun hSq => ?_)
  clear hSq hKq Kq
  try simp only [Act.put, seq0, seq1, seq2]
  refine SeqP.call rfl (by rfl) (fun Kq hKq => ?_)
  go_simp
  go_at_call 28
  with_reducible refine (hc33 _ _ _ _ _ _ _ _ _ hhrat_81 ghrat_81 hhqn3_4_82 ghqn3_4_82).mono ?_
  rintro e W83 ⟨rfl, hb83⟩
  replace HBr := Below.cons HBr hb83
  clear hb83
  refine hKq.out _ _ (hSb.out _ _ HBr HSq.out) (fun hSq => ?_)
  clear hSq hKq Kq
  try simp only [Act.put, seq0, seq1, seq2]
  iterate 2 (refine SeqP.take (v := ?_) rfl (fun _ _ _ h => h) (Or.inl ⟨by rfl, ?_⟩) ?_; rotate_left 1; (focus (intro wq hSw; rw [hS.out] at hSw; (try dsimp only at hSw); go_simp; try with_reducible rfl)); try simp only [Act.put, seq0, seq1, seq2])
  refine SeqP.call rfl (by rfl) (fun Kq hKq => ?_)
  go_simp
  go_at_call 50
  with_reducible refine (cohdn1_5 _).mono ?_
  rintro e W84 ⟨Xhdn1_5_84, chdn1_5_84, rfl, hhdn1_5_84, hb84⟩
  replace HBr := Below.cons HBr hb84
  clear hb84
  refine hKq.out _ _ (hSb.out _ _ HBr HSq.out) (fun hSq => ?_)
  clear hSq hKq Kq
  try simp only [Act.put, seq0, seq1, seq2]
  refine SeqP.call rfl (by rfl) (fun Kq hKq => ?_)
  go_simp
  go_at_call 16
  with_reducible refine (hc34 _ _ _ hhdn1_5_84).mono ?_
  rintro e W85 ⟨rfl, hb85⟩
  replace HBr := Below.cons HBr hb85
  clear hb85
  refine hKq.out _ _ (hSb.out _ _ HBr HSq.out) (fun hSq => ?_)
  clear hSq hKq Kq
  try simp only [Act.put, seq0, seq1, seq2]
  iterate 3 (refine SeqP.take (v := ?_) rfl (fun _ _ _ h => h) (Or.inl ⟨by rfl, ?_⟩) ?_; rotate_left 1; (focus (intro wq hSw; rw [hS.out] at hSw; (try dsimp only at hSw); go_simp; try with_reducible rfl)); try simp only [Act.put, seq0, seq1, seq2])
  replace HSq := Lib.hid (hSb.out _ _ HBr HSq.out)
  replace hT := (hT.below HBr)
  replace HBT := Below.cons HBT HBr
  clear HBr
  refine SeqP.done ?_
  clear hSb
  clear HSq
  all_goals (try go_wp2_with (fail))
  go_ret
  exact ⟨rfl, HBT⟩
theorem rightF_c (A : Option Addr) (c k : Nat) (l : List Nat) (w : World) (h : Rd w A l) (hn : l.length = k + 1) (hz : gl l k = 0) (hk : k + 1 ≤ 65536) :
    Calls Tryz.prog 112 #[.slice A l.length c] w (fun e w' => e = .returned (.bool false) ∧ w' = w) := by
  obtain ⟨ad, rfl, hcx⟩ := h.get k (by omega)
  rw [hz] at hcx
  obtain ⟨n, hnn⟩ : ∃ n, n = l.length := ⟨_, rfl⟩
  rw [← hnn] at hn ⊢
  have h1 : ((n : Int) == 0) = false := ieqF (by omega)
  have hkI : (n : Int) - 1 = (k : Int) := by omega
  have hkl : k < n := by omega
  have h3 : decide ((n : Int) ≤ 65536) = true := by simp; omega
  replace hnn := Lib.hid hnn
  replace hn := Lib.hid hn
  clear h
  go_enter Tryz.func112, Tryz.ntmps112
  go_wp2_with (fail)
  go_ret
  exact ⟨rfl, rfl⟩
theorem rrightF_c (A : Option Addr) (c k : Nat) (l : List Nat) (w : World) (h : Rd w A l) (hn : l.length = k + 1) (hz : gl l k = 0) (hk : k + 1 ≤ 65536) :
    Calls Tryz.prog 113 #[.slice A l.length c] w (fun e w' => e = .returned (.bool false) ∧ w' = w) := by
  obtain ⟨ad, rfl, hcx⟩ := h.get k (by omega)
  rw [hz] at hcx
  obtain ⟨n, hnn⟩ : ∃ n, n = l.length := ⟨_, rfl⟩
  rw [← hnn] at hn ⊢
  have h1 : ((n : Int) == 0) = false := ieqF (by omega)
  have hkI : (n : Int) - 1 = (k : Int) := by omega
  have hkl : k < n := by omega
  have h3 : decide ((n : Int) ≤ 65536) = true := by simp; omega
  replace hnn := Lib.hid hnn
  replace hn := Lib.hid hn
  clear h
  go_enter Tryz.func113, Tryz.ntmps113
  go_wp2_with (fail)
  go_ret
  exact ⟨rfl, rfl⟩
theorem nat_none_at (w : World) (A : Option Addr) (c : Nat) (hc : c ≤ maxLen) : NatV w A c 0 := ⟨.inl (by simp [vals, limbs_zero]), by rw [nl_zero]; exact Nat.zero_le _, hc⟩
theorem irightF_c (sn : Bool) (A : Option Addr) (c k : Nat) (l : List Nat) (w : World) (h : Rd w A l) (hn : l.length = k + 1) (hz : gl l k = 0) (hk : k + 1 ≤ 65536) :
    Calls Tryz.prog 53 #[.agg #[.bool sn, .slice A l.length c]] w (fun e w' => e = .returned (.bool false) ∧ Below w.heap.size w w') := by
  obtain ⟨n, hnn⟩ : ∃ n, n = l.length := ⟨_, rfl⟩
  have p1 : ((n : Int) == 0) = false := ieqF (by omega)
  have p2 : (n == 0) = false := by simp; omega
  have p3 : decide (0 < (n : Int)) = true := by simp; omega
  have p4 : decide (0 < n) = true := by simp; omega
  rw [← hnn]
  obtain ⟨hb1, Ra⟩ := bx1 w #[.bool sn, .slice A n c] 24
  replace h := h.below hb1
  have HBT := hb1
  clear hb1
  have qa0 := Ra.c (i := 0) rfl
  have qa1 := Ra.c (i := 1) rfl
  replace hnn := Lib.hid hnn
  replace hn := Lib.hid hn
  replace hz := Lib.hid hz
  go_enter Tryz.func53, Tryz.ntmps53
  go_wp2_with (fail)
  have CC := rightF_c A c k l _ h hn.out hz.out hk
  rw [← hnn.out] at CC
  refine (Calls.mono CC ?_)
  rintro e w' ⟨rfl, hw⟩
  subst hw
  go_wp2_with (fail)
  go_ret
  exact ⟨rfl, HBT⟩
theorem irightN_c (A : Option Addr) (c : Nat) (w : World) (hc : c ≤ maxLen) :
    Calls Tryz.prog 53 #[.agg #[.bool true, .slice A 0 c]] w (fun e w' => e = .returned (.bool false) ∧ Below w.heap.size w w') := by
  have h := nat_none_at w A c hc
  obtain ⟨hb1, Ra⟩ := bx1 w #[.bool true, .slice A 0 c] 24
  replace h := h.below hb1
  have HBT := hb1
  clear hb1
  have qa0 := Ra.c (i := 0) rfl
  have qa1 := Ra.c (i := 1) rfl
  go_enter Tryz.func53, Tryz.ntmps53
  go_wp2_with (fail)
  have CC := right_c A c 0 _ h (by rw [nl_zero]; decide)
  rw [nl_zero] at CC
  refine (Calls.mono CC ?_)
  rintro e w' ⟨rfl, hw⟩
  subst hw
  go_wp2_with (fail)
  go_ret
  exact ⟨rfl, HBT⟩
theorem zrightF_c (sn : Bool) (A : Option Addr) (c k : Nat) (l : List Nat) (w : World) (h : Rd w A l) (hn : l.length = k + 1) (hz : gl l k = 0) (hk : k + 1 ≤ 65536) :
    Calls Tryz.prog 54 #[.agg #[.bool sn, .slice A l.length c]] w (fun e w' => e = .returned (.bool false) ∧ Below w.heap.size w w') := by
  obtain ⟨n, hnn⟩ : ∃ n, n = l.length := ⟨_, rfl⟩
  have p1 : ((n : Int) == 0) = false := ieqF (by omega)
  have p2 : (n == 0) = false := by simp; omega
  have p3 : decide (0 < (n : Int)) = true := by simp; omega
  have p4 : decide (0 < n) = true := by simp; omega
  rw [← hnn]
  obtain ⟨hb1, Ra⟩ := bx1 w #[.bool sn, .slice A n c] 24
  replace h := h.below hb1
  have HBT := hb1
  clear hb1
  have qa0 := Ra.c (i := 0) rfl
  have qa1 := Ra.c (i := 1) rfl
  replace hnn := Lib.hid hnn
  replace hn := Lib.hid hn
  replace hz := Lib.hid hz
  go_enter Tryz.func54, Tryz.ntmps54
  go_wp2_with (fail)
  have CC := rrightF_c A c k l _ h hn.out hz.out hk
  rw [← hnn.out] at CC
  refine (Calls.mono CC ?_)
  rintro e w' ⟨rfl, hw⟩
  subst hw
  go_wp2_with (fail)
  go_ret
  exact ⟨rfl, HBT⟩
theorem zrightN_c (A : Option Addr) (c : Nat) (w : World) (hc : c ≤ maxLen) :
    Calls Tryz.prog 54 #[.agg #[.bool true, .slice A 0 c]] w (fun e w' => e = .returned (.bool false) ∧ Below w.heap.size w w') := by
  have h := nat_none_at w A c hc
  obtain ⟨hb1, Ra⟩ := bx1 w #[.bool true, .slice A 0 c] 24
  replace h := h.below hb1
  have HBT := hb1
  clear hb1
  have qa0 := Ra.c (i := 0) rfl
  have qa1 := Ra.c (i := 1) rfl
  go_enter Tryz.func54, Tryz.ntmps54
  go_wp2_with (fail)
  have CC := rright_c A c 0 _ h (by rw [nl_zero]; decide)
  rw [nl_zero] at CC
  refine (Calls.mono CC ?_)
  rintro e w' ⟨rfl, hw⟩
  subst hw
  go_wp2_with (fail)
  go_ret
  exact ⟨rfl, HBT⟩
theorem drightF_c (sn : Bool) (A : Option Addr) (c k : Nat) (l : List Nat) (x : Int) (w : World) (h : Rd w A l) (hn : l.length = k + 1) (hz : gl l k = 0) (hk : k + 1 ≤ 65536) :
    Calls Tryz.prog 7 #[.agg #[.bool sn, .slice A l.length c, .int .i64 x]] w (fun e w' => e = .returned (.bool false) ∧ Below w.heap.size w w') := by
  obtain ⟨n, hnn⟩ : ∃ n, n = l.length := ⟨_, rfl⟩
  have p1 : ((n : Int) == 0) = false := ieqF (by omega)
  have p2 : (n == 0) = false := by simp; omega
  have p3 : decide (0 < (n : Int)) = true := by simp; omega
  have p4 : decide (0 < n) = true := by simp; omega
  rw [← hnn]
  obtain ⟨hb1, Ra⟩ := bx1 w #[.bool sn, .slice A n c, .int .i64 x] 26
  replace h := h.below hb1
  have HBT := hb1
  clear hb1
  have qa0 := Ra.c (i := 0) rfl
  have qa1 := Ra.c (i := 1) rfl
  have qa2 := Ra.c (i := 2) rfl
  replace hnn := Lib.hid hnn
  replace hn := Lib.hid hn
  replace hz := Lib.hid hz
  go_enter Tryz.func7, Tryz.ntmps7
  go_wp2_with (fail)
  have CC := irightF_c sn A c k l _ h hn.out hz.out hk
  rw [← hnn.out] at CC
  refine (Calls.mono CC ?_)
  rintro e W1 ⟨rfl, hb1⟩
  replace h := h.below hb1
  replace Ra := Ra.below hb1
  replace qa0 := cbl hb1 qa0
  replace qa1 := cbl hb1 qa1
  replace qa2 := cbl hb1 qa2
  replace HBT := Below.cons HBT hb1
  clear hb1
  go_wp2_with (fail)
  go_ret
  exact ⟨rfl, HBT⟩
theorem drightN_c (A : Option Addr) (c : Nat) (x : Int) (w : World) (hc : c ≤ maxLen) :
    Calls Tryz.prog 7 #[.agg #[.bool true, .slice A 0 c, .int .i64 x]] w (fun e w' => e = .returned (.bool false) ∧ Below w.heap.size w w') := by
  have h := nat_none_at w A c hc
  obtain ⟨hb1, Ra⟩ := bx1 w #[.bool true, .slice A 0 c, .int .i64 x] 26
  replace h := h.below hb1
  have HBT := hb1
  clear hb1
  have qa0 := Ra.c (i := 0) rfl
  have qa1 := Ra.c (i := 1) rfl
  have qa2 := Ra.c (i := 2) rfl
  go_enter Tryz.func7, Tryz.ntmps7
  go_wp2_with (fail)
  refine (Calls.mono (irightN_c A c _ hc) ?_)
  rintro e W1 ⟨rfl, hb1⟩
  replace h := h.below hb1
  replace Ra := Ra.below hb1
  replace qa0 := cbl hb1 qa0
  replace qa1 := cbl hb1 qa1
  replace qa2 := cbl hb1 qa2
  replace HBT := Below.cons HBT hb1
  clear hb1
  go_wp2_with (fail)
  go_ret
  exact ⟨rfl, HBT⟩
theorem trightF_c (sn : Bool) (A : Option Addr) (c k : Nat) (l : List Nat) (x : Int) (w : World) (h : Rd w A l) (hn : l.length = k + 1) (hz : gl l k = 0) (hk : k + 1 ≤ 65536) :
    Calls Tryz.prog 8 #[.agg #[.bool sn, .slice A l.length c, .int .i64 x]] w (fun e w' => e = .returned (.bool false) ∧ Below w.heap.size w w') := by
  obtain ⟨n, hnn⟩ : ∃ n, n = l.length := ⟨_, rfl⟩
  have p1 : ((n : Int) == 0) = false := ieqF (by omega)
  have p2 : (n == 0) = false := by simp; omega
  have p3 : decide (0 < (n : Int)) = true := by simp; omega
  have p4 : decide (0 < n) = true := by simp; omega
  rw [← hnn]
  obtain ⟨hb1, Ra⟩ := bx1 w #[.bool sn, .slice A n c, .int .i64 x] 26
  replace h := h.below hb1
  have HBT := hb1
  clear hb1
  have qa0 := Ra.c (i := 0) rfl
  have qa1 := Ra.c (i := 1) rfl
  have qa2 := Ra.c (i := 2) rfl
  replace hnn := Lib.hid hnn
  replace hn := Lib.hid hn
  replace hz := Lib.hid hz
  go_enter Tryz.func8, Tryz.ntmps8
  go_wp2_with (fail)
  have CC := zrightF_c sn A c k l _ h hn.out hz.out hk
  rw [← hnn.out] at CC
  refine (Calls.mono CC ?_)
  rintro e W1 ⟨rfl, hb1⟩
  replace h := h.below hb1
  replace Ra := Ra.below hb1
  replace qa0 := cbl hb1 qa0
  replace qa1 := cbl hb1 qa1
  replace qa2 := cbl hb1 qa2
  replace HBT := Below.cons HBT hb1
  clear hb1
  go_wp2_with (fail)
  go_ret
  exact ⟨rfl, HBT⟩
theorem trightN_c (A : Option Addr) (c : Nat) (x : Int) (w : World) (hc : c ≤ maxLen) :
    Calls Tryz.prog 8 #[.agg #[.bool true, .slice A 0 c, .int .i64 x]] w (fun e w' => e = .returned (.bool false) ∧ Below w.heap.size w w') := by
  have h := nat_none_at w A c hc
  obtain ⟨hb1, Ra⟩ := bx1 w #[.bool true, .slice A 0 c, .int .i64 x] 26
  replace h := h.below hb1
  have HBT := hb1
  clear hb1
  have qa0 := Ra.c (i := 0) rfl
  have qa1 := Ra.c (i := 1) rfl
  have qa2 := Ra.c (i := 2) rfl
  go_enter Tryz.func8, Tryz.ntmps8
  go_wp2_with (fail)
  refine (Calls.mono (zrightN_c A c _ hc) ?_)
  rintro e W1 ⟨rfl, hb1⟩
  replace h := h.below hb1
  replace Ra := Ra.below hb1
  replace qa0 := cbl hb1 qa0
  replace qa1 := cbl hb1 qa1
  replace qa2 := cbl hb1 qa2
  replace HBT := Below.cons HBT hb1
  clear hb1
  go_wp2_with (fail)
  go_ret
  exact ⟨rfl, HBT⟩
theorem raw_right (sn : Bool) (l : List Nat) (hL : Lim l) (hl : l.length ≤ 20) (x : Int) : ∃ rb : Bool, ∀ (W : World) (X : Option Addr) (d : Nat), Rd W X l → l.length ≤ d → d ≤ maxLen →
    Calls Tryz.prog 7 #[.agg #[.bool sn, .slice X l.length d, .int .i64 x]] W (fun e w' => e = .returned (.bool rb) ∧ Below W.heap.size W w') ∧
    Calls Tryz.prog 8 #[.agg #[.bool sn, .slice X l.length d, .int .i64 x]] W (fun e w' => e = .returned (.bool rb) ∧ Below W.heap.size W w') := by
  have canon : (l = [] ∨ l.getD (l.length - 1) 0 ≠ 0) → sg (ival sn (val l)) = sn → ∃ rb : Bool, ∀ (W : World) (X : Option Addr) (d : Nat), Rd W X l → l.length ≤ d → d ≤ maxLen →
      Calls Tryz.prog 7 #[.agg #[.bool sn, .slice X l.length d, .int .i64 x]] W (fun e w' => e = .returned (.bool rb) ∧ Below W.heap.size W w') ∧
      Calls Tryz.prog 8 #[.agg #[.bool sn, .slice X l.length d, .int .i64 x]] W (fun e w' => e = .returned (.bool rb) ∧ Below W.heap.size W w') := by
    intro hc hs
    have hv := limbs_val hL hc
    have hn : nl (val l) = l.length := by unfold nl; rw [hv]
    obtain ⟨a, ha⟩ : ∃ a, a = ival sn (val l) := ⟨_, rfl⟩
    have hm : mg a = val l := by rw [ha]; exact mg_ival _ _
    have hs' : sg a = sn := by rw [ha]; exact hs
    refine ⟨rightD a x, fun W X d hR hd hd2 => ?_⟩
    have hN : NatV W X d (mg a) := ⟨by rw [hm, hv]; exact hR, by rw [hm, hn]; exact hd, hd2⟩
    have hb : nl (mg a) ≤ 65536 := by rw [hm, hn]; omega
    have h1 := dright_c X d a x W hN hb
    have h2 := tright_c X d a x W hN hb
    rw [hs', hm, hn] at h1 h2
    exact ⟨h1, h2⟩
  by_cases h0 : l = []
  · subst h0
    cases sn with
    | true => exact ⟨false, fun W X d hR hd hd2 => ⟨drightN_c X d x W hd2, trightN_c X d x W hd2⟩⟩
    | false => exact canon (.inl rfl) (sg_ival_f _)
  · obtain ⟨k, hk⟩ : ∃ k, l.length = k + 1 := ⟨l.length - 1, by have := List.length_pos_iff.2 h0; omega⟩
    by_cases hz : gl l k = 0
    · exact ⟨false, fun W X d hR hd hd2 => ⟨drightF_c sn X d k l x W hR hk hz (by omega), trightF_c sn X d k l x W hR hk hz (by omega)⟩⟩
    · have hg : l.getD (l.length - 1) 0 ≠ 0 := by rw [hk, Nat.add_sub_cancel]; exact hz
      refine canon (.inr hg) ?_
      cases sn with
      | false => exact sg_ival_f _
      | true =>
        rw [sg_ival_t]
        have hn : nl (val l) = l.length := by unfold nl; rw [limbs_val hL (.inr hg)]
        rw [hn]; simp; omega
theorem rd_keep {W W' : World} {k : Nat} {t : TypeId} {us : Array Value} (h : BoxA W k t us) (hu : ∀ u ∈ us.toList, NotU u) (hW : ∀ j, j ≠ k → W'.heap[j]? = W.heap[j]?) {A : Option Addr} {l : List Nat} (hR : Rd W A l) : Rd W' A l := by
  rcases hR with h1 | ⟨ad, rfl, h1⟩
  · exact .inl h1
  · refine .inr ⟨ad, rfl, fun i u hi => ?_⟩
    have h2 := h1 i u hi
    obtain ⟨hl, he⟩ := List.getElem?_eq_some_iff.1 hi
    have hil : i < l.length := by simpa [vals] using hl
    rw [vals_get _ i hil] at hi
    cases hi
    have hne : (ad.add i).block ≠ k := fun e => by
      unfold World.cell? at h2
      rw [e, h.at_] at h2
      simp only at h2
      split at h2
      · cases h2
      · have hm := Array.mem_of_getElem? h2
        exact hu _ (Array.mem_def.1 hm) _ rfl
    rw [World.cell?_of_block (w := W) (a := ad.add i) (hW _ hne)]
    exact h2
def PE (n0 : Nat) (u : Value) (W : World) : Prop := ∃ nb, u = .slice (some ⟨nb, 0, none⟩) 0 0 ∧ n0 ≤ nb ∧ W.heap[nb]? = some (.cells #[] 65 (0, 0))
def PA (l : List Nat) (X : Option Addr) (d : Nat) (W : World) : Prop := Rd W X l ∧ l.length ≤ d ∧ d ≤ maxLen
theorem PA.below {l : List Nat} {X : Option Addr} {d : Nat} {W W' : World} (h : PA l X d W) (hb : Below W.heap.size W W') : PA l X d W' := ⟨h.1.below hb, h.2⟩
theorem PE.below {n0 : Nat} {u : Value} {W W' : World} (h : PE n0 u W) (hb : Below W.heap.size W W') : PE n0 u W' := by
  obtain ⟨nb, h1, h2, h3⟩ := h; exact ⟨nb, h1, h2, heap_below hb h3⟩
theorem info_u32e : ∃ i, Tryz.prog.info? 65 = some i ∧ i.zero = some (.int .u32 0) ∧ i.size = 1 ∧ i.bytes = 4 := info_parts info_u32
theorem wp_append_e (w : World) {o : Oper} {a : Act} {K : Act → World → Prop} {Q : Exit → Act → World → Prop} (s x : Operand)
    (ho : o.op = .call { callee := .builtin .append, args := #[s, x], argTypes := #[22, 22] })
    (n0 : Nat) (u : Value) (hE : PE n0 u w) (hs : a.eval s = u) (A : Option Addr) (c : Nat) (l : List Nat) (hR : Rd w A l) (hA : A = none → l = []) (hl : l.length ≤ 20) (hx : a.eval x = .slice A l.length c) (hn0 : n0 ≤ w.heap.size)
    (h : ∀ X d w', PA l X d w' → (∀ k, k < w.heap.size → (∀ nb, u = .slice (some ⟨nb, 0, none⟩) 0 0 → k ≠ nb) → w'.heap[k]? = w.heap[k]?) → (∀ (W0 : World), Below n0 W0 w → Below n0 W0 w') → K (a.put o.dst (.slice X l.length d)) w') : o.wp Tryz.prog a w K Q := by
  obtain ⟨nb, rfl, h1, h2⟩ := hE
  obtain ⟨i, hi, hz0, hz1, hz2⟩ := info_u32e
  have hlt : nb < w.heap.size := (Array.getElem?_eq_some_iff.1 h2).1
  have hown : w.ownsRow n0 65 1 (.slice (some ⟨nb, 0, none⟩) 0 0) 0 [] := ⟨rfl, .inr ⟨nb, 0, #[], rfl, h1, h2, Nat.le_refl _, by decide, rfl, rfl⟩⟩
  cases A with
  | none =>
    have hl0 := hA rfl
    subst hl0
    have hr := run_append_none (P := Tryz.prog) (w := w) n0 22 o.type 65 i 1 Tryz.underlying22 hi _ 0 [] hown c
    unfold Oper.wp
    simp [execOp, ho, resolve, invoke, builtin, hs, hx, hr, Result.andThen]
    exact h (some ⟨nb, 0, none⟩) 0 w ⟨.inl rfl, Nat.le_refl _, by decide⟩ (fun k _ _ => rfl) (fun W0 hb => hb)
  | some ad =>
    obtain ⟨v', w', hr, h3, h4, h5, h6⟩ := run_append_own_at (P := Tryz.prog) w n0 22 o.type 65 i (.int .u32 0) 1 4 Tryz.underlying22 hi hz0 hz1 hz2 rfl (by decide) _ 0 [] hown ad l.length c (vals l) (by simp [vals]) hR.cells (vals_one l) (by simp only [maxLen]; omega) (by omega) hn0
    simp only [Nat.zero_add, List.nil_append] at h3
    obtain ⟨B, d, rfl, e1, e2, e3⟩ := ownV_rd h3
    unfold Oper.wp execOp
    simp only [ho, resolve, invoke, builtin, Sem.run_bind, Sem.run_pure, Result.andThen_ok, List.map_toArray, List.map_cons, List.map_nil, hs, hx, hr]
    refine h B d w' ⟨e3, e1, e2⟩ (fun k hk hne => h4.block k hk (fun e => hne nb rfl (by simpa [Value.ownBlock] using e))) (fun W0 hb => hb.grown h4 hn0 (fun k hk => by simp [Value.ownBlock] at hk; omega))
def RetDD (w : World) (x y : Rat) (e : Ending) (w' : World) : Prop := ∃ A c B d, e = .returned (.tuple #[.agg #[.bool (sg (dmn x)), .slice A (nl (mg (dmn x))) c, .int .i64 (dex x)], .agg #[.bool (sg (dmn y)), .slice B (nl (mg (dmn y))) d, .int .i64 (dex y)]]) ∧ NatV w' A c (mg (dmn x)) ∧ NatV w' B d (mg (dmn y)) ∧ Below w.heap.size w w'
theorem cell_other3 {W : World} {j i k : Nat} {v v0 v1 v2 : Value} (h : W.cell? ⟨j, i, none⟩ = some v) (hne : j ≠ k) : (((W.setCell ⟨k, 0, none⟩ v0).setCell ⟨k, 1, none⟩ v1).setCell ⟨k, 2, none⟩ v2).cell? ⟨j, i, none⟩ = some v := by
  unfold World.cell? at h ⊢
  rw [set3_far j hne]; exact h
theorem two_c (sa sb : Bool) (xa xb : Int) (A : Option Addr) (c : Nat) (l : List Nat) (B : Option Addr) (d : Nat) (k : List Nat) (w : World) (hl : Rd w A l) (hk : Rd w B k) (x y : Rat)
    (C1 : ∀ (W : World), Rd W A l → Calls Tryz.prog 55 #[.agg #[.bool sa, .slice A l.length c, .int .i64 xa], .int .i64 10] W (RetD W x)) (C2 : ∀ (W : World), Rd W B k → Calls Tryz.prog 55 #[.agg #[.bool sb, .slice B k.length d, .int .i64 xb], .int .i64 10] W (RetD W y)) :
    Calls Tryz.prog 9 #[.agg #[.bool sa, .slice A l.length c, .int .i64 xa], .agg #[.bool sb, .slice B k.length d, .int .i64 xb]] w (RetDD w x y) := by
  replace C1 := Lib.hid C1
  replace C2 := Lib.hid C2
  obtain ⟨hb1, Ra, Rb, Rr, Rs⟩ := bx4 w #[.bool sa, .slice A l.length c, .int .i64 xa] 26 #[.bool sb, .slice B k.length d, .int .i64 xb] 26 #[.bool false, .slice none 0 0, .int .i64 0] 26 #[.bool false, .slice none 0 0, .int .i64 0] 26
  replace hl := hl.below hb1
  replace hk := hk.below hb1
  have HBT := hb1
  clear hb1
  have qa0 := Ra.c (i := 0) rfl
  have qa1 := Ra.c (i := 1) rfl
  have qa2 := Ra.c (i := 2) rfl
  have qb0 := Rb.c (i := 0) rfl
  have qb1 := Rb.c (i := 1) rfl
  have qb2 := Rb.c (i := 2) rfl
  have qr0 := Rr.c (i := 0) rfl
  have qr1 := Rr.c (i := 1) rfl
  have qr2 := Rr.c (i := 2) rfl
  have qs0 := Rs.c (i := 0) rfl
  have qs1 := Rs.c (i := 1) rfl
  have qs2 := Rs.c (i := 2) rfl
  go_enter Tryz.func9, Tryz.ntmps9
  go_wp2_with (fail)
  clear qr0
  clear qr1
  clear qr2
  clear qs0
  clear qs1
  clear qs2
  have hd2 := drb (((((w.alloc (.cells #[.bool sa, .slice A l.length c, .int .i64 xa] 26)).alloc (.cells #[.bool sb, .slice B k.length d, .int .i64 xb] 26)).alloc (.cells #[.bool false, .slice none 0 0, .int .i64 0] 26)).alloc (.cells #[.bool false, .slice none 0 0, .int .i64 0] 26)))
  replace Ra := Ra.below hd2
  replace Rb := Rb.below hd2
  replace Rr := Rr.below hd2
  replace Rs := Rs.below hd2
  replace hl := hl.below hd2
  replace hk := hk.below hd2
  replace qa0 := cbl hd2 qa0
  replace qa1 := cbl hd2 qa1
  replace qa2 := cbl hd2 qa2
  replace qb0 := cbl hd2 qb0
  replace qb1 := cbl hd2 qb1
  replace qb2 := cbl hd2 qb2
  replace HBT := Below.cons HBT hd2
  clear hd2
  replace qa0 : (((((w.alloc (.cells #[.bool sa, .slice A l.length c, .int .i64 xa] 26)).alloc (.cells #[.bool sb, .slice B k.length d, .int .i64 xb] 26)).alloc (.cells #[.bool false, .slice none 0 0, .int .i64 0] 26)).alloc (.cells #[.bool false, .slice none 0 0, .int .i64 0] 26))).drew.cell? ⟨w.heap.size, 0, none⟩ = some (.bool sa) := qa0
  replace qa1 : (((((w.alloc (.cells #[.bool sa, .slice A l.length c, .int .i64 xa] 26)).alloc (.cells #[.bool sb, .slice B k.length d, .int .i64 xb] 26)).alloc (.cells #[.bool false, .slice none 0 0, .int .i64 0] 26)).alloc (.cells #[.bool false, .slice none 0 0, .int .i64 0] 26))).drew.cell? ⟨w.heap.size, 1, none⟩ = some (.slice A l.length c) := qa1
  replace qa2 : (((((w.alloc (.cells #[.bool sa, .slice A l.length c, .int .i64 xa] 26)).alloc (.cells #[.bool sb, .slice B k.length d, .int .i64 xb] 26)).alloc (.cells #[.bool false, .slice none 0 0, .int .i64 0] 26)).alloc (.cells #[.bool false, .slice none 0 0, .int .i64 0] 26))).drew.cell? ⟨w.heap.size, 2, none⟩ = some (.int .i64 xa) := qa2
  replace qb0 : (((((w.alloc (.cells #[.bool sa, .slice A l.length c, .int .i64 xa] 26)).alloc (.cells #[.bool sb, .slice B k.length d, .int .i64 xb] 26)).alloc (.cells #[.bool false, .slice none 0 0, .int .i64 0] 26)).alloc (.cells #[.bool false, .slice none 0 0, .int .i64 0] 26))).drew.cell? ⟨(w.heap.size + 1), 0, none⟩ = some (.bool sb) := qb0
  replace qb1 : (((((w.alloc (.cells #[.bool sa, .slice A l.length c, .int .i64 xa] 26)).alloc (.cells #[.bool sb, .slice B k.length d, .int .i64 xb] 26)).alloc (.cells #[.bool false, .slice none 0 0, .int .i64 0] 26)).alloc (.cells #[.bool false, .slice none 0 0, .int .i64 0] 26))).drew.cell? ⟨(w.heap.size + 1), 1, none⟩ = some (.slice B k.length d) := qb1
  replace qb2 : (((((w.alloc (.cells #[.bool sa, .slice A l.length c, .int .i64 xa] 26)).alloc (.cells #[.bool sb, .slice B k.length d, .int .i64 xb] 26)).alloc (.cells #[.bool false, .slice none 0 0, .int .i64 0] 26)).alloc (.cells #[.bool false, .slice none 0 0, .int .i64 0] 26))).drew.cell? ⟨(w.heap.size + 1), 2, none⟩ = some (.int .i64 xb) := qb2
  obtain ⟨zx, Ezx⟩ : ∃ zq : Rat, zq = x := ⟨_, rfl⟩
  have C2_0 := fun (W : World) (h : Rd W A l) => (show Calls Tryz.prog 55 #[.agg #[.bool sa, .slice A l.length c, .int .i64 xa], .int .i64 10] W (RetD W zx) by rw [Ezx]; exact C1.out W h)
  replace Ezx := Lib.hid Ezx
  replace C2_0 := Lib.hid C2_0
  obtain ⟨zy, Ezy⟩ : ∃ zq : Rat, zq = y := ⟨_, rfl⟩
  have C2_1 := fun (W : World) (h : Rd W B k) => (show Calls Tryz.prog 55 #[.agg #[.bool sb, .slice B k.length d, .int .i64 xb], .int .i64 10] W (RetD W zy) by rw [Ezy]; exact C2.out W h)
  replace Ezy := Lib.hid Ezy
  replace C2_1 := Lib.hid C2_1
  obtain ⟨S, hS⟩ : ∃ S : World → Prop, S = fun W => W.cell? ⟨w.heap.size, 0, none⟩ = some (.bool sa) ∧ W.cell? ⟨w.heap.size, 1, none⟩ = some (.slice A l.length c) ∧ W.cell? ⟨w.heap.size, 2, none⟩ = some (.int .i64 xa) ∧ W.cell? ⟨(w.heap.size + 1), 0, none⟩ = some (.bool sb) ∧ W.cell? ⟨(w.heap.size + 1), 1, none⟩ = some (.slice B k.length d) ∧ W.cell? ⟨(w.heap.size + 1), 2, none⟩ = some (.int .i64 xb) := ⟨_, rfl⟩
  have HSq : S (((((w.alloc (.cells #[.bool sa, .slice A l.length c, .int .i64 xa] 26)).alloc (.cells #[.bool sb, .slice B k.length d, .int .i64 xb] 26)).alloc (.cells #[.bool false, .slice none 0 0, .int .i64 0] 26)).alloc (.cells #[.bool false, .slice none 0 0, .int .i64 0] 26))).drew := by rw [hS]; exact ⟨qa0, qa1, qa2, qb0, qb1, qb2⟩
  have hSb : ∀ W W' : World, Below W.heap.size W W' → S W → S W' := by rw [hS]; exact fun W W' hb h => ⟨cell_below hb h.1, cell_below hb h.2.1, cell_below hb h.2.2.1, cell_below hb h.2.2.2.1, cell_below hb h.2.2.2.2.1, cell_below hb h.2.2.2.2.2⟩
  replace hSb := Lib.hid hSb
  replace hS := Lib.hid hS
  refine wp_region_seq S [(0, true), (2, true), (1, false), (3, false), (4, false), (5, false)] (by kernel_rfl) (by kernel_rfl) (by kernel_rfl) HSq (fun hSq => ?_)
  clear hSq
  replace HSq := Lib.hid HSq
  clear qa0 qa1 qa2 qb0 qb1 qb2
  refine SeqP.take (v := ?_) rfl (fun _ _ _ h => h) (Or.inl ⟨by rfl, ?_⟩) ?_
  rotate_left 1
  · intro wq hSw; rw [hS.out] at hSw; (try dsimp only at hSw); go_simp; try with_reducible rfl
  try simp only [Act.put, List.setIfInBounds_toArray, List.set_cons_zero, List.set_cons_succ]
  refine SeqP.take (v := ?_) rfl (fun _ _ _ h => h) (Or.inl ⟨by rfl, ?_⟩) ?_
  rotate_left 1
  · intro wq hSw; rw [hS.out] at hSw; (try dsimp only at hSw); go_simp; try with_reducible rfl
  try simp only [Act.put, List.setIfInBounds_toArray, List.set_cons_zero, List.set_cons_succ]
  refine SeqP.call rfl (by rfl) (fun Kq hKq => ?_)
  go_simp
  go_at_call 55
  with_reducible refine (C2_0.out _ hl).mono ?_
  rintro e W3 ⟨Xzx, czx, rfl, hzx, hb3⟩
  replace Ra := Ra.below hb3
  replace Rb := Rb.below hb3
  replace Rr := Rr.below hb3
  replace Rs := Rs.below hb3
  replace hk := hk.below hb3
  replace HBT := Below.cons HBT hb3
  replace HSq := Lib.hid (hSb.out _ _ hb3 HSq.out)
  clear hb3
  refine hKq.out _ _ HSq.out (fun hSq => ?_)
  clear hSq hKq Kq
  try simp only [Act.put, List.setIfInBounds_toArray, List.set_cons_zero, List.set_cons_succ]
  refine SeqP.call rfl (by rfl) (fun Kq hKq => ?_)
  go_simp
  go_at_call 55
  with_reducible refine (C2_1.out _ hk).mono ?_
  rintro e W4 ⟨Xzy, czy, rfl, hzy, hb4⟩
  replace Ra := Ra.below hb4
  replace Rb := Rb.below hb4
  replace Rr := Rr.below hb4
  replace Rs := Rs.below hb4
  replace hzx := hzx.below hb4
  replace HBT := Below.cons HBT hb4
  replace HSq := Lib.hid (hSb.out _ _ hb4 HSq.out)
  clear hb4
  refine hKq.out _ _ HSq.out (fun hSq => ?_)
  clear hSq hKq Kq
  try simp only [Act.put, List.setIfInBounds_toArray, List.set_cons_zero, List.set_cons_succ]
  have HSx := HSq.out
  rw [hS.out] at HSx
  obtain ⟨zx0, zx1, zx2, zx3, zx4, zx5⟩ := HSx
  have fz0_1 := Rr.f (i := 0)
  have cz0_1 := Rr.c (i := 0) rfl
  have fz1_1 := Rr.f (i := 1)
  have cz1_1 := Rr.c (i := 1) rfl
  have fz2_1 := Rr.f (i := 2)
  have cz2_1 := Rr.c (i := 2) rfl
  have fr0_5 := Rr.f (i := 0)
  have fr1_5 := Rr.f (i := 1)
  have fr2_5 := Rr.f (i := 2)
  have Ra_5 : BoxA (((W4.setCell ⟨(w.heap.size + 1 + 1), 0, none⟩ (.bool (sg (dmn zx)))).setCell ⟨(w.heap.size + 1 + 1), 1, none⟩ (.slice Xzx (nl (mg (dmn zx))) czx)).setCell ⟨(w.heap.size + 1 + 1), 2, none⟩ (.int .i64 (dex zx))) _ _ _ := Ra.other3 (by simp <;> omega)
  have Rb_5 : BoxA (((W4.setCell ⟨(w.heap.size + 1 + 1), 0, none⟩ (.bool (sg (dmn zx)))).setCell ⟨(w.heap.size + 1 + 1), 1, none⟩ (.slice Xzx (nl (mg (dmn zx))) czx)).setCell ⟨(w.heap.size + 1 + 1), 2, none⟩ (.int .i64 (dex zx))) _ _ _ := Rb.other3 (by simp <;> omega)
  have Rr_5 := Rr.store3 (.bool (sg (dmn zx))) (.slice Xzx (nl (mg (dmn zx))) czx) (.int .i64 (dex zx))
  have Rs_5 : BoxA (((W4.setCell ⟨(w.heap.size + 1 + 1), 0, none⟩ (.bool (sg (dmn zx)))).setCell ⟨(w.heap.size + 1 + 1), 1, none⟩ (.slice Xzx (nl (mg (dmn zx))) czx)).setCell ⟨(w.heap.size + 1 + 1), 2, none⟩ (.int .i64 (dex zx))) _ _ _ := Rs.other3 (by simp <;> omega)
  have hzx_5 := Rr.keep3 (v0 := .bool (sg (dmn zx))) (v1 := .slice Xzx (nl (mg (dmn zx))) czx) (v2 := .int .i64 (dex zx)) (nuB rfl) hzx
  have hzy_5 := Rr.keep3 (v0 := .bool (sg (dmn zx))) (v1 := .slice Xzx (nl (mg (dmn zx))) czx) (v2 := .int .i64 (dex zx)) (nuB rfl) hzy
  have HBT_5 := Below.store3 (v0 := .bool (sg (dmn zx))) (v1 := .slice Xzx (nl (mg (dmn zx))) czx) (v2 := .int .i64 (dex zx)) HBT (k := (w.heap.size + 1 + 1)) (by first | exact Nat.le_refl _ | omega)
  refine SeqP.call rfl (by rfl) (fun Kq hKq => ?_)
  go_simp
  replace HSq := Lib.hid (show S (((W4.setCell ⟨(w.heap.size + 1 + 1), 0, none⟩ (.bool (sg (dmn zx)))).setCell ⟨(w.heap.size + 1 + 1), 1, none⟩ (.slice Xzx (nl (mg (dmn zx))) czx)).setCell ⟨(w.heap.size + 1 + 1), 2, none⟩ (.int .i64 (dex zx))) by rw [hS.out]; exact ⟨cell_other3 zx0 (by omega), cell_other3 zx1 (by omega), cell_other3 zx2 (by omega), cell_other3 zx3 (by omega), cell_other3 zx4 (by omega), cell_other3 zx5 (by omega)⟩)
  refine hKq.out _ _ HSq.out (fun hSq => ?_)
  clear hSq hKq Kq
  clear zx0 zx1 zx2 zx3 zx4 zx5
  try simp only [Act.put, List.setIfInBounds_toArray, List.set_cons_zero, List.set_cons_succ]
  have HSx := HSq.out
  rw [hS.out] at HSx
  obtain ⟨zx0, zx1, zx2, zx3, zx4, zx5⟩ := HSx
  have fz0_2 := Rs_5.f (i := 0)
  have cz0_2 := Rs_5.c (i := 0) rfl
  have fz1_2 := Rs_5.f (i := 1)
  have cz1_2 := Rs_5.c (i := 1) rfl
  have fz2_2 := Rs_5.f (i := 2)
  have cz2_2 := Rs_5.c (i := 2) rfl
  have fs0_6 := Rs_5.f (i := 0)
  have fs1_6 := Rs_5.f (i := 1)
  have fs2_6 := Rs_5.f (i := 2)
  have Ra_6 : BoxA ((((((W4.setCell ⟨(w.heap.size + 1 + 1), 0, none⟩ (.bool (sg (dmn zx)))).setCell ⟨(w.heap.size + 1 + 1), 1, none⟩ (.slice Xzx (nl (mg (dmn zx))) czx)).setCell ⟨(w.heap.size + 1 + 1), 2, none⟩ (.int .i64 (dex zx))).setCell ⟨(w.heap.size + 1 + 1 + 1), 0, none⟩ (.bool (sg (dmn zy)))).setCell ⟨(w.heap.size + 1 + 1 + 1), 1, none⟩ (.slice Xzy (nl (mg (dmn zy))) czy)).setCell ⟨(w.heap.size + 1 + 1 + 1), 2, none⟩ (.int .i64 (dex zy))) _ _ _ := Ra_5.other3 (by simp <;> omega)
  have Rb_6 : BoxA ((((((W4.setCell ⟨(w.heap.size + 1 + 1), 0, none⟩ (.bool (sg (dmn zx)))).setCell ⟨(w.heap.size + 1 + 1), 1, none⟩ (.slice Xzx (nl (mg (dmn zx))) czx)).setCell ⟨(w.heap.size + 1 + 1), 2, none⟩ (.int .i64 (dex zx))).setCell ⟨(w.heap.size + 1 + 1 + 1), 0, none⟩ (.bool (sg (dmn zy)))).setCell ⟨(w.heap.size + 1 + 1 + 1), 1, none⟩ (.slice Xzy (nl (mg (dmn zy))) czy)).setCell ⟨(w.heap.size + 1 + 1 + 1), 2, none⟩ (.int .i64 (dex zy))) _ _ _ := Rb_5.other3 (by simp <;> omega)
  have Rr_6 : BoxA ((((((W4.setCell ⟨(w.heap.size + 1 + 1), 0, none⟩ (.bool (sg (dmn zx)))).setCell ⟨(w.heap.size + 1 + 1), 1, none⟩ (.slice Xzx (nl (mg (dmn zx))) czx)).setCell ⟨(w.heap.size + 1 + 1), 2, none⟩ (.int .i64 (dex zx))).setCell ⟨(w.heap.size + 1 + 1 + 1), 0, none⟩ (.bool (sg (dmn zy)))).setCell ⟨(w.heap.size + 1 + 1 + 1), 1, none⟩ (.slice Xzy (nl (mg (dmn zy))) czy)).setCell ⟨(w.heap.size + 1 + 1 + 1), 2, none⟩ (.int .i64 (dex zy))) _ _ _ := Rr_5.other3 (by simp <;> omega)
  have Rs_6 := Rs_5.store3 (.bool (sg (dmn zy))) (.slice Xzy (nl (mg (dmn zy))) czy) (.int .i64 (dex zy))
  have hzx_6 := Rs_5.keep3 (v0 := .bool (sg (dmn zy))) (v1 := .slice Xzy (nl (mg (dmn zy))) czy) (v2 := .int .i64 (dex zy)) (nuB rfl) hzx_5
  have hzy_6 := Rs_5.keep3 (v0 := .bool (sg (dmn zy))) (v1 := .slice Xzy (nl (mg (dmn zy))) czy) (v2 := .int .i64 (dex zy)) (nuB rfl) hzy_5
  have HBT_6 := Below.store3 (v0 := .bool (sg (dmn zy))) (v1 := .slice Xzy (nl (mg (dmn zy))) czy) (v2 := .int .i64 (dex zy)) HBT_5 (k := (w.heap.size + 1 + 1 + 1)) (by first | exact Nat.le_refl _ | omega)
  refine SeqP.call rfl (by rfl) (fun Kq hKq => ?_)
  go_simp
  replace HSq := Lib.hid (show S ((((((W4.setCell ⟨(w.heap.size + 1 + 1), 0, none⟩ (.bool (sg (dmn zx)))).setCell ⟨(w.heap.size + 1 + 1), 1, none⟩ (.slice Xzx (nl (mg (dmn zx))) czx)).setCell ⟨(w.heap.size + 1 + 1), 2, none⟩ (.int .i64 (dex zx))).setCell ⟨(w.heap.size + 1 + 1 + 1), 0, none⟩ (.bool (sg (dmn zy)))).setCell ⟨(w.heap.size + 1 + 1 + 1), 1, none⟩ (.slice Xzy (nl (mg (dmn zy))) czy)).setCell ⟨(w.heap.size + 1 + 1 + 1), 2, none⟩ (.int .i64 (dex zy))) by rw [hS.out]; exact ⟨cell_other3 zx0 (by omega), cell_other3 zx1 (by omega), cell_other3 zx2 (by omega), cell_other3 zx3 (by omega), cell_other3 zx4 (by omega), cell_other3 zx5 (by omega)⟩)
  refine hKq.out _ _ HSq.out (fun hSq => ?_)
  clear hSq hKq Kq
  clear zx0 zx1 zx2 zx3 zx4 zx5
  try simp only [Act.put, List.setIfInBounds_toArray, List.set_cons_zero, List.set_cons_succ]
  refine SeqP.done ?_
  clear hSb
  clear HSq
  go_wp2_with (fail)
  have e0 := Rr_6.c (i := 0) rfl
  have g0 := Rs_6.c (i := 0) rfl
  have e1 := Rr_6.c (i := 1) rfl
  have g1 := Rs_6.c (i := 1) rfl
  have e2 := Rr_6.c (i := 2) rfl
  have g2 := Rs_6.c (i := 2) rfl
  refine bodyPost_ret (v := .tuple #[.agg #[.bool (sg (dmn zx)), .slice Xzx (nl (mg (dmn zx))) czx, .int .i64 (dex zx)], .agg #[.bool (sg (dmn zy)), .slice Xzy (nl (mg (dmn zy))) czy, .int .i64 (dex zy)]]) (by simp [results, Tryz.results9, go_sem, e0, e1, e2, g0, g1, g2]) rfl ?_
  have hx := hzx_6
  have hy := hzy_6
  have hB := HBT_6
  have e1 := Ezx.out
  have e2 := Ezy.out
  clear Ezx Ezy C2_0 C2_1 hS
  subst e1
  subst e2
  exact ⟨Xzx, czx, Xzy, czy, rfl, hx, hy, hB⟩
end Go.Proofs.YthcmoimlnhghcaaGreatDoor
