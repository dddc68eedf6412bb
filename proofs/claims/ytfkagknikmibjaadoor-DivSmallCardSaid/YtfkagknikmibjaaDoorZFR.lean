/- What an input gives a walk: rows of limbs out of slices, pairs of limbs; the package's variable as it was laid. -/
import Derived.Test.YtfkagknikmibjaaDoorRows
import Derived.Test.YtfkagknikmibjaaDoorZF1
import Derived.ProofKit
import Derived.LaidMore
import Derived.OpenShut
import Derived.Stop.Joined
import Derived.Deep.Slices
import Derived.Below
import Derived.Carry
set_option maxRecDepth 100000
set_option linter.unusedVariables false
set_option linter.unusedSimpArgs false
namespace Go.Proofs.YtfkagknikmibjaaDoor
open Go.RowKit Go.ChangeShapes Go.WideShapes Go.ChangeAt

theorem row_own : ownKnob Tryd.prog.godebug = none := by kernel_rfl
theorem row_out : laidOutB Tryd.prog = true := by kernel_rfl
theorem row_glob : Tryd.prog.globalNamed "ziggurat/ntt.fields" = some 1 := by kernel_rfl
theorem row_globT : (Tryd.prog.globals[1]?).map (·.type) = some 95 := by kernel_rfl
theorem row_cells32 : Tryd.prog.cellsOf 23 = 1 := by kernel_rfl

section
variable {H : Type} {enc : TypeId × Value → H} {W : World} {base : Nat} {sp : Nat → Bool} {held : Bool}

/-- What the laws' walks ask of a slice of limbs. -/
def IsL (W : World) (A : Option Addr) (c : Nat) (l : List Nat) : Prop := Rd W A l ∧ Lim l ∧ l.length ≤ maxLen ∧ l.length ≤ c ∧ (A = none → c = 0)
theorem open_nat {fuel : Nat} {cs : List Value} {x : DataW H × List MemPlace} (h : DataW.trod enc Tryd.prog W base sp held fuel 22 cs = some x) :
    ∃ A c l, cs = [.slice A l.length c] ∧ IsL W A c l := by
  rcases open_ints Tryd.underlying22 Tryd.underlying23 row_cells32 h with ⟨rfl, _⟩ | ⟨a, len, cap, zs, rfl, _, hl, hm, hz, _, hcell, hwf⟩
  · exact ⟨none, 0, [], rfl, Rd.nil, Lim.nil, by decide, Nat.le_refl _, fun _ => rfl⟩
  · have hlz : len ≤ zs.length := by rw [hz]; split <;> omega
    have hlen : ((zs.take len).map Int.toNat).length = len := by rw [List.length_map, List.length_take]; omega
    refine ⟨some a, cap, (zs.take len).map Int.toNat, by rw [hlen], ?_, ?_, by rw [hlen]; omega, by rw [hlen]; exact hl, fun e => by cases e⟩
    · refine .inr ⟨a, rfl, fun i u hu => ?_⟩
      have hi : i < len := by
        have := (List.getElem?_eq_some_iff.1 hu).1
        rw [vals_length, hlen] at this; exact this
      have hi2 : i < zs.length := by omega
      rw [hcell i hi2]
      have h0 := bounds_u32 (hwf _ (List.getElem_mem hi2))
      simp only [vals, List.map_map, List.getElem?_map, List.getElem?_take_of_lt hi, List.getElem?_eq_getElem hi2, Option.map_some] at hu
      rw [← Option.some.inj hu]
      simp only [Function.comp, List.getD_eq_getElem?_getD, List.getElem?_eq_getElem hi2, Option.getD_some]
      rw [Int.toNat_of_nonneg h0.1]
    · intro y hy
      obtain ⟨z, hz2, rfl⟩ := List.mem_map.1 hy
      have := bounds_u32 (hwf _ (List.mem_of_mem_take hz2))
      omega

theorem open_natv {r : Reach} {b0 : Nat} {v : Value} {d : DataW H} {ps : List MemPlace} (hv : Value.okWide Tryd.prog W r b0 22 v) (h : DataW.Trod enc Tryd.prog W base sp held 22 v d ps) :
    ∃ A c l, v = .slice A l.length c ∧ IsL W A c l := by
  obtain ⟨a, len, cap, rfl⟩ := okWide_slice Tryd.underlying22 hv
  obtain ⟨fuel, hf⟩ := h
  obtain ⟨A, c, l, e, i⟩ := open_nat hf
  simp only [Value.cells, List.cons.injEq, and_true] at e
  exact ⟨A, c, l, e, i⟩
theorem open_pair {r : Reach} {b0 : Nat} {v : Value} {d : DataW H} {ps : List MemPlace} (hv : Value.okWide Tryd.prog W r b0 24 v) (h : DataW.Trod enc Tryd.prog W base sp held 24 v d ps) :
    ∃ x y : Nat, v = .agg #[.int .u32 (x : Nat), .int .u32 (y : Nat)] ∧ x < 4294967296 ∧ y < 4294967296 := by
  simp only [Value.okWide, Tryd.underlying24] at hv
  obtain ⟨cs, rfl, hcs, _⟩ := hv
  obtain ⟨fuel, hf⟩ := h
  obtain ⟨xs, n, _, _, hl, hx, he⟩ := DataW.trod_array Tryd.underlying24 hf
  have h2 : Tryd.prog.cellsOf 24 = 2 := by kernel_rfl
  rw [h2] at hcs
  obtain ⟨cl⟩ := cs
  match cl, hcs with
  | [c0, c1], _ =>
    have e0 := he 0 (by decide)
    have e1 := he 1 (by decide)
    rw [row_cells32] at e0 e1
    match xs, hx with
    | [x0, x1], _ =>
      obtain ⟨z0, k0, _, w0⟩ := DataW.trod_int Tryd.underlying23 (show DataW.trod enc Tryd.prog W base sp held n 23 [c0] = some x0 from e0)
      obtain ⟨z1, k1, _, w1⟩ := DataW.trod_int Tryd.underlying23 (show DataW.trod enc Tryd.prog W base sp held n 23 [c1] = some x1 from e1)
      simp only [List.cons.injEq, and_true] at k0 k1
      subst k0 k1
      have b0 := bounds_u32 w0
      have b1 := bounds_u32 w1
      obtain ⟨n0, rfl⟩ := Int.eq_ofNat_of_zero_le b0.1
      obtain ⟨n1, rfl⟩ := Int.eq_ofNat_of_zero_le b1.1
      exact ⟨n0, n1, rfl, by omega, by omega⟩
end

/-- The package's variable, as it was laid, gives the cells that the walks read. -/
theorem flds_of_laid {W : World} (h : laidMetH Tryd.prog [("ziggurat/ntt.fields", Rows.laid_ziggurat_ntt_fields)] W) : Flds W := by
  rw [MakeChecks.laidMetH_plain _ _ _ (by kernel_rfl)] at h
  obtain ⟨ps, ⟨g0, t0, cs0, f0, p0, q0, hg0, ht0, hv0, hd0, _, _⟩, _, _⟩ := h
  obtain rfl := Option.some.inj (row_glob.symm.trans hg0)
  obtain rfl := Option.some.inj (row_globT.symm.trans ht0)
  obtain ⟨xs, n, _, hx, hl, hxs, he⟩ := DataW.trod_array Tryd.underlying95 hd0
  have h3 : Tryd.prog.cellsOf 95 = 3 := by kernel_rfl
  have h1 : Tryd.prog.cellsOf 94 = 1 := by kernel_rfl
  have h0 : Tryd.prog.cellsOf 51 = 1 := by kernel_rfl
  have cell := fun i => World.var?_cell hg0 hv0 i
  obtain ⟨cl⟩ := cs0
  have hl' : cl.length = 3 := by rw [← h3]; exact hl
  match cl, hl' with
  | [c0, c1, c2], _ =>
    match xs, hxs with
    | [x0, x1, x2], _ =>
      have e0 := he 0 (by decide)
      have e1 := he 1 (by decide)
      have e2 := he 2 (by decide)
      rw [h1] at e0 e1 e2
      have one : ∀ (c : Value) (x : DataW Unit × List MemPlace) (z : Int), DataW.trod (fun _ => ()) Tryd.prog W 0 (fun _ => true) false n 94 [c] = some x → x.1 = .agg [.lit (.int .u64 z)] → c = .int .u64 z := by
        intro c x z hc hz
        obtain ⟨ys, n2, _, hy, _, hys, hey⟩ := DataW.trod_struct Tryd.underlying94 hc
        have e : DataW.trod (fun _ => ()) Tryd.prog W 0 (fun _ => true) false n2 51 (([c].drop 0).take (Tryd.prog.cellsOf 51)) = ys[0]? := hey 0 _ rfl
        rw [h0] at e
        match ys, hys with
        | [y], _ =>
          obtain ⟨z', hz1, hz2, _⟩ := DataW.trod_int Tryd.underlying51 (show DataW.trod (fun _ => ()) Tryd.prog W 0 (fun _ => true) false n2 51 [c] = some y from e)
          simp only [List.cons.injEq, and_true] at hz1
          rw [hy, hz2] at hz
          simp at hz
          rw [hz1, hz]
      simp only [Rows.laid_ziggurat_ntt_fields, Prod.mk.injEq, DataW.agg.injEq, List.map_cons, List.map_nil, List.cons.injEq, and_true] at hx
      obtain ⟨⟨hx0, hx1, hx2⟩, _⟩ := hx
      have k0 := one c0 x0 _ e0 hx0.symm
      have k1 := one c1 x1 _ e1 hx1.symm
      have k2 := one c2 x2 _ e2 hx2.symm
      subst k0 k1 k2
      exact ⟨cell 0, cell 1, cell 2⟩
/-- The door's own heap meets the condition: closed facts. -/
theorem door_met (os : Os) (args : Array Value) : laidMetH Tryd.prog [("ziggurat/ntt.fields", Rows.laid_ziggurat_ntt_fields)] ((World.doorLaid Tryd.prog 400 os).forCall (fun _ _ => 0) ⟨#[], args, []⟩).memory :=
  laidMetH_of_parts3 (fuel := 8) (laidMet_of_run' 8 (by kernel_rfl) (by kernel_rfl)) (by kernel_rfl) (by kernel_rfl)
end Go.Proofs.YtfkagknikmibjaaDoor
