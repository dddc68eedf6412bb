/- What an input gives a walk: rows of limbs out of slices, of arrays of slices, of slices of arrays; the package's variable as it was laid. -/
import Derived.Test.YtmcekbmmpdpbmaaDoorRows
import Derived.Test.YtmcekbmmpdpbmaaDoorLaw3
import Derived.ProofKit
import Derived.LaidMore
import Derived.OpenShut
import Derived.Stop.Joined
import Derived.Deep.Slices
import Derived.Below
import Derived.Carry
set_option linter.unusedVariables false
set_option linter.unusedSimpArgs false
namespace Go.Proofs.YtmcekbmmpdpbmaaDoor
open Go.RowKit Go.ChangeShapes Go.WideShapes Go.ChangeAt

theorem row_own : ownKnob Tryd.prog.godebug = none := by kernel_rfl
theorem row_out : laidOutB Tryd.prog = true := by kernel_rfl
theorem row_glob : Tryd.prog.globalNamed "ziggurat/ntt.fields" = some 0 := by kernel_rfl
theorem row_globT : (Tryd.prog.globals[0]?).map (·.type) = some 67 := by kernel_rfl
theorem row_cells32 : Tryd.prog.cellsOf 35 = 1 := by kernel_rfl
theorem row_cellsS : Tryd.prog.cellsOf 22 = 1 := by kernel_rfl
theorem row_cellsR : Tryd.prog.cellsOf 50 = 3 := by kernel_rfl

section
variable {H : Type} {enc : TypeId × Value → H} {W : World} {base : Nat} {sp : Nat → Bool} {held : Bool}

/-- What the laws' walks ask of a slice of limbs. -/
def IsL (W : World) (A : Option Addr) (c : Nat) (l : List Nat) : Prop := Rd W A l ∧ Lim l ∧ l.length ≤ maxLen ∧ l.length ≤ c ∧ (A = none → c = 0)
theorem open_nat {fuel : Nat} {cs : List Value} {x : DataW H × List MemPlace} (h : DataW.trod enc Tryd.prog W base sp held fuel 22 cs = some x) :
    ∃ A c l, cs = [.slice A l.length c] ∧ IsL W A c l := by
  rcases open_ints Tryd.underlying22 Tryd.underlying35 row_cells32 h with ⟨rfl, _⟩ | ⟨a, len, cap, zs, rfl, _, hl, hm, hz, _, hcell, hwf⟩
  · exact ⟨none, 0, [], rfl, Rd.nil, Lim.nil, by decide, Nat.le_refl _, fun _ => rfl⟩
  · have hlz : len ≤ zs.length := by rw [hz]; split <;> omega
    have hlen : ((zs.take len).map Int.toNat).length = len := by rw [List.length_map, List.length_take]; omega
    refine ⟨some a, cap, (zs.take len).map Int.toNat, by rw [hlen], ?_, ?_, by rw [hlen]; omega, by rw [hlen]; exact hl, fun e => by cases e⟩
    · refine .inr ⟨a, rfl, fun i u hu => ?_⟩
      have hi : i < len := by
        have := (List.getElem?_eq_some_iff.1 hu).1
        rw [vals_length, hlen] at this; exact this
      have hi2 : i < zs.length := by omega
      rw [hcell i hi2]
      have h0 := bounds_u32 (hwf _ (List.getElem_mem hi2))
      simp only [vals, List.map_map, List.getElem?_map, List.getElem?_take_of_lt hi, List.getElem?_eq_getElem hi2, Option.map_some] at hu
      rw [← Option.some.inj hu]
      simp only [Function.comp, List.getD_eq_getElem?_getD, List.getElem?_eq_getElem hi2, Option.getD_some]
      rw [Int.toNat_of_nonneg h0.1]
    · intro y hy
      obtain ⟨z, hz2, rfl⟩ := List.mem_map.1 hy
      have := bounds_u32 (hwf _ (List.mem_of_mem_take hz2))
      omega

theorem open_natv {r : Reach} {b0 : Nat} {v : Value} {d : DataW H} {ps : List MemPlace} (hv : Value.okWide Tryd.prog W r b0 22 v) (h : DataW.Trod enc Tryd.prog W base sp held 22 v d ps) :
    ∃ A c l, v = .slice A l.length c ∧ IsL W A c l := by
  obtain ⟨a, len, cap, rfl⟩ := okWide_slice Tryd.underlying22 hv
  obtain ⟨fuel, hf⟩ := h
  obtain ⟨A, c, l, e, i⟩ := open_nat hf
  simp only [Value.cells, List.cons.injEq, and_true] at e
  exact ⟨A, c, l, e, i⟩
theorem open_two {r : Reach} {b0 : Nat} {v : Value} {d : DataW H} {ps : List MemPlace} (hv : Value.okWide Tryd.prog W r b0 34 v) (h : DataW.Trod enc Tryd.prog W base sp held 34 v d ps) :
    ∃ A c l B d m, v = .agg #[.slice A l.length c, .slice B m.length d] ∧ IsL W A c l ∧ IsL W B d m := by
  simp only [Value.okWide, Tryd.underlying34] at hv
  obtain ⟨cs, rfl, hcs, _⟩ := hv
  obtain ⟨fuel, hf⟩ := h
  obtain ⟨xs, n, _, _, hl, hx, he⟩ := DataW.trod_array Tryd.underlying34 hf
  have h2 : Tryd.prog.cellsOf 34 = 2 := by kernel_rfl
  rw [h2] at hcs
  obtain ⟨cl⟩ := cs
  match cl, hcs with
  | [c0, c1], _ =>
    have e0 := he 0 (by decide)
    have e1 := he 1 (by decide)
    rw [row_cellsS] at e0 e1
    match xs, hx with
    | [x0, x1], _ =>
      obtain ⟨A, c, l, k0, i0⟩ := open_nat (show DataW.trod enc Tryd.prog W base sp held n 22 [c0] = some x0 from e0)
      obtain ⟨B, d, m, k1, i1⟩ := open_nat (show DataW.trod enc Tryd.prog W base sp held n 22 [c1] = some x1 from e1)
      simp only [List.cons.injEq, and_true] at k0 k1
      subst k0 k1
      exact ⟨A, c, l, B, d, m, rfl, i0, i1⟩
theorem open_three {r : Reach} {b0 : Nat} {v : Value} {d : DataW H} {ps : List MemPlace} (hv : Value.okWide Tryd.prog W r b0 31 v) (h : DataW.Trod enc Tryd.prog W base sp held 31 v d ps) :
    ∃ A c l B d m D f k, v = .agg #[.slice A l.length c, .slice B m.length d, .slice D k.length f] ∧ IsL W A c l ∧ IsL W B d m ∧ IsL W D f k := by
  simp only [Value.okWide, Tryd.underlying31] at hv
  obtain ⟨cs, rfl, hcs, _⟩ := hv
  obtain ⟨fuel, hf⟩ := h
  obtain ⟨xs, n, _, _, hl, hx, he⟩ := DataW.trod_array Tryd.underlying31 hf
  have h2 : Tryd.prog.cellsOf 31 = 3 := by kernel_rfl
  rw [h2] at hcs
  obtain ⟨cl⟩ := cs
  match cl, hcs with
  | [c0, c1, c2], _ =>
    have e0 := he 0 (by decide)
    have e1 := he 1 (by decide)
    have e2 := he 2 (by decide)
    rw [row_cellsS] at e0 e1 e2
    match xs, hx with
    | [x0, x1, x2], _ =>
      obtain ⟨A, c, l, k0, i0⟩ := open_nat (show DataW.trod enc Tryd.prog W base sp held n 22 [c0] = some x0 from e0)
      obtain ⟨B, d, m, k1, i1⟩ := open_nat (show DataW.trod enc Tryd.prog W base sp held n 22 [c1] = some x1 from e1)
      obtain ⟨D, f, k, k2, i2⟩ := open_nat (show DataW.trod enc Tryd.prog W base sp held n 22 [c2] = some x2 from e2)
      simp only [List.cons.injEq, and_true] at k0 k1 k2
      subst k0 k1 k2
      exact ⟨A, c, l, B, d, m, D, f, k, rfl, i0, i1, i2⟩

/-- What the laws' walks ask of a slice of rows of three limbs. -/
def IsR (W : World) (A : Option Addr) (n c : Nat) (L : List Nat) : Prop := Rd W A L ∧ Lim L ∧ L.length = 3 * n ∧ n ≤ c
theorem open_rows {fuel : Nat} {cs : List Value} {x : DataW H × List MemPlace} (h : DataW.trod enc Tryd.prog W base sp held fuel 27 cs = some x) :
    ∃ A n c L, cs = [.slice A n c] ∧ IsR W A n c L := by
  rcases Go.Deep.open_slice Tryd.underlying27 h with ⟨rfl, _⟩ | ⟨a, len, cap, m, n, D, Pl, rfl, _, hl, hm, hmm, _, he⟩
  · exact ⟨none, 0, 0, [], rfl, Rd.nil, Lim.nil, rfl, Nat.le_refl _⟩
  · have hlm : len ≤ m := by rw [hmm]; split <;> omega
    have key : ∀ k, k < 3 * len → ∃ z : Nat, W.cell? (a.add k) = some (.int .u32 (z : Nat)) ∧ z < 4294967296 := by
      intro k hk
      obtain ⟨cs', hc, ht⟩ := he (k / 3) (by omega)
      rw [row_cellsR] at hc
      obtain ⟨_, hcl, hci⟩ := World.cells?_some hc
      obtain ⟨xs, n', _, _, _, hxs, hel⟩ := DataW.trod_array Tryd.underlying50 ht
      have e := hel (k % 3) (Nat.mod_lt _ (by decide))
      rw [row_cells32, Nat.mul_one] at e
      have hk3 : k % 3 < 3 := Nat.mod_lt _ (by decide)
      have e1 := hci (k % 3) hk3
      rw [Addr.add_add, show k / 3 * 3 + k % 3 = k by omega] at e1
      rw [e1]
      have hlt : k % 3 < cs'.length := by omega
      rw [List.getElem?_eq_getElem (by omega : k % 3 < xs.length)] at e
      have e2 : (cs'.drop (k % 3)).take 1 = [cs'[k % 3]] := by
        rw [List.drop_eq_getElem_cons hlt]; rfl
      rw [e2] at e
      obtain ⟨z, hz, _, hw⟩ := DataW.trod_int Tryd.underlying35 e
      have hb := bounds_u32 hw
      rw [List.getElem?_eq_getElem hlt]
      simp only [List.cons.injEq, and_true] at hz
      rw [hz]
      exact ⟨z.toNat, by rw [Int.toNat_of_nonneg hb.1], by omega⟩
    obtain ⟨g, hg⟩ := Go.Deep.choose_lt key
    refine ⟨some a, len, cap, (List.range (3 * len)).map g, rfl, ?_, ?_, by simp, hl⟩
    · refine .inr ⟨a, rfl, fun i u hu => ?_⟩
      have hi : i < 3 * len := by
        have := (List.getElem?_eq_some_iff.1 hu).1
        rw [vals_length, List.length_map, List.length_range] at this; exact this
      rw [(hg i hi).1, ← hu]
      simp [vals, hi]
    · intro y hy
      obtain ⟨i, hi, rfl⟩ := List.mem_map.1 hy
      exact (hg i (List.mem_range.1 hi)).2
theorem open_rowsv {r : Reach} {b0 : Nat} {v : Value} {d : DataW H} {ps : List MemPlace} (hv : Value.okWide Tryd.prog W r b0 27 v) (h : DataW.Trod enc Tryd.prog W base sp held 27 v d ps) :
    ∃ A n c L, v = .slice A n c ∧ IsR W A n c L := by
  obtain ⟨a, len, cap, rfl⟩ := okWide_slice Tryd.underlying27 hv
  obtain ⟨fuel, hf⟩ := h
  obtain ⟨A, n, c, L, e, i⟩ := open_rows hf
  simp only [Value.cells, List.cons.injEq, and_true] at e
  exact ⟨A, n, c, L, e, i⟩
end

/-- The package's variable, as it was laid, gives the cells that the walks read. -/
theorem flds_of_laid {W : World} (h : laidMetH Tryd.prog [("ziggurat/ntt.fields", Rows.laid_ziggurat_ntt_fields)] W) : Flds W := by
  rw [MakeChecks.laidMetH_plain _ _ _ (by kernel_rfl)] at h
  obtain ⟨ps, ⟨g0, t0, cs0, f0, p0, q0, hg0, ht0, hv0, hd0, _, _⟩, _, _⟩ := h
  obtain rfl := Option.some.inj (row_glob.symm.trans hg0)
  obtain rfl := Option.some.inj (row_globT.symm.trans ht0)
  obtain ⟨xs, n, _, hx, hl, hxs, he⟩ := DataW.trod_array Tryd.underlying67 hd0
  have h3 : Tryd.prog.cellsOf 67 = 3 := by kernel_rfl
  have h1 : Tryd.prog.cellsOf 66 = 1 := by kernel_rfl
  have h0 : Tryd.prog.cellsOf 36 = 1 := by kernel_rfl
  have cell := fun i => World.var?_cell hg0 hv0 i
  obtain ⟨cl⟩ := cs0
  have hl' : cl.length = 3 := by rw [← h3]; exact hl
  match cl, hl' with
  | [c0, c1, c2], _ =>
    match xs, hxs with
    | [x0, x1, x2], _ =>
      have e0 := he 0 (by decide)
      have e1 := he 1 (by decide)
      have e2 := he 2 (by decide)
      rw [h1] at e0 e1 e2
      have one : ∀ (c : Value) (x : DataW Unit × List MemPlace) (z : Int), DataW.trod (fun _ => ()) Tryd.prog W 0 (fun _ => true) false n 66 [c] = some x → x.1 = .agg [.lit (.int .u64 z)] → c = .int .u64 z := by
        intro c x z hc hz
        obtain ⟨ys, n2, _, hy, _, hys, hey⟩ := DataW.trod_struct Tryd.underlying66 hc
        have e : DataW.trod (fun _ => ()) Tryd.prog W 0 (fun _ => true) false n2 36 (([c].drop 0).take (Tryd.prog.cellsOf 36)) = ys[0]? := hey 0 _ rfl
        rw [h0] at e
        match ys, hys with
        | [y], _ =>
          obtain ⟨z', hz1, hz2, _⟩ := DataW.trod_int Tryd.underlying36 (show DataW.trod (fun _ => ()) Tryd.prog W 0 (fun _ => true) false n2 36 [c] = some y from e)
          simp only [List.cons.injEq, and_true] at hz1
          rw [hy, hz2] at hz
          simp at hz
          rw [hz1, hz]
      simp only [Rows.laid_ziggurat_ntt_fields, Prod.mk.injEq, DataW.agg.injEq, List.map_cons, List.map_nil, List.cons.injEq, and_true] at hx
      obtain ⟨⟨hx0, hx1, hx2⟩, _⟩ := hx
      have k0 := one c0 x0 _ e0 hx0.symm
      have k1 := one c1 x1 _ e1 hx1.symm
      have k2 := one c2 x2 _ e2 hx2.symm
      subst k0 k1 k2
      exact ⟨cell 0, cell 1, cell 2⟩
/-- The door's own heap meets the condition: closed facts. -/
theorem door_met (os : Os) (args : Array Value) : laidMetH Tryd.prog [("ziggurat/ntt.fields", Rows.laid_ziggurat_ntt_fields)] ((World.doorLaid Tryd.prog 400 os).forCall (fun _ _ => 0) ⟨#[], args, []⟩).memory :=
  laidMetH_of_parts3 (fuel := 8) (laidMet_of_run' 8 (by kernel_rfl) (by kernel_rfl)) (by kernel_rfl) (by kernel_rfl)
end Go.Proofs.YtmcekbmmpdpbmaaDoor
