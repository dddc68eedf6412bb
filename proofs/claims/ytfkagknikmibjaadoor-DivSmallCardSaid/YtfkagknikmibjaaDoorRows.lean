/-
  NARROWER THAN 'FOR EVERY INPUT', by the rows' own cells (each row's printed sentence says how): DivTells: laid · DivBack: laid · DivNewton: laid · DivZiegler: laid · DivRecip: laid · DivProducts: laid · DivTwice: laid · DivMore: laid · DivShift: laid · DivSmall: laid.
  DERIVED. THE GIVEN ROWS OF THIS SEAT. 10 by the template 'for every input the law returns true; each argument reads behind the call as it read before'; 0 by the template 'total and deterministic' (their statements: YtfkagknikmibjaaDoorTotals.lean).
  GIVEN WITH THE SEED: the statements are not yours to turn. If you find one false, say at which input.
  Laid BY PROGRAM, IN A SANDBOX (cutbox-rows.mjs): the forced cells as the released guide's own fill.sh prints them over the translation 5f5f4cc650326552… (all of the seat's roots in one cut). By AI agents, Wed Nov 11 2026. No macro, syntax, notation, axiom, sorry.
-/
import Derived.Test.YtfkagknikmibjaaDoorChecked
import GoSem.Claim
import GoSem.ClaimJoined
import GoSem.ClaimMapViews
import Derived.JoinedTies
import Derived.KernelRfl
namespace Go.Proofs.YtfkagknikmibjaaDoor
/- THE CELL 'sum', in the pinned program and in every row, IS THE sha256 OF THE DUMP (.gsa) THAT YtfkagknikmibjaaDoorProg.lean LOADS. Nothing in Lean hashes anything: it is a label: what it is worth is what the hold of that sum in a sandbox is worth. -/
noncomputable def Tryd.pinned : Pinned := { name := "ytfkagknikmibjaadoor", sum := "5f5f4cc65032655257b0f8a37ebec2f95be90fa3c71c4364965680015b3b0e36", checked := Tryd.checked }
namespace Rows
def none {H : Type} : Left H := { results := [], args := [] }

/- WHAT THE LISTED PACKAGE-LEVEL VARIABLES READ AS WHEN THE CALL BEGINS. Each datum BY PROGRAM (the guide's laid-datum.mjs) off the statement by which the dump's own 'gosem.cut.vars' lays the variable. In a bare row this is a premise. The card (YtfkagknikmibjaaDoorCards.lean) ties it to the program's text. -/
def laid_ziggurat_ntt_fields {H : Type} : DataW H := .agg [.agg [.lit (.int .u64 998244353)], .agg [.lit (.int .u64 469762049)], .agg [.lit (.int .u64 167772161)]]

/-- 'zigguratlaw04.DivTells': WHATEVER THE INPUT: true; the input reads as it did. -/
def divTellsSpec : ChangeSpec := { name := "divTells", fn := fun _ => fun
  | [d1, d2, d3] => { results := [.lit (.bool true)], args := [d1, d2, d3] }
  | _ => none }
def divTellsRow : OpenClaim := { program := "ytfkagknikmibjaadoor", sum := "5f5f4cc65032655257b0f8a37ebec2f95be90fa3c71c4364965680015b3b0e36", func := "ziggurat/zigguratlaw04.DivTells", spec := "divTells", inPlace := ["math/bits.Add64"], unfollowed := true, recurses := true, named := ["math/bits.overflowError", "ziggurat/ntt.fields"], apart := false, laid := [("ziggurat/ntt.fields", laid_ziggurat_ntt_fields)] }
def DivTellsSaid : Prop := divTellsRow.holds Tryd.pinned (OpenSpec.ofChange divTellsSpec)

/-- ITS FALSE NEIGHBOUR: 'it returns false'. Refute it at one input. -/
def divTellsWrong : ChangeSpec := { name := "divTells", fn := fun _ => fun
  | [d1, d2, d3] => { results := [.lit (.bool false)], args := [d1, d2, d3] }
  | _ => none }
def DivTellsWrongFalsely : Prop := divTellsRow.holds Tryd.pinned (OpenSpec.ofChange divTellsWrong)

/-- 'zigguratlaw04.DivBack': WHATEVER THE INPUT: true; the input reads as it did. -/
def divBackSpec : ChangeSpec := { name := "divBack", fn := fun _ => fun
  | [d1, d2] => { results := [.lit (.bool true)], args := [d1, d2] }
  | _ => none }
def divBackRow : OpenClaim := { program := "ytfkagknikmibjaadoor", sum := "5f5f4cc65032655257b0f8a37ebec2f95be90fa3c71c4364965680015b3b0e36", func := "ziggurat/zigguratlaw04.DivBack", spec := "divBack", inPlace := ["math/bits.Add64"], unfollowed := true, recurses := true, named := ["math/bits.overflowError", "ziggurat/ntt.fields"], apart := false, laid := [("ziggurat/ntt.fields", laid_ziggurat_ntt_fields)] }
def DivBackSaid : Prop := divBackRow.holds Tryd.pinned (OpenSpec.ofChange divBackSpec)

/-- ITS FALSE NEIGHBOUR: 'it returns false'. Refute it at one input. -/
def divBackWrong : ChangeSpec := { name := "divBack", fn := fun _ => fun
  | [d1, d2] => { results := [.lit (.bool false)], args := [d1, d2] }
  | _ => none }
def DivBackWrongFalsely : Prop := divBackRow.holds Tryd.pinned (OpenSpec.ofChange divBackWrong)

/-- 'zigguratlaw04.DivNewton': WHATEVER THE INPUT: true; the input reads as it did. -/
def divNewtonSpec : ChangeSpec := { name := "divNewton", fn := fun _ => fun
  | [d1, d2] => { results := [.lit (.bool true)], args := [d1, d2] }
  | _ => none }
def divNewtonRow : OpenClaim := { program := "ytfkagknikmibjaadoor", sum := "5f5f4cc65032655257b0f8a37ebec2f95be90fa3c71c4364965680015b3b0e36", func := "ziggurat/zigguratlaw04.DivNewton", spec := "divNewton", inPlace := ["math/bits.Add64"], unfollowed := true, recurses := true, named := ["math/bits.overflowError", "ziggurat/ntt.fields"], apart := false, laid := [("ziggurat/ntt.fields", laid_ziggurat_ntt_fields)] }
def DivNewtonSaid : Prop := divNewtonRow.holds Tryd.pinned (OpenSpec.ofChange divNewtonSpec)

/-- ITS FALSE NEIGHBOUR: 'it returns false'. Refute it at one input. -/
def divNewtonWrong : ChangeSpec := { name := "divNewton", fn := fun _ => fun
  | [d1, d2] => { results := [.lit (.bool false)], args := [d1, d2] }
  | _ => none }
def DivNewtonWrongFalsely : Prop := divNewtonRow.holds Tryd.pinned (OpenSpec.ofChange divNewtonWrong)

/-- 'zigguratlaw04.DivZiegler': WHATEVER THE INPUT: true; the input reads as it did. -/
def divZieglerSpec : ChangeSpec := { name := "divZiegler", fn := fun _ => fun
  | [d1, d2] => { results := [.lit (.bool true)], args := [d1, d2] }
  | _ => none }
def divZieglerRow : OpenClaim := { program := "ytfkagknikmibjaadoor", sum := "5f5f4cc65032655257b0f8a37ebec2f95be90fa3c71c4364965680015b3b0e36", func := "ziggurat/zigguratlaw04.DivZiegler", spec := "divZiegler", inPlace := ["math/bits.Add64"], unfollowed := true, recurses := true, named := ["math/bits.overflowError", "ziggurat/ntt.fields"], apart := false, laid := [("ziggurat/ntt.fields", laid_ziggurat_ntt_fields)] }
def DivZieglerSaid : Prop := divZieglerRow.holds Tryd.pinned (OpenSpec.ofChange divZieglerSpec)

/-- ITS FALSE NEIGHBOUR: 'it returns false'. Refute it at one input. -/
def divZieglerWrong : ChangeSpec := { name := "divZiegler", fn := fun _ => fun
  | [d1, d2] => { results := [.lit (.bool false)], args := [d1, d2] }
  | _ => none }
def DivZieglerWrongFalsely : Prop := divZieglerRow.holds Tryd.pinned (OpenSpec.ofChange divZieglerWrong)

/-- 'zigguratlaw04.DivRecip': WHATEVER THE INPUT: true; the input reads as it did. -/
def divRecipSpec : ChangeSpec := { name := "divRecip", fn := fun _ => fun
  | [d1, d2] => { results := [.lit (.bool true)], args := [d1, d2] }
  | _ => none }
def divRecipRow : OpenClaim := { program := "ytfkagknikmibjaadoor", sum := "5f5f4cc65032655257b0f8a37ebec2f95be90fa3c71c4364965680015b3b0e36", func := "ziggurat/zigguratlaw04.DivRecip", spec := "divRecip", inPlace := ["math/bits.Add64"], unfollowed := true, recurses := true, named := ["math/bits.overflowError", "ziggurat/ntt.fields"], apart := false, laid := [("ziggurat/ntt.fields", laid_ziggurat_ntt_fields)] }
def DivRecipSaid : Prop := divRecipRow.holds Tryd.pinned (OpenSpec.ofChange divRecipSpec)

/-- ITS FALSE NEIGHBOUR: 'it returns false'. Refute it at one input. -/
def divRecipWrong : ChangeSpec := { name := "divRecip", fn := fun _ => fun
  | [d1, d2] => { results := [.lit (.bool false)], args := [d1, d2] }
  | _ => none }
def DivRecipWrongFalsely : Prop := divRecipRow.holds Tryd.pinned (OpenSpec.ofChange divRecipWrong)

/-- 'zigguratlaw04.DivProducts': WHATEVER THE INPUT: true; the input reads as it did. -/
def divProductsSpec : ChangeSpec := { name := "divProducts", fn := fun _ => fun
  | [d1, d2, d3] => { results := [.lit (.bool true)], args := [d1, d2, d3] }
  | _ => none }
def divProductsRow : OpenClaim := { program := "ytfkagknikmibjaadoor", sum := "5f5f4cc65032655257b0f8a37ebec2f95be90fa3c71c4364965680015b3b0e36", func := "ziggurat/zigguratlaw04.DivProducts", spec := "divProducts", inPlace := ["math/bits.Add64"], unfollowed := true, recurses := true, named := ["math/bits.overflowError", "ziggurat/ntt.fields"], apart := false, laid := [("ziggurat/ntt.fields", laid_ziggurat_ntt_fields)] }
def DivProductsSaid : Prop := divProductsRow.holds Tryd.pinned (OpenSpec.ofChange divProductsSpec)

/-- ITS FALSE NEIGHBOUR: 'it returns false'. Refute it at one input. -/
def divProductsWrong : ChangeSpec := { name := "divProducts", fn := fun _ => fun
  | [d1, d2, d3] => { results := [.lit (.bool false)], args := [d1, d2, d3] }
  | _ => none }
def DivProductsWrongFalsely : Prop := divProductsRow.holds Tryd.pinned (OpenSpec.ofChange divProductsWrong)

/-- 'zigguratlaw04.DivTwice': WHATEVER THE INPUT: true; the input reads as it did. -/
def divTwiceSpec : ChangeSpec := { name := "divTwice", fn := fun _ => fun
  | [d1, d2, d3] => { results := [.lit (.bool true)], args := [d1, d2, d3] }
  | _ => none }
def divTwiceRow : OpenClaim := { program := "ytfkagknikmibjaadoor", sum := "5f5f4cc65032655257b0f8a37ebec2f95be90fa3c71c4364965680015b3b0e36", func := "ziggurat/zigguratlaw04.DivTwice", spec := "divTwice", inPlace := ["math/bits.Add64"], unfollowed := true, recurses := true, named := ["math/bits.overflowError", "ziggurat/ntt.fields"], apart := false, laid := [("ziggurat/ntt.fields", laid_ziggurat_ntt_fields)] }
def DivTwiceSaid : Prop := divTwiceRow.holds Tryd.pinned (OpenSpec.ofChange divTwiceSpec)

/-- ITS FALSE NEIGHBOUR: 'it returns false'. Refute it at one input. -/
def divTwiceWrong : ChangeSpec := { name := "divTwice", fn := fun _ => fun
  | [d1, d2, d3] => { results := [.lit (.bool false)], args := [d1, d2, d3] }
  | _ => none }
def DivTwiceWrongFalsely : Prop := divTwiceRow.holds Tryd.pinned (OpenSpec.ofChange divTwiceWrong)

/-- 'zigguratlaw04.DivMore': WHATEVER THE INPUT: true; the input reads as it did. -/
def divMoreSpec : ChangeSpec := { name := "divMore", fn := fun _ => fun
  | [d1, d2, d3] => { results := [.lit (.bool true)], args := [d1, d2, d3] }
  | _ => none }
def divMoreRow : OpenClaim := { program := "ytfkagknikmibjaadoor", sum := "5f5f4cc65032655257b0f8a37ebec2f95be90fa3c71c4364965680015b3b0e36", func := "ziggurat/zigguratlaw04.DivMore", spec := "divMore", inPlace := ["math/bits.Add64"], unfollowed := true, recurses := true, named := ["math/bits.overflowError", "ziggurat/ntt.fields"], apart := false, laid := [("ziggurat/ntt.fields", laid_ziggurat_ntt_fields)] }
def DivMoreSaid : Prop := divMoreRow.holds Tryd.pinned (OpenSpec.ofChange divMoreSpec)

/-- ITS FALSE NEIGHBOUR: 'it returns false'. Refute it at one input. -/
def divMoreWrong : ChangeSpec := { name := "divMore", fn := fun _ => fun
  | [d1, d2, d3] => { results := [.lit (.bool false)], args := [d1, d2, d3] }
  | _ => none }
def DivMoreWrongFalsely : Prop := divMoreRow.holds Tryd.pinned (OpenSpec.ofChange divMoreWrong)

/-- 'zigguratlaw04.DivShift': WHATEVER THE INPUT: true; the input reads as it did. -/
def divShiftSpec : ChangeSpec := { name := "divShift", fn := fun _ => fun
  | [d1, d2, d3] => { results := [.lit (.bool true)], args := [d1, d2, d3] }
  | _ => none }
def divShiftRow : OpenClaim := { program := "ytfkagknikmibjaadoor", sum := "5f5f4cc65032655257b0f8a37ebec2f95be90fa3c71c4364965680015b3b0e36", func := "ziggurat/zigguratlaw04.DivShift", spec := "divShift", inPlace := ["math/bits.Add64"], unfollowed := true, recurses := true, named := ["math/bits.overflowError", "ziggurat/ntt.fields"], apart := false, laid := [("ziggurat/ntt.fields", laid_ziggurat_ntt_fields)] }
def DivShiftSaid : Prop := divShiftRow.holds Tryd.pinned (OpenSpec.ofChange divShiftSpec)

/-- ITS FALSE NEIGHBOUR: 'it returns false'. Refute it at one input. -/
def divShiftWrong : ChangeSpec := { name := "divShift", fn := fun _ => fun
  | [d1, d2, d3] => { results := [.lit (.bool false)], args := [d1, d2, d3] }
  | _ => none }
def DivShiftWrongFalsely : Prop := divShiftRow.holds Tryd.pinned (OpenSpec.ofChange divShiftWrong)

/-- 'zigguratlaw04.DivSmall': WHATEVER THE INPUT: true; the input reads as it did. -/
def divSmallSpec : ChangeSpec := { name := "divSmall", fn := fun _ => fun
  | [d1, d2] => { results := [.lit (.bool true)], args := [d1, d2] }
  | _ => none }
def divSmallRow : OpenClaim := { program := "ytfkagknikmibjaadoor", sum := "5f5f4cc65032655257b0f8a37ebec2f95be90fa3c71c4364965680015b3b0e36", func := "ziggurat/zigguratlaw04.DivSmall", spec := "divSmall", inPlace := ["math/bits.Add64"], unfollowed := true, recurses := true, named := ["math/bits.overflowError", "ziggurat/ntt.fields"], apart := false, laid := [("ziggurat/ntt.fields", laid_ziggurat_ntt_fields)] }
def DivSmallSaid : Prop := divSmallRow.holds Tryd.pinned (OpenSpec.ofChange divSmallSpec)

/-- ITS FALSE NEIGHBOUR: 'it returns false'. Refute it at one input. -/
def divSmallWrong : ChangeSpec := { name := "divSmall", fn := fun _ => fun
  | [d1, d2] => { results := [.lit (.bool false)], args := [d1, d2] }
  | _ => none }
def DivSmallWrongFalsely : Prop := divSmallRow.holds Tryd.pinned (OpenSpec.ofChange divSmallWrong)

/- THE SECOND FORM. 'bulk': how many values and letters a reading holds, each counted each time it is reached (what is shared counts as often as it is met; a slice's spare places count too). A statement '..UptoSaid' is the law's where the arguments, and the package variables that the reading takes, are together of bulk at most 1048576: NARROWER than '..Said'. Prove '..Said' where nothing that the law and all that it calls make is longer than what came in: it says more and counts as full. Else prove '..UptoSaid'. A law counts once. -/
mutual
def uptoBulk {H : Type} : DataW H → Nat
  | .lit (.string bytes) => bytes.length + 1
  | .lit _ => 1
  | .nil => 1
  | .ptr d => uptoBulk d + 1
  | .slice elems spare => uptoBulkAll elems + uptoBulkAll spare + 1
  | .agg parts => uptoBulkAll parts + 1
  | .iface _ d => uptoBulk d + 1
  | .map entries => uptoBulkEntries entries + 1
  | .held _ => 1
def uptoBulkAll {H : Type} : List (DataW H) → Nat
  | [] => 0
  | d :: r => uptoBulk d + uptoBulkAll r
def uptoBulkEntries {H : Type} : List (Lit × DataW H) → Nat
  | [] => 0
  | x :: r => uptoBulkEntry x + uptoBulkEntries r
def uptoBulkEntry {H : Type} : Lit × DataW H → Nat
  | (.string bytes, d) => bytes.length + uptoBulk d + 1
  | (_, d) => uptoBulk d + 1
 end
def uptoSmall : (H : Type) → List (DataW H) → Bool := fun _ ds => decide (uptoBulkAll ds ≤ 1048576)
def OpenSpec.upto (s : _root_.Go.ChangeSpec) : _root_.Go.OpenSpec := { _root_.Go.OpenSpec.ofChange s with cond := some uptoSmall }

/-- 'zigguratlaw04.DivTells', WHERE WHAT IT READS IS OF BULK AT MOST 1048576: true; the input reads as it did. -/
def divTellsUptoRow : OpenClaim := { program := "ytfkagknikmibjaadoor", sum := "5f5f4cc65032655257b0f8a37ebec2f95be90fa3c71c4364965680015b3b0e36", func := "ziggurat/zigguratlaw04.DivTells", spec := "divTells", inPlace := ["math/bits.Add64"], unfollowed := true, recurses := true, named := ["math/bits.overflowError", "ziggurat/ntt.fields"], apart := false, laid := [("ziggurat/ntt.fields", laid_ziggurat_ntt_fields)], narrowed := true }
def DivTellsUptoSaid : Prop := divTellsUptoRow.holds Tryd.pinned (OpenSpec.upto divTellsSpec)

/-- 'zigguratlaw04.DivBack', WHERE WHAT IT READS IS OF BULK AT MOST 1048576: true; the input reads as it did. -/
def divBackUptoRow : OpenClaim := { program := "ytfkagknikmibjaadoor", sum := "5f5f4cc65032655257b0f8a37ebec2f95be90fa3c71c4364965680015b3b0e36", func := "ziggurat/zigguratlaw04.DivBack", spec := "divBack", inPlace := ["math/bits.Add64"], unfollowed := true, recurses := true, named := ["math/bits.overflowError", "ziggurat/ntt.fields"], apart := false, laid := [("ziggurat/ntt.fields", laid_ziggurat_ntt_fields)], narrowed := true }
def DivBackUptoSaid : Prop := divBackUptoRow.holds Tryd.pinned (OpenSpec.upto divBackSpec)

/-- 'zigguratlaw04.DivNewton', WHERE WHAT IT READS IS OF BULK AT MOST 1048576: true; the input reads as it did. -/
def divNewtonUptoRow : OpenClaim := { program := "ytfkagknikmibjaadoor", sum := "5f5f4cc65032655257b0f8a37ebec2f95be90fa3c71c4364965680015b3b0e36", func := "ziggurat/zigguratlaw04.DivNewton", spec := "divNewton", inPlace := ["math/bits.Add64"], unfollowed := true, recurses := true, named := ["math/bits.overflowError", "ziggurat/ntt.fields"], apart := false, laid := [("ziggurat/ntt.fields", laid_ziggurat_ntt_fields)], narrowed := true }
def DivNewtonUptoSaid : Prop := divNewtonUptoRow.holds Tryd.pinned (OpenSpec.upto divNewtonSpec)

/-- 'zigguratlaw04.DivZiegler', WHERE WHAT IT READS IS OF BULK AT MOST 1048576: true; the input reads as it did. -/
def divZieglerUptoRow : OpenClaim := { program := "ytfkagknikmibjaadoor", sum := "5f5f4cc65032655257b0f8a37ebec2f95be90fa3c71c4364965680015b3b0e36", func := "ziggurat/zigguratlaw04.DivZiegler", spec := "divZiegler", inPlace := ["math/bits.Add64"], unfollowed := true, recurses := true, named := ["math/bits.overflowError", "ziggurat/ntt.fields"], apart := false, laid := [("ziggurat/ntt.fields", laid_ziggurat_ntt_fields)], narrowed := true }
def DivZieglerUptoSaid : Prop := divZieglerUptoRow.holds Tryd.pinned (OpenSpec.upto divZieglerSpec)

/-- 'zigguratlaw04.DivRecip', WHERE WHAT IT READS IS OF BULK AT MOST 1048576: true; the input reads as it did. -/
def divRecipUptoRow : OpenClaim := { program := "ytfkagknikmibjaadoor", sum := "5f5f4cc65032655257b0f8a37ebec2f95be90fa3c71c4364965680015b3b0e36", func := "ziggurat/zigguratlaw04.DivRecip", spec := "divRecip", inPlace := ["math/bits.Add64"], unfollowed := true, recurses := true, named := ["math/bits.overflowError", "ziggurat/ntt.fields"], apart := false, laid := [("ziggurat/ntt.fields", laid_ziggurat_ntt_fields)], narrowed := true }
def DivRecipUptoSaid : Prop := divRecipUptoRow.holds Tryd.pinned (OpenSpec.upto divRecipSpec)

/-- 'zigguratlaw04.DivProducts', WHERE WHAT IT READS IS OF BULK AT MOST 1048576: true; the input reads as it did. -/
def divProductsUptoRow : OpenClaim := { program := "ytfkagknikmibjaadoor", sum := "5f5f4cc65032655257b0f8a37ebec2f95be90fa3c71c4364965680015b3b0e36", func := "ziggurat/zigguratlaw04.DivProducts", spec := "divProducts", inPlace := ["math/bits.Add64"], unfollowed := true, recurses := true, named := ["math/bits.overflowError", "ziggurat/ntt.fields"], apart := false, laid := [("ziggurat/ntt.fields", laid_ziggurat_ntt_fields)], narrowed := true }
def DivProductsUptoSaid : Prop := divProductsUptoRow.holds Tryd.pinned (OpenSpec.upto divProductsSpec)

/-- 'zigguratlaw04.DivTwice', WHERE WHAT IT READS IS OF BULK AT MOST 1048576: true; the input reads as it did. -/
def divTwiceUptoRow : OpenClaim := { program := "ytfkagknikmibjaadoor", sum := "5f5f4cc65032655257b0f8a37ebec2f95be90fa3c71c4364965680015b3b0e36", func := "ziggurat/zigguratlaw04.DivTwice", spec := "divTwice", inPlace := ["math/bits.Add64"], unfollowed := true, recurses := true, named := ["math/bits.overflowError", "ziggurat/ntt.fields"], apart := false, laid := [("ziggurat/ntt.fields", laid_ziggurat_ntt_fields)], narrowed := true }
def DivTwiceUptoSaid : Prop := divTwiceUptoRow.holds Tryd.pinned (OpenSpec.upto divTwiceSpec)

/-- 'zigguratlaw04.DivMore', WHERE WHAT IT READS IS OF BULK AT MOST 1048576: true; the input reads as it did. -/
def divMoreUptoRow : OpenClaim := { program := "ytfkagknikmibjaadoor", sum := "5f5f4cc65032655257b0f8a37ebec2f95be90fa3c71c4364965680015b3b0e36", func := "ziggurat/zigguratlaw04.DivMore", spec := "divMore", inPlace := ["math/bits.Add64"], unfollowed := true, recurses := true, named := ["math/bits.overflowError", "ziggurat/ntt.fields"], apart := false, laid := [("ziggurat/ntt.fields", laid_ziggurat_ntt_fields)], narrowed := true }
def DivMoreUptoSaid : Prop := divMoreUptoRow.holds Tryd.pinned (OpenSpec.upto divMoreSpec)

/-- 'zigguratlaw04.DivShift', WHERE WHAT IT READS IS OF BULK AT MOST 1048576: true; the input reads as it did. -/
def divShiftUptoRow : OpenClaim := { program := "ytfkagknikmibjaadoor", sum := "5f5f4cc65032655257b0f8a37ebec2f95be90fa3c71c4364965680015b3b0e36", func := "ziggurat/zigguratlaw04.DivShift", spec := "divShift", inPlace := ["math/bits.Add64"], unfollowed := true, recurses := true, named := ["math/bits.overflowError", "ziggurat/ntt.fields"], apart := false, laid := [("ziggurat/ntt.fields", laid_ziggurat_ntt_fields)], narrowed := true }
def DivShiftUptoSaid : Prop := divShiftUptoRow.holds Tryd.pinned (OpenSpec.upto divShiftSpec)

/-- 'zigguratlaw04.DivSmall', WHERE WHAT IT READS IS OF BULK AT MOST 1048576: true; the input reads as it did. -/
def divSmallUptoRow : OpenClaim := { program := "ytfkagknikmibjaadoor", sum := "5f5f4cc65032655257b0f8a37ebec2f95be90fa3c71c4364965680015b3b0e36", func := "ziggurat/zigguratlaw04.DivSmall", spec := "divSmall", inPlace := ["math/bits.Add64"], unfollowed := true, recurses := true, named := ["math/bits.overflowError", "ziggurat/ntt.fields"], apart := false, laid := [("ziggurat/ntt.fields", laid_ziggurat_ntt_fields)], narrowed := true }
def DivSmallUptoSaid : Prop := divSmallUptoRow.holds Tryd.pinned (OpenSpec.upto divSmallSpec)

end Rows
end Go.Proofs.YtfkagknikmibjaaDoor
