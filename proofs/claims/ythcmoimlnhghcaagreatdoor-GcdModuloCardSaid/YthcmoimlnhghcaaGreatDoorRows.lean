/-
  NARROWER THAN 'FOR EVERY INPUT', by the rows' own cells (each row's printed sentence says how): DyadTells: laid · GcdTells: laid · GcdModulo: laid.
  DERIVED. THE GIVEN ROWS OF THIS SEAT. 3 by the template 'for every input the law returns true; each argument reads behind the call as it read before'; 0 by the template 'total and deterministic' (their statements: YthcmoimlnhghcaaGreatDoorTotals.lean).
  GIVEN WITH THE SEED: the statements are not yours to turn. If you find one false, say at which input.
  Laid BY PROGRAM, IN A SANDBOX (cutbox-rows.mjs): the forced cells as the released guide's own fill.sh prints them over the translation 7efd6fe5c34754b3… (all of the seat's roots in one cut). By AI agents, Wed Nov 11 2026. No macro, syntax, notation, axiom, sorry.
-/
import Derived.Test.YthcmoimlnhghcaaGreatDoorChecked
import GoSem.Claim
import GoSem.ClaimJoined
import GoSem.ClaimMapViews
import Derived.JoinedTies
import Derived.KernelRfl
namespace Go.Proofs.YthcmoimlnhghcaaGreatDoor
/- THE CELL 'sum', in the pinned program and in every row, IS THE sha256 OF THE DUMP (.gsa) THAT YthcmoimlnhghcaaGreatDoorProg.lean LOADS. Nothing in Lean hashes anything: it is a label: what it is worth is what the hold of that sum in a sandbox is worth. -/
noncomputable def Tryz.pinned : Pinned := { name := "ythcmoimlnhghcaagreatdoor", sum := "7efd6fe5c34754b3d8fdb18c1a98c862825644ea930b68eabd01e623b72669aa", checked := Tryz.checked }
namespace Rows
def none {H : Type} : Left H := { results := [], args := [] }

/- WHAT THE LISTED PACKAGE-LEVEL VARIABLES READ AS WHEN THE CALL BEGINS. Each datum BY PROGRAM (the guide's laid-datum.mjs) off the statement by which the dump's own 'gosem.cut.vars' lays the variable. In a bare row this is a premise. The card (YthcmoimlnhghcaaGreatDoorCards.lean) ties it to the program's text. -/
def laid_math_bits_deBruijn32tab {H : Type} : DataW H := .agg [.lit (.int .u8 0), .lit (.int .u8 1), .lit (.int .u8 28), .lit (.int .u8 2), .lit (.int .u8 29), .lit (.int .u8 14), .lit (.int .u8 24), .lit (.int .u8 3), .lit (.int .u8 30), .lit (.int .u8 22), .lit (.int .u8 20), .lit (.int .u8 15), .lit (.int .u8 25), .lit (.int .u8 17), .lit (.int .u8 4), .lit (.int .u8 8), .lit (.int .u8 31), .lit (.int .u8 27), .lit (.int .u8 13), .lit (.int .u8 23), .lit (.int .u8 21), .lit (.int .u8 19), .lit (.int .u8 16), .lit (.int .u8 7), .lit (.int .u8 26), .lit (.int .u8 12), .lit (.int .u8 18), .lit (.int .u8 6), .lit (.int .u8 11), .lit (.int .u8 5), .lit (.int .u8 10), .lit (.int .u8 9)]
def laid_ziggurat_ntt_fields {H : Type} : DataW H := .agg [.agg [.lit (.int .u64 998244353)], .agg [.lit (.int .u64 469762049)], .agg [.lit (.int .u64 167772161)]]

/-- 'zigguratlaw10.DyadTells': WHATEVER THE INPUT: true; the input reads as it did. -/
def dyadTellsSpec : ChangeSpec := { name := "dyadTells", fn := fun _ => fun
  | [d1, d2, d3] => { results := [.lit (.bool true)], args := [d1, d2, d3] }
  | _ => none }
def dyadTellsRow : OpenClaim := { program := "ythcmoimlnhghcaagreatdoor", sum := "7efd6fe5c34754b3d8fdb18c1a98c862825644ea930b68eabd01e623b72669aa", func := "ziggurat/zigguratlaw10.DyadTells", spec := "dyadTells", inPlace := ["math/bits.Add64"], unfollowed := true, recurses := true, named := ["math/bits.overflowError", "math/bits.deBruijn32tab", "ziggurat/ntt.fields"], apart := false, laid := [("math/bits.deBruijn32tab", laid_math_bits_deBruijn32tab), ("ziggurat/ntt.fields", laid_ziggurat_ntt_fields)] }
def DyadTellsSaid : Prop := dyadTellsRow.holds Tryz.pinned (OpenSpec.ofChange dyadTellsSpec)

/-- ITS FALSE NEIGHBOUR: 'it returns false'. Refute it at one input. -/
def dyadTellsWrong : ChangeSpec := { name := "dyadTells", fn := fun _ => fun
  | [d1, d2, d3] => { results := [.lit (.bool false)], args := [d1, d2, d3] }
  | _ => none }
def DyadTellsWrongFalsely : Prop := dyadTellsRow.holds Tryz.pinned (OpenSpec.ofChange dyadTellsWrong)

/-- 'zigguratlaw07.GcdTells': WHATEVER THE INPUT: true; the input reads as it did. -/
def gcdTellsSpec : ChangeSpec := { name := "gcdTells", fn := fun _ => fun
  | [d1, d2] => { results := [.lit (.bool true)], args := [d1, d2] }
  | _ => none }
def gcdTellsRow : OpenClaim := { program := "ythcmoimlnhghcaagreatdoor", sum := "7efd6fe5c34754b3d8fdb18c1a98c862825644ea930b68eabd01e623b72669aa", func := "ziggurat/zigguratlaw07.GcdTells", spec := "gcdTells", inPlace := ["math/bits.Add64"], unfollowed := true, recurses := true, named := ["math/bits.overflowError", "ziggurat/ntt.fields"], apart := false, laid := [("ziggurat/ntt.fields", laid_ziggurat_ntt_fields)] }
def GcdTellsSaid : Prop := gcdTellsRow.holds Tryz.pinned (OpenSpec.ofChange gcdTellsSpec)

/-- ITS FALSE NEIGHBOUR: 'it returns false'. Refute it at one input. -/
def gcdTellsWrong : ChangeSpec := { name := "gcdTells", fn := fun _ => fun
  | [d1, d2] => { results := [.lit (.bool false)], args := [d1, d2] }
  | _ => none }
def GcdTellsWrongFalsely : Prop := gcdTellsRow.holds Tryz.pinned (OpenSpec.ofChange gcdTellsWrong)

/-- 'zigguratlaw07.GcdModulo': WHATEVER THE INPUT: true; the input reads as it did. -/
def gcdModuloSpec : ChangeSpec := { name := "gcdModulo", fn := fun _ => fun
  | [d1, d2, d3] => { results := [.lit (.bool true)], args := [d1, d2, d3] }
  | _ => none }
def gcdModuloRow : OpenClaim := { program := "ythcmoimlnhghcaagreatdoor", sum := "7efd6fe5c34754b3d8fdb18c1a98c862825644ea930b68eabd01e623b72669aa", func := "ziggurat/zigguratlaw07.GcdModulo", spec := "gcdModulo", inPlace := ["math/bits.Add64"], unfollowed := true, recurses := true, named := ["math/bits.overflowError", "ziggurat/ntt.fields"], apart := false, laid := [("ziggurat/ntt.fields", laid_ziggurat_ntt_fields)] }
def GcdModuloSaid : Prop := gcdModuloRow.holds Tryz.pinned (OpenSpec.ofChange gcdModuloSpec)

/-- ITS FALSE NEIGHBOUR: 'it returns false'. Refute it at one input. -/
def gcdModuloWrong : ChangeSpec := { name := "gcdModulo", fn := fun _ => fun
  | [d1, d2, d3] => { results := [.lit (.bool false)], args := [d1, d2, d3] }
  | _ => none }
def GcdModuloWrongFalsely : Prop := gcdModuloRow.holds Tryz.pinned (OpenSpec.ofChange gcdModuloWrong)

/- THE SECOND FORM. 'bulk': how many values and letters a reading holds, each counted each time it is reached (what is shared counts as often as it is met; a slice's spare places count too). A statement '..UptoSaid' is the law's where the arguments, and the package variables that the reading takes, are together of bulk at most 1048576: NARROWER than '..Said'. Prove '..Said' where nothing that the law and all that it calls make is longer than what came in: it says more and counts as full. Else prove '..UptoSaid'. A law counts once. -/
mutual
def uptoBulk {H : Type} : DataW H → Nat
  | .lit (.string bytes) => bytes.length + 1
  | .lit _ => 1
  | .nil => 1
  | .ptr d => uptoBulk d + 1
  | .slice elems spare => uptoBulkAll elems + uptoBulkAll spare + 1
  | .agg parts => uptoBulkAll parts + 1
  | .iface _ d => uptoBulk d + 1
  | .map entries => uptoBulkEntries entries + 1
  | .held _ => 1
def uptoBulkAll {H : Type} : List (DataW H) → Nat
  | [] => 0
  | d :: r => uptoBulk d + uptoBulkAll r
def uptoBulkEntries {H : Type} : List (Lit × DataW H) → Nat
  | [] => 0
  | x :: r => uptoBulkEntry x + uptoBulkEntries r
def uptoBulkEntry {H : Type} : Lit × DataW H → Nat
  | (.string bytes, d) => bytes.length + uptoBulk d + 1
  | (_, d) => uptoBulk d + 1
 end
def uptoSmall : (H : Type) → List (DataW H) → Bool := fun _ ds => decide (uptoBulkAll ds ≤ 1048576)
def OpenSpec.upto (s : _root_.Go.ChangeSpec) : _root_.Go.OpenSpec := { _root_.Go.OpenSpec.ofChange s with cond := some uptoSmall }

/-- 'zigguratlaw10.DyadTells', WHERE WHAT IT READS IS OF BULK AT MOST 1048576: true; the input reads as it did. -/
def dyadTellsUptoRow : OpenClaim := { program := "ythcmoimlnhghcaagreatdoor", sum := "7efd6fe5c34754b3d8fdb18c1a98c862825644ea930b68eabd01e623b72669aa", func := "ziggurat/zigguratlaw10.DyadTells", spec := "dyadTells", inPlace := ["math/bits.Add64"], unfollowed := true, recurses := true, named := ["math/bits.overflowError", "math/bits.deBruijn32tab", "ziggurat/ntt.fields"], apart := false, laid := [("math/bits.deBruijn32tab", laid_math_bits_deBruijn32tab), ("ziggurat/ntt.fields", laid_ziggurat_ntt_fields)], narrowed := true }
def DyadTellsUptoSaid : Prop := dyadTellsUptoRow.holds Tryz.pinned (OpenSpec.upto dyadTellsSpec)

/-- 'zigguratlaw07.GcdTells', WHERE WHAT IT READS IS OF BULK AT MOST 1048576: true; the input reads as it did. -/
def gcdTellsUptoRow : OpenClaim := { program := "ythcmoimlnhghcaagreatdoor", sum := "7efd6fe5c34754b3d8fdb18c1a98c862825644ea930b68eabd01e623b72669aa", func := "ziggurat/zigguratlaw07.GcdTells", spec := "gcdTells", inPlace := ["math/bits.Add64"], unfollowed := true, recurses := true, named := ["math/bits.overflowError", "ziggurat/ntt.fields"], apart := false, laid := [("ziggurat/ntt.fields", laid_ziggurat_ntt_fields)], narrowed := true }
def GcdTellsUptoSaid : Prop := gcdTellsUptoRow.holds Tryz.pinned (OpenSpec.upto gcdTellsSpec)

/-- 'zigguratlaw07.GcdModulo', WHERE WHAT IT READS IS OF BULK AT MOST 1048576: true; the input reads as it did. -/
def gcdModuloUptoRow : OpenClaim := { program := "ythcmoimlnhghcaagreatdoor", sum := "7efd6fe5c34754b3d8fdb18c1a98c862825644ea930b68eabd01e623b72669aa", func := "ziggurat/zigguratlaw07.GcdModulo", spec := "gcdModulo", inPlace := ["math/bits.Add64"], unfollowed := true, recurses := true, named := ["math/bits.overflowError", "ziggurat/ntt.fields"], apart := false, laid := [("ziggurat/ntt.fields", laid_ziggurat_ntt_fields)], narrowed := true }
def GcdModuloUptoSaid : Prop := gcdModuloUptoRow.holds Tryz.pinned (OpenSpec.upto gcdModuloSpec)

end Rows
end Go.Proofs.YthcmoimlnhghcaaGreatDoor
