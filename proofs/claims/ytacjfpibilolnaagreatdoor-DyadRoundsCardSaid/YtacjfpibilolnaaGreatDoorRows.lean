/-
  NARROWER THAN 'FOR EVERY INPUT', by the rows' own cells (each row's printed sentence says how): DyadRounds: laid · DyadMakes: laid · DyadSides: laid · DyadTies: laid · DyadTwice: laid · DyadMiddle: laid · DyadTells: laid · DyadRing: laid · DyadRationals: laid.
  DERIVED. THE GIVEN ROWS OF THIS SEAT. 9 by the template 'for every input the law returns true; each argument reads behind the call as it read before'; 0 by the template 'total and deterministic' (their statements: YtacjfpibilolnaaGreatDoorTotals.lean).
  GIVEN WITH THE SEED: the statements are not yours to turn. If you find one false, say at which input.
  Laid BY PROGRAM, IN A SANDBOX (cutbox-rows.mjs): the forced cells as the released guide's own fill.sh prints them over the translation d4e8be04f8e2c72c… (all of the seat's roots in one cut). By AI agents, Wed Nov 11 2026. No macro, syntax, notation, axiom, sorry.
-/
import Derived.Test.YtacjfpibilolnaaGreatDoorChecked
import GoSem.Claim
import GoSem.ClaimJoined
import GoSem.ClaimMapViews
import Derived.JoinedTies
import Derived.KernelRfl
namespace Go.Proofs.YtacjfpibilolnaaGreatDoor
/- THE CELL 'sum', in the pinned program and in every row, IS THE sha256 OF THE DUMP (.gsa) THAT YtacjfpibilolnaaGreatDoorProg.lean LOADS. Nothing in Lean hashes anything: it is a label: what it is worth is what the hold of that sum in a sandbox is worth. -/
noncomputable def Tryz.pinned : Pinned := { name := "ytacjfpibilolnaagreatdoor", sum := "d4e8be04f8e2c72caa1ce8e27a14d83d41c04c9b50d967ee65769cdf032881bb", checked := Tryz.checked }
namespace Rows
def none {H : Type} : Left H := { results := [], args := [] }

/- WHAT THE LISTED PACKAGE-LEVEL VARIABLES READ AS WHEN THE CALL BEGINS. Each datum BY PROGRAM (the guide's laid-datum.mjs) off the statement by which the dump's own 'gosem.cut.vars' lays the variable. In a bare row this is a premise. The card (YtacjfpibilolnaaGreatDoorCards.lean) ties it to the program's text. -/
def laid_math_bits_deBruijn32tab {H : Type} : DataW H := .agg [.lit (.int .u8 0), .lit (.int .u8 1), .lit (.int .u8 28), .lit (.int .u8 2), .lit (.int .u8 29), .lit (.int .u8 14), .lit (.int .u8 24), .lit (.int .u8 3), .lit (.int .u8 30), .lit (.int .u8 22), .lit (.int .u8 20), .lit (.int .u8 15), .lit (.int .u8 25), .lit (.int .u8 17), .lit (.int .u8 4), .lit (.int .u8 8), .lit (.int .u8 31), .lit (.int .u8 27), .lit (.int .u8 13), .lit (.int .u8 23), .lit (.int .u8 21), .lit (.int .u8 19), .lit (.int .u8 16), .lit (.int .u8 7), .lit (.int .u8 26), .lit (.int .u8 12), .lit (.int .u8 18), .lit (.int .u8 6), .lit (.int .u8 11), .lit (.int .u8 5), .lit (.int .u8 10), .lit (.int .u8 9)]
def laid_ziggurat_ntt_fields {H : Type} : DataW H := .agg [.agg [.lit (.int .u64 998244353)], .agg [.lit (.int .u64 469762049)], .agg [.lit (.int .u64 167772161)]]

/-- 'zigguratlaw10.DyadRounds': WHATEVER THE INPUT: true; the input reads as it did. -/
def dyadRoundsSpec : ChangeSpec := { name := "dyadRounds", fn := fun _ => fun
  | [d1, d2, d3] => { results := [.lit (.bool true)], args := [d1, d2, d3] }
  | _ => none }
def dyadRoundsRow : OpenClaim := { program := "ytacjfpibilolnaagreatdoor", sum := "d4e8be04f8e2c72caa1ce8e27a14d83d41c04c9b50d967ee65769cdf032881bb", func := "ziggurat/zigguratlaw10.DyadRounds", spec := "dyadRounds", unfollowed := true, recurses := true, named := ["math/bits.overflowError", "math/bits.deBruijn32tab"], apart := false, laid := [("math/bits.deBruijn32tab", laid_math_bits_deBruijn32tab)] }
def DyadRoundsSaid : Prop := dyadRoundsRow.holds Tryz.pinned (OpenSpec.ofChange dyadRoundsSpec)

/-- ITS FALSE NEIGHBOUR: 'it returns false'. Refute it at one input. -/
def dyadRoundsWrong : ChangeSpec := { name := "dyadRounds", fn := fun _ => fun
  | [d1, d2, d3] => { results := [.lit (.bool false)], args := [d1, d2, d3] }
  | _ => none }
def DyadRoundsWrongFalsely : Prop := dyadRoundsRow.holds Tryz.pinned (OpenSpec.ofChange dyadRoundsWrong)

/-- 'zigguratlaw10.DyadMakes': WHATEVER THE INPUT: true; the input reads as it did. -/
def dyadMakesSpec : ChangeSpec := { name := "dyadMakes", fn := fun _ => fun
  | [d1, d2, d3] => { results := [.lit (.bool true)], args := [d1, d2, d3] }
  | _ => none }
def dyadMakesRow : OpenClaim := { program := "ytacjfpibilolnaagreatdoor", sum := "d4e8be04f8e2c72caa1ce8e27a14d83d41c04c9b50d967ee65769cdf032881bb", func := "ziggurat/zigguratlaw10.DyadMakes", spec := "dyadMakes", unfollowed := true, recurses := true, named := ["math/bits.overflowError", "math/bits.deBruijn32tab"], apart := false, laid := [("math/bits.deBruijn32tab", laid_math_bits_deBruijn32tab)] }
def DyadMakesSaid : Prop := dyadMakesRow.holds Tryz.pinned (OpenSpec.ofChange dyadMakesSpec)

/-- ITS FALSE NEIGHBOUR: 'it returns false'. Refute it at one input. -/
def dyadMakesWrong : ChangeSpec := { name := "dyadMakes", fn := fun _ => fun
  | [d1, d2, d3] => { results := [.lit (.bool false)], args := [d1, d2, d3] }
  | _ => none }
def DyadMakesWrongFalsely : Prop := dyadMakesRow.holds Tryz.pinned (OpenSpec.ofChange dyadMakesWrong)

/-- 'zigguratlaw10.DyadSides': WHATEVER THE INPUT: true; the input reads as it did. -/
def dyadSidesSpec : ChangeSpec := { name := "dyadSides", fn := fun _ => fun
  | [d1, d2] => { results := [.lit (.bool true)], args := [d1, d2] }
  | _ => none }
def dyadSidesRow : OpenClaim := { program := "ytacjfpibilolnaagreatdoor", sum := "d4e8be04f8e2c72caa1ce8e27a14d83d41c04c9b50d967ee65769cdf032881bb", func := "ziggurat/zigguratlaw10.DyadSides", spec := "dyadSides", unfollowed := true, recurses := true, named := ["math/bits.overflowError", "math/bits.deBruijn32tab"], apart := false, laid := [("math/bits.deBruijn32tab", laid_math_bits_deBruijn32tab)] }
def DyadSidesSaid : Prop := dyadSidesRow.holds Tryz.pinned (OpenSpec.ofChange dyadSidesSpec)

/-- ITS FALSE NEIGHBOUR: 'it returns false'. Refute it at one input. -/
def dyadSidesWrong : ChangeSpec := { name := "dyadSides", fn := fun _ => fun
  | [d1, d2] => { results := [.lit (.bool false)], args := [d1, d2] }
  | _ => none }
def DyadSidesWrongFalsely : Prop := dyadSidesRow.holds Tryz.pinned (OpenSpec.ofChange dyadSidesWrong)

/-- 'zigguratlaw10.DyadTies': WHATEVER THE INPUT: true; the input reads as it did. -/
def dyadTiesSpec : ChangeSpec := { name := "dyadTies", fn := fun _ => fun
  | [d1, d2] => { results := [.lit (.bool true)], args := [d1, d2] }
  | _ => none }
def dyadTiesRow : OpenClaim := { program := "ytacjfpibilolnaagreatdoor", sum := "d4e8be04f8e2c72caa1ce8e27a14d83d41c04c9b50d967ee65769cdf032881bb", func := "ziggurat/zigguratlaw10.DyadTies", spec := "dyadTies", unfollowed := true, recurses := true, named := ["math/bits.overflowError", "math/bits.deBruijn32tab"], apart := false, laid := [("math/bits.deBruijn32tab", laid_math_bits_deBruijn32tab)] }
def DyadTiesSaid : Prop := dyadTiesRow.holds Tryz.pinned (OpenSpec.ofChange dyadTiesSpec)

/-- ITS FALSE NEIGHBOUR: 'it returns false'. Refute it at one input. -/
def dyadTiesWrong : ChangeSpec := { name := "dyadTies", fn := fun _ => fun
  | [d1, d2] => { results := [.lit (.bool false)], args := [d1, d2] }
  | _ => none }
def DyadTiesWrongFalsely : Prop := dyadTiesRow.holds Tryz.pinned (OpenSpec.ofChange dyadTiesWrong)

/-- 'zigguratlaw10.DyadTwice': WHATEVER THE INPUT: true; the input reads as it did. -/
def dyadTwiceSpec : ChangeSpec := { name := "dyadTwice", fn := fun _ => fun
  | [d1, d2, d3] => { results := [.lit (.bool true)], args := [d1, d2, d3] }
  | _ => none }
def dyadTwiceRow : OpenClaim := { program := "ytacjfpibilolnaagreatdoor", sum := "d4e8be04f8e2c72caa1ce8e27a14d83d41c04c9b50d967ee65769cdf032881bb", func := "ziggurat/zigguratlaw10.DyadTwice", spec := "dyadTwice", unfollowed := true, recurses := true, named := ["math/bits.overflowError", "math/bits.deBruijn32tab"], apart := false, laid := [("math/bits.deBruijn32tab", laid_math_bits_deBruijn32tab)] }
def DyadTwiceSaid : Prop := dyadTwiceRow.holds Tryz.pinned (OpenSpec.ofChange dyadTwiceSpec)

/-- ITS FALSE NEIGHBOUR: 'it returns false'. Refute it at one input. -/
def dyadTwiceWrong : ChangeSpec := { name := "dyadTwice", fn := fun _ => fun
  | [d1, d2, d3] => { results := [.lit (.bool false)], args := [d1, d2, d3] }
  | _ => none }
def DyadTwiceWrongFalsely : Prop := dyadTwiceRow.holds Tryz.pinned (OpenSpec.ofChange dyadTwiceWrong)

/-- 'zigguratlaw10.DyadMiddle': WHATEVER THE INPUT: true; the input reads as it did. -/
def dyadMiddleSpec : ChangeSpec := { name := "dyadMiddle", fn := fun _ => fun
  | [d1, d2, d3] => { results := [.lit (.bool true)], args := [d1, d2, d3] }
  | _ => none }
def dyadMiddleRow : OpenClaim := { program := "ytacjfpibilolnaagreatdoor", sum := "d4e8be04f8e2c72caa1ce8e27a14d83d41c04c9b50d967ee65769cdf032881bb", func := "ziggurat/zigguratlaw10.DyadMiddle", spec := "dyadMiddle", unfollowed := true, recurses := true, named := ["math/bits.overflowError", "math/bits.deBruijn32tab"], apart := false, laid := [("math/bits.deBruijn32tab", laid_math_bits_deBruijn32tab)] }
def DyadMiddleSaid : Prop := dyadMiddleRow.holds Tryz.pinned (OpenSpec.ofChange dyadMiddleSpec)

/-- ITS FALSE NEIGHBOUR: 'it returns false'. Refute it at one input. -/
def dyadMiddleWrong : ChangeSpec := { name := "dyadMiddle", fn := fun _ => fun
  | [d1, d2, d3] => { results := [.lit (.bool false)], args := [d1, d2, d3] }
  | _ => none }
def DyadMiddleWrongFalsely : Prop := dyadMiddleRow.holds Tryz.pinned (OpenSpec.ofChange dyadMiddleWrong)

/-- 'zigguratlaw10.DyadTells': WHATEVER THE INPUT: true; the input reads as it did. -/
def dyadTellsSpec : ChangeSpec := { name := "dyadTells", fn := fun _ => fun
  | [d1, d2, d3] => { results := [.lit (.bool true)], args := [d1, d2, d3] }
  | _ => none }
def dyadTellsRow : OpenClaim := { program := "ytacjfpibilolnaagreatdoor", sum := "d4e8be04f8e2c72caa1ce8e27a14d83d41c04c9b50d967ee65769cdf032881bb", func := "ziggurat/zigguratlaw10.DyadTells", spec := "dyadTells", inPlace := ["math/bits.Add64"], unfollowed := true, recurses := true, named := ["math/bits.overflowError", "math/bits.deBruijn32tab", "ziggurat/ntt.fields"], apart := false, laid := [("math/bits.deBruijn32tab", laid_math_bits_deBruijn32tab), ("ziggurat/ntt.fields", laid_ziggurat_ntt_fields)] }
def DyadTellsSaid : Prop := dyadTellsRow.holds Tryz.pinned (OpenSpec.ofChange dyadTellsSpec)

/-- ITS FALSE NEIGHBOUR: 'it returns false'. Refute it at one input. -/
def dyadTellsWrong : ChangeSpec := { name := "dyadTells", fn := fun _ => fun
  | [d1, d2, d3] => { results := [.lit (.bool false)], args := [d1, d2, d3] }
  | _ => none }
def DyadTellsWrongFalsely : Prop := dyadTellsRow.holds Tryz.pinned (OpenSpec.ofChange dyadTellsWrong)

/-- 'zigguratlaw10.DyadRing': WHATEVER THE INPUT: true; the input reads as it did. -/
def dyadRingSpec : ChangeSpec := { name := "dyadRing", fn := fun _ => fun
  | [d1, d2, d3] => { results := [.lit (.bool true)], args := [d1, d2, d3] }
  | _ => none }
def dyadRingRow : OpenClaim := { program := "ytacjfpibilolnaagreatdoor", sum := "d4e8be04f8e2c72caa1ce8e27a14d83d41c04c9b50d967ee65769cdf032881bb", func := "ziggurat/zigguratlaw10.DyadRing", spec := "dyadRing", inPlace := ["math/bits.Add64"], unfollowed := true, recurses := true, named := ["math/bits.overflowError", "math/bits.deBruijn32tab", "ziggurat/ntt.fields"], apart := false, laid := [("math/bits.deBruijn32tab", laid_math_bits_deBruijn32tab), ("ziggurat/ntt.fields", laid_ziggurat_ntt_fields)] }
def DyadRingSaid : Prop := dyadRingRow.holds Tryz.pinned (OpenSpec.ofChange dyadRingSpec)

/-- ITS FALSE NEIGHBOUR: 'it returns false'. Refute it at one input. -/
def dyadRingWrong : ChangeSpec := { name := "dyadRing", fn := fun _ => fun
  | [d1, d2, d3] => { results := [.lit (.bool false)], args := [d1, d2, d3] }
  | _ => none }
def DyadRingWrongFalsely : Prop := dyadRingRow.holds Tryz.pinned (OpenSpec.ofChange dyadRingWrong)

/-- 'zigguratlaw10.DyadRationals': WHATEVER THE INPUT: true; the input reads as it did. -/
def dyadRationalsSpec : ChangeSpec := { name := "dyadRationals", fn := fun _ => fun
  | [d1, d2, d3] => { results := [.lit (.bool true)], args := [d1, d2, d3] }
  | _ => none }
def dyadRationalsRow : OpenClaim := { program := "ytacjfpibilolnaagreatdoor", sum := "d4e8be04f8e2c72caa1ce8e27a14d83d41c04c9b50d967ee65769cdf032881bb", func := "ziggurat/zigguratlaw10.DyadRationals", spec := "dyadRationals", inPlace := ["math/bits.Add64"], unfollowed := true, recurses := true, named := ["math/bits.overflowError", "math/bits.deBruijn32tab", "ziggurat/ntt.fields"], apart := false, laid := [("math/bits.deBruijn32tab", laid_math_bits_deBruijn32tab), ("ziggurat/ntt.fields", laid_ziggurat_ntt_fields)] }
def DyadRationalsSaid : Prop := dyadRationalsRow.holds Tryz.pinned (OpenSpec.ofChange dyadRationalsSpec)

/-- ITS FALSE NEIGHBOUR: 'it returns false'. Refute it at one input. -/
def dyadRationalsWrong : ChangeSpec := { name := "dyadRationals", fn := fun _ => fun
  | [d1, d2, d3] => { results := [.lit (.bool false)], args := [d1, d2, d3] }
  | _ => none }
def DyadRationalsWrongFalsely : Prop := dyadRationalsRow.holds Tryz.pinned (OpenSpec.ofChange dyadRationalsWrong)

/- THE SECOND FORM. 'bulk': how many values and letters a reading holds, each counted each time it is reached (what is shared counts as often as it is met; a slice's spare places count too). A statement '..UptoSaid' is the law's where the arguments, and the package variables that the reading takes, are together of bulk at most 1048576: NARROWER than '..Said'. Prove '..Said' where nothing that the law and all that it calls make is longer than what came in: it says more and counts as full. Else prove '..UptoSaid'. A law counts once. -/
mutual
def uptoBulk {H : Type} : DataW H → Nat
  | .lit (.string bytes) => bytes.length + 1
  | .lit _ => 1
  | .nil => 1
  | .ptr d => uptoBulk d + 1
  | .slice elems spare => uptoBulkAll elems + uptoBulkAll spare + 1
  | .agg parts => uptoBulkAll parts + 1
  | .iface _ d => uptoBulk d + 1
  | .map entries => uptoBulkEntries entries + 1
  | .held _ => 1
def uptoBulkAll {H : Type} : List (DataW H) → Nat
  | [] => 0
  | d :: r => uptoBulk d + uptoBulkAll r
def uptoBulkEntries {H : Type} : List (Lit × DataW H) → Nat
  | [] => 0
  | x :: r => uptoBulkEntry x + uptoBulkEntries r
def uptoBulkEntry {H : Type} : Lit × DataW H → Nat
  | (.string bytes, d) => bytes.length + uptoBulk d + 1
  | (_, d) => uptoBulk d + 1
 end
def uptoSmall : (H : Type) → List (DataW H) → Bool := fun _ ds => decide (uptoBulkAll ds ≤ 1048576)
def OpenSpec.upto (s : _root_.Go.ChangeSpec) : _root_.Go.OpenSpec := { _root_.Go.OpenSpec.ofChange s with cond := some uptoSmall }

/-- 'zigguratlaw10.DyadRounds', WHERE WHAT IT READS IS OF BULK AT MOST 1048576: true; the input reads as it did. -/
def dyadRoundsUptoRow : OpenClaim := { program := "ytacjfpibilolnaagreatdoor", sum := "d4e8be04f8e2c72caa1ce8e27a14d83d41c04c9b50d967ee65769cdf032881bb", func := "ziggurat/zigguratlaw10.DyadRounds", spec := "dyadRounds", unfollowed := true, recurses := true, named := ["math/bits.overflowError", "math/bits.deBruijn32tab"], apart := false, laid := [("math/bits.deBruijn32tab", laid_math_bits_deBruijn32tab)], narrowed := true }
def DyadRoundsUptoSaid : Prop := dyadRoundsUptoRow.holds Tryz.pinned (OpenSpec.upto dyadRoundsSpec)

/-- 'zigguratlaw10.DyadMakes', WHERE WHAT IT READS IS OF BULK AT MOST 1048576: true; the input reads as it did. -/
def dyadMakesUptoRow : OpenClaim := { program := "ytacjfpibilolnaagreatdoor", sum := "d4e8be04f8e2c72caa1ce8e27a14d83d41c04c9b50d967ee65769cdf032881bb", func := "ziggurat/zigguratlaw10.DyadMakes", spec := "dyadMakes", unfollowed := true, recurses := true, named := ["math/bits.overflowError", "math/bits.deBruijn32tab"], apart := false, laid := [("math/bits.deBruijn32tab", laid_math_bits_deBruijn32tab)], narrowed := true }
def DyadMakesUptoSaid : Prop := dyadMakesUptoRow.holds Tryz.pinned (OpenSpec.upto dyadMakesSpec)

/-- 'zigguratlaw10.DyadSides', WHERE WHAT IT READS IS OF BULK AT MOST 1048576: true; the input reads as it did. -/
def dyadSidesUptoRow : OpenClaim := { program := "ytacjfpibilolnaagreatdoor", sum := "d4e8be04f8e2c72caa1ce8e27a14d83d41c04c9b50d967ee65769cdf032881bb", func := "ziggurat/zigguratlaw10.DyadSides", spec := "dyadSides", unfollowed := true, recurses := true, named := ["math/bits.overflowError", "math/bits.deBruijn32tab"], apart := false, laid := [("math/bits.deBruijn32tab", laid_math_bits_deBruijn32tab)], narrowed := true }
def DyadSidesUptoSaid : Prop := dyadSidesUptoRow.holds Tryz.pinned (OpenSpec.upto dyadSidesSpec)

/-- 'zigguratlaw10.DyadTies', WHERE WHAT IT READS IS OF BULK AT MOST 1048576: true; the input reads as it did. -/
def dyadTiesUptoRow : OpenClaim := { program := "ytacjfpibilolnaagreatdoor", sum := "d4e8be04f8e2c72caa1ce8e27a14d83d41c04c9b50d967ee65769cdf032881bb", func := "ziggurat/zigguratlaw10.DyadTies", spec := "dyadTies", unfollowed := true, recurses := true, named := ["math/bits.overflowError", "math/bits.deBruijn32tab"], apart := false, laid := [("math/bits.deBruijn32tab", laid_math_bits_deBruijn32tab)], narrowed := true }
def DyadTiesUptoSaid : Prop := dyadTiesUptoRow.holds Tryz.pinned (OpenSpec.upto dyadTiesSpec)

/-- 'zigguratlaw10.DyadTwice', WHERE WHAT IT READS IS OF BULK AT MOST 1048576: true; the input reads as it did. -/
def dyadTwiceUptoRow : OpenClaim := { program := "ytacjfpibilolnaagreatdoor", sum := "d4e8be04f8e2c72caa1ce8e27a14d83d41c04c9b50d967ee65769cdf032881bb", func := "ziggurat/zigguratlaw10.DyadTwice", spec := "dyadTwice", unfollowed := true, recurses := true, named := ["math/bits.overflowError", "math/bits.deBruijn32tab"], apart := false, laid := [("math/bits.deBruijn32tab", laid_math_bits_deBruijn32tab)], narrowed := true }
def DyadTwiceUptoSaid : Prop := dyadTwiceUptoRow.holds Tryz.pinned (OpenSpec.upto dyadTwiceSpec)

/-- 'zigguratlaw10.DyadMiddle', WHERE WHAT IT READS IS OF BULK AT MOST 1048576: true; the input reads as it did. -/
def dyadMiddleUptoRow : OpenClaim := { program := "ytacjfpibilolnaagreatdoor", sum := "d4e8be04f8e2c72caa1ce8e27a14d83d41c04c9b50d967ee65769cdf032881bb", func := "ziggurat/zigguratlaw10.DyadMiddle", spec := "dyadMiddle", unfollowed := true, recurses := true, named := ["math/bits.overflowError", "math/bits.deBruijn32tab"], apart := false, laid := [("math/bits.deBruijn32tab", laid_math_bits_deBruijn32tab)], narrowed := true }
def DyadMiddleUptoSaid : Prop := dyadMiddleUptoRow.holds Tryz.pinned (OpenSpec.upto dyadMiddleSpec)

/-- 'zigguratlaw10.DyadTells', WHERE WHAT IT READS IS OF BULK AT MOST 1048576: true; the input reads as it did. -/
def dyadTellsUptoRow : OpenClaim := { program := "ytacjfpibilolnaagreatdoor", sum := "d4e8be04f8e2c72caa1ce8e27a14d83d41c04c9b50d967ee65769cdf032881bb", func := "ziggurat/zigguratlaw10.DyadTells", spec := "dyadTells", inPlace := ["math/bits.Add64"], unfollowed := true, recurses := true, named := ["math/bits.overflowError", "math/bits.deBruijn32tab", "ziggurat/ntt.fields"], apart := false, laid := [("math/bits.deBruijn32tab", laid_math_bits_deBruijn32tab), ("ziggurat/ntt.fields", laid_ziggurat_ntt_fields)], narrowed := true }
def DyadTellsUptoSaid : Prop := dyadTellsUptoRow.holds Tryz.pinned (OpenSpec.upto dyadTellsSpec)

/-- 'zigguratlaw10.DyadRing', WHERE WHAT IT READS IS OF BULK AT MOST 1048576: true; the input reads as it did. -/
def dyadRingUptoRow : OpenClaim := { program := "ytacjfpibilolnaagreatdoor", sum := "d4e8be04f8e2c72caa1ce8e27a14d83d41c04c9b50d967ee65769cdf032881bb", func := "ziggurat/zigguratlaw10.DyadRing", spec := "dyadRing", inPlace := ["math/bits.Add64"], unfollowed := true, recurses := true, named := ["math/bits.overflowError", "math/bits.deBruijn32tab", "ziggurat/ntt.fields"], apart := false, laid := [("math/bits.deBruijn32tab", laid_math_bits_deBruijn32tab), ("ziggurat/ntt.fields", laid_ziggurat_ntt_fields)], narrowed := true }
def DyadRingUptoSaid : Prop := dyadRingUptoRow.holds Tryz.pinned (OpenSpec.upto dyadRingSpec)

/-- 'zigguratlaw10.DyadRationals', WHERE WHAT IT READS IS OF BULK AT MOST 1048576: true; the input reads as it did. -/
def dyadRationalsUptoRow : OpenClaim := { program := "ytacjfpibilolnaagreatdoor", sum := "d4e8be04f8e2c72caa1ce8e27a14d83d41c04c9b50d967ee65769cdf032881bb", func := "ziggurat/zigguratlaw10.DyadRationals", spec := "dyadRationals", inPlace := ["math/bits.Add64"], unfollowed := true, recurses := true, named := ["math/bits.overflowError", "math/bits.deBruijn32tab", "ziggurat/ntt.fields"], apart := false, laid := [("math/bits.deBruijn32tab", laid_math_bits_deBruijn32tab), ("ziggurat/ntt.fields", laid_ziggurat_ntt_fields)], narrowed := true }
def DyadRationalsUptoSaid : Prop := dyadRationalsUptoRow.holds Tryz.pinned (OpenSpec.upto dyadRationalsSpec)

end Rows
end Go.Proofs.YtacjfpibilolnaaGreatDoor
