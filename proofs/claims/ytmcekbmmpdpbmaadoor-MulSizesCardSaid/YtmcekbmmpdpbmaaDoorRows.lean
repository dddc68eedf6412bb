/-
  NARROWER THAN 'FOR EVERY INPUT', by the rows' own cells (each row's printed sentence says how): MulTells: laid · MulCarries: laid · MulRing: laid · MulRests: laid · MulShifts: laid · MulSquares: laid · MulPowers: laid · MulSums: laid · MulSizes: laid.
  DERIVED. THE GIVEN ROWS OF THIS SEAT. 9 by the template 'for every input the law returns true; each argument reads behind the call as it read before'; 0 by the template 'total and deterministic' (their statements: YtmcekbmmpdpbmaaDoorTotals.lean).
  GIVEN WITH THE SEED: the statements are not yours to turn. If you find one false, say at which input.
  Laid BY PROGRAM, IN A SANDBOX (cutbox-rows.mjs): the forced cells as the released guide's own fill.sh prints them over the translation d5a9ede03cd489fc… (all of the seat's roots in one cut). By AI agents, Wed Nov 11 2026. No macro, syntax, notation, axiom, sorry.
-/
import Derived.Test.YtmcekbmmpdpbmaaDoorChecked
import GoSem.Claim
import GoSem.ClaimJoined
import GoSem.ClaimMapViews
import Derived.JoinedTies
import Derived.KernelRfl
namespace Go.Proofs.YtmcekbmmpdpbmaaDoor
/- THE CELL 'sum', in the pinned program and in every row, IS THE sha256 OF THE DUMP (.gsa) THAT YtmcekbmmpdpbmaaDoorProg.lean LOADS. Nothing in Lean hashes anything: it is a label: what it is worth is what the hold of that sum in a sandbox is worth. -/
noncomputable def Tryd.pinned : Pinned := { name := "ytmcekbmmpdpbmaadoor", sum := "d5a9ede03cd489fc657d21c7f67cc99dcc56a7671217708861d8f0323a05369d", checked := Tryd.checked }
namespace Rows
def none {H : Type} : Left H := { results := [], args := [] }

/- WHAT THE LISTED PACKAGE-LEVEL VARIABLES READ AS WHEN THE CALL BEGINS. Each datum BY PROGRAM (the guide's laid-datum.mjs) off the statement by which the dump's own 'gosem.cut.vars' lays the variable. In a bare row this is a premise. The card (YtmcekbmmpdpbmaaDoorCards.lean) ties it to the program's text. -/
def laid_ziggurat_ntt_fields {H : Type} : DataW H := .agg [.agg [.lit (.int .u64 998244353)], .agg [.lit (.int .u64 469762049)], .agg [.lit (.int .u64 167772161)]]

/-- 'zigguratlaw03.MulTells': WHATEVER THE INPUT: true; the input reads as it did. -/
def mulTellsSpec : ChangeSpec := { name := "mulTells", fn := fun _ => fun
  | [d1, d2] => { results := [.lit (.bool true)], args := [d1, d2] }
  | _ => none }
def mulTellsRow : OpenClaim := { program := "ytmcekbmmpdpbmaadoor", sum := "d5a9ede03cd489fc657d21c7f67cc99dcc56a7671217708861d8f0323a05369d", func := "ziggurat/zigguratlaw03.MulTells", spec := "mulTells", inPlace := ["math/bits.Add64"], unfollowed := true, recurses := true, named := ["ziggurat/ntt.fields"], apart := false, laid := [("ziggurat/ntt.fields", laid_ziggurat_ntt_fields)] }
def MulTellsSaid : Prop := mulTellsRow.holds Tryd.pinned (OpenSpec.ofChange mulTellsSpec)

/-- ITS FALSE NEIGHBOUR: 'it returns false'. Refute it at one input. -/
def mulTellsWrong : ChangeSpec := { name := "mulTells", fn := fun _ => fun
  | [d1, d2] => { results := [.lit (.bool false)], args := [d1, d2] }
  | _ => none }
def MulTellsWrongFalsely : Prop := mulTellsRow.holds Tryd.pinned (OpenSpec.ofChange mulTellsWrong)

/-- 'zigguratlaw03.MulCarries': WHATEVER THE INPUT: true; the input reads as it did. -/
def mulCarriesSpec : ChangeSpec := { name := "mulCarries", fn := fun _ => fun
  | [d1, d2, d3] => { results := [.lit (.bool true)], args := [d1, d2, d3] }
  | _ => none }
def mulCarriesRow : OpenClaim := { program := "ytmcekbmmpdpbmaadoor", sum := "d5a9ede03cd489fc657d21c7f67cc99dcc56a7671217708861d8f0323a05369d", func := "ziggurat/zigguratlaw03.MulCarries", spec := "mulCarries", inPlace := ["math/bits.Add64"], unfollowed := true, recurses := true, named := ["ziggurat/ntt.fields"], apart := false, laid := [("ziggurat/ntt.fields", laid_ziggurat_ntt_fields)] }
def MulCarriesSaid : Prop := mulCarriesRow.holds Tryd.pinned (OpenSpec.ofChange mulCarriesSpec)

/-- ITS FALSE NEIGHBOUR: 'it returns false'. Refute it at one input. -/
def mulCarriesWrong : ChangeSpec := { name := "mulCarries", fn := fun _ => fun
  | [d1, d2, d3] => { results := [.lit (.bool false)], args := [d1, d2, d3] }
  | _ => none }
def MulCarriesWrongFalsely : Prop := mulCarriesRow.holds Tryd.pinned (OpenSpec.ofChange mulCarriesWrong)

/-- 'zigguratlaw03.MulRing': WHATEVER THE INPUT: true; the input reads as it did. -/
def mulRingSpec : ChangeSpec := { name := "mulRing", fn := fun _ => fun
  | [d1, d2, d3] => { results := [.lit (.bool true)], args := [d1, d2, d3] }
  | _ => none }
def mulRingRow : OpenClaim := { program := "ytmcekbmmpdpbmaadoor", sum := "d5a9ede03cd489fc657d21c7f67cc99dcc56a7671217708861d8f0323a05369d", func := "ziggurat/zigguratlaw03.MulRing", spec := "mulRing", inPlace := ["math/bits.Add64"], unfollowed := true, recurses := true, named := ["ziggurat/ntt.fields"], apart := false, laid := [("ziggurat/ntt.fields", laid_ziggurat_ntt_fields)] }
def MulRingSaid : Prop := mulRingRow.holds Tryd.pinned (OpenSpec.ofChange mulRingSpec)

/-- ITS FALSE NEIGHBOUR: 'it returns false'. Refute it at one input. -/
def mulRingWrong : ChangeSpec := { name := "mulRing", fn := fun _ => fun
  | [d1, d2, d3] => { results := [.lit (.bool false)], args := [d1, d2, d3] }
  | _ => none }
def MulRingWrongFalsely : Prop := mulRingRow.holds Tryd.pinned (OpenSpec.ofChange mulRingWrong)

/-- 'zigguratlaw03.MulRests': WHATEVER THE INPUT: true; the input reads as it did. -/
def mulRestsSpec : ChangeSpec := { name := "mulRests", fn := fun _ => fun
  | [d1, d2, d3] => { results := [.lit (.bool true)], args := [d1, d2, d3] }
  | _ => none }
def mulRestsRow : OpenClaim := { program := "ytmcekbmmpdpbmaadoor", sum := "d5a9ede03cd489fc657d21c7f67cc99dcc56a7671217708861d8f0323a05369d", func := "ziggurat/zigguratlaw03.MulRests", spec := "mulRests", inPlace := ["math/bits.Add64"], unfollowed := true, recurses := true, named := ["ziggurat/ntt.fields"], apart := false, laid := [("ziggurat/ntt.fields", laid_ziggurat_ntt_fields)] }
def MulRestsSaid : Prop := mulRestsRow.holds Tryd.pinned (OpenSpec.ofChange mulRestsSpec)

/-- ITS FALSE NEIGHBOUR: 'it returns false'. Refute it at one input. -/
def mulRestsWrong : ChangeSpec := { name := "mulRests", fn := fun _ => fun
  | [d1, d2, d3] => { results := [.lit (.bool false)], args := [d1, d2, d3] }
  | _ => none }
def MulRestsWrongFalsely : Prop := mulRestsRow.holds Tryd.pinned (OpenSpec.ofChange mulRestsWrong)

/-- 'zigguratlaw03.MulShifts': WHATEVER THE INPUT: true; the input reads as it did. -/
def mulShiftsSpec : ChangeSpec := { name := "mulShifts", fn := fun _ => fun
  | [d1, d2, d3] => { results := [.lit (.bool true)], args := [d1, d2, d3] }
  | _ => none }
def mulShiftsRow : OpenClaim := { program := "ytmcekbmmpdpbmaadoor", sum := "d5a9ede03cd489fc657d21c7f67cc99dcc56a7671217708861d8f0323a05369d", func := "ziggurat/zigguratlaw03.MulShifts", spec := "mulShifts", inPlace := ["math/bits.Add64"], unfollowed := true, recurses := true, named := ["ziggurat/ntt.fields"], apart := false, laid := [("ziggurat/ntt.fields", laid_ziggurat_ntt_fields)] }
def MulShiftsSaid : Prop := mulShiftsRow.holds Tryd.pinned (OpenSpec.ofChange mulShiftsSpec)

/-- ITS FALSE NEIGHBOUR: 'it returns false'. Refute it at one input. -/
def mulShiftsWrong : ChangeSpec := { name := "mulShifts", fn := fun _ => fun
  | [d1, d2, d3] => { results := [.lit (.bool false)], args := [d1, d2, d3] }
  | _ => none }
def MulShiftsWrongFalsely : Prop := mulShiftsRow.holds Tryd.pinned (OpenSpec.ofChange mulShiftsWrong)

/-- 'zigguratlaw03.MulSquares': WHATEVER THE INPUT: true; the input reads as it did. -/
def mulSquaresSpec : ChangeSpec := { name := "mulSquares", fn := fun _ => fun
  | [d1, d2, d3] => { results := [.lit (.bool true)], args := [d1, d2, d3] }
  | _ => none }
def mulSquaresRow : OpenClaim := { program := "ytmcekbmmpdpbmaadoor", sum := "d5a9ede03cd489fc657d21c7f67cc99dcc56a7671217708861d8f0323a05369d", func := "ziggurat/zigguratlaw03.MulSquares", spec := "mulSquares", inPlace := ["math/bits.Add64"], unfollowed := true, recurses := true, named := ["ziggurat/ntt.fields"], apart := false, laid := [("ziggurat/ntt.fields", laid_ziggurat_ntt_fields)] }
def MulSquaresSaid : Prop := mulSquaresRow.holds Tryd.pinned (OpenSpec.ofChange mulSquaresSpec)

/-- ITS FALSE NEIGHBOUR: 'it returns false'. Refute it at one input. -/
def mulSquaresWrong : ChangeSpec := { name := "mulSquares", fn := fun _ => fun
  | [d1, d2, d3] => { results := [.lit (.bool false)], args := [d1, d2, d3] }
  | _ => none }
def MulSquaresWrongFalsely : Prop := mulSquaresRow.holds Tryd.pinned (OpenSpec.ofChange mulSquaresWrong)

/-- 'zigguratlaw03.MulPowers': WHATEVER THE INPUT: true; the input reads as it did. -/
def mulPowersSpec : ChangeSpec := { name := "mulPowers", fn := fun _ => fun
  | [d1, d2, d3] => { results := [.lit (.bool true)], args := [d1, d2, d3] }
  | _ => none }
def mulPowersRow : OpenClaim := { program := "ytmcekbmmpdpbmaadoor", sum := "d5a9ede03cd489fc657d21c7f67cc99dcc56a7671217708861d8f0323a05369d", func := "ziggurat/zigguratlaw03.MulPowers", spec := "mulPowers", inPlace := ["math/bits.Add64"], unfollowed := true, recurses := true, named := ["ziggurat/ntt.fields"], apart := false, laid := [("ziggurat/ntt.fields", laid_ziggurat_ntt_fields)] }
def MulPowersSaid : Prop := mulPowersRow.holds Tryd.pinned (OpenSpec.ofChange mulPowersSpec)

/-- ITS FALSE NEIGHBOUR: 'it returns false'. Refute it at one input. -/
def mulPowersWrong : ChangeSpec := { name := "mulPowers", fn := fun _ => fun
  | [d1, d2, d3] => { results := [.lit (.bool false)], args := [d1, d2, d3] }
  | _ => none }
def MulPowersWrongFalsely : Prop := mulPowersRow.holds Tryd.pinned (OpenSpec.ofChange mulPowersWrong)

/-- 'zigguratlaw03.MulSums': WHATEVER THE INPUT: true; the input reads as it did. -/
def mulSumsSpec : ChangeSpec := { name := "mulSums", fn := fun _ => fun
  | [d1, d2, d3] => { results := [.lit (.bool true)], args := [d1, d2, d3] }
  | _ => none }
def mulSumsRow : OpenClaim := { program := "ytmcekbmmpdpbmaadoor", sum := "d5a9ede03cd489fc657d21c7f67cc99dcc56a7671217708861d8f0323a05369d", func := "ziggurat/zigguratlaw03.MulSums", spec := "mulSums", inPlace := ["math/bits.Add64"], unfollowed := true, recurses := true, named := ["ziggurat/ntt.fields"], apart := false, laid := [("ziggurat/ntt.fields", laid_ziggurat_ntt_fields)] }
def MulSumsSaid : Prop := mulSumsRow.holds Tryd.pinned (OpenSpec.ofChange mulSumsSpec)

/-- ITS FALSE NEIGHBOUR: 'it returns false'. Refute it at one input. -/
def mulSumsWrong : ChangeSpec := { name := "mulSums", fn := fun _ => fun
  | [d1, d2, d3] => { results := [.lit (.bool false)], args := [d1, d2, d3] }
  | _ => none }
def MulSumsWrongFalsely : Prop := mulSumsRow.holds Tryd.pinned (OpenSpec.ofChange mulSumsWrong)

/-- 'zigguratlaw03.MulSizes': WHATEVER THE INPUT: true; the input reads as it did. -/
def mulSizesSpec : ChangeSpec := { name := "mulSizes", fn := fun _ => fun
  | [d1, d2] => { results := [.lit (.bool true)], args := [d1, d2] }
  | _ => none }
def mulSizesRow : OpenClaim := { program := "ytmcekbmmpdpbmaadoor", sum := "d5a9ede03cd489fc657d21c7f67cc99dcc56a7671217708861d8f0323a05369d", func := "ziggurat/zigguratlaw03.MulSizes", spec := "mulSizes", inPlace := ["math/bits.Add64"], unfollowed := true, recurses := true, named := ["ziggurat/ntt.fields"], apart := false, laid := [("ziggurat/ntt.fields", laid_ziggurat_ntt_fields)] }
def MulSizesSaid : Prop := mulSizesRow.holds Tryd.pinned (OpenSpec.ofChange mulSizesSpec)

/-- ITS FALSE NEIGHBOUR: 'it returns false'. Refute it at one input. -/
def mulSizesWrong : ChangeSpec := { name := "mulSizes", fn := fun _ => fun
  | [d1, d2] => { results := [.lit (.bool false)], args := [d1, d2] }
  | _ => none }
def MulSizesWrongFalsely : Prop := mulSizesRow.holds Tryd.pinned (OpenSpec.ofChange mulSizesWrong)

/- THE SECOND FORM. 'bulk': how many values and letters a reading holds, each counted each time it is reached (what is shared counts as often as it is met; a slice's spare places count too). A statement '..UptoSaid' is the law's where the arguments, and the package variables that the reading takes, are together of bulk at most 1048576: NARROWER than '..Said'. Prove '..Said' where nothing that the law and all that it calls make is longer than what came in: it says more and counts as full. Else prove '..UptoSaid'. A law counts once. -/
mutual
def uptoBulk {H : Type} : DataW H → Nat
  | .lit (.string bytes) => bytes.length + 1
  | .lit _ => 1
  | .nil => 1
  | .ptr d => uptoBulk d + 1
  | .slice elems spare => uptoBulkAll elems + uptoBulkAll spare + 1
  | .agg parts => uptoBulkAll parts + 1
  | .iface _ d => uptoBulk d + 1
  | .map entries => uptoBulkEntries entries + 1
  | .held _ => 1
def uptoBulkAll {H : Type} : List (DataW H) → Nat
  | [] => 0
  | d :: r => uptoBulk d + uptoBulkAll r
def uptoBulkEntries {H : Type} : List (Lit × DataW H) → Nat
  | [] => 0
  | x :: r => uptoBulkEntry x + uptoBulkEntries r
def uptoBulkEntry {H : Type} : Lit × DataW H → Nat
  | (.string bytes, d) => bytes.length + uptoBulk d + 1
  | (_, d) => uptoBulk d + 1
 end
def uptoSmall : (H : Type) → List (DataW H) → Bool := fun _ ds => decide (uptoBulkAll ds ≤ 1048576)
def OpenSpec.upto (s : _root_.Go.ChangeSpec) : _root_.Go.OpenSpec := { _root_.Go.OpenSpec.ofChange s with cond := some uptoSmall }

/-- 'zigguratlaw03.MulTells', WHERE WHAT IT READS IS OF BULK AT MOST 1048576: true; the input reads as it did. -/
def mulTellsUptoRow : OpenClaim := { program := "ytmcekbmmpdpbmaadoor", sum := "d5a9ede03cd489fc657d21c7f67cc99dcc56a7671217708861d8f0323a05369d", func := "ziggurat/zigguratlaw03.MulTells", spec := "mulTells", inPlace := ["math/bits.Add64"], unfollowed := true, recurses := true, named := ["ziggurat/ntt.fields"], apart := false, laid := [("ziggurat/ntt.fields", laid_ziggurat_ntt_fields)], narrowed := true }
def MulTellsUptoSaid : Prop := mulTellsUptoRow.holds Tryd.pinned (OpenSpec.upto mulTellsSpec)

/-- 'zigguratlaw03.MulCarries', WHERE WHAT IT READS IS OF BULK AT MOST 1048576: true; the input reads as it did. -/
def mulCarriesUptoRow : OpenClaim := { program := "ytmcekbmmpdpbmaadoor", sum := "d5a9ede03cd489fc657d21c7f67cc99dcc56a7671217708861d8f0323a05369d", func := "ziggurat/zigguratlaw03.MulCarries", spec := "mulCarries", inPlace := ["math/bits.Add64"], unfollowed := true, recurses := true, named := ["ziggurat/ntt.fields"], apart := false, laid := [("ziggurat/ntt.fields", laid_ziggurat_ntt_fields)], narrowed := true }
def MulCarriesUptoSaid : Prop := mulCarriesUptoRow.holds Tryd.pinned (OpenSpec.upto mulCarriesSpec)

/-- 'zigguratlaw03.MulRing', WHERE WHAT IT READS IS OF BULK AT MOST 1048576: true; the input reads as it did. -/
def mulRingUptoRow : OpenClaim := { program := "ytmcekbmmpdpbmaadoor", sum := "d5a9ede03cd489fc657d21c7f67cc99dcc56a7671217708861d8f0323a05369d", func := "ziggurat/zigguratlaw03.MulRing", spec := "mulRing", inPlace := ["math/bits.Add64"], unfollowed := true, recurses := true, named := ["ziggurat/ntt.fields"], apart := false, laid := [("ziggurat/ntt.fields", laid_ziggurat_ntt_fields)], narrowed := true }
def MulRingUptoSaid : Prop := mulRingUptoRow.holds Tryd.pinned (OpenSpec.upto mulRingSpec)

/-- 'zigguratlaw03.MulRests', WHERE WHAT IT READS IS OF BULK AT MOST 1048576: true; the input reads as it did. -/
def mulRestsUptoRow : OpenClaim := { program := "ytmcekbmmpdpbmaadoor", sum := "d5a9ede03cd489fc657d21c7f67cc99dcc56a7671217708861d8f0323a05369d", func := "ziggurat/zigguratlaw03.MulRests", spec := "mulRests", inPlace := ["math/bits.Add64"], unfollowed := true, recurses := true, named := ["ziggurat/ntt.fields"], apart := false, laid := [("ziggurat/ntt.fields", laid_ziggurat_ntt_fields)], narrowed := true }
def MulRestsUptoSaid : Prop := mulRestsUptoRow.holds Tryd.pinned (OpenSpec.upto mulRestsSpec)

/-- 'zigguratlaw03.MulShifts', WHERE WHAT IT READS IS OF BULK AT MOST 1048576: true; the input reads as it did. -/
def mulShiftsUptoRow : OpenClaim := { program := "ytmcekbmmpdpbmaadoor", sum := "d5a9ede03cd489fc657d21c7f67cc99dcc56a7671217708861d8f0323a05369d", func := "ziggurat/zigguratlaw03.MulShifts", spec := "mulShifts", inPlace := ["math/bits.Add64"], unfollowed := true, recurses := true, named := ["ziggurat/ntt.fields"], apart := false, laid := [("ziggurat/ntt.fields", laid_ziggurat_ntt_fields)], narrowed := true }
def MulShiftsUptoSaid : Prop := mulShiftsUptoRow.holds Tryd.pinned (OpenSpec.upto mulShiftsSpec)

/-- 'zigguratlaw03.MulSquares', WHERE WHAT IT READS IS OF BULK AT MOST 1048576: true; the input reads as it did. -/
def mulSquaresUptoRow : OpenClaim := { program := "ytmcekbmmpdpbmaadoor", sum := "d5a9ede03cd489fc657d21c7f67cc99dcc56a7671217708861d8f0323a05369d", func := "ziggurat/zigguratlaw03.MulSquares", spec := "mulSquares", inPlace := ["math/bits.Add64"], unfollowed := true, recurses := true, named := ["ziggurat/ntt.fields"], apart := false, laid := [("ziggurat/ntt.fields", laid_ziggurat_ntt_fields)], narrowed := true }
def MulSquaresUptoSaid : Prop := mulSquaresUptoRow.holds Tryd.pinned (OpenSpec.upto mulSquaresSpec)

/-- 'zigguratlaw03.MulPowers', WHERE WHAT IT READS IS OF BULK AT MOST 1048576: true; the input reads as it did. -/
def mulPowersUptoRow : OpenClaim := { program := "ytmcekbmmpdpbmaadoor", sum := "d5a9ede03cd489fc657d21c7f67cc99dcc56a7671217708861d8f0323a05369d", func := "ziggurat/zigguratlaw03.MulPowers", spec := "mulPowers", inPlace := ["math/bits.Add64"], unfollowed := true, recurses := true, named := ["ziggurat/ntt.fields"], apart := false, laid := [("ziggurat/ntt.fields", laid_ziggurat_ntt_fields)], narrowed := true }
def MulPowersUptoSaid : Prop := mulPowersUptoRow.holds Tryd.pinned (OpenSpec.upto mulPowersSpec)

/-- 'zigguratlaw03.MulSums', WHERE WHAT IT READS IS OF BULK AT MOST 1048576: true; the input reads as it did. -/
def mulSumsUptoRow : OpenClaim := { program := "ytmcekbmmpdpbmaadoor", sum := "d5a9ede03cd489fc657d21c7f67cc99dcc56a7671217708861d8f0323a05369d", func := "ziggurat/zigguratlaw03.MulSums", spec := "mulSums", inPlace := ["math/bits.Add64"], unfollowed := true, recurses := true, named := ["ziggurat/ntt.fields"], apart := false, laid := [("ziggurat/ntt.fields", laid_ziggurat_ntt_fields)], narrowed := true }
def MulSumsUptoSaid : Prop := mulSumsUptoRow.holds Tryd.pinned (OpenSpec.upto mulSumsSpec)

/-- 'zigguratlaw03.MulSizes', WHERE WHAT IT READS IS OF BULK AT MOST 1048576: true; the input reads as it did. -/
def mulSizesUptoRow : OpenClaim := { program := "ytmcekbmmpdpbmaadoor", sum := "d5a9ede03cd489fc657d21c7f67cc99dcc56a7671217708861d8f0323a05369d", func := "ziggurat/zigguratlaw03.MulSizes", spec := "mulSizes", inPlace := ["math/bits.Add64"], unfollowed := true, recurses := true, named := ["ziggurat/ntt.fields"], apart := false, laid := [("ziggurat/ntt.fields", laid_ziggurat_ntt_fields)], narrowed := true }
def MulSizesUptoSaid : Prop := mulSizesUptoRow.holds Tryd.pinned (OpenSpec.upto mulSizesSpec)

end Rows
end Go.Proofs.YtmcekbmmpdpbmaaDoor
