/-
  DERIVED. GIVEN WITH THE SEED: THE CARDS: each row of YthcmoimlnhghcaaDoorRows.lean that lists a variable, with what it lists TIED to the program's text (the seventh form; the later family's looks); each row that meets fmt, with fmt's text TOLD by the authors' own Lean function (tested against real Go, not proved from fmt's source: count such statements apart). THE CARD IS WHAT COUNTS. Prove the row's statement (the work); the ties are given (YthcmoimlnhghcaaDoorTie.lean); close each card by the builder's one call (the guide's Derived/Test/ToyasCard.lean, 'card_holds'). Laid BY PROGRAM, IN A SANDBOX (cutbox-door.mjs). By AI agents, Wed Nov 11 2026. No macro, syntax, notation, axiom, sorry.
-/
import Derived.Test.YthcmoimlnhghcaaDoorRows
import GoSem.ClaimSeven
namespace Go.Proofs.YthcmoimlnhghcaaDoor
namespace Rows

/-- THE TIED CARD OF 'zigguratlaw07.GcdQuots'. -/
def gcdQuotsCard : Claim7 := { stood := { row := gcdQuotsRow, standIns := [], harness := (true, "c976c6376ce6d7edeb122e64acb01d9a139ea42f6c76165c59ea57d2d040d815"), looks := false }, kinds := [], alts := [], laidByText := true, laidKinds := [.data], laidTests := true, laidLooks := .later }
def GcdQuotsCardSaid : Prop := Claim7.holds Tryd.pinned (.plain (OpenSpec.ofChange gcdQuotsSpec)) gcdQuotsCard

/-- THE SECOND FORM's CARD OF 'zigguratlaw07.GcdQuots'. -/
def gcdQuotsUptoCard : Claim7 := { stood := { row := gcdQuotsUptoRow, standIns := [], harness := (true, "c976c6376ce6d7edeb122e64acb01d9a139ea42f6c76165c59ea57d2d040d815"), looks := false }, kinds := [], alts := [], laidByText := true, laidKinds := [.data], laidTests := true, laidLooks := .later }
def GcdQuotsUptoCardSaid : Prop := Claim7.holds Tryd.pinned (.plain (OpenSpec.upto gcdQuotsSpec)) gcdQuotsUptoCard
end Rows
end Go.Proofs.YthcmoimlnhghcaaDoor
