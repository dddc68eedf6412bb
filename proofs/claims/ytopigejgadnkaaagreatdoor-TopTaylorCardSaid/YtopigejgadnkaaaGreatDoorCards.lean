/-
  DERIVED. GIVEN WITH THE SEED: THE CARDS: each row of YtopigejgadnkaaaGreatDoorRows.lean that lists a variable, with what it lists TIED to the program's text (the seventh form; the later family's looks); each row that meets fmt, with fmt's text TOLD by the authors' own Lean function (tested against real Go, not proved from fmt's source: count such statements apart). THE CARD IS WHAT COUNTS. Prove the row's statement (the work); the ties are given (YtopigejgadnkaaaGreatDoorTie.lean); close each card by the builder's one call (the guide's Derived/Test/ToyasCard.lean, 'card_holds'). Laid BY PROGRAM, IN A SANDBOX (cutbox-door.mjs). By AI agents, Wed Nov 11 2026. No macro, syntax, notation, axiom, sorry.
-/
import Derived.Test.YtopigejgadnkaaaGreatDoorRows
import GoSem.ClaimSeven
namespace Go.Proofs.YtopigejgadnkaaaGreatDoor
namespace Rows

/-- THE TIED CARD OF 'ziggurattop.TopFloors'. -/
def topFloorsCard : Claim7 := { stood := { row := topFloorsRow, standIns := [], harness := (true, "1b099f4291bf57a8abed1a666a9375baa10b5959ea2cd4e08112e6e680d095a9"), looks := false }, kinds := [], alts := [], laidByText := true, laidKinds := [.data, .data], laidTests := true, laidLooks := .later }
def TopFloorsCardSaid : Prop := Claim7.holds Tryz.pinned (.plain (OpenSpec.ofChange topFloorsSpec)) topFloorsCard

/-- THE TIED CARD OF 'ziggurattop.TopTaylor'. -/
def topTaylorCard : Claim7 := { stood := { row := topTaylorRow, standIns := [], harness := (true, "1b099f4291bf57a8abed1a666a9375baa10b5959ea2cd4e08112e6e680d095a9"), looks := false }, kinds := [], alts := [], laidByText := true, laidKinds := [.data, .data], laidTests := true, laidLooks := .later }
def TopTaylorCardSaid : Prop := Claim7.holds Tryz.pinned (.plain (OpenSpec.ofChange topTaylorSpec)) topTaylorCard

/-- THE SECOND FORM's CARD OF 'ziggurattop.TopFloors'. -/
def topFloorsUptoCard : Claim7 := { stood := { row := topFloorsUptoRow, standIns := [], harness := (true, "1b099f4291bf57a8abed1a666a9375baa10b5959ea2cd4e08112e6e680d095a9"), looks := false }, kinds := [], alts := [], laidByText := true, laidKinds := [.data, .data], laidTests := true, laidLooks := .later }
def TopFloorsUptoCardSaid : Prop := Claim7.holds Tryz.pinned (.plain (OpenSpec.upto topFloorsSpec)) topFloorsUptoCard

/-- THE SECOND FORM's CARD OF 'ziggurattop.TopTaylor'. -/
def topTaylorUptoCard : Claim7 := { stood := { row := topTaylorUptoRow, standIns := [], harness := (true, "1b099f4291bf57a8abed1a666a9375baa10b5959ea2cd4e08112e6e680d095a9"), looks := false }, kinds := [], alts := [], laidByText := true, laidKinds := [.data, .data], laidTests := true, laidLooks := .later }
def TopTaylorUptoCardSaid : Prop := Claim7.holds Tryz.pinned (.plain (OpenSpec.upto topTaylorSpec)) topTaylorUptoCard
end Rows
end Go.Proofs.YtopigejgadnkaaaGreatDoor
