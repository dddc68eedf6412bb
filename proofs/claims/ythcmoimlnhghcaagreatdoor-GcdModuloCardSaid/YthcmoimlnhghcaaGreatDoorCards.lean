/-
  DERIVED. GIVEN WITH THE SEED: THE CARDS: each row of YthcmoimlnhghcaaGreatDoorRows.lean that lists a variable, with what it lists TIED to the program's text (the seventh form; the later family's looks); each row that meets fmt, with fmt's text TOLD by the authors' own Lean function (tested against real Go, not proved from fmt's source: count such statements apart). THE CARD IS WHAT COUNTS. Prove the row's statement (the work); the ties are given (YthcmoimlnhghcaaGreatDoorTie.lean); close each card by the builder's one call (the guide's Derived/Test/ToyasCard.lean, 'card_holds'). Laid BY PROGRAM, IN A SANDBOX (cutbox-door.mjs). By AI agents, Wed Nov 11 2026. No macro, syntax, notation, axiom, sorry.
-/
import Derived.Test.YthcmoimlnhghcaaGreatDoorRows
import GoSem.ClaimSeven
namespace Go.Proofs.YthcmoimlnhghcaaGreatDoor
namespace Rows

/-- THE TIED CARD OF 'zigguratlaw10.DyadTells'. -/
def dyadTellsCard : Claim7 := { stood := { row := dyadTellsRow, standIns := [], harness := (true, "fb26df76aa3e4b053ee34eec7cb38b2742bbed4501183c9c7cde0d6612f9eb47"), looks := false }, kinds := [], alts := [], laidByText := true, laidKinds := [.data, .data], laidTests := true, laidLooks := .later }
def DyadTellsCardSaid : Prop := Claim7.holds Tryz.pinned (.plain (OpenSpec.ofChange dyadTellsSpec)) dyadTellsCard

/-- THE TIED CARD OF 'zigguratlaw07.GcdTells'. -/
def gcdTellsCard : Claim7 := { stood := { row := gcdTellsRow, standIns := [], harness := (true, "fb26df76aa3e4b053ee34eec7cb38b2742bbed4501183c9c7cde0d6612f9eb47"), looks := false }, kinds := [], alts := [], laidByText := true, laidKinds := [.data], laidTests := true, laidLooks := .later }
def GcdTellsCardSaid : Prop := Claim7.holds Tryz.pinned (.plain (OpenSpec.ofChange gcdTellsSpec)) gcdTellsCard

/-- THE TIED CARD OF 'zigguratlaw07.GcdModulo'. -/
def gcdModuloCard : Claim7 := { stood := { row := gcdModuloRow, standIns := [], harness := (true, "fb26df76aa3e4b053ee34eec7cb38b2742bbed4501183c9c7cde0d6612f9eb47"), looks := false }, kinds := [], alts := [], laidByText := true, laidKinds := [.data], laidTests := true, laidLooks := .later }
def GcdModuloCardSaid : Prop := Claim7.holds Tryz.pinned (.plain (OpenSpec.ofChange gcdModuloSpec)) gcdModuloCard

/-- THE SECOND FORM's CARD OF 'zigguratlaw10.DyadTells'. -/
def dyadTellsUptoCard : Claim7 := { stood := { row := dyadTellsUptoRow, standIns := [], harness := (true, "fb26df76aa3e4b053ee34eec7cb38b2742bbed4501183c9c7cde0d6612f9eb47"), looks := false }, kinds := [], alts := [], laidByText := true, laidKinds := [.data, .data], laidTests := true, laidLooks := .later }
def DyadTellsUptoCardSaid : Prop := Claim7.holds Tryz.pinned (.plain (OpenSpec.upto dyadTellsSpec)) dyadTellsUptoCard

/-- THE SECOND FORM's CARD OF 'zigguratlaw07.GcdTells'. -/
def gcdTellsUptoCard : Claim7 := { stood := { row := gcdTellsUptoRow, standIns := [], harness := (true, "fb26df76aa3e4b053ee34eec7cb38b2742bbed4501183c9c7cde0d6612f9eb47"), looks := false }, kinds := [], alts := [], laidByText := true, laidKinds := [.data], laidTests := true, laidLooks := .later }
def GcdTellsUptoCardSaid : Prop := Claim7.holds Tryz.pinned (.plain (OpenSpec.upto gcdTellsSpec)) gcdTellsUptoCard

/-- THE SECOND FORM's CARD OF 'zigguratlaw07.GcdModulo'. -/
def gcdModuloUptoCard : Claim7 := { stood := { row := gcdModuloUptoRow, standIns := [], harness := (true, "fb26df76aa3e4b053ee34eec7cb38b2742bbed4501183c9c7cde0d6612f9eb47"), looks := false }, kinds := [], alts := [], laidByText := true, laidKinds := [.data], laidTests := true, laidLooks := .later }
def GcdModuloUptoCardSaid : Prop := Claim7.holds Tryz.pinned (.plain (OpenSpec.upto gcdModuloSpec)) gcdModuloUptoCard
end Rows
end Go.Proofs.YthcmoimlnhghcaaGreatDoor
