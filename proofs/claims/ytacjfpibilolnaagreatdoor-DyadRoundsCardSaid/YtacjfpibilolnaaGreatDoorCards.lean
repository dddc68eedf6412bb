/-
  DERIVED. GIVEN WITH THE SEED: THE CARDS: each row of YtacjfpibilolnaaGreatDoorRows.lean that lists a variable, with what it lists TIED to the program's text (the seventh form; the later family's looks); each row that meets fmt, with fmt's text TOLD by the authors' own Lean function (tested against real Go, not proved from fmt's source: count such statements apart). THE CARD IS WHAT COUNTS. Prove the row's statement (the work); the ties are given (YtacjfpibilolnaaGreatDoorTie.lean); close each card by the builder's one call (the guide's Derived/Test/ToyasCard.lean, 'card_holds'). Laid BY PROGRAM, IN A SANDBOX (cutbox-door.mjs). By AI agents, Wed Nov 11 2026. No macro, syntax, notation, axiom, sorry.
-/
import Derived.Test.YtacjfpibilolnaaGreatDoorRows
import GoSem.ClaimSeven
namespace Go.Proofs.YtacjfpibilolnaaGreatDoor
namespace Rows

/-- THE TIED CARD OF 'zigguratlaw10.DyadRounds'. -/
def dyadRoundsCard : Claim7 := { stood := { row := dyadRoundsRow, standIns := [], harness := (true, "c40366035f47d3ac072167c9252c36368376323eeb282c459406779c221647a3"), looks := false }, kinds := [], alts := [], laidByText := true, laidKinds := [.data], laidTests := true, laidLooks := .later }
def DyadRoundsCardSaid : Prop := Claim7.holds Tryz.pinned (.plain (OpenSpec.ofChange dyadRoundsSpec)) dyadRoundsCard

/-- THE TIED CARD OF 'zigguratlaw10.DyadMakes'. -/
def dyadMakesCard : Claim7 := { stood := { row := dyadMakesRow, standIns := [], harness := (true, "c40366035f47d3ac072167c9252c36368376323eeb282c459406779c221647a3"), looks := false }, kinds := [], alts := [], laidByText := true, laidKinds := [.data], laidTests := true, laidLooks := .later }
def DyadMakesCardSaid : Prop := Claim7.holds Tryz.pinned (.plain (OpenSpec.ofChange dyadMakesSpec)) dyadMakesCard

/-- THE TIED CARD OF 'zigguratlaw10.DyadSides'. -/
def dyadSidesCard : Claim7 := { stood := { row := dyadSidesRow, standIns := [], harness := (true, "c40366035f47d3ac072167c9252c36368376323eeb282c459406779c221647a3"), looks := false }, kinds := [], alts := [], laidByText := true, laidKinds := [.data], laidTests := true, laidLooks := .later }
def DyadSidesCardSaid : Prop := Claim7.holds Tryz.pinned (.plain (OpenSpec.ofChange dyadSidesSpec)) dyadSidesCard

/-- THE TIED CARD OF 'zigguratlaw10.DyadTies'. -/
def dyadTiesCard : Claim7 := { stood := { row := dyadTiesRow, standIns := [], harness := (true, "c40366035f47d3ac072167c9252c36368376323eeb282c459406779c221647a3"), looks := false }, kinds := [], alts := [], laidByText := true, laidKinds := [.data], laidTests := true, laidLooks := .later }
def DyadTiesCardSaid : Prop := Claim7.holds Tryz.pinned (.plain (OpenSpec.ofChange dyadTiesSpec)) dyadTiesCard

/-- THE TIED CARD OF 'zigguratlaw10.DyadTwice'. -/
def dyadTwiceCard : Claim7 := { stood := { row := dyadTwiceRow, standIns := [], harness := (true, "c40366035f47d3ac072167c9252c36368376323eeb282c459406779c221647a3"), looks := false }, kinds := [], alts := [], laidByText := true, laidKinds := [.data], laidTests := true, laidLooks := .later }
def DyadTwiceCardSaid : Prop := Claim7.holds Tryz.pinned (.plain (OpenSpec.ofChange dyadTwiceSpec)) dyadTwiceCard

/-- THE TIED CARD OF 'zigguratlaw10.DyadMiddle'. -/
def dyadMiddleCard : Claim7 := { stood := { row := dyadMiddleRow, standIns := [], harness := (true, "c40366035f47d3ac072167c9252c36368376323eeb282c459406779c221647a3"), looks := false }, kinds := [], alts := [], laidByText := true, laidKinds := [.data], laidTests := true, laidLooks := .later }
def DyadMiddleCardSaid : Prop := Claim7.holds Tryz.pinned (.plain (OpenSpec.ofChange dyadMiddleSpec)) dyadMiddleCard

/-- THE TIED CARD OF 'zigguratlaw10.DyadTells'. -/
def dyadTellsCard : Claim7 := { stood := { row := dyadTellsRow, standIns := [], harness := (true, "c40366035f47d3ac072167c9252c36368376323eeb282c459406779c221647a3"), looks := false }, kinds := [], alts := [], laidByText := true, laidKinds := [.data, .data], laidTests := true, laidLooks := .later }
def DyadTellsCardSaid : Prop := Claim7.holds Tryz.pinned (.plain (OpenSpec.ofChange dyadTellsSpec)) dyadTellsCard

/-- THE TIED CARD OF 'zigguratlaw10.DyadRing'. -/
def dyadRingCard : Claim7 := { stood := { row := dyadRingRow, standIns := [], harness := (true, "c40366035f47d3ac072167c9252c36368376323eeb282c459406779c221647a3"), looks := false }, kinds := [], alts := [], laidByText := true, laidKinds := [.data, .data], laidTests := true, laidLooks := .later }
def DyadRingCardSaid : Prop := Claim7.holds Tryz.pinned (.plain (OpenSpec.ofChange dyadRingSpec)) dyadRingCard

/-- THE TIED CARD OF 'zigguratlaw10.DyadRationals'. -/
def dyadRationalsCard : Claim7 := { stood := { row := dyadRationalsRow, standIns := [], harness := (true, "c40366035f47d3ac072167c9252c36368376323eeb282c459406779c221647a3"), looks := false }, kinds := [], alts := [], laidByText := true, laidKinds := [.data, .data], laidTests := true, laidLooks := .later }
def DyadRationalsCardSaid : Prop := Claim7.holds Tryz.pinned (.plain (OpenSpec.ofChange dyadRationalsSpec)) dyadRationalsCard

/-- THE SECOND FORM's CARD OF 'zigguratlaw10.DyadRounds'. -/
def dyadRoundsUptoCard : Claim7 := { stood := { row := dyadRoundsUptoRow, standIns := [], harness := (true, "c40366035f47d3ac072167c9252c36368376323eeb282c459406779c221647a3"), looks := false }, kinds := [], alts := [], laidByText := true, laidKinds := [.data], laidTests := true, laidLooks := .later }
def DyadRoundsUptoCardSaid : Prop := Claim7.holds Tryz.pinned (.plain (OpenSpec.upto dyadRoundsSpec)) dyadRoundsUptoCard

/-- THE SECOND FORM's CARD OF 'zigguratlaw10.DyadMakes'. -/
def dyadMakesUptoCard : Claim7 := { stood := { row := dyadMakesUptoRow, standIns := [], harness := (true, "c40366035f47d3ac072167c9252c36368376323eeb282c459406779c221647a3"), looks := false }, kinds := [], alts := [], laidByText := true, laidKinds := [.data], laidTests := true, laidLooks := .later }
def DyadMakesUptoCardSaid : Prop := Claim7.holds Tryz.pinned (.plain (OpenSpec.upto dyadMakesSpec)) dyadMakesUptoCard

/-- THE SECOND FORM's CARD OF 'zigguratlaw10.DyadSides'. -/
def dyadSidesUptoCard : Claim7 := { stood := { row := dyadSidesUptoRow, standIns := [], harness := (true, "c40366035f47d3ac072167c9252c36368376323eeb282c459406779c221647a3"), looks := false }, kinds := [], alts := [], laidByText := true, laidKinds := [.data], laidTests := true, laidLooks := .later }
def DyadSidesUptoCardSaid : Prop := Claim7.holds Tryz.pinned (.plain (OpenSpec.upto dyadSidesSpec)) dyadSidesUptoCard

/-- THE SECOND FORM's CARD OF 'zigguratlaw10.DyadTies'. -/
def dyadTiesUptoCard : Claim7 := { stood := { row := dyadTiesUptoRow, standIns := [], harness := (true, "c40366035f47d3ac072167c9252c36368376323eeb282c459406779c221647a3"), looks := false }, kinds := [], alts := [], laidByText := true, laidKinds := [.data], laidTests := true, laidLooks := .later }
def DyadTiesUptoCardSaid : Prop := Claim7.holds Tryz.pinned (.plain (OpenSpec.upto dyadTiesSpec)) dyadTiesUptoCard

/-- THE SECOND FORM's CARD OF 'zigguratlaw10.DyadTwice'. -/
def dyadTwiceUptoCard : Claim7 := { stood := { row := dyadTwiceUptoRow, standIns := [], harness := (true, "c40366035f47d3ac072167c9252c36368376323eeb282c459406779c221647a3"), looks := false }, kinds := [], alts := [], laidByText := true, laidKinds := [.data], laidTests := true, laidLooks := .later }
def DyadTwiceUptoCardSaid : Prop := Claim7.holds Tryz.pinned (.plain (OpenSpec.upto dyadTwiceSpec)) dyadTwiceUptoCard

/-- THE SECOND FORM's CARD OF 'zigguratlaw10.DyadMiddle'. -/
def dyadMiddleUptoCard : Claim7 := { stood := { row := dyadMiddleUptoRow, standIns := [], harness := (true, "c40366035f47d3ac072167c9252c36368376323eeb282c459406779c221647a3"), looks := false }, kinds := [], alts := [], laidByText := true, laidKinds := [.data], laidTests := true, laidLooks := .later }
def DyadMiddleUptoCardSaid : Prop := Claim7.holds Tryz.pinned (.plain (OpenSpec.upto dyadMiddleSpec)) dyadMiddleUptoCard

/-- THE SECOND FORM's CARD OF 'zigguratlaw10.DyadTells'. -/
def dyadTellsUptoCard : Claim7 := { stood := { row := dyadTellsUptoRow, standIns := [], harness := (true, "c40366035f47d3ac072167c9252c36368376323eeb282c459406779c221647a3"), looks := false }, kinds := [], alts := [], laidByText := true, laidKinds := [.data, .data], laidTests := true, laidLooks := .later }
def DyadTellsUptoCardSaid : Prop := Claim7.holds Tryz.pinned (.plain (OpenSpec.upto dyadTellsSpec)) dyadTellsUptoCard

/-- THE SECOND FORM's CARD OF 'zigguratlaw10.DyadRing'. -/
def dyadRingUptoCard : Claim7 := { stood := { row := dyadRingUptoRow, standIns := [], harness := (true, "c40366035f47d3ac072167c9252c36368376323eeb282c459406779c221647a3"), looks := false }, kinds := [], alts := [], laidByText := true, laidKinds := [.data, .data], laidTests := true, laidLooks := .later }
def DyadRingUptoCardSaid : Prop := Claim7.holds Tryz.pinned (.plain (OpenSpec.upto dyadRingSpec)) dyadRingUptoCard

/-- THE SECOND FORM's CARD OF 'zigguratlaw10.DyadRationals'. -/
def dyadRationalsUptoCard : Claim7 := { stood := { row := dyadRationalsUptoRow, standIns := [], harness := (true, "c40366035f47d3ac072167c9252c36368376323eeb282c459406779c221647a3"), looks := false }, kinds := [], alts := [], laidByText := true, laidKinds := [.data, .data], laidTests := true, laidLooks := .later }
def DyadRationalsUptoCardSaid : Prop := Claim7.holds Tryz.pinned (.plain (OpenSpec.upto dyadRationalsSpec)) dyadRationalsUptoCard
end Rows
end Go.Proofs.YtacjfpibilolnaaGreatDoor
