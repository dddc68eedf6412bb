/-
  DERIVED. GIVEN WITH THE SEED: THE CARDS: each row of YtpaffggdeedopaaGreatDoorRows.lean that lists a variable, with what it lists TIED to the program's text (the seventh form; the later family's looks); each row that meets fmt, with fmt's text TOLD by the authors' own Lean function (tested against real Go, not proved from fmt's source: count such statements apart). THE CARD IS WHAT COUNTS. Prove the row's statement (the work); the ties are given (YtpaffggdeedopaaGreatDoorTie.lean); close each card by the builder's one call (the guide's Derived/Test/ToyasCard.lean, 'card_holds'). Laid BY PROGRAM, IN A SANDBOX (cutbox-door.mjs). By AI agents, Wed Nov 11 2026. No macro, syntax, notation, axiom, sorry.
-/
import Derived.Test.YtpaffggdeedopaaGreatDoorRows
import GoSem.ClaimSeven
namespace Go.Proofs.YtpaffggdeedopaaGreatDoor
namespace Rows

/-- THE TIED CARD OF 'zigguratlaw10.DyadSides'. -/
def dyadSidesCard : Claim7 := { stood := { row := dyadSidesRow, standIns := [], harness := (true, "656b37b7ccc5af8af5a85e438c408380abd1ad709ff303cf5fc9993104b47efd"), looks := false }, kinds := [], alts := [], laidByText := true, laidKinds := [.data], laidTests := true, laidLooks := .later }
def DyadSidesCardSaid : Prop := Claim7.holds Tryz.pinned (.plain (OpenSpec.ofChange dyadSidesSpec)) dyadSidesCard

/-- THE TIED CARD OF 'zigguratlaw10.DyadTells'. -/
def dyadTellsCard : Claim7 := { stood := { row := dyadTellsRow, standIns := [], harness := (true, "656b37b7ccc5af8af5a85e438c408380abd1ad709ff303cf5fc9993104b47efd"), looks := false }, kinds := [], alts := [], laidByText := true, laidKinds := [.data, .data], laidTests := true, laidLooks := .later }
def DyadTellsCardSaid : Prop := Claim7.holds Tryz.pinned (.plain (OpenSpec.ofChange dyadTellsSpec)) dyadTellsCard

/-- THE TIED CARD OF 'zigguratlaw07.GcdTells'. -/
def gcdTellsCard : Claim7 := { stood := { row := gcdTellsRow, standIns := [], harness := (true, "656b37b7ccc5af8af5a85e438c408380abd1ad709ff303cf5fc9993104b47efd"), looks := false }, kinds := [], alts := [], laidByText := true, laidKinds := [.data], laidTests := true, laidLooks := .later }
def GcdTellsCardSaid : Prop := Claim7.holds Tryz.pinned (.plain (OpenSpec.ofChange gcdTellsSpec)) gcdTellsCard

/-- THE TIED CARD OF 'zigguratlaw07.GcdModulo'. -/
def gcdModuloCard : Claim7 := { stood := { row := gcdModuloRow, standIns := [], harness := (true, "656b37b7ccc5af8af5a85e438c408380abd1ad709ff303cf5fc9993104b47efd"), looks := false }, kinds := [], alts := [], laidByText := true, laidKinds := [.data], laidTests := true, laidLooks := .later }
def GcdModuloCardSaid : Prop := Claim7.holds Tryz.pinned (.plain (OpenSpec.ofChange gcdModuloSpec)) gcdModuloCard

/-- THE TIED CARD OF 'zigguratlaw07.GcdGreatest'. -/
def gcdGreatestCard : Claim7 := { stood := { row := gcdGreatestRow, standIns := [], harness := (true, "656b37b7ccc5af8af5a85e438c408380abd1ad709ff303cf5fc9993104b47efd"), looks := false }, kinds := [], alts := [], laidByText := true, laidKinds := [.data], laidTests := true, laidLooks := .later }
def GcdGreatestCardSaid : Prop := Claim7.holds Tryz.pinned (.plain (OpenSpec.ofChange gcdGreatestSpec)) gcdGreatestCard

/-- THE TIED CARD OF 'zigguratlaw07.GcdCofactors'. -/
def gcdCofactorsCard : Claim7 := { stood := { row := gcdCofactorsRow, standIns := [], harness := (true, "656b37b7ccc5af8af5a85e438c408380abd1ad709ff303cf5fc9993104b47efd"), looks := false }, kinds := [], alts := [], laidByText := true, laidKinds := [.data], laidTests := true, laidLooks := .later }
def GcdCofactorsCardSaid : Prop := Claim7.holds Tryz.pinned (.plain (OpenSpec.ofChange gcdCofactorsSpec)) gcdCofactorsCard

/-- THE TIED CARD OF 'zigguratlaw07.GcdInverse'. -/
def gcdInverseCard : Claim7 := { stood := { row := gcdInverseRow, standIns := [], harness := (true, "656b37b7ccc5af8af5a85e438c408380abd1ad709ff303cf5fc9993104b47efd"), looks := false }, kinds := [], alts := [], laidByText := true, laidKinds := [.data], laidTests := true, laidLooks := .later }
def GcdInverseCardSaid : Prop := Claim7.holds Tryz.pinned (.plain (OpenSpec.ofChange gcdInverseSpec)) gcdInverseCard

/-- THE TIED CARD OF 'zigguratlaw07.GcdPowers'. -/
def gcdPowersCard : Claim7 := { stood := { row := gcdPowersRow, standIns := [], harness := (true, "656b37b7ccc5af8af5a85e438c408380abd1ad709ff303cf5fc9993104b47efd"), looks := false }, kinds := [], alts := [], laidByText := true, laidKinds := [.data], laidTests := true, laidLooks := .later }
def GcdPowersCardSaid : Prop := Claim7.holds Tryz.pinned (.plain (OpenSpec.ofChange gcdPowersSpec)) gcdPowersCard

/-- THE TIED CARD OF 'zigguratlaw07.GcdFermat'. -/
def gcdFermatCard : Claim7 := { stood := { row := gcdFermatRow, standIns := [], harness := (true, "656b37b7ccc5af8af5a85e438c408380abd1ad709ff303cf5fc9993104b47efd"), looks := false }, kinds := [], alts := [], laidByText := true, laidKinds := [.data], laidTests := true, laidLooks := .later }
def GcdFermatCardSaid : Prop := Claim7.holds Tryz.pinned (.plain (OpenSpec.ofChange gcdFermatSpec)) gcdFermatCard

/-- THE TIED CARD OF 'zigguratlaw07.GcdApart'. -/
def gcdApartCard : Claim7 := { stood := { row := gcdApartRow, standIns := [], harness := (true, "656b37b7ccc5af8af5a85e438c408380abd1ad709ff303cf5fc9993104b47efd"), looks := false }, kinds := [], alts := [], laidByText := true, laidKinds := [.data], laidTests := true, laidLooks := .later }
def GcdApartCardSaid : Prop := Claim7.holds Tryz.pinned (.plain (OpenSpec.ofChange gcdApartSpec)) gcdApartCard

/-- THE SECOND FORM's CARD OF 'zigguratlaw10.DyadSides'. -/
def dyadSidesUptoCard : Claim7 := { stood := { row := dyadSidesUptoRow, standIns := [], harness := (true, "656b37b7ccc5af8af5a85e438c408380abd1ad709ff303cf5fc9993104b47efd"), looks := false }, kinds := [], alts := [], laidByText := true, laidKinds := [.data], laidTests := true, laidLooks := .later }
def DyadSidesUptoCardSaid : Prop := Claim7.holds Tryz.pinned (.plain (OpenSpec.upto dyadSidesSpec)) dyadSidesUptoCard

/-- THE SECOND FORM's CARD OF 'zigguratlaw10.DyadTells'. -/
def dyadTellsUptoCard : Claim7 := { stood := { row := dyadTellsUptoRow, standIns := [], harness := (true, "656b37b7ccc5af8af5a85e438c408380abd1ad709ff303cf5fc9993104b47efd"), looks := false }, kinds := [], alts := [], laidByText := true, laidKinds := [.data, .data], laidTests := true, laidLooks := .later }
def DyadTellsUptoCardSaid : Prop := Claim7.holds Tryz.pinned (.plain (OpenSpec.upto dyadTellsSpec)) dyadTellsUptoCard

/-- THE SECOND FORM's CARD OF 'zigguratlaw07.GcdTells'. -/
def gcdTellsUptoCard : Claim7 := { stood := { row := gcdTellsUptoRow, standIns := [], harness := (true, "656b37b7ccc5af8af5a85e438c408380abd1ad709ff303cf5fc9993104b47efd"), looks := false }, kinds := [], alts := [], laidByText := true, laidKinds := [.data], laidTests := true, laidLooks := .later }
def GcdTellsUptoCardSaid : Prop := Claim7.holds Tryz.pinned (.plain (OpenSpec.upto gcdTellsSpec)) gcdTellsUptoCard

/-- THE SECOND FORM's CARD OF 'zigguratlaw07.GcdModulo'. -/
def gcdModuloUptoCard : Claim7 := { stood := { row := gcdModuloUptoRow, standIns := [], harness := (true, "656b37b7ccc5af8af5a85e438c408380abd1ad709ff303cf5fc9993104b47efd"), looks := false }, kinds := [], alts := [], laidByText := true, laidKinds := [.data], laidTests := true, laidLooks := .later }
def GcdModuloUptoCardSaid : Prop := Claim7.holds Tryz.pinned (.plain (OpenSpec.upto gcdModuloSpec)) gcdModuloUptoCard

/-- THE SECOND FORM's CARD OF 'zigguratlaw07.GcdGreatest'. -/
def gcdGreatestUptoCard : Claim7 := { stood := { row := gcdGreatestUptoRow, standIns := [], harness := (true, "656b37b7ccc5af8af5a85e438c408380abd1ad709ff303cf5fc9993104b47efd"), looks := false }, kinds := [], alts := [], laidByText := true, laidKinds := [.data], laidTests := true, laidLooks := .later }
def GcdGreatestUptoCardSaid : Prop := Claim7.holds Tryz.pinned (.plain (OpenSpec.upto gcdGreatestSpec)) gcdGreatestUptoCard

/-- THE SECOND FORM's CARD OF 'zigguratlaw07.GcdCofactors'. -/
def gcdCofactorsUptoCard : Claim7 := { stood := { row := gcdCofactorsUptoRow, standIns := [], harness := (true, "656b37b7ccc5af8af5a85e438c408380abd1ad709ff303cf5fc9993104b47efd"), looks := false }, kinds := [], alts := [], laidByText := true, laidKinds := [.data], laidTests := true, laidLooks := .later }
def GcdCofactorsUptoCardSaid : Prop := Claim7.holds Tryz.pinned (.plain (OpenSpec.upto gcdCofactorsSpec)) gcdCofactorsUptoCard

/-- THE SECOND FORM's CARD OF 'zigguratlaw07.GcdInverse'. -/
def gcdInverseUptoCard : Claim7 := { stood := { row := gcdInverseUptoRow, standIns := [], harness := (true, "656b37b7ccc5af8af5a85e438c408380abd1ad709ff303cf5fc9993104b47efd"), looks := false }, kinds := [], alts := [], laidByText := true, laidKinds := [.data], laidTests := true, laidLooks := .later }
def GcdInverseUptoCardSaid : Prop := Claim7.holds Tryz.pinned (.plain (OpenSpec.upto gcdInverseSpec)) gcdInverseUptoCard

/-- THE SECOND FORM's CARD OF 'zigguratlaw07.GcdPowers'. -/
def gcdPowersUptoCard : Claim7 := { stood := { row := gcdPowersUptoRow, standIns := [], harness := (true, "656b37b7ccc5af8af5a85e438c408380abd1ad709ff303cf5fc9993104b47efd"), looks := false }, kinds := [], alts := [], laidByText := true, laidKinds := [.data], laidTests := true, laidLooks := .later }
def GcdPowersUptoCardSaid : Prop := Claim7.holds Tryz.pinned (.plain (OpenSpec.upto gcdPowersSpec)) gcdPowersUptoCard

/-- THE SECOND FORM's CARD OF 'zigguratlaw07.GcdFermat'. -/
def gcdFermatUptoCard : Claim7 := { stood := { row := gcdFermatUptoRow, standIns := [], harness := (true, "656b37b7ccc5af8af5a85e438c408380abd1ad709ff303cf5fc9993104b47efd"), looks := false }, kinds := [], alts := [], laidByText := true, laidKinds := [.data], laidTests := true, laidLooks := .later }
def GcdFermatUptoCardSaid : Prop := Claim7.holds Tryz.pinned (.plain (OpenSpec.upto gcdFermatSpec)) gcdFermatUptoCard

/-- THE SECOND FORM's CARD OF 'zigguratlaw07.GcdApart'. -/
def gcdApartUptoCard : Claim7 := { stood := { row := gcdApartUptoRow, standIns := [], harness := (true, "656b37b7ccc5af8af5a85e438c408380abd1ad709ff303cf5fc9993104b47efd"), looks := false }, kinds := [], alts := [], laidByText := true, laidKinds := [.data], laidTests := true, laidLooks := .later }
def GcdApartUptoCardSaid : Prop := Claim7.holds Tryz.pinned (.plain (OpenSpec.upto gcdApartSpec)) gcdApartUptoCard
end Rows
end Go.Proofs.YtpaffggdeedopaaGreatDoor
