/-
  DERIVED. GIVEN WITH THE SEED: THE CARDS: each row of YtfkagknikmibjaaDoorRows.lean that lists a variable, with what it lists TIED to the program's text (the seventh form; the later family's looks); each row that meets fmt, with fmt's text TOLD by the authors' own Lean function (tested against real Go, not proved from fmt's source: count such statements apart). THE CARD IS WHAT COUNTS. Prove the row's statement (the work); the ties are given (YtfkagknikmibjaaDoorTie.lean); close each card by the builder's one call (the guide's Derived/Test/ToyasCard.lean, 'card_holds'). Laid BY PROGRAM, IN A SANDBOX (cutbox-door.mjs). By AI agents, Wed Nov 11 2026. No macro, syntax, notation, axiom, sorry.
-/
import Derived.Test.YtfkagknikmibjaaDoorRows
import GoSem.ClaimSeven
namespace Go.Proofs.YtfkagknikmibjaaDoor
namespace Rows

/-- THE TIED CARD OF 'zigguratlaw04.DivTells'. -/
def divTellsCard : Claim7 := { stood := { row := divTellsRow, standIns := [], harness := (true, "9c4d4c4f171a2016b53af6fbd8ae8cd7b09653d37b4113ebe525979d6c8058f6"), looks := false }, kinds := [], alts := [], laidByText := true, laidKinds := [.data], laidTests := true, laidLooks := .later }
def DivTellsCardSaid : Prop := Claim7.holds Tryd.pinned (.plain (OpenSpec.ofChange divTellsSpec)) divTellsCard

/-- THE TIED CARD OF 'zigguratlaw04.DivBack'. -/
def divBackCard : Claim7 := { stood := { row := divBackRow, standIns := [], harness := (true, "9c4d4c4f171a2016b53af6fbd8ae8cd7b09653d37b4113ebe525979d6c8058f6"), looks := false }, kinds := [], alts := [], laidByText := true, laidKinds := [.data], laidTests := true, laidLooks := .later }
def DivBackCardSaid : Prop := Claim7.holds Tryd.pinned (.plain (OpenSpec.ofChange divBackSpec)) divBackCard

/-- THE TIED CARD OF 'zigguratlaw04.DivNewton'. -/
def divNewtonCard : Claim7 := { stood := { row := divNewtonRow, standIns := [], harness := (true, "9c4d4c4f171a2016b53af6fbd8ae8cd7b09653d37b4113ebe525979d6c8058f6"), looks := false }, kinds := [], alts := [], laidByText := true, laidKinds := [.data], laidTests := true, laidLooks := .later }
def DivNewtonCardSaid : Prop := Claim7.holds Tryd.pinned (.plain (OpenSpec.ofChange divNewtonSpec)) divNewtonCard

/-- THE TIED CARD OF 'zigguratlaw04.DivZiegler'. -/
def divZieglerCard : Claim7 := { stood := { row := divZieglerRow, standIns := [], harness := (true, "9c4d4c4f171a2016b53af6fbd8ae8cd7b09653d37b4113ebe525979d6c8058f6"), looks := false }, kinds := [], alts := [], laidByText := true, laidKinds := [.data], laidTests := true, laidLooks := .later }
def DivZieglerCardSaid : Prop := Claim7.holds Tryd.pinned (.plain (OpenSpec.ofChange divZieglerSpec)) divZieglerCard

/-- THE TIED CARD OF 'zigguratlaw04.DivRecip'. -/
def divRecipCard : Claim7 := { stood := { row := divRecipRow, standIns := [], harness := (true, "9c4d4c4f171a2016b53af6fbd8ae8cd7b09653d37b4113ebe525979d6c8058f6"), looks := false }, kinds := [], alts := [], laidByText := true, laidKinds := [.data], laidTests := true, laidLooks := .later }
def DivRecipCardSaid : Prop := Claim7.holds Tryd.pinned (.plain (OpenSpec.ofChange divRecipSpec)) divRecipCard

/-- THE TIED CARD OF 'zigguratlaw04.DivProducts'. -/
def divProductsCard : Claim7 := { stood := { row := divProductsRow, standIns := [], harness := (true, "9c4d4c4f171a2016b53af6fbd8ae8cd7b09653d37b4113ebe525979d6c8058f6"), looks := false }, kinds := [], alts := [], laidByText := true, laidKinds := [.data], laidTests := true, laidLooks := .later }
def DivProductsCardSaid : Prop := Claim7.holds Tryd.pinned (.plain (OpenSpec.ofChange divProductsSpec)) divProductsCard

/-- THE TIED CARD OF 'zigguratlaw04.DivTwice'. -/
def divTwiceCard : Claim7 := { stood := { row := divTwiceRow, standIns := [], harness := (true, "9c4d4c4f171a2016b53af6fbd8ae8cd7b09653d37b4113ebe525979d6c8058f6"), looks := false }, kinds := [], alts := [], laidByText := true, laidKinds := [.data], laidTests := true, laidLooks := .later }
def DivTwiceCardSaid : Prop := Claim7.holds Tryd.pinned (.plain (OpenSpec.ofChange divTwiceSpec)) divTwiceCard

/-- THE TIED CARD OF 'zigguratlaw04.DivMore'. -/
def divMoreCard : Claim7 := { stood := { row := divMoreRow, standIns := [], harness := (true, "9c4d4c4f171a2016b53af6fbd8ae8cd7b09653d37b4113ebe525979d6c8058f6"), looks := false }, kinds := [], alts := [], laidByText := true, laidKinds := [.data], laidTests := true, laidLooks := .later }
def DivMoreCardSaid : Prop := Claim7.holds Tryd.pinned (.plain (OpenSpec.ofChange divMoreSpec)) divMoreCard

/-- THE TIED CARD OF 'zigguratlaw04.DivShift'. -/
def divShiftCard : Claim7 := { stood := { row := divShiftRow, standIns := [], harness := (true, "9c4d4c4f171a2016b53af6fbd8ae8cd7b09653d37b4113ebe525979d6c8058f6"), looks := false }, kinds := [], alts := [], laidByText := true, laidKinds := [.data], laidTests := true, laidLooks := .later }
def DivShiftCardSaid : Prop := Claim7.holds Tryd.pinned (.plain (OpenSpec.ofChange divShiftSpec)) divShiftCard

/-- THE TIED CARD OF 'zigguratlaw04.DivSmall'. -/
def divSmallCard : Claim7 := { stood := { row := divSmallRow, standIns := [], harness := (true, "9c4d4c4f171a2016b53af6fbd8ae8cd7b09653d37b4113ebe525979d6c8058f6"), looks := false }, kinds := [], alts := [], laidByText := true, laidKinds := [.data], laidTests := true, laidLooks := .later }
def DivSmallCardSaid : Prop := Claim7.holds Tryd.pinned (.plain (OpenSpec.ofChange divSmallSpec)) divSmallCard

/-- THE SECOND FORM's CARD OF 'zigguratlaw04.DivTells'. -/
def divTellsUptoCard : Claim7 := { stood := { row := divTellsUptoRow, standIns := [], harness := (true, "9c4d4c4f171a2016b53af6fbd8ae8cd7b09653d37b4113ebe525979d6c8058f6"), looks := false }, kinds := [], alts := [], laidByText := true, laidKinds := [.data], laidTests := true, laidLooks := .later }
def DivTellsUptoCardSaid : Prop := Claim7.holds Tryd.pinned (.plain (OpenSpec.upto divTellsSpec)) divTellsUptoCard

/-- THE SECOND FORM's CARD OF 'zigguratlaw04.DivBack'. -/
def divBackUptoCard : Claim7 := { stood := { row := divBackUptoRow, standIns := [], harness := (true, "9c4d4c4f171a2016b53af6fbd8ae8cd7b09653d37b4113ebe525979d6c8058f6"), looks := false }, kinds := [], alts := [], laidByText := true, laidKinds := [.data], laidTests := true, laidLooks := .later }
def DivBackUptoCardSaid : Prop := Claim7.holds Tryd.pinned (.plain (OpenSpec.upto divBackSpec)) divBackUptoCard

/-- THE SECOND FORM's CARD OF 'zigguratlaw04.DivNewton'. -/
def divNewtonUptoCard : Claim7 := { stood := { row := divNewtonUptoRow, standIns := [], harness := (true, "9c4d4c4f171a2016b53af6fbd8ae8cd7b09653d37b4113ebe525979d6c8058f6"), looks := false }, kinds := [], alts := [], laidByText := true, laidKinds := [.data], laidTests := true, laidLooks := .later }
def DivNewtonUptoCardSaid : Prop := Claim7.holds Tryd.pinned (.plain (OpenSpec.upto divNewtonSpec)) divNewtonUptoCard

/-- THE SECOND FORM's CARD OF 'zigguratlaw04.DivZiegler'. -/
def divZieglerUptoCard : Claim7 := { stood := { row := divZieglerUptoRow, standIns := [], harness := (true, "9c4d4c4f171a2016b53af6fbd8ae8cd7b09653d37b4113ebe525979d6c8058f6"), looks := false }, kinds := [], alts := [], laidByText := true, laidKinds := [.data], laidTests := true, laidLooks := .later }
def DivZieglerUptoCardSaid : Prop := Claim7.holds Tryd.pinned (.plain (OpenSpec.upto divZieglerSpec)) divZieglerUptoCard

/-- THE SECOND FORM's CARD OF 'zigguratlaw04.DivRecip'. -/
def divRecipUptoCard : Claim7 := { stood := { row := divRecipUptoRow, standIns := [], harness := (true, "9c4d4c4f171a2016b53af6fbd8ae8cd7b09653d37b4113ebe525979d6c8058f6"), looks := false }, kinds := [], alts := [], laidByText := true, laidKinds := [.data], laidTests := true, laidLooks := .later }
def DivRecipUptoCardSaid : Prop := Claim7.holds Tryd.pinned (.plain (OpenSpec.upto divRecipSpec)) divRecipUptoCard

/-- THE SECOND FORM's CARD OF 'zigguratlaw04.DivProducts'. -/
def divProductsUptoCard : Claim7 := { stood := { row := divProductsUptoRow, standIns := [], harness := (true, "9c4d4c4f171a2016b53af6fbd8ae8cd7b09653d37b4113ebe525979d6c8058f6"), looks := false }, kinds := [], alts := [], laidByText := true, laidKinds := [.data], laidTests := true, laidLooks := .later }
def DivProductsUptoCardSaid : Prop := Claim7.holds Tryd.pinned (.plain (OpenSpec.upto divProductsSpec)) divProductsUptoCard

/-- THE SECOND FORM's CARD OF 'zigguratlaw04.DivTwice'. -/
def divTwiceUptoCard : Claim7 := { stood := { row := divTwiceUptoRow, standIns := [], harness := (true, "9c4d4c4f171a2016b53af6fbd8ae8cd7b09653d37b4113ebe525979d6c8058f6"), looks := false }, kinds := [], alts := [], laidByText := true, laidKinds := [.data], laidTests := true, laidLooks := .later }
def DivTwiceUptoCardSaid : Prop := Claim7.holds Tryd.pinned (.plain (OpenSpec.upto divTwiceSpec)) divTwiceUptoCard

/-- THE SECOND FORM's CARD OF 'zigguratlaw04.DivMore'. -/
def divMoreUptoCard : Claim7 := { stood := { row := divMoreUptoRow, standIns := [], harness := (true, "9c4d4c4f171a2016b53af6fbd8ae8cd7b09653d37b4113ebe525979d6c8058f6"), looks := false }, kinds := [], alts := [], laidByText := true, laidKinds := [.data], laidTests := true, laidLooks := .later }
def DivMoreUptoCardSaid : Prop := Claim7.holds Tryd.pinned (.plain (OpenSpec.upto divMoreSpec)) divMoreUptoCard

/-- THE SECOND FORM's CARD OF 'zigguratlaw04.DivShift'. -/
def divShiftUptoCard : Claim7 := { stood := { row := divShiftUptoRow, standIns := [], harness := (true, "9c4d4c4f171a2016b53af6fbd8ae8cd7b09653d37b4113ebe525979d6c8058f6"), looks := false }, kinds := [], alts := [], laidByText := true, laidKinds := [.data], laidTests := true, laidLooks := .later }
def DivShiftUptoCardSaid : Prop := Claim7.holds Tryd.pinned (.plain (OpenSpec.upto divShiftSpec)) divShiftUptoCard

/-- THE SECOND FORM's CARD OF 'zigguratlaw04.DivSmall'. -/
def divSmallUptoCard : Claim7 := { stood := { row := divSmallUptoRow, standIns := [], harness := (true, "9c4d4c4f171a2016b53af6fbd8ae8cd7b09653d37b4113ebe525979d6c8058f6"), looks := false }, kinds := [], alts := [], laidByText := true, laidKinds := [.data], laidTests := true, laidLooks := .later }
def DivSmallUptoCardSaid : Prop := Claim7.holds Tryd.pinned (.plain (OpenSpec.upto divSmallSpec)) divSmallUptoCard
end Rows
end Go.Proofs.YtfkagknikmibjaaDoor
