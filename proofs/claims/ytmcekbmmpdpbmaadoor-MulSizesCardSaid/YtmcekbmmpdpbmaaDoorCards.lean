/-
  DERIVED. GIVEN WITH THE SEED: THE CARDS: each row of YtmcekbmmpdpbmaaDoorRows.lean that lists a variable, with what it lists TIED to the program's text (the seventh form; the later family's looks); each row that meets fmt, with fmt's text TOLD by the authors' own Lean function (tested against real Go, not proved from fmt's source: count such statements apart). THE CARD IS WHAT COUNTS. Prove the row's statement (the work); the ties are given (YtmcekbmmpdpbmaaDoorTie.lean); close each card by the builder's one call (the guide's Derived/Test/ToyasCard.lean, 'card_holds'). Laid BY PROGRAM, IN A SANDBOX (cutbox-door.mjs). By AI agents, Wed Nov 11 2026. No macro, syntax, notation, axiom, sorry.
-/
import Derived.Test.YtmcekbmmpdpbmaaDoorRows
import GoSem.ClaimSeven
namespace Go.Proofs.YtmcekbmmpdpbmaaDoor
namespace Rows

/-- THE TIED CARD OF 'zigguratlaw03.MulTells'. -/
def mulTellsCard : Claim7 := { stood := { row := mulTellsRow, standIns := [], harness := (true, "c9fca2f53d872d4ace2414cf3e2ea95465e664e05a58c56e1856bb60d9271c3d"), looks := false }, kinds := [], alts := [], laidByText := true, laidKinds := [.data], laidTests := true, laidLooks := .later }
def MulTellsCardSaid : Prop := Claim7.holds Tryd.pinned (.plain (OpenSpec.ofChange mulTellsSpec)) mulTellsCard

/-- THE TIED CARD OF 'zigguratlaw03.MulCarries'. -/
def mulCarriesCard : Claim7 := { stood := { row := mulCarriesRow, standIns := [], harness := (true, "c9fca2f53d872d4ace2414cf3e2ea95465e664e05a58c56e1856bb60d9271c3d"), looks := false }, kinds := [], alts := [], laidByText := true, laidKinds := [.data], laidTests := true, laidLooks := .later }
def MulCarriesCardSaid : Prop := Claim7.holds Tryd.pinned (.plain (OpenSpec.ofChange mulCarriesSpec)) mulCarriesCard

/-- THE TIED CARD OF 'zigguratlaw03.MulRing'. -/
def mulRingCard : Claim7 := { stood := { row := mulRingRow, standIns := [], harness := (true, "c9fca2f53d872d4ace2414cf3e2ea95465e664e05a58c56e1856bb60d9271c3d"), looks := false }, kinds := [], alts := [], laidByText := true, laidKinds := [.data], laidTests := true, laidLooks := .later }
def MulRingCardSaid : Prop := Claim7.holds Tryd.pinned (.plain (OpenSpec.ofChange mulRingSpec)) mulRingCard

/-- THE TIED CARD OF 'zigguratlaw03.MulRests'. -/
def mulRestsCard : Claim7 := { stood := { row := mulRestsRow, standIns := [], harness := (true, "c9fca2f53d872d4ace2414cf3e2ea95465e664e05a58c56e1856bb60d9271c3d"), looks := false }, kinds := [], alts := [], laidByText := true, laidKinds := [.data], laidTests := true, laidLooks := .later }
def MulRestsCardSaid : Prop := Claim7.holds Tryd.pinned (.plain (OpenSpec.ofChange mulRestsSpec)) mulRestsCard

/-- THE TIED CARD OF 'zigguratlaw03.MulShifts'. -/
def mulShiftsCard : Claim7 := { stood := { row := mulShiftsRow, standIns := [], harness := (true, "c9fca2f53d872d4ace2414cf3e2ea95465e664e05a58c56e1856bb60d9271c3d"), looks := false }, kinds := [], alts := [], laidByText := true, laidKinds := [.data], laidTests := true, laidLooks := .later }
def MulShiftsCardSaid : Prop := Claim7.holds Tryd.pinned (.plain (OpenSpec.ofChange mulShiftsSpec)) mulShiftsCard

/-- THE TIED CARD OF 'zigguratlaw03.MulSquares'. -/
def mulSquaresCard : Claim7 := { stood := { row := mulSquaresRow, standIns := [], harness := (true, "c9fca2f53d872d4ace2414cf3e2ea95465e664e05a58c56e1856bb60d9271c3d"), looks := false }, kinds := [], alts := [], laidByText := true, laidKinds := [.data], laidTests := true, laidLooks := .later }
def MulSquaresCardSaid : Prop := Claim7.holds Tryd.pinned (.plain (OpenSpec.ofChange mulSquaresSpec)) mulSquaresCard

/-- THE TIED CARD OF 'zigguratlaw03.MulPowers'. -/
def mulPowersCard : Claim7 := { stood := { row := mulPowersRow, standIns := [], harness := (true, "c9fca2f53d872d4ace2414cf3e2ea95465e664e05a58c56e1856bb60d9271c3d"), looks := false }, kinds := [], alts := [], laidByText := true, laidKinds := [.data], laidTests := true, laidLooks := .later }
def MulPowersCardSaid : Prop := Claim7.holds Tryd.pinned (.plain (OpenSpec.ofChange mulPowersSpec)) mulPowersCard

/-- THE TIED CARD OF 'zigguratlaw03.MulSums'. -/
def mulSumsCard : Claim7 := { stood := { row := mulSumsRow, standIns := [], harness := (true, "c9fca2f53d872d4ace2414cf3e2ea95465e664e05a58c56e1856bb60d9271c3d"), looks := false }, kinds := [], alts := [], laidByText := true, laidKinds := [.data], laidTests := true, laidLooks := .later }
def MulSumsCardSaid : Prop := Claim7.holds Tryd.pinned (.plain (OpenSpec.ofChange mulSumsSpec)) mulSumsCard

/-- THE TIED CARD OF 'zigguratlaw03.MulSizes'. -/
def mulSizesCard : Claim7 := { stood := { row := mulSizesRow, standIns := [], harness := (true, "c9fca2f53d872d4ace2414cf3e2ea95465e664e05a58c56e1856bb60d9271c3d"), looks := false }, kinds := [], alts := [], laidByText := true, laidKinds := [.data], laidTests := true, laidLooks := .later }
def MulSizesCardSaid : Prop := Claim7.holds Tryd.pinned (.plain (OpenSpec.ofChange mulSizesSpec)) mulSizesCard

/-- THE SECOND FORM's CARD OF 'zigguratlaw03.MulTells'. -/
def mulTellsUptoCard : Claim7 := { stood := { row := mulTellsUptoRow, standIns := [], harness := (true, "c9fca2f53d872d4ace2414cf3e2ea95465e664e05a58c56e1856bb60d9271c3d"), looks := false }, kinds := [], alts := [], laidByText := true, laidKinds := [.data], laidTests := true, laidLooks := .later }
def MulTellsUptoCardSaid : Prop := Claim7.holds Tryd.pinned (.plain (OpenSpec.upto mulTellsSpec)) mulTellsUptoCard

/-- THE SECOND FORM's CARD OF 'zigguratlaw03.MulCarries'. -/
def mulCarriesUptoCard : Claim7 := { stood := { row := mulCarriesUptoRow, standIns := [], harness := (true, "c9fca2f53d872d4ace2414cf3e2ea95465e664e05a58c56e1856bb60d9271c3d"), looks := false }, kinds := [], alts := [], laidByText := true, laidKinds := [.data], laidTests := true, laidLooks := .later }
def MulCarriesUptoCardSaid : Prop := Claim7.holds Tryd.pinned (.plain (OpenSpec.upto mulCarriesSpec)) mulCarriesUptoCard

/-- THE SECOND FORM's CARD OF 'zigguratlaw03.MulRing'. -/
def mulRingUptoCard : Claim7 := { stood := { row := mulRingUptoRow, standIns := [], harness := (true, "c9fca2f53d872d4ace2414cf3e2ea95465e664e05a58c56e1856bb60d9271c3d"), looks := false }, kinds := [], alts := [], laidByText := true, laidKinds := [.data], laidTests := true, laidLooks := .later }
def MulRingUptoCardSaid : Prop := Claim7.holds Tryd.pinned (.plain (OpenSpec.upto mulRingSpec)) mulRingUptoCard

/-- THE SECOND FORM's CARD OF 'zigguratlaw03.MulRests'. -/
def mulRestsUptoCard : Claim7 := { stood := { row := mulRestsUptoRow, standIns := [], harness := (true, "c9fca2f53d872d4ace2414cf3e2ea95465e664e05a58c56e1856bb60d9271c3d"), looks := false }, kinds := [], alts := [], laidByText := true, laidKinds := [.data], laidTests := true, laidLooks := .later }
def MulRestsUptoCardSaid : Prop := Claim7.holds Tryd.pinned (.plain (OpenSpec.upto mulRestsSpec)) mulRestsUptoCard

/-- THE SECOND FORM's CARD OF 'zigguratlaw03.MulShifts'. -/
def mulShiftsUptoCard : Claim7 := { stood := { row := mulShiftsUptoRow, standIns := [], harness := (true, "c9fca2f53d872d4ace2414cf3e2ea95465e664e05a58c56e1856bb60d9271c3d"), looks := false }, kinds := [], alts := [], laidByText := true, laidKinds := [.data], laidTests := true, laidLooks := .later }
def MulShiftsUptoCardSaid : Prop := Claim7.holds Tryd.pinned (.plain (OpenSpec.upto mulShiftsSpec)) mulShiftsUptoCard

/-- THE SECOND FORM's CARD OF 'zigguratlaw03.MulSquares'. -/
def mulSquaresUptoCard : Claim7 := { stood := { row := mulSquaresUptoRow, standIns := [], harness := (true, "c9fca2f53d872d4ace2414cf3e2ea95465e664e05a58c56e1856bb60d9271c3d"), looks := false }, kinds := [], alts := [], laidByText := true, laidKinds := [.data], laidTests := true, laidLooks := .later }
def MulSquaresUptoCardSaid : Prop := Claim7.holds Tryd.pinned (.plain (OpenSpec.upto mulSquaresSpec)) mulSquaresUptoCard

/-- THE SECOND FORM's CARD OF 'zigguratlaw03.MulPowers'. -/
def mulPowersUptoCard : Claim7 := { stood := { row := mulPowersUptoRow, standIns := [], harness := (true, "c9fca2f53d872d4ace2414cf3e2ea95465e664e05a58c56e1856bb60d9271c3d"), looks := false }, kinds := [], alts := [], laidByText := true, laidKinds := [.data], laidTests := true, laidLooks := .later }
def MulPowersUptoCardSaid : Prop := Claim7.holds Tryd.pinned (.plain (OpenSpec.upto mulPowersSpec)) mulPowersUptoCard

/-- THE SECOND FORM's CARD OF 'zigguratlaw03.MulSums'. -/
def mulSumsUptoCard : Claim7 := { stood := { row := mulSumsUptoRow, standIns := [], harness := (true, "c9fca2f53d872d4ace2414cf3e2ea95465e664e05a58c56e1856bb60d9271c3d"), looks := false }, kinds := [], alts := [], laidByText := true, laidKinds := [.data], laidTests := true, laidLooks := .later }
def MulSumsUptoCardSaid : Prop := Claim7.holds Tryd.pinned (.plain (OpenSpec.upto mulSumsSpec)) mulSumsUptoCard

/-- THE SECOND FORM's CARD OF 'zigguratlaw03.MulSizes'. -/
def mulSizesUptoCard : Claim7 := { stood := { row := mulSizesUptoRow, standIns := [], harness := (true, "c9fca2f53d872d4ace2414cf3e2ea95465e664e05a58c56e1856bb60d9271c3d"), looks := false }, kinds := [], alts := [], laidByText := true, laidKinds := [.data], laidTests := true, laidLooks := .later }
def MulSizesUptoCardSaid : Prop := Claim7.holds Tryd.pinned (.plain (OpenSpec.upto mulSizesSpec)) mulSizesUptoCard
end Rows
end Go.Proofs.YtmcekbmmpdpbmaaDoor
