/-
  DERIVED. GIVEN WITH THE SEED: THE CARDS: each row of YtcfklbkkdipjhaaGreatDoorRows.lean that lists a variable, with what it lists TIED to the program's text (the seventh form; the later family's looks); each row that meets fmt, with fmt's text TOLD by the authors' own Lean function (tested against real Go, not proved from fmt's source: count such statements apart). THE CARD IS WHAT COUNTS. Prove the row's statement (the work); the ties are given (YtcfklbkkdipjhaaGreatDoorTie.lean); close each card by the builder's one call (the guide's Derived/Test/ToyasCard.lean, 'card_holds'). Laid BY PROGRAM, IN A SANDBOX (cutbox-door.mjs). By AI agents, Wed Nov 11 2026. No macro, syntax, notation, axiom, sorry.
-/
import Derived.Test.YtcfklbkkdipjhaaGreatDoorRows
import GoSem.ClaimSeven
namespace Go.Proofs.YtcfklbkkdipjhaaGreatDoor
namespace Rows

/-- THE TIED CARD OF 'winnowinglaw08.SheetTells'. -/
def sheetTellsCard : Claim7 := { stood := { row := sheetTellsRow, standIns := [], harness := (true, "faf1bc0f5fa0c4cac637c6b176822eea4f75c507bd0d4f00850faea15a721280"), looks := true }, kinds := [], alts := [], laidByText := true, laidKinds := [.data, .data, .data, .data, .sentinel, .sentinel, .pinned], laidTests := true, laidLooks := .later }
def SheetTellsCardSaid : Prop := Claim7.holds Tryz.pinned (.plain (OpenSpec.ofChange sheetTellsSpec)) sheetTellsCard

/-- THE TIED CARD OF 'winnowinglaw08.SheetMedia'. -/
def sheetMediaCard : Claim7 := { stood := { row := sheetMediaRow, standIns := [], harness := (true, "faf1bc0f5fa0c4cac637c6b176822eea4f75c507bd0d4f00850faea15a721280"), looks := true }, kinds := [], alts := [], laidByText := true, laidKinds := [.data, .data, .data, .data, .sentinel, .sentinel, .pinned], laidTests := true, laidLooks := .later }
def SheetMediaCardSaid : Prop := Claim7.holds Tryz.pinned (.plain (OpenSpec.ofChange sheetMediaSpec)) sheetMediaCard

/-- THE TIED CARD OF 'winnowinglaw08.SheetEach'. -/
def sheetEachCard : Claim7 := { stood := { row := sheetEachRow, standIns := [], harness := (true, "faf1bc0f5fa0c4cac637c6b176822eea4f75c507bd0d4f00850faea15a721280"), looks := true }, kinds := [], alts := [], laidByText := true, laidKinds := [.data, .data, .data, .data, .sentinel, .sentinel, .pinned], laidTests := true, laidLooks := .later }
def SheetEachCardSaid : Prop := Claim7.holds Tryz.pinned (.plain (OpenSpec.ofChange sheetEachSpec)) sheetEachCard

/-- THE SECOND FORM's CARD OF 'winnowinglaw08.SheetTells'. -/
def sheetTellsUptoCard : Claim7 := { stood := { row := sheetTellsUptoRow, standIns := [], harness := (true, "faf1bc0f5fa0c4cac637c6b176822eea4f75c507bd0d4f00850faea15a721280"), looks := true }, kinds := [], alts := [], laidByText := true, laidKinds := [.data, .data, .data, .data, .sentinel, .sentinel, .pinned], laidTests := true, laidLooks := .later }
def SheetTellsUptoCardSaid : Prop := Claim7.holds Tryz.pinned (.plain (OpenSpec.upto sheetTellsSpec)) sheetTellsUptoCard

/-- THE SECOND FORM's CARD OF 'winnowinglaw08.SheetMedia'. -/
def sheetMediaUptoCard : Claim7 := { stood := { row := sheetMediaUptoRow, standIns := [], harness := (true, "faf1bc0f5fa0c4cac637c6b176822eea4f75c507bd0d4f00850faea15a721280"), looks := true }, kinds := [], alts := [], laidByText := true, laidKinds := [.data, .data, .data, .data, .sentinel, .sentinel, .pinned], laidTests := true, laidLooks := .later }
def SheetMediaUptoCardSaid : Prop := Claim7.holds Tryz.pinned (.plain (OpenSpec.upto sheetMediaSpec)) sheetMediaUptoCard

/-- THE SECOND FORM's CARD OF 'winnowinglaw08.SheetEach'. -/
def sheetEachUptoCard : Claim7 := { stood := { row := sheetEachUptoRow, standIns := [], harness := (true, "faf1bc0f5fa0c4cac637c6b176822eea4f75c507bd0d4f00850faea15a721280"), looks := true }, kinds := [], alts := [], laidByText := true, laidKinds := [.data, .data, .data, .data, .sentinel, .sentinel, .pinned], laidTests := true, laidLooks := .later }
def SheetEachUptoCardSaid : Prop := Claim7.holds Tryz.pinned (.plain (OpenSpec.upto sheetEachSpec)) sheetEachUptoCard
end Rows
end Go.Proofs.YtcfklbkkdipjhaaGreatDoor
