/-
  DERIVED. GIVEN WITH THE SEED: THE CARDS: each row of YtjfkppbgcgleaaaGreatDoorRows.lean that lists a variable, with what it lists TIED to the program's text (the seventh form; the later family's looks); each row that meets fmt, with fmt's text TOLD by the authors' own Lean function (tested against real Go, not proved from fmt's source: count such statements apart). THE CARD IS WHAT COUNTS. Prove the row's statement (the work); the ties are given (YtjfkppbgcgleaaaGreatDoorTie.lean); close each card by the builder's one call (the guide's Derived/Test/ToyasCard.lean, 'card_holds'). Laid BY PROGRAM, IN A SANDBOX (cutbox-door.mjs). By AI agents, Wed Nov 11 2026. No macro, syntax, notation, axiom, sorry.
-/
import Derived.Test.YtjfkppbgcgleaaaGreatDoorRows
import GoSem.ClaimSeven
namespace Go.Proofs.YtjfkppbgcgleaaaGreatDoor
namespace Rows

/-- THE TIED CARD OF 'winnowinglaw03.SplitTells'. -/
def splitTellsCard : Claim7 := { stood := { row := splitTellsRow, standIns := [], harness := (true, "2b1b78c71e07797cdc697d57bd8462a39b26a07e57d7989178fb9c088a8c5228"), looks := true }, kinds := [], alts := [], laidByText := true, laidKinds := [.data, .data, .data], laidTests := true, laidLooks := .later }
def SplitTellsCardSaid : Prop := Claim7.holds Tryz.pinned (.plain (OpenSpec.ofChange splitTellsSpec)) splitTellsCard

/-- THE TIED CARD OF 'winnowinglaw03.SplitReads'. -/
def splitReadsCard : Claim7 := { stood := { row := splitReadsRow, standIns := [], harness := (true, "2b1b78c71e07797cdc697d57bd8462a39b26a07e57d7989178fb9c088a8c5228"), looks := true }, kinds := [], alts := [], laidByText := true, laidKinds := [.data, .data, .data], laidTests := true, laidLooks := .later }
def SplitReadsCardSaid : Prop := Claim7.holds Tryz.pinned (.plain (OpenSpec.ofChange splitReadsSpec)) splitReadsCard

/-- THE TIED CARD OF 'winnowinglaw03.SplitBoth'. -/
def splitBothCard : Claim7 := { stood := { row := splitBothRow, standIns := [], harness := (true, "2b1b78c71e07797cdc697d57bd8462a39b26a07e57d7989178fb9c088a8c5228"), looks := true }, kinds := [], alts := [], laidByText := true, laidKinds := [.data, .data, .data], laidTests := true, laidLooks := .later }
def SplitBothCardSaid : Prop := Claim7.holds Tryz.pinned (.plain (OpenSpec.ofChange splitBothSpec)) splitBothCard

/-- THE SECOND FORM's CARD OF 'winnowinglaw03.SplitTells'. -/
def splitTellsUptoCard : Claim7 := { stood := { row := splitTellsUptoRow, standIns := [], harness := (true, "2b1b78c71e07797cdc697d57bd8462a39b26a07e57d7989178fb9c088a8c5228"), looks := true }, kinds := [], alts := [], laidByText := true, laidKinds := [.data, .data, .data], laidTests := true, laidLooks := .later }
def SplitTellsUptoCardSaid : Prop := Claim7.holds Tryz.pinned (.plain (OpenSpec.upto splitTellsSpec)) splitTellsUptoCard

/-- THE SECOND FORM's CARD OF 'winnowinglaw03.SplitReads'. -/
def splitReadsUptoCard : Claim7 := { stood := { row := splitReadsUptoRow, standIns := [], harness := (true, "2b1b78c71e07797cdc697d57bd8462a39b26a07e57d7989178fb9c088a8c5228"), looks := true }, kinds := [], alts := [], laidByText := true, laidKinds := [.data, .data, .data], laidTests := true, laidLooks := .later }
def SplitReadsUptoCardSaid : Prop := Claim7.holds Tryz.pinned (.plain (OpenSpec.upto splitReadsSpec)) splitReadsUptoCard

/-- THE SECOND FORM's CARD OF 'winnowinglaw03.SplitBoth'. -/
def splitBothUptoCard : Claim7 := { stood := { row := splitBothUptoRow, standIns := [], harness := (true, "2b1b78c71e07797cdc697d57bd8462a39b26a07e57d7989178fb9c088a8c5228"), looks := true }, kinds := [], alts := [], laidByText := true, laidKinds := [.data, .data, .data], laidTests := true, laidLooks := .later }
def SplitBothUptoCardSaid : Prop := Claim7.holds Tryz.pinned (.plain (OpenSpec.upto splitBothSpec)) splitBothUptoCard
end Rows
end Go.Proofs.YtjfkppbgcgleaaaGreatDoor
