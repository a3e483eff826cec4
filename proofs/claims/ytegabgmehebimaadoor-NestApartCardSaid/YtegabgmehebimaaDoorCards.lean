/-
  DERIVED. GIVEN WITH THE SEED: THE CARDS: each row of YtegabgmehebimaaDoorRows.lean that lists a variable, with what it lists TIED to the program's text (the seventh form; the later family's looks); each row that meets fmt, with fmt's text TOLD by the authors' own Lean function (tested against real Go, not proved from fmt's source: count such statements apart). THE CARD IS WHAT COUNTS. Prove the row's statement (the work); the ties are given (YtegabgmehebimaaDoorTie.lean); close each card by the builder's one call (the guide's Derived/Test/ToyasCard.lean, 'card_holds'). Laid BY PROGRAM, IN A SANDBOX (cutbox-door.mjs). By AI agents, Wed Nov 11 2026. No macro, syntax, notation, axiom, sorry.
-/
import Derived.Test.YtegabgmehebimaaDoorRows
import GoSem.ClaimSeven
namespace Go.Proofs.YtegabgmehebimaaDoor
namespace Rows

/-- THE TIED CARD OF 'winnowinglaw02.NestTells'. -/
def nestTellsCard : Claim7 := { stood := { row := nestTellsRow, standIns := [], harness := (true, "028076b18f55dd8bcd17c0d123d7ce2d2b0941b7e73e77f04165ecdc7d96fa49"), looks := true }, kinds := [], alts := [], laidByText := true, laidKinds := [.data, .data, .data], laidTests := true, laidLooks := .later }
def NestTellsCardSaid : Prop := Claim7.holds Tryd.pinned (.plain (OpenSpec.ofChange nestTellsSpec)) nestTellsCard

/-- THE TIED CARD OF 'winnowinglaw02.NestBack'. -/
def nestBackCard : Claim7 := { stood := { row := nestBackRow, standIns := [], harness := (true, "028076b18f55dd8bcd17c0d123d7ce2d2b0941b7e73e77f04165ecdc7d96fa49"), looks := true }, kinds := [], alts := [], laidByText := true, laidKinds := [.data, .data, .data], laidTests := true, laidLooks := .later }
def NestBackCardSaid : Prop := Claim7.holds Tryd.pinned (.plain (OpenSpec.ofChange nestBackSpec)) nestBackCard

/-- THE TIED CARD OF 'winnowinglaw02.NestBoth'. -/
def nestBothCard : Claim7 := { stood := { row := nestBothRow, standIns := [], harness := (true, "028076b18f55dd8bcd17c0d123d7ce2d2b0941b7e73e77f04165ecdc7d96fa49"), looks := true }, kinds := [], alts := [], laidByText := true, laidKinds := [.data, .data, .data], laidTests := true, laidLooks := .later }
def NestBothCardSaid : Prop := Claim7.holds Tryd.pinned (.plain (OpenSpec.ofChange nestBothSpec)) nestBothCard

/-- THE TIED CARD OF 'winnowinglaw02.NestWraps'. -/
def nestWrapsCard : Claim7 := { stood := { row := nestWrapsRow, standIns := [], harness := (true, "028076b18f55dd8bcd17c0d123d7ce2d2b0941b7e73e77f04165ecdc7d96fa49"), looks := true }, kinds := [], alts := [], laidByText := true, laidKinds := [.data, .data, .data], laidTests := true, laidLooks := .later }
def NestWrapsCardSaid : Prop := Claim7.holds Tryd.pinned (.plain (OpenSpec.ofChange nestWrapsSpec)) nestWrapsCard

/-- THE TIED CARD OF 'winnowinglaw02.NestApart'. -/
def nestApartCard : Claim7 := { stood := { row := nestApartRow, standIns := [], harness := (true, "028076b18f55dd8bcd17c0d123d7ce2d2b0941b7e73e77f04165ecdc7d96fa49"), looks := true }, kinds := [], alts := [], laidByText := true, laidKinds := [.data, .data, .data], laidTests := true, laidLooks := .later }
def NestApartCardSaid : Prop := Claim7.holds Tryd.pinned (.plain (OpenSpec.ofChange nestApartSpec)) nestApartCard

/-- THE SECOND FORM's CARD OF 'winnowinglaw02.NestTells'. -/
def nestTellsUptoCard : Claim7 := { stood := { row := nestTellsUptoRow, standIns := [], harness := (true, "028076b18f55dd8bcd17c0d123d7ce2d2b0941b7e73e77f04165ecdc7d96fa49"), looks := true }, kinds := [], alts := [], laidByText := true, laidKinds := [.data, .data, .data], laidTests := true, laidLooks := .later }
def NestTellsUptoCardSaid : Prop := Claim7.holds Tryd.pinned (.plain (OpenSpec.upto nestTellsSpec)) nestTellsUptoCard

/-- THE SECOND FORM's CARD OF 'winnowinglaw02.NestBack'. -/
def nestBackUptoCard : Claim7 := { stood := { row := nestBackUptoRow, standIns := [], harness := (true, "028076b18f55dd8bcd17c0d123d7ce2d2b0941b7e73e77f04165ecdc7d96fa49"), looks := true }, kinds := [], alts := [], laidByText := true, laidKinds := [.data, .data, .data], laidTests := true, laidLooks := .later }
def NestBackUptoCardSaid : Prop := Claim7.holds Tryd.pinned (.plain (OpenSpec.upto nestBackSpec)) nestBackUptoCard

/-- THE SECOND FORM's CARD OF 'winnowinglaw02.NestBoth'. -/
def nestBothUptoCard : Claim7 := { stood := { row := nestBothUptoRow, standIns := [], harness := (true, "028076b18f55dd8bcd17c0d123d7ce2d2b0941b7e73e77f04165ecdc7d96fa49"), looks := true }, kinds := [], alts := [], laidByText := true, laidKinds := [.data, .data, .data], laidTests := true, laidLooks := .later }
def NestBothUptoCardSaid : Prop := Claim7.holds Tryd.pinned (.plain (OpenSpec.upto nestBothSpec)) nestBothUptoCard

/-- THE SECOND FORM's CARD OF 'winnowinglaw02.NestWraps'. -/
def nestWrapsUptoCard : Claim7 := { stood := { row := nestWrapsUptoRow, standIns := [], harness := (true, "028076b18f55dd8bcd17c0d123d7ce2d2b0941b7e73e77f04165ecdc7d96fa49"), looks := true }, kinds := [], alts := [], laidByText := true, laidKinds := [.data, .data, .data], laidTests := true, laidLooks := .later }
def NestWrapsUptoCardSaid : Prop := Claim7.holds Tryd.pinned (.plain (OpenSpec.upto nestWrapsSpec)) nestWrapsUptoCard

/-- THE SECOND FORM's CARD OF 'winnowinglaw02.NestApart'. -/
def nestApartUptoCard : Claim7 := { stood := { row := nestApartUptoRow, standIns := [], harness := (true, "028076b18f55dd8bcd17c0d123d7ce2d2b0941b7e73e77f04165ecdc7d96fa49"), looks := true }, kinds := [], alts := [], laidByText := true, laidKinds := [.data, .data, .data], laidTests := true, laidLooks := .later }
def NestApartUptoCardSaid : Prop := Claim7.holds Tryd.pinned (.plain (OpenSpec.upto nestApartSpec)) nestApartUptoCard
end Rows
end Go.Proofs.YtegabgmehebimaaDoor
