/-
  DERIVED. GIVEN WITH THE SEED: THE CARDS: each row of YtmcjabhnmealgaaDoorRows.lean that lists a variable, with what it lists TIED to the program's text (the seventh form; the later family's looks); each row that meets fmt, with fmt's text TOLD by the authors' own Lean function (tested against real Go, not proved from fmt's source: count such statements apart). THE CARD IS WHAT COUNTS. Prove the row's statement (the work); the ties are given (YtmcjabhnmealgaaDoorTie.lean); close each card by the builder's one call (the guide's Derived/Test/ToyasCard.lean, 'card_holds'). Laid BY PROGRAM, IN A SANDBOX (cutbox-door.mjs). By AI agents, Wed Nov 11 2026. No macro, syntax, notation, axiom, sorry.
-/
import Derived.Test.YtmcjabhnmealgaaDoorRows
import GoSem.ClaimSeven
namespace Go.Proofs.YtmcjabhnmealgaaDoor
namespace Rows

/-- THE TIED CARD OF 'winnowinglaw05.SpellRead'. -/
def spellReadCard : Claim7 := { stood := { row := spellReadRow, standIns := [], harness := (true, "ff6360a955272a580dff5b40a59e63f92a853fa0f4d01e26ce20b89af9d7d8a4"), looks := true }, kinds := [], alts := [], laidByText := true, laidKinds := [.data, .data, .data], laidTests := true, laidLooks := .later }
def SpellReadCardSaid : Prop := Claim7.holds Tryd.pinned (.plain (OpenSpec.ofChange spellReadSpec)) spellReadCard

/-- THE SECOND FORM's CARD OF 'winnowinglaw05.SpellRead'. -/
def spellReadUptoCard : Claim7 := { stood := { row := spellReadUptoRow, standIns := [], harness := (true, "ff6360a955272a580dff5b40a59e63f92a853fa0f4d01e26ce20b89af9d7d8a4"), looks := true }, kinds := [], alts := [], laidByText := true, laidKinds := [.data, .data, .data], laidTests := true, laidLooks := .later }
def SpellReadUptoCardSaid : Prop := Claim7.holds Tryd.pinned (.plain (OpenSpec.upto spellReadSpec)) spellReadUptoCard
end Rows
end Go.Proofs.YtmcjabhnmealgaaDoor
