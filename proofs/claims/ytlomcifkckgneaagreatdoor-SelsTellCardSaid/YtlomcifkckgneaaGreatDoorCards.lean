/-
  DERIVED. GIVEN WITH THE SEED: THE CARDS: each row of YtlomcifkckgneaaGreatDoorRows.lean that lists a variable, with what it lists TIED to the program's text (the seventh form; the later family's looks); each row that meets fmt, with fmt's text TOLD by the authors' own Lean function (tested against real Go, not proved from fmt's source: count such statements apart). THE CARD IS WHAT COUNTS. Prove the row's statement (the work); the ties are given (YtlomcifkckgneaaGreatDoorTie.lean); close each card by the builder's one call (the guide's Derived/Test/ToyasCard.lean, 'card_holds'). Laid BY PROGRAM, IN A SANDBOX (cutbox-door.mjs). By AI agents, Wed Nov 11 2026. No macro, syntax, notation, axiom, sorry.
-/
import Derived.Test.YtlomcifkckgneaaGreatDoorRows
import GoSem.ClaimSeven
namespace Go.Proofs.YtlomcifkckgneaaGreatDoor
namespace Rows

/-- THE TIED CARD OF 'winnowinglaw05.SpellNth'. -/
def spellNthCard : Claim7 := { stood := { row := spellNthRow, standIns := [], harness := (true, "d38a7aa214e66cbc9ee8ed1af340d210051aff7cdf725fcd12b772ac21470194"), looks := true }, kinds := [], alts := [], laidByText := true, laidKinds := [.data, .data, .data, .data, .sentinel, .sentinel, .pinned], laidTests := true, laidLooks := .later }
def SpellNthCardSaid : Prop := Claim7.holds Tryz.pinned (.plain (OpenSpec.ofChange spellNthSpec)) spellNthCard

/-- THE TIED CARD OF 'winnowinglaw04.SelsTell'. -/
def selsTellCard : Claim7 := { stood := { row := selsTellRow, standIns := [], harness := (true, "d38a7aa214e66cbc9ee8ed1af340d210051aff7cdf725fcd12b772ac21470194"), looks := true }, kinds := [], alts := [], laidByText := true, laidKinds := [.data, .data, .data, .data, .sentinel, .sentinel, .pinned], laidTests := true, laidLooks := .later }
def SelsTellCardSaid : Prop := Claim7.holds Tryz.pinned (.plain (OpenSpec.ofChange selsTellSpec)) selsTellCard

/-- THE TIED CARD OF 'winnowinglaw04.SelsCommas'. -/
def selsCommasCard : Claim7 := { stood := { row := selsCommasRow, standIns := [], harness := (true, "d38a7aa214e66cbc9ee8ed1af340d210051aff7cdf725fcd12b772ac21470194"), looks := true }, kinds := [], alts := [], laidByText := true, laidKinds := [.data, .data, .data, .data, .sentinel, .sentinel, .pinned], laidTests := true, laidLooks := .later }
def SelsCommasCardSaid : Prop := Claim7.holds Tryz.pinned (.plain (OpenSpec.ofChange selsCommasSpec)) selsCommasCard

/-- THE TIED CARD OF 'winnowinglaw04.SelsNth'. -/
def selsNthCard : Claim7 := { stood := { row := selsNthRow, standIns := [], harness := (true, "d38a7aa214e66cbc9ee8ed1af340d210051aff7cdf725fcd12b772ac21470194"), looks := true }, kinds := [], alts := [], laidByText := true, laidKinds := [.data, .data, .data, .data, .sentinel, .sentinel, .pinned], laidTests := true, laidLooks := .later }
def SelsNthCardSaid : Prop := Claim7.holds Tryz.pinned (.plain (OpenSpec.ofChange selsNthSpec)) selsNthCard

/-- THE TIED CARD OF 'winnowinglaw04.SelsNot'. -/
def selsNotCard : Claim7 := { stood := { row := selsNotRow, standIns := [], harness := (true, "d38a7aa214e66cbc9ee8ed1af340d210051aff7cdf725fcd12b772ac21470194"), looks := true }, kinds := [], alts := [], laidByText := true, laidKinds := [.data, .data, .data, .data, .sentinel, .sentinel, .pinned], laidTests := true, laidLooks := .later }
def SelsNotCardSaid : Prop := Claim7.holds Tryz.pinned (.plain (OpenSpec.ofChange selsNotSpec)) selsNotCard

/-- THE TIED CARD OF 'winnowinglaw04.SelsAhead'. -/
def selsAheadCard : Claim7 := { stood := { row := selsAheadRow, standIns := [], harness := (true, "d38a7aa214e66cbc9ee8ed1af340d210051aff7cdf725fcd12b772ac21470194"), looks := true }, kinds := [], alts := [], laidByText := true, laidKinds := [.data, .data, .data, .data, .sentinel, .sentinel, .pinned], laidTests := true, laidLooks := .later }
def SelsAheadCardSaid : Prop := Claim7.holds Tryz.pinned (.plain (OpenSpec.ofChange selsAheadSpec)) selsAheadCard

/-- THE TIED CARD OF 'winnowinglaw05.SpellBack'. -/
def spellBackCard : Claim7 := { stood := { row := spellBackRow, standIns := [], harness := (true, "d38a7aa214e66cbc9ee8ed1af340d210051aff7cdf725fcd12b772ac21470194"), looks := true }, kinds := [], alts := [], laidByText := true, laidKinds := [.data, .data, .data, .data, .sentinel, .sentinel, .pinned], laidTests := true, laidLooks := .later }
def SpellBackCardSaid : Prop := Claim7.holds Tryz.pinned (.plain (OpenSpec.ofChange spellBackSpec)) spellBackCard

/-- THE SECOND FORM's CARD OF 'winnowinglaw05.SpellNth'. -/
def spellNthUptoCard : Claim7 := { stood := { row := spellNthUptoRow, standIns := [], harness := (true, "d38a7aa214e66cbc9ee8ed1af340d210051aff7cdf725fcd12b772ac21470194"), looks := true }, kinds := [], alts := [], laidByText := true, laidKinds := [.data, .data, .data, .data, .sentinel, .sentinel, .pinned], laidTests := true, laidLooks := .later }
def SpellNthUptoCardSaid : Prop := Claim7.holds Tryz.pinned (.plain (OpenSpec.upto spellNthSpec)) spellNthUptoCard

/-- THE SECOND FORM's CARD OF 'winnowinglaw04.SelsTell'. -/
def selsTellUptoCard : Claim7 := { stood := { row := selsTellUptoRow, standIns := [], harness := (true, "d38a7aa214e66cbc9ee8ed1af340d210051aff7cdf725fcd12b772ac21470194"), looks := true }, kinds := [], alts := [], laidByText := true, laidKinds := [.data, .data, .data, .data, .sentinel, .sentinel, .pinned], laidTests := true, laidLooks := .later }
def SelsTellUptoCardSaid : Prop := Claim7.holds Tryz.pinned (.plain (OpenSpec.upto selsTellSpec)) selsTellUptoCard

/-- THE SECOND FORM's CARD OF 'winnowinglaw04.SelsCommas'. -/
def selsCommasUptoCard : Claim7 := { stood := { row := selsCommasUptoRow, standIns := [], harness := (true, "d38a7aa214e66cbc9ee8ed1af340d210051aff7cdf725fcd12b772ac21470194"), looks := true }, kinds := [], alts := [], laidByText := true, laidKinds := [.data, .data, .data, .data, .sentinel, .sentinel, .pinned], laidTests := true, laidLooks := .later }
def SelsCommasUptoCardSaid : Prop := Claim7.holds Tryz.pinned (.plain (OpenSpec.upto selsCommasSpec)) selsCommasUptoCard

/-- THE SECOND FORM's CARD OF 'winnowinglaw04.SelsNth'. -/
def selsNthUptoCard : Claim7 := { stood := { row := selsNthUptoRow, standIns := [], harness := (true, "d38a7aa214e66cbc9ee8ed1af340d210051aff7cdf725fcd12b772ac21470194"), looks := true }, kinds := [], alts := [], laidByText := true, laidKinds := [.data, .data, .data, .data, .sentinel, .sentinel, .pinned], laidTests := true, laidLooks := .later }
def SelsNthUptoCardSaid : Prop := Claim7.holds Tryz.pinned (.plain (OpenSpec.upto selsNthSpec)) selsNthUptoCard

/-- THE SECOND FORM's CARD OF 'winnowinglaw04.SelsNot'. -/
def selsNotUptoCard : Claim7 := { stood := { row := selsNotUptoRow, standIns := [], harness := (true, "d38a7aa214e66cbc9ee8ed1af340d210051aff7cdf725fcd12b772ac21470194"), looks := true }, kinds := [], alts := [], laidByText := true, laidKinds := [.data, .data, .data, .data, .sentinel, .sentinel, .pinned], laidTests := true, laidLooks := .later }
def SelsNotUptoCardSaid : Prop := Claim7.holds Tryz.pinned (.plain (OpenSpec.upto selsNotSpec)) selsNotUptoCard

/-- THE SECOND FORM's CARD OF 'winnowinglaw04.SelsAhead'. -/
def selsAheadUptoCard : Claim7 := { stood := { row := selsAheadUptoRow, standIns := [], harness := (true, "d38a7aa214e66cbc9ee8ed1af340d210051aff7cdf725fcd12b772ac21470194"), looks := true }, kinds := [], alts := [], laidByText := true, laidKinds := [.data, .data, .data, .data, .sentinel, .sentinel, .pinned], laidTests := true, laidLooks := .later }
def SelsAheadUptoCardSaid : Prop := Claim7.holds Tryz.pinned (.plain (OpenSpec.upto selsAheadSpec)) selsAheadUptoCard

/-- THE SECOND FORM's CARD OF 'winnowinglaw05.SpellBack'. -/
def spellBackUptoCard : Claim7 := { stood := { row := spellBackUptoRow, standIns := [], harness := (true, "d38a7aa214e66cbc9ee8ed1af340d210051aff7cdf725fcd12b772ac21470194"), looks := true }, kinds := [], alts := [], laidByText := true, laidKinds := [.data, .data, .data, .data, .sentinel, .sentinel, .pinned], laidTests := true, laidLooks := .later }
def SpellBackUptoCardSaid : Prop := Claim7.holds Tryz.pinned (.plain (OpenSpec.upto spellBackSpec)) spellBackUptoCard
end Rows
end Go.Proofs.YtlomcifkckgneaaGreatDoor
