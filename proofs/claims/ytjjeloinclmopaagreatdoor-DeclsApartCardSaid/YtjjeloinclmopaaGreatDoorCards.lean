/-
  DERIVED. GIVEN WITH THE SEED: THE CARDS: each row of YtjjeloinclmopaaGreatDoorRows.lean that lists a variable, with what it lists TIED to the program's text (the seventh form; the later family's looks); each row that meets fmt, with fmt's text TOLD by the authors' own Lean function (tested against real Go, not proved from fmt's source: count such statements apart). THE CARD IS WHAT COUNTS. Prove the row's statement (the work); the ties are given (YtjjeloinclmopaaGreatDoorTie.lean); close each card by the builder's one call (the guide's Derived/Test/ToyasCard.lean, 'card_holds'). Laid BY PROGRAM, IN A SANDBOX (cutbox-door.mjs). By AI agents, Wed Nov 11 2026. No macro, syntax, notation, axiom, sorry.
-/
import Derived.Test.YtjjeloinclmopaaGreatDoorRows
import GoSem.ClaimSeven
namespace Go.Proofs.YtjjeloinclmopaaGreatDoor
namespace Rows

/-- THE TIED CARD OF 'winnowinglaw07.DeclsTell'. -/
def declsTellCard : Claim7 := { stood := { row := declsTellRow, standIns := [], harness := (true, "2190ccec444e30a5591b977c4d8493eb3a4178af23e459ae83594f3db291487d"), looks := true }, kinds := [], alts := [], laidByText := true, laidKinds := [.data, .data, .data], laidTests := true, laidLooks := .later }
def DeclsTellCardSaid : Prop := Claim7.holds Tryz.pinned (.plain (OpenSpec.ofChange declsTellSpec)) declsTellCard

/-- THE TIED CARD OF 'winnowinglaw07.DeclsBack'. -/
def declsBackCard : Claim7 := { stood := { row := declsBackRow, standIns := [], harness := (true, "2190ccec444e30a5591b977c4d8493eb3a4178af23e459ae83594f3db291487d"), looks := true }, kinds := [], alts := [], laidByText := true, laidKinds := [.data, .data, .data], laidTests := true, laidLooks := .later }
def DeclsBackCardSaid : Prop := Claim7.holds Tryz.pinned (.plain (OpenSpec.ofChange declsBackSpec)) declsBackCard

/-- THE TIED CARD OF 'winnowinglaw07.DeclsApart'. -/
def declsApartCard : Claim7 := { stood := { row := declsApartRow, standIns := [], harness := (true, "2190ccec444e30a5591b977c4d8493eb3a4178af23e459ae83594f3db291487d"), looks := true }, kinds := [], alts := [], laidByText := true, laidKinds := [.data, .data, .data], laidTests := true, laidLooks := .later }
def DeclsApartCardSaid : Prop := Claim7.holds Tryz.pinned (.plain (OpenSpec.ofChange declsApartSpec)) declsApartCard

/-- THE TIED CARD OF 'winnowinglaw07.DeclsParts'. -/
def declsPartsCard : Claim7 := { stood := { row := declsPartsRow, standIns := [], harness := (true, "2190ccec444e30a5591b977c4d8493eb3a4178af23e459ae83594f3db291487d"), looks := true }, kinds := [], alts := [], laidByText := true, laidKinds := [.data, .data, .data], laidTests := true, laidLooks := .later }
def DeclsPartsCardSaid : Prop := Claim7.holds Tryz.pinned (.plain (OpenSpec.ofChange declsPartsSpec)) declsPartsCard

/-- THE TIED CARD OF 'winnowinglaw07.DeclsStrong'. -/
def declsStrongCard : Claim7 := { stood := { row := declsStrongRow, standIns := [], harness := (true, "2190ccec444e30a5591b977c4d8493eb3a4178af23e459ae83594f3db291487d"), looks := true }, kinds := [], alts := [], laidByText := true, laidKinds := [.data, .data, .data], laidTests := true, laidLooks := .later }
def DeclsStrongCardSaid : Prop := Claim7.holds Tryz.pinned (.plain (OpenSpec.ofChange declsStrongSpec)) declsStrongCard

/-- THE TIED CARD OF 'winnowinglaw05.SpellNth'. -/
def spellNthCard : Claim7 := { stood := { row := spellNthRow, standIns := [], harness := (true, "2190ccec444e30a5591b977c4d8493eb3a4178af23e459ae83594f3db291487d"), looks := true }, kinds := [], alts := [], laidByText := true, laidKinds := [.data, .data, .data, .data, .sentinel, .sentinel, .pinned], laidTests := true, laidLooks := .later }
def SpellNthCardSaid : Prop := Claim7.holds Tryz.pinned (.plain (OpenSpec.ofChange spellNthSpec)) spellNthCard

/-- THE TIED CARD OF 'winnowinglaw04.SelsTell'. -/
def selsTellCard : Claim7 := { stood := { row := selsTellRow, standIns := [], harness := (true, "2190ccec444e30a5591b977c4d8493eb3a4178af23e459ae83594f3db291487d"), looks := true }, kinds := [], alts := [], laidByText := true, laidKinds := [.data, .data, .data, .data, .sentinel, .sentinel, .pinned], laidTests := true, laidLooks := .later }
def SelsTellCardSaid : Prop := Claim7.holds Tryz.pinned (.plain (OpenSpec.ofChange selsTellSpec)) selsTellCard

/-- THE TIED CARD OF 'winnowinglaw04.SelsCommas'. -/
def selsCommasCard : Claim7 := { stood := { row := selsCommasRow, standIns := [], harness := (true, "2190ccec444e30a5591b977c4d8493eb3a4178af23e459ae83594f3db291487d"), looks := true }, kinds := [], alts := [], laidByText := true, laidKinds := [.data, .data, .data, .data, .sentinel, .sentinel, .pinned], laidTests := true, laidLooks := .later }
def SelsCommasCardSaid : Prop := Claim7.holds Tryz.pinned (.plain (OpenSpec.ofChange selsCommasSpec)) selsCommasCard

/-- THE TIED CARD OF 'winnowinglaw04.SelsNth'. -/
def selsNthCard : Claim7 := { stood := { row := selsNthRow, standIns := [], harness := (true, "2190ccec444e30a5591b977c4d8493eb3a4178af23e459ae83594f3db291487d"), looks := true }, kinds := [], alts := [], laidByText := true, laidKinds := [.data, .data, .data, .data, .sentinel, .sentinel, .pinned], laidTests := true, laidLooks := .later }
def SelsNthCardSaid : Prop := Claim7.holds Tryz.pinned (.plain (OpenSpec.ofChange selsNthSpec)) selsNthCard

/-- THE TIED CARD OF 'winnowinglaw04.SelsNot'. -/
def selsNotCard : Claim7 := { stood := { row := selsNotRow, standIns := [], harness := (true, "2190ccec444e30a5591b977c4d8493eb3a4178af23e459ae83594f3db291487d"), looks := true }, kinds := [], alts := [], laidByText := true, laidKinds := [.data, .data, .data, .data, .sentinel, .sentinel, .pinned], laidTests := true, laidLooks := .later }
def SelsNotCardSaid : Prop := Claim7.holds Tryz.pinned (.plain (OpenSpec.ofChange selsNotSpec)) selsNotCard

/-- THE TIED CARD OF 'winnowinglaw04.SelsAhead'. -/
def selsAheadCard : Claim7 := { stood := { row := selsAheadRow, standIns := [], harness := (true, "2190ccec444e30a5591b977c4d8493eb3a4178af23e459ae83594f3db291487d"), looks := true }, kinds := [], alts := [], laidByText := true, laidKinds := [.data, .data, .data, .data, .sentinel, .sentinel, .pinned], laidTests := true, laidLooks := .later }
def SelsAheadCardSaid : Prop := Claim7.holds Tryz.pinned (.plain (OpenSpec.ofChange selsAheadSpec)) selsAheadCard

/-- THE TIED CARD OF 'winnowinglaw05.SpellBack'. -/
def spellBackCard : Claim7 := { stood := { row := spellBackRow, standIns := [], harness := (true, "2190ccec444e30a5591b977c4d8493eb3a4178af23e459ae83594f3db291487d"), looks := true }, kinds := [], alts := [], laidByText := true, laidKinds := [.data, .data, .data, .data, .sentinel, .sentinel, .pinned], laidTests := true, laidLooks := .later }
def SpellBackCardSaid : Prop := Claim7.holds Tryz.pinned (.plain (OpenSpec.ofChange spellBackSpec)) spellBackCard

/-- THE SECOND FORM's CARD OF 'winnowinglaw07.DeclsTell'. -/
def declsTellUptoCard : Claim7 := { stood := { row := declsTellUptoRow, standIns := [], harness := (true, "2190ccec444e30a5591b977c4d8493eb3a4178af23e459ae83594f3db291487d"), looks := true }, kinds := [], alts := [], laidByText := true, laidKinds := [.data, .data, .data], laidTests := true, laidLooks := .later }
def DeclsTellUptoCardSaid : Prop := Claim7.holds Tryz.pinned (.plain (OpenSpec.upto declsTellSpec)) declsTellUptoCard

/-- THE SECOND FORM's CARD OF 'winnowinglaw07.DeclsBack'. -/
def declsBackUptoCard : Claim7 := { stood := { row := declsBackUptoRow, standIns := [], harness := (true, "2190ccec444e30a5591b977c4d8493eb3a4178af23e459ae83594f3db291487d"), looks := true }, kinds := [], alts := [], laidByText := true, laidKinds := [.data, .data, .data], laidTests := true, laidLooks := .later }
def DeclsBackUptoCardSaid : Prop := Claim7.holds Tryz.pinned (.plain (OpenSpec.upto declsBackSpec)) declsBackUptoCard

/-- THE SECOND FORM's CARD OF 'winnowinglaw07.DeclsApart'. -/
def declsApartUptoCard : Claim7 := { stood := { row := declsApartUptoRow, standIns := [], harness := (true, "2190ccec444e30a5591b977c4d8493eb3a4178af23e459ae83594f3db291487d"), looks := true }, kinds := [], alts := [], laidByText := true, laidKinds := [.data, .data, .data], laidTests := true, laidLooks := .later }
def DeclsApartUptoCardSaid : Prop := Claim7.holds Tryz.pinned (.plain (OpenSpec.upto declsApartSpec)) declsApartUptoCard

/-- THE SECOND FORM's CARD OF 'winnowinglaw07.DeclsParts'. -/
def declsPartsUptoCard : Claim7 := { stood := { row := declsPartsUptoRow, standIns := [], harness := (true, "2190ccec444e30a5591b977c4d8493eb3a4178af23e459ae83594f3db291487d"), looks := true }, kinds := [], alts := [], laidByText := true, laidKinds := [.data, .data, .data], laidTests := true, laidLooks := .later }
def DeclsPartsUptoCardSaid : Prop := Claim7.holds Tryz.pinned (.plain (OpenSpec.upto declsPartsSpec)) declsPartsUptoCard

/-- THE SECOND FORM's CARD OF 'winnowinglaw07.DeclsStrong'. -/
def declsStrongUptoCard : Claim7 := { stood := { row := declsStrongUptoRow, standIns := [], harness := (true, "2190ccec444e30a5591b977c4d8493eb3a4178af23e459ae83594f3db291487d"), looks := true }, kinds := [], alts := [], laidByText := true, laidKinds := [.data, .data, .data], laidTests := true, laidLooks := .later }
def DeclsStrongUptoCardSaid : Prop := Claim7.holds Tryz.pinned (.plain (OpenSpec.upto declsStrongSpec)) declsStrongUptoCard

/-- THE SECOND FORM's CARD OF 'winnowinglaw05.SpellNth'. -/
def spellNthUptoCard : Claim7 := { stood := { row := spellNthUptoRow, standIns := [], harness := (true, "2190ccec444e30a5591b977c4d8493eb3a4178af23e459ae83594f3db291487d"), looks := true }, kinds := [], alts := [], laidByText := true, laidKinds := [.data, .data, .data, .data, .sentinel, .sentinel, .pinned], laidTests := true, laidLooks := .later }
def SpellNthUptoCardSaid : Prop := Claim7.holds Tryz.pinned (.plain (OpenSpec.upto spellNthSpec)) spellNthUptoCard

/-- THE SECOND FORM's CARD OF 'winnowinglaw04.SelsTell'. -/
def selsTellUptoCard : Claim7 := { stood := { row := selsTellUptoRow, standIns := [], harness := (true, "2190ccec444e30a5591b977c4d8493eb3a4178af23e459ae83594f3db291487d"), looks := true }, kinds := [], alts := [], laidByText := true, laidKinds := [.data, .data, .data, .data, .sentinel, .sentinel, .pinned], laidTests := true, laidLooks := .later }
def SelsTellUptoCardSaid : Prop := Claim7.holds Tryz.pinned (.plain (OpenSpec.upto selsTellSpec)) selsTellUptoCard

/-- THE SECOND FORM's CARD OF 'winnowinglaw04.SelsCommas'. -/
def selsCommasUptoCard : Claim7 := { stood := { row := selsCommasUptoRow, standIns := [], harness := (true, "2190ccec444e30a5591b977c4d8493eb3a4178af23e459ae83594f3db291487d"), looks := true }, kinds := [], alts := [], laidByText := true, laidKinds := [.data, .data, .data, .data, .sentinel, .sentinel, .pinned], laidTests := true, laidLooks := .later }
def SelsCommasUptoCardSaid : Prop := Claim7.holds Tryz.pinned (.plain (OpenSpec.upto selsCommasSpec)) selsCommasUptoCard

/-- THE SECOND FORM's CARD OF 'winnowinglaw04.SelsNth'. -/
def selsNthUptoCard : Claim7 := { stood := { row := selsNthUptoRow, standIns := [], harness := (true, "2190ccec444e30a5591b977c4d8493eb3a4178af23e459ae83594f3db291487d"), looks := true }, kinds := [], alts := [], laidByText := true, laidKinds := [.data, .data, .data, .data, .sentinel, .sentinel, .pinned], laidTests := true, laidLooks := .later }
def SelsNthUptoCardSaid : Prop := Claim7.holds Tryz.pinned (.plain (OpenSpec.upto selsNthSpec)) selsNthUptoCard

/-- THE SECOND FORM's CARD OF 'winnowinglaw04.SelsNot'. -/
def selsNotUptoCard : Claim7 := { stood := { row := selsNotUptoRow, standIns := [], harness := (true, "2190ccec444e30a5591b977c4d8493eb3a4178af23e459ae83594f3db291487d"), looks := true }, kinds := [], alts := [], laidByText := true, laidKinds := [.data, .data, .data, .data, .sentinel, .sentinel, .pinned], laidTests := true, laidLooks := .later }
def SelsNotUptoCardSaid : Prop := Claim7.holds Tryz.pinned (.plain (OpenSpec.upto selsNotSpec)) selsNotUptoCard

/-- THE SECOND FORM's CARD OF 'winnowinglaw04.SelsAhead'. -/
def selsAheadUptoCard : Claim7 := { stood := { row := selsAheadUptoRow, standIns := [], harness := (true, "2190ccec444e30a5591b977c4d8493eb3a4178af23e459ae83594f3db291487d"), looks := true }, kinds := [], alts := [], laidByText := true, laidKinds := [.data, .data, .data, .data, .sentinel, .sentinel, .pinned], laidTests := true, laidLooks := .later }
def SelsAheadUptoCardSaid : Prop := Claim7.holds Tryz.pinned (.plain (OpenSpec.upto selsAheadSpec)) selsAheadUptoCard

/-- THE SECOND FORM's CARD OF 'winnowinglaw05.SpellBack'. -/
def spellBackUptoCard : Claim7 := { stood := { row := spellBackUptoRow, standIns := [], harness := (true, "2190ccec444e30a5591b977c4d8493eb3a4178af23e459ae83594f3db291487d"), looks := true }, kinds := [], alts := [], laidByText := true, laidKinds := [.data, .data, .data, .data, .sentinel, .sentinel, .pinned], laidTests := true, laidLooks := .later }
def SpellBackUptoCardSaid : Prop := Claim7.holds Tryz.pinned (.plain (OpenSpec.upto spellBackSpec)) spellBackUptoCard
end Rows
end Go.Proofs.YtjjeloinclmopaaGreatDoor
