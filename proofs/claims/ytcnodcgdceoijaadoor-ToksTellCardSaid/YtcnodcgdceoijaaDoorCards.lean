/-
  DERIVED. GIVEN WITH THE SEED: THE CARDS: each row of YtcnodcgdceoijaaDoorRows.lean that lists a variable, with what it lists TIED to the program's text (the seventh form; the later family's looks); each row that meets fmt, with fmt's text TOLD by the authors' own Lean function (tested against real Go, not proved from fmt's source: count such statements apart). THE CARD IS WHAT COUNTS. Prove the row's statement (the work); the ties are given (YtcnodcgdceoijaaDoorTie.lean); close each card by the builder's one call (the guide's Derived/Test/ToyasCard.lean, 'card_holds'). Laid BY PROGRAM, IN A SANDBOX (cutbox-door.mjs). By AI agents, Wed Nov 11 2026. No macro, syntax, notation, axiom, sorry.
-/
import Derived.Test.YtcnodcgdceoijaaDoorRows
import GoSem.ClaimSeven
namespace Go.Proofs.YtcnodcgdceoijaaDoor
namespace Rows

/-- THE TIED CARD OF 'winnowinglaw05.SpellTells'. -/
def spellTellsCard : Claim7 := { stood := { row := spellTellsRow, standIns := [], harness := (true, "896fecfc66ad30108c285c6c01909bf0df3c9405caff450b3bf309bf29d0d1a1"), looks := true }, kinds := [], alts := [], laidByText := true, laidKinds := [.data, .data, .data], laidTests := true, laidLooks := .later }
def SpellTellsCardSaid : Prop := Claim7.holds Tryd.pinned (.plain (OpenSpec.ofChange spellTellsSpec)) spellTellsCard

/-- THE TIED CARD OF 'winnowinglaw05.SpellRead'. -/
def spellReadCard : Claim7 := { stood := { row := spellReadRow, standIns := [], harness := (true, "896fecfc66ad30108c285c6c01909bf0df3c9405caff450b3bf309bf29d0d1a1"), looks := true }, kinds := [], alts := [], laidByText := true, laidKinds := [.data, .data, .data], laidTests := true, laidLooks := .later }
def SpellReadCardSaid : Prop := Claim7.holds Tryd.pinned (.plain (OpenSpec.ofChange spellReadSpec)) spellReadCard

/-- THE TIED CARD OF 'winnowinglaw05.SpellParts'. -/
def spellPartsCard : Claim7 := { stood := { row := spellPartsRow, standIns := [], harness := (true, "896fecfc66ad30108c285c6c01909bf0df3c9405caff450b3bf309bf29d0d1a1"), looks := true }, kinds := [], alts := [], laidByText := true, laidKinds := [.data, .data, .data], laidTests := true, laidLooks := .later }
def SpellPartsCardSaid : Prop := Claim7.holds Tryd.pinned (.plain (OpenSpec.ofChange spellPartsSpec)) spellPartsCard

/-- THE TIED CARD OF 'winnowinglaw01.ToksTell'. -/
def toksTellCard : Claim7 := { stood := { row := toksTellRow, standIns := [], harness := (true, "896fecfc66ad30108c285c6c01909bf0df3c9405caff450b3bf309bf29d0d1a1"), looks := true }, kinds := [], alts := [], laidByText := true, laidKinds := [.data, .data, .data], laidTests := true, laidLooks := .later }
def ToksTellCardSaid : Prop := Claim7.holds Tryd.pinned (.plain (OpenSpec.ofChange toksTellSpec)) toksTellCard

/-- THE TIED CARD OF 'winnowinglaw01.ToksBack'. -/
def toksBackCard : Claim7 := { stood := { row := toksBackRow, standIns := [], harness := (true, "896fecfc66ad30108c285c6c01909bf0df3c9405caff450b3bf309bf29d0d1a1"), looks := true }, kinds := [], alts := [], laidByText := true, laidKinds := [.data, .data, .data], laidTests := true, laidLooks := .later }
def ToksBackCardSaid : Prop := Claim7.holds Tryd.pinned (.plain (OpenSpec.ofChange toksBackSpec)) toksBackCard

/-- THE TIED CARD OF 'winnowinglaw01.ToksBlanks'. -/
def toksBlanksCard : Claim7 := { stood := { row := toksBlanksRow, standIns := [], harness := (true, "896fecfc66ad30108c285c6c01909bf0df3c9405caff450b3bf309bf29d0d1a1"), looks := true }, kinds := [], alts := [], laidByText := true, laidKinds := [.data, .data, .data], laidTests := true, laidLooks := .later }
def ToksBlanksCardSaid : Prop := Claim7.holds Tryd.pinned (.plain (OpenSpec.ofChange toksBlanksSpec)) toksBlanksCard

/-- THE TIED CARD OF 'winnowinglaw01.ToksBoth'. -/
def toksBothCard : Claim7 := { stood := { row := toksBothRow, standIns := [], harness := (true, "896fecfc66ad30108c285c6c01909bf0df3c9405caff450b3bf309bf29d0d1a1"), looks := true }, kinds := [], alts := [], laidByText := true, laidKinds := [.data, .data, .data], laidTests := true, laidLooks := .later }
def ToksBothCardSaid : Prop := Claim7.holds Tryd.pinned (.plain (OpenSpec.ofChange toksBothSpec)) toksBothCard

/-- THE TIED CARD OF 'winnowinglaw01.ToksParts'. -/
def toksPartsCard : Claim7 := { stood := { row := toksPartsRow, standIns := [], harness := (true, "896fecfc66ad30108c285c6c01909bf0df3c9405caff450b3bf309bf29d0d1a1"), looks := true }, kinds := [], alts := [], laidByText := true, laidKinds := [.data, .data, .data], laidTests := true, laidLooks := .later }
def ToksPartsCardSaid : Prop := Claim7.holds Tryd.pinned (.plain (OpenSpec.ofChange toksPartsSpec)) toksPartsCard

/-- THE TIED CARD OF 'winnowinglaw01.ToksTwo'. -/
def toksTwoCard : Claim7 := { stood := { row := toksTwoRow, standIns := [], harness := (true, "896fecfc66ad30108c285c6c01909bf0df3c9405caff450b3bf309bf29d0d1a1"), looks := true }, kinds := [], alts := [], laidByText := true, laidKinds := [.data, .data, .data], laidTests := true, laidLooks := .later }
def ToksTwoCardSaid : Prop := Claim7.holds Tryd.pinned (.plain (OpenSpec.ofChange toksTwoSpec)) toksTwoCard

/-- THE SECOND FORM's CARD OF 'winnowinglaw05.SpellTells'. -/
def spellTellsUptoCard : Claim7 := { stood := { row := spellTellsUptoRow, standIns := [], harness := (true, "896fecfc66ad30108c285c6c01909bf0df3c9405caff450b3bf309bf29d0d1a1"), looks := true }, kinds := [], alts := [], laidByText := true, laidKinds := [.data, .data, .data], laidTests := true, laidLooks := .later }
def SpellTellsUptoCardSaid : Prop := Claim7.holds Tryd.pinned (.plain (OpenSpec.upto spellTellsSpec)) spellTellsUptoCard

/-- THE SECOND FORM's CARD OF 'winnowinglaw05.SpellRead'. -/
def spellReadUptoCard : Claim7 := { stood := { row := spellReadUptoRow, standIns := [], harness := (true, "896fecfc66ad30108c285c6c01909bf0df3c9405caff450b3bf309bf29d0d1a1"), looks := true }, kinds := [], alts := [], laidByText := true, laidKinds := [.data, .data, .data], laidTests := true, laidLooks := .later }
def SpellReadUptoCardSaid : Prop := Claim7.holds Tryd.pinned (.plain (OpenSpec.upto spellReadSpec)) spellReadUptoCard

/-- THE SECOND FORM's CARD OF 'winnowinglaw05.SpellParts'. -/
def spellPartsUptoCard : Claim7 := { stood := { row := spellPartsUptoRow, standIns := [], harness := (true, "896fecfc66ad30108c285c6c01909bf0df3c9405caff450b3bf309bf29d0d1a1"), looks := true }, kinds := [], alts := [], laidByText := true, laidKinds := [.data, .data, .data], laidTests := true, laidLooks := .later }
def SpellPartsUptoCardSaid : Prop := Claim7.holds Tryd.pinned (.plain (OpenSpec.upto spellPartsSpec)) spellPartsUptoCard

/-- THE SECOND FORM's CARD OF 'winnowinglaw01.ToksTell'. -/
def toksTellUptoCard : Claim7 := { stood := { row := toksTellUptoRow, standIns := [], harness := (true, "896fecfc66ad30108c285c6c01909bf0df3c9405caff450b3bf309bf29d0d1a1"), looks := true }, kinds := [], alts := [], laidByText := true, laidKinds := [.data, .data, .data], laidTests := true, laidLooks := .later }
def ToksTellUptoCardSaid : Prop := Claim7.holds Tryd.pinned (.plain (OpenSpec.upto toksTellSpec)) toksTellUptoCard

/-- THE SECOND FORM's CARD OF 'winnowinglaw01.ToksBack'. -/
def toksBackUptoCard : Claim7 := { stood := { row := toksBackUptoRow, standIns := [], harness := (true, "896fecfc66ad30108c285c6c01909bf0df3c9405caff450b3bf309bf29d0d1a1"), looks := true }, kinds := [], alts := [], laidByText := true, laidKinds := [.data, .data, .data], laidTests := true, laidLooks := .later }
def ToksBackUptoCardSaid : Prop := Claim7.holds Tryd.pinned (.plain (OpenSpec.upto toksBackSpec)) toksBackUptoCard

/-- THE SECOND FORM's CARD OF 'winnowinglaw01.ToksBlanks'. -/
def toksBlanksUptoCard : Claim7 := { stood := { row := toksBlanksUptoRow, standIns := [], harness := (true, "896fecfc66ad30108c285c6c01909bf0df3c9405caff450b3bf309bf29d0d1a1"), looks := true }, kinds := [], alts := [], laidByText := true, laidKinds := [.data, .data, .data], laidTests := true, laidLooks := .later }
def ToksBlanksUptoCardSaid : Prop := Claim7.holds Tryd.pinned (.plain (OpenSpec.upto toksBlanksSpec)) toksBlanksUptoCard

/-- THE SECOND FORM's CARD OF 'winnowinglaw01.ToksBoth'. -/
def toksBothUptoCard : Claim7 := { stood := { row := toksBothUptoRow, standIns := [], harness := (true, "896fecfc66ad30108c285c6c01909bf0df3c9405caff450b3bf309bf29d0d1a1"), looks := true }, kinds := [], alts := [], laidByText := true, laidKinds := [.data, .data, .data], laidTests := true, laidLooks := .later }
def ToksBothUptoCardSaid : Prop := Claim7.holds Tryd.pinned (.plain (OpenSpec.upto toksBothSpec)) toksBothUptoCard

/-- THE SECOND FORM's CARD OF 'winnowinglaw01.ToksParts'. -/
def toksPartsUptoCard : Claim7 := { stood := { row := toksPartsUptoRow, standIns := [], harness := (true, "896fecfc66ad30108c285c6c01909bf0df3c9405caff450b3bf309bf29d0d1a1"), looks := true }, kinds := [], alts := [], laidByText := true, laidKinds := [.data, .data, .data], laidTests := true, laidLooks := .later }
def ToksPartsUptoCardSaid : Prop := Claim7.holds Tryd.pinned (.plain (OpenSpec.upto toksPartsSpec)) toksPartsUptoCard

/-- THE SECOND FORM's CARD OF 'winnowinglaw01.ToksTwo'. -/
def toksTwoUptoCard : Claim7 := { stood := { row := toksTwoUptoRow, standIns := [], harness := (true, "896fecfc66ad30108c285c6c01909bf0df3c9405caff450b3bf309bf29d0d1a1"), looks := true }, kinds := [], alts := [], laidByText := true, laidKinds := [.data, .data, .data], laidTests := true, laidLooks := .later }
def ToksTwoUptoCardSaid : Prop := Claim7.holds Tryd.pinned (.plain (OpenSpec.upto toksTwoSpec)) toksTwoUptoCard
end Rows
end Go.Proofs.YtcnodcgdceoijaaDoor
