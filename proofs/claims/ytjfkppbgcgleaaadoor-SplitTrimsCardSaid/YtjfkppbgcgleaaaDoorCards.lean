/-
  DERIVED. GIVEN WITH THE SEED: THE CARDS: each row of YtjfkppbgcgleaaaDoorRows.lean that lists a variable, with what it lists TIED to the program's text (the seventh form; the later family's looks); each row that meets fmt, with fmt's text TOLD by the authors' own Lean function (tested against real Go, not proved from fmt's source: count such statements apart). THE CARD IS WHAT COUNTS. Prove the row's statement (the work); the ties are given (YtjfkppbgcgleaaaDoorTie.lean); close each card by the builder's one call (the guide's Derived/Test/ToyasCard.lean, 'card_holds'). Laid BY PROGRAM, IN A SANDBOX (cutbox-door.mjs). By AI agents, Wed Nov 11 2026. No macro, syntax, notation, axiom, sorry.
-/
import Derived.Test.YtjfkppbgcgleaaaDoorRows
import GoSem.ClaimSeven
namespace Go.Proofs.YtjfkppbgcgleaaaDoor
namespace Rows

/-- THE TIED CARD OF 'winnowinglaw03.SplitWords'. -/
def splitWordsCard : Claim7 := { stood := { row := splitWordsRow, standIns := [], harness := (true, "99978ac2dc3ade37c640f54463517c240870a04c69004b252e68ba5ffc97aa9b"), looks := true }, kinds := [], alts := [], laidByText := true, laidKinds := [.data, .data, .data], laidTests := true, laidLooks := .later }
def SplitWordsCardSaid : Prop := Claim7.holds Tryd.pinned (.plain (OpenSpec.ofChange splitWordsSpec)) splitWordsCard

/-- THE TIED CARD OF 'winnowinglaw03.SplitTrims'. -/
def splitTrimsCard : Claim7 := { stood := { row := splitTrimsRow, standIns := [], harness := (true, "99978ac2dc3ade37c640f54463517c240870a04c69004b252e68ba5ffc97aa9b"), looks := true }, kinds := [], alts := [], laidByText := true, laidKinds := [.data, .data, .data], laidTests := true, laidLooks := .later }
def SplitTrimsCardSaid : Prop := Claim7.holds Tryd.pinned (.plain (OpenSpec.ofChange splitTrimsSpec)) splitTrimsCard

/-- THE SECOND FORM's CARD OF 'winnowinglaw03.SplitWords'. -/
def splitWordsUptoCard : Claim7 := { stood := { row := splitWordsUptoRow, standIns := [], harness := (true, "99978ac2dc3ade37c640f54463517c240870a04c69004b252e68ba5ffc97aa9b"), looks := true }, kinds := [], alts := [], laidByText := true, laidKinds := [.data, .data, .data], laidTests := true, laidLooks := .later }
def SplitWordsUptoCardSaid : Prop := Claim7.holds Tryd.pinned (.plain (OpenSpec.upto splitWordsSpec)) splitWordsUptoCard

/-- THE SECOND FORM's CARD OF 'winnowinglaw03.SplitTrims'. -/
def splitTrimsUptoCard : Claim7 := { stood := { row := splitTrimsUptoRow, standIns := [], harness := (true, "99978ac2dc3ade37c640f54463517c240870a04c69004b252e68ba5ffc97aa9b"), looks := true }, kinds := [], alts := [], laidByText := true, laidKinds := [.data, .data, .data], laidTests := true, laidLooks := .later }
def SplitTrimsUptoCardSaid : Prop := Claim7.holds Tryd.pinned (.plain (OpenSpec.upto splitTrimsSpec)) splitTrimsUptoCard
end Rows
end Go.Proofs.YtjfkppbgcgleaaaDoor
