/-
  DERIVED. GIVEN WITH THE SEED: THE CARDS: each row of YtnmchplabaoflaaGreatDoorRows.lean that lists a variable, with what it lists TIED to the program's text (the seventh form; the later family's looks); each row that meets fmt, with fmt's text TOLD by the authors' own Lean function (tested against real Go, not proved from fmt's source: count such statements apart). THE CARD IS WHAT COUNTS. Prove the row's statement (the work); the ties are given (YtnmchplabaoflaaGreatDoorTie.lean); close each card by the builder's one call (the guide's Derived/Test/ToyasCard.lean, 'card_holds'). Laid BY PROGRAM, IN A SANDBOX (cutbox-door.mjs). By AI agents, Wed Nov 11 2026. No macro, syntax, notation, axiom, sorry.
-/
import Derived.Test.YtnmchplabaoflaaGreatDoorRows
import GoSem.ClaimSeven
namespace Go.Proofs.YtnmchplabaoflaaGreatDoor
namespace Rows

/-- THE TIED CARD OF 'tallboylaw17.ReplyNumbers'. -/
def replyNumbersCard : Claim7 := { stood := { row := replyNumbersRow, standIns := [], harness := (true, "e218891d90662cd7b90d3536c993cae4a43c546d1cdea76820db4f4bfeb1c3cb"), looks := true }, kinds := [], alts := [], laidByText := true, laidKinds := [.data, .handle, .pinned], laidTests := true, laidLooks := .later }
def ReplyNumbersCardSaid : Prop := Claim7.holds Tryz.pinned (.plain (OpenSpec.ofChange replyNumbersSpec)) replyNumbersCard

/-- THE SECOND FORM's CARD OF 'tallboylaw17.ReplyNumbers'. -/
def replyNumbersUptoCard : Claim7 := { stood := { row := replyNumbersUptoRow, standIns := [], harness := (true, "e218891d90662cd7b90d3536c993cae4a43c546d1cdea76820db4f4bfeb1c3cb"), looks := true }, kinds := [], alts := [], laidByText := true, laidKinds := [.data, .handle, .pinned], laidTests := true, laidLooks := .later }
def ReplyNumbersUptoCardSaid : Prop := Claim7.holds Tryz.pinned (.plain (OpenSpec.upto replyNumbersSpec)) replyNumbersUptoCard
end Rows
end Go.Proofs.YtnmchplabaoflaaGreatDoor
