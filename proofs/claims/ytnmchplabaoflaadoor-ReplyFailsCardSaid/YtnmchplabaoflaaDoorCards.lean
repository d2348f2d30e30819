/-
  DERIVED. GIVEN WITH THE SEED: THE CARDS: each row of YtnmchplabaoflaaDoorRows.lean that lists a variable, with what it lists TIED to the program's text (the seventh form; the later family's looks); each row that meets fmt, with fmt's text TOLD by the authors' own Lean function (tested against real Go, not proved from fmt's source: count such statements apart). THE CARD IS WHAT COUNTS. Prove the row's statement (the work); the ties are given (YtnmchplabaoflaaDoorTie.lean); close each card by the builder's one call (the guide's Derived/Test/ToyasCard.lean, 'card_holds'). Laid BY PROGRAM, IN A SANDBOX (cutbox-door.mjs). By AI agents, Wed Nov 11 2026. No macro, syntax, notation, axiom, sorry.
-/
import Derived.Test.YtnmchplabaoflaaDoorRows
import GoSem.ClaimSeven
namespace Go.Proofs.YtnmchplabaoflaaDoor
namespace Rows

/-- THE TIED CARD OF 'tallboylaw1.FaultTexts'. -/
def faultTextsCard : Claim7 := { stood := { row := faultTextsRow, standIns := [], harness := (true, "9d25822d1ddff23df1cf6942db15c38af86cd4ec5514575a42afa9f83a09d751"), looks := true }, kinds := [], alts := [], laidByText := true, laidKinds := [.data, .handle, .pinned], laidTests := true, laidLooks := .later }
def FaultTextsCardSaid : Prop := Claim7.holds Tryd.pinned (.plain (OpenSpec.ofChange faultTextsSpec)) faultTextsCard

/-- THE TIED CARD OF 'tallboylaw1.FaultDepths'. -/
def faultDepthsCard : Claim7 := { stood := { row := faultDepthsRow, standIns := [], harness := (true, "9d25822d1ddff23df1cf6942db15c38af86cd4ec5514575a42afa9f83a09d751"), looks := true }, kinds := [], alts := [], laidByText := true, laidKinds := [.data, .handle, .pinned], laidTests := true, laidLooks := .later }
def FaultDepthsCardSaid : Prop := Claim7.holds Tryd.pinned (.plain (OpenSpec.ofChange faultDepthsSpec)) faultDepthsCard

/-- THE TIED CARD OF 'tallboylaw1.FaultNumbers'. -/
def faultNumbersCard : Claim7 := { stood := { row := faultNumbersRow, standIns := [], harness := (true, "9d25822d1ddff23df1cf6942db15c38af86cd4ec5514575a42afa9f83a09d751"), looks := true }, kinds := [], alts := [], laidByText := true, laidKinds := [.data, .handle, .pinned], laidTests := true, laidLooks := .later }
def FaultNumbersCardSaid : Prop := Claim7.holds Tryd.pinned (.plain (OpenSpec.ofChange faultNumbersSpec)) faultNumbersCard

/-- THE TIED CARD OF 'tallboylaw1.FaultIs'. -/
def faultIsCard : Claim7 := { stood := { row := faultIsRow, standIns := [], harness := (true, "9d25822d1ddff23df1cf6942db15c38af86cd4ec5514575a42afa9f83a09d751"), looks := true }, kinds := [], alts := [], laidByText := true, laidKinds := [.data, .handle, .pinned], laidTests := true, laidLooks := .later }
def FaultIsCardSaid : Prop := Claim7.holds Tryd.pinned (.plain (OpenSpec.ofChange faultIsSpec)) faultIsCard

/-- THE TIED CARD OF 'tallboylaw1.FaultUnwraps'. -/
def faultUnwrapsCard : Claim7 := { stood := { row := faultUnwrapsRow, standIns := [], harness := (true, "9d25822d1ddff23df1cf6942db15c38af86cd4ec5514575a42afa9f83a09d751"), looks := true }, kinds := [], alts := [], laidByText := true, laidKinds := [.data, .handle, .pinned], laidTests := true, laidLooks := .later }
def FaultUnwrapsCardSaid : Prop := Claim7.holds Tryd.pinned (.plain (OpenSpec.ofChange faultUnwrapsSpec)) faultUnwrapsCard

/-- THE TIED CARD OF 'tallboylaw1.FaultTells'. -/
def faultTellsCard : Claim7 := { stood := { row := faultTellsRow, standIns := [], harness := (true, "9d25822d1ddff23df1cf6942db15c38af86cd4ec5514575a42afa9f83a09d751"), looks := true }, kinds := [], alts := [], laidByText := true, laidKinds := [.data, .handle, .pinned], laidTests := true, laidLooks := .later }
def FaultTellsCardSaid : Prop := Claim7.holds Tryd.pinned (.plain (OpenSpec.ofChange faultTellsSpec)) faultTellsCard

/-- THE TIED CARD OF 'tallboylaw17.ReplyFails'. -/
def replyFailsCard : Claim7 := { stood := { row := replyFailsRow, standIns := [], harness := (true, "9d25822d1ddff23df1cf6942db15c38af86cd4ec5514575a42afa9f83a09d751"), looks := true }, kinds := [], alts := [], laidByText := true, laidKinds := [.data, .handle, .pinned], laidTests := true, laidLooks := .later }
def ReplyFailsCardSaid : Prop := Claim7.holds Tryd.pinned (.plain (OpenSpec.ofChange replyFailsSpec)) replyFailsCard

/-- THE SECOND FORM's CARD OF 'tallboylaw1.FaultTexts'. -/
def faultTextsUptoCard : Claim7 := { stood := { row := faultTextsUptoRow, standIns := [], harness := (true, "9d25822d1ddff23df1cf6942db15c38af86cd4ec5514575a42afa9f83a09d751"), looks := true }, kinds := [], alts := [], laidByText := true, laidKinds := [.data, .handle, .pinned], laidTests := true, laidLooks := .later }
def FaultTextsUptoCardSaid : Prop := Claim7.holds Tryd.pinned (.plain (OpenSpec.upto faultTextsSpec)) faultTextsUptoCard

/-- THE SECOND FORM's CARD OF 'tallboylaw1.FaultDepths'. -/
def faultDepthsUptoCard : Claim7 := { stood := { row := faultDepthsUptoRow, standIns := [], harness := (true, "9d25822d1ddff23df1cf6942db15c38af86cd4ec5514575a42afa9f83a09d751"), looks := true }, kinds := [], alts := [], laidByText := true, laidKinds := [.data, .handle, .pinned], laidTests := true, laidLooks := .later }
def FaultDepthsUptoCardSaid : Prop := Claim7.holds Tryd.pinned (.plain (OpenSpec.upto faultDepthsSpec)) faultDepthsUptoCard

/-- THE SECOND FORM's CARD OF 'tallboylaw1.FaultNumbers'. -/
def faultNumbersUptoCard : Claim7 := { stood := { row := faultNumbersUptoRow, standIns := [], harness := (true, "9d25822d1ddff23df1cf6942db15c38af86cd4ec5514575a42afa9f83a09d751"), looks := true }, kinds := [], alts := [], laidByText := true, laidKinds := [.data, .handle, .pinned], laidTests := true, laidLooks := .later }
def FaultNumbersUptoCardSaid : Prop := Claim7.holds Tryd.pinned (.plain (OpenSpec.upto faultNumbersSpec)) faultNumbersUptoCard

/-- THE SECOND FORM's CARD OF 'tallboylaw1.FaultIs'. -/
def faultIsUptoCard : Claim7 := { stood := { row := faultIsUptoRow, standIns := [], harness := (true, "9d25822d1ddff23df1cf6942db15c38af86cd4ec5514575a42afa9f83a09d751"), looks := true }, kinds := [], alts := [], laidByText := true, laidKinds := [.data, .handle, .pinned], laidTests := true, laidLooks := .later }
def FaultIsUptoCardSaid : Prop := Claim7.holds Tryd.pinned (.plain (OpenSpec.upto faultIsSpec)) faultIsUptoCard

/-- THE SECOND FORM's CARD OF 'tallboylaw1.FaultUnwraps'. -/
def faultUnwrapsUptoCard : Claim7 := { stood := { row := faultUnwrapsUptoRow, standIns := [], harness := (true, "9d25822d1ddff23df1cf6942db15c38af86cd4ec5514575a42afa9f83a09d751"), looks := true }, kinds := [], alts := [], laidByText := true, laidKinds := [.data, .handle, .pinned], laidTests := true, laidLooks := .later }
def FaultUnwrapsUptoCardSaid : Prop := Claim7.holds Tryd.pinned (.plain (OpenSpec.upto faultUnwrapsSpec)) faultUnwrapsUptoCard

/-- THE SECOND FORM's CARD OF 'tallboylaw1.FaultTells'. -/
def faultTellsUptoCard : Claim7 := { stood := { row := faultTellsUptoRow, standIns := [], harness := (true, "9d25822d1ddff23df1cf6942db15c38af86cd4ec5514575a42afa9f83a09d751"), looks := true }, kinds := [], alts := [], laidByText := true, laidKinds := [.data, .handle, .pinned], laidTests := true, laidLooks := .later }
def FaultTellsUptoCardSaid : Prop := Claim7.holds Tryd.pinned (.plain (OpenSpec.upto faultTellsSpec)) faultTellsUptoCard

/-- THE SECOND FORM's CARD OF 'tallboylaw17.ReplyFails'. -/
def replyFailsUptoCard : Claim7 := { stood := { row := replyFailsUptoRow, standIns := [], harness := (true, "9d25822d1ddff23df1cf6942db15c38af86cd4ec5514575a42afa9f83a09d751"), looks := true }, kinds := [], alts := [], laidByText := true, laidKinds := [.data, .handle, .pinned], laidTests := true, laidLooks := .later }
def ReplyFailsUptoCardSaid : Prop := Claim7.holds Tryd.pinned (.plain (OpenSpec.upto replyFailsSpec)) replyFailsUptoCard
end Rows
end Go.Proofs.YtnmchplabaoflaaDoor
