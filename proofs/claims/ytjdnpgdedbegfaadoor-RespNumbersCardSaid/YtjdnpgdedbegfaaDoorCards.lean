/-
  DERIVED. GIVEN WITH THE SEED: THE CARDS: each row of YtjdnpgdedbegfaaDoorRows.lean that lists a variable, with what it lists TIED to the program's text (the seventh form; the later family's looks); each row that meets fmt, with fmt's text TOLD by the authors' own Lean function (tested against real Go, not proved from fmt's source: count such statements apart). THE CARD IS WHAT COUNTS. Prove the row's statement (the work); the ties are given (YtjdnpgdedbegfaaDoorTie.lean); close each card by the builder's one call (the guide's Derived/Test/ToyasCard.lean, 'card_holds'). Laid BY PROGRAM, IN A SANDBOX (cutbox-door.mjs). By AI agents, Wed Nov 11 2026. No macro, syntax, notation, axiom, sorry.
-/
import Derived.Test.YtjdnpgdedbegfaaDoorRows
import GoSem.ClaimSeven
namespace Go.Proofs.YtjdnpgdedbegfaaDoor
namespace Rows

/-- THE TIED CARD OF 'tallboylaw18.RespLines'. -/
def respLinesCard : Claim7 := { stood := { row := respLinesRow, standIns := [], harness := (true, "9b06bc8d84e4f3cfa862086785b9b2fa69d747d2d5fa2d250301d3358113bbf8"), looks := false }, kinds := [], alts := [], laidByText := true, laidKinds := [.data, .pinned], laidTests := true, laidLooks := .later }
def RespLinesCardSaid : Prop := Claim7.holds Tryd.pinned (.plain (OpenSpec.ofChange respLinesSpec)) respLinesCard

/-- THE TIED CARD OF 'tallboylaw18.RespRows'. -/
def respRowsCard : Claim7 := { stood := { row := respRowsRow, standIns := [], harness := (true, "9b06bc8d84e4f3cfa862086785b9b2fa69d747d2d5fa2d250301d3358113bbf8"), looks := false }, kinds := [], alts := [], laidByText := true, laidKinds := [.data, .pinned], laidTests := true, laidLooks := .later }
def RespRowsCardSaid : Prop := Claim7.holds Tryd.pinned (.plain (OpenSpec.ofChange respRowsSpec)) respRowsCard

/-- THE TIED CARD OF 'tallboylaw18.RespFlat'. -/
def respFlatCard : Claim7 := { stood := { row := respFlatRow, standIns := [], harness := (true, "9b06bc8d84e4f3cfa862086785b9b2fa69d747d2d5fa2d250301d3358113bbf8"), looks := false }, kinds := [], alts := [], laidByText := true, laidKinds := [.data, .pinned], laidTests := true, laidLooks := .later }
def RespFlatCardSaid : Prop := Claim7.holds Tryd.pinned (.plain (OpenSpec.ofChange respFlatSpec)) respFlatCard

/-- THE TIED CARD OF 'tallboylaw18.RespNumbers'. -/
def respNumbersCard : Claim7 := { stood := { row := respNumbersRow, standIns := [], harness := (true, "9b06bc8d84e4f3cfa862086785b9b2fa69d747d2d5fa2d250301d3358113bbf8"), looks := false }, kinds := [], alts := [], laidByText := true, laidKinds := [.data, .pinned], laidTests := true, laidLooks := .later }
def RespNumbersCardSaid : Prop := Claim7.holds Tryd.pinned (.plain (OpenSpec.ofChange respNumbersSpec)) respNumbersCard

/-- THE TIED CARD OF 'tallboylaw18.RespBack'. -/
def respBackCard : Claim7 := { stood := { row := respBackRow, standIns := [], harness := (true, "9b06bc8d84e4f3cfa862086785b9b2fa69d747d2d5fa2d250301d3358113bbf8"), looks := false }, kinds := [], alts := [], laidByText := true, laidKinds := [.data, .pinned], laidTests := true, laidLooks := .later }
def RespBackCardSaid : Prop := Claim7.holds Tryd.pinned (.plain (OpenSpec.ofChange respBackSpec)) respBackCard

/-- THE SECOND FORM's CARD OF 'tallboylaw18.RespLines'. -/
def respLinesUptoCard : Claim7 := { stood := { row := respLinesUptoRow, standIns := [], harness := (true, "9b06bc8d84e4f3cfa862086785b9b2fa69d747d2d5fa2d250301d3358113bbf8"), looks := false }, kinds := [], alts := [], laidByText := true, laidKinds := [.data, .pinned], laidTests := true, laidLooks := .later }
def RespLinesUptoCardSaid : Prop := Claim7.holds Tryd.pinned (.plain (OpenSpec.upto respLinesSpec)) respLinesUptoCard

/-- THE SECOND FORM's CARD OF 'tallboylaw18.RespRows'. -/
def respRowsUptoCard : Claim7 := { stood := { row := respRowsUptoRow, standIns := [], harness := (true, "9b06bc8d84e4f3cfa862086785b9b2fa69d747d2d5fa2d250301d3358113bbf8"), looks := false }, kinds := [], alts := [], laidByText := true, laidKinds := [.data, .pinned], laidTests := true, laidLooks := .later }
def RespRowsUptoCardSaid : Prop := Claim7.holds Tryd.pinned (.plain (OpenSpec.upto respRowsSpec)) respRowsUptoCard

/-- THE SECOND FORM's CARD OF 'tallboylaw18.RespFlat'. -/
def respFlatUptoCard : Claim7 := { stood := { row := respFlatUptoRow, standIns := [], harness := (true, "9b06bc8d84e4f3cfa862086785b9b2fa69d747d2d5fa2d250301d3358113bbf8"), looks := false }, kinds := [], alts := [], laidByText := true, laidKinds := [.data, .pinned], laidTests := true, laidLooks := .later }
def RespFlatUptoCardSaid : Prop := Claim7.holds Tryd.pinned (.plain (OpenSpec.upto respFlatSpec)) respFlatUptoCard

/-- THE SECOND FORM's CARD OF 'tallboylaw18.RespNumbers'. -/
def respNumbersUptoCard : Claim7 := { stood := { row := respNumbersUptoRow, standIns := [], harness := (true, "9b06bc8d84e4f3cfa862086785b9b2fa69d747d2d5fa2d250301d3358113bbf8"), looks := false }, kinds := [], alts := [], laidByText := true, laidKinds := [.data, .pinned], laidTests := true, laidLooks := .later }
def RespNumbersUptoCardSaid : Prop := Claim7.holds Tryd.pinned (.plain (OpenSpec.upto respNumbersSpec)) respNumbersUptoCard

/-- THE SECOND FORM's CARD OF 'tallboylaw18.RespBack'. -/
def respBackUptoCard : Claim7 := { stood := { row := respBackUptoRow, standIns := [], harness := (true, "9b06bc8d84e4f3cfa862086785b9b2fa69d747d2d5fa2d250301d3358113bbf8"), looks := false }, kinds := [], alts := [], laidByText := true, laidKinds := [.data, .pinned], laidTests := true, laidLooks := .later }
def RespBackUptoCardSaid : Prop := Claim7.holds Tryd.pinned (.plain (OpenSpec.upto respBackSpec)) respBackUptoCard
end Rows
end Go.Proofs.YtjdnpgdedbegfaaDoor
